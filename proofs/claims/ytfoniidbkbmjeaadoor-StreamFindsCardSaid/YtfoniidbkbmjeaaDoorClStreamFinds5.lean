-- Packed by pack.py, a program of this session, out of texts of this claim.
import Derived.Test.YtfoniidbkbmjeaaDoorClStreamFinds1
import Derived.Test.YtfoniidbkbmjeaaDoorClStreamFinds2
import Derived.Test.YtfoniidbkbmjeaaDoorClStreamFinds4
section
-- Written by printx.py, a program of this session over the kit's print: each Go function as a plain Lean function, and that the Go code computes it.





namespace Go.Proofs.YtfoniidbkbmjeaaDoor.Fn
open Go.RowKit Go.Proofs.YtfoniidbkbmjeaaDoorW.PrintWords Go.Proofs.YtfoniidbkbmjeaaDoorW.PrintLast Go.Proofs.YtfoniidbkbmjeaaDoorW.PrintMore Go.Proofs.YtfoniidbkbmjeaaDoor.Lf
attribute [local go_sem] max2_int min2_int max_two min_two max_three min_three max_four min_four   -- for this text's walks alone
set_option linter.unusedVariables false
set_option linter.unusedSimpArgs false

attribute [local go_sem high] eqA24
/-! ### rootcellarlaw17_StreamFinds: function 8 -/
mutual
def rootcellarlaw17_StreamFinds.j0 : Nat → Int → Int → Bool → Bool → ByteArray → Int → ByteArray → Option (Bool)
 | 0, _, _, _, _, _, _, _ => none
 | k + 1, x1, x2, x7, x30, x309000, x309001, x309002 => if x30 = true then (some x7) else ((stream_Put.f x309000 x309001 x309002).bind fun bt310 => (if bt310.2 = 0 then (if x2 = 0 then (rootcellarlaw17_StreamFinds.j1 k x1 x2 bt310.1 true) else (if x1 < 0 then (rootcellarlaw17_StreamFinds.j1 k x1 x2 bt310.1 true) else (rootcellarlaw17_StreamFinds.j1 k x1 x2 bt310.1 (decide (x1 > (wrap64 ((wrap64 (8 * (bt310.1.size : Int))) - 32))))))) else (rootcellarlaw17_StreamFinds.j1 k x1 x2 bt310.1 true)))
def rootcellarlaw17_StreamFinds.j1 : Nat → Int → Int → ByteArray → Bool → Option (Bool)
 | 0, _, _, _, _ => none
 | k + 1, x1, x2, x8, x54 => if x54 = true then (some true) else (if x8.size ≤ 9223372036854775807 then (rootcellarlaw17_StreamFinds.l0 k x1 x2 x8 (bytesOf x8) 0) else (none))
def rootcellarlaw17_StreamFinds.l0 : Nat → Int → Int → ByteArray → List Int → Int → Option (Bool)
 | 0, _, _, _, _, _ => none
 | k + 1, x1, x2, x8, x10, x11 => if x11 < 32 then (if 0 ≤ x11 then (if (Go.bits .and .u32 (shr .u32 x2 x11) 1) = 1 then (if 0 ≤ (wrap64 (Int.tdiv (wrap64 (x1 + x11)) 8)) then (if (wrap64 (Int.tdiv (wrap64 (x1 + x11)) 8)) < (x10.length : Int) then (if 0 ≤ (Int.tmod (wrap64 (x1 + x11)) 8) then (rootcellarlaw17_StreamFinds.l0 k x1 x2 x8 (x10.set ((wrap64 (Int.tdiv (wrap64 (x1 + x11)) 8)) : Int).toNat (Go.bits .xor .u8 (rd x10 (wrap64 (Int.tdiv (wrap64 (x1 + x11)) 8))) (shl .u8 1 (Int.tmod (wrap64 (x1 + x11)) 8)))) (wrap64 (x11 + 1))) else (none)) else (none)) else (none)) else (rootcellarlaw17_StreamFinds.l0 k x1 x2 x8 x10 (wrap64 (x11 + 1)))) else (none)) else ((stream_Take.f k (strOfNums x10)).bind fun bt317 => (if 0 ≤ (mn 3 (x8.size : Int)) then (if (mn 3 (x8.size : Int)) ≤ (x8.size : Int) then ((stream_Take.f k (x8.extract 0 ((mn 3 (x8.size : Int)) : Int).toNat)).bind fun bt322 => (if (bt317.1.toList == ([] : List UInt8) && (bt317.2.1 == 0 && (bt317.2.2.1.toList == ([] : List UInt8)))) = true then (if bt317.2.2.2 = 9 then (some (bt322.2.2.2 == 10)) else (some false)) else (some false))) else (none)) else (none)))
end
def rootcellarlaw17_StreamFinds.f (k : Nat) (a0_0 : ByteArray) (a0_1 : Int) (a0_2 : ByteArray) (a1 : Int) (a2 : Int) : Option (Bool) := (rootcellarlaw17_shown.f).bind fun t309 => (if t309 = true then (if (a0_0.size : Int) > 200 then (rootcellarlaw17_StreamFinds.j0 k a1 a2 t309 true a0_0 a0_1 a0_2) else (rootcellarlaw17_StreamFinds.j0 k a1 a2 t309 (decide ((a0_2.size : Int) > 1100)) a0_0 a0_1 a0_2)) else (rootcellarlaw17_StreamFinds.j0 k a1 a2 t309 true a0_0 a0_1 a0_2))
theorem rootcellarlaw17_StreamFinds.mono_l : ∀ k, (∀ y0 y1 y2 y3 y4 y5 y6, LeO (rootcellarlaw17_StreamFinds.j0 k y0 y1 y2 y3 y4 y5 y6) (rootcellarlaw17_StreamFinds.j0 (k + 1) y0 y1 y2 y3 y4 y5 y6)) ∧ (∀ y0 y1 y2 y3, LeO (rootcellarlaw17_StreamFinds.j1 k y0 y1 y2 y3) (rootcellarlaw17_StreamFinds.j1 (k + 1) y0 y1 y2 y3)) ∧ (∀ y0 y1 y2 y3 y4, LeO (rootcellarlaw17_StreamFinds.l0 k y0 y1 y2 y3 y4) (rootcellarlaw17_StreamFinds.l0 (k + 1) y0 y1 y2 y3 y4))
 | 0 => ⟨fun _ _ _ _ _ _ _ r h => by simp [rootcellarlaw17_StreamFinds.j0] at h, fun _ _ _ _ r h => by simp [rootcellarlaw17_StreamFinds.j1] at h, fun _ _ _ _ _ r h => by simp [rootcellarlaw17_StreamFinds.l0] at h⟩
 | k + 1 => by
  obtain ⟨ih0, ih1, ih2⟩ := rootcellarlaw17_StreamFinds.mono_l k
  refine ⟨?_, ?_, ?_⟩
  ·intro y0 y1 y2 y3 y4 y5 y6
   unfold rootcellarlaw17_StreamFinds.j0
   repeat' first
   | (with_reducible exact ih0 _ _ _ _ _ _ _)
   | (with_reducible exact ih1 _ _ _ _)
   | (with_reducible exact ih2 _ _ _ _ _)
   | (with_reducible exact stream_Take.mono _ _)
   | (with_reducible exact LeO.refl _)
   | (with_reducible exact LeO.none _)
   | (with_reducible refine LeO.ite ?_ ?_)
   | (with_reducible refine LeO.bind ?_ (fun _ => ?_))
   | exact ih0 _ _ _ _ _ _ _
   | exact ih1 _ _ _ _
   | exact ih2 _ _ _ _ _
   | exact stream_Take.mono _ _
   | exact LeO.none _
   | refine LeO.ite ?_ ?_
   | refine LeO.bind ?_ (fun _ => ?_)
  ·intro y0 y1 y2 y3
   unfold rootcellarlaw17_StreamFinds.j1
   repeat' first
   | (with_reducible exact ih0 _ _ _ _ _ _ _)
   | (with_reducible exact ih1 _ _ _ _)
   | (with_reducible exact ih2 _ _ _ _ _)
   | (with_reducible exact stream_Take.mono _ _)
   | (with_reducible exact LeO.refl _)
   | (with_reducible exact LeO.none _)
   | (with_reducible refine LeO.ite ?_ ?_)
   | (with_reducible refine LeO.bind ?_ (fun _ => ?_))
   | exact ih0 _ _ _ _ _ _ _
   | exact ih1 _ _ _ _
   | exact ih2 _ _ _ _ _
   | exact stream_Take.mono _ _
   | exact LeO.none _
   | refine LeO.ite ?_ ?_
   | refine LeO.bind ?_ (fun _ => ?_)
  ·intro y0 y1 y2 y3 y4
   unfold rootcellarlaw17_StreamFinds.l0
   repeat' first
   | (with_reducible exact ih0 _ _ _ _ _ _ _)
   | (with_reducible exact ih1 _ _ _ _)
   | (with_reducible exact ih2 _ _ _ _ _)
   | (with_reducible exact stream_Take.mono _ _)
   | (with_reducible exact LeO.refl _)
   | (with_reducible exact LeO.none _)
   | (with_reducible refine LeO.ite ?_ ?_)
   | (with_reducible refine LeO.bind ?_ (fun _ => ?_))
   | exact ih0 _ _ _ _ _ _ _
   | exact ih1 _ _ _ _
   | exact ih2 _ _ _ _ _
   | exact stream_Take.mono _ _
   | exact LeO.none _
   | refine LeO.ite ?_ ?_
   | refine LeO.bind ?_ (fun _ => ?_)
theorem rootcellarlaw17_StreamFinds.mono : ∀ a0 a1 a2 a3 a4 k, LeO (rootcellarlaw17_StreamFinds.f k a0 a1 a2 a3 a4) (rootcellarlaw17_StreamFinds.f (k + 1) a0 a1 a2 a3 a4) := by
 intro a0 a1 a2 a3 a4 k
 obtain ⟨ih0, ih1, ih2⟩ := rootcellarlaw17_StreamFinds.mono_l k
 unfold rootcellarlaw17_StreamFinds.f
 repeat' first
   | (with_reducible exact ih0 _ _ _ _ _ _ _)
   | (with_reducible exact ih1 _ _ _ _)
   | (with_reducible exact ih2 _ _ _ _ _)
   | (with_reducible exact stream_Take.mono _ _)
   | (with_reducible exact LeO.refl _)
   | (with_reducible exact LeO.none _)
   | (with_reducible refine LeO.ite ?_ ?_)
   | (with_reducible refine LeO.bind ?_ (fun _ => ?_))
   | exact ih0 _ _ _ _ _ _ _
   | exact ih1 _ _ _ _
   | exact ih2 _ _ _ _ _
   | exact stream_Take.mono _ _
   | exact LeO.none _
   | refine LeO.ite ?_ ?_
   | refine LeO.bind ?_ (fun _ => ?_)
def rootcellarlaw17_StreamFinds.T12 : Bool × List (List Nat × List Nat) := (true, [([], []), ([], []), ([], []), ([1, 2], [1, 2]), ([3], [3]), ([], []), ([], []), ([], []), ([6, 7], [6, 7]), ([8], [8]), ([5, 9], [5, 9]), ([10], [10]), ([], []), ([], []), ([12, 13], [12, 13]), ([14], [14]), ([15], [15]), ([11, 16], [11, 16]), ([0, 4, 0, 1, 2, 3, 4, 5, 6, 7, 8, 9, 10, 11, 12, 13, 14, 15, 16, 17], [0, 4]), ([18, 17, 0, 1, 2, 3, 4, 5, 6, 7, 8, 9, 10, 11, 12, 13, 14, 15, 16, 17], [17, 18])])
def rootcellarlaw17_StreamFinds.B12 : List Nat := [0, 0, 0, 6, 14, 0, 0, 0, 192, 448, 992, 2016, 0, 0, 12288, 28672, 61440, 131040, 262143, 524287]
theorem rootcellarlaw17_StreamFinds.tab12 : rtab .any (opsOf Tryd.f8 12) = rootcellarlaw17_StreamFinds.T12 := by kernel_rfl
theorem rootcellarlaw17_StreamFinds.bits12 : waitsOk rootcellarlaw17_StreamFinds.T12.2 rootcellarlaw17_StreamFinds.B12 = true := by kernel_rfl
set_option maxHeartbeats 8000000 in
set_option maxRecDepth 100000 in
theorem rootcellarlaw17_StreamFinds.calls (k : Nat) (a0_0 : ByteArray) (a0_1 : Int) (a0_2 : ByteArray) (a1 : Int) (a2 : Int) (r : Bool) (w : World) (h : rootcellarlaw17_StreamFinds.f k a0_0 a0_1 a0_2 a1 a2 = some r) (HT : Tabs w) :
  Calls Tryd.prog 8 #[.agg #[.string a0_0, .int .u64 a0_1, .string a0_2], .int .i64 a1, .int .u32 a2] w fun e w' => e = .returned (.bool r) ∧ Below w.heap.size w w' := by
 have hu24 := Tryd.underlying24
 have HB := Aside0.mk (Below.refl w.heap.size w)
 have H : ((rootcellarlaw17_shown.f).bind fun t309 => (if t309 = true then (if (a0_0.size : Int) > 200 then (rootcellarlaw17_StreamFinds.j0 k a1 a2 t309 true a0_0 a0_1 a0_2) else (rootcellarlaw17_StreamFinds.j0 k a1 a2 t309 (decide ((a0_2.size : Int) > 1100)) a0_0 a0_1 a0_2)) else (rootcellarlaw17_StreamFinds.j0 k a1 a2 t309 true a0_0 a0_1 a0_2))) = some r := h
 clear h
 replace H := Option.bind_eq_some_iff.mp H
 obtain ⟨t309, A40, H⟩ := H
 replace H : (if t309 = true then (if (a0_0.size : Int) > 200 then (rootcellarlaw17_StreamFinds.j0 k a1 a2 t309 true a0_0 a0_1 a0_2) else (rootcellarlaw17_StreamFinds.j0 k a1 a2 t309 (decide ((a0_2.size : Int) > 1100)) a0_0 a0_1 a0_2)) else (rootcellarlaw17_StreamFinds.j0 k a1 a2 t309 true a0_0 a0_1 a0_2)) = some r := H
 have A4 := Aside0.mk A40
 clear A40
 have HC5 := Aside0.mk H
 clear H
 go_enter Tryd.func8, Tryd.ntmps8
 go_upto_region 2 with (first | ((with_reducible refine gate_dst (N := 3) rfl ?_); (try (refine gate_guard (by rfl) ?_; dsimp only)); refine box_event ?hg (N := 3) ?hd (cs := #[.string a0_0, .int .u64 a0_1, .string a0_2]) (t := 24) ?hr ?_; (case hd => rfl); (case hg => rfl); (case hr => first | (go_simp; done) | (go_simp; rfl)); intro gb308 hg w6 hbox hb; have n0_ := Aside0.mk (below_step (by repeat (first | (with_reducible first | exact HB.out | apply below_alloc | apply pw_below_drewN | apply below_drew1) | exact HB.out)) hb); have n1_ := Aside0.mk (hbox); have n2_ := Aside0.mk ((by rw [hg]; exact (below_size (by repeat (first | (with_reducible first | exact HB.out | apply below_alloc | apply pw_below_drewN | apply below_drew1) | exact HB.out))) : w.heap.size ≤ gb308)); have n3_ := Aside0.mk ((by rw [hg]; exact (below_size (by repeat (first | (with_reducible first | exact HB.out | apply below_alloc | apply pw_below_drewN | apply below_drew1) | exact HB.out))) : w.heap.size ≤ gb308)); clear HB; have HB := n0_; have BK308 := n1_; have GW308 := n2_; have GE308 := n3_; clear n0_ n1_ n2_ n3_; clear hb hbox hg) | ((with_reducible refine gate_callee (f := 9) rfl ?_); refine goesL_ (some 16) rfl rfl Tryd.func9 (by kernel_rfl) rfl #[] rfl (by (try simp only [List.map_toArray, List.map_cons, List.map_nil]); first | done | rfl | (simp only [List.length_drop, List.length_take]; rfl) | (rw [wrap_sum2 (by assumption)]; rfl)) ?_; (with_reducible refine (rootcellarlaw17_shown.calls  t309 _ A4.out (HT.below (by repeat (first | (with_reducible first | exact HB.out | apply below_alloc | apply pw_below_drewN | apply below_drew1 | refine below_set ?_ GE308.out) | exact HB.out)))).mono ?_); rintro e w7 ⟨rfl, hb⟩; refine ⟨_, rfl, ?_⟩; have n0_ := Aside0.mk (blk_below (g := gb308) (o := .cells #[.string a0_0, .int .u64 a0_1, .string a0_2] 24 (0, 0)) (by (with_reducible repeat (first | refine blk_drewN ?_ _ | refine blk_drew ?_ | refine blk_alloc ?_ _)); exact BK308.out) hb); have n1_ := Aside0.mk (below_step (by repeat (first | (with_reducible first | exact HB.out | apply below_alloc | apply pw_below_drewN | apply below_drew1 | refine below_set ?_ GE308.out) | exact HB.out)) hb); clear BK308; clear HB; have BK308 := n0_; have HB := n1_; clear n0_ n1_; (try clear hb); (try clear hb2); (try clear hk); (try clear hi)))
 (try simp only [Act.put, List.setIfInBounds_toArray, List.set_cons_zero, List.set_cons_succ])
 go_cut [30] (fun v30 wc => ∃ (kq : Nat) (x30_4 : Bool), v30 = .bool x30_4 ∧ Aside0 (rootcellarlaw17_StreamFinds.j0 kq a1 a2 t309 x30_4 a0_0 a0_1 a0_2 = some r) ∧ Aside0 (kq ≤ k) ∧ Aside0 (wc.heap[gb308]? = some (.cells #[.string a0_0, .int .u64 a0_1, .string a0_2] 24 (0, 0))) ∧ Aside0 (Below w.heap.size w wc))
 case first =>
  have H := HC5.out
  clear HC5
  by_cases c8 : t309 = true
  ·subst c8
   have H1 : (if (a0_0.size : Int) > 200 then (rootcellarlaw17_StreamFinds.j0 k a1 a2 true true a0_0 a0_1 a0_2) else (rootcellarlaw17_StreamFinds.j0 k a1 a2 true (decide ((a0_2.size : Int) > 1100)) a0_0 a0_1 a0_2)) = some r := by rw [if_pos rfl] at H; exact H
   clear H
   have H := H1
   clear H1
   by_cases c9 : (a0_0.size : Int) > 200
   ·rw [if_pos c9] at H
    have c9b0 : decide (200 < (a0_0.size : Int)) = true := decide_eq_true c9
    have c9b1 : decide (200 < a0_0.size) = true := decide_eq_true (by omega)
    clear c9
    (first | rw [c9b0] | (simp only [i64_w, i32_w]; rw [c9b0]) | skip)
    have H' := Aside0.mk H
    clear H
    have hcz10_0 : w7.cell? ⟨gb308, 0, none⟩ = some (.string a0_0) := (blk_cell BK308.out 0).trans rfl
    have hcz10_1 : w7.cell? ⟨gb308, 1, none⟩ = some (.int .u64 a0_1) := (blk_cell BK308.out 1).trans rfl
    have hcz10_2 : w7.cell? ⟨gb308, 2, none⟩ = some (.string a0_2) := (blk_cell BK308.out 2).trans rfl
    have hfz10_0 := blk_frozen BK308.out 0
    have hfz10_1 := blk_frozen BK308.out 1
    have hfz10_2 := blk_frozen BK308.out 2
    go_wp2
    go_meet
    case rel => exact ⟨_, (true), (by first | rfl | (simp; done) | (simp [*]; done)), H', ⟨by first | omega | exact Nat.le_refl _⟩, ⟨by (with_reducible repeat (first | refine blk_drewN ?_ _ | refine blk_drew ?_ | refine blk_alloc ?_ _)); exact BK308.out⟩, ⟨by repeat (first | (with_reducible first | exact HB.out | apply below_alloc | apply pw_below_drewN | apply below_drew1 | refine below_set ?_ GE308.out) | exact HB.out)⟩⟩
   ·rw [if_neg c9] at H
    have c9b0 : decide (200 < (a0_0.size : Int)) = false := decide_eq_false c9
    have c9b1 : decide (200 < a0_0.size) = false := decide_eq_false (by omega)
    clear c9
    (first | rw [c9b0] | (simp only [i64_w, i32_w]; rw [c9b0]) | skip)
    have H' := Aside0.mk H
    clear H
    have hcz11_0 : w7.cell? ⟨gb308, 0, none⟩ = some (.string a0_0) := (blk_cell BK308.out 0).trans rfl
    have hcz11_1 : w7.cell? ⟨gb308, 1, none⟩ = some (.int .u64 a0_1) := (blk_cell BK308.out 1).trans rfl
    have hcz11_2 : w7.cell? ⟨gb308, 2, none⟩ = some (.string a0_2) := (blk_cell BK308.out 2).trans rfl
    have hfz11_0 := blk_frozen BK308.out 0
    have hfz11_1 := blk_frozen BK308.out 1
    have hfz11_2 := blk_frozen BK308.out 2
    go_wp2
    go_meet
    case rel => exact ⟨_, (decide ((a0_2.size : Int) > 1100)), (by first | rfl | (simp; done) | (simp [*]; done)), H', ⟨by first | omega | exact Nat.le_refl _⟩, ⟨by (with_reducible repeat (first | refine blk_drewN ?_ _ | refine blk_drew ?_ | refine blk_alloc ?_ _)); exact BK308.out⟩, ⟨by repeat (first | (with_reducible first | exact HB.out | apply below_alloc | apply pw_below_drewN | apply below_drew1 | refine below_set ?_ GE308.out) | exact HB.out)⟩⟩
  ·replace c8 := Bool.eq_false_iff.mpr c8
   subst c8
   have H1 : (rootcellarlaw17_StreamFinds.j0 k a1 a2 false true a0_0 a0_1 a0_2) = some r := by rw [if_neg (show ¬ (false = true) by decide)] at H; exact H
   clear H
   have H := H1
   clear H1
   have H' := Aside0.mk H
   clear H
   go_wp2
   go_meet
   case rel => exact ⟨_, (true), (by first | rfl | (simp; done) | (simp [*]; done)), H', ⟨by first | omega | exact Nat.le_refl _⟩, ⟨by (with_reducible repeat (first | refine blk_drewN ?_ _ | refine blk_drew ?_ | refine blk_alloc ?_ _)); exact BK308.out⟩, ⟨by repeat (first | (with_reducible first | exact HB.out | apply below_alloc | apply pw_below_drewN | apply below_drew1 | refine below_set ?_ GE308.out) | exact HB.out)⟩⟩
 case rest =>
  clear HC5
  try clear p2
  try clear c8
  try clear c9
  try clear c9b0
  try clear c9b1
  try clear hcz10_0
  try clear hcz10_1
  try clear hcz10_2
  try clear hcz11_0
  try clear hcz11_1
  try clear hcz11_2
  try clear hfz10_0
  try clear hfz10_1
  try clear hfz10_2
  try clear hfz11_0
  try clear hfz11_1
  try clear hfz11_2
  obtain ⟨kq, x30_4, rfl, HA, HJ4, BK308, HB⟩ := hcut
  cases kq with
  | zero => exact absurd HA.out (by simp [rootcellarlaw17_StreamFinds.j0])
  | succ kj4 =>
   have H := HA.out
   clear HA
   simp only [rootcellarlaw17_StreamFinds.j0] at H
   by_cases c12 : x30_4 = true
   ·subst c12
    have H1 : (some t309) = some r := by rw [if_pos rfl] at H; exact H
    clear H
    have H := H1
    clear H1
    obtain rfl := Option.some.inj H
    go_wp2
    go_ret
    exact ⟨by first | rfl | (simp [errW_none, errW_some] <;> rfl) | (simp [*, errW_none, errW_some] <;> rfl), by repeat (first | (with_reducible first | exact HB.out | apply below_alloc | apply pw_below_drewN | apply below_drew1 | refine below_set ?_ GE308.out) | exact HB.out)⟩
   ·replace c12 := Bool.eq_false_iff.mpr c12
    subst c12
    have H1 : ((stream_Put.f a0_0 a0_1 a0_2).bind fun bt310 => (if bt310.2 = 0 then (if a2 = 0 then (rootcellarlaw17_StreamFinds.j1 kj4 a1 a2 bt310.1 true) else (if a1 < 0 then (rootcellarlaw17_StreamFinds.j1 kj4 a1 a2 bt310.1 true) else (rootcellarlaw17_StreamFinds.j1 kj4 a1 a2 bt310.1 (decide (a1 > (wrap64 ((wrap64 (8 * (bt310.1.size : Int))) - 32))))))) else (rootcellarlaw17_StreamFinds.j1 kj4 a1 a2 bt310.1 true))) = some r := by rw [if_neg (show ¬ (false = true) by decide)] at H; exact H
    clear H
    have H := H1
    clear H1
    replace H := Option.bind_eq_some_iff.mp H
    obtain ⟨⟨t310, t311⟩, A130, H⟩ := H
    replace H : (if t311 = 0 then (if a2 = 0 then (rootcellarlaw17_StreamFinds.j1 kj4 a1 a2 t310 true) else (if a1 < 0 then (rootcellarlaw17_StreamFinds.j1 kj4 a1 a2 t310 true) else (rootcellarlaw17_StreamFinds.j1 kj4 a1 a2 t310 (decide (a1 > (wrap64 ((wrap64 (8 * (t310.size : Int))) - 32))))))) else (rootcellarlaw17_StreamFinds.j1 kj4 a1 a2 t310 true)) = some r := H
    have A13 := Aside0.mk A130
    clear A130
    have HC14 := Aside0.mk H
    clear H
    have hcz15_0 : wc.cell? ⟨gb308, 0, none⟩ = some (.string a0_0) := (blk_cell BK308.out 0).trans rfl
    have hcz15_1 : wc.cell? ⟨gb308, 1, none⟩ = some (.int .u64 a0_1) := (blk_cell BK308.out 1).trans rfl
    have hcz15_2 : wc.cell? ⟨gb308, 2, none⟩ = some (.string a0_2) := (blk_cell BK308.out 2).trans rfl
    have hfz15_0 := blk_frozen BK308.out 0
    have hfz15_1 := blk_frozen BK308.out 1
    have hfz15_2 := blk_frozen BK308.out 2
    go_upto_region 5 with (first | ((with_reducible refine gate_callee (f := 10) rfl ?_); refine goesL_ (some 34) rfl rfl Tryd.func10 (by kernel_rfl) rfl #[.agg #[.string a0_0, .int .u64 a0_1, .string a0_2]] rfl (by (try simp only [List.map_toArray, List.map_cons, List.map_nil]); first | done | rfl | (simp only [List.length_drop, List.length_take]; rfl) | (rw [wrap_sum2 (by assumption)]; rfl)) ?_; (with_reducible refine (stream_Put.calls a0_0 a0_1 a0_2 t310 t311 _ A13.out (HT.below (by repeat (first | (with_reducible first | exact HB.out | apply below_alloc | apply pw_below_drewN | apply below_drew1 | refine below_set ?_ GE308.out) | exact HB.out)))).mono ?_); rintro e w16 ⟨rfl, hb⟩; refine ⟨_, rfl, ?_⟩; have n0_ := Aside0.mk (blk_below (g := gb308) (o := .cells #[.string a0_0, .int .u64 a0_1, .string a0_2] 24 (0, 0)) (by (with_reducible repeat (first | refine blk_drewN ?_ _ | refine blk_drew ?_ | refine blk_alloc ?_ _)); exact BK308.out) hb); have n1_ := Aside0.mk (below_step (by repeat (first | (with_reducible first | exact HB.out | apply below_alloc | apply pw_below_drewN | apply below_drew1 | refine below_set ?_ GE308.out) | exact HB.out)) hb); clear BK308; clear HB; have BK308 := n0_; have HB := n1_; clear n0_ n1_; (try clear hb); (try clear hb2); (try clear hk); (try clear hi)))
    (try simp only [Act.put, List.setIfInBounds_toArray, List.set_cons_zero, List.set_cons_succ])
    go_cut [54] (fun v54 wc => ∃ (kq : Nat) (x54_13 : Bool), v54 = .bool x54_13 ∧ Aside0 (rootcellarlaw17_StreamFinds.j1 kq a1 a2 t310 x54_13 = some r) ∧ Aside0 (kq ≤ kj4) ∧ Aside0 (wc.heap[gb308]? = some (.cells #[.string a0_0, .int .u64 a0_1, .string a0_2] 24 (0, 0))) ∧ Aside0 (Below w.heap.size w wc))
    case first =>
     have H := HC14.out
     clear HC14
     by_cases c17 : t311 = 0
     ·rw [if_pos c17] at H
      have c17b0 : (t311 == 0) = true := beq_iff_eq.mpr c17
      have c17b1 : (t311 != 0) = false := bne_eq_false_iff_eq.mpr c17
      clear c17
      (first | rw [c17b0] | (simp only [i64_w, i32_w]; rw [c17b0]) | skip)
      by_cases c18 : a2 = 0
      ·rw [if_pos c18] at H
       have c18b0 : (a2 == 0) = true := beq_iff_eq.mpr c18
       have c18b1 : (a2 != 0) = false := bne_eq_false_iff_eq.mpr c18
       clear c18
       have H' := Aside0.mk H
       clear H
       go_wp2
       go_meet
       case rel => exact ⟨_, (true), (by first | rfl | (simp; done) | (simp [*]; done)), H', ⟨by have := HJ4.out; first | omega | exact Nat.le_refl _⟩, ⟨by (with_reducible repeat (first | refine blk_drewN ?_ _ | refine blk_drew ?_ | refine blk_alloc ?_ _)); exact BK308.out⟩, ⟨by repeat (first | (with_reducible first | exact HB.out | apply below_alloc | apply pw_below_drewN | apply below_drew1 | refine below_set ?_ GE308.out) | exact HB.out)⟩⟩
      ·rw [if_neg c18] at H
       have c18b0 : (a2 == 0) = false := beq_eq_false_iff_ne.mpr c18
       have c18b1 : (a2 != 0) = true := bne_iff_ne.mpr c18
       by_cases c19 : a1 < 0
       ·rw [if_pos c19] at H
        have c19b0 : decide (a1 < 0) = true := decide_eq_true c19
        clear c19
        have H' := Aside0.mk H
        clear H
        go_wp2
        go_meet
        case rel => exact ⟨_, (true), (by first | rfl | (simp; done) | (simp [*]; done)), H', ⟨by have := HJ4.out; first | omega | exact Nat.le_refl _⟩, ⟨by (with_reducible repeat (first | refine blk_drewN ?_ _ | refine blk_drew ?_ | refine blk_alloc ?_ _)); exact BK308.out⟩, ⟨by repeat (first | (with_reducible first | exact HB.out | apply below_alloc | apply pw_below_drewN | apply below_drew1 | refine below_set ?_ GE308.out) | exact HB.out)⟩⟩
       ·rw [if_neg c19] at H
        have c19b0 : decide (a1 < 0) = false := decide_eq_false c19
        clear c19
        have H' := Aside0.mk H
        clear H
        go_wp2
        go_meet
        case rel => exact ⟨_, (decide (a1 > (wrap64 ((wrap64 (8 * (t310.size : Int))) - 32)))), (by first | rfl | (simp; done) | (simp [*]; done)), H', ⟨by have := HJ4.out; first | omega | exact Nat.le_refl _⟩, ⟨by (with_reducible repeat (first | refine blk_drewN ?_ _ | refine blk_drew ?_ | refine blk_alloc ?_ _)); exact BK308.out⟩, ⟨by repeat (first | (with_reducible first | exact HB.out | apply below_alloc | apply pw_below_drewN | apply below_drew1 | refine below_set ?_ GE308.out) | exact HB.out)⟩⟩
     ·rw [if_neg c17] at H
      have c17b0 : (t311 == 0) = false := beq_eq_false_iff_ne.mpr c17
      have c17b1 : (t311 != 0) = true := bne_iff_ne.mpr c17
      (first | rw [c17b0] | (simp only [i64_w, i32_w]; rw [c17b0]) | skip)
      have H' := Aside0.mk H
      clear H
      go_wp2
      go_meet
      case rel => exact ⟨_, (true), (by first | rfl | (simp; done) | (simp [*]; done)), H', ⟨by have := HJ4.out; first | omega | exact Nat.le_refl _⟩, ⟨by (with_reducible repeat (first | refine blk_drewN ?_ _ | refine blk_drew ?_ | refine blk_alloc ?_ _)); exact BK308.out⟩, ⟨by repeat (first | (with_reducible first | exact HB.out | apply below_alloc | apply pw_below_drewN | apply below_drew1 | refine below_set ?_ GE308.out) | exact HB.out)⟩⟩
    case rest =>
     clear HC14
     try clear c1
     try clear p2
     try clear p6
     try clear c8
     try clear c9
     try clear c9b0
     try clear c9b1
     try clear c10
     try clear c12
     try clear c17
     try clear c17b0
     try clear c17b1
     try clear c18
     try clear c18b0
     try clear c18b1
     try clear c19
     try clear c19b0
     try clear hcz10_0
     try clear hcz10_1
     try clear hcz10_2
     try clear hcz11_0
     try clear hcz11_1
     try clear hcz11_2
     try clear hcz15_0
     try clear hcz15_1
     try clear hcz15_2
     try clear hfz10_0
     try clear hfz10_1
     try clear hfz10_2
     try clear hfz11_0
     try clear hfz11_1
     try clear hfz11_2
     try clear hfz15_0
     try clear hfz15_1
     try clear hfz15_2
     try clear p2
     obtain ⟨kq, x54_13, rfl, HA, HJ13, BK308, HB⟩ := hcut
     cases kq with
     | zero => exact absurd HA.out (by simp [rootcellarlaw17_StreamFinds.j1])
     | succ kj13 =>
      have H := HA.out
      clear HA
      simp only [rootcellarlaw17_StreamFinds.j1] at H
      by_cases c20 : x54_13 = true
      ·subst c20
       have H1 : (some true) = some r := by rw [if_pos rfl] at H; exact H
       clear H
       have H := H1
       clear H1
       obtain rfl := Option.some.inj H
       go_wp2
       go_ret
       exact ⟨by first | rfl | (simp [errW_none, errW_some] <;> rfl) | (simp [*, errW_none, errW_some] <;> rfl), by repeat (first | (with_reducible first | exact HB.out | apply below_alloc | apply pw_below_drewN | apply below_drew1 | refine below_set ?_ GE308.out) | exact HB.out)⟩
      ·replace c20 := Bool.eq_false_iff.mpr c20
       subst c20
       have H1 : (if t310.size ≤ 9223372036854775807 then (rootcellarlaw17_StreamFinds.l0 kj13 a1 a2 t310 (bytesOf t310) 0) else (none)) = some r := by rw [if_neg (show ¬ (false = true) by decide)] at H; exact H
       clear H
       have H := H1
       clear H1
       by_cases c21 : t310.size ≤ 9223372036854775807
       ·rw [if_pos c21] at H
        have c21b0 := eq_true c21
        have c21b1 : decide (t310.size ≤ 9223372036854775807) = true := decide_eq_true c21
        try have c21b2 : (9223372036854775807 < t310.size) = False := eq_false (Nat.not_lt.2 c21)
        clear c21
        obtain ⟨y312, hy312⟩ : ∃ y_ : List Int, y_ = (bytesOf t310) := ⟨_, rfl⟩
        replace H : (rootcellarlaw17_StreamFinds.l0 kj13 a1 a2 t310 y312 0) = some r := by first | (rw [hy312]; with_reducible exact H) | (have H2_ := (Option.bind_some _ _).symm.trans H; rw [hy312]; with_reducible exact H2_) | (have H2_ := (Option.bind_some _ _).symm.trans H; with_reducible exact H2_) | with_reducible exact H | (rw [hy312]; exact H) | exact H
        have Ny312 := Aside0.mk hy312
        clear hy312
        have H' := Aside0.mk H
        clear H
        go_wp2_with (first | ((with_reducible refine gate_dst (N := 56) rfl ?_); (try (refine gate_guard (by rfl) ?_; dsimp only)); refine Kd.B_conv (Kd.int .u8) _ 5 rfl (N := 56) rfl 9 43 _ rfl t310 rfl Tryd.underlying9 Tryd.underlying43 Tryd.underlying5 (ok := fun _ => True) trivial (by first | omega | assumption | (have h_ := of_decide_eq_true (by first | (with_reducible assumption) | assumption); omega)) (Below.refl _ _) (Nat.le_refl _) ?_; intro v313 w22 ho23 hb hg_ hnew_; clear hg_ hnew_; (first | rw [← Ny312.out] at ho23 | (simp only [Int.reduceToNat] at ho23; rw [← Ny312.out] at ho23)); have n0_ := Aside0.mk (Kd.B_lower ho23 (below_size (by repeat (first | (with_reducible first | exact HB.out | apply below_alloc | apply pw_below_drewN | apply below_drew1 | refine below_set ?_ GE308.out) | exact HB.out)))); have n1_ := Aside0.mk (blk_below (g := gb308) (o := .cells #[.string a0_0, .int .u64 a0_1, .string a0_2] 24 (0, 0)) (by (with_reducible repeat (first | refine blk_drewN ?_ _ | refine blk_drew ?_ | refine blk_alloc ?_ _)); exact BK308.out) hb); have n2_ := Aside0.mk (below_step (by repeat (first | (with_reducible first | exact HB.out | apply below_alloc | apply pw_below_drewN | apply below_drew1 | refine below_set ?_ GE308.out) | exact HB.out)) hb); clear BK308; clear HB; have HO314 := n0_; have BK308 := n1_; have HB := n2_; clear n0_ n1_ n2_; clear hb ho23))
        go_loopg [11] kj13 (fun kq v11 w' => ∃ (x10_3 : List Int) (x11_3 : Int), v11 = .int .i64 x11_3 ∧ Aside0 (rootcellarlaw17_StreamFinds.l0 kq a1 a2 t310 x10_3 x11_3 = some r) ∧ Aside0 (kq ≤ kj13) ∧ Aside0 (Kd.B (Kd.int .u8) 5 w' w.heap.size (fun _ => True) v313 x10_3) ∧ Aside0 (w'.heap[gb308]? = some (.cells #[.string a0_0, .int .u64 a0_1, .string a0_2] 24 (0, 0))) ∧ Aside0 (Below w.heap.size w w'))
        case atStart => exact ⟨(y312), (0), (by first | rfl | (simp; done) | (simp [*]; done)), H', ⟨Nat.le_refl _⟩, ⟨by (with_reducible repeat (first | apply Kd.B_alloc | apply Kd.B_drewN | apply Kd.B_drew)); exact HO314.out⟩, ⟨by (with_reducible repeat (first | refine blk_drewN ?_ _ | refine blk_drew ?_ | refine blk_alloc ?_ _)); exact BK308.out⟩, ⟨by repeat (first | (with_reducible first | exact HB.out | apply below_alloc | apply pw_below_drewN | apply below_drew1 | refine below_set ?_ GE308.out) | exact HB.out)⟩⟩
        case round =>
         clear H'
         try clear c1
         try clear c2
         try clear p2
         try clear p6
         try clear c8
         try clear c9
         try clear c9b0
         try clear c9b1
         try clear c10
         try clear c12
         try clear c17
         try clear c17b0
         try clear c17b1
         try clear c18
         try clear c18b0
         try clear c18b1
         try clear c19
         try clear c19b0
         try clear c20
         try clear c21
         try clear c21b0
         try clear c21b1
         try clear c21b2
         try clear hcz10_0
         try clear hcz10_1
         try clear hcz10_2
         try clear hcz11_0
         try clear hcz11_1
         try clear hcz11_2
         try clear hcz15_0
         try clear hcz15_1
         try clear hcz15_2
         try clear hfz10_0
         try clear hfz10_1
         try clear hfz10_2
         try clear hfz11_0
         try clear hfz11_1
         try clear hfz11_2
         try clear hfz15_0
         try clear hfz15_1
         try clear hfz15_2
         try clear p2
         try clear p6
         obtain ⟨x10_3, x11_3, rfl, HA, HK3, HO_10, BK308, HB⟩ := hrel
         cases gk with
         | zero => exact absurd HA.out (by simp [rootcellarlaw17_StreamFinds.l0])
         | succ k3 =>
          have H := HA.out
          clear HA
          simp only [rootcellarlaw17_StreamFinds.l0] at H
          by_cases c24 : x11_3 < 32
          ·rw [if_pos c24] at H
           have c24b0 : decide (x11_3 < 32) = true := decide_eq_true c24
           clear c24
           by_cases c25 : 0 ≤ x11_3
           ·rw [if_pos c25] at H
            have c25b0 := eq_true c25
            have c25b1 : decide (0 ≤ x11_3) = true := decide_eq_true c25
            clear c25
            obtain ⟨ji26, hji26⟩ : ∃ j_ : Int, (shr .u32 a2 x11_3) = j_ := ⟨_, rfl⟩
            replace H : (if (Go.bits .and .u32 (ji26) 1) = 1 then (if 0 ≤ (wrap64 (Int.tdiv (wrap64 (a1 + x11_3)) 8)) then (if (wrap64 (Int.tdiv (wrap64 (a1 + x11_3)) 8)) < (x10_3.length : Int) then (if 0 ≤ (Int.tmod (wrap64 (a1 + x11_3)) 8) then (rootcellarlaw17_StreamFinds.l0 k3 a1 a2 t310 (x10_3.set ((wrap64 (Int.tdiv (wrap64 (a1 + x11_3)) 8)) : Int).toNat (Go.bits .xor .u8 (rd x10_3 (wrap64 (Int.tdiv (wrap64 (a1 + x11_3)) 8))) (shl .u8 1 (Int.tmod (wrap64 (a1 + x11_3)) 8)))) (wrap64 (x11_3 + 1))) else (none)) else (none)) else (none)) else (rootcellarlaw17_StreamFinds.l0 k3 a1 a2 t310 x10_3 (wrap64 (x11_3 + 1)))) = some r := by first | (rw [hji26] at H; exact H) | (simp only [hji26] at H ⊢; exact H)
            have hji26_ : (a2 / 2 ^ min x11_3.toNat 32) = ji26 := hji26
            have hji26z : x11_3 ≤ 32 → (a2 / 2 ^ x11_3.toNat) = ji26 := shr_small hji26
            by_cases c27 : (Go.bits .and .u32 (ji26) 1) = 1
            ·rw [if_pos c27] at H
             have c27b0 : ((Go.bits .and .u32 (ji26) 1) == 1) = true := beq_iff_eq.mpr c27
             have c27b1 : ((Go.bits .and .u32 (ji26) 1) != 1) = false := bne_eq_false_iff_eq.mpr c27
             clear c27
             obtain ⟨ji28, hji28⟩ : ∃ j_ : Int, (wrap64 (Int.tdiv (wrap64 (a1 + x11_3)) 8)) = j_ := ⟨_, rfl⟩
             replace H : (if 0 ≤ (ji28) then (if (ji28) < (x10_3.length : Int) then (if 0 ≤ (Int.tmod (wrap64 (a1 + x11_3)) 8) then (rootcellarlaw17_StreamFinds.l0 k3 a1 a2 t310 (x10_3.set ((ji28) : Int).toNat (Go.bits .xor .u8 (rd x10_3 (ji28)) (shl .u8 1 (Int.tmod (wrap64 (a1 + x11_3)) 8)))) (wrap64 (x11_3 + 1))) else (none)) else (none)) else (none)) = some r := by first | (rw [hji28] at H; exact H) | (simp only [hji28] at H ⊢; exact H)
             have hji28w : (IntKind.i64.wrap (Int.tdiv (wrap64 (a1 + x11_3)) 8)) = ji28 := (i64_w _).trans hji28
             by_cases c29 : 0 ≤ (ji28)
             ·rw [if_pos c29] at H
              have c29b0 : decide (0 ≤ (ji28)) = true := decide_eq_true c29
              clear c29
              by_cases c30 : (ji28) < (x10_3.length : Int)
              ·rw [if_pos c30] at H
               have c30b0 : decide ((ji28) < (x10_3.length : Int)) = true := decide_eq_true c30
               clear c30
               obtain ⟨ji31, hji31⟩ : ∃ j_ : Int, (Int.tmod (wrap64 (a1 + x11_3)) 8) = j_ := ⟨_, rfl⟩
               replace H : (if 0 ≤ (ji31) then (rootcellarlaw17_StreamFinds.l0 k3 a1 a2 t310 (x10_3.set ((ji28) : Int).toNat (Go.bits .xor .u8 (rd x10_3 (ji28)) (shl .u8 1 (ji31)))) (wrap64 (x11_3 + 1))) else (none)) = some r := by first | (rw [hji31] at H; exact H) | (simp only [hji31] at H ⊢; exact H)
               by_cases c32 : 0 ≤ (ji31)
               ·rw [if_pos c32] at H
                have c32b0 := eq_true c32
                have c32b1 : decide (0 ≤ (ji31)) = true := decide_eq_true c32
                clear c32
                obtain ⟨ji33, hji33⟩ : ∃ j_ : Int, (shl .u8 1 (ji31)) = j_ := ⟨_, rfl⟩
                replace H : (rootcellarlaw17_StreamFinds.l0 k3 a1 a2 t310 (x10_3.set ((ji28) : Int).toNat (Go.bits .xor .u8 (rd x10_3 (ji28)) (ji33))) (wrap64 (x11_3 + 1))) = some r := by first | (rw [hji33] at H; exact H) | (simp only [hji33] at H ⊢; exact H)
                have hji33_ : (IntKind.u8.wrap (1 * 2 ^ min (ji31).toNat 8)) = ji33 := hji33
                have hji33z : (ji31) ≤ 8 → (IntKind.u8.wrap (1 * 2 ^ (ji31).toNat)) = ji33 := shl_small hji33
                have hji33u : (IntKind.u8.wrap (2 ^ min (ji31).toNat 8)) = ji33 := by have h_ := hji33_; rw [Int.one_mul] at h_; exact h_
                have hji33v : (ji31) ≤ 8 → (IntKind.u8.wrap (2 ^ (ji31).toNat)) = ji33 := fun hle_ => by have h_ := hji33z hle_; rw [Int.one_mul] at h_; exact h_
                obtain ⟨y316, hy316⟩ : ∃ y_ : List Int, y_ = (x10_3.set ((ji28) : Int).toNat (Go.bits .xor .u8 (rd x10_3 (ji28)) (ji33))) := ⟨_, rfl⟩
                replace H : (rootcellarlaw17_StreamFinds.l0 k3 a1 a2 t310 y316 (wrap64 (x11_3 + 1))) = some r := by first | (rw [hy316]; with_reducible exact H) | (have H2_ := (Option.bind_some _ _).symm.trans H; rw [hy316]; with_reducible exact H2_) | (have H2_ := (Option.bind_some _ _).symm.trans H; with_reducible exact H2_) | with_reducible exact H | (rw [hy316]; exact H) | exact H
                have Ny316 := Aside0.mk hy316
                clear hy316
                have H' := Aside0.mk H
                clear H
                try go_wp2
                have n0_ := Aside0.mk (Kd.B_drew HO_10.out)
                have n1_ := Aside0.mk (blk_drew BK308.out)
                have n2_ := Aside0.mk (below_drew1 HB.out)
                clear HO_10
                clear BK308
                clear HB
                have HO_10 := n0_
                have BK308 := n1_
                have HB := n2_
                clear n0_ n1_ n2_
                obtain ⟨Ao36, co36, eo36⟩ := Kd.B_slice HO_10.out
                (first | subst eo36 | (injection eo36 with f1_ f2_ f3_; have f4_ := f1_.symm; have f5_ := f3_.symm; clear f1_ f2_ f3_; subst f4_; subst f5_))
                have p315 : 0 ≤ ((ji28) : Int) := of_decide_eq_true (by first | (with_reducible assumption) | assumption)
                have q315 : (ji28) < (x10_3.length : Int) := of_decide_eq_true (by first | (with_reducible assumption) | assumption)
                obtain ⟨ad315, e315, hx315_0⟩ := Kd.at_int (Kd.B_reads' HO_10.out).2.2 (ji28) p315 q315
                cases e315
                replace p315 := eq_true p315
                replace q315 := eq_true q315
                have p34 : 0 ≤ ((ji28) : Int) := of_decide_eq_true (by first | (with_reducible assumption) | assumption)
                have q34 : ((ji28) : Int) < ((x10_3.length : Int) : Int) := of_decide_eq_true (by first | (with_reducible assumption) | assumption)
                obtain ⟨go34, co34, eo34, gb34, gl34, cl34, HG34⟩ := Kd.B_form HO_10.out (by omega)
                (first | cases eo34 | (injection eo34 with ea_ en_ ec_; (first | subst ea_ | (injection ea_ with ea_; subst ea_)); subst ec_; clear en_))
                have GB34 := Aside0.mk gb34
                have GG34 := Aside0.mk HG34
                clear gb34 gl34 HG34
                (first | simp only [add_plain] at hx315_0 | skip)
                obtain ⟨hx34_0, hf34_0⟩ := Kd.B_celln 0 HO_10.out ((ji28) : Int) p34 q34
                replace p34 := eq_true p34
                replace q34 := eq_true q34
                have HP37 := Kd.B_putn HO_10.out ((ji28) : Int) (Go.bits .xor .u8 (rd x10_3 (ji28)) (ji33))
                rw [← Ny316.out] at HP37
                have HQ37 := Aside0.mk HP37
                clear HP37
                refine start_ (n := 20) (S := fun w' => w'.cell? ⟨go34, ((ji28)).toNat, none⟩ = some (.int .u8 (rd x10_3 (ji28)))) (ds := [19]) #[false, false, false, false, false, false, false, false, false, false, false, false, false, false, false, false, false, false, false, false] (by kernel_rfl) rfl rfl (hx315_0) (fun hHeld => ?_); refine with_tabW rootcellarlaw17_StreamFinds.tab12 rootcellarlaw17_StreamFinds.bits12 (fun HT_ HW_ => ?_)
                generalize wr.drew = w35 at HO_10 BK308 HB GG34 HQ37 hf34_0 hx315_0 hx34_0 hHeld ⊢
                refine pure_ (i := 0) (N := some 66) (v := ?_) (a' := ?_) #[true, false, false, false, false, false, false, false, false, false, false, false, false, false, false, false, false, false, false, false] rfl rfl (any_of HT_.out (by kernel_rfl)) (fun _ _ _ h => h) (Or.inl ⟨by rfl, ?_⟩) ?_ ?_
                rotate_left
                ·intro w'
                 go_simp
                 with_reducible rfl
                rotate_left
                ·simp only [Act.put, List.setIfInBounds_toArray, List.set_cons_zero, List.set_cons_succ, i64_w, i32_w]
                 rfl
                refine pure_ (i := 1) (N := some 67) (v := ?_) (a' := ?_) #[true, true, false, false, false, false, false, false, false, false, false, false, false, false, false, false, false, false, false, false] rfl rfl (any_of HT_.out (by kernel_rfl)) (fun _ _ _ h => h) (Or.inl ⟨by rfl, ?_⟩) ?_ ?_
                rotate_left
                ·intro w'
                 go_simp
                 with_reducible rfl
                rotate_left
                ·simp only [Act.put, List.setIfInBounds_toArray, List.set_cons_zero, List.set_cons_succ, i64_w, i32_w]
                 rfl
                refine pure_ (i := 2) (N := some 68) (v := ?_) (a' := ?_) #[true, true, true, false, false, false, false, false, false, false, false, false, false, false, false, false, false, false, false, false] rfl rfl (any_of HT_.out (by kernel_rfl)) (fun _ _ _ h => h) (Or.inl ⟨by rfl, ?_⟩) ?_ ?_
                rotate_left
                ·intro w'
                 go_simp
                 with_reducible rfl
                rotate_left
                ·simp only [Act.put, List.setIfInBounds_toArray, List.set_cons_zero, List.set_cons_succ, i64_w, i32_w]
                 rfl
                refine pure_ (i := 3) (N := some 69) (v := ?_) (a' := ?_) #[true, true, true, true, false, false, false, false, false, false, false, false, false, false, false, false, false, false, false, false] rfl rfl (any_of HT_.out (by kernel_rfl)) (fun _ _ _ h => h) (Or.inl ⟨by rfl, ?_⟩) ?_ ?_
                rotate_left
                ·intro w'
                 go_simp
                 with_reducible rfl
                rotate_left
                ·simp only [Act.put, List.setIfInBounds_toArray, List.set_cons_zero, List.set_cons_succ, i64_w, i32_w]
                 rfl
                refine pure_ (i := 4) (N := some 70) (v := ?_) (a' := ?_) #[true, true, true, true, true, false, false, false, false, false, false, false, false, false, false, false, false, false, false, false] rfl rfl (any_of HT_.out (by kernel_rfl)) (fun _ _ _ h => h) (Or.inl ⟨by rfl, ?_⟩) ?_ ?_
                rotate_left
                ·intro w'
                 go_simp
                 with_reducible rfl
                rotate_left
                ·simp only [Act.put, List.setIfInBounds_toArray, List.set_cons_zero, List.set_cons_succ, i64_w, i32_w]
                 rfl
                refine pure_ (i := 5) (N := some 71) (v := ?_) (a' := ?_) #[true, true, true, true, true, true, false, false, false, false, false, false, false, false, false, false, false, false, false, false] rfl rfl (any_of HT_.out (by kernel_rfl)) (fun _ _ _ h => h) (Or.inl ⟨by rfl, ?_⟩) ?_ ?_
                rotate_left
                ·intro w'
                 go_simp
                 with_reducible rfl
                rotate_left
                ·simp only [Act.put, List.setIfInBounds_toArray, List.set_cons_zero, List.set_cons_succ, i64_w, i32_w]
                 rfl
                refine pure_ (i := 6) (N := some 72) (v := ?_) (a' := ?_) #[true, true, true, true, true, true, true, false, false, false, false, false, false, false, false, false, false, false, false, false] rfl rfl (any_of HT_.out (by kernel_rfl)) (fun _ _ _ h => h) (Or.inl ⟨by rfl, ?_⟩) ?_ ?_
                rotate_left
                ·intro w'
                 go_simp
                 with_reducible rfl
                rotate_left
                ·simp only [Act.put, List.setIfInBounds_toArray, List.set_cons_zero, List.set_cons_succ, i64_w, i32_w]
                 rfl
                refine pure_ (i := 7) (N := some 73) (v := ?_) (a' := ?_) #[true, true, true, true, true, true, true, true, false, false, false, false, false, false, false, false, false, false, false, false] rfl rfl (any_of HT_.out (by kernel_rfl)) (fun _ _ _ h => h) (Or.inl ⟨by rfl, ?_⟩) ?_ ?_
                rotate_left
                ·intro w'
                 go_simp
                 with_reducible rfl
                rotate_left
                ·simp only [Act.put, List.setIfInBounds_toArray, List.set_cons_zero, List.set_cons_succ, i64_w, i32_w]
                 rfl
                refine pure_ (i := 8) (N := some 74) (v := ?_) (a' := ?_) #[true, true, true, true, true, true, true, true, true, false, false, false, false, false, false, false, false, false, false, false] rfl rfl (any_of HT_.out (by kernel_rfl)) (fun _ _ _ h => h) (Or.inl ⟨by rfl, ?_⟩) ?_ ?_
                rotate_left
                ·intro w'
                 go_simp
                 with_reducible rfl
                rotate_left
                ·simp only [Act.put, List.setIfInBounds_toArray, List.set_cons_zero, List.set_cons_succ, i64_w, i32_w]
                 rfl
                refine pure_ (i := 9) (N := some 75) (v := ?_) (a' := ?_) #[true, true, true, true, true, true, true, true, true, true, false, false, false, false, false, false, false, false, false, false] rfl rfl (any_of HT_.out (by kernel_rfl)) (fun _ _ _ h => h) (Or.inl ⟨by rfl, ?_⟩) ?_ ?_
                rotate_left
                ·intro w'
                 go_simp
                 with_reducible rfl
                rotate_left
                ·simp only [Act.put, List.setIfInBounds_toArray, List.set_cons_zero, List.set_cons_succ, i64_w, i32_w]
                 rfl
                refine pure_ (i := 10) (N := some 76) (v := ?_) (a' := ?_) #[true, true, true, true, true, true, true, true, true, true, true, false, false, false, false, false, false, false, false, false] rfl rfl (any_of HT_.out (by kernel_rfl)) (fun _ _ _ h => h) (Or.inl ⟨by rfl, ?_⟩) ?_ ?_
                rotate_left
                ·intro w'
                 go_simp
                 with_reducible rfl
                rotate_left
                ·simp only [Act.put, List.setIfInBounds_toArray, List.set_cons_zero, List.set_cons_succ, i64_w, i32_w]
                 rfl
                refine pure_ (i := 12) (N := some 78) (v := ?_) (a' := ?_) #[true, true, true, true, true, true, true, true, true, true, true, false, true, false, false, false, false, false, false, false] rfl rfl (any_of HT_.out (by kernel_rfl)) (fun _ _ _ h => h) (Or.inl ⟨by rfl, ?_⟩) ?_ ?_
                rotate_left
                ·intro w'
                 go_simp
                 with_reducible rfl
                rotate_left
                ·simp only [Act.put, List.setIfInBounds_toArray, List.set_cons_zero, List.set_cons_succ, i64_w, i32_w]
                 rfl
                refine pure_ (i := 13) (N := some 79) (v := ?_) (a' := ?_) #[true, true, true, true, true, true, true, true, true, true, true, false, true, true, false, false, false, false, false, false] rfl rfl (any_of HT_.out (by kernel_rfl)) (fun _ _ _ h => h) (Or.inl ⟨by rfl, ?_⟩) ?_ ?_
                rotate_left
                ·intro w'
                 go_simp
                 with_reducible rfl
                rotate_left
                ·simp only [Act.put, List.setIfInBounds_toArray, List.set_cons_zero, List.set_cons_succ, i64_w, i32_w]
                 rfl
                refine pure_ (i := 14) (N := some 80) (v := ?_) (a' := ?_) #[true, true, true, true, true, true, true, true, true, true, true, false, true, true, true, false, false, false, false, false] rfl rfl (any_of HT_.out (by kernel_rfl)) (fun _ _ _ h => h) (Or.inl ⟨by rfl, ?_⟩) ?_ ?_
                rotate_left
                ·intro w'
                 go_simp
                 with_reducible rfl
                rotate_left
                ·simp only [Act.put, List.setIfInBounds_toArray, List.set_cons_zero, List.set_cons_succ, i64_w, i32_w]
                 rfl
                refine pure_ (i := 15) (N := some 81) (v := ?_) (a' := ?_) #[true, true, true, true, true, true, true, true, true, true, true, false, true, true, true, true, false, false, false, false] rfl rfl (any_of HT_.out (by kernel_rfl)) (fun _ _ _ h => h) (Or.inl ⟨by rfl, ?_⟩) ?_ ?_
                rotate_left
                ·intro w'
                 go_simp
                 with_reducible rfl
                rotate_left
                ·simp only [Act.put, List.setIfInBounds_toArray, List.set_cons_zero, List.set_cons_succ, i64_w, i32_w]
                 rfl
                refine pure_ (i := 16) (N := some 82) (v := ?_) (a' := ?_) #[true, true, true, true, true, true, true, true, true, true, true, false, true, true, true, true, true, false, false, false] rfl rfl (any_of HT_.out (by kernel_rfl)) (fun _ _ _ h => h) (Or.inl ⟨by rfl, ?_⟩) ?_ ?_
                rotate_left
                ·intro w'
                 go_simp
                 with_reducible rfl
                rotate_left
                ·simp only [Act.put, List.setIfInBounds_toArray, List.set_cons_zero, List.set_cons_succ, i64_w, i32_w]
                 rfl
                refine take_ (i := 11) (N := some 77) (v := ?_) (a' := ?_) #[true, true, true, true, true, true, true, true, true, true, true, true, true, true, true, true, true, false, false, false] rfl rfl (take_ofW HT_.out HW_.out (by kernel_rfl)) (fun _ _ _ h => h) (Or.inl ⟨by rfl, ?_⟩) hHeld ?_ ?_
                rotate_left
                ·intro w' s0
                 go_simp
                 with_reducible rfl
                rotate_left
                ·simp only [Act.put, List.setIfInBounds_toArray, List.set_cons_zero, List.set_cons_succ, i64_w, i32_w]
                 rfl
                refine pure_ (i := 17) (N := some 83) (v := ?_) (a' := ?_) #[true, true, true, true, true, true, true, true, true, true, true, true, true, true, true, true, true, true, false, false] rfl rfl (any_of HT_.out (by kernel_rfl)) (fun _ _ _ h => h) (Or.inl ⟨by rfl, ?_⟩) ?_ ?_
                rotate_left
                ·intro w'
                 go_simp
                 with_reducible rfl
                rotate_left
                ·simp only [Act.put, List.setIfInBounds_toArray, List.set_cons_zero, List.set_cons_succ, i64_w, i32_w]
                 rfl
                refine pure_ (i := 18) (N := some 84) (v := ?_) (a' := ?_) #[true, true, true, true, true, true, true, true, true, true, true, true, true, true, true, true, true, true, true, false] rfl rfl (any_of HT_.out (by kernel_rfl)) (fun _ _ _ h => h) (Or.inl ⟨by rfl, ?_⟩) ?_ ?_
                rotate_left
                ·intro w'
                 go_simp
                 with_reducible rfl
                rotate_left
                ·simp only [Act.put, List.setIfInBounds_toArray, List.set_cons_zero, List.set_cons_succ, i64_w, i32_w]
                 rfl
                refine last_ (i := 19) (N := none) #[true, true, true, true, true, true, true, true, true, true, true, true, true, true, true, true, true, true, true, true] rfl rfl (one_of HT_.out (by kernel_rfl)) (by decide) (fun K hK => ?_)
                refine skip_ (w1 := ?_) (by rfl) rfl ?_ ?_
                rotate_left
                ·go_simp
                 rfl
                refine hK.out _ _ ?_
                clear hK K
                refine done_ (done_of HT_.out (by kernel_rfl)) ?_
                try go_wp2
                go_roundg k3
                case measure => have := HJ4.out; have := HJ13.out; have := HK3.out; omega
                case rel => exact ⟨(y316), (wrap64 (x11_3 + 1)), (by first | rfl | (simp; done) | (simp [*]; done)), H', ⟨by have := HJ4.out; have := HJ13.out; have := HK3.out; omega⟩, ⟨by (with_reducible repeat (first | apply Kd.B_alloc | apply Kd.B_drewN | apply Kd.B_drew)); exact HQ37.out⟩, ⟨by (with_reducible repeat (first | refine blk_drewN ?_ _ | refine blk_drew ?_ | refine blk_alloc ?_ _)); refine blk_far ?_ (by have h_ := Kd.B_ne HO_10.out BK308.out (by decide); intro e_; exact h_ (by rw [e_]; rfl)) _; (with_reducible repeat (first | refine blk_drewN ?_ _ | refine blk_drew ?_ | refine blk_alloc ?_ _)); exact BK308.out⟩, ⟨by repeat (first | (with_reducible first | exact HB.out | apply below_alloc | apply pw_below_drewN | apply below_drew1 | refine below_set ?_ GB34.out | refine below_set ?_ GE308.out) | exact HB.out)⟩⟩
               ·rw [if_neg c32] at H
                exact absurd H (by simp)
              ·rw [if_neg c30] at H
               exact absurd H (by simp)
             ·rw [if_neg c29] at H
              exact absurd H (by simp)
            ·rw [if_neg c27] at H
             have c27b0 : ((Go.bits .and .u32 (ji26) 1) == 1) = false := beq_eq_false_iff_ne.mpr c27
             have c27b1 : ((Go.bits .and .u32 (ji26) 1) != 1) = true := bne_iff_ne.mpr c27
             have H' := Aside0.mk H
             clear H
             go_wp2
             go_roundg k3
             case measure => have := HJ4.out; have := HJ13.out; have := HK3.out; omega
             case rel => exact ⟨(x10_3), (wrap64 (x11_3 + 1)), (by first | rfl | (simp; done) | (simp [*]; done)), H', ⟨by have := HJ4.out; have := HJ13.out; have := HK3.out; omega⟩, ⟨by (with_reducible repeat (first | apply Kd.B_alloc | apply Kd.B_drewN | apply Kd.B_drew)); exact HO_10.out⟩, ⟨by (with_reducible repeat (first | refine blk_drewN ?_ _ | refine blk_drew ?_ | refine blk_alloc ?_ _)); exact BK308.out⟩, ⟨by repeat (first | (with_reducible first | exact HB.out | apply below_alloc | apply pw_below_drewN | apply below_drew1 | refine below_set ?_ GE308.out) | exact HB.out)⟩⟩
           ·rw [if_neg c25] at H
            exact absurd H (by simp)
          ·rw [if_neg c24] at H
           have c24b0 : decide (x11_3 < 32) = false := decide_eq_false c24
           clear c24
           replace H := Option.bind_eq_some_iff.mp H
           obtain ⟨⟨t317, t318, t319, t320⟩, A380, H⟩ := H
           replace H : (if 0 ≤ (mn 3 (t310.size : Int)) then (if (mn 3 (t310.size : Int)) ≤ (t310.size : Int) then ((stream_Take.f k3 (t310.extract 0 ((mn 3 (t310.size : Int)) : Int).toNat)).bind fun bt322 => (if (t317.toList == ([] : List UInt8) && (t318 == 0 && (t319.toList == ([] : List UInt8)))) = true then (if t320 = 9 then (some (bt322.2.2.2 == 10)) else (some false)) else (some false))) else (none)) else (none)) = some r := H
           have A38 := Aside0.mk A380
           clear A380
           obtain ⟨ji39, hji39⟩ : ∃ j_ : Int, (mn 3 (t310.size : Int)) = j_ := ⟨_, rfl⟩
           replace H : (if 0 ≤ (ji39) then (if (ji39) ≤ (t310.size : Int) then ((stream_Take.f k3 (t310.extract 0 ((ji39) : Int).toNat)).bind fun bt322 => (if (t317.toList == ([] : List UInt8) && (t318 == 0 && (t319.toList == ([] : List UInt8)))) = true then (if t320 = 9 then (some (bt322.2.2.2 == 10)) else (some false)) else (some false))) else (none)) else (none)) = some r := by first | (rw [hji39] at H; exact H) | (simp only [hji39] at H ⊢; exact H)
           (try rw [hji39] at A38)
           have hji39_ : (if (t310.size : Int) < 3 then (t310.size : Int) else 3) = ji39 := hji39
           by_cases c40 : 0 ≤ (ji39)
           ·rw [if_pos c40] at H
            have c40b0 := eq_true c40
            have c40b1 : decide (0 ≤ (ji39)) = true := decide_eq_true c40
            clear c40
            by_cases c41 : (ji39) ≤ (t310.size : Int)
            ·rw [if_pos c41] at H
             have c41b0 := eq_true c41
             have c41b1 : decide ((ji39) ≤ (t310.size : Int)) = true := decide_eq_true c41
             clear c41
             replace H := Option.bind_eq_some_iff.mp H
             obtain ⟨⟨t322, t323, t324, t325⟩, A420, H⟩ := H
             replace H : (if (t317.toList == ([] : List UInt8) && (t318 == 0 && (t319.toList == ([] : List UInt8)))) = true then (if t320 = 9 then (some (t325 == 10)) else (some false)) else (some false)) = some r := H
             have A42 := Aside0.mk A420
             clear A420
             by_cases c43 : (t317.toList == ([] : List UInt8) && (t318 == 0 && (t319.toList == ([] : List UInt8)))) = true
             ·rw [if_pos c43] at H
              (try (have c43p := c43; simp only [Bool.and_eq_true, beq_iff_eq] at c43p; replace c43p := eq_true c43p))
              have c43b0 : (t317.toList == ([] : List UInt8) && (t318 == 0 && (t319.toList == ([] : List UInt8)))) = true := c43
              (try (have c43b1 : decide (t317.toList = ([] : List UInt8) && (t318 == 0 && (t319.toList == ([] : List UInt8)))) = true := by simpa using c43))
              (try (have c43b2 : (t317.toList == ([] : List UInt8) && (t318 == 0 && (t319.toList == ([] : List UInt8)))) = true := by simpa using c43))
              clear c43
              by_cases c44 : t320 = 9
              ·rw [if_pos c44] at H
               have c44b0 : (t320 == 9) = true := beq_iff_eq.mpr c44
               have c44b1 : (t320 != 9) = false := bne_eq_false_iff_eq.mpr c44
               clear c44
               obtain rfl := Option.some.inj H
               have hcv45 := Kd.B_string (P := Tryd.prog) Tryd.underlying43 Tryd.underlying5 Tryd.underlying9 HO_10.out
               go_wp2_with (first | ((with_reducible refine gate_callee (f := 16) rfl ?_); refine goesL_ (some 88) rfl rfl Tryd.func16 (by kernel_rfl) rfl #[.string (strOfNums x10_3)] rfl (by (try simp only [List.map_toArray, List.map_cons, List.map_nil]); first | done | rfl | (simp only [List.length_drop, List.length_take]; rfl) | (rw [wrap_sum2 (by assumption)]; rfl)) ?_; (with_reducible refine (stream_Take.calls k3 (strOfNums x10_3) t317 t318 t319 t320 _ A38.out (HT.below (by repeat (first | (with_reducible first | exact HB.out | apply below_alloc | apply pw_below_drewN | apply below_drew1 | refine below_set ?_ GE308.out) | exact HB.out)))).mono ?_); rintro e w46 ⟨rfl, hb⟩; refine ⟨_, rfl, ?_⟩; have n0_ := Aside0.mk (Kd.B_below (by (with_reducible repeat (first | apply Kd.B_alloc | apply Kd.B_drewN | apply Kd.B_drew)); exact HO_10.out) hb); have n1_ := Aside0.mk (blk_below (g := gb308) (o := .cells #[.string a0_0, .int .u64 a0_1, .string a0_2] 24 (0, 0)) (by (with_reducible repeat (first | refine blk_drewN ?_ _ | refine blk_drew ?_ | refine blk_alloc ?_ _)); exact BK308.out) hb); have n2_ := Aside0.mk (below_step (by repeat (first | (with_reducible first | exact HB.out | apply below_alloc | apply pw_below_drewN | apply below_drew1 | refine below_set ?_ GE308.out) | exact HB.out)) hb); clear HO_10; clear BK308; clear HB; have HO_10 := n0_; have BK308 := n1_; have HB := n2_; clear n0_ n1_ n2_; (try clear hb); (try clear hb2); (try clear hk); (try clear hi)) | ((with_reducible refine gate_dst (N := 12) rfl ?_); (try (refine gate_guard (by rfl) ?_; dsimp only)); refine box_event ?hg (N := 12) ?hd (cs := #[.string (⟨#[]⟩ : ByteArray), .int .u64 0, .string (⟨#[]⟩ : ByteArray)]) (t := 24) ?hr ?_; (case hd => rfl); (case hg => rfl); (case hr => first | (go_simp; done) | (go_simp; rfl)); intro gb321 hg w47 hbox hb; have n0_ := Aside0.mk (Kd.B_below (by (with_reducible repeat (first | apply Kd.B_alloc | apply Kd.B_drewN | apply Kd.B_drew)); exact HO_10.out) hb); have n1_ := Aside0.mk (blk_below (g := gb308) (o := .cells #[.string a0_0, .int .u64 a0_1, .string a0_2] 24 (0, 0)) (by (with_reducible repeat (first | refine blk_drewN ?_ _ | refine blk_drew ?_ | refine blk_alloc ?_ _)); exact BK308.out) hb); have n2_ := Aside0.mk (below_step (by repeat (first | (with_reducible first | exact HB.out | apply below_alloc | apply pw_below_drewN | apply below_drew1 | refine below_set ?_ GE308.out) | exact HB.out)) hb); have n3_ := Aside0.mk (hbox); have n4_ := Aside0.mk ((by rw [hg]; exact (below_size (by repeat (first | (with_reducible first | exact HB.out | apply below_alloc | apply pw_below_drewN | apply below_drew1 | refine below_set ?_ GE308.out) | exact HB.out))) : w.heap.size ≤ gb321)); have n5_ := Aside0.mk ((by rw [hg]; exact (below_size (by repeat (first | (with_reducible first | exact HB.out | apply below_alloc | apply pw_below_drewN | apply below_drew1 | refine below_set ?_ GE308.out) | exact HB.out))) : w.heap.size ≤ gb321)); have n6_ := Aside0.mk ((by rw [hg]; exact Nat.ne_of_lt (blk_lt (g := gb308) (o := .cells #[.string a0_0, .int .u64 a0_1, .string a0_2] 24 (0, 0)) (by (with_reducible repeat (first | refine blk_drewN ?_ _ | refine blk_drew ?_ | refine blk_alloc ?_ _)); exact BK308.out)) : gb308 ≠ gb321)); have n7_ := Aside0.mk ((by rw [hg]; exact Nat.ne_of_gt (blk_lt (g := gb308) (o := .cells #[.string a0_0, .int .u64 a0_1, .string a0_2] 24 (0, 0)) (by (with_reducible repeat (first | refine blk_drewN ?_ _ | refine blk_drew ?_ | refine blk_alloc ?_ _)); exact BK308.out)) : gb321 ≠ gb308)); clear HO_10; clear BK308; clear HB; have HO_10 := n0_; have BK308 := n1_; have HB := n2_; have BK321 := n3_; have GW321 := n4_; have GE321 := n5_; have NB308_321 := n6_; have NB321_308 := n7_; clear n0_ n1_ n2_ n3_ n4_ n5_ n6_ n7_; clear hb hbox hg; have hnb48 := NB321_308.out; have hnc48 := NB308_321.out; have hcz49_0 : w47.cell? ⟨gb321, 0, none⟩ = some (.string (⟨#[]⟩ : ByteArray)) := (blk_cell BK321.out 0).trans rfl; have hcz49_1 : w47.cell? ⟨gb321, 1, none⟩ = some (.int .u64 0) := (blk_cell BK321.out 1).trans rfl; have hcz49_2 : w47.cell? ⟨gb321, 2, none⟩ = some (.string (⟨#[]⟩ : ByteArray)) := (blk_cell BK321.out 2).trans rfl; have hfz49_0 := blk_frozen BK321.out 0; have hfz49_1 := blk_frozen BK321.out 1; have hfz49_2 := blk_frozen BK321.out 2) | ((with_reducible refine gate_callee (f := 16) rfl ?_); refine goesL_ (some 97) rfl rfl Tryd.func16 (by kernel_rfl) rfl #[.string (t310.extract 0 ((ji39) : Int).toNat)] rfl (by (try simp only [List.map_toArray, List.map_cons, List.map_nil]); first | done | (simp only [hji39]; rfl) | rfl | (simp only [List.length_drop, List.length_take]; rfl) | (rw [wrap_sum2 (by assumption)]; rfl)) ?_; (with_reducible refine (stream_Take.calls k3 (t310.extract 0 ((ji39) : Int).toNat) t322 t323 t324 t325 _ A42.out (HT.below (by repeat (first | (with_reducible first | exact HB.out | apply below_alloc | apply pw_below_drewN | apply below_drew1 | refine below_set ?_ GE308.out | refine below_set ?_ GE321.out) | exact HB.out)))).mono ?_); rintro e w50 ⟨rfl, hb⟩; refine ⟨_, rfl, ?_⟩; have n0_ := Aside0.mk (Kd.B_below (by (with_reducible repeat (first | apply Kd.B_alloc | apply Kd.B_drewN | apply Kd.B_drew)); exact (Kd.B_mono (Kd.B_far (p := ⟨gb321, 2, none⟩) (Kd.B_far (p := ⟨gb321, 1, none⟩) (Kd.B_far (p := ⟨gb321, 0, none⟩) (Kd.B_types HO_10.out BK321.out (by decide)) (fun _ hk => hk.2) (.string t317)) (fun _ hk => hk.2) (.int .u64 t318)) (fun _ hk => hk.2) (.string t319)) (fun _ h_ => h_.1))) hb); have n1_ := Aside0.mk (blk_below (g := gb308) (o := .cells #[.string a0_0, .int .u64 a0_1, .string a0_2] 24 (0, 0)) (by (with_reducible repeat (first | refine blk_drewN ?_ _ | refine blk_drew ?_ | refine blk_alloc ?_ _)); refine blk_far ?_ NB308_321.out _; (with_reducible repeat (first | refine blk_drewN ?_ _ | refine blk_drew ?_ | refine blk_alloc ?_ _)); refine blk_far ?_ NB308_321.out _; (with_reducible repeat (first | refine blk_drewN ?_ _ | refine blk_drew ?_ | refine blk_alloc ?_ _)); refine blk_far ?_ NB308_321.out _; (with_reducible repeat (first | refine blk_drewN ?_ _ | refine blk_drew ?_ | refine blk_alloc ?_ _)); exact BK308.out) hb); have n2_ := Aside0.mk (blk_below (g := gb321) (o := .cells #[.string t317, .int .u64 t318, .string t319] 24 (0, 0)) (by (with_reducible repeat (first | refine blk_drewN ?_ _ | refine blk_drew ?_ | refine blk_alloc ?_ _)); refine blk_put (cs := #[.string t317, .int .u64 t318, .string (⟨#[]⟩ : ByteArray)]) ?_ 2 _ rfl; (with_reducible repeat (first | refine blk_drewN ?_ _ | refine blk_drew ?_ | refine blk_alloc ?_ _)); refine blk_put (cs := #[.string t317, .int .u64 0, .string (⟨#[]⟩ : ByteArray)]) ?_ 1 _ rfl; (with_reducible repeat (first | refine blk_drewN ?_ _ | refine blk_drew ?_ | refine blk_alloc ?_ _)); refine blk_put (cs := #[.string (⟨#[]⟩ : ByteArray), .int .u64 0, .string (⟨#[]⟩ : ByteArray)]) ?_ 0 _ rfl; (with_reducible repeat (first | refine blk_drewN ?_ _ | refine blk_drew ?_ | refine blk_alloc ?_ _)); exact BK321.out) hb); have n3_ := Aside0.mk (below_step (by repeat (first | (with_reducible first | exact HB.out | apply below_alloc | apply pw_below_drewN | apply below_drew1 | refine below_set ?_ GE308.out | refine below_set ?_ GE321.out) | exact HB.out)) hb); clear HO_10; clear BK308; clear BK321; clear HB; have HO_10 := n0_; have BK308 := n1_; have BK321 := n2_; have HB := n3_; clear n0_ n1_ n2_ n3_; (try clear hb); (try clear hb2); (try clear hk); (try clear hi)) | ((with_reducible refine gate_dst (N := 14) rfl ?_); (try (refine gate_guard (by rfl) ?_; dsimp only)); refine box_event ?hg (N := 14) ?hd (cs := #[.string (⟨#[]⟩ : ByteArray), .int .u64 0, .string (⟨#[]⟩ : ByteArray)]) (t := 24) ?hr ?_; (case hd => rfl); (case hg => rfl); (case hr => first | (go_simp; done) | (go_simp; rfl)); intro gb326 hg w51 hbox hb; have n0_ := Aside0.mk (Kd.B_below (by (with_reducible repeat (first | apply Kd.B_alloc | apply Kd.B_drewN | apply Kd.B_drew)); exact HO_10.out) hb); have n1_ := Aside0.mk (blk_below (g := gb308) (o := .cells #[.string a0_0, .int .u64 a0_1, .string a0_2] 24 (0, 0)) (by (with_reducible repeat (first | refine blk_drewN ?_ _ | refine blk_drew ?_ | refine blk_alloc ?_ _)); exact BK308.out) hb); have n2_ := Aside0.mk (blk_below (g := gb321) (o := .cells #[.string t317, .int .u64 t318, .string t319] 24 (0, 0)) (by (with_reducible repeat (first | refine blk_drewN ?_ _ | refine blk_drew ?_ | refine blk_alloc ?_ _)); exact BK321.out) hb); have n3_ := Aside0.mk (below_step (by repeat (first | (with_reducible first | exact HB.out | apply below_alloc | apply pw_below_drewN | apply below_drew1 | refine below_set ?_ GE308.out | refine below_set ?_ GE321.out) | exact HB.out)) hb); have n4_ := Aside0.mk (hbox); have n5_ := Aside0.mk ((by rw [hg]; exact (below_size (by repeat (first | (with_reducible first | exact HB.out | apply below_alloc | apply pw_below_drewN | apply below_drew1 | refine below_set ?_ GE308.out | refine below_set ?_ GE321.out) | exact HB.out))) : w.heap.size ≤ gb326)); have n6_ := Aside0.mk ((by rw [hg]; exact (below_size (by repeat (first | (with_reducible first | exact HB.out | apply below_alloc | apply pw_below_drewN | apply below_drew1 | refine below_set ?_ GE308.out | refine below_set ?_ GE321.out) | exact HB.out))) : w.heap.size ≤ gb326)); have n7_ := Aside0.mk ((by rw [hg]; exact Nat.ne_of_lt (blk_lt (g := gb308) (o := .cells #[.string a0_0, .int .u64 a0_1, .string a0_2] 24 (0, 0)) (by (with_reducible repeat (first | refine blk_drewN ?_ _ | refine blk_drew ?_ | refine blk_alloc ?_ _)); exact BK308.out)) : gb308 ≠ gb326)); have n8_ := Aside0.mk ((by rw [hg]; exact Nat.ne_of_gt (blk_lt (g := gb308) (o := .cells #[.string a0_0, .int .u64 a0_1, .string a0_2] 24 (0, 0)) (by (with_reducible repeat (first | refine blk_drewN ?_ _ | refine blk_drew ?_ | refine blk_alloc ?_ _)); exact BK308.out)) : gb326 ≠ gb308)); have n9_ := Aside0.mk ((by rw [hg]; exact Nat.ne_of_lt (blk_lt (g := gb321) (o := .cells #[.string t317, .int .u64 t318, .string t319] 24 (0, 0)) (by (with_reducible repeat (first | refine blk_drewN ?_ _ | refine blk_drew ?_ | refine blk_alloc ?_ _)); exact BK321.out)) : gb321 ≠ gb326)); have n10_ := Aside0.mk ((by rw [hg]; exact Nat.ne_of_gt (blk_lt (g := gb321) (o := .cells #[.string t317, .int .u64 t318, .string t319] 24 (0, 0)) (by (with_reducible repeat (first | refine blk_drewN ?_ _ | refine blk_drew ?_ | refine blk_alloc ?_ _)); exact BK321.out)) : gb326 ≠ gb321)); clear HO_10; clear BK308; clear BK321; clear HB; have HO_10 := n0_; have BK308 := n1_; have BK321 := n2_; have HB := n3_; have BK326 := n4_; have GW326 := n5_; have GE326 := n6_; have NB308_326 := n7_; have NB326_308 := n8_; have NB321_326 := n9_; have NB326_321 := n10_; clear n0_ n1_ n2_ n3_ n4_ n5_ n6_ n7_ n8_ n9_ n10_; clear hb hbox hg; have hnb52 := NB326_308.out; have hnc52 := NB308_326.out; have hnb53 := NB326_321.out; have hnc53 := NB321_326.out; have hcz54_0 : w51.cell? ⟨gb326, 0, none⟩ = some (.string (⟨#[]⟩ : ByteArray)) := (blk_cell BK326.out 0).trans rfl; have hcz54_1 : w51.cell? ⟨gb326, 1, none⟩ = some (.int .u64 0) := (blk_cell BK326.out 1).trans rfl; have hcz54_2 : w51.cell? ⟨gb326, 2, none⟩ = some (.string (⟨#[]⟩ : ByteArray)) := (blk_cell BK326.out 2).trans rfl; have hfz54_0 := blk_frozen BK326.out 0; have hfz54_1 := blk_frozen BK326.out 1; have hfz54_2 := blk_frozen BK326.out 2; have hcz55_0 : w51.cell? ⟨gb321, 0, none⟩ = some (.string t317) := (blk_cell BK321.out 0).trans rfl; have hcz55_1 : w51.cell? ⟨gb321, 1, none⟩ = some (.int .u64 t318) := (blk_cell BK321.out 1).trans rfl; have hcz55_2 : w51.cell? ⟨gb321, 2, none⟩ = some (.string t319) := (blk_cell BK321.out 2).trans rfl; have hfz55_0 := blk_frozen BK321.out 0; have hfz55_1 := blk_frozen BK321.out 1; have hfz55_2 := blk_frozen BK321.out 2))
               go_ret
               exact ⟨by first | rfl | (simp [errW_none, errW_some] <;> rfl) | (simp only [← hji39]; first | rfl | (simp [errW_none, errW_some] <;> rfl)) | (simp [*, errW_none, errW_some] <;> rfl), by repeat (first | (with_reducible first | exact HB.out | apply below_alloc | apply pw_below_drewN | apply below_drew1 | refine below_set ?_ GE308.out | refine below_set ?_ GE321.out | refine below_set ?_ GE326.out) | exact HB.out)⟩
              ·rw [if_neg c44] at H
               have c44b0 : (t320 == 9) = false := beq_eq_false_iff_ne.mpr c44
               have c44b1 : (t320 != 9) = true := bne_iff_ne.mpr c44
               obtain rfl := Option.some.inj H
               have hcv56 := Kd.B_string (P := Tryd.prog) Tryd.underlying43 Tryd.underlying5 Tryd.underlying9 HO_10.out
               go_wp2_with (first | ((with_reducible refine gate_callee (f := 16) rfl ?_); refine goesL_ (some 88) rfl rfl Tryd.func16 (by kernel_rfl) rfl #[.string (strOfNums x10_3)] rfl (by (try simp only [List.map_toArray, List.map_cons, List.map_nil]); first | done | rfl | (simp only [List.length_drop, List.length_take]; rfl) | (rw [wrap_sum2 (by assumption)]; rfl)) ?_; (with_reducible refine (stream_Take.calls k3 (strOfNums x10_3) t317 t318 t319 t320 _ A38.out (HT.below (by repeat (first | (with_reducible first | exact HB.out | apply below_alloc | apply pw_below_drewN | apply below_drew1 | refine below_set ?_ GE308.out) | exact HB.out)))).mono ?_); rintro e w57 ⟨rfl, hb⟩; refine ⟨_, rfl, ?_⟩; have n0_ := Aside0.mk (Kd.B_below (by (with_reducible repeat (first | apply Kd.B_alloc | apply Kd.B_drewN | apply Kd.B_drew)); exact HO_10.out) hb); have n1_ := Aside0.mk (blk_below (g := gb308) (o := .cells #[.string a0_0, .int .u64 a0_1, .string a0_2] 24 (0, 0)) (by (with_reducible repeat (first | refine blk_drewN ?_ _ | refine blk_drew ?_ | refine blk_alloc ?_ _)); exact BK308.out) hb); have n2_ := Aside0.mk (below_step (by repeat (first | (with_reducible first | exact HB.out | apply below_alloc | apply pw_below_drewN | apply below_drew1 | refine below_set ?_ GE308.out) | exact HB.out)) hb); clear HO_10; clear BK308; clear HB; have HO_10 := n0_; have BK308 := n1_; have HB := n2_; clear n0_ n1_ n2_; (try clear hb); (try clear hb2); (try clear hk); (try clear hi)) | ((with_reducible refine gate_dst (N := 12) rfl ?_); (try (refine gate_guard (by rfl) ?_; dsimp only)); refine box_event ?hg (N := 12) ?hd (cs := #[.string (⟨#[]⟩ : ByteArray), .int .u64 0, .string (⟨#[]⟩ : ByteArray)]) (t := 24) ?hr ?_; (case hd => rfl); (case hg => rfl); (case hr => first | (go_simp; done) | (go_simp; rfl)); intro gb321 hg w58 hbox hb; have n0_ := Aside0.mk (Kd.B_below (by (with_reducible repeat (first | apply Kd.B_alloc | apply Kd.B_drewN | apply Kd.B_drew)); exact HO_10.out) hb); have n1_ := Aside0.mk (blk_below (g := gb308) (o := .cells #[.string a0_0, .int .u64 a0_1, .string a0_2] 24 (0, 0)) (by (with_reducible repeat (first | refine blk_drewN ?_ _ | refine blk_drew ?_ | refine blk_alloc ?_ _)); exact BK308.out) hb); have n2_ := Aside0.mk (below_step (by repeat (first | (with_reducible first | exact HB.out | apply below_alloc | apply pw_below_drewN | apply below_drew1 | refine below_set ?_ GE308.out) | exact HB.out)) hb); have n3_ := Aside0.mk (hbox); have n4_ := Aside0.mk ((by rw [hg]; exact (below_size (by repeat (first | (with_reducible first | exact HB.out | apply below_alloc | apply pw_below_drewN | apply below_drew1 | refine below_set ?_ GE308.out) | exact HB.out))) : w.heap.size ≤ gb321)); have n5_ := Aside0.mk ((by rw [hg]; exact (below_size (by repeat (first | (with_reducible first | exact HB.out | apply below_alloc | apply pw_below_drewN | apply below_drew1 | refine below_set ?_ GE308.out) | exact HB.out))) : w.heap.size ≤ gb321)); have n6_ := Aside0.mk ((by rw [hg]; exact Nat.ne_of_lt (blk_lt (g := gb308) (o := .cells #[.string a0_0, .int .u64 a0_1, .string a0_2] 24 (0, 0)) (by (with_reducible repeat (first | refine blk_drewN ?_ _ | refine blk_drew ?_ | refine blk_alloc ?_ _)); exact BK308.out)) : gb308 ≠ gb321)); have n7_ := Aside0.mk ((by rw [hg]; exact Nat.ne_of_gt (blk_lt (g := gb308) (o := .cells #[.string a0_0, .int .u64 a0_1, .string a0_2] 24 (0, 0)) (by (with_reducible repeat (first | refine blk_drewN ?_ _ | refine blk_drew ?_ | refine blk_alloc ?_ _)); exact BK308.out)) : gb321 ≠ gb308)); clear HO_10; clear BK308; clear HB; have HO_10 := n0_; have BK308 := n1_; have HB := n2_; have BK321 := n3_; have GW321 := n4_; have GE321 := n5_; have NB308_321 := n6_; have NB321_308 := n7_; clear n0_ n1_ n2_ n3_ n4_ n5_ n6_ n7_; clear hb hbox hg; have hnb59 := NB321_308.out; have hnc59 := NB308_321.out; have hcz60_0 : w58.cell? ⟨gb321, 0, none⟩ = some (.string (⟨#[]⟩ : ByteArray)) := (blk_cell BK321.out 0).trans rfl; have hcz60_1 : w58.cell? ⟨gb321, 1, none⟩ = some (.int .u64 0) := (blk_cell BK321.out 1).trans rfl; have hcz60_2 : w58.cell? ⟨gb321, 2, none⟩ = some (.string (⟨#[]⟩ : ByteArray)) := (blk_cell BK321.out 2).trans rfl; have hfz60_0 := blk_frozen BK321.out 0; have hfz60_1 := blk_frozen BK321.out 1; have hfz60_2 := blk_frozen BK321.out 2) | ((with_reducible refine gate_callee (f := 16) rfl ?_); refine goesL_ (some 97) rfl rfl Tryd.func16 (by kernel_rfl) rfl #[.string (t310.extract 0 ((ji39) : Int).toNat)] rfl (by (try simp only [List.map_toArray, List.map_cons, List.map_nil]); first | done | (simp only [hji39]; rfl) | rfl | (simp only [List.length_drop, List.length_take]; rfl) | (rw [wrap_sum2 (by assumption)]; rfl)) ?_; (with_reducible refine (stream_Take.calls k3 (t310.extract 0 ((ji39) : Int).toNat) t322 t323 t324 t325 _ A42.out (HT.below (by repeat (first | (with_reducible first | exact HB.out | apply below_alloc | apply pw_below_drewN | apply below_drew1 | refine below_set ?_ GE308.out | refine below_set ?_ GE321.out) | exact HB.out)))).mono ?_); rintro e w61 ⟨rfl, hb⟩; refine ⟨_, rfl, ?_⟩; have n0_ := Aside0.mk (Kd.B_below (by (with_reducible repeat (first | apply Kd.B_alloc | apply Kd.B_drewN | apply Kd.B_drew)); exact (Kd.B_mono (Kd.B_far (p := ⟨gb321, 2, none⟩) (Kd.B_far (p := ⟨gb321, 1, none⟩) (Kd.B_far (p := ⟨gb321, 0, none⟩) (Kd.B_types HO_10.out BK321.out (by decide)) (fun _ hk => hk.2) (.string t317)) (fun _ hk => hk.2) (.int .u64 t318)) (fun _ hk => hk.2) (.string t319)) (fun _ h_ => h_.1))) hb); have n1_ := Aside0.mk (blk_below (g := gb308) (o := .cells #[.string a0_0, .int .u64 a0_1, .string a0_2] 24 (0, 0)) (by (with_reducible repeat (first | refine blk_drewN ?_ _ | refine blk_drew ?_ | refine blk_alloc ?_ _)); refine blk_far ?_ NB308_321.out _; (with_reducible repeat (first | refine blk_drewN ?_ _ | refine blk_drew ?_ | refine blk_alloc ?_ _)); refine blk_far ?_ NB308_321.out _; (with_reducible repeat (first | refine blk_drewN ?_ _ | refine blk_drew ?_ | refine blk_alloc ?_ _)); refine blk_far ?_ NB308_321.out _; (with_reducible repeat (first | refine blk_drewN ?_ _ | refine blk_drew ?_ | refine blk_alloc ?_ _)); exact BK308.out) hb); have n2_ := Aside0.mk (blk_below (g := gb321) (o := .cells #[.string t317, .int .u64 t318, .string t319] 24 (0, 0)) (by (with_reducible repeat (first | refine blk_drewN ?_ _ | refine blk_drew ?_ | refine blk_alloc ?_ _)); refine blk_put (cs := #[.string t317, .int .u64 t318, .string (⟨#[]⟩ : ByteArray)]) ?_ 2 _ rfl; (with_reducible repeat (first | refine blk_drewN ?_ _ | refine blk_drew ?_ | refine blk_alloc ?_ _)); refine blk_put (cs := #[.string t317, .int .u64 0, .string (⟨#[]⟩ : ByteArray)]) ?_ 1 _ rfl; (with_reducible repeat (first | refine blk_drewN ?_ _ | refine blk_drew ?_ | refine blk_alloc ?_ _)); refine blk_put (cs := #[.string (⟨#[]⟩ : ByteArray), .int .u64 0, .string (⟨#[]⟩ : ByteArray)]) ?_ 0 _ rfl; (with_reducible repeat (first | refine blk_drewN ?_ _ | refine blk_drew ?_ | refine blk_alloc ?_ _)); exact BK321.out) hb); have n3_ := Aside0.mk (below_step (by repeat (first | (with_reducible first | exact HB.out | apply below_alloc | apply pw_below_drewN | apply below_drew1 | refine below_set ?_ GE308.out | refine below_set ?_ GE321.out) | exact HB.out)) hb); clear HO_10; clear BK308; clear BK321; clear HB; have HO_10 := n0_; have BK308 := n1_; have BK321 := n2_; have HB := n3_; clear n0_ n1_ n2_ n3_; (try clear hb); (try clear hb2); (try clear hk); (try clear hi)) | ((with_reducible refine gate_dst (N := 14) rfl ?_); (try (refine gate_guard (by rfl) ?_; dsimp only)); refine box_event ?hg (N := 14) ?hd (cs := #[.string (⟨#[]⟩ : ByteArray), .int .u64 0, .string (⟨#[]⟩ : ByteArray)]) (t := 24) ?hr ?_; (case hd => rfl); (case hg => rfl); (case hr => first | (go_simp; done) | (go_simp; rfl)); intro gb326 hg w62 hbox hb; have n0_ := Aside0.mk (Kd.B_below (by (with_reducible repeat (first | apply Kd.B_alloc | apply Kd.B_drewN | apply Kd.B_drew)); exact HO_10.out) hb); have n1_ := Aside0.mk (blk_below (g := gb308) (o := .cells #[.string a0_0, .int .u64 a0_1, .string a0_2] 24 (0, 0)) (by (with_reducible repeat (first | refine blk_drewN ?_ _ | refine blk_drew ?_ | refine blk_alloc ?_ _)); exact BK308.out) hb); have n2_ := Aside0.mk (blk_below (g := gb321) (o := .cells #[.string t317, .int .u64 t318, .string t319] 24 (0, 0)) (by (with_reducible repeat (first | refine blk_drewN ?_ _ | refine blk_drew ?_ | refine blk_alloc ?_ _)); exact BK321.out) hb); have n3_ := Aside0.mk (below_step (by repeat (first | (with_reducible first | exact HB.out | apply below_alloc | apply pw_below_drewN | apply below_drew1 | refine below_set ?_ GE308.out | refine below_set ?_ GE321.out) | exact HB.out)) hb); have n4_ := Aside0.mk (hbox); have n5_ := Aside0.mk ((by rw [hg]; exact (below_size (by repeat (first | (with_reducible first | exact HB.out | apply below_alloc | apply pw_below_drewN | apply below_drew1 | refine below_set ?_ GE308.out | refine below_set ?_ GE321.out) | exact HB.out))) : w.heap.size ≤ gb326)); have n6_ := Aside0.mk ((by rw [hg]; exact (below_size (by repeat (first | (with_reducible first | exact HB.out | apply below_alloc | apply pw_below_drewN | apply below_drew1 | refine below_set ?_ GE308.out | refine below_set ?_ GE321.out) | exact HB.out))) : w.heap.size ≤ gb326)); have n7_ := Aside0.mk ((by rw [hg]; exact Nat.ne_of_lt (blk_lt (g := gb308) (o := .cells #[.string a0_0, .int .u64 a0_1, .string a0_2] 24 (0, 0)) (by (with_reducible repeat (first | refine blk_drewN ?_ _ | refine blk_drew ?_ | refine blk_alloc ?_ _)); exact BK308.out)) : gb308 ≠ gb326)); have n8_ := Aside0.mk ((by rw [hg]; exact Nat.ne_of_gt (blk_lt (g := gb308) (o := .cells #[.string a0_0, .int .u64 a0_1, .string a0_2] 24 (0, 0)) (by (with_reducible repeat (first | refine blk_drewN ?_ _ | refine blk_drew ?_ | refine blk_alloc ?_ _)); exact BK308.out)) : gb326 ≠ gb308)); have n9_ := Aside0.mk ((by rw [hg]; exact Nat.ne_of_lt (blk_lt (g := gb321) (o := .cells #[.string t317, .int .u64 t318, .string t319] 24 (0, 0)) (by (with_reducible repeat (first | refine blk_drewN ?_ _ | refine blk_drew ?_ | refine blk_alloc ?_ _)); exact BK321.out)) : gb321 ≠ gb326)); have n10_ := Aside0.mk ((by rw [hg]; exact Nat.ne_of_gt (blk_lt (g := gb321) (o := .cells #[.string t317, .int .u64 t318, .string t319] 24 (0, 0)) (by (with_reducible repeat (first | refine blk_drewN ?_ _ | refine blk_drew ?_ | refine blk_alloc ?_ _)); exact BK321.out)) : gb326 ≠ gb321)); clear HO_10; clear BK308; clear BK321; clear HB; have HO_10 := n0_; have BK308 := n1_; have BK321 := n2_; have HB := n3_; have BK326 := n4_; have GW326 := n5_; have GE326 := n6_; have NB308_326 := n7_; have NB326_308 := n8_; have NB321_326 := n9_; have NB326_321 := n10_; clear n0_ n1_ n2_ n3_ n4_ n5_ n6_ n7_ n8_ n9_ n10_; clear hb hbox hg; have hnb63 := NB326_308.out; have hnc63 := NB308_326.out; have hnb64 := NB326_321.out; have hnc64 := NB321_326.out; have hcz65_0 : w62.cell? ⟨gb326, 0, none⟩ = some (.string (⟨#[]⟩ : ByteArray)) := (blk_cell BK326.out 0).trans rfl; have hcz65_1 : w62.cell? ⟨gb326, 1, none⟩ = some (.int .u64 0) := (blk_cell BK326.out 1).trans rfl; have hcz65_2 : w62.cell? ⟨gb326, 2, none⟩ = some (.string (⟨#[]⟩ : ByteArray)) := (blk_cell BK326.out 2).trans rfl; have hfz65_0 := blk_frozen BK326.out 0; have hfz65_1 := blk_frozen BK326.out 1; have hfz65_2 := blk_frozen BK326.out 2; have hcz66_0 : w62.cell? ⟨gb321, 0, none⟩ = some (.string t317) := (blk_cell BK321.out 0).trans rfl; have hcz66_1 : w62.cell? ⟨gb321, 1, none⟩ = some (.int .u64 t318) := (blk_cell BK321.out 1).trans rfl; have hcz66_2 : w62.cell? ⟨gb321, 2, none⟩ = some (.string t319) := (blk_cell BK321.out 2).trans rfl; have hfz66_0 := blk_frozen BK321.out 0; have hfz66_1 := blk_frozen BK321.out 1; have hfz66_2 := blk_frozen BK321.out 2))
               go_ret
               exact ⟨by first | rfl | (simp [errW_none, errW_some] <;> rfl) | (simp only [← hji39]; first | rfl | (simp [errW_none, errW_some] <;> rfl)) | (simp [*, errW_none, errW_some] <;> rfl), by repeat (first | (with_reducible first | exact HB.out | apply below_alloc | apply pw_below_drewN | apply below_drew1 | refine below_set ?_ GE308.out | refine below_set ?_ GE321.out | refine below_set ?_ GE326.out) | exact HB.out)⟩
             ·rw [if_neg c43] at H
              (try (have c43p := c43; simp only [Bool.and_eq_true, beq_iff_eq] at c43p; replace c43p := eq_false c43p))
              have c43b0 : (t317.toList == ([] : List UInt8) && (t318 == 0 && (t319.toList == ([] : List UInt8)))) = false := by simpa using c43
              (try (have c43b1 : decide (t317.toList = ([] : List UInt8) && (t318 == 0 && (t319.toList == ([] : List UInt8)))) = false := by simpa using c43))
              (try (have c43b2 : (t317.toList == ([] : List UInt8) && (t318 == 0 && (t319.toList == ([] : List UInt8)))) = false := by simpa using c43))
              (try (have c43b3 : ¬ (t317.toList = ([] : List UInt8) && (t318 == 0 && (t319.toList == ([] : List UInt8)))) := by simpa using c43))
              clear c43
              obtain rfl := Option.some.inj H
              have hcv67 := Kd.B_string (P := Tryd.prog) Tryd.underlying43 Tryd.underlying5 Tryd.underlying9 HO_10.out
              go_wp2_with (first | ((with_reducible refine gate_callee (f := 16) rfl ?_); refine goesL_ (some 88) rfl rfl Tryd.func16 (by kernel_rfl) rfl #[.string (strOfNums x10_3)] rfl (by (try simp only [List.map_toArray, List.map_cons, List.map_nil]); first | done | rfl | (simp only [List.length_drop, List.length_take]; rfl) | (rw [wrap_sum2 (by assumption)]; rfl)) ?_; (with_reducible refine (stream_Take.calls k3 (strOfNums x10_3) t317 t318 t319 t320 _ A38.out (HT.below (by repeat (first | (with_reducible first | exact HB.out | apply below_alloc | apply pw_below_drewN | apply below_drew1 | refine below_set ?_ GE308.out) | exact HB.out)))).mono ?_); rintro e w68 ⟨rfl, hb⟩; refine ⟨_, rfl, ?_⟩; have n0_ := Aside0.mk (Kd.B_below (by (with_reducible repeat (first | apply Kd.B_alloc | apply Kd.B_drewN | apply Kd.B_drew)); exact HO_10.out) hb); have n1_ := Aside0.mk (blk_below (g := gb308) (o := .cells #[.string a0_0, .int .u64 a0_1, .string a0_2] 24 (0, 0)) (by (with_reducible repeat (first | refine blk_drewN ?_ _ | refine blk_drew ?_ | refine blk_alloc ?_ _)); exact BK308.out) hb); have n2_ := Aside0.mk (below_step (by repeat (first | (with_reducible first | exact HB.out | apply below_alloc | apply pw_below_drewN | apply below_drew1 | refine below_set ?_ GE308.out) | exact HB.out)) hb); clear HO_10; clear BK308; clear HB; have HO_10 := n0_; have BK308 := n1_; have HB := n2_; clear n0_ n1_ n2_; (try clear hb); (try clear hb2); (try clear hk); (try clear hi)) | ((with_reducible refine gate_dst (N := 12) rfl ?_); (try (refine gate_guard (by rfl) ?_; dsimp only)); refine box_event ?hg (N := 12) ?hd (cs := #[.string (⟨#[]⟩ : ByteArray), .int .u64 0, .string (⟨#[]⟩ : ByteArray)]) (t := 24) ?hr ?_; (case hd => rfl); (case hg => rfl); (case hr => first | (go_simp; done) | (go_simp; rfl)); intro gb321 hg w69 hbox hb; have n0_ := Aside0.mk (Kd.B_below (by (with_reducible repeat (first | apply Kd.B_alloc | apply Kd.B_drewN | apply Kd.B_drew)); exact HO_10.out) hb); have n1_ := Aside0.mk (blk_below (g := gb308) (o := .cells #[.string a0_0, .int .u64 a0_1, .string a0_2] 24 (0, 0)) (by (with_reducible repeat (first | refine blk_drewN ?_ _ | refine blk_drew ?_ | refine blk_alloc ?_ _)); exact BK308.out) hb); have n2_ := Aside0.mk (below_step (by repeat (first | (with_reducible first | exact HB.out | apply below_alloc | apply pw_below_drewN | apply below_drew1 | refine below_set ?_ GE308.out) | exact HB.out)) hb); have n3_ := Aside0.mk (hbox); have n4_ := Aside0.mk ((by rw [hg]; exact (below_size (by repeat (first | (with_reducible first | exact HB.out | apply below_alloc | apply pw_below_drewN | apply below_drew1 | refine below_set ?_ GE308.out) | exact HB.out))) : w.heap.size ≤ gb321)); have n5_ := Aside0.mk ((by rw [hg]; exact (below_size (by repeat (first | (with_reducible first | exact HB.out | apply below_alloc | apply pw_below_drewN | apply below_drew1 | refine below_set ?_ GE308.out) | exact HB.out))) : w.heap.size ≤ gb321)); have n6_ := Aside0.mk ((by rw [hg]; exact Nat.ne_of_lt (blk_lt (g := gb308) (o := .cells #[.string a0_0, .int .u64 a0_1, .string a0_2] 24 (0, 0)) (by (with_reducible repeat (first | refine blk_drewN ?_ _ | refine blk_drew ?_ | refine blk_alloc ?_ _)); exact BK308.out)) : gb308 ≠ gb321)); have n7_ := Aside0.mk ((by rw [hg]; exact Nat.ne_of_gt (blk_lt (g := gb308) (o := .cells #[.string a0_0, .int .u64 a0_1, .string a0_2] 24 (0, 0)) (by (with_reducible repeat (first | refine blk_drewN ?_ _ | refine blk_drew ?_ | refine blk_alloc ?_ _)); exact BK308.out)) : gb321 ≠ gb308)); clear HO_10; clear BK308; clear HB; have HO_10 := n0_; have BK308 := n1_; have HB := n2_; have BK321 := n3_; have GW321 := n4_; have GE321 := n5_; have NB308_321 := n6_; have NB321_308 := n7_; clear n0_ n1_ n2_ n3_ n4_ n5_ n6_ n7_; clear hb hbox hg; have hnb70 := NB321_308.out; have hnc70 := NB308_321.out; have hcz71_0 : w69.cell? ⟨gb321, 0, none⟩ = some (.string (⟨#[]⟩ : ByteArray)) := (blk_cell BK321.out 0).trans rfl; have hcz71_1 : w69.cell? ⟨gb321, 1, none⟩ = some (.int .u64 0) := (blk_cell BK321.out 1).trans rfl; have hcz71_2 : w69.cell? ⟨gb321, 2, none⟩ = some (.string (⟨#[]⟩ : ByteArray)) := (blk_cell BK321.out 2).trans rfl; have hfz71_0 := blk_frozen BK321.out 0; have hfz71_1 := blk_frozen BK321.out 1; have hfz71_2 := blk_frozen BK321.out 2) | ((with_reducible refine gate_callee (f := 16) rfl ?_); refine goesL_ (some 97) rfl rfl Tryd.func16 (by kernel_rfl) rfl #[.string (t310.extract 0 ((ji39) : Int).toNat)] rfl (by (try simp only [List.map_toArray, List.map_cons, List.map_nil]); first | done | (simp only [hji39]; rfl) | rfl | (simp only [List.length_drop, List.length_take]; rfl) | (rw [wrap_sum2 (by assumption)]; rfl)) ?_; (with_reducible refine (stream_Take.calls k3 (t310.extract 0 ((ji39) : Int).toNat) t322 t323 t324 t325 _ A42.out (HT.below (by repeat (first | (with_reducible first | exact HB.out | apply below_alloc | apply pw_below_drewN | apply below_drew1 | refine below_set ?_ GE308.out | refine below_set ?_ GE321.out) | exact HB.out)))).mono ?_); rintro e w72 ⟨rfl, hb⟩; refine ⟨_, rfl, ?_⟩; have n0_ := Aside0.mk (Kd.B_below (by (with_reducible repeat (first | apply Kd.B_alloc | apply Kd.B_drewN | apply Kd.B_drew)); exact (Kd.B_mono (Kd.B_far (p := ⟨gb321, 2, none⟩) (Kd.B_far (p := ⟨gb321, 1, none⟩) (Kd.B_far (p := ⟨gb321, 0, none⟩) (Kd.B_types HO_10.out BK321.out (by decide)) (fun _ hk => hk.2) (.string t317)) (fun _ hk => hk.2) (.int .u64 t318)) (fun _ hk => hk.2) (.string t319)) (fun _ h_ => h_.1))) hb); have n1_ := Aside0.mk (blk_below (g := gb308) (o := .cells #[.string a0_0, .int .u64 a0_1, .string a0_2] 24 (0, 0)) (by (with_reducible repeat (first | refine blk_drewN ?_ _ | refine blk_drew ?_ | refine blk_alloc ?_ _)); refine blk_far ?_ NB308_321.out _; (with_reducible repeat (first | refine blk_drewN ?_ _ | refine blk_drew ?_ | refine blk_alloc ?_ _)); refine blk_far ?_ NB308_321.out _; (with_reducible repeat (first | refine blk_drewN ?_ _ | refine blk_drew ?_ | refine blk_alloc ?_ _)); refine blk_far ?_ NB308_321.out _; (with_reducible repeat (first | refine blk_drewN ?_ _ | refine blk_drew ?_ | refine blk_alloc ?_ _)); exact BK308.out) hb); have n2_ := Aside0.mk (blk_below (g := gb321) (o := .cells #[.string t317, .int .u64 t318, .string t319] 24 (0, 0)) (by (with_reducible repeat (first | refine blk_drewN ?_ _ | refine blk_drew ?_ | refine blk_alloc ?_ _)); refine blk_put (cs := #[.string t317, .int .u64 t318, .string (⟨#[]⟩ : ByteArray)]) ?_ 2 _ rfl; (with_reducible repeat (first | refine blk_drewN ?_ _ | refine blk_drew ?_ | refine blk_alloc ?_ _)); refine blk_put (cs := #[.string t317, .int .u64 0, .string (⟨#[]⟩ : ByteArray)]) ?_ 1 _ rfl; (with_reducible repeat (first | refine blk_drewN ?_ _ | refine blk_drew ?_ | refine blk_alloc ?_ _)); refine blk_put (cs := #[.string (⟨#[]⟩ : ByteArray), .int .u64 0, .string (⟨#[]⟩ : ByteArray)]) ?_ 0 _ rfl; (with_reducible repeat (first | refine blk_drewN ?_ _ | refine blk_drew ?_ | refine blk_alloc ?_ _)); exact BK321.out) hb); have n3_ := Aside0.mk (below_step (by repeat (first | (with_reducible first | exact HB.out | apply below_alloc | apply pw_below_drewN | apply below_drew1 | refine below_set ?_ GE308.out | refine below_set ?_ GE321.out) | exact HB.out)) hb); clear HO_10; clear BK308; clear BK321; clear HB; have HO_10 := n0_; have BK308 := n1_; have BK321 := n2_; have HB := n3_; clear n0_ n1_ n2_ n3_; (try clear hb); (try clear hb2); (try clear hk); (try clear hi)) | ((with_reducible refine gate_dst (N := 14) rfl ?_); (try (refine gate_guard (by rfl) ?_; dsimp only)); refine box_event ?hg (N := 14) ?hd (cs := #[.string (⟨#[]⟩ : ByteArray), .int .u64 0, .string (⟨#[]⟩ : ByteArray)]) (t := 24) ?hr ?_; (case hd => rfl); (case hg => rfl); (case hr => first | (go_simp; done) | (go_simp; rfl)); intro gb326 hg w73 hbox hb; have n0_ := Aside0.mk (Kd.B_below (by (with_reducible repeat (first | apply Kd.B_alloc | apply Kd.B_drewN | apply Kd.B_drew)); exact HO_10.out) hb); have n1_ := Aside0.mk (blk_below (g := gb308) (o := .cells #[.string a0_0, .int .u64 a0_1, .string a0_2] 24 (0, 0)) (by (with_reducible repeat (first | refine blk_drewN ?_ _ | refine blk_drew ?_ | refine blk_alloc ?_ _)); exact BK308.out) hb); have n2_ := Aside0.mk (blk_below (g := gb321) (o := .cells #[.string t317, .int .u64 t318, .string t319] 24 (0, 0)) (by (with_reducible repeat (first | refine blk_drewN ?_ _ | refine blk_drew ?_ | refine blk_alloc ?_ _)); exact BK321.out) hb); have n3_ := Aside0.mk (below_step (by repeat (first | (with_reducible first | exact HB.out | apply below_alloc | apply pw_below_drewN | apply below_drew1 | refine below_set ?_ GE308.out | refine below_set ?_ GE321.out) | exact HB.out)) hb); have n4_ := Aside0.mk (hbox); have n5_ := Aside0.mk ((by rw [hg]; exact (below_size (by repeat (first | (with_reducible first | exact HB.out | apply below_alloc | apply pw_below_drewN | apply below_drew1 | refine below_set ?_ GE308.out | refine below_set ?_ GE321.out) | exact HB.out))) : w.heap.size ≤ gb326)); have n6_ := Aside0.mk ((by rw [hg]; exact (below_size (by repeat (first | (with_reducible first | exact HB.out | apply below_alloc | apply pw_below_drewN | apply below_drew1 | refine below_set ?_ GE308.out | refine below_set ?_ GE321.out) | exact HB.out))) : w.heap.size ≤ gb326)); have n7_ := Aside0.mk ((by rw [hg]; exact Nat.ne_of_lt (blk_lt (g := gb308) (o := .cells #[.string a0_0, .int .u64 a0_1, .string a0_2] 24 (0, 0)) (by (with_reducible repeat (first | refine blk_drewN ?_ _ | refine blk_drew ?_ | refine blk_alloc ?_ _)); exact BK308.out)) : gb308 ≠ gb326)); have n8_ := Aside0.mk ((by rw [hg]; exact Nat.ne_of_gt (blk_lt (g := gb308) (o := .cells #[.string a0_0, .int .u64 a0_1, .string a0_2] 24 (0, 0)) (by (with_reducible repeat (first | refine blk_drewN ?_ _ | refine blk_drew ?_ | refine blk_alloc ?_ _)); exact BK308.out)) : gb326 ≠ gb308)); have n9_ := Aside0.mk ((by rw [hg]; exact Nat.ne_of_lt (blk_lt (g := gb321) (o := .cells #[.string t317, .int .u64 t318, .string t319] 24 (0, 0)) (by (with_reducible repeat (first | refine blk_drewN ?_ _ | refine blk_drew ?_ | refine blk_alloc ?_ _)); exact BK321.out)) : gb321 ≠ gb326)); have n10_ := Aside0.mk ((by rw [hg]; exact Nat.ne_of_gt (blk_lt (g := gb321) (o := .cells #[.string t317, .int .u64 t318, .string t319] 24 (0, 0)) (by (with_reducible repeat (first | refine blk_drewN ?_ _ | refine blk_drew ?_ | refine blk_alloc ?_ _)); exact BK321.out)) : gb326 ≠ gb321)); clear HO_10; clear BK308; clear BK321; clear HB; have HO_10 := n0_; have BK308 := n1_; have BK321 := n2_; have HB := n3_; have BK326 := n4_; have GW326 := n5_; have GE326 := n6_; have NB308_326 := n7_; have NB326_308 := n8_; have NB321_326 := n9_; have NB326_321 := n10_; clear n0_ n1_ n2_ n3_ n4_ n5_ n6_ n7_ n8_ n9_ n10_; clear hb hbox hg; have hnb74 := NB326_308.out; have hnc74 := NB308_326.out; have hnb75 := NB326_321.out; have hnc75 := NB321_326.out; have hcz76_0 : w73.cell? ⟨gb326, 0, none⟩ = some (.string (⟨#[]⟩ : ByteArray)) := (blk_cell BK326.out 0).trans rfl; have hcz76_1 : w73.cell? ⟨gb326, 1, none⟩ = some (.int .u64 0) := (blk_cell BK326.out 1).trans rfl; have hcz76_2 : w73.cell? ⟨gb326, 2, none⟩ = some (.string (⟨#[]⟩ : ByteArray)) := (blk_cell BK326.out 2).trans rfl; have hfz76_0 := blk_frozen BK326.out 0; have hfz76_1 := blk_frozen BK326.out 1; have hfz76_2 := blk_frozen BK326.out 2; have hcz77_0 : w73.cell? ⟨gb321, 0, none⟩ = some (.string t317) := (blk_cell BK321.out 0).trans rfl; have hcz77_1 : w73.cell? ⟨gb321, 1, none⟩ = some (.int .u64 t318) := (blk_cell BK321.out 1).trans rfl; have hcz77_2 : w73.cell? ⟨gb321, 2, none⟩ = some (.string t319) := (blk_cell BK321.out 2).trans rfl; have hfz77_0 := blk_frozen BK321.out 0; have hfz77_1 := blk_frozen BK321.out 1; have hfz77_2 := blk_frozen BK321.out 2))
              go_ret
              exact ⟨by first | rfl | (simp [errW_none, errW_some] <;> rfl) | (simp only [← hji39]; first | rfl | (simp [errW_none, errW_some] <;> rfl)) | (simp [*, errW_none, errW_some] <;> rfl), by repeat (first | (with_reducible first | exact HB.out | apply below_alloc | apply pw_below_drewN | apply below_drew1 | refine below_set ?_ GE308.out | refine below_set ?_ GE321.out | refine below_set ?_ GE326.out) | exact HB.out)⟩
            ·rw [if_neg c41] at H
             exact absurd H (by simp)
           ·rw [if_neg c40] at H
            exact absurd H (by simp)
       ·rw [if_neg c21] at H
        exact absurd H (by simp)


end Go.Proofs.YtfoniidbkbmjeaaDoor.Fn
end
