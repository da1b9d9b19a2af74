-- Packed by pack.py, a program of this session, out of texts of this claim.
import Derived.Test.YtfoniidbkbmjeaaDoorClStreamBack1
import Derived.Test.YtfoniidbkbmjeaaDoorClStreamBack2
import Derived.Test.YtfoniidbkbmjeaaDoorClStreamBack4
section
-- Written by printx.py, a program of this session over the kit's print: each Go function as a plain Lean function, and that the Go code computes it.







namespace Go.Proofs.YtfoniidbkbmjeaaDoor.Fn
open Go.RowKit Go.Proofs.YtfoniidbkbmjeaaDoorW.PrintWords Go.Proofs.YtfoniidbkbmjeaaDoorW.PrintLast Go.Proofs.YtfoniidbkbmjeaaDoorW.PrintMore Go.Proofs.YtfoniidbkbmjeaaDoor.Lf
attribute [local go_sem] max2_int min2_int max_two min_two max_three min_three max_four min_four   -- for this text's walks alone
set_option linter.unusedVariables false
set_option linter.unusedSimpArgs false

attribute [local go_sem high] eqA30
/-! ### rootcellarlaw17_StreamTakes: function 6 -/
def rootcellarlaw17_StreamTakes.j0 : Nat → ByteArray → Bool → Bool → Bool → Option (Bool)
 | 0, _, _, _, _ => none
 | k + 1, x0, x1, x5, x17 => if x17 = true then (some x5) else (if x1 = true then ((rootcellarref3_Put.f k x0).bind fun t265 => ((stream_Take.f k t265).bind fun bt266 => ((rootcellarref17_Take.f k t265).bind fun bt271 => ((rootcellarlaw17_as.f bt266.1 bt266.2.1 bt266.2.2.1).bind fun bt276 => (if (bt276.1.toList == bt271.1.toList && (bt276.2.1 == bt271.2.1 && (bt276.2.2.toList == bt271.2.2.1.toList))) = true then (some (bt266.2.2.2 == bt271.2.2.2)) else (some false)))))) else ((stream_Take.f k x0).bind fun bt279 => ((rootcellarref17_Take.f k x0).bind fun bt284 => ((rootcellarlaw17_as.f bt279.1 bt279.2.1 bt279.2.2.1).bind fun bt289 => (if (bt289.1.toList == bt284.1.toList && (bt289.2.1 == bt284.2.1 && (bt289.2.2.toList == bt284.2.2.1.toList))) = true then (some (bt279.2.2.2 == bt284.2.2.2)) else (some false))))))
def rootcellarlaw17_StreamTakes.f (k : Nat) (a0 : ByteArray) (a1 : Bool) : Option (Bool) := (rootcellarlaw17_shown.f).bind fun t264 => (if t264 = true then (rootcellarlaw17_StreamTakes.j0 k a0 a1 t264 (decide ((a0.size : Int) > 2000))) else (rootcellarlaw17_StreamTakes.j0 k a0 a1 t264 true))
theorem rootcellarlaw17_StreamTakes.mono_l : ∀ k, (∀ y0 y1 y2 y3, LeO (rootcellarlaw17_StreamTakes.j0 k y0 y1 y2 y3) (rootcellarlaw17_StreamTakes.j0 (k + 1) y0 y1 y2 y3))
 | 0 => fun _ _ _ _ r h => by simp [rootcellarlaw17_StreamTakes.j0] at h
 | k + 1 => by
  have ih0 := rootcellarlaw17_StreamTakes.mono_l k
  ·intro y0 y1 y2 y3
   unfold rootcellarlaw17_StreamTakes.j0
   repeat' first
   | (with_reducible exact ih0 _ _ _ _)
   | (with_reducible exact rootcellarref17_Take.mono _ _)
   | (with_reducible exact rootcellarref3_Put.mono _ _)
   | (with_reducible exact stream_Take.mono _ _)
   | (with_reducible exact LeO.refl _)
   | (with_reducible exact LeO.none _)
   | (with_reducible refine LeO.ite ?_ ?_)
   | (with_reducible refine LeO.bind ?_ (fun _ => ?_))
   | exact ih0 _ _ _ _
   | exact rootcellarref17_Take.mono _ _
   | exact rootcellarref3_Put.mono _ _
   | exact stream_Take.mono _ _
   | exact LeO.none _
   | refine LeO.ite ?_ ?_
   | refine LeO.bind ?_ (fun _ => ?_)
theorem rootcellarlaw17_StreamTakes.mono : ∀ a0 a1 k, LeO (rootcellarlaw17_StreamTakes.f k a0 a1) (rootcellarlaw17_StreamTakes.f (k + 1) a0 a1) := by
 intro a0 a1 k
 have ih0 := rootcellarlaw17_StreamTakes.mono_l k
 unfold rootcellarlaw17_StreamTakes.f
 repeat' first
   | (with_reducible exact ih0 _ _ _ _)
   | (with_reducible exact rootcellarref17_Take.mono _ _)
   | (with_reducible exact rootcellarref3_Put.mono _ _)
   | (with_reducible exact stream_Take.mono _ _)
   | (with_reducible exact LeO.refl _)
   | (with_reducible exact LeO.none _)
   | (with_reducible refine LeO.ite ?_ ?_)
   | (with_reducible refine LeO.bind ?_ (fun _ => ?_))
   | exact ih0 _ _ _ _
   | exact rootcellarref17_Take.mono _ _
   | exact rootcellarref3_Put.mono _ _
   | exact stream_Take.mono _ _
   | exact LeO.none _
   | refine LeO.ite ?_ ?_
   | refine LeO.bind ?_ (fun _ => ?_)
def rootcellarlaw17_StreamTakes.T8 : Bool × List (List Nat × List Nat) := (true, [([], []), ([0], [0]), ([], []), ([1, 2], [1, 2]), ([3, 1], [3]), ([4], [4]), ([4], [4]), ([5, 6, 4], [4, 5, 6]), ([4, 7], [4, 7]), ([8, 4, 0, 1, 2, 3, 4, 5, 6, 7, 8], [8])])
def rootcellarlaw17_StreamTakes.B8 : List Nat := [0, 1, 0, 7, 15, 31, 31, 127, 255, 511]
theorem rootcellarlaw17_StreamTakes.tab8 : rtab .any (opsOf Tryd.f6 8) = rootcellarlaw17_StreamTakes.T8 := by kernel_rfl
theorem rootcellarlaw17_StreamTakes.bits8 : waitsOk rootcellarlaw17_StreamTakes.T8.2 rootcellarlaw17_StreamTakes.B8 = true := by kernel_rfl
set_option maxHeartbeats 8000000 in
set_option maxRecDepth 100000 in
theorem rootcellarlaw17_StreamTakes.calls (k : Nat) (a0 : ByteArray) (a1 : Bool) (r : Bool) (w : World) (h : rootcellarlaw17_StreamTakes.f k a0 a1 = some r) (HT : Tabs w) :
  Calls Tryd.prog 6 #[.string a0, .bool a1] w fun e w' => e = .returned (.bool r) ∧ Below w.heap.size w w' := by
 have hu24 := Tryd.underlying24
 have hu30 := Tryd.underlying30
 have HB := Aside0.mk (Below.refl w.heap.size w)
 have H : ((rootcellarlaw17_shown.f).bind fun t264 => (if t264 = true then (rootcellarlaw17_StreamTakes.j0 k a0 a1 t264 (decide ((a0.size : Int) > 2000))) else (rootcellarlaw17_StreamTakes.j0 k a0 a1 t264 true))) = some r := h
 clear h
 replace H := Option.bind_eq_some_iff.mp H
 obtain ⟨t264, A30, H⟩ := H
 replace H : (if t264 = true then (rootcellarlaw17_StreamTakes.j0 k a0 a1 t264 (decide ((a0.size : Int) > 2000))) else (rootcellarlaw17_StreamTakes.j0 k a0 a1 t264 true)) = some r := H
 have A3 := Aside0.mk A30
 clear A30
 have HC4 := Aside0.mk H
 clear H
 go_enter Tryd.func6, Tryd.ntmps6
 go_upto_region 2 with (first | ((with_reducible refine gate_callee (f := 9) rfl ?_); refine goesL_ (some 10) rfl rfl Tryd.func9 (by kernel_rfl) rfl #[] rfl (by (try simp only [List.map_toArray, List.map_cons, List.map_nil]); first | done | rfl | (simp only [List.length_drop, List.length_take]; rfl) | (rw [wrap_sum2 (by assumption)]; rfl)) ?_; (with_reducible refine (rootcellarlaw17_shown.calls  t264 _ A3.out (HT.below (by repeat (first | (with_reducible first | exact HB.out | apply below_alloc | apply pw_below_drewN | apply below_drew1) | exact HB.out)))).mono ?_); rintro e w5 ⟨rfl, hb⟩; refine ⟨_, rfl, ?_⟩; have n0_ := Aside0.mk (below_step (by repeat (first | (with_reducible first | exact HB.out | apply below_alloc | apply pw_below_drewN | apply below_drew1) | exact HB.out)) hb); clear HB; have HB := n0_; clear n0_; (try clear hb); (try clear hb2); (try clear hk); (try clear hi)))
 (try simp only [Act.put, List.setIfInBounds_toArray, List.set_cons_zero, List.set_cons_succ])
 go_cut [17] (fun v17 wc => ∃ (kq : Nat) (x17_3 : Bool), v17 = .bool x17_3 ∧ Aside0 (rootcellarlaw17_StreamTakes.j0 kq a0 a1 t264 x17_3 = some r) ∧ Aside0 (kq ≤ k) ∧ Aside0 (Below w.heap.size w wc))
 case first =>
  have H := HC4.out
  clear HC4
  by_cases c6 : t264 = true
  ·subst c6
   have H1 : (rootcellarlaw17_StreamTakes.j0 k a0 a1 true (decide ((a0.size : Int) > 2000))) = some r := by rw [if_pos rfl] at H; exact H
   clear H
   have H := H1
   clear H1
   have H' := Aside0.mk H
   clear H
   go_wp2
   go_meet
   case rel => exact ⟨_, (decide ((a0.size : Int) > 2000)), (by first | rfl | (simp; done) | (simp [*]; done)), H', ⟨by first | omega | exact Nat.le_refl _⟩, ⟨by repeat (first | (with_reducible first | exact HB.out | apply below_alloc | apply pw_below_drewN | apply below_drew1) | exact HB.out)⟩⟩
  ·replace c6 := Bool.eq_false_iff.mpr c6
   subst c6
   have H1 : (rootcellarlaw17_StreamTakes.j0 k a0 a1 false true) = some r := by rw [if_neg (show ¬ (false = true) by decide)] at H; exact H
   clear H
   have H := H1
   clear H1
   have H' := Aside0.mk H
   clear H
   go_wp2
   go_meet
   case rel => exact ⟨_, (true), (by first | rfl | (simp; done) | (simp [*]; done)), H', ⟨by first | omega | exact Nat.le_refl _⟩, ⟨by repeat (first | (with_reducible first | exact HB.out | apply below_alloc | apply pw_below_drewN | apply below_drew1) | exact HB.out)⟩⟩
 case rest =>
  clear HC4
  try clear p2
  try clear c6
  obtain ⟨kq, x17_3, rfl, HA, HJ3, HB⟩ := hcut
  cases kq with
  | zero => exact absurd HA.out (by simp [rootcellarlaw17_StreamTakes.j0])
  | succ kj3 =>
   have H := HA.out
   clear HA
   simp only [rootcellarlaw17_StreamTakes.j0] at H
   by_cases c7 : x17_3 = true
   ·subst c7
    have H1 : (some t264) = some r := by rw [if_pos rfl] at H; exact H
    clear H
    have H := H1
    clear H1
    obtain rfl := Option.some.inj H
    go_wp2
    go_ret
    exact ⟨by first | rfl | (simp [errW_none, errW_some] <;> rfl) | (simp [*, errW_none, errW_some] <;> rfl), by repeat (first | (with_reducible first | exact HB.out | apply below_alloc | apply pw_below_drewN | apply below_drew1) | exact HB.out)⟩
   ·replace c7 := Bool.eq_false_iff.mpr c7
    subst c7
    have H1 : (if a1 = true then ((rootcellarref3_Put.f kj3 a0).bind fun t265 => ((stream_Take.f kj3 t265).bind fun bt266 => ((rootcellarref17_Take.f kj3 t265).bind fun bt271 => ((rootcellarlaw17_as.f bt266.1 bt266.2.1 bt266.2.2.1).bind fun bt276 => (if (bt276.1.toList == bt271.1.toList && (bt276.2.1 == bt271.2.1 && (bt276.2.2.toList == bt271.2.2.1.toList))) = true then (some (bt266.2.2.2 == bt271.2.2.2)) else (some false)))))) else ((stream_Take.f kj3 a0).bind fun bt279 => ((rootcellarref17_Take.f kj3 a0).bind fun bt284 => ((rootcellarlaw17_as.f bt279.1 bt279.2.1 bt279.2.2.1).bind fun bt289 => (if (bt289.1.toList == bt284.1.toList && (bt289.2.1 == bt284.2.1 && (bt289.2.2.toList == bt284.2.2.1.toList))) = true then (some (bt279.2.2.2 == bt284.2.2.2)) else (some false)))))) = some r := by rw [if_neg (show ¬ (false = true) by decide)] at H; exact H
    clear H
    have H := H1
    clear H1
    by_cases c8 : a1 = true
    ·subst c8
     have H1 : ((rootcellarref3_Put.f kj3 a0).bind fun t265 => ((stream_Take.f kj3 t265).bind fun bt266 => ((rootcellarref17_Take.f kj3 t265).bind fun bt271 => ((rootcellarlaw17_as.f bt266.1 bt266.2.1 bt266.2.2.1).bind fun bt276 => (if (bt276.1.toList == bt271.1.toList && (bt276.2.1 == bt271.2.1 && (bt276.2.2.toList == bt271.2.2.1.toList))) = true then (some (bt266.2.2.2 == bt271.2.2.2)) else (some false)))))) = some r := by rw [if_pos rfl] at H; exact H
     clear H
     have H := H1
     clear H1
     replace H := Option.bind_eq_some_iff.mp H
     obtain ⟨t265, A90, H⟩ := H
     replace H : ((stream_Take.f kj3 t265).bind fun bt266 => ((rootcellarref17_Take.f kj3 t265).bind fun bt271 => ((rootcellarlaw17_as.f bt266.1 bt266.2.1 bt266.2.2.1).bind fun bt276 => (if (bt276.1.toList == bt271.1.toList && (bt276.2.1 == bt271.2.1 && (bt276.2.2.toList == bt271.2.2.1.toList))) = true then (some (bt266.2.2.2 == bt271.2.2.2)) else (some false))))) = some r := H
     have A9 := Aside0.mk A90
     clear A90
     replace H := Option.bind_eq_some_iff.mp H
     obtain ⟨⟨t266, t267, t268, t269⟩, A100, H⟩ := H
     replace H : ((rootcellarref17_Take.f kj3 t265).bind fun bt271 => ((rootcellarlaw17_as.f t266 t267 t268).bind fun bt276 => (if (bt276.1.toList == bt271.1.toList && (bt276.2.1 == bt271.2.1 && (bt276.2.2.toList == bt271.2.2.1.toList))) = true then (some (t269 == bt271.2.2.2)) else (some false)))) = some r := H
     have A10 := Aside0.mk A100
     clear A100
     replace H := Option.bind_eq_some_iff.mp H
     obtain ⟨⟨t271, t272, t273, t274⟩, A110, H⟩ := H
     replace H : ((rootcellarlaw17_as.f t266 t267 t268).bind fun bt276 => (if (bt276.1.toList == t271.toList && (bt276.2.1 == t272 && (bt276.2.2.toList == t273.toList))) = true then (some (t269 == t274)) else (some false))) = some r := H
     have A11 := Aside0.mk A110
     clear A110
     replace H := Option.bind_eq_some_iff.mp H
     obtain ⟨⟨t276, t277, t278⟩, A120, H⟩ := H
     replace H : (if (t276.toList == t271.toList && (t277 == t272 && (t278.toList == t273.toList))) = true then (some (t269 == t274)) else (some false)) = some r := H
     have A12 := Aside0.mk A120
     clear A120
     by_cases c13 : (t276.toList == t271.toList && (t277 == t272 && (t278.toList == t273.toList))) = true
     ·rw [if_pos c13] at H
      have c13b0 : (t276.toList == t271.toList && (t277 == t272 && (t278.toList == t273.toList))) = true := c13
      (try (have c13b1 : decide (t276.toList = t271.toList && (t277 == t272 && (t278.toList == t273.toList))) = true := by simpa using c13))
      (try (have c13b2 : (t276.toList == t271.toList && (t277 == t272 && (t278.toList == t273.toList))) = true := by simpa using c13))
      clear c13
      obtain rfl := Option.some.inj H
      try go_wp2_with (first | ((with_reducible refine gate_callee (f := 15) rfl ?_); refine goesL_ (some 21) rfl rfl Tryd.func15 (by kernel_rfl) rfl #[.string a0] rfl (by (try simp only [List.map_toArray, List.map_cons, List.map_nil]); first | done | rfl | (simp only [List.length_drop, List.length_take]; rfl) | (rw [wrap_sum2 (by assumption)]; rfl)) ?_; (with_reducible refine (rootcellarref3_Put.calls kj3 a0 t265 _ A9.out).mono ?_); rintro e w14 ⟨rfl, hb⟩; refine ⟨_, rfl, ?_⟩; have n0_ := Aside0.mk (below_step (by repeat (first | (with_reducible first | exact HB.out | apply below_alloc | apply pw_below_drewN | apply below_drew1) | exact HB.out)) hb); clear HB; have HB := n0_; clear n0_; (try clear hb); (try clear hb2); (try clear hk); (try clear hi)) | ((with_reducible refine gate_callee (f := 16) rfl ?_); refine goesL_ (some 24) rfl rfl Tryd.func16 (by kernel_rfl) rfl #[.string t265] rfl (by (try simp only [List.map_toArray, List.map_cons, List.map_nil]); first | done | rfl | (simp only [List.length_drop, List.length_take]; rfl) | (rw [wrap_sum2 (by assumption)]; rfl)) ?_; (with_reducible refine (stream_Take.calls kj3 t265 t266 t267 t268 t269 _ A10.out (HT.below (by repeat (first | (with_reducible first | exact HB.out | apply below_alloc | apply pw_below_drewN | apply below_drew1) | exact HB.out)))).mono ?_); rintro e w15 ⟨rfl, hb⟩; refine ⟨_, rfl, ?_⟩; have n0_ := Aside0.mk (below_step (by repeat (first | (with_reducible first | exact HB.out | apply below_alloc | apply pw_below_drewN | apply below_drew1) | exact HB.out)) hb); clear HB; have HB := n0_; clear n0_; (try clear hb); (try clear hb2); (try clear hk); (try clear hi)) | ((with_reducible refine gate_dst (N := 6) rfl ?_); (try (refine gate_guard (by rfl) ?_; dsimp only)); refine box_event ?hg (N := 6) ?hd (cs := #[.string (⟨#[]⟩ : ByteArray), .int .u64 0, .string (⟨#[]⟩ : ByteArray)]) (t := 24) ?hr ?_; (case hd => rfl); (case hg => rfl); (case hr => first | (go_simp; done) | (go_simp; rfl)); intro gb270 hg w16 hbox hb; have n0_ := Aside0.mk (below_step (by repeat (first | (with_reducible first | exact HB.out | apply below_alloc | apply pw_below_drewN | apply below_drew1) | exact HB.out)) hb); have n1_ := Aside0.mk (hbox); have n2_ := Aside0.mk ((by rw [hg]; exact (below_size (by repeat (first | (with_reducible first | exact HB.out | apply below_alloc | apply pw_below_drewN | apply below_drew1) | exact HB.out))) : w.heap.size ≤ gb270)); have n3_ := Aside0.mk ((by rw [hg]; exact (below_size (by repeat (first | (with_reducible first | exact HB.out | apply below_alloc | apply pw_below_drewN | apply below_drew1) | exact HB.out))) : w.heap.size ≤ gb270)); clear HB; have HB := n0_; have BK270 := n1_; have GW270 := n2_; have GE270 := n3_; clear n0_ n1_ n2_ n3_; clear hb hbox hg; have hcz17_0 : w16.cell? ⟨gb270, 0, none⟩ = some (.string (⟨#[]⟩ : ByteArray)) := (blk_cell BK270.out 0).trans rfl; have hcz17_1 : w16.cell? ⟨gb270, 1, none⟩ = some (.int .u64 0) := (blk_cell BK270.out 1).trans rfl; have hcz17_2 : w16.cell? ⟨gb270, 2, none⟩ = some (.string (⟨#[]⟩ : ByteArray)) := (blk_cell BK270.out 2).trans rfl; have hfz17_0 := blk_frozen BK270.out 0; have hfz17_1 := blk_frozen BK270.out 1; have hfz17_2 := blk_frozen BK270.out 2) | ((with_reducible refine gate_callee (f := 17) rfl ?_); refine goesL_ (some 29) rfl rfl Tryd.func17 (by kernel_rfl) rfl #[.string t265] rfl (by (try simp only [List.map_toArray, List.map_cons, List.map_nil]); first | done | rfl | (simp only [List.length_drop, List.length_take]; rfl) | (rw [wrap_sum2 (by assumption)]; rfl)) ?_; (with_reducible refine (rootcellarref17_Take.calls kj3 t265 t271 t272 t273 t274 _ A11.out).mono ?_); rintro e w18 ⟨rfl, hb⟩; refine ⟨_, rfl, ?_⟩; have n0_ := Aside0.mk (blk_below (g := gb270) (o := .cells #[.string t266, .int .u64 t267, .string t268] 24 (0, 0)) (by (with_reducible repeat (first | refine blk_drewN ?_ _ | refine blk_drew ?_ | refine blk_alloc ?_ _)); refine blk_put (cs := #[.string t266, .int .u64 t267, .string (⟨#[]⟩ : ByteArray)]) ?_ 2 _ rfl; (with_reducible repeat (first | refine blk_drewN ?_ _ | refine blk_drew ?_ | refine blk_alloc ?_ _)); refine blk_put (cs := #[.string t266, .int .u64 0, .string (⟨#[]⟩ : ByteArray)]) ?_ 1 _ rfl; (with_reducible repeat (first | refine blk_drewN ?_ _ | refine blk_drew ?_ | refine blk_alloc ?_ _)); refine blk_put (cs := #[.string (⟨#[]⟩ : ByteArray), .int .u64 0, .string (⟨#[]⟩ : ByteArray)]) ?_ 0 _ rfl; (with_reducible repeat (first | refine blk_drewN ?_ _ | refine blk_drew ?_ | refine blk_alloc ?_ _)); exact BK270.out) hb); have n1_ := Aside0.mk (below_step (by repeat (first | (with_reducible first | exact HB.out | apply below_alloc | apply pw_below_drewN | apply below_drew1 | refine below_set ?_ GE270.out) | exact HB.out)) hb); clear BK270; clear HB; have BK270 := n0_; have HB := n1_; clear n0_ n1_; (try clear hb); (try clear hb2); (try clear hk); (try clear hi)) | ((with_reducible refine gate_dst (N := 8) rfl ?_); (try (refine gate_guard (by rfl) ?_; dsimp only)); refine box_event ?hg (N := 8) ?hd (cs := #[.string (⟨#[]⟩ : ByteArray), .int .u64 0, .string (⟨#[]⟩ : ByteArray)]) (t := 30) ?hr ?_; (case hd => rfl); (case hg => rfl); (case hr => first | (go_simp; done) | (go_simp; rfl)); intro gb275 hg w19 hbox hb; have n0_ := Aside0.mk (blk_below (g := gb270) (o := .cells #[.string t266, .int .u64 t267, .string t268] 24 (0, 0)) (by (with_reducible repeat (first | refine blk_drewN ?_ _ | refine blk_drew ?_ | refine blk_alloc ?_ _)); exact BK270.out) hb); have n1_ := Aside0.mk (below_step (by repeat (first | (with_reducible first | exact HB.out | apply below_alloc | apply pw_below_drewN | apply below_drew1 | refine below_set ?_ GE270.out) | exact HB.out)) hb); have n2_ := Aside0.mk (hbox); have n3_ := Aside0.mk ((by rw [hg]; exact (below_size (by repeat (first | (with_reducible first | exact HB.out | apply below_alloc | apply pw_below_drewN | apply below_drew1 | refine below_set ?_ GE270.out) | exact HB.out))) : w.heap.size ≤ gb275)); have n4_ := Aside0.mk ((by rw [hg]; exact (below_size (by repeat (first | (with_reducible first | exact HB.out | apply below_alloc | apply pw_below_drewN | apply below_drew1 | refine below_set ?_ GE270.out) | exact HB.out))) : w.heap.size ≤ gb275)); have n5_ := Aside0.mk ((by rw [hg]; exact Nat.ne_of_lt (blk_lt (g := gb270) (o := .cells #[.string t266, .int .u64 t267, .string t268] 24 (0, 0)) (by (with_reducible repeat (first | refine blk_drewN ?_ _ | refine blk_drew ?_ | refine blk_alloc ?_ _)); exact BK270.out)) : gb270 ≠ gb275)); have n6_ := Aside0.mk ((by rw [hg]; exact Nat.ne_of_gt (blk_lt (g := gb270) (o := .cells #[.string t266, .int .u64 t267, .string t268] 24 (0, 0)) (by (with_reducible repeat (first | refine blk_drewN ?_ _ | refine blk_drew ?_ | refine blk_alloc ?_ _)); exact BK270.out)) : gb275 ≠ gb270)); clear BK270; clear HB; have BK270 := n0_; have HB := n1_; have BK275 := n2_; have GW275 := n3_; have GE275 := n4_; have NB270_275 := n5_; have NB275_270 := n6_; clear n0_ n1_ n2_ n3_ n4_ n5_ n6_; clear hb hbox hg; have hnb20 := NB275_270.out; have hnc20 := NB270_275.out; have hcz21_0 : w19.cell? ⟨gb275, 0, none⟩ = some (.string (⟨#[]⟩ : ByteArray)) := (blk_cell BK275.out 0).trans rfl; have hcz21_1 : w19.cell? ⟨gb275, 1, none⟩ = some (.int .u64 0) := (blk_cell BK275.out 1).trans rfl; have hcz21_2 : w19.cell? ⟨gb275, 2, none⟩ = some (.string (⟨#[]⟩ : ByteArray)) := (blk_cell BK275.out 2).trans rfl; have hfz21_0 := blk_frozen BK275.out 0; have hfz21_1 := blk_frozen BK275.out 1; have hfz21_2 := blk_frozen BK275.out 2))
      have n0_ : Aside0 ((((w19.setCell ⟨gb275, 0, none⟩ (.string t271)).setCell ⟨gb275, 1, none⟩ (.int .u64 t272)).setCell ⟨gb275, 2, none⟩ (.string t273)).heap[gb270]? = some (.cells #[.string t266, .int .u64 t267, .string t268] 24 (0, 0))) := ⟨by (with_reducible repeat (first | refine blk_drewN ?_ _ | refine blk_drew ?_ | refine blk_alloc ?_ _)); refine blk_far ?_ NB270_275.out _; (with_reducible repeat (first | refine blk_drewN ?_ _ | refine blk_drew ?_ | refine blk_alloc ?_ _)); refine blk_far ?_ NB270_275.out _; (with_reducible repeat (first | refine blk_drewN ?_ _ | refine blk_drew ?_ | refine blk_alloc ?_ _)); refine blk_far ?_ NB270_275.out _; (with_reducible repeat (first | refine blk_drewN ?_ _ | refine blk_drew ?_ | refine blk_alloc ?_ _)); exact BK270.out⟩
      have n1_ : Aside0 ((((w19.setCell ⟨gb275, 0, none⟩ (.string t271)).setCell ⟨gb275, 1, none⟩ (.int .u64 t272)).setCell ⟨gb275, 2, none⟩ (.string t273)).heap[gb275]? = some (.cells #[.string t271, .int .u64 t272, .string t273] 30 (0, 0))) := ⟨by (with_reducible repeat (first | refine blk_drewN ?_ _ | refine blk_drew ?_ | refine blk_alloc ?_ _)); refine blk_put (cs := #[.string t271, .int .u64 t272, .string (⟨#[]⟩ : ByteArray)]) ?_ 2 _ rfl; (with_reducible repeat (first | refine blk_drewN ?_ _ | refine blk_drew ?_ | refine blk_alloc ?_ _)); refine blk_put (cs := #[.string t271, .int .u64 0, .string (⟨#[]⟩ : ByteArray)]) ?_ 1 _ rfl; (with_reducible repeat (first | refine blk_drewN ?_ _ | refine blk_drew ?_ | refine blk_alloc ?_ _)); refine blk_put (cs := #[.string (⟨#[]⟩ : ByteArray), .int .u64 0, .string (⟨#[]⟩ : ByteArray)]) ?_ 0 _ rfl; (with_reducible repeat (first | refine blk_drewN ?_ _ | refine blk_drew ?_ | refine blk_alloc ?_ _)); exact BK275.out⟩
      have n2_ : Aside0 (Below w.heap.size w (((w19.setCell ⟨gb275, 0, none⟩ (.string t271)).setCell ⟨gb275, 1, none⟩ (.int .u64 t272)).setCell ⟨gb275, 2, none⟩ (.string t273))) := ⟨by repeat (first | (with_reducible first | exact HB.out | apply below_alloc | apply pw_below_drewN | apply below_drew1 | refine below_set ?_ GE270.out | refine below_set ?_ GE275.out) | exact HB.out)⟩
      (try clear BK270)
      (try clear BK275)
      (try clear HB)
      generalize (((w19.setCell ⟨gb275, 0, none⟩ (.string t271)).setCell ⟨gb275, 1, none⟩ (.int .u64 t272)).setCell ⟨gb275, 2, none⟩ (.string t273)) = w22 at n0_ n1_ n2_ ⊢
      have BK270 := n0_
      have BK275 := n1_
      have HB := n2_
      clear n0_ n1_ n2_
      have n0_ := Aside0.mk (blk_drew BK270.out)
      have n1_ := Aside0.mk (blk_drew BK275.out)
      have n2_ := Aside0.mk (below_drew1 HB.out)
      clear BK270
      clear BK275
      clear HB
      have BK270 := n0_
      have BK275 := n1_
      have HB := n2_
      clear n0_ n1_ n2_
      refine start_ (n := 10) (S := fun w' => w'.cell? ⟨gb270, 0, none⟩ = some (.string t266) ∧ w'.cell? ⟨gb270, 1, none⟩ = some (.int .u64 t267) ∧ w'.cell? ⟨gb270, 2, none⟩ = some (.string t268) ∧ w'.cell? ⟨gb275, 0, none⟩ = some (.string t271) ∧ w'.cell? ⟨gb275, 1, none⟩ = some (.int .u64 t272) ∧ w'.cell? ⟨gb275, 2, none⟩ = some (.string t273)) (ds := []) #[false, false, false, false, false, false, false, false, false, false] (by kernel_rfl) rfl rfl ⟨(blk_cell BK270.out 0).trans rfl, (blk_cell BK270.out 1).trans rfl, (blk_cell BK270.out 2).trans rfl, (blk_cell BK275.out 0).trans rfl, (blk_cell BK275.out 1).trans rfl, (blk_cell BK275.out 2).trans rfl⟩ (fun hHeld => ?_); refine with_tabW rootcellarlaw17_StreamTakes.tab8 rootcellarlaw17_StreamTakes.bits8 (fun HT_ HW_ => ?_)
      generalize w22.drew = w23 at BK270 BK275 HB hHeld ⊢
      refine take_ (i := 0) (N := some 32) (v := ?_) (a' := ?_) #[true, false, false, false, false, false, false, false, false, false] rfl rfl (take_ofW HT_.out HW_.out (by kernel_rfl)) (fun _ _ _ h => h) (Or.inl ⟨by rfl, ?_⟩) hHeld ?_ ?_
      rotate_left
      ·rintro w' ⟨s0, s1, s2, s3, s4, s5⟩
       go_simp
       with_reducible rfl
      rotate_left
      ·simp only [Act.put, List.setIfInBounds_toArray, List.set_cons_zero, List.set_cons_succ, i64_w, i32_w]
       rfl
      refine take_ (i := 2) (N := some 34) (v := ?_) (a' := ?_) #[true, false, true, false, false, false, false, false, false, false] rfl rfl (take_ofW HT_.out HW_.out (by kernel_rfl)) (fun _ _ _ h => h) (Or.inl ⟨by rfl, ?_⟩) hHeld ?_ ?_
      rotate_left
      ·rintro w' ⟨s0, s1, s2, s3, s4, s5⟩
       go_simp
       with_reducible rfl
      rotate_left
      ·simp only [Act.put, List.setIfInBounds_toArray, List.set_cons_zero, List.set_cons_succ, i64_w, i32_w]
       rfl
      refine one_ (i := 1) (N := some 33) #[true, true, true, false, false, false, false, false, false, false] rfl rfl (one_of HT_.out (by kernel_rfl)) (by decide) (fun K hK => ?_)
      refine goes_ Tryd.func12 (by kernel_rfl) rfl #[.agg #[.string t266, .int .u64 t267, .string t268]] (by rfl) rfl rfl (by (try simp only [List.map_toArray, List.map_cons, List.map_nil]); first | done | rfl | (simp only [List.length_drop, List.length_take]; rfl) | (rw [wrap_sum2 (by assumption)]; rfl)) ?_
      with_reducible refine (rootcellarlaw17_as.calls t266 t267 t268 t276 t277 t278 _ A12.out).mono ?_
      rintro e w24 ⟨rfl, hb⟩
      refine ⟨_, rfl, ?_⟩
      have n0_ := Aside0.mk (blk_below (g := gb270) (o := .cells #[.string t266, .int .u64 t267, .string t268] 24 (0, 0)) (by (with_reducible repeat (first | refine blk_drewN ?_ _ | refine blk_drew ?_ | refine blk_alloc ?_ _)); exact BK270.out) hb)
      have n1_ := Aside0.mk (blk_below (g := gb275) (o := .cells #[.string t271, .int .u64 t272, .string t273] 30 (0, 0)) (by (with_reducible repeat (first | refine blk_drewN ?_ _ | refine blk_drew ?_ | refine blk_alloc ?_ _)); exact BK275.out) hb)
      have n2_ := Aside0.mk (below_step (by repeat (first | (with_reducible first | exact HB.out | apply below_alloc | apply pw_below_drewN | apply below_drew1 | refine below_set ?_ GE270.out | refine below_set ?_ GE275.out) | exact HB.out)) hb)
      clear BK270
      clear BK275
      clear HB
      have BK270 := n0_
      have BK275 := n1_
      have HB := n2_
      clear n0_ n1_ n2_
      (try clear hb)
      (try clear hb2)
      (try clear hk)
      (try clear hi)
      refine hK.out _ _ ⟨(blk_cell BK270.out 0).trans rfl, (blk_cell BK270.out 1).trans rfl, (blk_cell BK270.out 2).trans rfl, (blk_cell BK275.out 0).trans rfl, (blk_cell BK275.out 1).trans rfl, (blk_cell BK275.out 2).trans rfl⟩ (fun hHeld => ?_)
      clear hK K
      refine norm_ (a' := ?_) ?_ ?_
      rotate_left
      ·show Act.put _ (some 33) _ = _
       simp only [Act.put, List.setIfInBounds_toArray, List.set_cons_zero, List.set_cons_succ, i64_w, i32_w]
       rfl
      refine pure_ (i := 3) (N := some 35) (v := ?_) (a' := ?_) #[true, true, true, true, false, false, false, false, false, false] rfl rfl (any_of HT_.out (by kernel_rfl)) (fun _ _ _ h => h) (Or.inl ⟨by rfl, ?_⟩) ?_ ?_
      rotate_left
      ·intro w'
       go_simp
       with_reducible rfl
      rotate_left
      ·simp only [Act.put, List.setIfInBounds_toArray, List.set_cons_zero, List.set_cons_succ, i64_w, i32_w]
       rfl
      refine pure_ (i := 4) (N := some 36) (v := ?_) (a' := ?_) #[true, true, true, true, true, false, false, false, false, false] rfl rfl (any_of HT_.out (by kernel_rfl)) (fun _ _ _ h => h) (Or.inl ⟨by rfl, ?_⟩) ?_ ?_
      rotate_left
      ·intro w'
       go_simp
       with_reducible rfl
      rotate_left
      ·simp only [Act.put, List.setIfInBounds_toArray, List.set_cons_zero, List.set_cons_succ, i64_w, i32_w]
       rfl
      refine pure_ (i := 5) (N := some 37) (v := ?_) (a' := ?_) #[true, true, true, true, true, true, false, false, false, false] rfl rfl (any_of HT_.out (by kernel_rfl)) (fun _ _ _ h => h) (Or.inl ⟨by rfl, ?_⟩) ?_ ?_
      rotate_left
      ·intro w'
       go_simp
       with_reducible rfl
      rotate_left
      ·simp only [Act.put, List.setIfInBounds_toArray, List.set_cons_zero, List.set_cons_succ, i64_w, i32_w]
       rfl
      refine pure_ (i := 6) (N := some 38) (v := ?_) (a' := ?_) #[true, true, true, true, true, true, true, false, false, false] rfl rfl (any_of HT_.out (by kernel_rfl)) (fun _ _ _ h => h) (Or.inl ⟨by rfl, ?_⟩) ?_ ?_
      rotate_left
      ·intro w'
       go_simp
       with_reducible rfl
      rotate_left
      ·simp only [Act.put, List.setIfInBounds_toArray, List.set_cons_zero, List.set_cons_succ, i64_w, i32_w]
       rfl
      refine pure_ (i := 7) (N := some 39) (v := ?_) (a' := ?_) #[true, true, true, true, true, true, true, true, false, false] rfl rfl (any_of HT_.out (by kernel_rfl)) (fun _ _ _ h => h) (Or.inl ⟨by rfl, ?_⟩) ?_ ?_
      rotate_left
      ·intro w'
       go_simp
       with_reducible rfl
      rotate_left
      ·simp only [Act.put, List.setIfInBounds_toArray, List.set_cons_zero, List.set_cons_succ, i64_w, i32_w]
       rfl
      refine pure_ (i := 8) (N := some 40) (v := ?_) (a' := ?_) #[true, true, true, true, true, true, true, true, true, false] rfl rfl (any_of HT_.out (by kernel_rfl)) (fun _ _ _ h => h) (Or.inl ⟨by rfl, ?_⟩) ?_ ?_
      rotate_left
      ·intro w'
       go_simp
       with_reducible rfl
      rotate_left
      ·simp only [Act.put, List.setIfInBounds_toArray, List.set_cons_zero, List.set_cons_succ, i64_w, i32_w]
       rfl
      refine pure_ (i := 9) (N := some 4) (v := ?_) (a' := ?_) #[true, true, true, true, true, true, true, true, true, true] rfl rfl (any_of HT_.out (by kernel_rfl)) (fun _ _ _ h => h) (Or.inl ⟨by rfl, ?_⟩) ?_ ?_
      rotate_left
      ·intro w'
       go_simp
       with_reducible rfl
      rotate_left
      ·simp only [Act.put, List.setIfInBounds_toArray, List.set_cons_zero, List.set_cons_succ, i64_w, i32_w]
       rfl
      refine done_ (done_of HT_.out (by kernel_rfl)) ?_
      try go_wp2
      go_ret
      exact ⟨by first | rfl | (simp [errW_none, errW_some] <;> rfl) | (simp [*, errW_none, errW_some] <;> rfl), by repeat (first | (with_reducible first | exact HB.out | apply below_alloc | apply pw_below_drewN | apply below_drew1 | refine below_set ?_ GE270.out | refine below_set ?_ GE275.out) | exact HB.out)⟩
     ·rw [if_neg c13] at H
      have c13b0 : (t276.toList == t271.toList && (t277 == t272 && (t278.toList == t273.toList))) = false := by simpa using c13
      (try (have c13b1 : decide (t276.toList = t271.toList && (t277 == t272 && (t278.toList == t273.toList))) = false := by simpa using c13))
      (try (have c13b2 : (t276.toList == t271.toList && (t277 == t272 && (t278.toList == t273.toList))) = false := by simpa using c13))
      (try (have c13b3 : ¬ (t276.toList = t271.toList && (t277 == t272 && (t278.toList == t273.toList))) := by simpa using c13))
      clear c13
      obtain rfl := Option.some.inj H
      try go_wp2_with (first | ((with_reducible refine gate_callee (f := 15) rfl ?_); refine goesL_ (some 21) rfl rfl Tryd.func15 (by kernel_rfl) rfl #[.string a0] rfl (by (try simp only [List.map_toArray, List.map_cons, List.map_nil]); first | done | rfl | (simp only [List.length_drop, List.length_take]; rfl) | (rw [wrap_sum2 (by assumption)]; rfl)) ?_; (with_reducible refine (rootcellarref3_Put.calls kj3 a0 t265 _ A9.out).mono ?_); rintro e w25 ⟨rfl, hb⟩; refine ⟨_, rfl, ?_⟩; have n0_ := Aside0.mk (below_step (by repeat (first | (with_reducible first | exact HB.out | apply below_alloc | apply pw_below_drewN | apply below_drew1) | exact HB.out)) hb); clear HB; have HB := n0_; clear n0_; (try clear hb); (try clear hb2); (try clear hk); (try clear hi)) | ((with_reducible refine gate_callee (f := 16) rfl ?_); refine goesL_ (some 24) rfl rfl Tryd.func16 (by kernel_rfl) rfl #[.string t265] rfl (by (try simp only [List.map_toArray, List.map_cons, List.map_nil]); first | done | rfl | (simp only [List.length_drop, List.length_take]; rfl) | (rw [wrap_sum2 (by assumption)]; rfl)) ?_; (with_reducible refine (stream_Take.calls kj3 t265 t266 t267 t268 t269 _ A10.out (HT.below (by repeat (first | (with_reducible first | exact HB.out | apply below_alloc | apply pw_below_drewN | apply below_drew1) | exact HB.out)))).mono ?_); rintro e w26 ⟨rfl, hb⟩; refine ⟨_, rfl, ?_⟩; have n0_ := Aside0.mk (below_step (by repeat (first | (with_reducible first | exact HB.out | apply below_alloc | apply pw_below_drewN | apply below_drew1) | exact HB.out)) hb); clear HB; have HB := n0_; clear n0_; (try clear hb); (try clear hb2); (try clear hk); (try clear hi)) | ((with_reducible refine gate_dst (N := 6) rfl ?_); (try (refine gate_guard (by rfl) ?_; dsimp only)); refine box_event ?hg (N := 6) ?hd (cs := #[.string (⟨#[]⟩ : ByteArray), .int .u64 0, .string (⟨#[]⟩ : ByteArray)]) (t := 24) ?hr ?_; (case hd => rfl); (case hg => rfl); (case hr => first | (go_simp; done) | (go_simp; rfl)); intro gb270 hg w27 hbox hb; have n0_ := Aside0.mk (below_step (by repeat (first | (with_reducible first | exact HB.out | apply below_alloc | apply pw_below_drewN | apply below_drew1) | exact HB.out)) hb); have n1_ := Aside0.mk (hbox); have n2_ := Aside0.mk ((by rw [hg]; exact (below_size (by repeat (first | (with_reducible first | exact HB.out | apply below_alloc | apply pw_below_drewN | apply below_drew1) | exact HB.out))) : w.heap.size ≤ gb270)); have n3_ := Aside0.mk ((by rw [hg]; exact (below_size (by repeat (first | (with_reducible first | exact HB.out | apply below_alloc | apply pw_below_drewN | apply below_drew1) | exact HB.out))) : w.heap.size ≤ gb270)); clear HB; have HB := n0_; have BK270 := n1_; have GW270 := n2_; have GE270 := n3_; clear n0_ n1_ n2_ n3_; clear hb hbox hg; have hcz28_0 : w27.cell? ⟨gb270, 0, none⟩ = some (.string (⟨#[]⟩ : ByteArray)) := (blk_cell BK270.out 0).trans rfl; have hcz28_1 : w27.cell? ⟨gb270, 1, none⟩ = some (.int .u64 0) := (blk_cell BK270.out 1).trans rfl; have hcz28_2 : w27.cell? ⟨gb270, 2, none⟩ = some (.string (⟨#[]⟩ : ByteArray)) := (blk_cell BK270.out 2).trans rfl; have hfz28_0 := blk_frozen BK270.out 0; have hfz28_1 := blk_frozen BK270.out 1; have hfz28_2 := blk_frozen BK270.out 2) | ((with_reducible refine gate_callee (f := 17) rfl ?_); refine goesL_ (some 29) rfl rfl Tryd.func17 (by kernel_rfl) rfl #[.string t265] rfl (by (try simp only [List.map_toArray, List.map_cons, List.map_nil]); first | done | rfl | (simp only [List.length_drop, List.length_take]; rfl) | (rw [wrap_sum2 (by assumption)]; rfl)) ?_; (with_reducible refine (rootcellarref17_Take.calls kj3 t265 t271 t272 t273 t274 _ A11.out).mono ?_); rintro e w29 ⟨rfl, hb⟩; refine ⟨_, rfl, ?_⟩; have n0_ := Aside0.mk (blk_below (g := gb270) (o := .cells #[.string t266, .int .u64 t267, .string t268] 24 (0, 0)) (by (with_reducible repeat (first | refine blk_drewN ?_ _ | refine blk_drew ?_ | refine blk_alloc ?_ _)); refine blk_put (cs := #[.string t266, .int .u64 t267, .string (⟨#[]⟩ : ByteArray)]) ?_ 2 _ rfl; (with_reducible repeat (first | refine blk_drewN ?_ _ | refine blk_drew ?_ | refine blk_alloc ?_ _)); refine blk_put (cs := #[.string t266, .int .u64 0, .string (⟨#[]⟩ : ByteArray)]) ?_ 1 _ rfl; (with_reducible repeat (first | refine blk_drewN ?_ _ | refine blk_drew ?_ | refine blk_alloc ?_ _)); refine blk_put (cs := #[.string (⟨#[]⟩ : ByteArray), .int .u64 0, .string (⟨#[]⟩ : ByteArray)]) ?_ 0 _ rfl; (with_reducible repeat (first | refine blk_drewN ?_ _ | refine blk_drew ?_ | refine blk_alloc ?_ _)); exact BK270.out) hb); have n1_ := Aside0.mk (below_step (by repeat (first | (with_reducible first | exact HB.out | apply below_alloc | apply pw_below_drewN | apply below_drew1 | refine below_set ?_ GE270.out) | exact HB.out)) hb); clear BK270; clear HB; have BK270 := n0_; have HB := n1_; clear n0_ n1_; (try clear hb); (try clear hb2); (try clear hk); (try clear hi)) | ((with_reducible refine gate_dst (N := 8) rfl ?_); (try (refine gate_guard (by rfl) ?_; dsimp only)); refine box_event ?hg (N := 8) ?hd (cs := #[.string (⟨#[]⟩ : ByteArray), .int .u64 0, .string (⟨#[]⟩ : ByteArray)]) (t := 30) ?hr ?_; (case hd => rfl); (case hg => rfl); (case hr => first | (go_simp; done) | (go_simp; rfl)); intro gb275 hg w30 hbox hb; have n0_ := Aside0.mk (blk_below (g := gb270) (o := .cells #[.string t266, .int .u64 t267, .string t268] 24 (0, 0)) (by (with_reducible repeat (first | refine blk_drewN ?_ _ | refine blk_drew ?_ | refine blk_alloc ?_ _)); exact BK270.out) hb); have n1_ := Aside0.mk (below_step (by repeat (first | (with_reducible first | exact HB.out | apply below_alloc | apply pw_below_drewN | apply below_drew1 | refine below_set ?_ GE270.out) | exact HB.out)) hb); have n2_ := Aside0.mk (hbox); have n3_ := Aside0.mk ((by rw [hg]; exact (below_size (by repeat (first | (with_reducible first | exact HB.out | apply below_alloc | apply pw_below_drewN | apply below_drew1 | refine below_set ?_ GE270.out) | exact HB.out))) : w.heap.size ≤ gb275)); have n4_ := Aside0.mk ((by rw [hg]; exact (below_size (by repeat (first | (with_reducible first | exact HB.out | apply below_alloc | apply pw_below_drewN | apply below_drew1 | refine below_set ?_ GE270.out) | exact HB.out))) : w.heap.size ≤ gb275)); have n5_ := Aside0.mk ((by rw [hg]; exact Nat.ne_of_lt (blk_lt (g := gb270) (o := .cells #[.string t266, .int .u64 t267, .string t268] 24 (0, 0)) (by (with_reducible repeat (first | refine blk_drewN ?_ _ | refine blk_drew ?_ | refine blk_alloc ?_ _)); exact BK270.out)) : gb270 ≠ gb275)); have n6_ := Aside0.mk ((by rw [hg]; exact Nat.ne_of_gt (blk_lt (g := gb270) (o := .cells #[.string t266, .int .u64 t267, .string t268] 24 (0, 0)) (by (with_reducible repeat (first | refine blk_drewN ?_ _ | refine blk_drew ?_ | refine blk_alloc ?_ _)); exact BK270.out)) : gb275 ≠ gb270)); clear BK270; clear HB; have BK270 := n0_; have HB := n1_; have BK275 := n2_; have GW275 := n3_; have GE275 := n4_; have NB270_275 := n5_; have NB275_270 := n6_; clear n0_ n1_ n2_ n3_ n4_ n5_ n6_; clear hb hbox hg; have hnb31 := NB275_270.out; have hnc31 := NB270_275.out; have hcz32_0 : w30.cell? ⟨gb275, 0, none⟩ = some (.string (⟨#[]⟩ : ByteArray)) := (blk_cell BK275.out 0).trans rfl; have hcz32_1 : w30.cell? ⟨gb275, 1, none⟩ = some (.int .u64 0) := (blk_cell BK275.out 1).trans rfl; have hcz32_2 : w30.cell? ⟨gb275, 2, none⟩ = some (.string (⟨#[]⟩ : ByteArray)) := (blk_cell BK275.out 2).trans rfl; have hfz32_0 := blk_frozen BK275.out 0; have hfz32_1 := blk_frozen BK275.out 1; have hfz32_2 := blk_frozen BK275.out 2))
      have n0_ : Aside0 ((((w30.setCell ⟨gb275, 0, none⟩ (.string t271)).setCell ⟨gb275, 1, none⟩ (.int .u64 t272)).setCell ⟨gb275, 2, none⟩ (.string t273)).heap[gb270]? = some (.cells #[.string t266, .int .u64 t267, .string t268] 24 (0, 0))) := ⟨by (with_reducible repeat (first | refine blk_drewN ?_ _ | refine blk_drew ?_ | refine blk_alloc ?_ _)); refine blk_far ?_ NB270_275.out _; (with_reducible repeat (first | refine blk_drewN ?_ _ | refine blk_drew ?_ | refine blk_alloc ?_ _)); refine blk_far ?_ NB270_275.out _; (with_reducible repeat (first | refine blk_drewN ?_ _ | refine blk_drew ?_ | refine blk_alloc ?_ _)); refine blk_far ?_ NB270_275.out _; (with_reducible repeat (first | refine blk_drewN ?_ _ | refine blk_drew ?_ | refine blk_alloc ?_ _)); exact BK270.out⟩
      have n1_ : Aside0 ((((w30.setCell ⟨gb275, 0, none⟩ (.string t271)).setCell ⟨gb275, 1, none⟩ (.int .u64 t272)).setCell ⟨gb275, 2, none⟩ (.string t273)).heap[gb275]? = some (.cells #[.string t271, .int .u64 t272, .string t273] 30 (0, 0))) := ⟨by (with_reducible repeat (first | refine blk_drewN ?_ _ | refine blk_drew ?_ | refine blk_alloc ?_ _)); refine blk_put (cs := #[.string t271, .int .u64 t272, .string (⟨#[]⟩ : ByteArray)]) ?_ 2 _ rfl; (with_reducible repeat (first | refine blk_drewN ?_ _ | refine blk_drew ?_ | refine blk_alloc ?_ _)); refine blk_put (cs := #[.string t271, .int .u64 0, .string (⟨#[]⟩ : ByteArray)]) ?_ 1 _ rfl; (with_reducible repeat (first | refine blk_drewN ?_ _ | refine blk_drew ?_ | refine blk_alloc ?_ _)); refine blk_put (cs := #[.string (⟨#[]⟩ : ByteArray), .int .u64 0, .string (⟨#[]⟩ : ByteArray)]) ?_ 0 _ rfl; (with_reducible repeat (first | refine blk_drewN ?_ _ | refine blk_drew ?_ | refine blk_alloc ?_ _)); exact BK275.out⟩
      have n2_ : Aside0 (Below w.heap.size w (((w30.setCell ⟨gb275, 0, none⟩ (.string t271)).setCell ⟨gb275, 1, none⟩ (.int .u64 t272)).setCell ⟨gb275, 2, none⟩ (.string t273))) := ⟨by repeat (first | (with_reducible first | exact HB.out | apply below_alloc | apply pw_below_drewN | apply below_drew1 | refine below_set ?_ GE270.out | refine below_set ?_ GE275.out) | exact HB.out)⟩
      (try clear BK270)
      (try clear BK275)
      (try clear HB)
      generalize (((w30.setCell ⟨gb275, 0, none⟩ (.string t271)).setCell ⟨gb275, 1, none⟩ (.int .u64 t272)).setCell ⟨gb275, 2, none⟩ (.string t273)) = w33 at n0_ n1_ n2_ ⊢
      have BK270 := n0_
      have BK275 := n1_
      have HB := n2_
      clear n0_ n1_ n2_
      have n0_ := Aside0.mk (blk_drew BK270.out)
      have n1_ := Aside0.mk (blk_drew BK275.out)
      have n2_ := Aside0.mk (below_drew1 HB.out)
      clear BK270
      clear BK275
      clear HB
      have BK270 := n0_
      have BK275 := n1_
      have HB := n2_
      clear n0_ n1_ n2_
      refine start_ (n := 10) (S := fun w' => w'.cell? ⟨gb270, 0, none⟩ = some (.string t266) ∧ w'.cell? ⟨gb270, 1, none⟩ = some (.int .u64 t267) ∧ w'.cell? ⟨gb270, 2, none⟩ = some (.string t268) ∧ w'.cell? ⟨gb275, 0, none⟩ = some (.string t271) ∧ w'.cell? ⟨gb275, 1, none⟩ = some (.int .u64 t272) ∧ w'.cell? ⟨gb275, 2, none⟩ = some (.string t273)) (ds := []) #[false, false, false, false, false, false, false, false, false, false] (by kernel_rfl) rfl rfl ⟨(blk_cell BK270.out 0).trans rfl, (blk_cell BK270.out 1).trans rfl, (blk_cell BK270.out 2).trans rfl, (blk_cell BK275.out 0).trans rfl, (blk_cell BK275.out 1).trans rfl, (blk_cell BK275.out 2).trans rfl⟩ (fun hHeld => ?_); refine with_tabW rootcellarlaw17_StreamTakes.tab8 rootcellarlaw17_StreamTakes.bits8 (fun HT_ HW_ => ?_)
      generalize w33.drew = w34 at BK270 BK275 HB hHeld ⊢
      refine take_ (i := 0) (N := some 32) (v := ?_) (a' := ?_) #[true, false, false, false, false, false, false, false, false, false] rfl rfl (take_ofW HT_.out HW_.out (by kernel_rfl)) (fun _ _ _ h => h) (Or.inl ⟨by rfl, ?_⟩) hHeld ?_ ?_
      rotate_left
      ·rintro w' ⟨s0, s1, s2, s3, s4, s5⟩
       go_simp
       with_reducible rfl
      rotate_left
      ·simp only [Act.put, List.setIfInBounds_toArray, List.set_cons_zero, List.set_cons_succ, i64_w, i32_w]
       rfl
      refine take_ (i := 2) (N := some 34) (v := ?_) (a' := ?_) #[true, false, true, false, false, false, false, false, false, false] rfl rfl (take_ofW HT_.out HW_.out (by kernel_rfl)) (fun _ _ _ h => h) (Or.inl ⟨by rfl, ?_⟩) hHeld ?_ ?_
      rotate_left
      ·rintro w' ⟨s0, s1, s2, s3, s4, s5⟩
       go_simp
       with_reducible rfl
      rotate_left
      ·simp only [Act.put, List.setIfInBounds_toArray, List.set_cons_zero, List.set_cons_succ, i64_w, i32_w]
       rfl
      refine one_ (i := 1) (N := some 33) #[true, true, true, false, false, false, false, false, false, false] rfl rfl (one_of HT_.out (by kernel_rfl)) (by decide) (fun K hK => ?_)
      refine goes_ Tryd.func12 (by kernel_rfl) rfl #[.agg #[.string t266, .int .u64 t267, .string t268]] (by rfl) rfl rfl (by (try simp only [List.map_toArray, List.map_cons, List.map_nil]); first | done | rfl | (simp only [List.length_drop, List.length_take]; rfl) | (rw [wrap_sum2 (by assumption)]; rfl)) ?_
      with_reducible refine (rootcellarlaw17_as.calls t266 t267 t268 t276 t277 t278 _ A12.out).mono ?_
      rintro e w35 ⟨rfl, hb⟩
      refine ⟨_, rfl, ?_⟩
      have n0_ := Aside0.mk (blk_below (g := gb270) (o := .cells #[.string t266, .int .u64 t267, .string t268] 24 (0, 0)) (by (with_reducible repeat (first | refine blk_drewN ?_ _ | refine blk_drew ?_ | refine blk_alloc ?_ _)); exact BK270.out) hb)
      have n1_ := Aside0.mk (blk_below (g := gb275) (o := .cells #[.string t271, .int .u64 t272, .string t273] 30 (0, 0)) (by (with_reducible repeat (first | refine blk_drewN ?_ _ | refine blk_drew ?_ | refine blk_alloc ?_ _)); exact BK275.out) hb)
      have n2_ := Aside0.mk (below_step (by repeat (first | (with_reducible first | exact HB.out | apply below_alloc | apply pw_below_drewN | apply below_drew1 | refine below_set ?_ GE270.out | refine below_set ?_ GE275.out) | exact HB.out)) hb)
      clear BK270
      clear BK275
      clear HB
      have BK270 := n0_
      have BK275 := n1_
      have HB := n2_
      clear n0_ n1_ n2_
      (try clear hb)
      (try clear hb2)
      (try clear hk)
      (try clear hi)
      refine hK.out _ _ ⟨(blk_cell BK270.out 0).trans rfl, (blk_cell BK270.out 1).trans rfl, (blk_cell BK270.out 2).trans rfl, (blk_cell BK275.out 0).trans rfl, (blk_cell BK275.out 1).trans rfl, (blk_cell BK275.out 2).trans rfl⟩ (fun hHeld => ?_)
      clear hK K
      refine norm_ (a' := ?_) ?_ ?_
      rotate_left
      ·show Act.put _ (some 33) _ = _
       simp only [Act.put, List.setIfInBounds_toArray, List.set_cons_zero, List.set_cons_succ, i64_w, i32_w]
       rfl
      refine pure_ (i := 3) (N := some 35) (v := ?_) (a' := ?_) #[true, true, true, true, false, false, false, false, false, false] rfl rfl (any_of HT_.out (by kernel_rfl)) (fun _ _ _ h => h) (Or.inl ⟨by rfl, ?_⟩) ?_ ?_
      rotate_left
      ·intro w'
       go_simp
       with_reducible rfl
      rotate_left
      ·simp only [Act.put, List.setIfInBounds_toArray, List.set_cons_zero, List.set_cons_succ, i64_w, i32_w]
       rfl
      refine pure_ (i := 4) (N := some 36) (v := ?_) (a' := ?_) #[true, true, true, true, true, false, false, false, false, false] rfl rfl (any_of HT_.out (by kernel_rfl)) (fun _ _ _ h => h) (Or.inl ⟨by rfl, ?_⟩) ?_ ?_
      rotate_left
      ·intro w'
       go_simp
       with_reducible rfl
      rotate_left
      ·simp only [Act.put, List.setIfInBounds_toArray, List.set_cons_zero, List.set_cons_succ, i64_w, i32_w]
       rfl
      refine pure_ (i := 5) (N := some 37) (v := undef) (a' := ?_) #[true, true, true, true, true, true, false, false, false, false] rfl rfl (any_of HT_.out (by kernel_rfl)) (fun _ _ _ h => h) (Or.inr ⟨by rfl, rfl⟩) ?_ ?_
      rotate_left
      ·simp only [Act.put, List.setIfInBounds_toArray, List.set_cons_zero, List.set_cons_succ, i64_w, i32_w]
       rfl
      refine pure_ (i := 6) (N := some 38) (v := undef) (a' := ?_) #[true, true, true, true, true, true, true, false, false, false] rfl rfl (any_of HT_.out (by kernel_rfl)) (fun _ _ _ h => h) (Or.inr ⟨by rfl, rfl⟩) ?_ ?_
      rotate_left
      ·simp only [Act.put, List.setIfInBounds_toArray, List.set_cons_zero, List.set_cons_succ, i64_w, i32_w]
       rfl
      refine pure_ (i := 7) (N := some 39) (v := undef) (a' := ?_) #[true, true, true, true, true, true, true, true, false, false] rfl rfl (any_of HT_.out (by kernel_rfl)) (fun _ _ _ h => h) (Or.inr ⟨by rfl, rfl⟩) ?_ ?_
      rotate_left
      ·simp only [Act.put, List.setIfInBounds_toArray, List.set_cons_zero, List.set_cons_succ, i64_w, i32_w]
       rfl
      refine pure_ (i := 8) (N := some 40) (v := ?_) (a' := ?_) #[true, true, true, true, true, true, true, true, true, false] rfl rfl (any_of HT_.out (by kernel_rfl)) (fun _ _ _ h => h) (Or.inl ⟨by rfl, ?_⟩) ?_ ?_
      rotate_left
      ·intro w'
       go_simp
       with_reducible rfl
      rotate_left
      ·simp only [Act.put, List.setIfInBounds_toArray, List.set_cons_zero, List.set_cons_succ, i64_w, i32_w]
       rfl
      refine pure_ (i := 9) (N := some 4) (v := ?_) (a' := ?_) #[true, true, true, true, true, true, true, true, true, true] rfl rfl (any_of HT_.out (by kernel_rfl)) (fun _ _ _ h => h) (Or.inl ⟨by rfl, ?_⟩) ?_ ?_
      rotate_left
      ·intro w'
       go_simp
       with_reducible rfl
      rotate_left
      ·simp only [Act.put, List.setIfInBounds_toArray, List.set_cons_zero, List.set_cons_succ, i64_w, i32_w]
       rfl
      refine done_ (done_of HT_.out (by kernel_rfl)) ?_
      try go_wp2
      go_ret
      exact ⟨by first | rfl | (simp [errW_none, errW_some] <;> rfl) | (simp [*, errW_none, errW_some] <;> rfl), by repeat (first | (with_reducible first | exact HB.out | apply below_alloc | apply pw_below_drewN | apply below_drew1 | refine below_set ?_ GE270.out | refine below_set ?_ GE275.out) | exact HB.out)⟩
    ·replace c8 := Bool.eq_false_iff.mpr c8
     subst c8
     have H1 : ((stream_Take.f kj3 a0).bind fun bt279 => ((rootcellarref17_Take.f kj3 a0).bind fun bt284 => ((rootcellarlaw17_as.f bt279.1 bt279.2.1 bt279.2.2.1).bind fun bt289 => (if (bt289.1.toList == bt284.1.toList && (bt289.2.1 == bt284.2.1 && (bt289.2.2.toList == bt284.2.2.1.toList))) = true then (some (bt279.2.2.2 == bt284.2.2.2)) else (some false))))) = some r := by rw [if_neg (show ¬ (false = true) by decide)] at H; exact H
     clear H
     have H := H1
     clear H1
     replace H := Option.bind_eq_some_iff.mp H
     obtain ⟨⟨t279, t280, t281, t282⟩, A360, H⟩ := H
     replace H : ((rootcellarref17_Take.f kj3 a0).bind fun bt284 => ((rootcellarlaw17_as.f t279 t280 t281).bind fun bt289 => (if (bt289.1.toList == bt284.1.toList && (bt289.2.1 == bt284.2.1 && (bt289.2.2.toList == bt284.2.2.1.toList))) = true then (some (t282 == bt284.2.2.2)) else (some false)))) = some r := H
     have A36 := Aside0.mk A360
     clear A360
     replace H := Option.bind_eq_some_iff.mp H
     obtain ⟨⟨t284, t285, t286, t287⟩, A370, H⟩ := H
     replace H : ((rootcellarlaw17_as.f t279 t280 t281).bind fun bt289 => (if (bt289.1.toList == t284.toList && (bt289.2.1 == t285 && (bt289.2.2.toList == t286.toList))) = true then (some (t282 == t287)) else (some false))) = some r := H
     have A37 := Aside0.mk A370
     clear A370
     replace H := Option.bind_eq_some_iff.mp H
     obtain ⟨⟨t289, t290, t291⟩, A380, H⟩ := H
     replace H : (if (t289.toList == t284.toList && (t290 == t285 && (t291.toList == t286.toList))) = true then (some (t282 == t287)) else (some false)) = some r := H
     have A38 := Aside0.mk A380
     clear A380
     by_cases c39 : (t289.toList == t284.toList && (t290 == t285 && (t291.toList == t286.toList))) = true
     ·rw [if_pos c39] at H
      have c39b0 : (t289.toList == t284.toList && (t290 == t285 && (t291.toList == t286.toList))) = true := c39
      (try (have c39b1 : decide (t289.toList = t284.toList && (t290 == t285 && (t291.toList == t286.toList))) = true := by simpa using c39))
      (try (have c39b2 : (t289.toList == t284.toList && (t290 == t285 && (t291.toList == t286.toList))) = true := by simpa using c39))
      clear c39
      obtain rfl := Option.some.inj H
      try go_wp2_with (first | ((with_reducible refine gate_callee (f := 16) rfl ?_); refine goesL_ (some 24) rfl rfl Tryd.func16 (by kernel_rfl) rfl #[.string a0] rfl (by (try simp only [List.map_toArray, List.map_cons, List.map_nil]); first | done | rfl | (simp only [List.length_drop, List.length_take]; rfl) | (rw [wrap_sum2 (by assumption)]; rfl)) ?_; (with_reducible refine (stream_Take.calls kj3 a0 t279 t280 t281 t282 _ A36.out (HT.below (by repeat (first | (with_reducible first | exact HB.out | apply below_alloc | apply pw_below_drewN | apply below_drew1) | exact HB.out)))).mono ?_); rintro e w40 ⟨rfl, hb⟩; refine ⟨_, rfl, ?_⟩; have n0_ := Aside0.mk (below_step (by repeat (first | (with_reducible first | exact HB.out | apply below_alloc | apply pw_below_drewN | apply below_drew1) | exact HB.out)) hb); clear HB; have HB := n0_; clear n0_; (try clear hb); (try clear hb2); (try clear hk); (try clear hi)) | ((with_reducible refine gate_dst (N := 6) rfl ?_); (try (refine gate_guard (by rfl) ?_; dsimp only)); refine box_event ?hg (N := 6) ?hd (cs := #[.string (⟨#[]⟩ : ByteArray), .int .u64 0, .string (⟨#[]⟩ : ByteArray)]) (t := 24) ?hr ?_; (case hd => rfl); (case hg => rfl); (case hr => first | (go_simp; done) | (go_simp; rfl)); intro gb283 hg w41 hbox hb; have n0_ := Aside0.mk (below_step (by repeat (first | (with_reducible first | exact HB.out | apply below_alloc | apply pw_below_drewN | apply below_drew1) | exact HB.out)) hb); have n1_ := Aside0.mk (hbox); have n2_ := Aside0.mk ((by rw [hg]; exact (below_size (by repeat (first | (with_reducible first | exact HB.out | apply below_alloc | apply pw_below_drewN | apply below_drew1) | exact HB.out))) : w.heap.size ≤ gb283)); have n3_ := Aside0.mk ((by rw [hg]; exact (below_size (by repeat (first | (with_reducible first | exact HB.out | apply below_alloc | apply pw_below_drewN | apply below_drew1) | exact HB.out))) : w.heap.size ≤ gb283)); clear HB; have HB := n0_; have BK283 := n1_; have GW283 := n2_; have GE283 := n3_; clear n0_ n1_ n2_ n3_; clear hb hbox hg; have hcz42_0 : w41.cell? ⟨gb283, 0, none⟩ = some (.string (⟨#[]⟩ : ByteArray)) := (blk_cell BK283.out 0).trans rfl; have hcz42_1 : w41.cell? ⟨gb283, 1, none⟩ = some (.int .u64 0) := (blk_cell BK283.out 1).trans rfl; have hcz42_2 : w41.cell? ⟨gb283, 2, none⟩ = some (.string (⟨#[]⟩ : ByteArray)) := (blk_cell BK283.out 2).trans rfl; have hfz42_0 := blk_frozen BK283.out 0; have hfz42_1 := blk_frozen BK283.out 1; have hfz42_2 := blk_frozen BK283.out 2) | ((with_reducible refine gate_callee (f := 17) rfl ?_); refine goesL_ (some 29) rfl rfl Tryd.func17 (by kernel_rfl) rfl #[.string a0] rfl (by (try simp only [List.map_toArray, List.map_cons, List.map_nil]); first | done | rfl | (simp only [List.length_drop, List.length_take]; rfl) | (rw [wrap_sum2 (by assumption)]; rfl)) ?_; (with_reducible refine (rootcellarref17_Take.calls kj3 a0 t284 t285 t286 t287 _ A37.out).mono ?_); rintro e w43 ⟨rfl, hb⟩; refine ⟨_, rfl, ?_⟩; have n0_ := Aside0.mk (blk_below (g := gb283) (o := .cells #[.string t279, .int .u64 t280, .string t281] 24 (0, 0)) (by (with_reducible repeat (first | refine blk_drewN ?_ _ | refine blk_drew ?_ | refine blk_alloc ?_ _)); refine blk_put (cs := #[.string t279, .int .u64 t280, .string (⟨#[]⟩ : ByteArray)]) ?_ 2 _ rfl; (with_reducible repeat (first | refine blk_drewN ?_ _ | refine blk_drew ?_ | refine blk_alloc ?_ _)); refine blk_put (cs := #[.string t279, .int .u64 0, .string (⟨#[]⟩ : ByteArray)]) ?_ 1 _ rfl; (with_reducible repeat (first | refine blk_drewN ?_ _ | refine blk_drew ?_ | refine blk_alloc ?_ _)); refine blk_put (cs := #[.string (⟨#[]⟩ : ByteArray), .int .u64 0, .string (⟨#[]⟩ : ByteArray)]) ?_ 0 _ rfl; (with_reducible repeat (first | refine blk_drewN ?_ _ | refine blk_drew ?_ | refine blk_alloc ?_ _)); exact BK283.out) hb); have n1_ := Aside0.mk (below_step (by repeat (first | (with_reducible first | exact HB.out | apply below_alloc | apply pw_below_drewN | apply below_drew1 | refine below_set ?_ GE283.out) | exact HB.out)) hb); clear BK283; clear HB; have BK283 := n0_; have HB := n1_; clear n0_ n1_; (try clear hb); (try clear hb2); (try clear hk); (try clear hi)) | ((with_reducible refine gate_dst (N := 8) rfl ?_); (try (refine gate_guard (by rfl) ?_; dsimp only)); refine box_event ?hg (N := 8) ?hd (cs := #[.string (⟨#[]⟩ : ByteArray), .int .u64 0, .string (⟨#[]⟩ : ByteArray)]) (t := 30) ?hr ?_; (case hd => rfl); (case hg => rfl); (case hr => first | (go_simp; done) | (go_simp; rfl)); intro gb288 hg w44 hbox hb; have n0_ := Aside0.mk (blk_below (g := gb283) (o := .cells #[.string t279, .int .u64 t280, .string t281] 24 (0, 0)) (by (with_reducible repeat (first | refine blk_drewN ?_ _ | refine blk_drew ?_ | refine blk_alloc ?_ _)); exact BK283.out) hb); have n1_ := Aside0.mk (below_step (by repeat (first | (with_reducible first | exact HB.out | apply below_alloc | apply pw_below_drewN | apply below_drew1 | refine below_set ?_ GE283.out) | exact HB.out)) hb); have n2_ := Aside0.mk (hbox); have n3_ := Aside0.mk ((by rw [hg]; exact (below_size (by repeat (first | (with_reducible first | exact HB.out | apply below_alloc | apply pw_below_drewN | apply below_drew1 | refine below_set ?_ GE283.out) | exact HB.out))) : w.heap.size ≤ gb288)); have n4_ := Aside0.mk ((by rw [hg]; exact (below_size (by repeat (first | (with_reducible first | exact HB.out | apply below_alloc | apply pw_below_drewN | apply below_drew1 | refine below_set ?_ GE283.out) | exact HB.out))) : w.heap.size ≤ gb288)); have n5_ := Aside0.mk ((by rw [hg]; exact Nat.ne_of_lt (blk_lt (g := gb283) (o := .cells #[.string t279, .int .u64 t280, .string t281] 24 (0, 0)) (by (with_reducible repeat (first | refine blk_drewN ?_ _ | refine blk_drew ?_ | refine blk_alloc ?_ _)); exact BK283.out)) : gb283 ≠ gb288)); have n6_ := Aside0.mk ((by rw [hg]; exact Nat.ne_of_gt (blk_lt (g := gb283) (o := .cells #[.string t279, .int .u64 t280, .string t281] 24 (0, 0)) (by (with_reducible repeat (first | refine blk_drewN ?_ _ | refine blk_drew ?_ | refine blk_alloc ?_ _)); exact BK283.out)) : gb288 ≠ gb283)); clear BK283; clear HB; have BK283 := n0_; have HB := n1_; have BK288 := n2_; have GW288 := n3_; have GE288 := n4_; have NB283_288 := n5_; have NB288_283 := n6_; clear n0_ n1_ n2_ n3_ n4_ n5_ n6_; clear hb hbox hg; have hnb45 := NB288_283.out; have hnc45 := NB283_288.out; have hcz46_0 : w44.cell? ⟨gb288, 0, none⟩ = some (.string (⟨#[]⟩ : ByteArray)) := (blk_cell BK288.out 0).trans rfl; have hcz46_1 : w44.cell? ⟨gb288, 1, none⟩ = some (.int .u64 0) := (blk_cell BK288.out 1).trans rfl; have hcz46_2 : w44.cell? ⟨gb288, 2, none⟩ = some (.string (⟨#[]⟩ : ByteArray)) := (blk_cell BK288.out 2).trans rfl; have hfz46_0 := blk_frozen BK288.out 0; have hfz46_1 := blk_frozen BK288.out 1; have hfz46_2 := blk_frozen BK288.out 2))
      have n0_ : Aside0 ((((w44.setCell ⟨gb288, 0, none⟩ (.string t284)).setCell ⟨gb288, 1, none⟩ (.int .u64 t285)).setCell ⟨gb288, 2, none⟩ (.string t286)).heap[gb283]? = some (.cells #[.string t279, .int .u64 t280, .string t281] 24 (0, 0))) := ⟨by (with_reducible repeat (first | refine blk_drewN ?_ _ | refine blk_drew ?_ | refine blk_alloc ?_ _)); refine blk_far ?_ NB283_288.out _; (with_reducible repeat (first | refine blk_drewN ?_ _ | refine blk_drew ?_ | refine blk_alloc ?_ _)); refine blk_far ?_ NB283_288.out _; (with_reducible repeat (first | refine blk_drewN ?_ _ | refine blk_drew ?_ | refine blk_alloc ?_ _)); refine blk_far ?_ NB283_288.out _; (with_reducible repeat (first | refine blk_drewN ?_ _ | refine blk_drew ?_ | refine blk_alloc ?_ _)); exact BK283.out⟩
      have n1_ : Aside0 ((((w44.setCell ⟨gb288, 0, none⟩ (.string t284)).setCell ⟨gb288, 1, none⟩ (.int .u64 t285)).setCell ⟨gb288, 2, none⟩ (.string t286)).heap[gb288]? = some (.cells #[.string t284, .int .u64 t285, .string t286] 30 (0, 0))) := ⟨by (with_reducible repeat (first | refine blk_drewN ?_ _ | refine blk_drew ?_ | refine blk_alloc ?_ _)); refine blk_put (cs := #[.string t284, .int .u64 t285, .string (⟨#[]⟩ : ByteArray)]) ?_ 2 _ rfl; (with_reducible repeat (first | refine blk_drewN ?_ _ | refine blk_drew ?_ | refine blk_alloc ?_ _)); refine blk_put (cs := #[.string t284, .int .u64 0, .string (⟨#[]⟩ : ByteArray)]) ?_ 1 _ rfl; (with_reducible repeat (first | refine blk_drewN ?_ _ | refine blk_drew ?_ | refine blk_alloc ?_ _)); refine blk_put (cs := #[.string (⟨#[]⟩ : ByteArray), .int .u64 0, .string (⟨#[]⟩ : ByteArray)]) ?_ 0 _ rfl; (with_reducible repeat (first | refine blk_drewN ?_ _ | refine blk_drew ?_ | refine blk_alloc ?_ _)); exact BK288.out⟩
      have n2_ : Aside0 (Below w.heap.size w (((w44.setCell ⟨gb288, 0, none⟩ (.string t284)).setCell ⟨gb288, 1, none⟩ (.int .u64 t285)).setCell ⟨gb288, 2, none⟩ (.string t286))) := ⟨by repeat (first | (with_reducible first | exact HB.out | apply below_alloc | apply pw_below_drewN | apply below_drew1 | refine below_set ?_ GE283.out | refine below_set ?_ GE288.out) | exact HB.out)⟩
      (try clear BK283)
      (try clear BK288)
      (try clear HB)
      generalize (((w44.setCell ⟨gb288, 0, none⟩ (.string t284)).setCell ⟨gb288, 1, none⟩ (.int .u64 t285)).setCell ⟨gb288, 2, none⟩ (.string t286)) = w47 at n0_ n1_ n2_ ⊢
      have BK283 := n0_
      have BK288 := n1_
      have HB := n2_
      clear n0_ n1_ n2_
      have n0_ := Aside0.mk (blk_drew BK283.out)
      have n1_ := Aside0.mk (blk_drew BK288.out)
      have n2_ := Aside0.mk (below_drew1 HB.out)
      clear BK283
      clear BK288
      clear HB
      have BK283 := n0_
      have BK288 := n1_
      have HB := n2_
      clear n0_ n1_ n2_
      refine start_ (n := 10) (S := fun w' => w'.cell? ⟨gb283, 0, none⟩ = some (.string t279) ∧ w'.cell? ⟨gb283, 1, none⟩ = some (.int .u64 t280) ∧ w'.cell? ⟨gb283, 2, none⟩ = some (.string t281) ∧ w'.cell? ⟨gb288, 0, none⟩ = some (.string t284) ∧ w'.cell? ⟨gb288, 1, none⟩ = some (.int .u64 t285) ∧ w'.cell? ⟨gb288, 2, none⟩ = some (.string t286)) (ds := []) #[false, false, false, false, false, false, false, false, false, false] (by kernel_rfl) rfl rfl ⟨(blk_cell BK283.out 0).trans rfl, (blk_cell BK283.out 1).trans rfl, (blk_cell BK283.out 2).trans rfl, (blk_cell BK288.out 0).trans rfl, (blk_cell BK288.out 1).trans rfl, (blk_cell BK288.out 2).trans rfl⟩ (fun hHeld => ?_); refine with_tabW rootcellarlaw17_StreamTakes.tab8 rootcellarlaw17_StreamTakes.bits8 (fun HT_ HW_ => ?_)
      generalize w47.drew = w48 at BK283 BK288 HB hHeld ⊢
      refine take_ (i := 0) (N := some 32) (v := ?_) (a' := ?_) #[true, false, false, false, false, false, false, false, false, false] rfl rfl (take_ofW HT_.out HW_.out (by kernel_rfl)) (fun _ _ _ h => h) (Or.inl ⟨by rfl, ?_⟩) hHeld ?_ ?_
      rotate_left
      ·rintro w' ⟨s0, s1, s2, s3, s4, s5⟩
       go_simp
       with_reducible rfl
      rotate_left
      ·simp only [Act.put, List.setIfInBounds_toArray, List.set_cons_zero, List.set_cons_succ, i64_w, i32_w]
       rfl
      refine take_ (i := 2) (N := some 34) (v := ?_) (a' := ?_) #[true, false, true, false, false, false, false, false, false, false] rfl rfl (take_ofW HT_.out HW_.out (by kernel_rfl)) (fun _ _ _ h => h) (Or.inl ⟨by rfl, ?_⟩) hHeld ?_ ?_
      rotate_left
      ·rintro w' ⟨s0, s1, s2, s3, s4, s5⟩
       go_simp
       with_reducible rfl
      rotate_left
      ·simp only [Act.put, List.setIfInBounds_toArray, List.set_cons_zero, List.set_cons_succ, i64_w, i32_w]
       rfl
      refine one_ (i := 1) (N := some 33) #[true, true, true, false, false, false, false, false, false, false] rfl rfl (one_of HT_.out (by kernel_rfl)) (by decide) (fun K hK => ?_)
      refine goes_ Tryd.func12 (by kernel_rfl) rfl #[.agg #[.string t279, .int .u64 t280, .string t281]] (by rfl) rfl rfl (by (try simp only [List.map_toArray, List.map_cons, List.map_nil]); first | done | rfl | (simp only [List.length_drop, List.length_take]; rfl) | (rw [wrap_sum2 (by assumption)]; rfl)) ?_
      with_reducible refine (rootcellarlaw17_as.calls t279 t280 t281 t289 t290 t291 _ A38.out).mono ?_
      rintro e w49 ⟨rfl, hb⟩
      refine ⟨_, rfl, ?_⟩
      have n0_ := Aside0.mk (blk_below (g := gb283) (o := .cells #[.string t279, .int .u64 t280, .string t281] 24 (0, 0)) (by (with_reducible repeat (first | refine blk_drewN ?_ _ | refine blk_drew ?_ | refine blk_alloc ?_ _)); exact BK283.out) hb)
      have n1_ := Aside0.mk (blk_below (g := gb288) (o := .cells #[.string t284, .int .u64 t285, .string t286] 30 (0, 0)) (by (with_reducible repeat (first | refine blk_drewN ?_ _ | refine blk_drew ?_ | refine blk_alloc ?_ _)); exact BK288.out) hb)
      have n2_ := Aside0.mk (below_step (by repeat (first | (with_reducible first | exact HB.out | apply below_alloc | apply pw_below_drewN | apply below_drew1 | refine below_set ?_ GE283.out | refine below_set ?_ GE288.out) | exact HB.out)) hb)
      clear BK283
      clear BK288
      clear HB
      have BK283 := n0_
      have BK288 := n1_
      have HB := n2_
      clear n0_ n1_ n2_
      (try clear hb)
      (try clear hb2)
      (try clear hk)
      (try clear hi)
      refine hK.out _ _ ⟨(blk_cell BK283.out 0).trans rfl, (blk_cell BK283.out 1).trans rfl, (blk_cell BK283.out 2).trans rfl, (blk_cell BK288.out 0).trans rfl, (blk_cell BK288.out 1).trans rfl, (blk_cell BK288.out 2).trans rfl⟩ (fun hHeld => ?_)
      clear hK K
      refine norm_ (a' := ?_) ?_ ?_
      rotate_left
      ·show Act.put _ (some 33) _ = _
       simp only [Act.put, List.setIfInBounds_toArray, List.set_cons_zero, List.set_cons_succ, i64_w, i32_w]
       rfl
      refine pure_ (i := 3) (N := some 35) (v := ?_) (a' := ?_) #[true, true, true, true, false, false, false, false, false, false] rfl rfl (any_of HT_.out (by kernel_rfl)) (fun _ _ _ h => h) (Or.inl ⟨by rfl, ?_⟩) ?_ ?_
      rotate_left
      ·intro w'
       go_simp
       with_reducible rfl
      rotate_left
      ·simp only [Act.put, List.setIfInBounds_toArray, List.set_cons_zero, List.set_cons_succ, i64_w, i32_w]
       rfl
      refine pure_ (i := 4) (N := some 36) (v := ?_) (a' := ?_) #[true, true, true, true, true, false, false, false, false, false] rfl rfl (any_of HT_.out (by kernel_rfl)) (fun _ _ _ h => h) (Or.inl ⟨by rfl, ?_⟩) ?_ ?_
      rotate_left
      ·intro w'
       go_simp
       with_reducible rfl
      rotate_left
      ·simp only [Act.put, List.setIfInBounds_toArray, List.set_cons_zero, List.set_cons_succ, i64_w, i32_w]
       rfl
      refine pure_ (i := 5) (N := some 37) (v := ?_) (a' := ?_) #[true, true, true, true, true, true, false, false, false, false] rfl rfl (any_of HT_.out (by kernel_rfl)) (fun _ _ _ h => h) (Or.inl ⟨by rfl, ?_⟩) ?_ ?_
      rotate_left
      ·intro w'
       go_simp
       with_reducible rfl
      rotate_left
      ·simp only [Act.put, List.setIfInBounds_toArray, List.set_cons_zero, List.set_cons_succ, i64_w, i32_w]
       rfl
      refine pure_ (i := 6) (N := some 38) (v := ?_) (a' := ?_) #[true, true, true, true, true, true, true, false, false, false] rfl rfl (any_of HT_.out (by kernel_rfl)) (fun _ _ _ h => h) (Or.inl ⟨by rfl, ?_⟩) ?_ ?_
      rotate_left
      ·intro w'
       go_simp
       with_reducible rfl
      rotate_left
      ·simp only [Act.put, List.setIfInBounds_toArray, List.set_cons_zero, List.set_cons_succ, i64_w, i32_w]
       rfl
      refine pure_ (i := 7) (N := some 39) (v := ?_) (a' := ?_) #[true, true, true, true, true, true, true, true, false, false] rfl rfl (any_of HT_.out (by kernel_rfl)) (fun _ _ _ h => h) (Or.inl ⟨by rfl, ?_⟩) ?_ ?_
      rotate_left
      ·intro w'
       go_simp
       with_reducible rfl
      rotate_left
      ·simp only [Act.put, List.setIfInBounds_toArray, List.set_cons_zero, List.set_cons_succ, i64_w, i32_w]
       rfl
      refine pure_ (i := 8) (N := some 40) (v := ?_) (a' := ?_) #[true, true, true, true, true, true, true, true, true, false] rfl rfl (any_of HT_.out (by kernel_rfl)) (fun _ _ _ h => h) (Or.inl ⟨by rfl, ?_⟩) ?_ ?_
      rotate_left
      ·intro w'
       go_simp
       with_reducible rfl
      rotate_left
      ·simp only [Act.put, List.setIfInBounds_toArray, List.set_cons_zero, List.set_cons_succ, i64_w, i32_w]
       rfl
      refine pure_ (i := 9) (N := some 4) (v := ?_) (a' := ?_) #[true, true, true, true, true, true, true, true, true, true] rfl rfl (any_of HT_.out (by kernel_rfl)) (fun _ _ _ h => h) (Or.inl ⟨by rfl, ?_⟩) ?_ ?_
      rotate_left
      ·intro w'
       go_simp
       with_reducible rfl
      rotate_left
      ·simp only [Act.put, List.setIfInBounds_toArray, List.set_cons_zero, List.set_cons_succ, i64_w, i32_w]
       rfl
      refine done_ (done_of HT_.out (by kernel_rfl)) ?_
      try go_wp2
      go_ret
      exact ⟨by first | rfl | (simp [errW_none, errW_some] <;> rfl) | (simp [*, errW_none, errW_some] <;> rfl), by repeat (first | (with_reducible first | exact HB.out | apply below_alloc | apply pw_below_drewN | apply below_drew1 | refine below_set ?_ GE283.out | refine below_set ?_ GE288.out) | exact HB.out)⟩
     ·rw [if_neg c39] at H
      have c39b0 : (t289.toList == t284.toList && (t290 == t285 && (t291.toList == t286.toList))) = false := by simpa using c39
      (try (have c39b1 : decide (t289.toList = t284.toList && (t290 == t285 && (t291.toList == t286.toList))) = false := by simpa using c39))
      (try (have c39b2 : (t289.toList == t284.toList && (t290 == t285 && (t291.toList == t286.toList))) = false := by simpa using c39))
      (try (have c39b3 : ¬ (t289.toList = t284.toList && (t290 == t285 && (t291.toList == t286.toList))) := by simpa using c39))
      clear c39
      obtain rfl := Option.some.inj H
      try go_wp2_with (first | ((with_reducible refine gate_callee (f := 16) rfl ?_); refine goesL_ (some 24) rfl rfl Tryd.func16 (by kernel_rfl) rfl #[.string a0] rfl (by (try simp only [List.map_toArray, List.map_cons, List.map_nil]); first | done | rfl | (simp only [List.length_drop, List.length_take]; rfl) | (rw [wrap_sum2 (by assumption)]; rfl)) ?_; (with_reducible refine (stream_Take.calls kj3 a0 t279 t280 t281 t282 _ A36.out (HT.below (by repeat (first | (with_reducible first | exact HB.out | apply below_alloc | apply pw_below_drewN | apply below_drew1) | exact HB.out)))).mono ?_); rintro e w50 ⟨rfl, hb⟩; refine ⟨_, rfl, ?_⟩; have n0_ := Aside0.mk (below_step (by repeat (first | (with_reducible first | exact HB.out | apply below_alloc | apply pw_below_drewN | apply below_drew1) | exact HB.out)) hb); clear HB; have HB := n0_; clear n0_; (try clear hb); (try clear hb2); (try clear hk); (try clear hi)) | ((with_reducible refine gate_dst (N := 6) rfl ?_); (try (refine gate_guard (by rfl) ?_; dsimp only)); refine box_event ?hg (N := 6) ?hd (cs := #[.string (⟨#[]⟩ : ByteArray), .int .u64 0, .string (⟨#[]⟩ : ByteArray)]) (t := 24) ?hr ?_; (case hd => rfl); (case hg => rfl); (case hr => first | (go_simp; done) | (go_simp; rfl)); intro gb283 hg w51 hbox hb; have n0_ := Aside0.mk (below_step (by repeat (first | (with_reducible first | exact HB.out | apply below_alloc | apply pw_below_drewN | apply below_drew1) | exact HB.out)) hb); have n1_ := Aside0.mk (hbox); have n2_ := Aside0.mk ((by rw [hg]; exact (below_size (by repeat (first | (with_reducible first | exact HB.out | apply below_alloc | apply pw_below_drewN | apply below_drew1) | exact HB.out))) : w.heap.size ≤ gb283)); have n3_ := Aside0.mk ((by rw [hg]; exact (below_size (by repeat (first | (with_reducible first | exact HB.out | apply below_alloc | apply pw_below_drewN | apply below_drew1) | exact HB.out))) : w.heap.size ≤ gb283)); clear HB; have HB := n0_; have BK283 := n1_; have GW283 := n2_; have GE283 := n3_; clear n0_ n1_ n2_ n3_; clear hb hbox hg; have hcz52_0 : w51.cell? ⟨gb283, 0, none⟩ = some (.string (⟨#[]⟩ : ByteArray)) := (blk_cell BK283.out 0).trans rfl; have hcz52_1 : w51.cell? ⟨gb283, 1, none⟩ = some (.int .u64 0) := (blk_cell BK283.out 1).trans rfl; have hcz52_2 : w51.cell? ⟨gb283, 2, none⟩ = some (.string (⟨#[]⟩ : ByteArray)) := (blk_cell BK283.out 2).trans rfl; have hfz52_0 := blk_frozen BK283.out 0; have hfz52_1 := blk_frozen BK283.out 1; have hfz52_2 := blk_frozen BK283.out 2) | ((with_reducible refine gate_callee (f := 17) rfl ?_); refine goesL_ (some 29) rfl rfl Tryd.func17 (by kernel_rfl) rfl #[.string a0] rfl (by (try simp only [List.map_toArray, List.map_cons, List.map_nil]); first | done | rfl | (simp only [List.length_drop, List.length_take]; rfl) | (rw [wrap_sum2 (by assumption)]; rfl)) ?_; (with_reducible refine (rootcellarref17_Take.calls kj3 a0 t284 t285 t286 t287 _ A37.out).mono ?_); rintro e w53 ⟨rfl, hb⟩; refine ⟨_, rfl, ?_⟩; have n0_ := Aside0.mk (blk_below (g := gb283) (o := .cells #[.string t279, .int .u64 t280, .string t281] 24 (0, 0)) (by (with_reducible repeat (first | refine blk_drewN ?_ _ | refine blk_drew ?_ | refine blk_alloc ?_ _)); refine blk_put (cs := #[.string t279, .int .u64 t280, .string (⟨#[]⟩ : ByteArray)]) ?_ 2 _ rfl; (with_reducible repeat (first | refine blk_drewN ?_ _ | refine blk_drew ?_ | refine blk_alloc ?_ _)); refine blk_put (cs := #[.string t279, .int .u64 0, .string (⟨#[]⟩ : ByteArray)]) ?_ 1 _ rfl; (with_reducible repeat (first | refine blk_drewN ?_ _ | refine blk_drew ?_ | refine blk_alloc ?_ _)); refine blk_put (cs := #[.string (⟨#[]⟩ : ByteArray), .int .u64 0, .string (⟨#[]⟩ : ByteArray)]) ?_ 0 _ rfl; (with_reducible repeat (first | refine blk_drewN ?_ _ | refine blk_drew ?_ | refine blk_alloc ?_ _)); exact BK283.out) hb); have n1_ := Aside0.mk (below_step (by repeat (first | (with_reducible first | exact HB.out | apply below_alloc | apply pw_below_drewN | apply below_drew1 | refine below_set ?_ GE283.out) | exact HB.out)) hb); clear BK283; clear HB; have BK283 := n0_; have HB := n1_; clear n0_ n1_; (try clear hb); (try clear hb2); (try clear hk); (try clear hi)) | ((with_reducible refine gate_dst (N := 8) rfl ?_); (try (refine gate_guard (by rfl) ?_; dsimp only)); refine box_event ?hg (N := 8) ?hd (cs := #[.string (⟨#[]⟩ : ByteArray), .int .u64 0, .string (⟨#[]⟩ : ByteArray)]) (t := 30) ?hr ?_; (case hd => rfl); (case hg => rfl); (case hr => first | (go_simp; done) | (go_simp; rfl)); intro gb288 hg w54 hbox hb; have n0_ := Aside0.mk (blk_below (g := gb283) (o := .cells #[.string t279, .int .u64 t280, .string t281] 24 (0, 0)) (by (with_reducible repeat (first | refine blk_drewN ?_ _ | refine blk_drew ?_ | refine blk_alloc ?_ _)); exact BK283.out) hb); have n1_ := Aside0.mk (below_step (by repeat (first | (with_reducible first | exact HB.out | apply below_alloc | apply pw_below_drewN | apply below_drew1 | refine below_set ?_ GE283.out) | exact HB.out)) hb); have n2_ := Aside0.mk (hbox); have n3_ := Aside0.mk ((by rw [hg]; exact (below_size (by repeat (first | (with_reducible first | exact HB.out | apply below_alloc | apply pw_below_drewN | apply below_drew1 | refine below_set ?_ GE283.out) | exact HB.out))) : w.heap.size ≤ gb288)); have n4_ := Aside0.mk ((by rw [hg]; exact (below_size (by repeat (first | (with_reducible first | exact HB.out | apply below_alloc | apply pw_below_drewN | apply below_drew1 | refine below_set ?_ GE283.out) | exact HB.out))) : w.heap.size ≤ gb288)); have n5_ := Aside0.mk ((by rw [hg]; exact Nat.ne_of_lt (blk_lt (g := gb283) (o := .cells #[.string t279, .int .u64 t280, .string t281] 24 (0, 0)) (by (with_reducible repeat (first | refine blk_drewN ?_ _ | refine blk_drew ?_ | refine blk_alloc ?_ _)); exact BK283.out)) : gb283 ≠ gb288)); have n6_ := Aside0.mk ((by rw [hg]; exact Nat.ne_of_gt (blk_lt (g := gb283) (o := .cells #[.string t279, .int .u64 t280, .string t281] 24 (0, 0)) (by (with_reducible repeat (first | refine blk_drewN ?_ _ | refine blk_drew ?_ | refine blk_alloc ?_ _)); exact BK283.out)) : gb288 ≠ gb283)); clear BK283; clear HB; have BK283 := n0_; have HB := n1_; have BK288 := n2_; have GW288 := n3_; have GE288 := n4_; have NB283_288 := n5_; have NB288_283 := n6_; clear n0_ n1_ n2_ n3_ n4_ n5_ n6_; clear hb hbox hg; have hnb55 := NB288_283.out; have hnc55 := NB283_288.out; have hcz56_0 : w54.cell? ⟨gb288, 0, none⟩ = some (.string (⟨#[]⟩ : ByteArray)) := (blk_cell BK288.out 0).trans rfl; have hcz56_1 : w54.cell? ⟨gb288, 1, none⟩ = some (.int .u64 0) := (blk_cell BK288.out 1).trans rfl; have hcz56_2 : w54.cell? ⟨gb288, 2, none⟩ = some (.string (⟨#[]⟩ : ByteArray)) := (blk_cell BK288.out 2).trans rfl; have hfz56_0 := blk_frozen BK288.out 0; have hfz56_1 := blk_frozen BK288.out 1; have hfz56_2 := blk_frozen BK288.out 2))
      have n0_ : Aside0 ((((w54.setCell ⟨gb288, 0, none⟩ (.string t284)).setCell ⟨gb288, 1, none⟩ (.int .u64 t285)).setCell ⟨gb288, 2, none⟩ (.string t286)).heap[gb283]? = some (.cells #[.string t279, .int .u64 t280, .string t281] 24 (0, 0))) := ⟨by (with_reducible repeat (first | refine blk_drewN ?_ _ | refine blk_drew ?_ | refine blk_alloc ?_ _)); refine blk_far ?_ NB283_288.out _; (with_reducible repeat (first | refine blk_drewN ?_ _ | refine blk_drew ?_ | refine blk_alloc ?_ _)); refine blk_far ?_ NB283_288.out _; (with_reducible repeat (first | refine blk_drewN ?_ _ | refine blk_drew ?_ | refine blk_alloc ?_ _)); refine blk_far ?_ NB283_288.out _; (with_reducible repeat (first | refine blk_drewN ?_ _ | refine blk_drew ?_ | refine blk_alloc ?_ _)); exact BK283.out⟩
      have n1_ : Aside0 ((((w54.setCell ⟨gb288, 0, none⟩ (.string t284)).setCell ⟨gb288, 1, none⟩ (.int .u64 t285)).setCell ⟨gb288, 2, none⟩ (.string t286)).heap[gb288]? = some (.cells #[.string t284, .int .u64 t285, .string t286] 30 (0, 0))) := ⟨by (with_reducible repeat (first | refine blk_drewN ?_ _ | refine blk_drew ?_ | refine blk_alloc ?_ _)); refine blk_put (cs := #[.string t284, .int .u64 t285, .string (⟨#[]⟩ : ByteArray)]) ?_ 2 _ rfl; (with_reducible repeat (first | refine blk_drewN ?_ _ | refine blk_drew ?_ | refine blk_alloc ?_ _)); refine blk_put (cs := #[.string t284, .int .u64 0, .string (⟨#[]⟩ : ByteArray)]) ?_ 1 _ rfl; (with_reducible repeat (first | refine blk_drewN ?_ _ | refine blk_drew ?_ | refine blk_alloc ?_ _)); refine blk_put (cs := #[.string (⟨#[]⟩ : ByteArray), .int .u64 0, .string (⟨#[]⟩ : ByteArray)]) ?_ 0 _ rfl; (with_reducible repeat (first | refine blk_drewN ?_ _ | refine blk_drew ?_ | refine blk_alloc ?_ _)); exact BK288.out⟩
      have n2_ : Aside0 (Below w.heap.size w (((w54.setCell ⟨gb288, 0, none⟩ (.string t284)).setCell ⟨gb288, 1, none⟩ (.int .u64 t285)).setCell ⟨gb288, 2, none⟩ (.string t286))) := ⟨by repeat (first | (with_reducible first | exact HB.out | apply below_alloc | apply pw_below_drewN | apply below_drew1 | refine below_set ?_ GE283.out | refine below_set ?_ GE288.out) | exact HB.out)⟩
      (try clear BK283)
      (try clear BK288)
      (try clear HB)
      generalize (((w54.setCell ⟨gb288, 0, none⟩ (.string t284)).setCell ⟨gb288, 1, none⟩ (.int .u64 t285)).setCell ⟨gb288, 2, none⟩ (.string t286)) = w57 at n0_ n1_ n2_ ⊢
      have BK283 := n0_
      have BK288 := n1_
      have HB := n2_
      clear n0_ n1_ n2_
      have n0_ := Aside0.mk (blk_drew BK283.out)
      have n1_ := Aside0.mk (blk_drew BK288.out)
      have n2_ := Aside0.mk (below_drew1 HB.out)
      clear BK283
      clear BK288
      clear HB
      have BK283 := n0_
      have BK288 := n1_
      have HB := n2_
      clear n0_ n1_ n2_
      refine start_ (n := 10) (S := fun w' => w'.cell? ⟨gb283, 0, none⟩ = some (.string t279) ∧ w'.cell? ⟨gb283, 1, none⟩ = some (.int .u64 t280) ∧ w'.cell? ⟨gb283, 2, none⟩ = some (.string t281) ∧ w'.cell? ⟨gb288, 0, none⟩ = some (.string t284) ∧ w'.cell? ⟨gb288, 1, none⟩ = some (.int .u64 t285) ∧ w'.cell? ⟨gb288, 2, none⟩ = some (.string t286)) (ds := []) #[false, false, false, false, false, false, false, false, false, false] (by kernel_rfl) rfl rfl ⟨(blk_cell BK283.out 0).trans rfl, (blk_cell BK283.out 1).trans rfl, (blk_cell BK283.out 2).trans rfl, (blk_cell BK288.out 0).trans rfl, (blk_cell BK288.out 1).trans rfl, (blk_cell BK288.out 2).trans rfl⟩ (fun hHeld => ?_); refine with_tabW rootcellarlaw17_StreamTakes.tab8 rootcellarlaw17_StreamTakes.bits8 (fun HT_ HW_ => ?_)
      generalize w57.drew = w58 at BK283 BK288 HB hHeld ⊢
      refine take_ (i := 0) (N := some 32) (v := ?_) (a' := ?_) #[true, false, false, false, false, false, false, false, false, false] rfl rfl (take_ofW HT_.out HW_.out (by kernel_rfl)) (fun _ _ _ h => h) (Or.inl ⟨by rfl, ?_⟩) hHeld ?_ ?_
      rotate_left
      ·rintro w' ⟨s0, s1, s2, s3, s4, s5⟩
       go_simp
       with_reducible rfl
      rotate_left
      ·simp only [Act.put, List.setIfInBounds_toArray, List.set_cons_zero, List.set_cons_succ, i64_w, i32_w]
       rfl
      refine take_ (i := 2) (N := some 34) (v := ?_) (a' := ?_) #[true, false, true, false, false, false, false, false, false, false] rfl rfl (take_ofW HT_.out HW_.out (by kernel_rfl)) (fun _ _ _ h => h) (Or.inl ⟨by rfl, ?_⟩) hHeld ?_ ?_
      rotate_left
      ·rintro w' ⟨s0, s1, s2, s3, s4, s5⟩
       go_simp
       with_reducible rfl
      rotate_left
      ·simp only [Act.put, List.setIfInBounds_toArray, List.set_cons_zero, List.set_cons_succ, i64_w, i32_w]
       rfl
      refine one_ (i := 1) (N := some 33) #[true, true, true, false, false, false, false, false, false, false] rfl rfl (one_of HT_.out (by kernel_rfl)) (by decide) (fun K hK => ?_)
      refine goes_ Tryd.func12 (by kernel_rfl) rfl #[.agg #[.string t279, .int .u64 t280, .string t281]] (by rfl) rfl rfl (by (try simp only [List.map_toArray, List.map_cons, List.map_nil]); first | done | rfl | (simp only [List.length_drop, List.length_take]; rfl) | (rw [wrap_sum2 (by assumption)]; rfl)) ?_
      with_reducible refine (rootcellarlaw17_as.calls t279 t280 t281 t289 t290 t291 _ A38.out).mono ?_
      rintro e w59 ⟨rfl, hb⟩
      refine ⟨_, rfl, ?_⟩
      have n0_ := Aside0.mk (blk_below (g := gb283) (o := .cells #[.string t279, .int .u64 t280, .string t281] 24 (0, 0)) (by (with_reducible repeat (first | refine blk_drewN ?_ _ | refine blk_drew ?_ | refine blk_alloc ?_ _)); exact BK283.out) hb)
      have n1_ := Aside0.mk (blk_below (g := gb288) (o := .cells #[.string t284, .int .u64 t285, .string t286] 30 (0, 0)) (by (with_reducible repeat (first | refine blk_drewN ?_ _ | refine blk_drew ?_ | refine blk_alloc ?_ _)); exact BK288.out) hb)
      have n2_ := Aside0.mk (below_step (by repeat (first | (with_reducible first | exact HB.out | apply below_alloc | apply pw_below_drewN | apply below_drew1 | refine below_set ?_ GE283.out | refine below_set ?_ GE288.out) | exact HB.out)) hb)
      clear BK283
      clear BK288
      clear HB
      have BK283 := n0_
      have BK288 := n1_
      have HB := n2_
      clear n0_ n1_ n2_
      (try clear hb)
      (try clear hb2)
      (try clear hk)
      (try clear hi)
      refine hK.out _ _ ⟨(blk_cell BK283.out 0).trans rfl, (blk_cell BK283.out 1).trans rfl, (blk_cell BK283.out 2).trans rfl, (blk_cell BK288.out 0).trans rfl, (blk_cell BK288.out 1).trans rfl, (blk_cell BK288.out 2).trans rfl⟩ (fun hHeld => ?_)
      clear hK K
      refine norm_ (a' := ?_) ?_ ?_
      rotate_left
      ·show Act.put _ (some 33) _ = _
       simp only [Act.put, List.setIfInBounds_toArray, List.set_cons_zero, List.set_cons_succ, i64_w, i32_w]
       rfl
      refine pure_ (i := 3) (N := some 35) (v := ?_) (a' := ?_) #[true, true, true, true, false, false, false, false, false, false] rfl rfl (any_of HT_.out (by kernel_rfl)) (fun _ _ _ h => h) (Or.inl ⟨by rfl, ?_⟩) ?_ ?_
      rotate_left
      ·intro w'
       go_simp
       with_reducible rfl
      rotate_left
      ·simp only [Act.put, List.setIfInBounds_toArray, List.set_cons_zero, List.set_cons_succ, i64_w, i32_w]
       rfl
      refine pure_ (i := 4) (N := some 36) (v := ?_) (a' := ?_) #[true, true, true, true, true, false, false, false, false, false] rfl rfl (any_of HT_.out (by kernel_rfl)) (fun _ _ _ h => h) (Or.inl ⟨by rfl, ?_⟩) ?_ ?_
      rotate_left
      ·intro w'
       go_simp
       with_reducible rfl
      rotate_left
      ·simp only [Act.put, List.setIfInBounds_toArray, List.set_cons_zero, List.set_cons_succ, i64_w, i32_w]
       rfl
      refine pure_ (i := 5) (N := some 37) (v := undef) (a' := ?_) #[true, true, true, true, true, true, false, false, false, false] rfl rfl (any_of HT_.out (by kernel_rfl)) (fun _ _ _ h => h) (Or.inr ⟨by rfl, rfl⟩) ?_ ?_
      rotate_left
      ·simp only [Act.put, List.setIfInBounds_toArray, List.set_cons_zero, List.set_cons_succ, i64_w, i32_w]
       rfl
      refine pure_ (i := 6) (N := some 38) (v := undef) (a' := ?_) #[true, true, true, true, true, true, true, false, false, false] rfl rfl (any_of HT_.out (by kernel_rfl)) (fun _ _ _ h => h) (Or.inr ⟨by rfl, rfl⟩) ?_ ?_
      rotate_left
      ·simp only [Act.put, List.setIfInBounds_toArray, List.set_cons_zero, List.set_cons_succ, i64_w, i32_w]
       rfl
      refine pure_ (i := 7) (N := some 39) (v := undef) (a' := ?_) #[true, true, true, true, true, true, true, true, false, false] rfl rfl (any_of HT_.out (by kernel_rfl)) (fun _ _ _ h => h) (Or.inr ⟨by rfl, rfl⟩) ?_ ?_
      rotate_left
      ·simp only [Act.put, List.setIfInBounds_toArray, List.set_cons_zero, List.set_cons_succ, i64_w, i32_w]
       rfl
      refine pure_ (i := 8) (N := some 40) (v := ?_) (a' := ?_) #[true, true, true, true, true, true, true, true, true, false] rfl rfl (any_of HT_.out (by kernel_rfl)) (fun _ _ _ h => h) (Or.inl ⟨by rfl, ?_⟩) ?_ ?_
      rotate_left
      ·intro w'
       go_simp
       with_reducible rfl
      rotate_left
      ·simp only [Act.put, List.setIfInBounds_toArray, List.set_cons_zero, List.set_cons_succ, i64_w, i32_w]
       rfl
      refine pure_ (i := 9) (N := some 4) (v := ?_) (a' := ?_) #[true, true, true, true, true, true, true, true, true, true] rfl rfl (any_of HT_.out (by kernel_rfl)) (fun _ _ _ h => h) (Or.inl ⟨by rfl, ?_⟩) ?_ ?_
      rotate_left
      ·intro w'
       go_simp
       with_reducible rfl
      rotate_left
      ·simp only [Act.put, List.setIfInBounds_toArray, List.set_cons_zero, List.set_cons_succ, i64_w, i32_w]
       rfl
      refine done_ (done_of HT_.out (by kernel_rfl)) ?_
      try go_wp2
      go_ret
      exact ⟨by first | rfl | (simp [errW_none, errW_some] <;> rfl) | (simp [*, errW_none, errW_some] <;> rfl), by repeat (first | (with_reducible first | exact HB.out | apply below_alloc | apply pw_below_drewN | apply below_drew1 | refine below_set ?_ GE283.out | refine below_set ?_ GE288.out) | exact HB.out)⟩


end Go.Proofs.YtfoniidbkbmjeaaDoor.Fn
end
section
-- Written by printx.py, a program of this session over the kit's print: each Go function as a plain Lean function, and that the Go code computes it.





namespace Go.Proofs.YtfoniidbkbmjeaaDoor.Fn
open Go.RowKit Go.Proofs.YtfoniidbkbmjeaaDoorW.PrintWords Go.Proofs.YtfoniidbkbmjeaaDoorW.PrintLast Go.Proofs.YtfoniidbkbmjeaaDoorW.PrintMore Go.Proofs.YtfoniidbkbmjeaaDoor.Lf
attribute [local go_sem] max2_int min2_int max_two min_two max_three min_three max_four min_four   -- for this text's walks alone
set_option linter.unusedVariables false
set_option linter.unusedSimpArgs false

attribute [local go_sem high] eqA24
/-! ### rootcellarlaw17_StreamBack: function 7 -/
mutual
def rootcellarlaw17_StreamBack.j0 : Nat → ByteArray → Bool → Bool → ByteArray → Int → ByteArray → Option (Bool)
 | 0, _, _, _, _, _, _ => none
 | k + 1, x1, x5, x33, x293000, x293001, x293002 => if x33 = true then (some x5) else ((stream_Put.f x293000 x293001 x293002).bind fun bt294 => (if bt294.2 = 0 then ((stream_Take.f k bt294.1).bind fun bt296 => (if (!(bt296.1.toList == x293000.toList) || (!(bt296.2.1 == x293001) || (!(bt296.2.2.1.toList == x293002.toList)))) = true then (some false) else (if bt296.2.2.2 = 0 then (rootcellarlaw17_StreamBack.j1 k x1) else (some false)))) else (rootcellarlaw17_StreamBack.j1 k x1)))
def rootcellarlaw17_StreamBack.j1 : Nat → ByteArray → Option (Bool)
 | 0, _ => none
 | k + 1, x1 => (stream_Take.f k x1).bind fun bt301 => (if bt301.2.2.2 = 0 then ((stream_Put.f bt301.1 bt301.2.1 bt301.2.2.1).bind fun bt306 => (if bt306.1.toList = x1.toList then (some (bt306.2 == 0)) else (some false))) else (some (bt301.1.toList == ([] : List UInt8) && (bt301.2.1 == 0 && (bt301.2.2.1.toList == ([] : List UInt8))))))
end
def rootcellarlaw17_StreamBack.f (k : Nat) (a0_0 : ByteArray) (a0_1 : Int) (a0_2 : ByteArray) (a1 : ByteArray) : Option (Bool) := (rootcellarlaw17_shown.f).bind fun t293 => (if t293 = true then (if (a0_0.size : Int) > 200 then (rootcellarlaw17_StreamBack.j0 k a1 t293 true a0_0 a0_1 a0_2) else (if (a0_2.size : Int) > 1100 then (rootcellarlaw17_StreamBack.j0 k a1 t293 true a0_0 a0_1 a0_2) else (rootcellarlaw17_StreamBack.j0 k a1 t293 (decide ((a1.size : Int) > 2000)) a0_0 a0_1 a0_2))) else (rootcellarlaw17_StreamBack.j0 k a1 t293 true a0_0 a0_1 a0_2))
theorem rootcellarlaw17_StreamBack.mono_l : ∀ k, (∀ y0 y1 y2 y3 y4 y5, LeO (rootcellarlaw17_StreamBack.j0 k y0 y1 y2 y3 y4 y5) (rootcellarlaw17_StreamBack.j0 (k + 1) y0 y1 y2 y3 y4 y5)) ∧ (∀ y0, LeO (rootcellarlaw17_StreamBack.j1 k y0) (rootcellarlaw17_StreamBack.j1 (k + 1) y0))
 | 0 => ⟨fun _ _ _ _ _ _ r h => by simp [rootcellarlaw17_StreamBack.j0] at h, fun _ r h => by simp [rootcellarlaw17_StreamBack.j1] at h⟩
 | k + 1 => by
  obtain ⟨ih0, ih1⟩ := rootcellarlaw17_StreamBack.mono_l k
  refine ⟨?_, ?_⟩
  ·intro y0 y1 y2 y3 y4 y5
   unfold rootcellarlaw17_StreamBack.j0
   repeat' first
   | (with_reducible exact ih0 _ _ _ _ _ _)
   | (with_reducible exact ih1 _)
   | (with_reducible exact stream_Take.mono _ _)
   | (with_reducible exact LeO.refl _)
   | (with_reducible exact LeO.none _)
   | (with_reducible refine LeO.ite ?_ ?_)
   | (with_reducible refine LeO.bind ?_ (fun _ => ?_))
   | exact ih0 _ _ _ _ _ _
   | exact ih1 _
   | exact stream_Take.mono _ _
   | exact LeO.none _
   | refine LeO.ite ?_ ?_
   | refine LeO.bind ?_ (fun _ => ?_)
  ·intro y0
   unfold rootcellarlaw17_StreamBack.j1
   repeat' first
   | (with_reducible exact ih0 _ _ _ _ _ _)
   | (with_reducible exact ih1 _)
   | (with_reducible exact stream_Take.mono _ _)
   | (with_reducible exact LeO.refl _)
   | (with_reducible exact LeO.none _)
   | (with_reducible refine LeO.ite ?_ ?_)
   | (with_reducible refine LeO.bind ?_ (fun _ => ?_))
   | exact ih0 _ _ _ _ _ _
   | exact ih1 _
   | exact stream_Take.mono _ _
   | exact LeO.none _
   | refine LeO.ite ?_ ?_
   | refine LeO.bind ?_ (fun _ => ?_)
theorem rootcellarlaw17_StreamBack.mono : ∀ a0 a1 a2 a3 k, LeO (rootcellarlaw17_StreamBack.f k a0 a1 a2 a3) (rootcellarlaw17_StreamBack.f (k + 1) a0 a1 a2 a3) := by
 intro a0 a1 a2 a3 k
 obtain ⟨ih0, ih1⟩ := rootcellarlaw17_StreamBack.mono_l k
 unfold rootcellarlaw17_StreamBack.f
 repeat' first
   | (with_reducible exact ih0 _ _ _ _ _ _)
   | (with_reducible exact ih1 _)
   | (with_reducible exact stream_Take.mono _ _)
   | (with_reducible exact LeO.refl _)
   | (with_reducible exact LeO.none _)
   | (with_reducible refine LeO.ite ?_ ?_)
   | (with_reducible refine LeO.bind ?_ (fun _ => ?_))
   | exact ih0 _ _ _ _ _ _
   | exact ih1 _
   | exact stream_Take.mono _ _
   | exact LeO.none _
   | refine LeO.ite ?_ ?_
   | refine LeO.bind ?_ (fun _ => ?_)
set_option maxHeartbeats 8000000 in
set_option maxRecDepth 100000 in
theorem rootcellarlaw17_StreamBack.calls (k : Nat) (a0_0 : ByteArray) (a0_1 : Int) (a0_2 : ByteArray) (a1 : ByteArray) (r : Bool) (w : World) (h : rootcellarlaw17_StreamBack.f k a0_0 a0_1 a0_2 a1 = some r) (HT : Tabs w) :
  Calls Tryd.prog 7 #[.agg #[.string a0_0, .int .u64 a0_1, .string a0_2], .string a1] w fun e w' => e = .returned (.bool r) ∧ Below w.heap.size w w' := by
 have hu24 := Tryd.underlying24
 have HB := Aside0.mk (Below.refl w.heap.size w)
 have H : ((rootcellarlaw17_shown.f).bind fun t293 => (if t293 = true then (if (a0_0.size : Int) > 200 then (rootcellarlaw17_StreamBack.j0 k a1 t293 true a0_0 a0_1 a0_2) else (if (a0_2.size : Int) > 1100 then (rootcellarlaw17_StreamBack.j0 k a1 t293 true a0_0 a0_1 a0_2) else (rootcellarlaw17_StreamBack.j0 k a1 t293 (decide ((a1.size : Int) > 2000)) a0_0 a0_1 a0_2))) else (rootcellarlaw17_StreamBack.j0 k a1 t293 true a0_0 a0_1 a0_2))) = some r := h
 clear h
 replace H := Option.bind_eq_some_iff.mp H
 obtain ⟨t293, A30, H⟩ := H
 replace H : (if t293 = true then (if (a0_0.size : Int) > 200 then (rootcellarlaw17_StreamBack.j0 k a1 t293 true a0_0 a0_1 a0_2) else (if (a0_2.size : Int) > 1100 then (rootcellarlaw17_StreamBack.j0 k a1 t293 true a0_0 a0_1 a0_2) else (rootcellarlaw17_StreamBack.j0 k a1 t293 (decide ((a1.size : Int) > 2000)) a0_0 a0_1 a0_2))) else (rootcellarlaw17_StreamBack.j0 k a1 t293 true a0_0 a0_1 a0_2)) = some r := H
 have A3 := Aside0.mk A30
 clear A30
 have HC4 := Aside0.mk H
 clear H
 go_enter Tryd.func7, Tryd.ntmps7
 go_upto_region 2 with (first | ((with_reducible refine gate_dst (N := 2) rfl ?_); (try (refine gate_guard (by rfl) ?_; dsimp only)); refine box_event ?hg (N := 2) ?hd (cs := #[.string a0_0, .int .u64 a0_1, .string a0_2]) (t := 24) ?hr ?_; (case hd => rfl); (case hg => rfl); (case hr => first | (go_simp; done) | (go_simp; rfl)); intro gb292 hg w5 hbox hb; have n0_ := Aside0.mk (below_step (by repeat (first | (with_reducible first | exact HB.out | apply below_alloc | apply pw_below_drewN | apply below_drew1) | exact HB.out)) hb); have n1_ := Aside0.mk (hbox); have n2_ := Aside0.mk ((by rw [hg]; exact (below_size (by repeat (first | (with_reducible first | exact HB.out | apply below_alloc | apply pw_below_drewN | apply below_drew1) | exact HB.out))) : w.heap.size ≤ gb292)); have n3_ := Aside0.mk ((by rw [hg]; exact (below_size (by repeat (first | (with_reducible first | exact HB.out | apply below_alloc | apply pw_below_drewN | apply below_drew1) | exact HB.out))) : w.heap.size ≤ gb292)); clear HB; have HB := n0_; have BK292 := n1_; have GW292 := n2_; have GE292 := n3_; clear n0_ n1_ n2_ n3_; clear hb hbox hg) | ((with_reducible refine gate_callee (f := 9) rfl ?_); refine goesL_ (some 14) rfl rfl Tryd.func9 (by kernel_rfl) rfl #[] rfl (by (try simp only [List.map_toArray, List.map_cons, List.map_nil]); first | done | rfl | (simp only [List.length_drop, List.length_take]; rfl) | (rw [wrap_sum2 (by assumption)]; rfl)) ?_; (with_reducible refine (rootcellarlaw17_shown.calls  t293 _ A3.out (HT.below (by repeat (first | (with_reducible first | exact HB.out | apply below_alloc | apply pw_below_drewN | apply below_drew1 | refine below_set ?_ GE292.out) | exact HB.out)))).mono ?_); rintro e w6 ⟨rfl, hb⟩; refine ⟨_, rfl, ?_⟩; have n0_ := Aside0.mk (blk_below (g := gb292) (o := .cells #[.string a0_0, .int .u64 a0_1, .string a0_2] 24 (0, 0)) (by (with_reducible repeat (first | refine blk_drewN ?_ _ | refine blk_drew ?_ | refine blk_alloc ?_ _)); exact BK292.out) hb); have n1_ := Aside0.mk (below_step (by repeat (first | (with_reducible first | exact HB.out | apply below_alloc | apply pw_below_drewN | apply below_drew1 | refine below_set ?_ GE292.out) | exact HB.out)) hb); clear BK292; clear HB; have BK292 := n0_; have HB := n1_; clear n0_ n1_; (try clear hb); (try clear hb2); (try clear hk); (try clear hi)))
 (try simp only [Act.put, List.setIfInBounds_toArray, List.set_cons_zero, List.set_cons_succ])
 go_cut [33] (fun v33 wc => ∃ (kq : Nat) (x33_3 : Bool), v33 = .bool x33_3 ∧ Aside0 (rootcellarlaw17_StreamBack.j0 kq a1 t293 x33_3 a0_0 a0_1 a0_2 = some r) ∧ Aside0 (kq ≤ k) ∧ Aside0 (wc.heap[gb292]? = some (.cells #[.string a0_0, .int .u64 a0_1, .string a0_2] 24 (0, 0))) ∧ Aside0 (Below w.heap.size w wc))
 case first =>
  have H := HC4.out
  clear HC4
  by_cases c7 : t293 = true
  ·subst c7
   have H1 : (if (a0_0.size : Int) > 200 then (rootcellarlaw17_StreamBack.j0 k a1 true true a0_0 a0_1 a0_2) else (if (a0_2.size : Int) > 1100 then (rootcellarlaw17_StreamBack.j0 k a1 true true a0_0 a0_1 a0_2) else (rootcellarlaw17_StreamBack.j0 k a1 true (decide ((a1.size : Int) > 2000)) a0_0 a0_1 a0_2))) = some r := by rw [if_pos rfl] at H; exact H
   clear H
   have H := H1
   clear H1
   by_cases c8 : (a0_0.size : Int) > 200
   ·rw [if_pos c8] at H
    have c8b0 : decide (200 < (a0_0.size : Int)) = true := decide_eq_true c8
    have c8b1 : decide (200 < a0_0.size) = true := decide_eq_true (by omega)
    clear c8
    (first | rw [c8b0] | (simp only [i64_w, i32_w]; rw [c8b0]) | skip)
    have H' := Aside0.mk H
    clear H
    have hcz9_0 : w6.cell? ⟨gb292, 0, none⟩ = some (.string a0_0) := (blk_cell BK292.out 0).trans rfl
    have hcz9_1 : w6.cell? ⟨gb292, 1, none⟩ = some (.int .u64 a0_1) := (blk_cell BK292.out 1).trans rfl
    have hcz9_2 : w6.cell? ⟨gb292, 2, none⟩ = some (.string a0_2) := (blk_cell BK292.out 2).trans rfl
    have hfz9_0 := blk_frozen BK292.out 0
    have hfz9_1 := blk_frozen BK292.out 1
    have hfz9_2 := blk_frozen BK292.out 2
    go_wp2
    go_meet
    case rel => exact ⟨_, (true), (by first | rfl | (simp; done) | (simp [*]; done)), H', ⟨by first | omega | exact Nat.le_refl _⟩, ⟨by (with_reducible repeat (first | refine blk_drewN ?_ _ | refine blk_drew ?_ | refine blk_alloc ?_ _)); exact BK292.out⟩, ⟨by repeat (first | (with_reducible first | exact HB.out | apply below_alloc | apply pw_below_drewN | apply below_drew1 | refine below_set ?_ GE292.out) | exact HB.out)⟩⟩
   ·rw [if_neg c8] at H
    have c8b0 : decide (200 < (a0_0.size : Int)) = false := decide_eq_false c8
    have c8b1 : decide (200 < a0_0.size) = false := decide_eq_false (by omega)
    clear c8
    (first | rw [c8b0] | (simp only [i64_w, i32_w]; rw [c8b0]) | skip)
    by_cases c10 : (a0_2.size : Int) > 1100
    ·rw [if_pos c10] at H
     have c10b0 : decide (1100 < (a0_2.size : Int)) = true := decide_eq_true c10
     have c10b1 : decide (1100 < a0_2.size) = true := decide_eq_true (by omega)
     clear c10
     have H' := Aside0.mk H
     clear H
     have hcz11_0 : w6.cell? ⟨gb292, 0, none⟩ = some (.string a0_0) := (blk_cell BK292.out 0).trans rfl
     have hcz11_1 : w6.cell? ⟨gb292, 1, none⟩ = some (.int .u64 a0_1) := (blk_cell BK292.out 1).trans rfl
     have hcz11_2 : w6.cell? ⟨gb292, 2, none⟩ = some (.string a0_2) := (blk_cell BK292.out 2).trans rfl
     have hfz11_0 := blk_frozen BK292.out 0
     have hfz11_1 := blk_frozen BK292.out 1
     have hfz11_2 := blk_frozen BK292.out 2
     go_wp2
     go_meet
     case rel => exact ⟨_, (true), (by first | rfl | (simp; done) | (simp [*]; done)), H', ⟨by first | omega | exact Nat.le_refl _⟩, ⟨by (with_reducible repeat (first | refine blk_drewN ?_ _ | refine blk_drew ?_ | refine blk_alloc ?_ _)); exact BK292.out⟩, ⟨by repeat (first | (with_reducible first | exact HB.out | apply below_alloc | apply pw_below_drewN | apply below_drew1 | refine below_set ?_ GE292.out) | exact HB.out)⟩⟩
    ·rw [if_neg c10] at H
     have c10b0 : decide (1100 < (a0_2.size : Int)) = false := decide_eq_false c10
     have c10b1 : decide (1100 < a0_2.size) = false := decide_eq_false (by omega)
     clear c10
     have H' := Aside0.mk H
     clear H
     have hcz12_0 : w6.cell? ⟨gb292, 0, none⟩ = some (.string a0_0) := (blk_cell BK292.out 0).trans rfl
     have hcz12_1 : w6.cell? ⟨gb292, 1, none⟩ = some (.int .u64 a0_1) := (blk_cell BK292.out 1).trans rfl
     have hcz12_2 : w6.cell? ⟨gb292, 2, none⟩ = some (.string a0_2) := (blk_cell BK292.out 2).trans rfl
     have hfz12_0 := blk_frozen BK292.out 0
     have hfz12_1 := blk_frozen BK292.out 1
     have hfz12_2 := blk_frozen BK292.out 2
     go_wp2
     go_meet
     case rel => exact ⟨_, (decide ((a1.size : Int) > 2000)), (by first | rfl | (simp; done) | (simp [*]; done)), H', ⟨by first | omega | exact Nat.le_refl _⟩, ⟨by (with_reducible repeat (first | refine blk_drewN ?_ _ | refine blk_drew ?_ | refine blk_alloc ?_ _)); exact BK292.out⟩, ⟨by repeat (first | (with_reducible first | exact HB.out | apply below_alloc | apply pw_below_drewN | apply below_drew1 | refine below_set ?_ GE292.out) | exact HB.out)⟩⟩
  ·replace c7 := Bool.eq_false_iff.mpr c7
   subst c7
   have H1 : (rootcellarlaw17_StreamBack.j0 k a1 false true a0_0 a0_1 a0_2) = some r := by rw [if_neg (show ¬ (false = true) by decide)] at H; exact H
   clear H
   have H := H1
   clear H1
   have H' := Aside0.mk H
   clear H
   go_wp2
   go_meet
   case rel => exact ⟨_, (true), (by first | rfl | (simp; done) | (simp [*]; done)), H', ⟨by first | omega | exact Nat.le_refl _⟩, ⟨by (with_reducible repeat (first | refine blk_drewN ?_ _ | refine blk_drew ?_ | refine blk_alloc ?_ _)); exact BK292.out⟩, ⟨by repeat (first | (with_reducible first | exact HB.out | apply below_alloc | apply pw_below_drewN | apply below_drew1 | refine below_set ?_ GE292.out) | exact HB.out)⟩⟩
 case rest =>
  clear HC4
  try clear c1
  try clear p2
  try clear c7
  try clear c8
  try clear c8b0
  try clear c8b1
  try clear c9
  try clear c10
  try clear c10b0
  try clear c10b1
  try clear hcz11_0
  try clear hcz11_1
  try clear hcz11_2
  try clear hcz12_0
  try clear hcz12_1
  try clear hcz12_2
  try clear hcz9_0
  try clear hcz9_1
  try clear hcz9_2
  try clear hfz11_0
  try clear hfz11_1
  try clear hfz11_2
  try clear hfz12_0
  try clear hfz12_1
  try clear hfz12_2
  try clear hfz9_0
  try clear hfz9_1
  try clear hfz9_2
  obtain ⟨kq, x33_3, rfl, HA, HJ3, BK292, HB⟩ := hcut
  cases kq with
  | zero => exact absurd HA.out (by simp [rootcellarlaw17_StreamBack.j0])
  | succ kj3 =>
   have H := HA.out
   clear HA
   simp only [rootcellarlaw17_StreamBack.j0] at H
   by_cases c13 : x33_3 = true
   ·subst c13
    have H1 : (some t293) = some r := by rw [if_pos rfl] at H; exact H
    clear H
    have H := H1
    clear H1
    obtain rfl := Option.some.inj H
    go_wp2
    go_ret
    exact ⟨by first | rfl | (simp [errW_none, errW_some] <;> rfl) | (simp [*, errW_none, errW_some] <;> rfl), by repeat (first | (with_reducible first | exact HB.out | apply below_alloc | apply pw_below_drewN | apply below_drew1 | refine below_set ?_ GE292.out) | exact HB.out)⟩
   ·replace c13 := Bool.eq_false_iff.mpr c13
    subst c13
    have H1 : ((stream_Put.f a0_0 a0_1 a0_2).bind fun bt294 => (if bt294.2 = 0 then ((stream_Take.f kj3 bt294.1).bind fun bt296 => (if (!(bt296.1.toList == a0_0.toList) || (!(bt296.2.1 == a0_1) || (!(bt296.2.2.1.toList == a0_2.toList)))) = true then (some false) else (if bt296.2.2.2 = 0 then (rootcellarlaw17_StreamBack.j1 kj3 a1) else (some false)))) else (rootcellarlaw17_StreamBack.j1 kj3 a1))) = some r := by rw [if_neg (show ¬ (false = true) by decide)] at H; exact H
    clear H
    have H := H1
    clear H1
    replace H := Option.bind_eq_some_iff.mp H
    obtain ⟨⟨t294, t295⟩, A140, H⟩ := H
    replace H : (if t295 = 0 then ((stream_Take.f kj3 t294).bind fun bt296 => (if (!(bt296.1.toList == a0_0.toList) || (!(bt296.2.1 == a0_1) || (!(bt296.2.2.1.toList == a0_2.toList)))) = true then (some false) else (if bt296.2.2.2 = 0 then (rootcellarlaw17_StreamBack.j1 kj3 a1) else (some false)))) else (rootcellarlaw17_StreamBack.j1 kj3 a1)) = some r := H
    have A14 := Aside0.mk A140
    clear A140
    have HC15 := Aside0.mk H
    clear H
    have hcz16_0 : wc.cell? ⟨gb292, 0, none⟩ = some (.string a0_0) := (blk_cell BK292.out 0).trans rfl
    have hcz16_1 : wc.cell? ⟨gb292, 1, none⟩ = some (.int .u64 a0_1) := (blk_cell BK292.out 1).trans rfl
    have hcz16_2 : wc.cell? ⟨gb292, 2, none⟩ = some (.string a0_2) := (blk_cell BK292.out 2).trans rfl
    have hfz16_0 := blk_frozen BK292.out 0
    have hfz16_1 := blk_frozen BK292.out 1
    have hfz16_2 := blk_frozen BK292.out 2
    go_upto_if 41 with (first | ((with_reducible refine gate_callee (f := 10) rfl ?_); refine goesL_ (some 37) rfl rfl Tryd.func10 (by kernel_rfl) rfl #[.agg #[.string a0_0, .int .u64 a0_1, .string a0_2]] rfl (by (try simp only [List.map_toArray, List.map_cons, List.map_nil]); first | done | rfl | (simp only [List.length_drop, List.length_take]; rfl) | (rw [wrap_sum2 (by assumption)]; rfl)) ?_; (with_reducible refine (stream_Put.calls a0_0 a0_1 a0_2 t294 t295 _ A14.out (HT.below (by repeat (first | (with_reducible first | exact HB.out | apply below_alloc | apply pw_below_drewN | apply below_drew1 | refine below_set ?_ GE292.out) | exact HB.out)))).mono ?_); rintro e w17 ⟨rfl, hb⟩; refine ⟨_, rfl, ?_⟩; have n0_ := Aside0.mk (blk_below (g := gb292) (o := .cells #[.string a0_0, .int .u64 a0_1, .string a0_2] 24 (0, 0)) (by (with_reducible repeat (first | refine blk_drewN ?_ _ | refine blk_drew ?_ | refine blk_alloc ?_ _)); exact BK292.out) hb); have n1_ := Aside0.mk (below_step (by repeat (first | (with_reducible first | exact HB.out | apply below_alloc | apply pw_below_drewN | apply below_drew1 | refine below_set ?_ GE292.out) | exact HB.out)) hb); clear BK292; clear HB; have BK292 := n0_; have HB := n1_; clear n0_ n1_; (try clear hb); (try clear hb2); (try clear hk); (try clear hi)))
    (try simp only [Act.put, List.setIfInBounds_toArray, List.set_cons_zero, List.set_cons_succ])
    go_cut [] (fun wc => ∃ (kq : Nat), Aside0 (rootcellarlaw17_StreamBack.j1 kq a1 = some r) ∧ Aside0 (kq ≤ kj3) ∧ Aside0 (wc.heap[gb292]? = some (.cells #[.string a0_0, .int .u64 a0_1, .string a0_2] 24 (0, 0))) ∧ Aside0 (Below w.heap.size w wc))
    case first =>
     have H := HC15.out
     clear HC15
     by_cases c18 : t295 = 0
     ·rw [if_pos c18] at H
      have c18b0 : (t295 == 0) = true := beq_iff_eq.mpr c18
      have c18b1 : (t295 != 0) = false := bne_eq_false_iff_eq.mpr c18
      clear c18
      (first | rw [c18b0] | (simp only [i64_w, i32_w]; rw [c18b0]) | skip)
      replace H := Option.bind_eq_some_iff.mp H
      obtain ⟨⟨t296, t297, t298, t299⟩, A190, H⟩ := H
      replace H : (if (!(t296.toList == a0_0.toList) || (!(t297 == a0_1) || (!(t298.toList == a0_2.toList)))) = true then (some false) else (if t299 = 0 then (rootcellarlaw17_StreamBack.j1 kj3 a1) else (some false))) = some r := H
      have A19 := Aside0.mk A190
      clear A190
      by_cases c20 : (!(t296.toList == a0_0.toList) || (!(t297 == a0_1) || (!(t298.toList == a0_2.toList)))) = true
      ·rw [if_pos c20] at H
       have c20b0 : (!(t296.toList == a0_0.toList) || (!(t297 == a0_1) || (!(t298.toList == a0_2.toList)))) = true := c20
       clear c20
       obtain rfl := Option.some.inj H
       go_wp2_with (first | ((with_reducible refine gate_callee (f := 16) rfl ?_); refine goesL_ (some 44) rfl rfl Tryd.func16 (by kernel_rfl) rfl #[.string t294] rfl (by (try simp only [List.map_toArray, List.map_cons, List.map_nil]); first | done | rfl | (simp only [List.length_drop, List.length_take]; rfl) | (rw [wrap_sum2 (by assumption)]; rfl)) ?_; (with_reducible refine (stream_Take.calls kj3 t294 t296 t297 t298 t299 _ A19.out (HT.below (by repeat (first | (with_reducible first | exact HB.out | apply below_alloc | apply pw_below_drewN | apply below_drew1 | refine below_set ?_ GE292.out) | exact HB.out)))).mono ?_); rintro e w21 ⟨rfl, hb⟩; refine ⟨_, rfl, ?_⟩; have n0_ := Aside0.mk (blk_below (g := gb292) (o := .cells #[.string a0_0, .int .u64 a0_1, .string a0_2] 24 (0, 0)) (by (with_reducible repeat (first | refine blk_drewN ?_ _ | refine blk_drew ?_ | refine blk_alloc ?_ _)); exact BK292.out) hb); have n1_ := Aside0.mk (below_step (by repeat (first | (with_reducible first | exact HB.out | apply below_alloc | apply pw_below_drewN | apply below_drew1 | refine below_set ?_ GE292.out) | exact HB.out)) hb); clear BK292; clear HB; have BK292 := n0_; have HB := n1_; clear n0_ n1_; (try clear hb); (try clear hb2); (try clear hk); (try clear hi)) | ((with_reducible refine gate_dst (N := 8) rfl ?_); (try (refine gate_guard (by rfl) ?_; dsimp only)); refine box_event ?hg (N := 8) ?hd (cs := #[.string (⟨#[]⟩ : ByteArray), .int .u64 0, .string (⟨#[]⟩ : ByteArray)]) (t := 24) ?hr ?_; (case hd => rfl); (case hg => rfl); (case hr => first | (go_simp; done) | (go_simp; rfl)); intro gb300 hg w22 hbox hb; have n0_ := Aside0.mk (blk_below (g := gb292) (o := .cells #[.string a0_0, .int .u64 a0_1, .string a0_2] 24 (0, 0)) (by (with_reducible repeat (first | refine blk_drewN ?_ _ | refine blk_drew ?_ | refine blk_alloc ?_ _)); exact BK292.out) hb); have n1_ := Aside0.mk (below_step (by repeat (first | (with_reducible first | exact HB.out | apply below_alloc | apply pw_below_drewN | apply below_drew1 | refine below_set ?_ GE292.out) | exact HB.out)) hb); have n2_ := Aside0.mk (hbox); have n3_ := Aside0.mk ((by rw [hg]; exact (below_size (by repeat (first | (with_reducible first | exact HB.out | apply below_alloc | apply pw_below_drewN | apply below_drew1 | refine below_set ?_ GE292.out) | exact HB.out))) : w.heap.size ≤ gb300)); have n4_ := Aside0.mk ((by rw [hg]; exact (below_size (by repeat (first | (with_reducible first | exact HB.out | apply below_alloc | apply pw_below_drewN | apply below_drew1 | refine below_set ?_ GE292.out) | exact HB.out))) : w.heap.size ≤ gb300)); have n5_ := Aside0.mk ((by rw [hg]; exact Nat.ne_of_lt (blk_lt (g := gb292) (o := .cells #[.string a0_0, .int .u64 a0_1, .string a0_2] 24 (0, 0)) (by (with_reducible repeat (first | refine blk_drewN ?_ _ | refine blk_drew ?_ | refine blk_alloc ?_ _)); exact BK292.out)) : gb292 ≠ gb300)); have n6_ := Aside0.mk ((by rw [hg]; exact Nat.ne_of_gt (blk_lt (g := gb292) (o := .cells #[.string a0_0, .int .u64 a0_1, .string a0_2] 24 (0, 0)) (by (with_reducible repeat (first | refine blk_drewN ?_ _ | refine blk_drew ?_ | refine blk_alloc ?_ _)); exact BK292.out)) : gb300 ≠ gb292)); clear BK292; clear HB; have BK292 := n0_; have HB := n1_; have BK300 := n2_; have GW300 := n3_; have GE300 := n4_; have NB292_300 := n5_; have NB300_292 := n6_; clear n0_ n1_ n2_ n3_ n4_ n5_ n6_; clear hb hbox hg; have hnb23 := NB300_292.out; have hnc23 := NB292_300.out; have hcz24_0 : w22.cell? ⟨gb300, 0, none⟩ = some (.string (⟨#[]⟩ : ByteArray)) := (blk_cell BK300.out 0).trans rfl; have hcz24_1 : w22.cell? ⟨gb300, 1, none⟩ = some (.int .u64 0) := (blk_cell BK300.out 1).trans rfl; have hcz24_2 : w22.cell? ⟨gb300, 2, none⟩ = some (.string (⟨#[]⟩ : ByteArray)) := (blk_cell BK300.out 2).trans rfl; have hfz24_0 := blk_frozen BK300.out 0; have hfz24_1 := blk_frozen BK300.out 1; have hfz24_2 := blk_frozen BK300.out 2; have hcz25_0 : w22.cell? ⟨gb292, 0, none⟩ = some (.string a0_0) := (blk_cell BK292.out 0).trans rfl; have hcz25_1 : w22.cell? ⟨gb292, 1, none⟩ = some (.int .u64 a0_1) := (blk_cell BK292.out 1).trans rfl; have hcz25_2 : w22.cell? ⟨gb292, 2, none⟩ = some (.string a0_2) := (blk_cell BK292.out 2).trans rfl; have hfz25_0 := blk_frozen BK292.out 0; have hfz25_1 := blk_frozen BK292.out 1; have hfz25_2 := blk_frozen BK292.out 2))
       go_ret
       exact ⟨by first | rfl | (simp [errW_none, errW_some] <;> rfl) | (simp [*, errW_none, errW_some] <;> rfl), by repeat (first | (with_reducible first | exact HB.out | apply below_alloc | apply pw_below_drewN | apply below_drew1 | refine below_set ?_ GE292.out | refine below_set ?_ GE300.out) | exact HB.out)⟩
      ·rw [if_neg c20] at H
       have c20b0 : (!(t296.toList == a0_0.toList) || (!(t297 == a0_1) || (!(t298.toList == a0_2.toList)))) = false := by simpa using c20
       clear c20
       by_cases c26 : t299 = 0
       ·rw [if_pos c26] at H
        have c26b0 : (t299 == 0) = true := beq_iff_eq.mpr c26
        have c26b1 : (t299 != 0) = false := bne_eq_false_iff_eq.mpr c26
        clear c26
        have H' := Aside0.mk H
        clear H
        go_wp2_with (first | ((with_reducible refine gate_callee (f := 16) rfl ?_); refine goesL_ (some 44) rfl rfl Tryd.func16 (by kernel_rfl) rfl #[.string t294] rfl (by (try simp only [List.map_toArray, List.map_cons, List.map_nil]); first | done | rfl | (simp only [List.length_drop, List.length_take]; rfl) | (rw [wrap_sum2 (by assumption)]; rfl)) ?_; (with_reducible refine (stream_Take.calls kj3 t294 t296 t297 t298 t299 _ A19.out (HT.below (by repeat (first | (with_reducible first | exact HB.out | apply below_alloc | apply pw_below_drewN | apply below_drew1 | refine below_set ?_ GE292.out) | exact HB.out)))).mono ?_); rintro e w27 ⟨rfl, hb⟩; refine ⟨_, rfl, ?_⟩; have n0_ := Aside0.mk (blk_below (g := gb292) (o := .cells #[.string a0_0, .int .u64 a0_1, .string a0_2] 24 (0, 0)) (by (with_reducible repeat (first | refine blk_drewN ?_ _ | refine blk_drew ?_ | refine blk_alloc ?_ _)); exact BK292.out) hb); have n1_ := Aside0.mk (below_step (by repeat (first | (with_reducible first | exact HB.out | apply below_alloc | apply pw_below_drewN | apply below_drew1 | refine below_set ?_ GE292.out) | exact HB.out)) hb); clear BK292; clear HB; have BK292 := n0_; have HB := n1_; clear n0_ n1_; (try clear hb); (try clear hb2); (try clear hk); (try clear hi)) | ((with_reducible refine gate_dst (N := 8) rfl ?_); (try (refine gate_guard (by rfl) ?_; dsimp only)); refine box_event ?hg (N := 8) ?hd (cs := #[.string (⟨#[]⟩ : ByteArray), .int .u64 0, .string (⟨#[]⟩ : ByteArray)]) (t := 24) ?hr ?_; (case hd => rfl); (case hg => rfl); (case hr => first | (go_simp; done) | (go_simp; rfl)); intro gb300 hg w28 hbox hb; have n0_ := Aside0.mk (blk_below (g := gb292) (o := .cells #[.string a0_0, .int .u64 a0_1, .string a0_2] 24 (0, 0)) (by (with_reducible repeat (first | refine blk_drewN ?_ _ | refine blk_drew ?_ | refine blk_alloc ?_ _)); exact BK292.out) hb); have n1_ := Aside0.mk (below_step (by repeat (first | (with_reducible first | exact HB.out | apply below_alloc | apply pw_below_drewN | apply below_drew1 | refine below_set ?_ GE292.out) | exact HB.out)) hb); have n2_ := Aside0.mk (hbox); have n3_ := Aside0.mk ((by rw [hg]; exact (below_size (by repeat (first | (with_reducible first | exact HB.out | apply below_alloc | apply pw_below_drewN | apply below_drew1 | refine below_set ?_ GE292.out) | exact HB.out))) : w.heap.size ≤ gb300)); have n4_ := Aside0.mk ((by rw [hg]; exact (below_size (by repeat (first | (with_reducible first | exact HB.out | apply below_alloc | apply pw_below_drewN | apply below_drew1 | refine below_set ?_ GE292.out) | exact HB.out))) : w.heap.size ≤ gb300)); have n5_ := Aside0.mk ((by rw [hg]; exact Nat.ne_of_lt (blk_lt (g := gb292) (o := .cells #[.string a0_0, .int .u64 a0_1, .string a0_2] 24 (0, 0)) (by (with_reducible repeat (first | refine blk_drewN ?_ _ | refine blk_drew ?_ | refine blk_alloc ?_ _)); exact BK292.out)) : gb292 ≠ gb300)); have n6_ := Aside0.mk ((by rw [hg]; exact Nat.ne_of_gt (blk_lt (g := gb292) (o := .cells #[.string a0_0, .int .u64 a0_1, .string a0_2] 24 (0, 0)) (by (with_reducible repeat (first | refine blk_drewN ?_ _ | refine blk_drew ?_ | refine blk_alloc ?_ _)); exact BK292.out)) : gb300 ≠ gb292)); clear BK292; clear HB; have BK292 := n0_; have HB := n1_; have BK300 := n2_; have GW300 := n3_; have GE300 := n4_; have NB292_300 := n5_; have NB300_292 := n6_; clear n0_ n1_ n2_ n3_ n4_ n5_ n6_; clear hb hbox hg; have hnb29 := NB300_292.out; have hnc29 := NB292_300.out; have hcz30_0 : w28.cell? ⟨gb300, 0, none⟩ = some (.string (⟨#[]⟩ : ByteArray)) := (blk_cell BK300.out 0).trans rfl; have hcz30_1 : w28.cell? ⟨gb300, 1, none⟩ = some (.int .u64 0) := (blk_cell BK300.out 1).trans rfl; have hcz30_2 : w28.cell? ⟨gb300, 2, none⟩ = some (.string (⟨#[]⟩ : ByteArray)) := (blk_cell BK300.out 2).trans rfl; have hfz30_0 := blk_frozen BK300.out 0; have hfz30_1 := blk_frozen BK300.out 1; have hfz30_2 := blk_frozen BK300.out 2; have hcz31_0 : w28.cell? ⟨gb292, 0, none⟩ = some (.string a0_0) := (blk_cell BK292.out 0).trans rfl; have hcz31_1 : w28.cell? ⟨gb292, 1, none⟩ = some (.int .u64 a0_1) := (blk_cell BK292.out 1).trans rfl; have hcz31_2 : w28.cell? ⟨gb292, 2, none⟩ = some (.string a0_2) := (blk_cell BK292.out 2).trans rfl; have hfz31_0 := blk_frozen BK292.out 0; have hfz31_1 := blk_frozen BK292.out 1; have hfz31_2 := blk_frozen BK292.out 2))
        go_meet
        case rel => exact ⟨_, H', ⟨by have := HJ3.out; first | omega | exact Nat.le_refl _⟩, ⟨by (with_reducible repeat (first | refine blk_drewN ?_ _ | refine blk_drew ?_ | refine blk_alloc ?_ _)); refine blk_far ?_ NB292_300.out _; (with_reducible repeat (first | refine blk_drewN ?_ _ | refine blk_drew ?_ | refine blk_alloc ?_ _)); refine blk_far ?_ NB292_300.out _; (with_reducible repeat (first | refine blk_drewN ?_ _ | refine blk_drew ?_ | refine blk_alloc ?_ _)); refine blk_far ?_ NB292_300.out _; (with_reducible repeat (first | refine blk_drewN ?_ _ | refine blk_drew ?_ | refine blk_alloc ?_ _)); exact BK292.out⟩, ⟨by repeat (first | (with_reducible first | exact HB.out | apply below_alloc | apply pw_below_drewN | apply below_drew1 | refine below_set ?_ GE292.out | refine below_set ?_ GE300.out) | exact HB.out)⟩⟩
       ·rw [if_neg c26] at H
        have c26b0 : (t299 == 0) = false := beq_eq_false_iff_ne.mpr c26
        have c26b1 : (t299 != 0) = true := bne_iff_ne.mpr c26
        obtain rfl := Option.some.inj H
        go_wp2_with (first | ((with_reducible refine gate_callee (f := 16) rfl ?_); refine goesL_ (some 44) rfl rfl Tryd.func16 (by kernel_rfl) rfl #[.string t294] rfl (by (try simp only [List.map_toArray, List.map_cons, List.map_nil]); first | done | rfl | (simp only [List.length_drop, List.length_take]; rfl) | (rw [wrap_sum2 (by assumption)]; rfl)) ?_; (with_reducible refine (stream_Take.calls kj3 t294 t296 t297 t298 t299 _ A19.out (HT.below (by repeat (first | (with_reducible first | exact HB.out | apply below_alloc | apply pw_below_drewN | apply below_drew1 | refine below_set ?_ GE292.out) | exact HB.out)))).mono ?_); rintro e w32 ⟨rfl, hb⟩; refine ⟨_, rfl, ?_⟩; have n0_ := Aside0.mk (blk_below (g := gb292) (o := .cells #[.string a0_0, .int .u64 a0_1, .string a0_2] 24 (0, 0)) (by (with_reducible repeat (first | refine blk_drewN ?_ _ | refine blk_drew ?_ | refine blk_alloc ?_ _)); exact BK292.out) hb); have n1_ := Aside0.mk (below_step (by repeat (first | (with_reducible first | exact HB.out | apply below_alloc | apply pw_below_drewN | apply below_drew1 | refine below_set ?_ GE292.out) | exact HB.out)) hb); clear BK292; clear HB; have BK292 := n0_; have HB := n1_; clear n0_ n1_; (try clear hb); (try clear hb2); (try clear hk); (try clear hi)) | ((with_reducible refine gate_dst (N := 8) rfl ?_); (try (refine gate_guard (by rfl) ?_; dsimp only)); refine box_event ?hg (N := 8) ?hd (cs := #[.string (⟨#[]⟩ : ByteArray), .int .u64 0, .string (⟨#[]⟩ : ByteArray)]) (t := 24) ?hr ?_; (case hd => rfl); (case hg => rfl); (case hr => first | (go_simp; done) | (go_simp; rfl)); intro gb300 hg w33 hbox hb; have n0_ := Aside0.mk (blk_below (g := gb292) (o := .cells #[.string a0_0, .int .u64 a0_1, .string a0_2] 24 (0, 0)) (by (with_reducible repeat (first | refine blk_drewN ?_ _ | refine blk_drew ?_ | refine blk_alloc ?_ _)); exact BK292.out) hb); have n1_ := Aside0.mk (below_step (by repeat (first | (with_reducible first | exact HB.out | apply below_alloc | apply pw_below_drewN | apply below_drew1 | refine below_set ?_ GE292.out) | exact HB.out)) hb); have n2_ := Aside0.mk (hbox); have n3_ := Aside0.mk ((by rw [hg]; exact (below_size (by repeat (first | (with_reducible first | exact HB.out | apply below_alloc | apply pw_below_drewN | apply below_drew1 | refine below_set ?_ GE292.out) | exact HB.out))) : w.heap.size ≤ gb300)); have n4_ := Aside0.mk ((by rw [hg]; exact (below_size (by repeat (first | (with_reducible first | exact HB.out | apply below_alloc | apply pw_below_drewN | apply below_drew1 | refine below_set ?_ GE292.out) | exact HB.out))) : w.heap.size ≤ gb300)); have n5_ := Aside0.mk ((by rw [hg]; exact Nat.ne_of_lt (blk_lt (g := gb292) (o := .cells #[.string a0_0, .int .u64 a0_1, .string a0_2] 24 (0, 0)) (by (with_reducible repeat (first | refine blk_drewN ?_ _ | refine blk_drew ?_ | refine blk_alloc ?_ _)); exact BK292.out)) : gb292 ≠ gb300)); have n6_ := Aside0.mk ((by rw [hg]; exact Nat.ne_of_gt (blk_lt (g := gb292) (o := .cells #[.string a0_0, .int .u64 a0_1, .string a0_2] 24 (0, 0)) (by (with_reducible repeat (first | refine blk_drewN ?_ _ | refine blk_drew ?_ | refine blk_alloc ?_ _)); exact BK292.out)) : gb300 ≠ gb292)); clear BK292; clear HB; have BK292 := n0_; have HB := n1_; have BK300 := n2_; have GW300 := n3_; have GE300 := n4_; have NB292_300 := n5_; have NB300_292 := n6_; clear n0_ n1_ n2_ n3_ n4_ n5_ n6_; clear hb hbox hg; have hnb34 := NB300_292.out; have hnc34 := NB292_300.out; have hcz35_0 : w33.cell? ⟨gb300, 0, none⟩ = some (.string (⟨#[]⟩ : ByteArray)) := (blk_cell BK300.out 0).trans rfl; have hcz35_1 : w33.cell? ⟨gb300, 1, none⟩ = some (.int .u64 0) := (blk_cell BK300.out 1).trans rfl; have hcz35_2 : w33.cell? ⟨gb300, 2, none⟩ = some (.string (⟨#[]⟩ : ByteArray)) := (blk_cell BK300.out 2).trans rfl; have hfz35_0 := blk_frozen BK300.out 0; have hfz35_1 := blk_frozen BK300.out 1; have hfz35_2 := blk_frozen BK300.out 2; have hcz36_0 : w33.cell? ⟨gb292, 0, none⟩ = some (.string a0_0) := (blk_cell BK292.out 0).trans rfl; have hcz36_1 : w33.cell? ⟨gb292, 1, none⟩ = some (.int .u64 a0_1) := (blk_cell BK292.out 1).trans rfl; have hcz36_2 : w33.cell? ⟨gb292, 2, none⟩ = some (.string a0_2) := (blk_cell BK292.out 2).trans rfl; have hfz36_0 := blk_frozen BK292.out 0; have hfz36_1 := blk_frozen BK292.out 1; have hfz36_2 := blk_frozen BK292.out 2))
        go_ret
        exact ⟨by first | rfl | (simp [errW_none, errW_some] <;> rfl) | (simp [*, errW_none, errW_some] <;> rfl), by repeat (first | (with_reducible first | exact HB.out | apply below_alloc | apply pw_below_drewN | apply below_drew1 | refine below_set ?_ GE292.out | refine below_set ?_ GE300.out) | exact HB.out)⟩
     ·rw [if_neg c18] at H
      have c18b0 : (t295 == 0) = false := beq_eq_false_iff_ne.mpr c18
      have c18b1 : (t295 != 0) = true := bne_iff_ne.mpr c18
      (first | rw [c18b0] | (simp only [i64_w, i32_w]; rw [c18b0]) | skip)
      have H' := Aside0.mk H
      clear H
      go_wp2
      go_meet
      case rel => exact ⟨_, H', ⟨by have := HJ3.out; first | omega | exact Nat.le_refl _⟩, ⟨by (with_reducible repeat (first | refine blk_drewN ?_ _ | refine blk_drew ?_ | refine blk_alloc ?_ _)); exact BK292.out⟩, ⟨by repeat (first | (with_reducible first | exact HB.out | apply below_alloc | apply pw_below_drewN | apply below_drew1 | refine below_set ?_ GE292.out) | exact HB.out)⟩⟩
    case rest =>
     clear HC15
     try clear c1
     try clear c2
     try clear p2
     try clear c3
     try clear c7
     try clear c8
     try clear c8b0
     try clear c8b1
     try clear c9
     try clear c10
     try clear c10b0
     try clear c10b1
     try clear c13
     try clear c16
     try clear c18
     try clear c18b0
     try clear c18b1
     try clear c20
     try clear c20b0
     try clear c23
     try clear c26
     try clear c26b0
     try clear c26b1
     try clear c29
     try clear c34
     try clear hcz11_0
     try clear hcz11_1
     try clear hcz11_2
     try clear hcz12_0
     try clear hcz12_1
     try clear hcz12_2
     try clear hcz16_0
     try clear hcz16_1
     try clear hcz16_2
     try clear hcz24_0
     try clear hcz24_1
     try clear hcz24_2
     try clear hcz25_0
     try clear hcz25_1
     try clear hcz25_2
     try clear hcz30_0
     try clear hcz30_1
     try clear hcz30_2
     try clear hcz31_0
     try clear hcz31_1
     try clear hcz31_2
     try clear hcz35_0
     try clear hcz35_1
     try clear hcz35_2
     try clear hcz36_0
     try clear hcz36_1
     try clear hcz36_2
     try clear hcz9_0
     try clear hcz9_1
     try clear hcz9_2
     try clear hfz11_0
     try clear hfz11_1
     try clear hfz11_2
     try clear hfz12_0
     try clear hfz12_1
     try clear hfz12_2
     try clear hfz16_0
     try clear hfz16_1
     try clear hfz16_2
     try clear hfz24_0
     try clear hfz24_1
     try clear hfz24_2
     try clear hfz25_0
     try clear hfz25_1
     try clear hfz25_2
     try clear hfz30_0
     try clear hfz30_1
     try clear hfz30_2
     try clear hfz31_0
     try clear hfz31_1
     try clear hfz31_2
     try clear hfz35_0
     try clear hfz35_1
     try clear hfz35_2
     try clear hfz36_0
     try clear hfz36_1
     try clear hfz36_2
     try clear hfz9_0
     try clear hfz9_1
     try clear hfz9_2
     try clear p2
     obtain ⟨kq, HA, HJ14, BK292, HB⟩ := hcut
     cases kq with
     | zero => exact absurd HA.out (by simp [rootcellarlaw17_StreamBack.j1])
     | succ kj14 =>
      have H := HA.out
      clear HA
      simp only [rootcellarlaw17_StreamBack.j1] at H
      replace H := Option.bind_eq_some_iff.mp H
      obtain ⟨⟨t301, t302, t303, t304⟩, A370, H⟩ := H
      replace H : (if t304 = 0 then ((stream_Put.f t301 t302 t303).bind fun bt306 => (if bt306.1.toList = a1.toList then (some (bt306.2 == 0)) else (some false))) else (some (t301.toList == ([] : List UInt8) && (t302 == 0 && (t303.toList == ([] : List UInt8)))))) = some r := H
      have A37 := Aside0.mk A370
      clear A370
      by_cases c38 : t304 = 0
      ·rw [if_pos c38] at H
       have c38b0 : (t304 == 0) = true := beq_iff_eq.mpr c38
       have c38b1 : (t304 != 0) = false := bne_eq_false_iff_eq.mpr c38
       clear c38
       replace H := Option.bind_eq_some_iff.mp H
       obtain ⟨⟨t306, t307⟩, A390, H⟩ := H
       replace H : (if t306.toList = a1.toList then (some (t307 == 0)) else (some false)) = some r := H
       have A39 := Aside0.mk A390
       clear A390
       by_cases c40 : t306.toList = a1.toList
       ·rw [if_pos c40] at H
        have c40b0 : (t306.toList == a1.toList) = true := beq_iff_eq.mpr c40
        have c40b1 : (t306.toList != a1.toList) = false := bne_eq_false_iff_eq.mpr c40
        clear c40
        obtain rfl := Option.some.inj H
        go_wp2_with (first | ((with_reducible refine gate_callee (f := 16) rfl ?_); refine goesL_ (some 56) rfl rfl Tryd.func16 (by kernel_rfl) rfl #[.string a1] rfl (by (try simp only [List.map_toArray, List.map_cons, List.map_nil]); first | done | rfl | (simp only [List.length_drop, List.length_take]; rfl) | (rw [wrap_sum2 (by assumption)]; rfl)) ?_; (with_reducible refine (stream_Take.calls kj14 a1 t301 t302 t303 t304 _ A37.out (HT.below (by repeat (first | (with_reducible first | exact HB.out | apply below_alloc | apply pw_below_drewN | apply below_drew1 | refine below_set ?_ GE292.out) | exact HB.out)))).mono ?_); rintro e w41 ⟨rfl, hb⟩; refine ⟨_, rfl, ?_⟩; have n0_ := Aside0.mk (blk_below (g := gb292) (o := .cells #[.string a0_0, .int .u64 a0_1, .string a0_2] 24 (0, 0)) (by (with_reducible repeat (first | refine blk_drewN ?_ _ | refine blk_drew ?_ | refine blk_alloc ?_ _)); exact BK292.out) hb); have n1_ := Aside0.mk (below_step (by repeat (first | (with_reducible first | exact HB.out | apply below_alloc | apply pw_below_drewN | apply below_drew1 | refine below_set ?_ GE292.out) | exact HB.out)) hb); clear BK292; clear HB; have BK292 := n0_; have HB := n1_; clear n0_ n1_; (try clear hb); (try clear hb2); (try clear hk); (try clear hi)) | ((with_reducible refine gate_dst (N := 10) rfl ?_); (try (refine gate_guard (by rfl) ?_; dsimp only)); refine box_event ?hg (N := 10) ?hd (cs := #[.string (⟨#[]⟩ : ByteArray), .int .u64 0, .string (⟨#[]⟩ : ByteArray)]) (t := 24) ?hr ?_; (case hd => rfl); (case hg => rfl); (case hr => first | (go_simp; done) | (go_simp; rfl)); intro gb305 hg w42 hbox hb; have n0_ := Aside0.mk (blk_below (g := gb292) (o := .cells #[.string a0_0, .int .u64 a0_1, .string a0_2] 24 (0, 0)) (by (with_reducible repeat (first | refine blk_drewN ?_ _ | refine blk_drew ?_ | refine blk_alloc ?_ _)); exact BK292.out) hb); have n1_ := Aside0.mk (below_step (by repeat (first | (with_reducible first | exact HB.out | apply below_alloc | apply pw_below_drewN | apply below_drew1 | refine below_set ?_ GE292.out) | exact HB.out)) hb); have n2_ := Aside0.mk (hbox); have n3_ := Aside0.mk ((by rw [hg]; exact (below_size (by repeat (first | (with_reducible first | exact HB.out | apply below_alloc | apply pw_below_drewN | apply below_drew1 | refine below_set ?_ GE292.out) | exact HB.out))) : w.heap.size ≤ gb305)); have n4_ := Aside0.mk ((by rw [hg]; exact (below_size (by repeat (first | (with_reducible first | exact HB.out | apply below_alloc | apply pw_below_drewN | apply below_drew1 | refine below_set ?_ GE292.out) | exact HB.out))) : w.heap.size ≤ gb305)); have n5_ := Aside0.mk ((by rw [hg]; exact Nat.ne_of_lt (blk_lt (g := gb292) (o := .cells #[.string a0_0, .int .u64 a0_1, .string a0_2] 24 (0, 0)) (by (with_reducible repeat (first | refine blk_drewN ?_ _ | refine blk_drew ?_ | refine blk_alloc ?_ _)); exact BK292.out)) : gb292 ≠ gb305)); have n6_ := Aside0.mk ((by rw [hg]; exact Nat.ne_of_gt (blk_lt (g := gb292) (o := .cells #[.string a0_0, .int .u64 a0_1, .string a0_2] 24 (0, 0)) (by (with_reducible repeat (first | refine blk_drewN ?_ _ | refine blk_drew ?_ | refine blk_alloc ?_ _)); exact BK292.out)) : gb305 ≠ gb292)); clear BK292; clear HB; have BK292 := n0_; have HB := n1_; have BK305 := n2_; have GW305 := n3_; have GE305 := n4_; have NB292_305 := n5_; have NB305_292 := n6_; clear n0_ n1_ n2_ n3_ n4_ n5_ n6_; clear hb hbox hg; have hnb43 := NB305_292.out; have hnc43 := NB292_305.out; have hcz44_0 : w42.cell? ⟨gb305, 0, none⟩ = some (.string (⟨#[]⟩ : ByteArray)) := (blk_cell BK305.out 0).trans rfl; have hcz44_1 : w42.cell? ⟨gb305, 1, none⟩ = some (.int .u64 0) := (blk_cell BK305.out 1).trans rfl; have hcz44_2 : w42.cell? ⟨gb305, 2, none⟩ = some (.string (⟨#[]⟩ : ByteArray)) := (blk_cell BK305.out 2).trans rfl; have hfz44_0 := blk_frozen BK305.out 0; have hfz44_1 := blk_frozen BK305.out 1; have hfz44_2 := blk_frozen BK305.out 2) | ((with_reducible refine gate_callee (f := 10) rfl ?_); refine goesL_ (some 66) rfl rfl Tryd.func10 (by kernel_rfl) rfl #[.agg #[.string t301, .int .u64 t302, .string t303]] rfl (by (try simp only [List.map_toArray, List.map_cons, List.map_nil]); first | done | rfl | (simp only [List.length_drop, List.length_take]; rfl) | (rw [wrap_sum2 (by assumption)]; rfl)) ?_; (with_reducible refine (stream_Put.calls t301 t302 t303 t306 t307 _ A39.out (HT.below (by repeat (first | (with_reducible first | exact HB.out | apply below_alloc | apply pw_below_drewN | apply below_drew1 | refine below_set ?_ GE292.out | refine below_set ?_ GE305.out) | exact HB.out)))).mono ?_); rintro e w45 ⟨rfl, hb⟩; refine ⟨_, rfl, ?_⟩; have n0_ := Aside0.mk (blk_below (g := gb292) (o := .cells #[.string a0_0, .int .u64 a0_1, .string a0_2] 24 (0, 0)) (by (with_reducible repeat (first | refine blk_drewN ?_ _ | refine blk_drew ?_ | refine blk_alloc ?_ _)); refine blk_far ?_ NB292_305.out _; (with_reducible repeat (first | refine blk_drewN ?_ _ | refine blk_drew ?_ | refine blk_alloc ?_ _)); refine blk_far ?_ NB292_305.out _; (with_reducible repeat (first | refine blk_drewN ?_ _ | refine blk_drew ?_ | refine blk_alloc ?_ _)); refine blk_far ?_ NB292_305.out _; (with_reducible repeat (first | refine blk_drewN ?_ _ | refine blk_drew ?_ | refine blk_alloc ?_ _)); exact BK292.out) hb); have n1_ := Aside0.mk (blk_below (g := gb305) (o := .cells #[.string t301, .int .u64 t302, .string t303] 24 (0, 0)) (by (with_reducible repeat (first | refine blk_drewN ?_ _ | refine blk_drew ?_ | refine blk_alloc ?_ _)); refine blk_put (cs := #[.string t301, .int .u64 t302, .string (⟨#[]⟩ : ByteArray)]) ?_ 2 _ rfl; (with_reducible repeat (first | refine blk_drewN ?_ _ | refine blk_drew ?_ | refine blk_alloc ?_ _)); refine blk_put (cs := #[.string t301, .int .u64 0, .string (⟨#[]⟩ : ByteArray)]) ?_ 1 _ rfl; (with_reducible repeat (first | refine blk_drewN ?_ _ | refine blk_drew ?_ | refine blk_alloc ?_ _)); refine blk_put (cs := #[.string (⟨#[]⟩ : ByteArray), .int .u64 0, .string (⟨#[]⟩ : ByteArray)]) ?_ 0 _ rfl; (with_reducible repeat (first | refine blk_drewN ?_ _ | refine blk_drew ?_ | refine blk_alloc ?_ _)); exact BK305.out) hb); have n2_ := Aside0.mk (below_step (by repeat (first | (with_reducible first | exact HB.out | apply below_alloc | apply pw_below_drewN | apply below_drew1 | refine below_set ?_ GE292.out | refine below_set ?_ GE305.out) | exact HB.out)) hb); clear BK292; clear BK305; clear HB; have BK292 := n0_; have BK305 := n1_; have HB := n2_; clear n0_ n1_ n2_; (try clear hb); (try clear hb2); (try clear hk); (try clear hi)))
        go_ret
        exact ⟨by first | rfl | (simp [errW_none, errW_some] <;> rfl) | (simp [*, errW_none, errW_some] <;> rfl), by repeat (first | (with_reducible first | exact HB.out | apply below_alloc | apply pw_below_drewN | apply below_drew1 | refine below_set ?_ GE292.out | refine below_set ?_ GE305.out) | exact HB.out)⟩
       ·rw [if_neg c40] at H
        have c40b0 : (t306.toList == a1.toList) = false := beq_eq_false_iff_ne.mpr c40
        have c40b1 : (t306.toList != a1.toList) = true := bne_iff_ne.mpr c40
        obtain rfl := Option.some.inj H
        go_wp2_with (first | ((with_reducible refine gate_callee (f := 16) rfl ?_); refine goesL_ (some 56) rfl rfl Tryd.func16 (by kernel_rfl) rfl #[.string a1] rfl (by (try simp only [List.map_toArray, List.map_cons, List.map_nil]); first | done | rfl | (simp only [List.length_drop, List.length_take]; rfl) | (rw [wrap_sum2 (by assumption)]; rfl)) ?_; (with_reducible refine (stream_Take.calls kj14 a1 t301 t302 t303 t304 _ A37.out (HT.below (by repeat (first | (with_reducible first | exact HB.out | apply below_alloc | apply pw_below_drewN | apply below_drew1 | refine below_set ?_ GE292.out) | exact HB.out)))).mono ?_); rintro e w46 ⟨rfl, hb⟩; refine ⟨_, rfl, ?_⟩; have n0_ := Aside0.mk (blk_below (g := gb292) (o := .cells #[.string a0_0, .int .u64 a0_1, .string a0_2] 24 (0, 0)) (by (with_reducible repeat (first | refine blk_drewN ?_ _ | refine blk_drew ?_ | refine blk_alloc ?_ _)); exact BK292.out) hb); have n1_ := Aside0.mk (below_step (by repeat (first | (with_reducible first | exact HB.out | apply below_alloc | apply pw_below_drewN | apply below_drew1 | refine below_set ?_ GE292.out) | exact HB.out)) hb); clear BK292; clear HB; have BK292 := n0_; have HB := n1_; clear n0_ n1_; (try clear hb); (try clear hb2); (try clear hk); (try clear hi)) | ((with_reducible refine gate_dst (N := 10) rfl ?_); (try (refine gate_guard (by rfl) ?_; dsimp only)); refine box_event ?hg (N := 10) ?hd (cs := #[.string (⟨#[]⟩ : ByteArray), .int .u64 0, .string (⟨#[]⟩ : ByteArray)]) (t := 24) ?hr ?_; (case hd => rfl); (case hg => rfl); (case hr => first | (go_simp; done) | (go_simp; rfl)); intro gb305 hg w47 hbox hb; have n0_ := Aside0.mk (blk_below (g := gb292) (o := .cells #[.string a0_0, .int .u64 a0_1, .string a0_2] 24 (0, 0)) (by (with_reducible repeat (first | refine blk_drewN ?_ _ | refine blk_drew ?_ | refine blk_alloc ?_ _)); exact BK292.out) hb); have n1_ := Aside0.mk (below_step (by repeat (first | (with_reducible first | exact HB.out | apply below_alloc | apply pw_below_drewN | apply below_drew1 | refine below_set ?_ GE292.out) | exact HB.out)) hb); have n2_ := Aside0.mk (hbox); have n3_ := Aside0.mk ((by rw [hg]; exact (below_size (by repeat (first | (with_reducible first | exact HB.out | apply below_alloc | apply pw_below_drewN | apply below_drew1 | refine below_set ?_ GE292.out) | exact HB.out))) : w.heap.size ≤ gb305)); have n4_ := Aside0.mk ((by rw [hg]; exact (below_size (by repeat (first | (with_reducible first | exact HB.out | apply below_alloc | apply pw_below_drewN | apply below_drew1 | refine below_set ?_ GE292.out) | exact HB.out))) : w.heap.size ≤ gb305)); have n5_ := Aside0.mk ((by rw [hg]; exact Nat.ne_of_lt (blk_lt (g := gb292) (o := .cells #[.string a0_0, .int .u64 a0_1, .string a0_2] 24 (0, 0)) (by (with_reducible repeat (first | refine blk_drewN ?_ _ | refine blk_drew ?_ | refine blk_alloc ?_ _)); exact BK292.out)) : gb292 ≠ gb305)); have n6_ := Aside0.mk ((by rw [hg]; exact Nat.ne_of_gt (blk_lt (g := gb292) (o := .cells #[.string a0_0, .int .u64 a0_1, .string a0_2] 24 (0, 0)) (by (with_reducible repeat (first | refine blk_drewN ?_ _ | refine blk_drew ?_ | refine blk_alloc ?_ _)); exact BK292.out)) : gb305 ≠ gb292)); clear BK292; clear HB; have BK292 := n0_; have HB := n1_; have BK305 := n2_; have GW305 := n3_; have GE305 := n4_; have NB292_305 := n5_; have NB305_292 := n6_; clear n0_ n1_ n2_ n3_ n4_ n5_ n6_; clear hb hbox hg; have hnb48 := NB305_292.out; have hnc48 := NB292_305.out; have hcz49_0 : w47.cell? ⟨gb305, 0, none⟩ = some (.string (⟨#[]⟩ : ByteArray)) := (blk_cell BK305.out 0).trans rfl; have hcz49_1 : w47.cell? ⟨gb305, 1, none⟩ = some (.int .u64 0) := (blk_cell BK305.out 1).trans rfl; have hcz49_2 : w47.cell? ⟨gb305, 2, none⟩ = some (.string (⟨#[]⟩ : ByteArray)) := (blk_cell BK305.out 2).trans rfl; have hfz49_0 := blk_frozen BK305.out 0; have hfz49_1 := blk_frozen BK305.out 1; have hfz49_2 := blk_frozen BK305.out 2) | ((with_reducible refine gate_callee (f := 10) rfl ?_); refine goesL_ (some 66) rfl rfl Tryd.func10 (by kernel_rfl) rfl #[.agg #[.string t301, .int .u64 t302, .string t303]] rfl (by (try simp only [List.map_toArray, List.map_cons, List.map_nil]); first | done | rfl | (simp only [List.length_drop, List.length_take]; rfl) | (rw [wrap_sum2 (by assumption)]; rfl)) ?_; (with_reducible refine (stream_Put.calls t301 t302 t303 t306 t307 _ A39.out (HT.below (by repeat (first | (with_reducible first | exact HB.out | apply below_alloc | apply pw_below_drewN | apply below_drew1 | refine below_set ?_ GE292.out | refine below_set ?_ GE305.out) | exact HB.out)))).mono ?_); rintro e w50 ⟨rfl, hb⟩; refine ⟨_, rfl, ?_⟩; have n0_ := Aside0.mk (blk_below (g := gb292) (o := .cells #[.string a0_0, .int .u64 a0_1, .string a0_2] 24 (0, 0)) (by (with_reducible repeat (first | refine blk_drewN ?_ _ | refine blk_drew ?_ | refine blk_alloc ?_ _)); refine blk_far ?_ NB292_305.out _; (with_reducible repeat (first | refine blk_drewN ?_ _ | refine blk_drew ?_ | refine blk_alloc ?_ _)); refine blk_far ?_ NB292_305.out _; (with_reducible repeat (first | refine blk_drewN ?_ _ | refine blk_drew ?_ | refine blk_alloc ?_ _)); refine blk_far ?_ NB292_305.out _; (with_reducible repeat (first | refine blk_drewN ?_ _ | refine blk_drew ?_ | refine blk_alloc ?_ _)); exact BK292.out) hb); have n1_ := Aside0.mk (blk_below (g := gb305) (o := .cells #[.string t301, .int .u64 t302, .string t303] 24 (0, 0)) (by (with_reducible repeat (first | refine blk_drewN ?_ _ | refine blk_drew ?_ | refine blk_alloc ?_ _)); refine blk_put (cs := #[.string t301, .int .u64 t302, .string (⟨#[]⟩ : ByteArray)]) ?_ 2 _ rfl; (with_reducible repeat (first | refine blk_drewN ?_ _ | refine blk_drew ?_ | refine blk_alloc ?_ _)); refine blk_put (cs := #[.string t301, .int .u64 0, .string (⟨#[]⟩ : ByteArray)]) ?_ 1 _ rfl; (with_reducible repeat (first | refine blk_drewN ?_ _ | refine blk_drew ?_ | refine blk_alloc ?_ _)); refine blk_put (cs := #[.string (⟨#[]⟩ : ByteArray), .int .u64 0, .string (⟨#[]⟩ : ByteArray)]) ?_ 0 _ rfl; (with_reducible repeat (first | refine blk_drewN ?_ _ | refine blk_drew ?_ | refine blk_alloc ?_ _)); exact BK305.out) hb); have n2_ := Aside0.mk (below_step (by repeat (first | (with_reducible first | exact HB.out | apply below_alloc | apply pw_below_drewN | apply below_drew1 | refine below_set ?_ GE292.out | refine below_set ?_ GE305.out) | exact HB.out)) hb); clear BK292; clear BK305; clear HB; have BK292 := n0_; have BK305 := n1_; have HB := n2_; clear n0_ n1_ n2_; (try clear hb); (try clear hb2); (try clear hk); (try clear hi)))
        go_ret
        exact ⟨by first | rfl | (simp [errW_none, errW_some] <;> rfl) | (simp [*, errW_none, errW_some] <;> rfl), by repeat (first | (with_reducible first | exact HB.out | apply below_alloc | apply pw_below_drewN | apply below_drew1 | refine below_set ?_ GE292.out | refine below_set ?_ GE305.out) | exact HB.out)⟩
      ·rw [if_neg c38] at H
       have c38b0 : (t304 == 0) = false := beq_eq_false_iff_ne.mpr c38
       have c38b1 : (t304 != 0) = true := bne_iff_ne.mpr c38
       obtain rfl := Option.some.inj H
       go_wp2_with (first | ((with_reducible refine gate_callee (f := 16) rfl ?_); refine goesL_ (some 56) rfl rfl Tryd.func16 (by kernel_rfl) rfl #[.string a1] rfl (by (try simp only [List.map_toArray, List.map_cons, List.map_nil]); first | done | rfl | (simp only [List.length_drop, List.length_take]; rfl) | (rw [wrap_sum2 (by assumption)]; rfl)) ?_; (with_reducible refine (stream_Take.calls kj14 a1 t301 t302 t303 t304 _ A37.out (HT.below (by repeat (first | (with_reducible first | exact HB.out | apply below_alloc | apply pw_below_drewN | apply below_drew1 | refine below_set ?_ GE292.out) | exact HB.out)))).mono ?_); rintro e w51 ⟨rfl, hb⟩; refine ⟨_, rfl, ?_⟩; have n0_ := Aside0.mk (blk_below (g := gb292) (o := .cells #[.string a0_0, .int .u64 a0_1, .string a0_2] 24 (0, 0)) (by (with_reducible repeat (first | refine blk_drewN ?_ _ | refine blk_drew ?_ | refine blk_alloc ?_ _)); exact BK292.out) hb); have n1_ := Aside0.mk (below_step (by repeat (first | (with_reducible first | exact HB.out | apply below_alloc | apply pw_below_drewN | apply below_drew1 | refine below_set ?_ GE292.out) | exact HB.out)) hb); clear BK292; clear HB; have BK292 := n0_; have HB := n1_; clear n0_ n1_; (try clear hb); (try clear hb2); (try clear hk); (try clear hi)) | ((with_reducible refine gate_dst (N := 10) rfl ?_); (try (refine gate_guard (by rfl) ?_; dsimp only)); refine box_event ?hg (N := 10) ?hd (cs := #[.string (⟨#[]⟩ : ByteArray), .int .u64 0, .string (⟨#[]⟩ : ByteArray)]) (t := 24) ?hr ?_; (case hd => rfl); (case hg => rfl); (case hr => first | (go_simp; done) | (go_simp; rfl)); intro gb305 hg w52 hbox hb; have n0_ := Aside0.mk (blk_below (g := gb292) (o := .cells #[.string a0_0, .int .u64 a0_1, .string a0_2] 24 (0, 0)) (by (with_reducible repeat (first | refine blk_drewN ?_ _ | refine blk_drew ?_ | refine blk_alloc ?_ _)); exact BK292.out) hb); have n1_ := Aside0.mk (below_step (by repeat (first | (with_reducible first | exact HB.out | apply below_alloc | apply pw_below_drewN | apply below_drew1 | refine below_set ?_ GE292.out) | exact HB.out)) hb); have n2_ := Aside0.mk (hbox); have n3_ := Aside0.mk ((by rw [hg]; exact (below_size (by repeat (first | (with_reducible first | exact HB.out | apply below_alloc | apply pw_below_drewN | apply below_drew1 | refine below_set ?_ GE292.out) | exact HB.out))) : w.heap.size ≤ gb305)); have n4_ := Aside0.mk ((by rw [hg]; exact (below_size (by repeat (first | (with_reducible first | exact HB.out | apply below_alloc | apply pw_below_drewN | apply below_drew1 | refine below_set ?_ GE292.out) | exact HB.out))) : w.heap.size ≤ gb305)); have n5_ := Aside0.mk ((by rw [hg]; exact Nat.ne_of_lt (blk_lt (g := gb292) (o := .cells #[.string a0_0, .int .u64 a0_1, .string a0_2] 24 (0, 0)) (by (with_reducible repeat (first | refine blk_drewN ?_ _ | refine blk_drew ?_ | refine blk_alloc ?_ _)); exact BK292.out)) : gb292 ≠ gb305)); have n6_ := Aside0.mk ((by rw [hg]; exact Nat.ne_of_gt (blk_lt (g := gb292) (o := .cells #[.string a0_0, .int .u64 a0_1, .string a0_2] 24 (0, 0)) (by (with_reducible repeat (first | refine blk_drewN ?_ _ | refine blk_drew ?_ | refine blk_alloc ?_ _)); exact BK292.out)) : gb305 ≠ gb292)); clear BK292; clear HB; have BK292 := n0_; have HB := n1_; have BK305 := n2_; have GW305 := n3_; have GE305 := n4_; have NB292_305 := n5_; have NB305_292 := n6_; clear n0_ n1_ n2_ n3_ n4_ n5_ n6_; clear hb hbox hg; have hnb53 := NB305_292.out; have hnc53 := NB292_305.out; have hcz54_0 : w52.cell? ⟨gb305, 0, none⟩ = some (.string (⟨#[]⟩ : ByteArray)) := (blk_cell BK305.out 0).trans rfl; have hcz54_1 : w52.cell? ⟨gb305, 1, none⟩ = some (.int .u64 0) := (blk_cell BK305.out 1).trans rfl; have hcz54_2 : w52.cell? ⟨gb305, 2, none⟩ = some (.string (⟨#[]⟩ : ByteArray)) := (blk_cell BK305.out 2).trans rfl; have hfz54_0 := blk_frozen BK305.out 0; have hfz54_1 := blk_frozen BK305.out 1; have hfz54_2 := blk_frozen BK305.out 2))
       go_ret
       exact ⟨by first | rfl | (simp [errW_none, errW_some] <;> rfl) | (simp [*, errW_none, errW_some] <;> rfl), by repeat (first | (with_reducible first | exact HB.out | apply below_alloc | apply pw_below_drewN | apply below_drew1 | refine below_set ?_ GE292.out | refine below_set ?_ GE305.out) | exact HB.out)⟩


end Go.Proofs.YtfoniidbkbmjeaaDoor.Fn
end
section
-- Written by printx.py, a program of this session over the kit's print: each Go function as a plain Lean function, and that the Go code computes it.




namespace Go.Proofs.YtfoniidbkbmjeaaDoor.Fn
open Go.RowKit Go.Proofs.YtfoniidbkbmjeaaDoorW.PrintWords Go.Proofs.YtfoniidbkbmjeaaDoorW.PrintLast Go.Proofs.YtfoniidbkbmjeaaDoorW.PrintMore Go.Proofs.YtfoniidbkbmjeaaDoor.Lf
attribute [local go_sem] max2_int min2_int max_two min_two max_three min_three max_four min_four   -- for this text's walks alone
set_option linter.unusedVariables false
set_option linter.unusedSimpArgs false

attribute [local go_sem high] eqA24
/-! ### rootcellarlaw17_StreamApart: function 5 -/
def rootcellarlaw17_StreamApart.j0 : Nat → Bool → Bool → ByteArray → Int → ByteArray → ByteArray → Int → ByteArray → Option (Bool)
 | 0, _, _, _, _, _, _, _, _ => none
 | k + 1, x5, x34, x168000, x168001, x168002, x169000, x169001, x169002 => if x34 = true then (some x5) else ((stream_Put.f x168000 x168001 x168002).bind fun bt170 => ((stream_Put.f x169000 x169001 x169002).bind fun bt172 => (if bt170.2 = 0 then (if bt172.2 = 0 then (some ((bt170.1.toList == bt172.1.toList) == (x168000.toList == x169000.toList && (x168001 == x169001 && (x168002.toList == x169002.toList))))) else (some true)) else (some true))))
def rootcellarlaw17_StreamApart.f (k : Nat) (a0_0 : ByteArray) (a0_1 : Int) (a0_2 : ByteArray) (a1_0 : ByteArray) (a1_1 : Int) (a1_2 : ByteArray) : Option (Bool) := (rootcellarlaw17_shown.f).bind fun t169 => (if t169 = true then (if (wrap64 ((a0_0.size : Int) + (a1_0.size : Int))) > 300 then (rootcellarlaw17_StreamApart.j0 k t169 true a0_0 a0_1 a0_2 a1_0 a1_1 a1_2) else (if (a0_2.size : Int) > 1100 then (rootcellarlaw17_StreamApart.j0 k t169 true a0_0 a0_1 a0_2 a1_0 a1_1 a1_2) else (rootcellarlaw17_StreamApart.j0 k t169 (decide ((a1_2.size : Int) > 1100)) a0_0 a0_1 a0_2 a1_0 a1_1 a1_2))) else (rootcellarlaw17_StreamApart.j0 k t169 true a0_0 a0_1 a0_2 a1_0 a1_1 a1_2))
theorem rootcellarlaw17_StreamApart.mono_l : ∀ k, (∀ y0 y1 y2 y3 y4 y5 y6 y7, LeO (rootcellarlaw17_StreamApart.j0 k y0 y1 y2 y3 y4 y5 y6 y7) (rootcellarlaw17_StreamApart.j0 (k + 1) y0 y1 y2 y3 y4 y5 y6 y7))
 | 0 => fun _ _ _ _ _ _ _ _ r h => by simp [rootcellarlaw17_StreamApart.j0] at h
 | k + 1 => by
  have ih0 := rootcellarlaw17_StreamApart.mono_l k
  ·intro y0 y1 y2 y3 y4 y5 y6 y7
   unfold rootcellarlaw17_StreamApart.j0
   repeat' first
   | (with_reducible exact ih0 _ _ _ _ _ _ _ _)
   | (with_reducible exact LeO.refl _)
   | (with_reducible exact LeO.none _)
   | (with_reducible refine LeO.ite ?_ ?_)
   | (with_reducible refine LeO.bind ?_ (fun _ => ?_))
   | exact ih0 _ _ _ _ _ _ _ _
   | exact LeO.none _
   | refine LeO.ite ?_ ?_
   | refine LeO.bind ?_ (fun _ => ?_)
theorem rootcellarlaw17_StreamApart.mono : ∀ a0 a1 a2 a3 a4 a5 k, LeO (rootcellarlaw17_StreamApart.f k a0 a1 a2 a3 a4 a5) (rootcellarlaw17_StreamApart.f (k + 1) a0 a1 a2 a3 a4 a5) := by
 intro a0 a1 a2 a3 a4 a5 k
 have ih0 := rootcellarlaw17_StreamApart.mono_l k
 unfold rootcellarlaw17_StreamApart.f
 repeat' first
   | (with_reducible exact ih0 _ _ _ _ _ _ _ _)
   | (with_reducible exact LeO.refl _)
   | (with_reducible exact LeO.none _)
   | (with_reducible refine LeO.ite ?_ ?_)
   | (with_reducible refine LeO.bind ?_ (fun _ => ?_))
   | exact ih0 _ _ _ _ _ _ _ _
   | exact LeO.none _
   | refine LeO.ite ?_ ?_
   | refine LeO.bind ?_ (fun _ => ?_)
set_option maxHeartbeats 8000000 in
set_option maxRecDepth 100000 in
theorem rootcellarlaw17_StreamApart.calls (k : Nat) (a0_0 : ByteArray) (a0_1 : Int) (a0_2 : ByteArray) (a1_0 : ByteArray) (a1_1 : Int) (a1_2 : ByteArray) (r : Bool) (w : World) (h : rootcellarlaw17_StreamApart.f k a0_0 a0_1 a0_2 a1_0 a1_1 a1_2 = some r) (HT : Tabs w) :
  Calls Tryd.prog 5 #[.agg #[.string a0_0, .int .u64 a0_1, .string a0_2], .agg #[.string a1_0, .int .u64 a1_1, .string a1_2]] w fun e w' => e = .returned (.bool r) ∧ Below w.heap.size w w' := by
 have hu24 := Tryd.underlying24
 have HB := Aside0.mk (Below.refl w.heap.size w)
 have H : ((rootcellarlaw17_shown.f).bind fun t169 => (if t169 = true then (if (wrap64 ((a0_0.size : Int) + (a1_0.size : Int))) > 300 then (rootcellarlaw17_StreamApart.j0 k t169 true a0_0 a0_1 a0_2 a1_0 a1_1 a1_2) else (if (a0_2.size : Int) > 1100 then (rootcellarlaw17_StreamApart.j0 k t169 true a0_0 a0_1 a0_2 a1_0 a1_1 a1_2) else (rootcellarlaw17_StreamApart.j0 k t169 (decide ((a1_2.size : Int) > 1100)) a0_0 a0_1 a0_2 a1_0 a1_1 a1_2))) else (rootcellarlaw17_StreamApart.j0 k t169 true a0_0 a0_1 a0_2 a1_0 a1_1 a1_2))) = some r := h
 clear h
 replace H := Option.bind_eq_some_iff.mp H
 obtain ⟨t169, A30, H⟩ := H
 replace H : (if t169 = true then (if (wrap64 ((a0_0.size : Int) + (a1_0.size : Int))) > 300 then (rootcellarlaw17_StreamApart.j0 k t169 true a0_0 a0_1 a0_2 a1_0 a1_1 a1_2) else (if (a0_2.size : Int) > 1100 then (rootcellarlaw17_StreamApart.j0 k t169 true a0_0 a0_1 a0_2 a1_0 a1_1 a1_2) else (rootcellarlaw17_StreamApart.j0 k t169 (decide ((a1_2.size : Int) > 1100)) a0_0 a0_1 a0_2 a1_0 a1_1 a1_2))) else (rootcellarlaw17_StreamApart.j0 k t169 true a0_0 a0_1 a0_2 a1_0 a1_1 a1_2)) = some r := H
 have A3 := Aside0.mk A30
 clear A30
 have HC4 := Aside0.mk H
 clear H
 go_enter Tryd.func5, Tryd.ntmps5
 go_upto_region 2 with (first | ((with_reducible refine gate_dst (N := 2) rfl ?_); (try (refine gate_guard (by rfl) ?_; dsimp only)); refine box_event ?hg (N := 2) ?hd (cs := #[.string a0_0, .int .u64 a0_1, .string a0_2]) (t := 24) ?hr ?_; (case hd => rfl); (case hg => rfl); (case hr => first | (go_simp; done) | (go_simp; rfl)); intro gb167 hg w5 hbox hb; have n0_ := Aside0.mk (below_step (by repeat (first | (with_reducible first | exact HB.out | apply below_alloc | apply pw_below_drewN | apply below_drew1) | exact HB.out)) hb); have n1_ := Aside0.mk (hbox); have n2_ := Aside0.mk ((by rw [hg]; exact (below_size (by repeat (first | (with_reducible first | exact HB.out | apply below_alloc | apply pw_below_drewN | apply below_drew1) | exact HB.out))) : w.heap.size ≤ gb167)); have n3_ := Aside0.mk ((by rw [hg]; exact (below_size (by repeat (first | (with_reducible first | exact HB.out | apply below_alloc | apply pw_below_drewN | apply below_drew1) | exact HB.out))) : w.heap.size ≤ gb167)); clear HB; have HB := n0_; have BK167 := n1_; have GW167 := n2_; have GE167 := n3_; clear n0_ n1_ n2_ n3_; clear hb hbox hg) | ((with_reducible refine gate_dst (N := 3) rfl ?_); (try (refine gate_guard (by rfl) ?_; dsimp only)); refine box_event ?hg (N := 3) ?hd (cs := #[.string a1_0, .int .u64 a1_1, .string a1_2]) (t := 24) ?hr ?_; (case hd => rfl); (case hg => rfl); (case hr => first | (go_simp; done) | (go_simp; rfl)); intro gb168 hg w6 hbox hb; have n0_ := Aside0.mk (blk_below (g := gb167) (o := .cells #[.string a0_0, .int .u64 a0_1, .string a0_2] 24 (0, 0)) (by (with_reducible repeat (first | refine blk_drewN ?_ _ | refine blk_drew ?_ | refine blk_alloc ?_ _)); exact BK167.out) hb); have n1_ := Aside0.mk (below_step (by repeat (first | (with_reducible first | exact HB.out | apply below_alloc | apply pw_below_drewN | apply below_drew1 | refine below_set ?_ GE167.out) | exact HB.out)) hb); have n2_ := Aside0.mk (hbox); have n3_ := Aside0.mk ((by rw [hg]; exact (below_size (by repeat (first | (with_reducible first | exact HB.out | apply below_alloc | apply pw_below_drewN | apply below_drew1 | refine below_set ?_ GE167.out) | exact HB.out))) : w.heap.size ≤ gb168)); have n4_ := Aside0.mk ((by rw [hg]; exact (below_size (by repeat (first | (with_reducible first | exact HB.out | apply below_alloc | apply pw_below_drewN | apply below_drew1 | refine below_set ?_ GE167.out) | exact HB.out))) : w.heap.size ≤ gb168)); have n5_ := Aside0.mk ((by rw [hg]; exact Nat.ne_of_lt (blk_lt (g := gb167) (o := .cells #[.string a0_0, .int .u64 a0_1, .string a0_2] 24 (0, 0)) (by (with_reducible repeat (first | refine blk_drewN ?_ _ | refine blk_drew ?_ | refine blk_alloc ?_ _)); exact BK167.out)) : gb167 ≠ gb168)); have n6_ := Aside0.mk ((by rw [hg]; exact Nat.ne_of_gt (blk_lt (g := gb167) (o := .cells #[.string a0_0, .int .u64 a0_1, .string a0_2] 24 (0, 0)) (by (with_reducible repeat (first | refine blk_drewN ?_ _ | refine blk_drew ?_ | refine blk_alloc ?_ _)); exact BK167.out)) : gb168 ≠ gb167)); clear BK167; clear HB; have BK167 := n0_; have HB := n1_; have BK168 := n2_; have GW168 := n3_; have GE168 := n4_; have NB167_168 := n5_; have NB168_167 := n6_; clear n0_ n1_ n2_ n3_ n4_ n5_ n6_; clear hb hbox hg) | ((with_reducible refine gate_callee (f := 9) rfl ?_); refine goesL_ (some 10) rfl rfl Tryd.func9 (by kernel_rfl) rfl #[] rfl (by (try simp only [List.map_toArray, List.map_cons, List.map_nil]); first | done | rfl | (simp only [List.length_drop, List.length_take]; rfl) | (rw [wrap_sum2 (by assumption)]; rfl)) ?_; (with_reducible refine (rootcellarlaw17_shown.calls  t169 _ A3.out (HT.below (by repeat (first | (with_reducible first | exact HB.out | apply below_alloc | apply pw_below_drewN | apply below_drew1 | refine below_set ?_ GE167.out | refine below_set ?_ GE168.out) | exact HB.out)))).mono ?_); rintro e w7 ⟨rfl, hb⟩; refine ⟨_, rfl, ?_⟩; have n0_ := Aside0.mk (blk_below (g := gb167) (o := .cells #[.string a0_0, .int .u64 a0_1, .string a0_2] 24 (0, 0)) (by (with_reducible repeat (first | refine blk_drewN ?_ _ | refine blk_drew ?_ | refine blk_alloc ?_ _)); exact BK167.out) hb); have n1_ := Aside0.mk (blk_below (g := gb168) (o := .cells #[.string a1_0, .int .u64 a1_1, .string a1_2] 24 (0, 0)) (by (with_reducible repeat (first | refine blk_drewN ?_ _ | refine blk_drew ?_ | refine blk_alloc ?_ _)); exact BK168.out) hb); have n2_ := Aside0.mk (below_step (by repeat (first | (with_reducible first | exact HB.out | apply below_alloc | apply pw_below_drewN | apply below_drew1 | refine below_set ?_ GE167.out | refine below_set ?_ GE168.out) | exact HB.out)) hb); clear BK167; clear BK168; clear HB; have BK167 := n0_; have BK168 := n1_; have HB := n2_; clear n0_ n1_ n2_; (try clear hb); (try clear hb2); (try clear hk); (try clear hi)))
 (try simp only [Act.put, List.setIfInBounds_toArray, List.set_cons_zero, List.set_cons_succ])
 go_cut [34] (fun v34 wc => ∃ (kq : Nat) (x34_3 : Bool), v34 = .bool x34_3 ∧ Aside0 (rootcellarlaw17_StreamApart.j0 kq t169 x34_3 a0_0 a0_1 a0_2 a1_0 a1_1 a1_2 = some r) ∧ Aside0 (kq ≤ k) ∧ Aside0 (wc.heap[gb167]? = some (.cells #[.string a0_0, .int .u64 a0_1, .string a0_2] 24 (0, 0))) ∧ Aside0 (wc.heap[gb168]? = some (.cells #[.string a1_0, .int .u64 a1_1, .string a1_2] 24 (0, 0))) ∧ Aside0 (Below w.heap.size w wc))
 case first =>
  have H := HC4.out
  clear HC4
  by_cases c8 : t169 = true
  ·subst c8
   have H1 : (if (wrap64 ((a0_0.size : Int) + (a1_0.size : Int))) > 300 then (rootcellarlaw17_StreamApart.j0 k true true a0_0 a0_1 a0_2 a1_0 a1_1 a1_2) else (if (a0_2.size : Int) > 1100 then (rootcellarlaw17_StreamApart.j0 k true true a0_0 a0_1 a0_2 a1_0 a1_1 a1_2) else (rootcellarlaw17_StreamApart.j0 k true (decide ((a1_2.size : Int) > 1100)) a0_0 a0_1 a0_2 a1_0 a1_1 a1_2))) = some r := by rw [if_pos rfl] at H; exact H
   clear H
   have H := H1
   clear H1
   by_cases c9 : (wrap64 ((a0_0.size : Int) + (a1_0.size : Int))) > 300
   ·rw [if_pos c9] at H
    have c9b0 : decide (300 < (wrap64 ((a0_0.size : Int) + (a1_0.size : Int)))) = true := decide_eq_true c9
    clear c9
    (first | rw [c9b0] | (simp only [i64_w, i32_w]; rw [c9b0]) | skip)
    have H' := Aside0.mk H
    clear H
    have hnb10 := NB167_168.out
    have hnc10 := NB168_167.out
    have hcz11_0 : w7.cell? ⟨gb167, 0, none⟩ = some (.string a0_0) := (blk_cell BK167.out 0).trans rfl
    have hcz11_1 : w7.cell? ⟨gb167, 1, none⟩ = some (.int .u64 a0_1) := (blk_cell BK167.out 1).trans rfl
    have hcz11_2 : w7.cell? ⟨gb167, 2, none⟩ = some (.string a0_2) := (blk_cell BK167.out 2).trans rfl
    have hfz11_0 := blk_frozen BK167.out 0
    have hfz11_1 := blk_frozen BK167.out 1
    have hfz11_2 := blk_frozen BK167.out 2
    have hcz12_0 : w7.cell? ⟨gb168, 0, none⟩ = some (.string a1_0) := (blk_cell BK168.out 0).trans rfl
    have hcz12_1 : w7.cell? ⟨gb168, 1, none⟩ = some (.int .u64 a1_1) := (blk_cell BK168.out 1).trans rfl
    have hcz12_2 : w7.cell? ⟨gb168, 2, none⟩ = some (.string a1_2) := (blk_cell BK168.out 2).trans rfl
    have hfz12_0 := blk_frozen BK168.out 0
    have hfz12_1 := blk_frozen BK168.out 1
    have hfz12_2 := blk_frozen BK168.out 2
    go_wp2
    go_meet
    case rel => exact ⟨_, (true), (by first | rfl | (simp; done) | (simp [*]; done)), H', ⟨by first | omega | exact Nat.le_refl _⟩, ⟨by (with_reducible repeat (first | refine blk_drewN ?_ _ | refine blk_drew ?_ | refine blk_alloc ?_ _)); exact BK167.out⟩, ⟨by (with_reducible repeat (first | refine blk_drewN ?_ _ | refine blk_drew ?_ | refine blk_alloc ?_ _)); exact BK168.out⟩, ⟨by repeat (first | (with_reducible first | exact HB.out | apply below_alloc | apply pw_below_drewN | apply below_drew1 | refine below_set ?_ GE167.out | refine below_set ?_ GE168.out) | exact HB.out)⟩⟩
   ·rw [if_neg c9] at H
    have c9b0 : decide (300 < (wrap64 ((a0_0.size : Int) + (a1_0.size : Int)))) = false := decide_eq_false c9
    clear c9
    (first | rw [c9b0] | (simp only [i64_w, i32_w]; rw [c9b0]) | skip)
    by_cases c13 : (a0_2.size : Int) > 1100
    ·rw [if_pos c13] at H
     have c13b0 : decide (1100 < (a0_2.size : Int)) = true := decide_eq_true c13
     have c13b1 : decide (1100 < a0_2.size) = true := decide_eq_true (by omega)
     clear c13
     have H' := Aside0.mk H
     clear H
     have hnb14 := NB167_168.out
     have hnc14 := NB168_167.out
     have hcz15_0 : w7.cell? ⟨gb167, 0, none⟩ = some (.string a0_0) := (blk_cell BK167.out 0).trans rfl
     have hcz15_1 : w7.cell? ⟨gb167, 1, none⟩ = some (.int .u64 a0_1) := (blk_cell BK167.out 1).trans rfl
     have hcz15_2 : w7.cell? ⟨gb167, 2, none⟩ = some (.string a0_2) := (blk_cell BK167.out 2).trans rfl
     have hfz15_0 := blk_frozen BK167.out 0
     have hfz15_1 := blk_frozen BK167.out 1
     have hfz15_2 := blk_frozen BK167.out 2
     have hcz16_0 : w7.cell? ⟨gb168, 0, none⟩ = some (.string a1_0) := (blk_cell BK168.out 0).trans rfl
     have hcz16_1 : w7.cell? ⟨gb168, 1, none⟩ = some (.int .u64 a1_1) := (blk_cell BK168.out 1).trans rfl
     have hcz16_2 : w7.cell? ⟨gb168, 2, none⟩ = some (.string a1_2) := (blk_cell BK168.out 2).trans rfl
     have hfz16_0 := blk_frozen BK168.out 0
     have hfz16_1 := blk_frozen BK168.out 1
     have hfz16_2 := blk_frozen BK168.out 2
     go_wp2
     go_meet
     case rel => exact ⟨_, (true), (by first | rfl | (simp; done) | (simp [*]; done)), H', ⟨by first | omega | exact Nat.le_refl _⟩, ⟨by (with_reducible repeat (first | refine blk_drewN ?_ _ | refine blk_drew ?_ | refine blk_alloc ?_ _)); exact BK167.out⟩, ⟨by (with_reducible repeat (first | refine blk_drewN ?_ _ | refine blk_drew ?_ | refine blk_alloc ?_ _)); exact BK168.out⟩, ⟨by repeat (first | (with_reducible first | exact HB.out | apply below_alloc | apply pw_below_drewN | apply below_drew1 | refine below_set ?_ GE167.out | refine below_set ?_ GE168.out) | exact HB.out)⟩⟩
    ·rw [if_neg c13] at H
     have c13b0 : decide (1100 < (a0_2.size : Int)) = false := decide_eq_false c13
     have c13b1 : decide (1100 < a0_2.size) = false := decide_eq_false (by omega)
     clear c13
     have H' := Aside0.mk H
     clear H
     have hnb17 := NB167_168.out
     have hnc17 := NB168_167.out
     have hcz18_0 : w7.cell? ⟨gb167, 0, none⟩ = some (.string a0_0) := (blk_cell BK167.out 0).trans rfl
     have hcz18_1 : w7.cell? ⟨gb167, 1, none⟩ = some (.int .u64 a0_1) := (blk_cell BK167.out 1).trans rfl
     have hcz18_2 : w7.cell? ⟨gb167, 2, none⟩ = some (.string a0_2) := (blk_cell BK167.out 2).trans rfl
     have hfz18_0 := blk_frozen BK167.out 0
     have hfz18_1 := blk_frozen BK167.out 1
     have hfz18_2 := blk_frozen BK167.out 2
     have hcz19_0 : w7.cell? ⟨gb168, 0, none⟩ = some (.string a1_0) := (blk_cell BK168.out 0).trans rfl
     have hcz19_1 : w7.cell? ⟨gb168, 1, none⟩ = some (.int .u64 a1_1) := (blk_cell BK168.out 1).trans rfl
     have hcz19_2 : w7.cell? ⟨gb168, 2, none⟩ = some (.string a1_2) := (blk_cell BK168.out 2).trans rfl
     have hfz19_0 := blk_frozen BK168.out 0
     have hfz19_1 := blk_frozen BK168.out 1
     have hfz19_2 := blk_frozen BK168.out 2
     go_wp2
     go_meet
     case rel => exact ⟨_, (decide ((a1_2.size : Int) > 1100)), (by first | rfl | (simp; done) | (simp [*]; done)), H', ⟨by first | omega | exact Nat.le_refl _⟩, ⟨by (with_reducible repeat (first | refine blk_drewN ?_ _ | refine blk_drew ?_ | refine blk_alloc ?_ _)); exact BK167.out⟩, ⟨by (with_reducible repeat (first | refine blk_drewN ?_ _ | refine blk_drew ?_ | refine blk_alloc ?_ _)); exact BK168.out⟩, ⟨by repeat (first | (with_reducible first | exact HB.out | apply below_alloc | apply pw_below_drewN | apply below_drew1 | refine below_set ?_ GE167.out | refine below_set ?_ GE168.out) | exact HB.out)⟩⟩
  ·replace c8 := Bool.eq_false_iff.mpr c8
   subst c8
   have H1 : (rootcellarlaw17_StreamApart.j0 k false true a0_0 a0_1 a0_2 a1_0 a1_1 a1_2) = some r := by rw [if_neg (show ¬ (false = true) by decide)] at H; exact H
   clear H
   have H := H1
   clear H1
   have H' := Aside0.mk H
   clear H
   go_wp2
   go_meet
   case rel => exact ⟨_, (true), (by first | rfl | (simp; done) | (simp [*]; done)), H', ⟨by first | omega | exact Nat.le_refl _⟩, ⟨by (with_reducible repeat (first | refine blk_drewN ?_ _ | refine blk_drew ?_ | refine blk_alloc ?_ _)); exact BK167.out⟩, ⟨by (with_reducible repeat (first | refine blk_drewN ?_ _ | refine blk_drew ?_ | refine blk_alloc ?_ _)); exact BK168.out⟩, ⟨by repeat (first | (with_reducible first | exact HB.out | apply below_alloc | apply pw_below_drewN | apply below_drew1 | refine below_set ?_ GE167.out | refine below_set ?_ GE168.out) | exact HB.out)⟩⟩
 case rest =>
  clear HC4
  try clear c1
  try clear p2
  try clear c5
  try clear p6
  try clear c8
  try clear c9
  try clear c9b0
  try clear c10
  try clear c13
  try clear c13b0
  try clear c13b1
  try clear c14
  try clear c17
  try clear hcz11_0
  try clear hcz11_1
  try clear hcz11_2
  try clear hcz12_0
  try clear hcz12_1
  try clear hcz12_2
  try clear hcz15_0
  try clear hcz15_1
  try clear hcz15_2
  try clear hcz16_0
  try clear hcz16_1
  try clear hcz16_2
  try clear hcz18_0
  try clear hcz18_1
  try clear hcz18_2
  try clear hcz19_0
  try clear hcz19_1
  try clear hcz19_2
  try clear hfz11_0
  try clear hfz11_1
  try clear hfz11_2
  try clear hfz12_0
  try clear hfz12_1
  try clear hfz12_2
  try clear hfz15_0
  try clear hfz15_1
  try clear hfz15_2
  try clear hfz16_0
  try clear hfz16_1
  try clear hfz16_2
  try clear hfz18_0
  try clear hfz18_1
  try clear hfz18_2
  try clear hfz19_0
  try clear hfz19_1
  try clear hfz19_2
  obtain ⟨kq, x34_3, rfl, HA, HJ3, BK167, BK168, HB⟩ := hcut
  cases kq with
  | zero => exact absurd HA.out (by simp [rootcellarlaw17_StreamApart.j0])
  | succ kj3 =>
   have H := HA.out
   clear HA
   simp only [rootcellarlaw17_StreamApart.j0] at H
   by_cases c20 : x34_3 = true
   ·subst c20
    have H1 : (some t169) = some r := by rw [if_pos rfl] at H; exact H
    clear H
    have H := H1
    clear H1
    obtain rfl := Option.some.inj H
    go_wp2
    go_ret
    exact ⟨by first | rfl | (simp [errW_none, errW_some] <;> rfl) | (simp [*, errW_none, errW_some] <;> rfl), by repeat (first | (with_reducible first | exact HB.out | apply below_alloc | apply pw_below_drewN | apply below_drew1 | refine below_set ?_ GE167.out | refine below_set ?_ GE168.out) | exact HB.out)⟩
   ·replace c20 := Bool.eq_false_iff.mpr c20
    subst c20
    have H1 : ((stream_Put.f a0_0 a0_1 a0_2).bind fun bt170 => ((stream_Put.f a1_0 a1_1 a1_2).bind fun bt172 => (if bt170.2 = 0 then (if bt172.2 = 0 then (some ((bt170.1.toList == bt172.1.toList) == (a0_0.toList == a1_0.toList && (a0_1 == a1_1 && (a0_2.toList == a1_2.toList))))) else (some true)) else (some true)))) = some r := by rw [if_neg (show ¬ (false = true) by decide)] at H; exact H
    clear H
    have H := H1
    clear H1
    replace H := Option.bind_eq_some_iff.mp H
    obtain ⟨⟨t170, t171⟩, A210, H⟩ := H
    replace H : ((stream_Put.f a1_0 a1_1 a1_2).bind fun bt172 => (if t171 = 0 then (if bt172.2 = 0 then (some ((t170.toList == bt172.1.toList) == (a0_0.toList == a1_0.toList && (a0_1 == a1_1 && (a0_2.toList == a1_2.toList))))) else (some true)) else (some true))) = some r := H
    have A21 := Aside0.mk A210
    clear A210
    replace H := Option.bind_eq_some_iff.mp H
    obtain ⟨⟨t172, t173⟩, A220, H⟩ := H
    replace H : (if t171 = 0 then (if t173 = 0 then (some ((t170.toList == t172.toList) == (a0_0.toList == a1_0.toList && (a0_1 == a1_1 && (a0_2.toList == a1_2.toList))))) else (some true)) else (some true)) = some r := H
    have A22 := Aside0.mk A220
    clear A220
    by_cases c23 : t171 = 0
    ·rw [if_pos c23] at H
     have c23b0 : (t171 == 0) = true := beq_iff_eq.mpr c23
     have c23b1 : (t171 != 0) = false := bne_eq_false_iff_eq.mpr c23
     clear c23
     by_cases c24 : t173 = 0
     ·rw [if_pos c24] at H
      have c24b0 : (t173 == 0) = true := beq_iff_eq.mpr c24
      have c24b1 : (t173 != 0) = false := bne_eq_false_iff_eq.mpr c24
      clear c24
      obtain rfl := Option.some.inj H
      have hnb25 := NB167_168.out
      have hnc25 := NB168_167.out
      have hcz26_0 : wc.cell? ⟨gb167, 0, none⟩ = some (.string a0_0) := (blk_cell BK167.out 0).trans rfl
      have hcz26_1 : wc.cell? ⟨gb167, 1, none⟩ = some (.int .u64 a0_1) := (blk_cell BK167.out 1).trans rfl
      have hcz26_2 : wc.cell? ⟨gb167, 2, none⟩ = some (.string a0_2) := (blk_cell BK167.out 2).trans rfl
      have hfz26_0 := blk_frozen BK167.out 0
      have hfz26_1 := blk_frozen BK167.out 1
      have hfz26_2 := blk_frozen BK167.out 2
      go_wp2_with (first | ((with_reducible refine gate_callee (f := 10) rfl ?_); refine goesL_ (some 38) rfl rfl Tryd.func10 (by kernel_rfl) rfl #[.agg #[.string a0_0, .int .u64 a0_1, .string a0_2]] rfl (by (try simp only [List.map_toArray, List.map_cons, List.map_nil]); first | done | rfl | (simp only [List.length_drop, List.length_take]; rfl) | (rw [wrap_sum2 (by assumption)]; rfl)) ?_; (with_reducible refine (stream_Put.calls a0_0 a0_1 a0_2 t170 t171 _ A21.out (HT.below (by repeat (first | (with_reducible first | exact HB.out | apply below_alloc | apply pw_below_drewN | apply below_drew1 | refine below_set ?_ GE167.out | refine below_set ?_ GE168.out) | exact HB.out)))).mono ?_); rintro e w27 ⟨rfl, hb⟩; refine ⟨_, rfl, ?_⟩; have n0_ := Aside0.mk (blk_below (g := gb167) (o := .cells #[.string a0_0, .int .u64 a0_1, .string a0_2] 24 (0, 0)) (by (with_reducible repeat (first | refine blk_drewN ?_ _ | refine blk_drew ?_ | refine blk_alloc ?_ _)); exact BK167.out) hb); have n1_ := Aside0.mk (blk_below (g := gb168) (o := .cells #[.string a1_0, .int .u64 a1_1, .string a1_2] 24 (0, 0)) (by (with_reducible repeat (first | refine blk_drewN ?_ _ | refine blk_drew ?_ | refine blk_alloc ?_ _)); exact BK168.out) hb); have n2_ := Aside0.mk (below_step (by repeat (first | (with_reducible first | exact HB.out | apply below_alloc | apply pw_below_drewN | apply below_drew1 | refine below_set ?_ GE167.out | refine below_set ?_ GE168.out) | exact HB.out)) hb); clear BK167; clear BK168; clear HB; have BK167 := n0_; have BK168 := n1_; have HB := n2_; clear n0_ n1_ n2_; (try clear hb); (try clear hb2); (try clear hk); (try clear hi); have hcz28_0 : w27.cell? ⟨gb168, 0, none⟩ = some (.string a1_0) := (blk_cell BK168.out 0).trans rfl; have hcz28_1 : w27.cell? ⟨gb168, 1, none⟩ = some (.int .u64 a1_1) := (blk_cell BK168.out 1).trans rfl; have hcz28_2 : w27.cell? ⟨gb168, 2, none⟩ = some (.string a1_2) := (blk_cell BK168.out 2).trans rfl; have hfz28_0 := blk_frozen BK168.out 0; have hfz28_1 := blk_frozen BK168.out 1; have hfz28_2 := blk_frozen BK168.out 2) | ((with_reducible refine gate_callee (f := 10) rfl ?_); refine goesL_ (some 43) rfl rfl Tryd.func10 (by kernel_rfl) rfl #[.agg #[.string a1_0, .int .u64 a1_1, .string a1_2]] rfl (by (try simp only [List.map_toArray, List.map_cons, List.map_nil]); first | done | rfl | (simp only [List.length_drop, List.length_take]; rfl) | (rw [wrap_sum2 (by assumption)]; rfl)) ?_; (with_reducible refine (stream_Put.calls a1_0 a1_1 a1_2 t172 t173 _ A22.out (HT.below (by repeat (first | (with_reducible first | exact HB.out | apply below_alloc | apply pw_below_drewN | apply below_drew1 | refine below_set ?_ GE167.out | refine below_set ?_ GE168.out) | exact HB.out)))).mono ?_); rintro e w29 ⟨rfl, hb⟩; refine ⟨_, rfl, ?_⟩; have n0_ := Aside0.mk (blk_below (g := gb167) (o := .cells #[.string a0_0, .int .u64 a0_1, .string a0_2] 24 (0, 0)) (by (with_reducible repeat (first | refine blk_drewN ?_ _ | refine blk_drew ?_ | refine blk_alloc ?_ _)); exact BK167.out) hb); have n1_ := Aside0.mk (blk_below (g := gb168) (o := .cells #[.string a1_0, .int .u64 a1_1, .string a1_2] 24 (0, 0)) (by (with_reducible repeat (first | refine blk_drewN ?_ _ | refine blk_drew ?_ | refine blk_alloc ?_ _)); exact BK168.out) hb); have n2_ := Aside0.mk (below_step (by repeat (first | (with_reducible first | exact HB.out | apply below_alloc | apply pw_below_drewN | apply below_drew1 | refine below_set ?_ GE167.out | refine below_set ?_ GE168.out) | exact HB.out)) hb); clear BK167; clear BK168; clear HB; have BK167 := n0_; have BK168 := n1_; have HB := n2_; clear n0_ n1_ n2_; (try clear hb); (try clear hb2); (try clear hk); (try clear hi); have hcz30_0 : w29.cell? ⟨gb167, 0, none⟩ = some (.string a0_0) := (blk_cell BK167.out 0).trans rfl; have hcz30_1 : w29.cell? ⟨gb167, 1, none⟩ = some (.int .u64 a0_1) := (blk_cell BK167.out 1).trans rfl; have hcz30_2 : w29.cell? ⟨gb167, 2, none⟩ = some (.string a0_2) := (blk_cell BK167.out 2).trans rfl; have hfz30_0 := blk_frozen BK167.out 0; have hfz30_1 := blk_frozen BK167.out 1; have hfz30_2 := blk_frozen BK167.out 2; have hcz31_0 : w29.cell? ⟨gb168, 0, none⟩ = some (.string a1_0) := (blk_cell BK168.out 0).trans rfl; have hcz31_1 : w29.cell? ⟨gb168, 1, none⟩ = some (.int .u64 a1_1) := (blk_cell BK168.out 1).trans rfl; have hcz31_2 : w29.cell? ⟨gb168, 2, none⟩ = some (.string a1_2) := (blk_cell BK168.out 2).trans rfl; have hfz31_0 := blk_frozen BK168.out 0; have hfz31_1 := blk_frozen BK168.out 1; have hfz31_2 := blk_frozen BK168.out 2))
      go_ret
      exact ⟨by first | rfl | (simp [errW_none, errW_some] <;> rfl) | (simp [*, errW_none, errW_some] <;> rfl), by repeat (first | (with_reducible first | exact HB.out | apply below_alloc | apply pw_below_drewN | apply below_drew1 | refine below_set ?_ GE167.out | refine below_set ?_ GE168.out) | exact HB.out)⟩
     ·rw [if_neg c24] at H
      have c24b0 : (t173 == 0) = false := beq_eq_false_iff_ne.mpr c24
      have c24b1 : (t173 != 0) = true := bne_iff_ne.mpr c24
      obtain rfl := Option.some.inj H
      have hnb32 := NB167_168.out
      have hnc32 := NB168_167.out
      have hcz33_0 : wc.cell? ⟨gb167, 0, none⟩ = some (.string a0_0) := (blk_cell BK167.out 0).trans rfl
      have hcz33_1 : wc.cell? ⟨gb167, 1, none⟩ = some (.int .u64 a0_1) := (blk_cell BK167.out 1).trans rfl
      have hcz33_2 : wc.cell? ⟨gb167, 2, none⟩ = some (.string a0_2) := (blk_cell BK167.out 2).trans rfl
      have hfz33_0 := blk_frozen BK167.out 0
      have hfz33_1 := blk_frozen BK167.out 1
      have hfz33_2 := blk_frozen BK167.out 2
      go_wp2_with (first | ((with_reducible refine gate_callee (f := 10) rfl ?_); refine goesL_ (some 38) rfl rfl Tryd.func10 (by kernel_rfl) rfl #[.agg #[.string a0_0, .int .u64 a0_1, .string a0_2]] rfl (by (try simp only [List.map_toArray, List.map_cons, List.map_nil]); first | done | rfl | (simp only [List.length_drop, List.length_take]; rfl) | (rw [wrap_sum2 (by assumption)]; rfl)) ?_; (with_reducible refine (stream_Put.calls a0_0 a0_1 a0_2 t170 t171 _ A21.out (HT.below (by repeat (first | (with_reducible first | exact HB.out | apply below_alloc | apply pw_below_drewN | apply below_drew1 | refine below_set ?_ GE167.out | refine below_set ?_ GE168.out) | exact HB.out)))).mono ?_); rintro e w34 ⟨rfl, hb⟩; refine ⟨_, rfl, ?_⟩; have n0_ := Aside0.mk (blk_below (g := gb167) (o := .cells #[.string a0_0, .int .u64 a0_1, .string a0_2] 24 (0, 0)) (by (with_reducible repeat (first | refine blk_drewN ?_ _ | refine blk_drew ?_ | refine blk_alloc ?_ _)); exact BK167.out) hb); have n1_ := Aside0.mk (blk_below (g := gb168) (o := .cells #[.string a1_0, .int .u64 a1_1, .string a1_2] 24 (0, 0)) (by (with_reducible repeat (first | refine blk_drewN ?_ _ | refine blk_drew ?_ | refine blk_alloc ?_ _)); exact BK168.out) hb); have n2_ := Aside0.mk (below_step (by repeat (first | (with_reducible first | exact HB.out | apply below_alloc | apply pw_below_drewN | apply below_drew1 | refine below_set ?_ GE167.out | refine below_set ?_ GE168.out) | exact HB.out)) hb); clear BK167; clear BK168; clear HB; have BK167 := n0_; have BK168 := n1_; have HB := n2_; clear n0_ n1_ n2_; (try clear hb); (try clear hb2); (try clear hk); (try clear hi); have hcz35_0 : w34.cell? ⟨gb168, 0, none⟩ = some (.string a1_0) := (blk_cell BK168.out 0).trans rfl; have hcz35_1 : w34.cell? ⟨gb168, 1, none⟩ = some (.int .u64 a1_1) := (blk_cell BK168.out 1).trans rfl; have hcz35_2 : w34.cell? ⟨gb168, 2, none⟩ = some (.string a1_2) := (blk_cell BK168.out 2).trans rfl; have hfz35_0 := blk_frozen BK168.out 0; have hfz35_1 := blk_frozen BK168.out 1; have hfz35_2 := blk_frozen BK168.out 2) | ((with_reducible refine gate_callee (f := 10) rfl ?_); refine goesL_ (some 43) rfl rfl Tryd.func10 (by kernel_rfl) rfl #[.agg #[.string a1_0, .int .u64 a1_1, .string a1_2]] rfl (by (try simp only [List.map_toArray, List.map_cons, List.map_nil]); first | done | rfl | (simp only [List.length_drop, List.length_take]; rfl) | (rw [wrap_sum2 (by assumption)]; rfl)) ?_; (with_reducible refine (stream_Put.calls a1_0 a1_1 a1_2 t172 t173 _ A22.out (HT.below (by repeat (first | (with_reducible first | exact HB.out | apply below_alloc | apply pw_below_drewN | apply below_drew1 | refine below_set ?_ GE167.out | refine below_set ?_ GE168.out) | exact HB.out)))).mono ?_); rintro e w36 ⟨rfl, hb⟩; refine ⟨_, rfl, ?_⟩; have n0_ := Aside0.mk (blk_below (g := gb167) (o := .cells #[.string a0_0, .int .u64 a0_1, .string a0_2] 24 (0, 0)) (by (with_reducible repeat (first | refine blk_drewN ?_ _ | refine blk_drew ?_ | refine blk_alloc ?_ _)); exact BK167.out) hb); have n1_ := Aside0.mk (blk_below (g := gb168) (o := .cells #[.string a1_0, .int .u64 a1_1, .string a1_2] 24 (0, 0)) (by (with_reducible repeat (first | refine blk_drewN ?_ _ | refine blk_drew ?_ | refine blk_alloc ?_ _)); exact BK168.out) hb); have n2_ := Aside0.mk (below_step (by repeat (first | (with_reducible first | exact HB.out | apply below_alloc | apply pw_below_drewN | apply below_drew1 | refine below_set ?_ GE167.out | refine below_set ?_ GE168.out) | exact HB.out)) hb); clear BK167; clear BK168; clear HB; have BK167 := n0_; have BK168 := n1_; have HB := n2_; clear n0_ n1_ n2_; (try clear hb); (try clear hb2); (try clear hk); (try clear hi)))
      go_ret
      exact ⟨by first | rfl | (simp [errW_none, errW_some] <;> rfl) | (simp [*, errW_none, errW_some] <;> rfl), by repeat (first | (with_reducible first | exact HB.out | apply below_alloc | apply pw_below_drewN | apply below_drew1 | refine below_set ?_ GE167.out | refine below_set ?_ GE168.out) | exact HB.out)⟩
    ·rw [if_neg c23] at H
     have c23b0 : (t171 == 0) = false := beq_eq_false_iff_ne.mpr c23
     have c23b1 : (t171 != 0) = true := bne_iff_ne.mpr c23
     obtain rfl := Option.some.inj H
     have hnb37 := NB167_168.out
     have hnc37 := NB168_167.out
     have hcz38_0 : wc.cell? ⟨gb167, 0, none⟩ = some (.string a0_0) := (blk_cell BK167.out 0).trans rfl
     have hcz38_1 : wc.cell? ⟨gb167, 1, none⟩ = some (.int .u64 a0_1) := (blk_cell BK167.out 1).trans rfl
     have hcz38_2 : wc.cell? ⟨gb167, 2, none⟩ = some (.string a0_2) := (blk_cell BK167.out 2).trans rfl
     have hfz38_0 := blk_frozen BK167.out 0
     have hfz38_1 := blk_frozen BK167.out 1
     have hfz38_2 := blk_frozen BK167.out 2
     go_wp2_with (first | ((with_reducible refine gate_callee (f := 10) rfl ?_); refine goesL_ (some 38) rfl rfl Tryd.func10 (by kernel_rfl) rfl #[.agg #[.string a0_0, .int .u64 a0_1, .string a0_2]] rfl (by (try simp only [List.map_toArray, List.map_cons, List.map_nil]); first | done | rfl | (simp only [List.length_drop, List.length_take]; rfl) | (rw [wrap_sum2 (by assumption)]; rfl)) ?_; (with_reducible refine (stream_Put.calls a0_0 a0_1 a0_2 t170 t171 _ A21.out (HT.below (by repeat (first | (with_reducible first | exact HB.out | apply below_alloc | apply pw_below_drewN | apply below_drew1 | refine below_set ?_ GE167.out | refine below_set ?_ GE168.out) | exact HB.out)))).mono ?_); rintro e w39 ⟨rfl, hb⟩; refine ⟨_, rfl, ?_⟩; have n0_ := Aside0.mk (blk_below (g := gb167) (o := .cells #[.string a0_0, .int .u64 a0_1, .string a0_2] 24 (0, 0)) (by (with_reducible repeat (first | refine blk_drewN ?_ _ | refine blk_drew ?_ | refine blk_alloc ?_ _)); exact BK167.out) hb); have n1_ := Aside0.mk (blk_below (g := gb168) (o := .cells #[.string a1_0, .int .u64 a1_1, .string a1_2] 24 (0, 0)) (by (with_reducible repeat (first | refine blk_drewN ?_ _ | refine blk_drew ?_ | refine blk_alloc ?_ _)); exact BK168.out) hb); have n2_ := Aside0.mk (below_step (by repeat (first | (with_reducible first | exact HB.out | apply below_alloc | apply pw_below_drewN | apply below_drew1 | refine below_set ?_ GE167.out | refine below_set ?_ GE168.out) | exact HB.out)) hb); clear BK167; clear BK168; clear HB; have BK167 := n0_; have BK168 := n1_; have HB := n2_; clear n0_ n1_ n2_; (try clear hb); (try clear hb2); (try clear hk); (try clear hi); have hcz40_0 : w39.cell? ⟨gb168, 0, none⟩ = some (.string a1_0) := (blk_cell BK168.out 0).trans rfl; have hcz40_1 : w39.cell? ⟨gb168, 1, none⟩ = some (.int .u64 a1_1) := (blk_cell BK168.out 1).trans rfl; have hcz40_2 : w39.cell? ⟨gb168, 2, none⟩ = some (.string a1_2) := (blk_cell BK168.out 2).trans rfl; have hfz40_0 := blk_frozen BK168.out 0; have hfz40_1 := blk_frozen BK168.out 1; have hfz40_2 := blk_frozen BK168.out 2) | ((with_reducible refine gate_callee (f := 10) rfl ?_); refine goesL_ (some 43) rfl rfl Tryd.func10 (by kernel_rfl) rfl #[.agg #[.string a1_0, .int .u64 a1_1, .string a1_2]] rfl (by (try simp only [List.map_toArray, List.map_cons, List.map_nil]); first | done | rfl | (simp only [List.length_drop, List.length_take]; rfl) | (rw [wrap_sum2 (by assumption)]; rfl)) ?_; (with_reducible refine (stream_Put.calls a1_0 a1_1 a1_2 t172 t173 _ A22.out (HT.below (by repeat (first | (with_reducible first | exact HB.out | apply below_alloc | apply pw_below_drewN | apply below_drew1 | refine below_set ?_ GE167.out | refine below_set ?_ GE168.out) | exact HB.out)))).mono ?_); rintro e w41 ⟨rfl, hb⟩; refine ⟨_, rfl, ?_⟩; have n0_ := Aside0.mk (blk_below (g := gb167) (o := .cells #[.string a0_0, .int .u64 a0_1, .string a0_2] 24 (0, 0)) (by (with_reducible repeat (first | refine blk_drewN ?_ _ | refine blk_drew ?_ | refine blk_alloc ?_ _)); exact BK167.out) hb); have n1_ := Aside0.mk (blk_below (g := gb168) (o := .cells #[.string a1_0, .int .u64 a1_1, .string a1_2] 24 (0, 0)) (by (with_reducible repeat (first | refine blk_drewN ?_ _ | refine blk_drew ?_ | refine blk_alloc ?_ _)); exact BK168.out) hb); have n2_ := Aside0.mk (below_step (by repeat (first | (with_reducible first | exact HB.out | apply below_alloc | apply pw_below_drewN | apply below_drew1 | refine below_set ?_ GE167.out | refine below_set ?_ GE168.out) | exact HB.out)) hb); clear BK167; clear BK168; clear HB; have BK167 := n0_; have BK168 := n1_; have HB := n2_; clear n0_ n1_ n2_; (try clear hb); (try clear hb2); (try clear hk); (try clear hi)))
     go_ret
     exact ⟨by first | rfl | (simp [errW_none, errW_some] <;> rfl) | (simp [*, errW_none, errW_some] <;> rfl), by repeat (first | (with_reducible first | exact HB.out | apply below_alloc | apply pw_below_drewN | apply below_drew1 | refine below_set ?_ GE167.out | refine below_set ?_ GE168.out) | exact HB.out)⟩


end Go.Proofs.YtfoniidbkbmjeaaDoor.Fn
end
