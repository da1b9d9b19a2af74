-- Packed by pack.py, a program of this session, out of texts of this claim.
import Derived.Test.YtcgejogmiglalaaDoorClHeadTakes1
import Derived.Test.YtcgejogmiglalaaDoorClHeadTakes2
section
-- Written by printx.py, a program of this session over the kit's print: each Go function as a plain Lean function, and that the Go code computes it.
namespace Go.Proofs.YtcgejogmiglalaaDoor.Fn
open Go.RowKit Go.Proofs.YtcgejogmiglalaaDoorW.PrintWords Go.Proofs.YtcgejogmiglalaaDoorW.PrintLast Go.Proofs.YtcgejogmiglalaaDoorW.PrintMore Go.Proofs.YtcgejogmiglalaaDoor.Lf
open List (setIfInBounds_toArray set_cons_zero set_cons_succ)
attribute [local go_sem] max2_int min2_int max_two min_two max_three min_three max_four min_four   -- for this text's walks alone
set_option linter.unusedVariables false
set_option linter.unusedSimpArgs false
def head_Choose.j0 : Nat → Int → Int → Bool → Int → Int → Int → List (S53) → Int → Int → Int → List (S53) → Option (Int × Int × Int × (List (S53)) × Int × Int)
 | 0, _, _, _, _, _, _, _, _, _, _, _ => none
 | k + 1, x8, x10, x21, x129000, x129001, x129002, x129003, x137000, x137001, x137002, x137003 => if x21 = true then (some (0, 0, 0, ([] : List (S53)), 0, 2)) else (if x8 = 0 then (if x10 = 0 then (if x137000 > x129000 then (some (x137000, x137001, x137002, x137003, 1, 0)) else (some (x129000, x129001, x129002, x129003, 0, 0))) else (some (x129000, x129001, x129002, x129003, 0, 0))) else (some (x137000, x137001, x137002, x137003, 1, 0)))
def head_Choose.f (k : Nat) (a0 : ByteArray) (a1 : ByteArray) : Option (Int × Int × Int × (List (S53)) × Int × Int) := (head_Take.f k a0).bind fun bt121 => ((head_Take.f k a1).bind fun bt129 => (if bt121.2.2.2.2 = 0 then (head_Choose.j0 k bt121.2.2.2.2 bt129.2.2.2.2 false bt121.1 bt121.2.1 bt121.2.2.1 bt121.2.2.2.1 bt129.1 bt129.2.1 bt129.2.2.1 bt129.2.2.2.1) else (head_Choose.j0 k bt121.2.2.2.2 bt129.2.2.2.2 (bt129.2.2.2.2 != 0) bt121.1 bt121.2.1 bt121.2.2.1 bt121.2.2.2.1 bt129.1 bt129.2.1 bt129.2.2.1 bt129.2.2.2.1)))
theorem head_Choose.mono_l : ∀ k, (∀ y0 y1 y2 y3 y4 y5 y6 y7 y8 y9 y10, LeO (head_Choose.j0 k y0 y1 y2 y3 y4 y5 y6 y7 y8 y9 y10) (head_Choose.j0 (k + 1) y0 y1 y2 y3 y4 y5 y6 y7 y8 y9 y10))
 | 0 => fun _ _ _ _ _ _ _ _ _ _ _ r h => by simp [head_Choose.j0] at h
 | k + 1 => by
  have ih0 := head_Choose.mono_l k
  ·intro y0 y1 y2 y3 y4 y5 y6 y7 y8 y9 y10
   unfold head_Choose.j0
   repeat' first
   | (with_reducible exact ih0 _ _ _ _ _ _ _ _ _ _ _)
   | (with_reducible exact head_Take.mono _ _)
   | (with_reducible exact LeO.refl _)
   | (with_reducible exact LeO.none _)
   | (with_reducible refine LeO.ite ?_ ?_)
   | (with_reducible refine LeO.bind ?_ (fun _ => ?_))
   | exact ih0 _ _ _ _ _ _ _ _ _ _ _
   | exact head_Take.mono _ _
   | exact LeO.none _
   | refine LeO.ite ?_ ?_
   | refine LeO.bind ?_ (fun _ => ?_)
theorem head_Choose.mono : ∀ a0 a1 k, LeO (head_Choose.f k a0 a1) (head_Choose.f (k + 1) a0 a1) := by
 intro a0 a1 k
 have ih0 := head_Choose.mono_l k
 unfold head_Choose.f
 repeat' first
   | (with_reducible exact ih0 _ _ _ _ _ _ _ _ _ _ _)
   | (with_reducible exact head_Take.mono _ _)
   | (with_reducible exact LeO.refl _)
   | (with_reducible exact LeO.none _)
   | (with_reducible refine LeO.ite ?_ ?_)
   | (with_reducible refine LeO.bind ?_ (fun _ => ?_))
   | exact ih0 _ _ _ _ _ _ _ _ _ _ _
   | exact head_Take.mono _ _
   | exact LeO.none _
   | refine LeO.ite ?_ ?_
   | refine LeO.bind ?_ (fun _ => ?_)
set_option maxHeartbeats 8000000 in
set_option maxRecDepth 100000 in
theorem head_Choose.calls (k : Nat) (a0 : ByteArray) (a1 : ByteArray) (r1 : Int) (r2 : Int) (r3 : Int) (r4 : List (S53)) (r5 : Int) (r6 : Int) (w : World) (h : head_Choose.f k a0 a1 = some (r1, r2, r3, r4, r5, r6)) :
  Calls Tryd.prog 18 #[.string a0, .string a1] w fun e w' => ∃ v3_ : Value, e = .returned (.tuple #[.agg #[.int .u64 r1, .int .i64 r2, .int .i64 r3, v3_], .int .i64 r5, .int .i64 r6]) ∧ Kd.R k53 53 w' w.heap.size (fun _ => True) v3_ r4 ∧ Below w.heap.size w w' := by
 have hu25 := Tryd.underlying25
 have HB := Ax.mk (Below.refl w.heap.size w)
 have H : ((head_Take.f k a0).bind fun bt121 => ((head_Take.f k a1).bind fun bt129 => (if bt121.2.2.2.2 = 0 then (head_Choose.j0 k bt121.2.2.2.2 bt129.2.2.2.2 false bt121.1 bt121.2.1 bt121.2.2.1 bt121.2.2.2.1 bt129.1 bt129.2.1 bt129.2.2.1 bt129.2.2.2.1) else (head_Choose.j0 k bt121.2.2.2.2 bt129.2.2.2.2 (bt129.2.2.2.2 != 0) bt121.1 bt121.2.1 bt121.2.2.1 bt121.2.2.2.1 bt129.1 bt129.2.1 bt129.2.2.1 bt129.2.2.2.1)))) = some (r1, r2, r3, r4, r5, r6) := h
 clear h
 replace H := Option.bind_eq_some_iff.mp H
 obtain ⟨⟨t121, t122, t123, t124, t127⟩, A30, H⟩ := H
 replace H : ((head_Take.f k a1).bind fun bt129 => (if t127 = 0 then (head_Choose.j0 k t127 bt129.2.2.2.2 false t121 t122 t123 t124 bt129.1 bt129.2.1 bt129.2.2.1 bt129.2.2.2.1) else (head_Choose.j0 k t127 bt129.2.2.2.2 (bt129.2.2.2.2 != 0) t121 t122 t123 t124 bt129.1 bt129.2.1 bt129.2.2.1 bt129.2.2.2.1))) = some (r1, r2, r3, r4, r5, r6) := H
 have A3 := Ax.mk A30
 clear A30
 replace H := Option.bind_eq_some_iff.mp H
 obtain ⟨⟨t129, t130, t131, t132, t135⟩, A40, H⟩ := H
 replace H : (if t127 = 0 then (head_Choose.j0 k t127 t135 false t121 t122 t123 t124 t129 t130 t131 t132) else (head_Choose.j0 k t127 t135 (t135 != 0) t121 t122 t123 t124 t129 t130 t131 t132)) = some (r1, r2, r3, r4, r5, r6) := H
 have A4 := Ax.mk A40
 clear A40
 have HC5 := Ax.mk H
 clear H
 go_enter Tryd.func18, Tryd.ntmps18
 go_upto_region 3 with (first | ((with_reducible refine gate_dst (N := 4) rfl ?_); refine box_event ?hg (N := 4) ?hd (cs := #[.int .u64 0, .int .i64 0, .int .i64 0, .slice none 0 0]) (t := 25) ?hr ?_; (case hd => rfl); (case hg => rfl); (case hr => first | (go_simp; done) | (go_simp; rfl)); intro gb120 hg w6 hbox hb; have n0_ := Ax.mk (bP bA hb); have n1_ := Ax.mk (hbox); have n2_ := Ax.mk ((ge_new hg : w.heap.size ≤ gb120)); have n3_ := n2_; clear HB; have HB := n0_; have BK120 := n1_; have GW120 := n2_; have GE120 := n3_; clear n0_ n1_ n2_ n3_; clear hb hbox hg) | ((with_reducible refine gate_callee (f := 16) rfl ?_); refine goesL_ (some 13) rfl rfl Tryd.func16 (by kernel_rfl) rfl #[.string a0] rfl (by (try simp only [List.map_toArray, List.map_cons, List.map_nil]); first | done | rfl | (simp only [List.length_drop, List.length_take]; rfl) | (rw [wrap_sum2 (by assumption)]; rfl)) ?_; (with_reducible refine (head_Take.calls k a0 t121 t122 t123 t124 t127 _ A3.out).mono ?_); rintro e w7 ⟨v125, rfl, ho0, hb⟩; refine ⟨_, rfl, ?_⟩; have n0_ := Ax.mk (Kd.R_lower ho0 (bS bA)); have n1_ := Ax.mk (bB (bT BK120.out) hb); have n2_ := Ax.mk (bP bA hb); clear BK120; clear HB; have HO126 := n0_; have BK120 := n1_; have HB := n2_; clear n0_ n1_ n2_; (try clear hb); (try clear hb2); (try clear hk); (try clear hi); (try clear ho0)) | ((with_reducible refine gate_dst (N := 7) rfl ?_); refine box_event ?hg (N := 7) ?hd (cs := #[.int .u64 0, .int .i64 0, .int .i64 0, .slice none 0 0]) (t := 25) ?hr ?_; (case hd => rfl); (case hg => rfl); (case hr => first | (go_simp; done) | (go_simp; rfl)); intro gb128 hg w8 hbox hb; have n0_ := Ax.mk (Kd.R_below (by exact Kd.R_to HO126.out) hb); have n1_ := Ax.mk (bB (bT BK120.out) hb); have n2_ := Ax.mk (bP bA hb); have n3_ := Ax.mk (hbox); have n4_ := Ax.mk ((ge_new hg : w.heap.size ≤ gb128)); have n5_ := n4_; have n6_ := Ax.mk ((ne_lt hg BK120.out : gb120 ≠ gb128)); have n7_ := Ax.mk ((ne_gt hg BK120.out : gb128 ≠ gb120)); clear HO126; clear BK120; clear HB; have HO126 := n0_; have BK120 := n1_; have HB := n2_; have BK128 := n3_; have GW128 := n4_; have GE128 := n5_; have NB120_128 := n6_; have NB128_120 := n7_; clear n0_ n1_ n2_ n3_ n4_ n5_ n6_ n7_; clear hb hbox hg; have hnb9 := NB128_120.out; have hnc9 := NB120_128.out; have hcz10_0 : w8.cell? ⟨gb128, 0, none⟩ = some (.int .u64 0) := (bC BK128.out 0).trans rfl; have hcz10_1 : w8.cell? ⟨gb128, 1, none⟩ = some (.int .i64 0) := (bC BK128.out 1).trans rfl; have hcz10_2 : w8.cell? ⟨gb128, 2, none⟩ = some (.int .i64 0) := (bC BK128.out 2).trans rfl; have hcz10_3 : w8.cell? ⟨gb128, 3, none⟩ = some (.slice none 0 0) := (bC BK128.out 3).trans rfl; have hfz10_0 := bF BK128.out 0; have hfz10_1 := bF BK128.out 1; have hfz10_2 := bF BK128.out 2; have hfz10_3 := bF BK128.out 3; obtain ⟨Ao11, co11, eo11⟩ := Kd.R_slice HO126.out; subst eo11) | ((with_reducible refine gate_callee (f := 16) rfl ?_); refine goesL_ (some 18) rfl rfl Tryd.func16 (by kernel_rfl) rfl #[.string a1] rfl (by (try simp only [List.map_toArray, List.map_cons, List.map_nil]); first | done | rfl | (simp only [List.length_drop, List.length_take]; rfl) | (rw [wrap_sum2 (by assumption)]; rfl)) ?_; (with_reducible refine (head_Take.calls k a1 t129 t130 t131 t132 t135 _ A4.out).mono ?_); rintro e w12 ⟨v133, rfl, ho0, hb⟩; refine ⟨_, rfl, ?_⟩; have n0_ := Ax.mk (Kd.R_elder' (by apply Kd.R_to; exact (Kd.R_mono (Kd.R_far (p := ⟨gb128, 3, none⟩) (Kd.R_far (p := ⟨gb128, 2, none⟩) (Kd.R_far (p := ⟨gb128, 1, none⟩) (Kd.R_far (p := ⟨gb128, 0, none⟩) (Kd.R_types HO126.out BK128.out (by decide)) (fun _ hk => hk.2) (.int .u64 t121)) (fun _ hk => hk.2) (.int .i64 t122)) (fun _ hk => hk.2) (.int .i64 t123)) (fun _ hk => hk.2) (.slice Ao11 t124.length co11)) (fun _ h_ => h_.1))) (Kd.R_base ho0) hb); have n1_ := Ax.mk (Kd.R_lower (Kd.R_new' ho0 (Kd.R_lt (by apply Kd.R_to; exact (Kd.R_mono (Kd.R_far (p := ⟨gb128, 3, none⟩) (Kd.R_far (p := ⟨gb128, 2, none⟩) (Kd.R_far (p := ⟨gb128, 1, none⟩) (Kd.R_far (p := ⟨gb128, 0, none⟩) (Kd.R_types HO126.out BK128.out (by decide)) (fun _ hk => hk.2) (.int .u64 t121)) (fun _ hk => hk.2) (.int .i64 t122)) (fun _ hk => hk.2) (.int .i64 t123)) (fun _ hk => hk.2) (.slice Ao11 t124.length co11)) (fun _ h_ => h_.1))))) (bS bA)); have n2_ := Ax.mk (bB (g := gb120) (o := .cells #[.int .u64 0, .int .i64 0, .int .i64 0, .slice none 0 0] 25 (0, 0)) (by refine bT ?_; refine bR ?_ NB120_128.out _; refine bT ?_; refine bR ?_ NB120_128.out _; refine bT ?_; refine bR ?_ NB120_128.out _; refine bT ?_; refine bR ?_ NB120_128.out _; exact bT BK120.out) hb); have n3_ := Ax.mk (bB (g := gb128) (o := .cells #[.int .u64 t121, .int .i64 t122, .int .i64 t123, .slice Ao11 t124.length co11] 25 (0, 0)) (by refine bT ?_; refine bU (cs := #[.int .u64 t121, .int .i64 t122, .int .i64 t123, .slice none 0 0]) ?_ 3 _ rfl; refine bT ?_; refine bU (cs := #[.int .u64 t121, .int .i64 t122, .int .i64 0, .slice none 0 0]) ?_ 2 _ rfl; refine bT ?_; refine bU (cs := #[.int .u64 t121, .int .i64 0, .int .i64 0, .slice none 0 0]) ?_ 1 _ rfl; refine bT ?_; refine bU (cs := #[.int .u64 0, .int .i64 0, .int .i64 0, .slice none 0 0]) ?_ 0 _ rfl; exact bT BK128.out) hb); have n4_ := Ax.mk (bP bA hb); clear HO126; clear BK120; clear BK128; clear HB; have HO126 := n0_; have HO134 := n1_; have BK120 := n2_; have BK128 := n3_; have HB := n4_; clear n0_ n1_ n2_ n3_ n4_; (try clear hb); (try clear hb2); (try clear hk); (try clear hi); (try clear ho0)) | ((with_reducible refine gate_dst (N := 9) rfl ?_); refine box_event ?hg (N := 9) ?hd (cs := #[.int .u64 0, .int .i64 0, .int .i64 0, .slice none 0 0]) (t := 25) ?hr ?_; (case hd => rfl); (case hg => rfl); (case hr => first | (go_simp; done) | (go_simp; rfl)); intro gb136 hg w13 hbox hb; have n0_ := Ax.mk (Kd.R_below (by exact Kd.R_to HO126.out) hb); have n1_ := Ax.mk (Kd.R_below (by exact Kd.R_to HO134.out) hb); have n2_ := Ax.mk (bB (bT BK120.out) hb); have n3_ := Ax.mk (bB (bT BK128.out) hb); have n4_ := Ax.mk (bP bA hb); have n5_ := Ax.mk (hbox); have n6_ := Ax.mk ((ge_new hg : w.heap.size ≤ gb136)); have n7_ := n6_; have n8_ := Ax.mk ((ne_lt hg BK120.out : gb120 ≠ gb136)); have n9_ := Ax.mk ((ne_gt hg BK120.out : gb136 ≠ gb120)); have n10_ := Ax.mk ((ne_lt hg BK128.out : gb128 ≠ gb136)); have n11_ := Ax.mk ((ne_gt hg BK128.out : gb136 ≠ gb128)); clear HO126; clear HO134; clear BK120; clear BK128; clear HB; have HO126 := n0_; have HO134 := n1_; have BK120 := n2_; have BK128 := n3_; have HB := n4_; have BK136 := n5_; have GW136 := n6_; have GE136 := n7_; have NB120_136 := n8_; have NB136_120 := n9_; have NB128_136 := n10_; have NB136_128 := n11_; clear n0_ n1_ n2_ n3_ n4_ n5_ n6_ n7_ n8_ n9_ n10_ n11_; clear hb hbox hg; have hnb14 := NB136_120.out; have hnc14 := NB120_136.out; have hnb15 := NB136_128.out; have hnc15 := NB128_136.out; have hcz16_0 : w13.cell? ⟨gb136, 0, none⟩ = some (.int .u64 0) := (bC BK136.out 0).trans rfl; have hcz16_1 : w13.cell? ⟨gb136, 1, none⟩ = some (.int .i64 0) := (bC BK136.out 1).trans rfl; have hcz16_2 : w13.cell? ⟨gb136, 2, none⟩ = some (.int .i64 0) := (bC BK136.out 2).trans rfl; have hcz16_3 : w13.cell? ⟨gb136, 3, none⟩ = some (.slice none 0 0) := (bC BK136.out 3).trans rfl; have hfz16_0 := bF BK136.out 0; have hfz16_1 := bF BK136.out 1; have hfz16_2 := bF BK136.out 2; have hfz16_3 := bF BK136.out 3; obtain ⟨Ao17, co17, eo17⟩ := Kd.R_slice HO134.out; subst eo17))
 (try simp only [Act.put, setIfInBounds_toArray, set_cons_zero, set_cons_succ])
 go_cut [21] (fun v21 wc => ∃ (kq : Nat) (x21_4 : Bool), v21 = .bool x21_4 ∧ Ax (head_Choose.j0 kq t127 t135 x21_4 t121 t122 t123 t124 t129 t130 t131 t132 = some (r1, r2, r3, r4, r5, r6)) ∧ Ax (kq ≤ k) ∧ Ax (Kd.R k53 53 wc w.heap.size (fun k_ => some k_ ≠ ((.slice Ao17 t132.length co17) : Value).ownBlock) (.slice Ao11 t124.length co11) t124) ∧ Ax (Kd.R k53 53 wc w.heap.size (fun k_ => some k_ ≠ ((.slice Ao11 t124.length co11) : Value).ownBlock) (.slice Ao17 t132.length co17) t132) ∧ Ax (wc.heap[gb120]? = some (.cells #[.int .u64 0, .int .i64 0, .int .i64 0, (.slice none 0 0)] 25 (0, 0))) ∧ Ax (wc.heap[gb128]? = some (.cells #[.int .u64 t121, .int .i64 t122, .int .i64 t123, (.slice Ao11 t124.length co11)] 25 (0, 0))) ∧ Ax (wc.heap[gb136]? = some (.cells #[.int .u64 t129, .int .i64 t130, .int .i64 t131, (.slice Ao17 t132.length co17)] 25 (0, 0))) ∧ Ax (Below w.heap.size w wc))
 case first =>
  have H := HC5.out
  clear HC5
  by_cases c18 : t127 = 0
  ·rw [if_pos c18] at H
   have c18b0 : (t127 == 0) = true := beq_iff_eq.mpr c18
   have c18b1 : (t127 != 0) = false := bne_eq_false_iff_eq.mpr c18
   clear c18
   (first | rw [c18b0] | (simp only [i64_w, i32_w]; rw [c18b0]) | skip)
   have H' := Ax.mk H
   clear H
   go_wp2
   go_meet
   case rel => exact ⟨_, (false), (by first | rfl | (simp; done) | (simp [*]; done)), H', ⟨by first | omega | exact Nat.le_refl _⟩, ⟨by apply Kd.R_to; exact Kd.R_mono (Kd.R_far (p := ⟨gb136, 3, none⟩) (Kd.R_far (p := ⟨gb136, 2, none⟩) (Kd.R_far (p := ⟨gb136, 1, none⟩) (Kd.R_far (p := ⟨gb136, 0, none⟩) (Kd.R_types HO126.out BK136.out (by decide)) (fun _ hk => hk.2) (.int .u64 t129)) (fun _ hk => hk.2) (.int .i64 t130)) (fun _ hk => hk.2) (.int .i64 t131)) (fun _ hk => hk.2) (.slice Ao17 t132.length co17)) (fun _ hk => hk.1.2)⟩, ⟨by apply Kd.R_to; exact Kd.R_mono (Kd.R_far (p := ⟨gb136, 3, none⟩) (Kd.R_far (p := ⟨gb136, 2, none⟩) (Kd.R_far (p := ⟨gb136, 1, none⟩) (Kd.R_far (p := ⟨gb136, 0, none⟩) (Kd.R_types HO134.out BK136.out (by decide)) (fun _ hk => hk.2) (.int .u64 t129)) (fun _ hk => hk.2) (.int .i64 t130)) (fun _ hk => hk.2) (.int .i64 t131)) (fun _ hk => hk.2) (.slice Ao17 t132.length co17)) (fun _ hk => hk.1.2)⟩, ⟨by refine bT ?_; refine bR ?_ NB120_136.out _; refine bT ?_; refine bR ?_ NB120_136.out _; refine bT ?_; refine bR ?_ NB120_136.out _; refine bT ?_; refine bR ?_ NB120_136.out _; refine bT ?_; exact BK120.out⟩, ⟨by refine bT ?_; refine bR ?_ NB128_136.out _; refine bT ?_; refine bR ?_ NB128_136.out _; refine bT ?_; refine bR ?_ NB128_136.out _; refine bT ?_; refine bR ?_ NB128_136.out _; refine bT ?_; exact BK128.out⟩, ⟨by refine bT ?_; refine bU (cs := #[.int .u64 t129, .int .i64 t130, .int .i64 t131, .slice none 0 0]) ?_ 3 _ rfl; refine bT ?_; refine bU (cs := #[.int .u64 t129, .int .i64 t130, .int .i64 0, .slice none 0 0]) ?_ 2 _ rfl; refine bT ?_; refine bU (cs := #[.int .u64 t129, .int .i64 0, .int .i64 0, .slice none 0 0]) ?_ 1 _ rfl; refine bT ?_; refine bU (cs := #[.int .u64 0, .int .i64 0, .int .i64 0, .slice none 0 0]) ?_ 0 _ rfl; refine bT ?_; exact BK136.out⟩, ⟨bA⟩⟩
  ·rw [if_neg c18] at H
   have c18b0 : (t127 == 0) = false := beq_eq_false_iff_ne.mpr c18
   have c18b1 : (t127 != 0) = true := bne_iff_ne.mpr c18
   (first | rw [c18b0] | (simp only [i64_w, i32_w]; rw [c18b0]) | skip)
   have H' := Ax.mk H
   clear H
   go_wp2
   go_meet
   case rel => exact ⟨_, ((t135 != 0)), (by first | rfl | (simp; done) | (simp [*]; done)), H', ⟨by first | omega | exact Nat.le_refl _⟩, ⟨by apply Kd.R_to; exact Kd.R_mono (Kd.R_far (p := ⟨gb136, 3, none⟩) (Kd.R_far (p := ⟨gb136, 2, none⟩) (Kd.R_far (p := ⟨gb136, 1, none⟩) (Kd.R_far (p := ⟨gb136, 0, none⟩) (Kd.R_types HO126.out BK136.out (by decide)) (fun _ hk => hk.2) (.int .u64 t129)) (fun _ hk => hk.2) (.int .i64 t130)) (fun _ hk => hk.2) (.int .i64 t131)) (fun _ hk => hk.2) (.slice Ao17 t132.length co17)) (fun _ hk => hk.1.2)⟩, ⟨by apply Kd.R_to; exact Kd.R_mono (Kd.R_far (p := ⟨gb136, 3, none⟩) (Kd.R_far (p := ⟨gb136, 2, none⟩) (Kd.R_far (p := ⟨gb136, 1, none⟩) (Kd.R_far (p := ⟨gb136, 0, none⟩) (Kd.R_types HO134.out BK136.out (by decide)) (fun _ hk => hk.2) (.int .u64 t129)) (fun _ hk => hk.2) (.int .i64 t130)) (fun _ hk => hk.2) (.int .i64 t131)) (fun _ hk => hk.2) (.slice Ao17 t132.length co17)) (fun _ hk => hk.1.2)⟩, ⟨by refine bT ?_; refine bR ?_ NB120_136.out _; refine bT ?_; refine bR ?_ NB120_136.out _; refine bT ?_; refine bR ?_ NB120_136.out _; refine bT ?_; refine bR ?_ NB120_136.out _; refine bT ?_; exact BK120.out⟩, ⟨by refine bT ?_; refine bR ?_ NB128_136.out _; refine bT ?_; refine bR ?_ NB128_136.out _; refine bT ?_; refine bR ?_ NB128_136.out _; refine bT ?_; refine bR ?_ NB128_136.out _; refine bT ?_; exact BK128.out⟩, ⟨by refine bT ?_; refine bU (cs := #[.int .u64 t129, .int .i64 t130, .int .i64 t131, .slice none 0 0]) ?_ 3 _ rfl; refine bT ?_; refine bU (cs := #[.int .u64 t129, .int .i64 t130, .int .i64 0, .slice none 0 0]) ?_ 2 _ rfl; refine bT ?_; refine bU (cs := #[.int .u64 t129, .int .i64 0, .int .i64 0, .slice none 0 0]) ?_ 1 _ rfl; refine bT ?_; refine bU (cs := #[.int .u64 0, .int .i64 0, .int .i64 0, .slice none 0 0]) ?_ 0 _ rfl; refine bT ?_; exact BK136.out⟩, ⟨bA⟩⟩
 case rest =>
  clear HC5
  try clear c1
  try clear p2
  try clear c9
  try clear c14
  try clear c15
  try clear c16
  try clear c18
  try clear c18b0
  try clear c18b1
  try clear hcz10_0
  try clear hcz10_1
  try clear hcz10_2
  try clear hcz10_3
  try clear hcz16_0
  try clear hcz16_1
  try clear hcz16_2
  try clear hcz16_3
  try clear hfz10_0
  try clear hfz10_1
  try clear hfz10_2
  try clear hfz10_3
  try clear hfz16_0
  try clear hfz16_1
  try clear hfz16_2
  try clear hfz16_3
  obtain ⟨kq, x21_4, rfl, HA, HJ4, HO_129003, HO_137003, BK120, BK128, BK136, HB⟩ := hcut
  cases kq with
  | zero => exact absurd HA.out (by simp [head_Choose.j0])
  | succ kj4 =>
   have H := HA.out
   clear HA
   simp only [head_Choose.j0] at H
   by_cases c19 : x21_4 = true
   ·subst c19
    have H1 : (some (0, 0, 0, ([] : List (S53)), 0, 2)) = some (r1, r2, r3, r4, r5, r6) := by rw [if_pos rfl] at H; exact H
    clear H
    have H := H1
    clear H1
    simp only [Option.some.injEq, Prod.mk.injEq] at H
    obtain ⟨rfl, rfl, rfl, rfl, rfl, rfl⟩ := H
    have hnb20 := NB120_128.out
    have hnc20 := NB128_120.out
    have hnb21 := NB120_136.out
    have hnc21 := NB136_120.out
    have hcz22_0 : wc.cell? ⟨gb120, 0, none⟩ = some (.int .u64 0) := (bC BK120.out 0).trans rfl
    have hcz22_1 : wc.cell? ⟨gb120, 1, none⟩ = some (.int .i64 0) := (bC BK120.out 1).trans rfl
    have hcz22_2 : wc.cell? ⟨gb120, 2, none⟩ = some (.int .i64 0) := (bC BK120.out 2).trans rfl
    have hcz22_3 : wc.cell? ⟨gb120, 3, none⟩ = some (.slice none 0 0) := (bC BK120.out 3).trans rfl
    have hfz22_0 := bF BK120.out 0
    have hfz22_1 := bF BK120.out 1
    have hfz22_2 := bF BK120.out 2
    have hfz22_3 := bF BK120.out 3
    go_wp2
    refine bodyPost_ret (results_ctt rfl _ _ gb120 25 #[.int .u64 0, .int .i64 0, .int .i64 0, .slice none 0 0] (0, 0) _ rfl (by refine bT ?_; refine bU (cs := #[.int .u64 0, .int .i64 0, .int .i64 0, .slice none 0 0]) ?_ 3 _ rfl; refine bT ?_; refine bU (cs := #[.int .u64 0, .int .i64 0, .int .i64 0, .slice none 0 0]) ?_ 2 _ rfl; refine bT ?_; refine bU (cs := #[.int .u64 0, .int .i64 0, .int .i64 0, .slice none 0 0]) ?_ 1 _ rfl; refine bT ?_; refine bU (cs := #[.int .u64 0, .int .i64 0, .int .i64 0, .slice none 0 0]) ?_ 0 _ rfl; exact bT BK120.out) Tryd.underlying25 rfl (by kernel_rfl)) rfl ?_
    exact ⟨_, by first | rfl | (simp [errW_none, errW_some] <;> rfl) | (simp [*, errW_none, errW_some] <;> rfl), by first | exact Kd.R_nil _ _ _ _ _ | exact Kd.N_nil _ _ _ _ _ | exact Kd.V_nil _ _ _ _ _ | exact Kd.Q_nil _ _ _ _ _ | exact Kd.S_nil _ _ _ _ _, bA⟩
   ·replace c19 := Bool.eq_false_iff.mpr c19
    subst c19
    have H1 : (if t127 = 0 then (if t135 = 0 then (if t129 > t121 then (some (t129, t130, t131, t132, 1, 0)) else (some (t121, t122, t123, t124, 0, 0))) else (some (t121, t122, t123, t124, 0, 0))) else (some (t129, t130, t131, t132, 1, 0))) = some (r1, r2, r3, r4, r5, r6) := by rw [if_neg (show ¬ (false = true) by decide)] at H; exact H
    clear H
    have H := H1
    clear H1
    by_cases c23 : t127 = 0
    ·rw [if_pos c23] at H
     have c23b0 : (t127 == 0) = true := beq_iff_eq.mpr c23
     have c23b1 : (t127 != 0) = false := bne_eq_false_iff_eq.mpr c23
     clear c23
     by_cases c24 : t135 = 0
     ·rw [if_pos c24] at H
      have c24b0 : (t135 == 0) = true := beq_iff_eq.mpr c24
      have c24b1 : (t135 != 0) = false := bne_eq_false_iff_eq.mpr c24
      clear c24
      by_cases c25 : t129 > t121
      ·rw [if_pos c25] at H
       have c25b0 : decide (t121 < t129) = true := decide_eq_true c25
       clear c25
       simp only [Option.some.injEq, Prod.mk.injEq] at H
       obtain ⟨rfl, rfl, rfl, rfl, rfl, rfl⟩ := H
       have hnb26 := NB136_120.out
       have hnc26 := NB120_136.out
       have hnb27 := NB136_128.out
       have hnc27 := NB128_136.out
       have hcz28_0 : wc.cell? ⟨gb136, 0, none⟩ = some (.int .u64 t129) := (bC BK136.out 0).trans rfl
       have hcz28_1 : wc.cell? ⟨gb136, 1, none⟩ = some (.int .i64 t130) := (bC BK136.out 1).trans rfl
       have hcz28_2 : wc.cell? ⟨gb136, 2, none⟩ = some (.int .i64 t131) := (bC BK136.out 2).trans rfl
       have hcz28_3 : wc.cell? ⟨gb136, 3, none⟩ = some (.slice Ao17 t132.length co17) := (bC BK136.out 3).trans rfl
       have hfz28_0 := bF BK136.out 0
       have hfz28_1 := bF BK136.out 1
       have hfz28_2 := bF BK136.out 2
       have hfz28_3 := bF BK136.out 3
       have hnb29 := NB128_120.out
       have hnc29 := NB120_128.out
       have hcz30_0 : wc.cell? ⟨gb128, 0, none⟩ = some (.int .u64 t121) := (bC BK128.out 0).trans rfl
       have hcz30_1 : wc.cell? ⟨gb128, 1, none⟩ = some (.int .i64 t122) := (bC BK128.out 1).trans rfl
       have hcz30_2 : wc.cell? ⟨gb128, 2, none⟩ = some (.int .i64 t123) := (bC BK128.out 2).trans rfl
       have hcz30_3 : wc.cell? ⟨gb128, 3, none⟩ = some (.slice Ao11 t124.length co11) := (bC BK128.out 3).trans rfl
       have hfz30_0 := bF BK128.out 0
       have hfz30_1 := bF BK128.out 1
       have hfz30_2 := bF BK128.out 2
       have hfz30_3 := bF BK128.out 3
       have hcz31_0 : wc.cell? ⟨gb120, 0, none⟩ = some (.int .u64 0) := (bC BK120.out 0).trans rfl
       have hcz31_1 : wc.cell? ⟨gb120, 1, none⟩ = some (.int .i64 0) := (bC BK120.out 1).trans rfl
       have hcz31_2 : wc.cell? ⟨gb120, 2, none⟩ = some (.int .i64 0) := (bC BK120.out 2).trans rfl
       have hcz31_3 : wc.cell? ⟨gb120, 3, none⟩ = some (.slice none 0 0) := (bC BK120.out 3).trans rfl
       have hfz31_0 := bF BK120.out 0
       have hfz31_1 := bF BK120.out 1
       have hfz31_2 := bF BK120.out 2
       have hfz31_3 := bF BK120.out 3
       go_wp2
       refine bodyPost_ret (results_ctt rfl _ _ gb120 25 #[.int .u64 t129, .int .i64 t130, .int .i64 t131, .slice Ao17 t132.length co17] (0, 0) _ rfl (by refine bT ?_; refine bU (cs := #[.int .u64 t129, .int .i64 t130, .int .i64 t131, .slice none 0 0]) ?_ 3 _ rfl; refine bT ?_; refine bU (cs := #[.int .u64 t129, .int .i64 t130, .int .i64 0, .slice none 0 0]) ?_ 2 _ rfl; refine bT ?_; refine bU (cs := #[.int .u64 t129, .int .i64 0, .int .i64 0, .slice none 0 0]) ?_ 1 _ rfl; refine bT ?_; refine bU (cs := #[.int .u64 0, .int .i64 0, .int .i64 0, .slice none 0 0]) ?_ 0 _ rfl; exact bT BK120.out) Tryd.underlying25 rfl (by kernel_rfl)) rfl ?_
       exact ⟨_, by first | rfl | (simp [errW_none, errW_some] <;> rfl) | (simp [*, errW_none, errW_some] <;> rfl), by apply Kd.R_to; exact Kd.R_mono (Kd.R_far (p := ⟨gb120, 3, none⟩) (Kd.R_far (p := ⟨gb120, 2, none⟩) (Kd.R_far (p := ⟨gb120, 1, none⟩) (Kd.R_far (p := ⟨gb120, 0, none⟩) (Kd.R_types HO_137003.out BK120.out (by decide)) (fun _ hk => hk.2) (.int .u64 t129)) (fun _ hk => hk.2) (.int .i64 t130)) (fun _ hk => hk.2) (.int .i64 t131)) (fun _ hk => hk.2) (.slice Ao17 t132.length co17)) (fun _ hk => trivial), bA⟩
      ·rw [if_neg c25] at H
       have c25b0 : decide (t121 < t129) = false := decide_eq_false c25
       clear c25
       simp only [Option.some.injEq, Prod.mk.injEq] at H
       obtain ⟨rfl, rfl, rfl, rfl, rfl, rfl⟩ := H
       have hnb32 := NB136_120.out
       have hnc32 := NB120_136.out
       have hnb33 := NB136_128.out
       have hnc33 := NB128_136.out
       have hcz34_0 : wc.cell? ⟨gb136, 0, none⟩ = some (.int .u64 t129) := (bC BK136.out 0).trans rfl
       have hcz34_1 : wc.cell? ⟨gb136, 1, none⟩ = some (.int .i64 t130) := (bC BK136.out 1).trans rfl
       have hcz34_2 : wc.cell? ⟨gb136, 2, none⟩ = some (.int .i64 t131) := (bC BK136.out 2).trans rfl
       have hcz34_3 : wc.cell? ⟨gb136, 3, none⟩ = some (.slice Ao17 t132.length co17) := (bC BK136.out 3).trans rfl
       have hfz34_0 := bF BK136.out 0
       have hfz34_1 := bF BK136.out 1
       have hfz34_2 := bF BK136.out 2
       have hfz34_3 := bF BK136.out 3
       have hnb35 := NB128_120.out
       have hnc35 := NB120_128.out
       have hcz36_0 : wc.cell? ⟨gb128, 0, none⟩ = some (.int .u64 t121) := (bC BK128.out 0).trans rfl
       have hcz36_1 : wc.cell? ⟨gb128, 1, none⟩ = some (.int .i64 t122) := (bC BK128.out 1).trans rfl
       have hcz36_2 : wc.cell? ⟨gb128, 2, none⟩ = some (.int .i64 t123) := (bC BK128.out 2).trans rfl
       have hcz36_3 : wc.cell? ⟨gb128, 3, none⟩ = some (.slice Ao11 t124.length co11) := (bC BK128.out 3).trans rfl
       have hfz36_0 := bF BK128.out 0
       have hfz36_1 := bF BK128.out 1
       have hfz36_2 := bF BK128.out 2
       have hfz36_3 := bF BK128.out 3
       have hcz37_0 : wc.cell? ⟨gb120, 0, none⟩ = some (.int .u64 0) := (bC BK120.out 0).trans rfl
       have hcz37_1 : wc.cell? ⟨gb120, 1, none⟩ = some (.int .i64 0) := (bC BK120.out 1).trans rfl
       have hcz37_2 : wc.cell? ⟨gb120, 2, none⟩ = some (.int .i64 0) := (bC BK120.out 2).trans rfl
       have hcz37_3 : wc.cell? ⟨gb120, 3, none⟩ = some (.slice none 0 0) := (bC BK120.out 3).trans rfl
       have hfz37_0 := bF BK120.out 0
       have hfz37_1 := bF BK120.out 1
       have hfz37_2 := bF BK120.out 2
       have hfz37_3 := bF BK120.out 3
       go_wp2
       refine bodyPost_ret (results_ctt rfl _ _ gb120 25 #[.int .u64 t121, .int .i64 t122, .int .i64 t123, .slice Ao11 t124.length co11] (0, 0) _ rfl (by refine bT ?_; refine bU (cs := #[.int .u64 t121, .int .i64 t122, .int .i64 t123, .slice none 0 0]) ?_ 3 _ rfl; refine bT ?_; refine bU (cs := #[.int .u64 t121, .int .i64 t122, .int .i64 0, .slice none 0 0]) ?_ 2 _ rfl; refine bT ?_; refine bU (cs := #[.int .u64 t121, .int .i64 0, .int .i64 0, .slice none 0 0]) ?_ 1 _ rfl; refine bT ?_; refine bU (cs := #[.int .u64 0, .int .i64 0, .int .i64 0, .slice none 0 0]) ?_ 0 _ rfl; exact bT BK120.out) Tryd.underlying25 rfl (by kernel_rfl)) rfl ?_
       exact ⟨_, by first | rfl | (simp [errW_none, errW_some] <;> rfl) | (simp [*, errW_none, errW_some] <;> rfl), by apply Kd.R_to; exact Kd.R_mono (Kd.R_far (p := ⟨gb120, 3, none⟩) (Kd.R_far (p := ⟨gb120, 2, none⟩) (Kd.R_far (p := ⟨gb120, 1, none⟩) (Kd.R_far (p := ⟨gb120, 0, none⟩) (Kd.R_types HO_129003.out BK120.out (by decide)) (fun _ hk => hk.2) (.int .u64 t121)) (fun _ hk => hk.2) (.int .i64 t122)) (fun _ hk => hk.2) (.int .i64 t123)) (fun _ hk => hk.2) (.slice Ao11 t124.length co11)) (fun _ hk => trivial), bA⟩
     ·rw [if_neg c24] at H
      have c24b0 : (t135 == 0) = false := beq_eq_false_iff_ne.mpr c24
      have c24b1 : (t135 != 0) = true := bne_iff_ne.mpr c24
      simp only [Option.some.injEq, Prod.mk.injEq] at H
      obtain ⟨rfl, rfl, rfl, rfl, rfl, rfl⟩ := H
      have hnb38 := NB128_120.out
      have hnc38 := NB120_128.out
      have hnb39 := NB128_136.out
      have hnc39 := NB136_128.out
      have hcz40_0 : wc.cell? ⟨gb128, 0, none⟩ = some (.int .u64 t121) := (bC BK128.out 0).trans rfl
      have hcz40_1 : wc.cell? ⟨gb128, 1, none⟩ = some (.int .i64 t122) := (bC BK128.out 1).trans rfl
      have hcz40_2 : wc.cell? ⟨gb128, 2, none⟩ = some (.int .i64 t123) := (bC BK128.out 2).trans rfl
      have hcz40_3 : wc.cell? ⟨gb128, 3, none⟩ = some (.slice Ao11 t124.length co11) := (bC BK128.out 3).trans rfl
      have hfz40_0 := bF BK128.out 0
      have hfz40_1 := bF BK128.out 1
      have hfz40_2 := bF BK128.out 2
      have hfz40_3 := bF BK128.out 3
      have hnb41 := NB120_136.out
      have hnc41 := NB136_120.out
      have hcz42_0 : wc.cell? ⟨gb120, 0, none⟩ = some (.int .u64 0) := (bC BK120.out 0).trans rfl
      have hcz42_1 : wc.cell? ⟨gb120, 1, none⟩ = some (.int .i64 0) := (bC BK120.out 1).trans rfl
      have hcz42_2 : wc.cell? ⟨gb120, 2, none⟩ = some (.int .i64 0) := (bC BK120.out 2).trans rfl
      have hcz42_3 : wc.cell? ⟨gb120, 3, none⟩ = some (.slice none 0 0) := (bC BK120.out 3).trans rfl
      have hfz42_0 := bF BK120.out 0
      have hfz42_1 := bF BK120.out 1
      have hfz42_2 := bF BK120.out 2
      have hfz42_3 := bF BK120.out 3
      go_wp2
      refine bodyPost_ret (results_ctt rfl _ _ gb120 25 #[.int .u64 t121, .int .i64 t122, .int .i64 t123, .slice Ao11 t124.length co11] (0, 0) _ rfl (by refine bT ?_; refine bU (cs := #[.int .u64 t121, .int .i64 t122, .int .i64 t123, .slice none 0 0]) ?_ 3 _ rfl; refine bT ?_; refine bU (cs := #[.int .u64 t121, .int .i64 t122, .int .i64 0, .slice none 0 0]) ?_ 2 _ rfl; refine bT ?_; refine bU (cs := #[.int .u64 t121, .int .i64 0, .int .i64 0, .slice none 0 0]) ?_ 1 _ rfl; refine bT ?_; refine bU (cs := #[.int .u64 0, .int .i64 0, .int .i64 0, .slice none 0 0]) ?_ 0 _ rfl; exact bT BK120.out) Tryd.underlying25 rfl (by kernel_rfl)) rfl ?_
      exact ⟨_, by first | rfl | (simp [errW_none, errW_some] <;> rfl) | (simp [*, errW_none, errW_some] <;> rfl), by apply Kd.R_to; exact Kd.R_mono (Kd.R_far (p := ⟨gb120, 3, none⟩) (Kd.R_far (p := ⟨gb120, 2, none⟩) (Kd.R_far (p := ⟨gb120, 1, none⟩) (Kd.R_far (p := ⟨gb120, 0, none⟩) (Kd.R_types HO_129003.out BK120.out (by decide)) (fun _ hk => hk.2) (.int .u64 t121)) (fun _ hk => hk.2) (.int .i64 t122)) (fun _ hk => hk.2) (.int .i64 t123)) (fun _ hk => hk.2) (.slice Ao11 t124.length co11)) (fun _ hk => trivial), bA⟩
    ·rw [if_neg c23] at H
     have c23b0 : (t127 == 0) = false := beq_eq_false_iff_ne.mpr c23
     have c23b1 : (t127 != 0) = true := bne_iff_ne.mpr c23
     simp only [Option.some.injEq, Prod.mk.injEq] at H
     obtain ⟨rfl, rfl, rfl, rfl, rfl, rfl⟩ := H
     have hnb43 := NB136_120.out
     have hnc43 := NB120_136.out
     have hnb44 := NB136_128.out
     have hnc44 := NB128_136.out
     have hcz45_0 : wc.cell? ⟨gb136, 0, none⟩ = some (.int .u64 t129) := (bC BK136.out 0).trans rfl
     have hcz45_1 : wc.cell? ⟨gb136, 1, none⟩ = some (.int .i64 t130) := (bC BK136.out 1).trans rfl
     have hcz45_2 : wc.cell? ⟨gb136, 2, none⟩ = some (.int .i64 t131) := (bC BK136.out 2).trans rfl
     have hcz45_3 : wc.cell? ⟨gb136, 3, none⟩ = some (.slice Ao17 t132.length co17) := (bC BK136.out 3).trans rfl
     have hfz45_0 := bF BK136.out 0
     have hfz45_1 := bF BK136.out 1
     have hfz45_2 := bF BK136.out 2
     have hfz45_3 := bF BK136.out 3
     have hnb46 := NB120_128.out
     have hnc46 := NB128_120.out
     have hcz47_0 : wc.cell? ⟨gb120, 0, none⟩ = some (.int .u64 0) := (bC BK120.out 0).trans rfl
     have hcz47_1 : wc.cell? ⟨gb120, 1, none⟩ = some (.int .i64 0) := (bC BK120.out 1).trans rfl
     have hcz47_2 : wc.cell? ⟨gb120, 2, none⟩ = some (.int .i64 0) := (bC BK120.out 2).trans rfl
     have hcz47_3 : wc.cell? ⟨gb120, 3, none⟩ = some (.slice none 0 0) := (bC BK120.out 3).trans rfl
     have hfz47_0 := bF BK120.out 0
     have hfz47_1 := bF BK120.out 1
     have hfz47_2 := bF BK120.out 2
     have hfz47_3 := bF BK120.out 3
     go_wp2
     refine bodyPost_ret (results_ctt rfl _ _ gb120 25 #[.int .u64 t129, .int .i64 t130, .int .i64 t131, .slice Ao17 t132.length co17] (0, 0) _ rfl (by refine bT ?_; refine bU (cs := #[.int .u64 t129, .int .i64 t130, .int .i64 t131, .slice none 0 0]) ?_ 3 _ rfl; refine bT ?_; refine bU (cs := #[.int .u64 t129, .int .i64 t130, .int .i64 0, .slice none 0 0]) ?_ 2 _ rfl; refine bT ?_; refine bU (cs := #[.int .u64 t129, .int .i64 0, .int .i64 0, .slice none 0 0]) ?_ 1 _ rfl; refine bT ?_; refine bU (cs := #[.int .u64 0, .int .i64 0, .int .i64 0, .slice none 0 0]) ?_ 0 _ rfl; exact bT BK120.out) Tryd.underlying25 rfl (by kernel_rfl)) rfl ?_
     exact ⟨_, by first | rfl | (simp [errW_none, errW_some] <;> rfl) | (simp [*, errW_none, errW_some] <;> rfl), by apply Kd.R_to; exact Kd.R_mono (Kd.R_far (p := ⟨gb120, 3, none⟩) (Kd.R_far (p := ⟨gb120, 2, none⟩) (Kd.R_far (p := ⟨gb120, 1, none⟩) (Kd.R_far (p := ⟨gb120, 0, none⟩) (Kd.R_types HO_137003.out BK120.out (by decide)) (fun _ hk => hk.2) (.int .u64 t129)) (fun _ hk => hk.2) (.int .i64 t130)) (fun _ hk => hk.2) (.int .i64 t131)) (fun _ hk => hk.2) (.slice Ao17 t132.length co17)) (fun _ hk => trivial), bA⟩
def r6_Choose.j0 : Nat → Int → Int → Bool → Int → Int → Int → List (S53) → Int → Int → Int → List (S53) → Option (Int × Int × Int × (List (S53)) × Int × Int)
 | 0, _, _, _, _, _, _, _, _, _, _, _ => none
 | k + 1, x8, x10, x26, x246000, x246001, x246002, x246003, x254000, x254001, x254002, x254003 => if x26 = true then (some (0, 0, 0, ([] : List (S53)), 0, 2)) else (if x8 = 0 then (if x10 = 0 then (if x254000 > x246000 then (some (x254000, x254001, x254002, x254003, 1, 0)) else (some (x246000, x246001, x246002, x246003, 0, 0))) else (some (x246000, x246001, x246002, x246003, 0, 0))) else (some (x254000, x254001, x254002, x254003, 1, 0)))
def r6_Choose.f (k : Nat) (a0 : ByteArray) (a1 : ByteArray) : Option (Int × Int × Int × (List (S53)) × Int × Int) := (r6_Take.f k a0).bind fun bt238 => ((r6_Take.f k a1).bind fun bt246 => (if bt238.2.2.2.2 = 0 then (r6_Choose.j0 k bt238.2.2.2.2 bt246.2.2.2.2 false bt238.1 bt238.2.1 bt238.2.2.1 bt238.2.2.2.1 bt246.1 bt246.2.1 bt246.2.2.1 bt246.2.2.2.1) else (r6_Choose.j0 k bt238.2.2.2.2 bt246.2.2.2.2 (bt246.2.2.2.2 != 0) bt238.1 bt238.2.1 bt238.2.2.1 bt238.2.2.2.1 bt246.1 bt246.2.1 bt246.2.2.1 bt246.2.2.2.1)))
theorem r6_Choose.mono_l : ∀ k, (∀ y0 y1 y2 y3 y4 y5 y6 y7 y8 y9 y10, LeO (r6_Choose.j0 k y0 y1 y2 y3 y4 y5 y6 y7 y8 y9 y10) (r6_Choose.j0 (k + 1) y0 y1 y2 y3 y4 y5 y6 y7 y8 y9 y10))
 | 0 => fun _ _ _ _ _ _ _ _ _ _ _ r h => by simp [r6_Choose.j0] at h
 | k + 1 => by
  have ih0 := r6_Choose.mono_l k
  ·intro y0 y1 y2 y3 y4 y5 y6 y7 y8 y9 y10
   unfold r6_Choose.j0
   repeat' first
   | (with_reducible exact ih0 _ _ _ _ _ _ _ _ _ _ _)
   | (with_reducible exact r6_Take.mono _ _)
   | (with_reducible exact LeO.refl _)
   | (with_reducible exact LeO.none _)
   | (with_reducible refine LeO.ite ?_ ?_)
   | (with_reducible refine LeO.bind ?_ (fun _ => ?_))
   | exact ih0 _ _ _ _ _ _ _ _ _ _ _
   | exact r6_Take.mono _ _
   | exact LeO.none _
   | refine LeO.ite ?_ ?_
   | refine LeO.bind ?_ (fun _ => ?_)
theorem r6_Choose.mono : ∀ a0 a1 k, LeO (r6_Choose.f k a0 a1) (r6_Choose.f (k + 1) a0 a1) := by
 intro a0 a1 k
 have ih0 := r6_Choose.mono_l k
 unfold r6_Choose.f
 repeat' first
   | (with_reducible exact ih0 _ _ _ _ _ _ _ _ _ _ _)
   | (with_reducible exact r6_Take.mono _ _)
   | (with_reducible exact LeO.refl _)
   | (with_reducible exact LeO.none _)
   | (with_reducible refine LeO.ite ?_ ?_)
   | (with_reducible refine LeO.bind ?_ (fun _ => ?_))
   | exact ih0 _ _ _ _ _ _ _ _ _ _ _
   | exact r6_Take.mono _ _
   | exact LeO.none _
   | refine LeO.ite ?_ ?_
   | refine LeO.bind ?_ (fun _ => ?_)
set_option maxHeartbeats 8000000 in
set_option maxRecDepth 100000 in
theorem r6_Choose.calls (k : Nat) (a0 : ByteArray) (a1 : ByteArray) (r1 : Int) (r2 : Int) (r3 : Int) (r4 : List (S53)) (r5 : Int) (r6 : Int) (w : World) (h : r6_Choose.f k a0 a1 = some (r1, r2, r3, r4, r5, r6)) :
  Calls Tryd.prog 19 #[.string a0, .string a1] w fun e w' => ∃ v3_ : Value, e = .returned (.tuple #[.agg #[.int .u64 r1, .int .i64 r2, .int .i64 r3, v3_], .int .i64 r5, .int .i64 r6]) ∧ Kd.R k53 53 w' w.heap.size (fun _ => True) v3_ r4 ∧ Below w.heap.size w w' := by
 have hu31 := Tryd.underlying31
 have HB := Ax.mk (Below.refl w.heap.size w)
 have H : ((r6_Take.f k a0).bind fun bt238 => ((r6_Take.f k a1).bind fun bt246 => (if bt238.2.2.2.2 = 0 then (r6_Choose.j0 k bt238.2.2.2.2 bt246.2.2.2.2 false bt238.1 bt238.2.1 bt238.2.2.1 bt238.2.2.2.1 bt246.1 bt246.2.1 bt246.2.2.1 bt246.2.2.2.1) else (r6_Choose.j0 k bt238.2.2.2.2 bt246.2.2.2.2 (bt246.2.2.2.2 != 0) bt238.1 bt238.2.1 bt238.2.2.1 bt238.2.2.2.1 bt246.1 bt246.2.1 bt246.2.2.1 bt246.2.2.2.1)))) = some (r1, r2, r3, r4, r5, r6) := h
 clear h
 replace H := Option.bind_eq_some_iff.mp H
 obtain ⟨⟨t238, t239, t240, t241, t244⟩, A30, H⟩ := H
 replace H : ((r6_Take.f k a1).bind fun bt246 => (if t244 = 0 then (r6_Choose.j0 k t244 bt246.2.2.2.2 false t238 t239 t240 t241 bt246.1 bt246.2.1 bt246.2.2.1 bt246.2.2.2.1) else (r6_Choose.j0 k t244 bt246.2.2.2.2 (bt246.2.2.2.2 != 0) t238 t239 t240 t241 bt246.1 bt246.2.1 bt246.2.2.1 bt246.2.2.2.1))) = some (r1, r2, r3, r4, r5, r6) := H
 have A3 := Ax.mk A30
 clear A30
 replace H := Option.bind_eq_some_iff.mp H
 obtain ⟨⟨t246, t247, t248, t249, t252⟩, A40, H⟩ := H
 replace H : (if t244 = 0 then (r6_Choose.j0 k t244 t252 false t238 t239 t240 t241 t246 t247 t248 t249) else (r6_Choose.j0 k t244 t252 (t252 != 0) t238 t239 t240 t241 t246 t247 t248 t249)) = some (r1, r2, r3, r4, r5, r6) := H
 have A4 := Ax.mk A40
 clear A40
 have HC5 := Ax.mk H
 clear H
 go_enter Tryd.func19, Tryd.ntmps19
 go_upto_region 3 with (first | ((with_reducible refine gate_dst (N := 4) rfl ?_); refine box_event ?hg (N := 4) ?hd (cs := #[.int .u64 0, .int .i64 0, .int .i64 0, .slice none 0 0]) (t := 31) ?hr ?_; (case hd => rfl); (case hg => rfl); (case hr => first | (go_simp; done) | (go_simp; rfl)); intro gb237 hg w6 hbox hb; have n0_ := Ax.mk (bP bA hb); have n1_ := Ax.mk (hbox); have n2_ := Ax.mk ((ge_new hg : w.heap.size ≤ gb237)); have n3_ := n2_; clear HB; have HB := n0_; have BK237 := n1_; have GW237 := n2_; have GE237 := n3_; clear n0_ n1_ n2_ n3_; clear hb hbox hg) | ((with_reducible refine gate_callee (f := 17) rfl ?_); refine goesL_ (some 13) rfl rfl Tryd.func17 (by kernel_rfl) rfl #[.string a0] rfl (by (try simp only [List.map_toArray, List.map_cons, List.map_nil]); first | done | rfl | (simp only [List.length_drop, List.length_take]; rfl) | (rw [wrap_sum2 (by assumption)]; rfl)) ?_; (with_reducible refine (r6_Take.calls k a0 t238 t239 t240 t241 t244 _ A3.out).mono ?_); rintro e w7 ⟨v242, rfl, ho0, hb⟩; refine ⟨_, rfl, ?_⟩; have n0_ := Ax.mk (Kd.R_lower ho0 (bS bA)); have n1_ := Ax.mk (bB (bT BK237.out) hb); have n2_ := Ax.mk (bP bA hb); clear BK237; clear HB; have HO243 := n0_; have BK237 := n1_; have HB := n2_; clear n0_ n1_ n2_; (try clear hb); (try clear hb2); (try clear hk); (try clear hi); (try clear ho0)) | ((with_reducible refine gate_dst (N := 7) rfl ?_); refine box_event ?hg (N := 7) ?hd (cs := #[.int .u64 0, .int .i64 0, .int .i64 0, .slice none 0 0]) (t := 31) ?hr ?_; (case hd => rfl); (case hg => rfl); (case hr => first | (go_simp; done) | (go_simp; rfl)); intro gb245 hg w8 hbox hb; have n0_ := Ax.mk (Kd.R_below (by exact Kd.R_to HO243.out) hb); have n1_ := Ax.mk (bB (bT BK237.out) hb); have n2_ := Ax.mk (bP bA hb); have n3_ := Ax.mk (hbox); have n4_ := Ax.mk ((ge_new hg : w.heap.size ≤ gb245)); have n5_ := n4_; have n6_ := Ax.mk ((ne_lt hg BK237.out : gb237 ≠ gb245)); have n7_ := Ax.mk ((ne_gt hg BK237.out : gb245 ≠ gb237)); clear HO243; clear BK237; clear HB; have HO243 := n0_; have BK237 := n1_; have HB := n2_; have BK245 := n3_; have GW245 := n4_; have GE245 := n5_; have NB237_245 := n6_; have NB245_237 := n7_; clear n0_ n1_ n2_ n3_ n4_ n5_ n6_ n7_; clear hb hbox hg; have hnb9 := NB245_237.out; have hnc9 := NB237_245.out; have hcz10_0 : w8.cell? ⟨gb245, 0, none⟩ = some (.int .u64 0) := (bC BK245.out 0).trans rfl; have hcz10_1 : w8.cell? ⟨gb245, 1, none⟩ = some (.int .i64 0) := (bC BK245.out 1).trans rfl; have hcz10_2 : w8.cell? ⟨gb245, 2, none⟩ = some (.int .i64 0) := (bC BK245.out 2).trans rfl; have hcz10_3 : w8.cell? ⟨gb245, 3, none⟩ = some (.slice none 0 0) := (bC BK245.out 3).trans rfl; have hfz10_0 := bF BK245.out 0; have hfz10_1 := bF BK245.out 1; have hfz10_2 := bF BK245.out 2; have hfz10_3 := bF BK245.out 3; obtain ⟨Ao11, co11, eo11⟩ := Kd.R_slice HO243.out; subst eo11) | ((with_reducible refine gate_callee (f := 17) rfl ?_); refine goesL_ (some 18) rfl rfl Tryd.func17 (by kernel_rfl) rfl #[.string a1] rfl (by (try simp only [List.map_toArray, List.map_cons, List.map_nil]); first | done | rfl | (simp only [List.length_drop, List.length_take]; rfl) | (rw [wrap_sum2 (by assumption)]; rfl)) ?_; (with_reducible refine (r6_Take.calls k a1 t246 t247 t248 t249 t252 _ A4.out).mono ?_); rintro e w12 ⟨v250, rfl, ho0, hb⟩; refine ⟨_, rfl, ?_⟩; have n0_ := Ax.mk (Kd.R_elder' (by apply Kd.R_to; exact (Kd.R_mono (Kd.R_far (p := ⟨gb245, 3, none⟩) (Kd.R_far (p := ⟨gb245, 2, none⟩) (Kd.R_far (p := ⟨gb245, 1, none⟩) (Kd.R_far (p := ⟨gb245, 0, none⟩) (Kd.R_types HO243.out BK245.out (by decide)) (fun _ hk => hk.2) (.int .u64 t238)) (fun _ hk => hk.2) (.int .i64 t239)) (fun _ hk => hk.2) (.int .i64 t240)) (fun _ hk => hk.2) (.slice Ao11 t241.length co11)) (fun _ h_ => h_.1))) (Kd.R_base ho0) hb); have n1_ := Ax.mk (Kd.R_lower (Kd.R_new' ho0 (Kd.R_lt (by apply Kd.R_to; exact (Kd.R_mono (Kd.R_far (p := ⟨gb245, 3, none⟩) (Kd.R_far (p := ⟨gb245, 2, none⟩) (Kd.R_far (p := ⟨gb245, 1, none⟩) (Kd.R_far (p := ⟨gb245, 0, none⟩) (Kd.R_types HO243.out BK245.out (by decide)) (fun _ hk => hk.2) (.int .u64 t238)) (fun _ hk => hk.2) (.int .i64 t239)) (fun _ hk => hk.2) (.int .i64 t240)) (fun _ hk => hk.2) (.slice Ao11 t241.length co11)) (fun _ h_ => h_.1))))) (bS bA)); have n2_ := Ax.mk (bB (g := gb237) (o := .cells #[.int .u64 0, .int .i64 0, .int .i64 0, .slice none 0 0] 31 (0, 0)) (by refine bT ?_; refine bR ?_ NB237_245.out _; refine bT ?_; refine bR ?_ NB237_245.out _; refine bT ?_; refine bR ?_ NB237_245.out _; refine bT ?_; refine bR ?_ NB237_245.out _; exact bT BK237.out) hb); have n3_ := Ax.mk (bB (g := gb245) (o := .cells #[.int .u64 t238, .int .i64 t239, .int .i64 t240, .slice Ao11 t241.length co11] 31 (0, 0)) (by refine bT ?_; refine bU (cs := #[.int .u64 t238, .int .i64 t239, .int .i64 t240, .slice none 0 0]) ?_ 3 _ rfl; refine bT ?_; refine bU (cs := #[.int .u64 t238, .int .i64 t239, .int .i64 0, .slice none 0 0]) ?_ 2 _ rfl; refine bT ?_; refine bU (cs := #[.int .u64 t238, .int .i64 0, .int .i64 0, .slice none 0 0]) ?_ 1 _ rfl; refine bT ?_; refine bU (cs := #[.int .u64 0, .int .i64 0, .int .i64 0, .slice none 0 0]) ?_ 0 _ rfl; exact bT BK245.out) hb); have n4_ := Ax.mk (bP bA hb); clear HO243; clear BK237; clear BK245; clear HB; have HO243 := n0_; have HO251 := n1_; have BK237 := n2_; have BK245 := n3_; have HB := n4_; clear n0_ n1_ n2_ n3_ n4_; (try clear hb); (try clear hb2); (try clear hk); (try clear hi); (try clear ho0)) | ((with_reducible refine gate_dst (N := 9) rfl ?_); refine box_event ?hg (N := 9) ?hd (cs := #[.int .u64 0, .int .i64 0, .int .i64 0, .slice none 0 0]) (t := 31) ?hr ?_; (case hd => rfl); (case hg => rfl); (case hr => first | (go_simp; done) | (go_simp; rfl)); intro gb253 hg w13 hbox hb; have n0_ := Ax.mk (Kd.R_below (by exact Kd.R_to HO243.out) hb); have n1_ := Ax.mk (Kd.R_below (by exact Kd.R_to HO251.out) hb); have n2_ := Ax.mk (bB (bT BK237.out) hb); have n3_ := Ax.mk (bB (bT BK245.out) hb); have n4_ := Ax.mk (bP bA hb); have n5_ := Ax.mk (hbox); have n6_ := Ax.mk ((ge_new hg : w.heap.size ≤ gb253)); have n7_ := n6_; have n8_ := Ax.mk ((ne_lt hg BK237.out : gb237 ≠ gb253)); have n9_ := Ax.mk ((ne_gt hg BK237.out : gb253 ≠ gb237)); have n10_ := Ax.mk ((ne_lt hg BK245.out : gb245 ≠ gb253)); have n11_ := Ax.mk ((ne_gt hg BK245.out : gb253 ≠ gb245)); clear HO243; clear HO251; clear BK237; clear BK245; clear HB; have HO243 := n0_; have HO251 := n1_; have BK237 := n2_; have BK245 := n3_; have HB := n4_; have BK253 := n5_; have GW253 := n6_; have GE253 := n7_; have NB237_253 := n8_; have NB253_237 := n9_; have NB245_253 := n10_; have NB253_245 := n11_; clear n0_ n1_ n2_ n3_ n4_ n5_ n6_ n7_ n8_ n9_ n10_ n11_; clear hb hbox hg; have hnb14 := NB253_237.out; have hnc14 := NB237_253.out; have hnb15 := NB253_245.out; have hnc15 := NB245_253.out; have hcz16_0 : w13.cell? ⟨gb253, 0, none⟩ = some (.int .u64 0) := (bC BK253.out 0).trans rfl; have hcz16_1 : w13.cell? ⟨gb253, 1, none⟩ = some (.int .i64 0) := (bC BK253.out 1).trans rfl; have hcz16_2 : w13.cell? ⟨gb253, 2, none⟩ = some (.int .i64 0) := (bC BK253.out 2).trans rfl; have hcz16_3 : w13.cell? ⟨gb253, 3, none⟩ = some (.slice none 0 0) := (bC BK253.out 3).trans rfl; have hfz16_0 := bF BK253.out 0; have hfz16_1 := bF BK253.out 1; have hfz16_2 := bF BK253.out 2; have hfz16_3 := bF BK253.out 3; obtain ⟨Ao17, co17, eo17⟩ := Kd.R_slice HO251.out; subst eo17))
 (try simp only [Act.put, setIfInBounds_toArray, set_cons_zero, set_cons_succ])
 go_cut [26] (fun v26 wc => ∃ (kq : Nat) (x26_4 : Bool), v26 = .bool x26_4 ∧ Ax (r6_Choose.j0 kq t244 t252 x26_4 t238 t239 t240 t241 t246 t247 t248 t249 = some (r1, r2, r3, r4, r5, r6)) ∧ Ax (kq ≤ k) ∧ Ax (Kd.R k53 53 wc w.heap.size (fun k_ => some k_ ≠ ((.slice Ao17 t249.length co17) : Value).ownBlock) (.slice Ao11 t241.length co11) t241) ∧ Ax (Kd.R k53 53 wc w.heap.size (fun k_ => some k_ ≠ ((.slice Ao11 t241.length co11) : Value).ownBlock) (.slice Ao17 t249.length co17) t249) ∧ Ax (wc.heap[gb237]? = some (.cells #[.int .u64 0, .int .i64 0, .int .i64 0, (.slice none 0 0)] 31 (0, 0))) ∧ Ax (wc.heap[gb245]? = some (.cells #[.int .u64 t238, .int .i64 t239, .int .i64 t240, (.slice Ao11 t241.length co11)] 31 (0, 0))) ∧ Ax (wc.heap[gb253]? = some (.cells #[.int .u64 t246, .int .i64 t247, .int .i64 t248, (.slice Ao17 t249.length co17)] 31 (0, 0))) ∧ Ax (Below w.heap.size w wc))
 case first =>
  have H := HC5.out
  clear HC5
  by_cases c18 : t244 = 0
  ·rw [if_pos c18] at H
   have c18b0 : (t244 == 0) = true := beq_iff_eq.mpr c18
   have c18b1 : (t244 != 0) = false := bne_eq_false_iff_eq.mpr c18
   clear c18
   (first | rw [c18b0] | (simp only [i64_w, i32_w]; rw [c18b0]) | skip)
   have H' := Ax.mk H
   clear H
   go_wp2
   go_meet
   case rel => exact ⟨_, (false), (by first | rfl | (simp; done) | (simp [*]; done)), H', ⟨by first | omega | exact Nat.le_refl _⟩, ⟨by apply Kd.R_to; exact Kd.R_mono (Kd.R_far (p := ⟨gb253, 3, none⟩) (Kd.R_far (p := ⟨gb253, 2, none⟩) (Kd.R_far (p := ⟨gb253, 1, none⟩) (Kd.R_far (p := ⟨gb253, 0, none⟩) (Kd.R_types HO243.out BK253.out (by decide)) (fun _ hk => hk.2) (.int .u64 t246)) (fun _ hk => hk.2) (.int .i64 t247)) (fun _ hk => hk.2) (.int .i64 t248)) (fun _ hk => hk.2) (.slice Ao17 t249.length co17)) (fun _ hk => hk.1.2)⟩, ⟨by apply Kd.R_to; exact Kd.R_mono (Kd.R_far (p := ⟨gb253, 3, none⟩) (Kd.R_far (p := ⟨gb253, 2, none⟩) (Kd.R_far (p := ⟨gb253, 1, none⟩) (Kd.R_far (p := ⟨gb253, 0, none⟩) (Kd.R_types HO251.out BK253.out (by decide)) (fun _ hk => hk.2) (.int .u64 t246)) (fun _ hk => hk.2) (.int .i64 t247)) (fun _ hk => hk.2) (.int .i64 t248)) (fun _ hk => hk.2) (.slice Ao17 t249.length co17)) (fun _ hk => hk.1.2)⟩, ⟨by refine bT ?_; refine bR ?_ NB237_253.out _; refine bT ?_; refine bR ?_ NB237_253.out _; refine bT ?_; refine bR ?_ NB237_253.out _; refine bT ?_; refine bR ?_ NB237_253.out _; refine bT ?_; exact BK237.out⟩, ⟨by refine bT ?_; refine bR ?_ NB245_253.out _; refine bT ?_; refine bR ?_ NB245_253.out _; refine bT ?_; refine bR ?_ NB245_253.out _; refine bT ?_; refine bR ?_ NB245_253.out _; refine bT ?_; exact BK245.out⟩, ⟨by refine bT ?_; refine bU (cs := #[.int .u64 t246, .int .i64 t247, .int .i64 t248, .slice none 0 0]) ?_ 3 _ rfl; refine bT ?_; refine bU (cs := #[.int .u64 t246, .int .i64 t247, .int .i64 0, .slice none 0 0]) ?_ 2 _ rfl; refine bT ?_; refine bU (cs := #[.int .u64 t246, .int .i64 0, .int .i64 0, .slice none 0 0]) ?_ 1 _ rfl; refine bT ?_; refine bU (cs := #[.int .u64 0, .int .i64 0, .int .i64 0, .slice none 0 0]) ?_ 0 _ rfl; refine bT ?_; exact BK253.out⟩, ⟨bA⟩⟩
  ·rw [if_neg c18] at H
   have c18b0 : (t244 == 0) = false := beq_eq_false_iff_ne.mpr c18
   have c18b1 : (t244 != 0) = true := bne_iff_ne.mpr c18
   (first | rw [c18b0] | (simp only [i64_w, i32_w]; rw [c18b0]) | skip)
   have H' := Ax.mk H
   clear H
   go_wp2
   go_meet
   case rel => exact ⟨_, ((t252 != 0)), (by first | rfl | (simp; done) | (simp [*]; done)), H', ⟨by first | omega | exact Nat.le_refl _⟩, ⟨by apply Kd.R_to; exact Kd.R_mono (Kd.R_far (p := ⟨gb253, 3, none⟩) (Kd.R_far (p := ⟨gb253, 2, none⟩) (Kd.R_far (p := ⟨gb253, 1, none⟩) (Kd.R_far (p := ⟨gb253, 0, none⟩) (Kd.R_types HO243.out BK253.out (by decide)) (fun _ hk => hk.2) (.int .u64 t246)) (fun _ hk => hk.2) (.int .i64 t247)) (fun _ hk => hk.2) (.int .i64 t248)) (fun _ hk => hk.2) (.slice Ao17 t249.length co17)) (fun _ hk => hk.1.2)⟩, ⟨by apply Kd.R_to; exact Kd.R_mono (Kd.R_far (p := ⟨gb253, 3, none⟩) (Kd.R_far (p := ⟨gb253, 2, none⟩) (Kd.R_far (p := ⟨gb253, 1, none⟩) (Kd.R_far (p := ⟨gb253, 0, none⟩) (Kd.R_types HO251.out BK253.out (by decide)) (fun _ hk => hk.2) (.int .u64 t246)) (fun _ hk => hk.2) (.int .i64 t247)) (fun _ hk => hk.2) (.int .i64 t248)) (fun _ hk => hk.2) (.slice Ao17 t249.length co17)) (fun _ hk => hk.1.2)⟩, ⟨by refine bT ?_; refine bR ?_ NB237_253.out _; refine bT ?_; refine bR ?_ NB237_253.out _; refine bT ?_; refine bR ?_ NB237_253.out _; refine bT ?_; refine bR ?_ NB237_253.out _; refine bT ?_; exact BK237.out⟩, ⟨by refine bT ?_; refine bR ?_ NB245_253.out _; refine bT ?_; refine bR ?_ NB245_253.out _; refine bT ?_; refine bR ?_ NB245_253.out _; refine bT ?_; refine bR ?_ NB245_253.out _; refine bT ?_; exact BK245.out⟩, ⟨by refine bT ?_; refine bU (cs := #[.int .u64 t246, .int .i64 t247, .int .i64 t248, .slice none 0 0]) ?_ 3 _ rfl; refine bT ?_; refine bU (cs := #[.int .u64 t246, .int .i64 t247, .int .i64 0, .slice none 0 0]) ?_ 2 _ rfl; refine bT ?_; refine bU (cs := #[.int .u64 t246, .int .i64 0, .int .i64 0, .slice none 0 0]) ?_ 1 _ rfl; refine bT ?_; refine bU (cs := #[.int .u64 0, .int .i64 0, .int .i64 0, .slice none 0 0]) ?_ 0 _ rfl; refine bT ?_; exact BK253.out⟩, ⟨bA⟩⟩
 case rest =>
  clear HC5
  try clear c1
  try clear p2
  try clear c9
  try clear c14
  try clear c15
  try clear c17
  try clear c18
  try clear c18b0
  try clear c18b1
  try clear hcz10_0
  try clear hcz10_1
  try clear hcz10_2
  try clear hcz10_3
  try clear hcz16_0
  try clear hcz16_1
  try clear hcz16_2
  try clear hcz16_3
  try clear hfz10_0
  try clear hfz10_1
  try clear hfz10_2
  try clear hfz10_3
  try clear hfz16_0
  try clear hfz16_1
  try clear hfz16_2
  try clear hfz16_3
  obtain ⟨kq, x26_4, rfl, HA, HJ4, HO_246003, HO_254003, BK237, BK245, BK253, HB⟩ := hcut
  cases kq with
  | zero => exact absurd HA.out (by simp [r6_Choose.j0])
  | succ kj4 =>
   have H := HA.out
   clear HA
   simp only [r6_Choose.j0] at H
   by_cases c19 : x26_4 = true
   ·subst c19
    have H1 : (some (0, 0, 0, ([] : List (S53)), 0, 2)) = some (r1, r2, r3, r4, r5, r6) := by rw [if_pos rfl] at H; exact H
    clear H
    have H := H1
    clear H1
    simp only [Option.some.injEq, Prod.mk.injEq] at H
    obtain ⟨rfl, rfl, rfl, rfl, rfl, rfl⟩ := H
    have hnb20 := NB237_245.out
    have hnc20 := NB245_237.out
    have hnb21 := NB237_253.out
    have hnc21 := NB253_237.out
    have hcz22_0 : wc.cell? ⟨gb237, 0, none⟩ = some (.int .u64 0) := (bC BK237.out 0).trans rfl
    have hcz22_1 : wc.cell? ⟨gb237, 1, none⟩ = some (.int .i64 0) := (bC BK237.out 1).trans rfl
    have hcz22_2 : wc.cell? ⟨gb237, 2, none⟩ = some (.int .i64 0) := (bC BK237.out 2).trans rfl
    have hcz22_3 : wc.cell? ⟨gb237, 3, none⟩ = some (.slice none 0 0) := (bC BK237.out 3).trans rfl
    have hfz22_0 := bF BK237.out 0
    have hfz22_1 := bF BK237.out 1
    have hfz22_2 := bF BK237.out 2
    have hfz22_3 := bF BK237.out 3
    go_wp2
    refine bodyPost_ret (results_ctt rfl _ _ gb237 31 #[.int .u64 0, .int .i64 0, .int .i64 0, .slice none 0 0] (0, 0) _ rfl (by refine bT ?_; refine bU (cs := #[.int .u64 0, .int .i64 0, .int .i64 0, .slice none 0 0]) ?_ 3 _ rfl; refine bT ?_; refine bU (cs := #[.int .u64 0, .int .i64 0, .int .i64 0, .slice none 0 0]) ?_ 2 _ rfl; refine bT ?_; refine bU (cs := #[.int .u64 0, .int .i64 0, .int .i64 0, .slice none 0 0]) ?_ 1 _ rfl; refine bT ?_; refine bU (cs := #[.int .u64 0, .int .i64 0, .int .i64 0, .slice none 0 0]) ?_ 0 _ rfl; exact bT BK237.out) Tryd.underlying31 rfl (by kernel_rfl)) rfl ?_
    exact ⟨_, by first | rfl | (simp [errW_none, errW_some] <;> rfl) | (simp [*, errW_none, errW_some] <;> rfl), by first | exact Kd.R_nil _ _ _ _ _ | exact Kd.N_nil _ _ _ _ _ | exact Kd.V_nil _ _ _ _ _ | exact Kd.Q_nil _ _ _ _ _ | exact Kd.S_nil _ _ _ _ _, bA⟩
   ·replace c19 := Bool.eq_false_iff.mpr c19
    subst c19
    have H1 : (if t244 = 0 then (if t252 = 0 then (if t246 > t238 then (some (t246, t247, t248, t249, 1, 0)) else (some (t238, t239, t240, t241, 0, 0))) else (some (t238, t239, t240, t241, 0, 0))) else (some (t246, t247, t248, t249, 1, 0))) = some (r1, r2, r3, r4, r5, r6) := by rw [if_neg (show ¬ (false = true) by decide)] at H; exact H
    clear H
    have H := H1
    clear H1
    by_cases c23 : t244 = 0
    ·rw [if_pos c23] at H
     have c23b0 : (t244 == 0) = true := beq_iff_eq.mpr c23
     have c23b1 : (t244 != 0) = false := bne_eq_false_iff_eq.mpr c23
     clear c23
     by_cases c24 : t252 = 0
     ·rw [if_pos c24] at H
      have c24b0 : (t252 == 0) = true := beq_iff_eq.mpr c24
      have c24b1 : (t252 != 0) = false := bne_eq_false_iff_eq.mpr c24
      clear c24
      by_cases c25 : t246 > t238
      ·rw [if_pos c25] at H
       have c25b0 : decide (t238 < t246) = true := decide_eq_true c25
       clear c25
       simp only [Option.some.injEq, Prod.mk.injEq] at H
       obtain ⟨rfl, rfl, rfl, rfl, rfl, rfl⟩ := H
       have hnb26 := NB253_237.out
       have hnc26 := NB237_253.out
       have hnb27 := NB253_245.out
       have hnc27 := NB245_253.out
       have hcz28_0 : wc.cell? ⟨gb253, 0, none⟩ = some (.int .u64 t246) := (bC BK253.out 0).trans rfl
       have hcz28_1 : wc.cell? ⟨gb253, 1, none⟩ = some (.int .i64 t247) := (bC BK253.out 1).trans rfl
       have hcz28_2 : wc.cell? ⟨gb253, 2, none⟩ = some (.int .i64 t248) := (bC BK253.out 2).trans rfl
       have hcz28_3 : wc.cell? ⟨gb253, 3, none⟩ = some (.slice Ao17 t249.length co17) := (bC BK253.out 3).trans rfl
       have hfz28_0 := bF BK253.out 0
       have hfz28_1 := bF BK253.out 1
       have hfz28_2 := bF BK253.out 2
       have hfz28_3 := bF BK253.out 3
       have hnb29 := NB245_237.out
       have hnc29 := NB237_245.out
       have hcz30_0 : wc.cell? ⟨gb245, 0, none⟩ = some (.int .u64 t238) := (bC BK245.out 0).trans rfl
       have hcz30_1 : wc.cell? ⟨gb245, 1, none⟩ = some (.int .i64 t239) := (bC BK245.out 1).trans rfl
       have hcz30_2 : wc.cell? ⟨gb245, 2, none⟩ = some (.int .i64 t240) := (bC BK245.out 2).trans rfl
       have hcz30_3 : wc.cell? ⟨gb245, 3, none⟩ = some (.slice Ao11 t241.length co11) := (bC BK245.out 3).trans rfl
       have hfz30_0 := bF BK245.out 0
       have hfz30_1 := bF BK245.out 1
       have hfz30_2 := bF BK245.out 2
       have hfz30_3 := bF BK245.out 3
       have hcz31_0 : wc.cell? ⟨gb237, 0, none⟩ = some (.int .u64 0) := (bC BK237.out 0).trans rfl
       have hcz31_1 : wc.cell? ⟨gb237, 1, none⟩ = some (.int .i64 0) := (bC BK237.out 1).trans rfl
       have hcz31_2 : wc.cell? ⟨gb237, 2, none⟩ = some (.int .i64 0) := (bC BK237.out 2).trans rfl
       have hcz31_3 : wc.cell? ⟨gb237, 3, none⟩ = some (.slice none 0 0) := (bC BK237.out 3).trans rfl
       have hfz31_0 := bF BK237.out 0
       have hfz31_1 := bF BK237.out 1
       have hfz31_2 := bF BK237.out 2
       have hfz31_3 := bF BK237.out 3
       go_wp2
       refine bodyPost_ret (results_ctt rfl _ _ gb237 31 #[.int .u64 t246, .int .i64 t247, .int .i64 t248, .slice Ao17 t249.length co17] (0, 0) _ rfl (by refine bT ?_; refine bU (cs := #[.int .u64 t246, .int .i64 t247, .int .i64 t248, .slice none 0 0]) ?_ 3 _ rfl; refine bT ?_; refine bU (cs := #[.int .u64 t246, .int .i64 t247, .int .i64 0, .slice none 0 0]) ?_ 2 _ rfl; refine bT ?_; refine bU (cs := #[.int .u64 t246, .int .i64 0, .int .i64 0, .slice none 0 0]) ?_ 1 _ rfl; refine bT ?_; refine bU (cs := #[.int .u64 0, .int .i64 0, .int .i64 0, .slice none 0 0]) ?_ 0 _ rfl; exact bT BK237.out) Tryd.underlying31 rfl (by kernel_rfl)) rfl ?_
       exact ⟨_, by first | rfl | (simp [errW_none, errW_some] <;> rfl) | (simp [*, errW_none, errW_some] <;> rfl), by apply Kd.R_to; exact Kd.R_mono (Kd.R_far (p := ⟨gb237, 3, none⟩) (Kd.R_far (p := ⟨gb237, 2, none⟩) (Kd.R_far (p := ⟨gb237, 1, none⟩) (Kd.R_far (p := ⟨gb237, 0, none⟩) (Kd.R_types HO_254003.out BK237.out (by decide)) (fun _ hk => hk.2) (.int .u64 t246)) (fun _ hk => hk.2) (.int .i64 t247)) (fun _ hk => hk.2) (.int .i64 t248)) (fun _ hk => hk.2) (.slice Ao17 t249.length co17)) (fun _ hk => trivial), bA⟩
      ·rw [if_neg c25] at H
       have c25b0 : decide (t238 < t246) = false := decide_eq_false c25
       clear c25
       simp only [Option.some.injEq, Prod.mk.injEq] at H
       obtain ⟨rfl, rfl, rfl, rfl, rfl, rfl⟩ := H
       have hnb32 := NB253_237.out
       have hnc32 := NB237_253.out
       have hnb33 := NB253_245.out
       have hnc33 := NB245_253.out
       have hcz34_0 : wc.cell? ⟨gb253, 0, none⟩ = some (.int .u64 t246) := (bC BK253.out 0).trans rfl
       have hcz34_1 : wc.cell? ⟨gb253, 1, none⟩ = some (.int .i64 t247) := (bC BK253.out 1).trans rfl
       have hcz34_2 : wc.cell? ⟨gb253, 2, none⟩ = some (.int .i64 t248) := (bC BK253.out 2).trans rfl
       have hcz34_3 : wc.cell? ⟨gb253, 3, none⟩ = some (.slice Ao17 t249.length co17) := (bC BK253.out 3).trans rfl
       have hfz34_0 := bF BK253.out 0
       have hfz34_1 := bF BK253.out 1
       have hfz34_2 := bF BK253.out 2
       have hfz34_3 := bF BK253.out 3
       have hnb35 := NB245_237.out
       have hnc35 := NB237_245.out
       have hcz36_0 : wc.cell? ⟨gb245, 0, none⟩ = some (.int .u64 t238) := (bC BK245.out 0).trans rfl
       have hcz36_1 : wc.cell? ⟨gb245, 1, none⟩ = some (.int .i64 t239) := (bC BK245.out 1).trans rfl
       have hcz36_2 : wc.cell? ⟨gb245, 2, none⟩ = some (.int .i64 t240) := (bC BK245.out 2).trans rfl
       have hcz36_3 : wc.cell? ⟨gb245, 3, none⟩ = some (.slice Ao11 t241.length co11) := (bC BK245.out 3).trans rfl
       have hfz36_0 := bF BK245.out 0
       have hfz36_1 := bF BK245.out 1
       have hfz36_2 := bF BK245.out 2
       have hfz36_3 := bF BK245.out 3
       have hcz37_0 : wc.cell? ⟨gb237, 0, none⟩ = some (.int .u64 0) := (bC BK237.out 0).trans rfl
       have hcz37_1 : wc.cell? ⟨gb237, 1, none⟩ = some (.int .i64 0) := (bC BK237.out 1).trans rfl
       have hcz37_2 : wc.cell? ⟨gb237, 2, none⟩ = some (.int .i64 0) := (bC BK237.out 2).trans rfl
       have hcz37_3 : wc.cell? ⟨gb237, 3, none⟩ = some (.slice none 0 0) := (bC BK237.out 3).trans rfl
       have hfz37_0 := bF BK237.out 0
       have hfz37_1 := bF BK237.out 1
       have hfz37_2 := bF BK237.out 2
       have hfz37_3 := bF BK237.out 3
       go_wp2
       refine bodyPost_ret (results_ctt rfl _ _ gb237 31 #[.int .u64 t238, .int .i64 t239, .int .i64 t240, .slice Ao11 t241.length co11] (0, 0) _ rfl (by refine bT ?_; refine bU (cs := #[.int .u64 t238, .int .i64 t239, .int .i64 t240, .slice none 0 0]) ?_ 3 _ rfl; refine bT ?_; refine bU (cs := #[.int .u64 t238, .int .i64 t239, .int .i64 0, .slice none 0 0]) ?_ 2 _ rfl; refine bT ?_; refine bU (cs := #[.int .u64 t238, .int .i64 0, .int .i64 0, .slice none 0 0]) ?_ 1 _ rfl; refine bT ?_; refine bU (cs := #[.int .u64 0, .int .i64 0, .int .i64 0, .slice none 0 0]) ?_ 0 _ rfl; exact bT BK237.out) Tryd.underlying31 rfl (by kernel_rfl)) rfl ?_
       exact ⟨_, by first | rfl | (simp [errW_none, errW_some] <;> rfl) | (simp [*, errW_none, errW_some] <;> rfl), by apply Kd.R_to; exact Kd.R_mono (Kd.R_far (p := ⟨gb237, 3, none⟩) (Kd.R_far (p := ⟨gb237, 2, none⟩) (Kd.R_far (p := ⟨gb237, 1, none⟩) (Kd.R_far (p := ⟨gb237, 0, none⟩) (Kd.R_types HO_246003.out BK237.out (by decide)) (fun _ hk => hk.2) (.int .u64 t238)) (fun _ hk => hk.2) (.int .i64 t239)) (fun _ hk => hk.2) (.int .i64 t240)) (fun _ hk => hk.2) (.slice Ao11 t241.length co11)) (fun _ hk => trivial), bA⟩
     ·rw [if_neg c24] at H
      have c24b0 : (t252 == 0) = false := beq_eq_false_iff_ne.mpr c24
      have c24b1 : (t252 != 0) = true := bne_iff_ne.mpr c24
      simp only [Option.some.injEq, Prod.mk.injEq] at H
      obtain ⟨rfl, rfl, rfl, rfl, rfl, rfl⟩ := H
      have hnb38 := NB245_237.out
      have hnc38 := NB237_245.out
      have hnb39 := NB245_253.out
      have hnc39 := NB253_245.out
      have hcz40_0 : wc.cell? ⟨gb245, 0, none⟩ = some (.int .u64 t238) := (bC BK245.out 0).trans rfl
      have hcz40_1 : wc.cell? ⟨gb245, 1, none⟩ = some (.int .i64 t239) := (bC BK245.out 1).trans rfl
      have hcz40_2 : wc.cell? ⟨gb245, 2, none⟩ = some (.int .i64 t240) := (bC BK245.out 2).trans rfl
      have hcz40_3 : wc.cell? ⟨gb245, 3, none⟩ = some (.slice Ao11 t241.length co11) := (bC BK245.out 3).trans rfl
      have hfz40_0 := bF BK245.out 0
      have hfz40_1 := bF BK245.out 1
      have hfz40_2 := bF BK245.out 2
      have hfz40_3 := bF BK245.out 3
      have hnb41 := NB237_253.out
      have hnc41 := NB253_237.out
      have hcz42_0 : wc.cell? ⟨gb237, 0, none⟩ = some (.int .u64 0) := (bC BK237.out 0).trans rfl
      have hcz42_1 : wc.cell? ⟨gb237, 1, none⟩ = some (.int .i64 0) := (bC BK237.out 1).trans rfl
      have hcz42_2 : wc.cell? ⟨gb237, 2, none⟩ = some (.int .i64 0) := (bC BK237.out 2).trans rfl
      have hcz42_3 : wc.cell? ⟨gb237, 3, none⟩ = some (.slice none 0 0) := (bC BK237.out 3).trans rfl
      have hfz42_0 := bF BK237.out 0
      have hfz42_1 := bF BK237.out 1
      have hfz42_2 := bF BK237.out 2
      have hfz42_3 := bF BK237.out 3
      go_wp2
      refine bodyPost_ret (results_ctt rfl _ _ gb237 31 #[.int .u64 t238, .int .i64 t239, .int .i64 t240, .slice Ao11 t241.length co11] (0, 0) _ rfl (by refine bT ?_; refine bU (cs := #[.int .u64 t238, .int .i64 t239, .int .i64 t240, .slice none 0 0]) ?_ 3 _ rfl; refine bT ?_; refine bU (cs := #[.int .u64 t238, .int .i64 t239, .int .i64 0, .slice none 0 0]) ?_ 2 _ rfl; refine bT ?_; refine bU (cs := #[.int .u64 t238, .int .i64 0, .int .i64 0, .slice none 0 0]) ?_ 1 _ rfl; refine bT ?_; refine bU (cs := #[.int .u64 0, .int .i64 0, .int .i64 0, .slice none 0 0]) ?_ 0 _ rfl; exact bT BK237.out) Tryd.underlying31 rfl (by kernel_rfl)) rfl ?_
      exact ⟨_, by first | rfl | (simp [errW_none, errW_some] <;> rfl) | (simp [*, errW_none, errW_some] <;> rfl), by apply Kd.R_to; exact Kd.R_mono (Kd.R_far (p := ⟨gb237, 3, none⟩) (Kd.R_far (p := ⟨gb237, 2, none⟩) (Kd.R_far (p := ⟨gb237, 1, none⟩) (Kd.R_far (p := ⟨gb237, 0, none⟩) (Kd.R_types HO_246003.out BK237.out (by decide)) (fun _ hk => hk.2) (.int .u64 t238)) (fun _ hk => hk.2) (.int .i64 t239)) (fun _ hk => hk.2) (.int .i64 t240)) (fun _ hk => hk.2) (.slice Ao11 t241.length co11)) (fun _ hk => trivial), bA⟩
    ·rw [if_neg c23] at H
     have c23b0 : (t244 == 0) = false := beq_eq_false_iff_ne.mpr c23
     have c23b1 : (t244 != 0) = true := bne_iff_ne.mpr c23
     simp only [Option.some.injEq, Prod.mk.injEq] at H
     obtain ⟨rfl, rfl, rfl, rfl, rfl, rfl⟩ := H
     have hnb43 := NB253_237.out
     have hnc43 := NB237_253.out
     have hnb44 := NB253_245.out
     have hnc44 := NB245_253.out
     have hcz45_0 : wc.cell? ⟨gb253, 0, none⟩ = some (.int .u64 t246) := (bC BK253.out 0).trans rfl
     have hcz45_1 : wc.cell? ⟨gb253, 1, none⟩ = some (.int .i64 t247) := (bC BK253.out 1).trans rfl
     have hcz45_2 : wc.cell? ⟨gb253, 2, none⟩ = some (.int .i64 t248) := (bC BK253.out 2).trans rfl
     have hcz45_3 : wc.cell? ⟨gb253, 3, none⟩ = some (.slice Ao17 t249.length co17) := (bC BK253.out 3).trans rfl
     have hfz45_0 := bF BK253.out 0
     have hfz45_1 := bF BK253.out 1
     have hfz45_2 := bF BK253.out 2
     have hfz45_3 := bF BK253.out 3
     have hnb46 := NB237_245.out
     have hnc46 := NB245_237.out
     have hcz47_0 : wc.cell? ⟨gb237, 0, none⟩ = some (.int .u64 0) := (bC BK237.out 0).trans rfl
     have hcz47_1 : wc.cell? ⟨gb237, 1, none⟩ = some (.int .i64 0) := (bC BK237.out 1).trans rfl
     have hcz47_2 : wc.cell? ⟨gb237, 2, none⟩ = some (.int .i64 0) := (bC BK237.out 2).trans rfl
     have hcz47_3 : wc.cell? ⟨gb237, 3, none⟩ = some (.slice none 0 0) := (bC BK237.out 3).trans rfl
     have hfz47_0 := bF BK237.out 0
     have hfz47_1 := bF BK237.out 1
     have hfz47_2 := bF BK237.out 2
     have hfz47_3 := bF BK237.out 3
     go_wp2
     refine bodyPost_ret (results_ctt rfl _ _ gb237 31 #[.int .u64 t246, .int .i64 t247, .int .i64 t248, .slice Ao17 t249.length co17] (0, 0) _ rfl (by refine bT ?_; refine bU (cs := #[.int .u64 t246, .int .i64 t247, .int .i64 t248, .slice none 0 0]) ?_ 3 _ rfl; refine bT ?_; refine bU (cs := #[.int .u64 t246, .int .i64 t247, .int .i64 0, .slice none 0 0]) ?_ 2 _ rfl; refine bT ?_; refine bU (cs := #[.int .u64 t246, .int .i64 0, .int .i64 0, .slice none 0 0]) ?_ 1 _ rfl; refine bT ?_; refine bU (cs := #[.int .u64 0, .int .i64 0, .int .i64 0, .slice none 0 0]) ?_ 0 _ rfl; exact bT BK237.out) Tryd.underlying31 rfl (by kernel_rfl)) rfl ?_
     exact ⟨_, by first | rfl | (simp [errW_none, errW_some] <;> rfl) | (simp [*, errW_none, errW_some] <;> rfl), by apply Kd.R_to; exact Kd.R_mono (Kd.R_far (p := ⟨gb237, 3, none⟩) (Kd.R_far (p := ⟨gb237, 2, none⟩) (Kd.R_far (p := ⟨gb237, 1, none⟩) (Kd.R_far (p := ⟨gb237, 0, none⟩) (Kd.R_types HO_254003.out BK237.out (by decide)) (fun _ hk => hk.2) (.int .u64 t246)) (fun _ hk => hk.2) (.int .i64 t247)) (fun _ hk => hk.2) (.int .i64 t248)) (fun _ hk => hk.2) (.slice Ao17 t249.length co17)) (fun _ hk => trivial), bA⟩
end Go.Proofs.YtcgejogmiglalaaDoor.Fn
end
section
namespace Go.Proofs.YtcgejogmiglalaaDoor.Fn
open Go.RowKit Go.Proofs.YtcgejogmiglalaaDoorW.PrintWords Go.Proofs.YtcgejogmiglalaaDoorW.PrintLast Go.Proofs.YtcgejogmiglalaaDoorW.PrintMore Go.Proofs.YtcgejogmiglalaaDoor.Lf
attribute [local go_sem] max2_int min2_int max_two min_two max_three min_three max_four min_four   -- for this text's walks alone
set_option linter.unusedVariables false
set_option linter.unusedSimpArgs false
attribute [local go_sem high] eqA53
def l6_sameSpans.l0 : Nat → List (S53) → List (S53) → Int → Option (Bool)
 | 0, _, _, _ => none
 | k + 1, x0, x1, x5 => if x5 < (x0.length : Int) then (if 0 ≤ x5 then (if x5 < (x1.length : Int) then (if (!(((rd_T53 x0 x5).f0) == ((rd_T53 x1 x5).f0)) || (!(((rd_T53 x0 x5).f1) == ((rd_T53 x1 x5).f1)))) = true then (some false) else (l6_sameSpans.l0 k x0 x1 (wrap64 (x5 + 1)))) else (none)) else (none)) else (some true)
def l6_sameSpans.f (k : Nat) (l0 : List (S53)) (l1 : List (S53)) : Option (Bool) := if (l0.length : Int) = (l1.length : Int) then (l6_sameSpans.l0 k l0 l1 0) else (some false)
theorem l6_sameSpans.mono_l : ∀ k, (∀ y0 y1 y2, LeO (l6_sameSpans.l0 k y0 y1 y2) (l6_sameSpans.l0 (k + 1) y0 y1 y2))
 | 0 => fun _ _ _ r h => by simp [l6_sameSpans.l0] at h
 | k + 1 => by
  have ih0 := l6_sameSpans.mono_l k
  ·intro y0 y1 y2
   unfold l6_sameSpans.l0
   repeat' first
   | (with_reducible exact ih0 _ _ _)
   | (with_reducible exact LeO.refl _)
   | (with_reducible exact LeO.none _)
   | (with_reducible refine LeO.ite ?_ ?_)
   | (with_reducible refine LeO.bind ?_ (fun _ => ?_))
   | exact ih0 _ _ _
   | exact LeO.none _
   | refine LeO.ite ?_ ?_
   | refine LeO.bind ?_ (fun _ => ?_)
theorem l6_sameSpans.mono : ∀ a0 a1 k, LeO (l6_sameSpans.f k a0 a1) (l6_sameSpans.f (k + 1) a0 a1) := by
 intro a0 a1 k
 have ih0 := l6_sameSpans.mono_l k
 unfold l6_sameSpans.f
 repeat' first
   | (with_reducible exact ih0 _ _ _)
   | (with_reducible exact LeO.refl _)
   | (with_reducible exact LeO.none _)
   | (with_reducible refine LeO.ite ?_ ?_)
   | (with_reducible refine LeO.bind ?_ (fun _ => ?_))
   | exact ih0 _ _ _
   | exact LeO.none _
   | refine LeO.ite ?_ ?_
   | refine LeO.bind ?_ (fun _ => ?_)
set_option maxHeartbeats 8000000 in
set_option maxRecDepth 100000 in
theorem l6_sameSpans.calls (k : Nat) (A0 : Option Addr) (c0 : Nat) (l0 : List (S53)) (A1 : Option Addr) (c1 : Nat) (l1 : List (S53)) (r : Bool) (w : World) (hr0 : Kd.C k53 w A0 l0.length l0) (hc0 : l0.length ≤ c0) (hr1 : Kd.C k53 w A1 l1.length l1) (hc1 : l1.length ≤ c1) (h : l6_sameSpans.f k l0 l1 = some r) :
  Calls Tryd.prog 44 #[.slice A0 l0.length c0, .slice A1 l1.length c1] w fun e w' => e = .returned (.bool r) ∧ Drawn0 w w' := by
 have hu53 := Tryd.underlying53
 have HR0 := Ax.mk hr0
 have HC0 := Ax.mk hc0
 clear hr0 hc0
 have HR1 := Ax.mk hr1
 have HC1 := Ax.mk hc1
 clear hr1 hc1
 have H : (if (l0.length : Int) = (l1.length : Int) then (l6_sameSpans.l0 k l0 l1 0) else (some false)) = some r := h
 clear h
 by_cases c3 : (l0.length : Int) = (l1.length : Int)
 ·rw [if_pos c3] at H
  have c3b0 : ((l0.length : Int) == (l1.length : Int)) = true := beq_iff_eq.mpr c3
  have c3b1 : ((l0.length : Int) != (l1.length : Int)) = false := bne_eq_false_iff_eq.mpr c3
  have c3b2 : (l0.length == l1.length) = true := by first | simpa using c3 | (simp at c3 ⊢; omega)
  clear c3
  have H' := Ax.mk H
  clear H
  go_enter Tryd.func44, Tryd.ntmps44
  go_wp2
  repeat (go_quiet (fail); try go_wp2)
  go_loopg [5] k (fun kq v5 w' => ∃ (x5_1 : Int), v5 = .int .i64 x5_1 ∧ Ax (l6_sameSpans.l0 kq l0 l1 x5_1 = some r) ∧ Ax (kq ≤ k) ∧ Drawn0 w w')
  case atStart => exact ⟨(0), (by first | rfl | (simp; done) | (simp [*]; done)), H', ⟨Nat.le_refl _⟩, by repeat (first | exact Drawn0.refl _ | apply Drawn0.step)⟩
  case round =>
   clear H'
   try clear c1
   try clear p2
   try clear c3
   try clear c3b0
   try clear c3b1
   try clear c3b2
   obtain ⟨x5_1, rfl, HA, HK1, ⟨m1, rfl⟩⟩ := hrel
   cases gk with
   | zero => exact absurd HA.out (by simp [l6_sameSpans.l0])
   | succ k1 =>
    have H := HA.out
    clear HA
    simp only [l6_sameSpans.l0] at H
    by_cases c4 : x5_1 < (l0.length : Int)
    ·rw [if_pos c4] at H
     have c4b0 : decide (x5_1 < (l0.length : Int)) = true := decide_eq_true c4
     clear c4
     by_cases c5 : 0 ≤ x5_1
     ·rw [if_pos c5] at H
      have c5b0 : decide (0 ≤ x5_1) = true := decide_eq_true c5
      clear c5
      by_cases c6 : x5_1 < (l1.length : Int)
      ·rw [if_pos c6] at H
       have c6b0 : decide (x5_1 < (l1.length : Int)) = true := decide_eq_true c6
       clear c6
       by_cases c7 : (!(((rd_T53 l0 x5_1).f0) == ((rd_T53 l1 x5_1).f0)) || (!(((rd_T53 l0 x5_1).f1) == ((rd_T53 l1 x5_1).f1)))) = true
       ·rw [if_pos c7] at H
        have c7b0 : (!(((rd_T53 l0 x5_1).f0) == ((rd_T53 l1 x5_1).f0)) || (!(((rd_T53 l0 x5_1).f1) == ((rd_T53 l1 x5_1).f1)))) = true := c7
        clear c7
        obtain rfl := Option.some.inj H
        have p254 : 0 ≤ (x5_1 : Int) := of_decide_eq_true (by first | (with_reducible assumption) | assumption)
        have q254 : x5_1 < (l0.length : Int) := of_decide_eq_true (by first | (with_reducible assumption) | assumption)
        obtain ⟨ad254, e254, hx254_0, hx254_1⟩ := at_T53 HR0.out x5_1 p254 q254
        cases e254
        replace p254 := eq_true p254
        replace q254 := eq_true q254
        have p255 : 0 ≤ (x5_1 : Int) := of_decide_eq_true (by first | (with_reducible assumption) | assumption)
        have q255 : x5_1 < (l1.length : Int) := of_decide_eq_true (by first | (with_reducible assumption) | assumption)
        obtain ⟨ad255, e255, hx255_0, hx255_1⟩ := at_T53 HR1.out x5_1 p255 q255
        cases e255
        replace p255 := eq_true p255
        replace q255 := eq_true q255
        go_wp2
        repeat (go_quiet (fail); try go_wp2)
        go_ret
        exact ⟨by first | rfl | (simp; done) | (simp [*]; done), by repeat (first | exact Drawn0.refl _ | apply Drawn0.step)⟩
       ·rw [if_neg c7] at H
        have c7b0 : (!(((rd_T53 l0 x5_1).f0) == ((rd_T53 l1 x5_1).f0)) || (!(((rd_T53 l0 x5_1).f1) == ((rd_T53 l1 x5_1).f1)))) = false := by simpa using c7
        clear c7
        have H' := Ax.mk H
        clear H
        have p254 : 0 ≤ (x5_1 : Int) := of_decide_eq_true (by first | (with_reducible assumption) | assumption)
        have q254 : x5_1 < (l0.length : Int) := of_decide_eq_true (by first | (with_reducible assumption) | assumption)
        obtain ⟨ad254, e254, hx254_0, hx254_1⟩ := at_T53 HR0.out x5_1 p254 q254
        cases e254
        replace p254 := eq_true p254
        replace q254 := eq_true q254
        have p255 : 0 ≤ (x5_1 : Int) := of_decide_eq_true (by first | (with_reducible assumption) | assumption)
        have q255 : x5_1 < (l1.length : Int) := of_decide_eq_true (by first | (with_reducible assumption) | assumption)
        obtain ⟨ad255, e255, hx255_0, hx255_1⟩ := at_T53 HR1.out x5_1 p255 q255
        cases e255
        replace p255 := eq_true p255
        replace q255 := eq_true q255
        go_wp2
        repeat (go_quiet (fail); try go_wp2)
        go_roundg k1
        case measure => have := HK1.out; omega
        case rel => exact ⟨(wrap64 (x5_1 + 1)), (by first | rfl | (simp; done) | (simp [*]; done)), H', ⟨by have := HK1.out; omega⟩, by repeat (first | exact Drawn0.refl _ | apply Drawn0.step)⟩
      ·rw [if_neg c6] at H
       exact absurd H (by simp)
     ·rw [if_neg c5] at H
      exact absurd H (by simp)
    ·rw [if_neg c4] at H
     have c4b0 : decide (x5_1 < (l0.length : Int)) = false := decide_eq_false c4
     clear c4
     obtain rfl := Option.some.inj H
     go_wp2
     repeat (go_quiet (fail); try go_wp2)
     go_ret
     exact ⟨by first | rfl | (simp; done) | (simp [*]; done), by repeat (first | exact Drawn0.refl _ | apply Drawn0.step)⟩
 ·rw [if_neg c3] at H
  have c3b0 : ((l0.length : Int) == (l1.length : Int)) = false := beq_eq_false_iff_ne.mpr c3
  have c3b1 : ((l0.length : Int) != (l1.length : Int)) = true := bne_iff_ne.mpr c3
  have c3b2 : (l0.length == l1.length) = false := by first | simpa using c3 | (simp at c3 ⊢; omega)
  obtain rfl := Option.some.inj H
  go_enter Tryd.func44, Tryd.ntmps44
  go_wp2
  repeat (go_quiet (fail); try go_wp2)
  go_ret
  exact ⟨by first | rfl | (simp; done) | (simp [*]; done), by repeat (first | exact Drawn0.refl _ | apply Drawn0.step)⟩
def l6_same.f (k : Nat) (a0_0 : Int) (a0_1 : Int) (a0_2 : Int) (l0_3 : List (S53)) (a1_0 : Int) (a1_1 : Int) (a1_2 : Int) (l1_3 : List (S53)) : Option (Bool) := if a0_0 = a1_0 then (if a0_1 = a1_1 then (if a0_2 = a1_2 then ((l6_sameSpans.f k l0_3 l1_3).bind fun t258 => (some t258)) else (some false)) else (some false)) else (some false)
theorem l6_same.mono : ∀ a0 a1 a2 a3 a4 a5 a6 a7 k, LeO (l6_same.f k a0 a1 a2 a3 a4 a5 a6 a7) (l6_same.f (k + 1) a0 a1 a2 a3 a4 a5 a6 a7) := by
 intro a0 a1 a2 a3 a4 a5 a6 a7 k
 unfold l6_same.f
 repeat' first
   | (with_reducible exact l6_sameSpans.mono _ _ _)
   | (with_reducible exact LeO.refl _)
   | (with_reducible exact LeO.none _)
   | (with_reducible refine LeO.ite ?_ ?_)
   | (with_reducible refine LeO.bind ?_ (fun _ => ?_))
   | exact l6_sameSpans.mono _ _ _
   | exact LeO.none _
   | refine LeO.ite ?_ ?_
   | refine LeO.bind ?_ (fun _ => ?_)
set_option maxHeartbeats 8000000 in
set_option maxRecDepth 100000 in
theorem l6_same.calls (k : Nat) (a0_0 : Int) (a0_1 : Int) (a0_2 : Int) (A0_3 : Option Addr) (c0_3 : Nat) (l0_3 : List (S53)) (a1_0 : Int) (a1_1 : Int) (a1_2 : Int) (A1_3 : Option Addr) (c1_3 : Nat) (l1_3 : List (S53)) (r : Bool) (w : World) (hr0_3 : Kd.C k53 w A0_3 l0_3.length l0_3) (hc0_3 : l0_3.length ≤ c0_3) (hr1_3 : Kd.C k53 w A1_3 l1_3.length l1_3) (hc1_3 : l1_3.length ≤ c1_3) (h : l6_same.f k a0_0 a0_1 a0_2 l0_3 a1_0 a1_1 a1_2 l1_3 = some r) :
  Calls Tryd.prog 20 #[.agg #[.int .u64 a0_0, .int .i64 a0_1, .int .i64 a0_2, .slice A0_3 l0_3.length c0_3], .agg #[.int .u64 a1_0, .int .i64 a1_1, .int .i64 a1_2, .slice A1_3 l1_3.length c1_3]] w fun e w' => e = .returned (.bool r) ∧ Below w.heap.size w w' := by
 have hu25 := Tryd.underlying25
 have hu31 := Tryd.underlying31
 have HR0_3 := Ax.mk hr0_3
 have HC0_3 := Ax.mk hc0_3
 clear hr0_3 hc0_3
 have HR1_3 := Ax.mk hr1_3
 have HC1_3 := Ax.mk hc1_3
 clear hr1_3 hc1_3
 have HB := Ax.mk (Below.refl w.heap.size w)
 have H : (if a0_0 = a1_0 then (if a0_1 = a1_1 then (if a0_2 = a1_2 then ((l6_sameSpans.f k l0_3 l1_3).bind fun t258 => (some t258)) else (some false)) else (some false)) else (some false)) = some r := h
 clear h
 by_cases c3 : a0_0 = a1_0
 ·rw [if_pos c3] at H
  have c3b0 : (a0_0 == a1_0) = true := beq_iff_eq.mpr c3
  have c3b1 : (a0_0 != a1_0) = false := bne_eq_false_iff_eq.mpr c3
  clear c3
  by_cases c4 : a0_1 = a1_1
  ·rw [if_pos c4] at H
   have c4b0 : (a0_1 == a1_1) = true := beq_iff_eq.mpr c4
   have c4b1 : (a0_1 != a1_1) = false := bne_eq_false_iff_eq.mpr c4
   clear c4
   by_cases c5 : a0_2 = a1_2
   ·rw [if_pos c5] at H
    have c5b0 : (a0_2 == a1_2) = true := beq_iff_eq.mpr c5
    have c5b1 : (a0_2 != a1_2) = false := bne_eq_false_iff_eq.mpr c5
    clear c5
    replace H := Option.bind_eq_some_iff.mp H
    obtain ⟨t258, A60, H⟩ := H
    replace H : (some t258) = some r := H
    have A6 := Ax.mk A60
    clear A60
    obtain rfl := Option.some.inj H
    go_enter Tryd.func20, Tryd.ntmps20
    go_wp2_with (first | ((with_reducible refine gate_dst (N := 2) rfl ?_); refine box_event ?hg (N := 2) ?hd (cs := #[.int .u64 a0_0, .int .i64 a0_1, .int .i64 a0_2, .slice A0_3 l0_3.length c0_3]) (t := 25) ?hr ?_; (case hd => rfl); (case hg => rfl); (case hr => first | (go_simp; done) | (go_simp; rfl)); intro gb256 hg w7 hbox hb; have n0_ := Ax.mk (bP bA hb); have n1_ := Ax.mk (hbox); have n2_ := Ax.mk ((ge_new hg : w.heap.size ≤ gb256)); have n3_ := n2_; clear HB; have HB := n0_; have BK256 := n1_; have GW256 := n2_; have GE256 := n3_; clear n0_ n1_ n2_ n3_; clear hb hbox hg) | ((with_reducible refine gate_dst (N := 3) rfl ?_); refine box_event ?hg (N := 3) ?hd (cs := #[.int .u64 a1_0, .int .i64 a1_1, .int .i64 a1_2, .slice A1_3 l1_3.length c1_3]) (t := 31) ?hr ?_; (case hd => rfl); (case hg => rfl); (case hr => first | (go_simp; done) | (go_simp; rfl)); intro gb257 hg w8 hbox hb; have n0_ := Ax.mk (bB (bT BK256.out) hb); have n1_ := Ax.mk (bP bA hb); have n2_ := Ax.mk (hbox); have n3_ := Ax.mk ((ge_new hg : w.heap.size ≤ gb257)); have n4_ := n3_; have n5_ := Ax.mk ((ne_lt hg BK256.out : gb256 ≠ gb257)); have n6_ := Ax.mk ((ne_gt hg BK256.out : gb257 ≠ gb256)); clear BK256; clear HB; have BK256 := n0_; have HB := n1_; have BK257 := n2_; have GW257 := n3_; have GE257 := n4_; have NB256_257 := n5_; have NB257_256 := n6_; clear n0_ n1_ n2_ n3_ n4_ n5_ n6_; clear hb hbox hg; have hnb9 := NB256_257.out; have hnc9 := NB257_256.out; have hcz10_0 : w8.cell? ⟨gb256, 0, none⟩ = some (.int .u64 a0_0) := (bC BK256.out 0).trans rfl; have hcz10_1 : w8.cell? ⟨gb256, 1, none⟩ = some (.int .i64 a0_1) := (bC BK256.out 1).trans rfl; have hcz10_2 : w8.cell? ⟨gb256, 2, none⟩ = some (.int .i64 a0_2) := (bC BK256.out 2).trans rfl; have hcz10_3 : w8.cell? ⟨gb256, 3, none⟩ = some (.slice A0_3 l0_3.length c0_3) := (bC BK256.out 3).trans rfl; have hfz10_0 := bF BK256.out 0; have hfz10_1 := bF BK256.out 1; have hfz10_2 := bF BK256.out 2; have hfz10_3 := bF BK256.out 3; have hcz11_0 : w8.cell? ⟨gb257, 0, none⟩ = some (.int .u64 a1_0) := (bC BK257.out 0).trans rfl; have hcz11_1 : w8.cell? ⟨gb257, 1, none⟩ = some (.int .i64 a1_1) := (bC BK257.out 1).trans rfl; have hcz11_2 : w8.cell? ⟨gb257, 2, none⟩ = some (.int .i64 a1_2) := (bC BK257.out 2).trans rfl; have hcz11_3 : w8.cell? ⟨gb257, 3, none⟩ = some (.slice A1_3 l1_3.length c1_3) := (bC BK257.out 3).trans rfl; have hfz11_0 := bF BK257.out 0; have hfz11_1 := bF BK257.out 1; have hfz11_2 := bF BK257.out 2; have hfz11_3 := bF BK257.out 3) | (go_at_call 44; (with_reducible refine (l6_sameSpans.calls k _ _ l0_3 _ _ l1_3 t258 _ ?side1 ?side2 ?side3 ?side4 A6.out).mono ?_); (case side1 => repeat (first | exact (Kd.C_below HR0_3.out HB.out) | (with_reducible refine Kd.C_alloc ?_ _) | (with_reducible refine Kd.C_drewN ?_ _) | (with_reducible refine Kd.C_drew ?_))); (case side2 => exact HC0_3.out); (case side3 => repeat (first | exact (Kd.C_below HR1_3.out HB.out) | (with_reducible refine Kd.C_alloc ?_ _) | (with_reducible refine Kd.C_drewN ?_ _) | (with_reducible refine Kd.C_drew ?_))); (case side4 => exact HC1_3.out); rintro e w' ⟨rfl, ⟨nd, rfl⟩⟩))
    go_ret
    exact ⟨by first | rfl | (simp [errW_none, errW_some] <;> rfl) | (simp [*, errW_none, errW_some] <;> rfl), bA⟩
   ·rw [if_neg c5] at H
    have c5b0 : (a0_2 == a1_2) = false := beq_eq_false_iff_ne.mpr c5
    have c5b1 : (a0_2 != a1_2) = true := bne_iff_ne.mpr c5
    obtain rfl := Option.some.inj H
    go_enter Tryd.func20, Tryd.ntmps20
    go_wp2_with (first | ((with_reducible refine gate_dst (N := 2) rfl ?_); refine box_event ?hg (N := 2) ?hd (cs := #[.int .u64 a0_0, .int .i64 a0_1, .int .i64 a0_2, .slice A0_3 l0_3.length c0_3]) (t := 25) ?hr ?_; (case hd => rfl); (case hg => rfl); (case hr => first | (go_simp; done) | (go_simp; rfl)); intro gb256 hg w12 hbox hb; have n0_ := Ax.mk (bP bA hb); have n1_ := Ax.mk (hbox); have n2_ := Ax.mk ((ge_new hg : w.heap.size ≤ gb256)); have n3_ := n2_; clear HB; have HB := n0_; have BK256 := n1_; have GW256 := n2_; have GE256 := n3_; clear n0_ n1_ n2_ n3_; clear hb hbox hg) | ((with_reducible refine gate_dst (N := 3) rfl ?_); refine box_event ?hg (N := 3) ?hd (cs := #[.int .u64 a1_0, .int .i64 a1_1, .int .i64 a1_2, .slice A1_3 l1_3.length c1_3]) (t := 31) ?hr ?_; (case hd => rfl); (case hg => rfl); (case hr => first | (go_simp; done) | (go_simp; rfl)); intro gb257 hg w13 hbox hb; have n0_ := Ax.mk (bB (bT BK256.out) hb); have n1_ := Ax.mk (bP bA hb); have n2_ := Ax.mk (hbox); have n3_ := Ax.mk ((ge_new hg : w.heap.size ≤ gb257)); have n4_ := n3_; have n5_ := Ax.mk ((ne_lt hg BK256.out : gb256 ≠ gb257)); have n6_ := Ax.mk ((ne_gt hg BK256.out : gb257 ≠ gb256)); clear BK256; clear HB; have BK256 := n0_; have HB := n1_; have BK257 := n2_; have GW257 := n3_; have GE257 := n4_; have NB256_257 := n5_; have NB257_256 := n6_; clear n0_ n1_ n2_ n3_ n4_ n5_ n6_; clear hb hbox hg; have hnb14 := NB256_257.out; have hnc14 := NB257_256.out; have hcz15_0 : w13.cell? ⟨gb256, 0, none⟩ = some (.int .u64 a0_0) := (bC BK256.out 0).trans rfl; have hcz15_1 : w13.cell? ⟨gb256, 1, none⟩ = some (.int .i64 a0_1) := (bC BK256.out 1).trans rfl; have hcz15_2 : w13.cell? ⟨gb256, 2, none⟩ = some (.int .i64 a0_2) := (bC BK256.out 2).trans rfl; have hcz15_3 : w13.cell? ⟨gb256, 3, none⟩ = some (.slice A0_3 l0_3.length c0_3) := (bC BK256.out 3).trans rfl; have hfz15_0 := bF BK256.out 0; have hfz15_1 := bF BK256.out 1; have hfz15_2 := bF BK256.out 2; have hfz15_3 := bF BK256.out 3; have hcz16_0 : w13.cell? ⟨gb257, 0, none⟩ = some (.int .u64 a1_0) := (bC BK257.out 0).trans rfl; have hcz16_1 : w13.cell? ⟨gb257, 1, none⟩ = some (.int .i64 a1_1) := (bC BK257.out 1).trans rfl; have hcz16_2 : w13.cell? ⟨gb257, 2, none⟩ = some (.int .i64 a1_2) := (bC BK257.out 2).trans rfl; have hcz16_3 : w13.cell? ⟨gb257, 3, none⟩ = some (.slice A1_3 l1_3.length c1_3) := (bC BK257.out 3).trans rfl; have hfz16_0 := bF BK257.out 0; have hfz16_1 := bF BK257.out 1; have hfz16_2 := bF BK257.out 2; have hfz16_3 := bF BK257.out 3))
    go_ret
    exact ⟨by first | rfl | (simp [errW_none, errW_some] <;> rfl) | (simp [*, errW_none, errW_some] <;> rfl), bA⟩
  ·rw [if_neg c4] at H
   have c4b0 : (a0_1 == a1_1) = false := beq_eq_false_iff_ne.mpr c4
   have c4b1 : (a0_1 != a1_1) = true := bne_iff_ne.mpr c4
   obtain rfl := Option.some.inj H
   go_enter Tryd.func20, Tryd.ntmps20
   go_wp2_with (first | ((with_reducible refine gate_dst (N := 2) rfl ?_); refine box_event ?hg (N := 2) ?hd (cs := #[.int .u64 a0_0, .int .i64 a0_1, .int .i64 a0_2, .slice A0_3 l0_3.length c0_3]) (t := 25) ?hr ?_; (case hd => rfl); (case hg => rfl); (case hr => first | (go_simp; done) | (go_simp; rfl)); intro gb256 hg w17 hbox hb; have n0_ := Ax.mk (bP bA hb); have n1_ := Ax.mk (hbox); have n2_ := Ax.mk ((ge_new hg : w.heap.size ≤ gb256)); have n3_ := n2_; clear HB; have HB := n0_; have BK256 := n1_; have GW256 := n2_; have GE256 := n3_; clear n0_ n1_ n2_ n3_; clear hb hbox hg) | ((with_reducible refine gate_dst (N := 3) rfl ?_); refine box_event ?hg (N := 3) ?hd (cs := #[.int .u64 a1_0, .int .i64 a1_1, .int .i64 a1_2, .slice A1_3 l1_3.length c1_3]) (t := 31) ?hr ?_; (case hd => rfl); (case hg => rfl); (case hr => first | (go_simp; done) | (go_simp; rfl)); intro gb257 hg w18 hbox hb; have n0_ := Ax.mk (bB (bT BK256.out) hb); have n1_ := Ax.mk (bP bA hb); have n2_ := Ax.mk (hbox); have n3_ := Ax.mk ((ge_new hg : w.heap.size ≤ gb257)); have n4_ := n3_; have n5_ := Ax.mk ((ne_lt hg BK256.out : gb256 ≠ gb257)); have n6_ := Ax.mk ((ne_gt hg BK256.out : gb257 ≠ gb256)); clear BK256; clear HB; have BK256 := n0_; have HB := n1_; have BK257 := n2_; have GW257 := n3_; have GE257 := n4_; have NB256_257 := n5_; have NB257_256 := n6_; clear n0_ n1_ n2_ n3_ n4_ n5_ n6_; clear hb hbox hg; have hnb19 := NB256_257.out; have hnc19 := NB257_256.out; have hcz20_0 : w18.cell? ⟨gb256, 0, none⟩ = some (.int .u64 a0_0) := (bC BK256.out 0).trans rfl; have hcz20_1 : w18.cell? ⟨gb256, 1, none⟩ = some (.int .i64 a0_1) := (bC BK256.out 1).trans rfl; have hcz20_2 : w18.cell? ⟨gb256, 2, none⟩ = some (.int .i64 a0_2) := (bC BK256.out 2).trans rfl; have hcz20_3 : w18.cell? ⟨gb256, 3, none⟩ = some (.slice A0_3 l0_3.length c0_3) := (bC BK256.out 3).trans rfl; have hfz20_0 := bF BK256.out 0; have hfz20_1 := bF BK256.out 1; have hfz20_2 := bF BK256.out 2; have hfz20_3 := bF BK256.out 3; have hcz21_0 : w18.cell? ⟨gb257, 0, none⟩ = some (.int .u64 a1_0) := (bC BK257.out 0).trans rfl; have hcz21_1 : w18.cell? ⟨gb257, 1, none⟩ = some (.int .i64 a1_1) := (bC BK257.out 1).trans rfl; have hcz21_2 : w18.cell? ⟨gb257, 2, none⟩ = some (.int .i64 a1_2) := (bC BK257.out 2).trans rfl; have hcz21_3 : w18.cell? ⟨gb257, 3, none⟩ = some (.slice A1_3 l1_3.length c1_3) := (bC BK257.out 3).trans rfl; have hfz21_0 := bF BK257.out 0; have hfz21_1 := bF BK257.out 1; have hfz21_2 := bF BK257.out 2; have hfz21_3 := bF BK257.out 3))
   go_ret
   exact ⟨by first | rfl | (simp [errW_none, errW_some] <;> rfl) | (simp [*, errW_none, errW_some] <;> rfl), bA⟩
 ·rw [if_neg c3] at H
  have c3b0 : (a0_0 == a1_0) = false := beq_eq_false_iff_ne.mpr c3
  have c3b1 : (a0_0 != a1_0) = true := bne_iff_ne.mpr c3
  obtain rfl := Option.some.inj H
  go_enter Tryd.func20, Tryd.ntmps20
  go_wp2_with (first | ((with_reducible refine gate_dst (N := 2) rfl ?_); refine box_event ?hg (N := 2) ?hd (cs := #[.int .u64 a0_0, .int .i64 a0_1, .int .i64 a0_2, .slice A0_3 l0_3.length c0_3]) (t := 25) ?hr ?_; (case hd => rfl); (case hg => rfl); (case hr => first | (go_simp; done) | (go_simp; rfl)); intro gb256 hg w22 hbox hb; have n0_ := Ax.mk (bP bA hb); have n1_ := Ax.mk (hbox); have n2_ := Ax.mk ((ge_new hg : w.heap.size ≤ gb256)); have n3_ := n2_; clear HB; have HB := n0_; have BK256 := n1_; have GW256 := n2_; have GE256 := n3_; clear n0_ n1_ n2_ n3_; clear hb hbox hg) | ((with_reducible refine gate_dst (N := 3) rfl ?_); refine box_event ?hg (N := 3) ?hd (cs := #[.int .u64 a1_0, .int .i64 a1_1, .int .i64 a1_2, .slice A1_3 l1_3.length c1_3]) (t := 31) ?hr ?_; (case hd => rfl); (case hg => rfl); (case hr => first | (go_simp; done) | (go_simp; rfl)); intro gb257 hg w23 hbox hb; have n0_ := Ax.mk (bB (bT BK256.out) hb); have n1_ := Ax.mk (bP bA hb); have n2_ := Ax.mk (hbox); have n3_ := Ax.mk ((ge_new hg : w.heap.size ≤ gb257)); have n4_ := n3_; have n5_ := Ax.mk ((ne_lt hg BK256.out : gb256 ≠ gb257)); have n6_ := Ax.mk ((ne_gt hg BK256.out : gb257 ≠ gb256)); clear BK256; clear HB; have BK256 := n0_; have HB := n1_; have BK257 := n2_; have GW257 := n3_; have GE257 := n4_; have NB256_257 := n5_; have NB257_256 := n6_; clear n0_ n1_ n2_ n3_ n4_ n5_ n6_; clear hb hbox hg; have hnb24 := NB256_257.out; have hnc24 := NB257_256.out; have hcz25_0 : w23.cell? ⟨gb256, 0, none⟩ = some (.int .u64 a0_0) := (bC BK256.out 0).trans rfl; have hcz25_1 : w23.cell? ⟨gb256, 1, none⟩ = some (.int .i64 a0_1) := (bC BK256.out 1).trans rfl; have hcz25_2 : w23.cell? ⟨gb256, 2, none⟩ = some (.int .i64 a0_2) := (bC BK256.out 2).trans rfl; have hcz25_3 : w23.cell? ⟨gb256, 3, none⟩ = some (.slice A0_3 l0_3.length c0_3) := (bC BK256.out 3).trans rfl; have hfz25_0 := bF BK256.out 0; have hfz25_1 := bF BK256.out 1; have hfz25_2 := bF BK256.out 2; have hfz25_3 := bF BK256.out 3; have hcz26_0 : w23.cell? ⟨gb257, 0, none⟩ = some (.int .u64 a1_0) := (bC BK257.out 0).trans rfl; have hcz26_1 : w23.cell? ⟨gb257, 1, none⟩ = some (.int .i64 a1_1) := (bC BK257.out 1).trans rfl; have hcz26_2 : w23.cell? ⟨gb257, 2, none⟩ = some (.int .i64 a1_2) := (bC BK257.out 2).trans rfl; have hcz26_3 : w23.cell? ⟨gb257, 3, none⟩ = some (.slice A1_3 l1_3.length c1_3) := (bC BK257.out 3).trans rfl; have hfz26_0 := bF BK257.out 0; have hfz26_1 := bF BK257.out 1; have hfz26_2 := bF BK257.out 2; have hfz26_3 := bF BK257.out 3))
  go_ret
  exact ⟨by first | rfl | (simp [errW_none, errW_some] <;> rfl) | (simp [*, errW_none, errW_some] <;> rfl), bA⟩
end Go.Proofs.YtcgejogmiglalaaDoor.Fn
end
section
namespace Go.Proofs.YtcgejogmiglalaaDoor.Fn
open Go.RowKit Go.Proofs.YtcgejogmiglalaaDoorW.PrintWords Go.Proofs.YtcgejogmiglalaaDoorW.PrintLast Go.Proofs.YtcgejogmiglalaaDoorW.PrintMore Go.Proofs.YtcgejogmiglalaaDoor.Lf
open List (setIfInBounds_toArray set_cons_zero set_cons_succ)
attribute [local go_sem] max2_int min2_int max_two min_two max_three min_three max_four min_four   -- for this text's walks alone
set_option linter.unusedVariables false
set_option linter.unusedSimpArgs false
def l6_shown.j0 : Nat → ByteArray → ByteArray → Bool → Option (Bool)
 | 0, _, _, _ => none
 | k + 1, x1, x3, x38 => if x38 = true then (some false) else ((head_Choose.f k x1 x3).bind fun bt144 => (if 1 ≤ (x3.size : Int) then (if 1 + (x3.size - 1) ≤ 9223372036854775807 then ((head_Choose.f k x1 ((⟨#[113]⟩ : ByteArray) ++ (x3.extract 1 x3.size))).bind fun bt153 => (if bt144.1 = 8 then (if bt144.2.2.2.2.1 = 1 then (if bt144.2.2.2.2.2 = 0 then (if bt153.1 = 7 then (if bt153.2.2.2.2.1 = 0 then (if bt153.2.2.2.2.2 = 0 then (some (bt153.2.2.1 == 65)) else (some false)) else (some false)) else (some false)) else (some false)) else (some false)) else (some false))) else (none)) else (none)))
def l6_shown.f (k : Nat)  : Option (Bool) := (head_Put.f k 7 9 65 (([(⟨2, 2⟩ : S53)] : List (S53)))).bind fun bt140 => ((head_Put.f k 8 9 0 ([] : List (S53))).bind fun bt142 => (if (bt140.1.size : Int) = 64 then (if (bt142.1.size : Int) = 64 then (if bt140.2 = 0 then (l6_shown.j0 k bt140.1 bt142.1 (bt142.2 != 0)) else (l6_shown.j0 k bt140.1 bt142.1 true)) else (l6_shown.j0 k bt140.1 bt142.1 true)) else (l6_shown.j0 k bt140.1 bt142.1 true)))
theorem l6_shown.mono_l : ∀ k, (∀ y0 y1 y2, LeO (l6_shown.j0 k y0 y1 y2) (l6_shown.j0 (k + 1) y0 y1 y2))
 | 0 => fun _ _ _ r h => by simp [l6_shown.j0] at h
 | k + 1 => by
  have ih0 := l6_shown.mono_l k
  ·intro y0 y1 y2
   unfold l6_shown.j0
   repeat' first
   | (with_reducible exact ih0 _ _ _)
   | (with_reducible exact head_Choose.mono _ _ _)
   | (with_reducible exact head_Put.mono _ _ _ _ _)
   | (with_reducible exact LeO.refl _)
   | (with_reducible exact LeO.none _)
   | (with_reducible refine LeO.ite ?_ ?_)
   | (with_reducible refine LeO.bind ?_ (fun _ => ?_))
   | exact ih0 _ _ _
   | exact head_Choose.mono _ _ _
   | exact head_Put.mono _ _ _ _ _
   | exact LeO.none _
   | refine LeO.ite ?_ ?_
   | refine LeO.bind ?_ (fun _ => ?_)
theorem l6_shown.mono : ∀ k, LeO (l6_shown.f k ) (l6_shown.f (k + 1) ) := by
 intro  k
 have ih0 := l6_shown.mono_l k
 unfold l6_shown.f
 repeat' first
   | (with_reducible exact ih0 _ _ _)
   | (with_reducible exact head_Choose.mono _ _ _)
   | (with_reducible exact head_Put.mono _ _ _ _ _)
   | (with_reducible exact LeO.refl _)
   | (with_reducible exact LeO.none _)
   | (with_reducible refine LeO.ite ?_ ?_)
   | (with_reducible refine LeO.bind ?_ (fun _ => ?_))
   | exact ih0 _ _ _
   | exact head_Choose.mono _ _ _
   | exact head_Put.mono _ _ _ _ _
   | exact LeO.none _
   | refine LeO.ite ?_ ?_
   | refine LeO.bind ?_ (fun _ => ?_)
set_option maxHeartbeats 8000000 in
set_option maxRecDepth 100000 in
theorem l6_shown.calls (k : Nat)  (r : Bool) (w : World) (h : l6_shown.f k  = some r) :
  Calls Tryd.prog 9 #[] w fun e w' => e = .returned (.bool r) ∧ Below w.heap.size w w' := by
 have hu53 := Tryd.underlying53
 have hu25 := Tryd.underlying25
 have HB := Ax.mk (Below.refl w.heap.size w)
 have H : ((head_Put.f k 7 9 65 (([(⟨2, 2⟩ : S53)] : List (S53)))).bind fun bt140 => ((head_Put.f k 8 9 0 ([] : List (S53))).bind fun bt142 => (if (bt140.1.size : Int) = 64 then (if (bt142.1.size : Int) = 64 then (if bt140.2 = 0 then (l6_shown.j0 k bt140.1 bt142.1 (bt142.2 != 0)) else (l6_shown.j0 k bt140.1 bt142.1 true)) else (l6_shown.j0 k bt140.1 bt142.1 true)) else (l6_shown.j0 k bt140.1 bt142.1 true)))) = some r := h
 clear h
 obtain ⟨y137, hy137⟩ : ∃ y_ : List (S53), y_ = (([(⟨2, 2⟩ : S53)] : List (S53))) := ⟨_, rfl⟩
 replace H : ((head_Put.f k 7 9 65 y137).bind fun bt140 => ((head_Put.f k 8 9 0 ([] : List (S53))).bind fun bt142 => (if (bt140.1.size : Int) = 64 then (if (bt142.1.size : Int) = 64 then (if bt140.2 = 0 then (l6_shown.j0 k bt140.1 bt142.1 (bt142.2 != 0)) else (l6_shown.j0 k bt140.1 bt142.1 true)) else (l6_shown.j0 k bt140.1 bt142.1 true)) else (l6_shown.j0 k bt140.1 bt142.1 true)))) = some r := by first | (rw [hy137]; with_reducible exact H) | (have H2_ := (Option.bind_some _ _).symm.trans H; rw [hy137]; with_reducible exact H2_) | (have H2_ := (Option.bind_some _ _).symm.trans H; with_reducible exact H2_) | with_reducible exact H | (rw [hy137]; exact H) | exact H
 have Ny137 := Ax.mk hy137
 clear hy137
 replace H := Option.bind_eq_some_iff.mp H
 obtain ⟨⟨t140, t141⟩, A10, H⟩ := H
 replace H : ((head_Put.f k 8 9 0 ([] : List (S53))).bind fun bt142 => (if (t140.size : Int) = 64 then (if (bt142.1.size : Int) = 64 then (if t141 = 0 then (l6_shown.j0 k t140 bt142.1 (bt142.2 != 0)) else (l6_shown.j0 k t140 bt142.1 true)) else (l6_shown.j0 k t140 bt142.1 true)) else (l6_shown.j0 k t140 bt142.1 true))) = some r := H
 have A1 := Ax.mk A10
 clear A10
 replace H := Option.bind_eq_some_iff.mp H
 obtain ⟨⟨t142, t143⟩, A20, H⟩ := H
 replace H : (if (t140.size : Int) = 64 then (if (t142.size : Int) = 64 then (if t141 = 0 then (l6_shown.j0 k t140 t142 (t143 != 0)) else (l6_shown.j0 k t140 t142 true)) else (l6_shown.j0 k t140 t142 true)) else (l6_shown.j0 k t140 t142 true)) = some r := H
 have A2 := Ax.mk A20
 clear A20
 have HC3 := Ax.mk H
 clear H
 go_enter Tryd.func9, Tryd.ntmps9
 go_upto_region 3 with (first | ((with_reducible refine gate_dst (N := 13) rfl ?_); (try (refine gate_guard (by rfl) ?_; dsimp only)); refine Kd.R_lit k53 _ 53 ?hg (N := 13) ?hd (xs := ([(⟨2, 2⟩ : S53)] : List (S53))) (inner := [.int .i64 2, .int .i64 2]) (ok := fun _ => True) (okp := fun _ => True) ?hr ?hp (fun _ hk => hk) trivial (Below.refl _ _) (Nat.le_refl _) (by simp) ?_; (case hd => rfl); (case hg => rfl); (case hr => first | (go_simp; done) | (go_simp; rfl)); (case hp => exact (Reps.c2 (show Kd.M k53 _ _ _ (⟨2, 2⟩ : S53) [.int .i64 2, .int .i64 2] from (k53_mkM _ _ _ (⟨2, 2⟩ : S53) )) (Reps.none _ _))); intro v138 w4 ho5 hb hg_ hnew_; clear hg_ hnew_; (first | rw [← Ny137.out] at ho5 | (simp only [Int.reduceToNat] at ho5; rw [← Ny137.out] at ho5)); have n0_ := Ax.mk (Kd.R_lower ho5 (bS bA)); have n1_ := Ax.mk (bP bA hb); clear HB; have HO139 := n0_; have HB := n1_; clear n0_ n1_; clear hb ho5; obtain ⟨Ao6, co6, eo6⟩ := Kd.R_slice HO139.out; subst eo6) | ((with_reducible refine gate_callee (f := 10) rfl ?_); refine goesL_ (some 15) rfl rfl Tryd.func10 (by kernel_rfl) rfl #[.agg #[.int .u64 7, .int .i64 9, .int .i64 65, .slice Ao6 y137.length co6]] rfl (by (try simp only [List.map_toArray, List.map_cons, List.map_nil]); first | done | rfl | (simp only [List.length_drop, List.length_take]; rfl) | (rw [wrap_sum2 (by assumption)]; rfl)) ?_; (with_reducible refine (head_Put.calls k 7 9 65 _ _ y137 t140 t141 _ ?side1 ?side2 A1.out).mono ?_); (case side1 => repeat (first | exact (Kd.R_reads' HO139.out).2.2 | (with_reducible refine Kd.C_alloc ?_ _) | (with_reducible refine Kd.C_drewN ?_ _) | (with_reducible refine Kd.C_drew ?_))); (case side2 => exact (Kd.R_reads' HO139.out).2.1); rintro e w7 ⟨rfl, hb⟩; refine ⟨_, rfl, ?_⟩; have n0_ := Ax.mk (Kd.R_below (by exact Kd.R_to HO139.out) hb); have n1_ := Ax.mk (bP bA hb); clear HO139; clear HB; have HO139 := n0_; have HB := n1_; clear n0_ n1_; (try clear hb); (try clear hb2); (try clear hk); (try clear hi)) | ((with_reducible refine gate_callee (f := 10) rfl ?_); refine goesL_ (some 20) rfl rfl Tryd.func10 (by kernel_rfl) rfl #[.agg #[.int .u64 8, .int .i64 9, .int .i64 0, .slice none 0 0]] rfl (by (try simp only [List.map_toArray, List.map_cons, List.map_nil]); first | done | rfl | (simp only [List.length_drop, List.length_take]; rfl) | (rw [wrap_sum2 (by assumption)]; rfl)) ?_; (refine (head_Put.calls k 8 9 0 _ _ ([] : List (S53)) t142 t143 _ ?side1 ?side2 A2.out).mono ?_); (case side1 => exact Kd.C_nil _ _); (case side2 => exact Nat.le_refl _); rintro e w8 ⟨rfl, hb⟩; refine ⟨_, rfl, ?_⟩; have n0_ := Ax.mk (Kd.R_below (by exact Kd.R_to HO139.out) hb); have n1_ := Ax.mk (bP bA hb); clear HO139; clear HB; have HO139 := n0_; have HB := n1_; clear n0_ n1_; (try clear hb); (try clear hb2); (try clear hk); (try clear hi)))
 (try simp only [Act.put, setIfInBounds_toArray, set_cons_zero, set_cons_succ])
 go_cut [38] (fun v38 wc => ∃ (kq : Nat) (x38_2 : Bool), v38 = .bool x38_2 ∧ Ax (l6_shown.j0 kq t140 t142 x38_2 = some r) ∧ Ax (kq ≤ k) ∧ Ax (Below w.heap.size w wc))
 case first =>
  have H := HC3.out
  clear HC3
  by_cases c9 : (t140.size : Int) = 64
  ·rw [if_pos c9] at H
   have c9b0 : ((t140.size : Int) == 64) = true := beq_iff_eq.mpr c9
   have c9b1 : ((t140.size : Int) != 64) = false := bne_eq_false_iff_eq.mpr c9
   clear c9
   (first | rw [c9b0] | (simp only [i64_w, i32_w]; rw [c9b0]) | skip)
   by_cases c10 : (t142.size : Int) = 64
   ·rw [if_pos c10] at H
    have c10b0 : ((t142.size : Int) == 64) = true := beq_iff_eq.mpr c10
    have c10b1 : ((t142.size : Int) != 64) = false := bne_eq_false_iff_eq.mpr c10
    clear c10
    by_cases c11 : t141 = 0
    ·rw [if_pos c11] at H
     have c11b0 : (t141 == 0) = true := beq_iff_eq.mpr c11
     have c11b1 : (t141 != 0) = false := bne_eq_false_iff_eq.mpr c11
     clear c11
     have H' := Ax.mk H
     clear H
     go_wp2
     go_meet
     case rel => exact ⟨_, ((t143 != 0)), (by first | rfl | (simp; done) | (simp [*]; done)), H', ⟨by first | omega | exact Nat.le_refl _⟩, ⟨bA⟩⟩
    ·rw [if_neg c11] at H
     have c11b0 : (t141 == 0) = false := beq_eq_false_iff_ne.mpr c11
     have c11b1 : (t141 != 0) = true := bne_iff_ne.mpr c11
     have H' := Ax.mk H
     clear H
     go_wp2
     go_meet
     case rel => exact ⟨_, (true), (by first | rfl | (simp; done) | (simp [*]; done)), H', ⟨by first | omega | exact Nat.le_refl _⟩, ⟨bA⟩⟩
   ·rw [if_neg c10] at H
    have c10b0 : ((t142.size : Int) == 64) = false := beq_eq_false_iff_ne.mpr c10
    have c10b1 : ((t142.size : Int) != 64) = true := bne_iff_ne.mpr c10
    have H' := Ax.mk H
    clear H
    go_wp2
    go_meet
    case rel => exact ⟨_, (true), (by first | rfl | (simp; done) | (simp [*]; done)), H', ⟨by first | omega | exact Nat.le_refl _⟩, ⟨bA⟩⟩
  ·rw [if_neg c9] at H
   have c9b0 : ((t140.size : Int) == 64) = false := beq_eq_false_iff_ne.mpr c9
   have c9b1 : ((t140.size : Int) != 64) = true := bne_iff_ne.mpr c9
   (first | rw [c9b0] | (simp only [i64_w, i32_w]; rw [c9b0]) | skip)
   have H' := Ax.mk H
   clear H
   go_wp2
   go_meet
   case rel => exact ⟨_, (true), (by first | rfl | (simp; done) | (simp [*]; done)), H', ⟨by first | omega | exact Nat.le_refl _⟩, ⟨bA⟩⟩
 case rest =>
  clear HC3
  try clear c1
  try clear c2
  try clear p2
  try clear c9
  try clear c9b0
  try clear c9b1
  try clear c10
  try clear c10b0
  try clear c10b1
  try clear c11
  try clear c11b0
  try clear c11b1
  obtain ⟨kq, x38_2, rfl, HA, HJ2, HB⟩ := hcut
  cases kq with
  | zero => exact absurd HA.out (by simp [l6_shown.j0])
  | succ kj2 =>
   have H := HA.out
   clear HA
   simp only [l6_shown.j0] at H
   by_cases c12 : x38_2 = true
   ·subst c12
    have H1 : (some false) = some r := by rw [if_pos rfl] at H; exact H
    clear H
    have H := H1
    clear H1
    obtain rfl := Option.some.inj H
    go_wp2
    go_ret
    exact ⟨by first | rfl | (simp [errW_none, errW_some] <;> rfl) | (simp [*, errW_none, errW_some] <;> rfl), bA⟩
   ·replace c12 := Bool.eq_false_iff.mpr c12
    subst c12
    have H1 : ((head_Choose.f kj2 t140 t142).bind fun bt144 => (if 1 ≤ (t142.size : Int) then (if 1 + (t142.size - 1) ≤ 9223372036854775807 then ((head_Choose.f kj2 t140 ((⟨#[113]⟩ : ByteArray) ++ (t142.extract 1 t142.size))).bind fun bt153 => (if bt144.1 = 8 then (if bt144.2.2.2.2.1 = 1 then (if bt144.2.2.2.2.2 = 0 then (if bt153.1 = 7 then (if bt153.2.2.2.2.1 = 0 then (if bt153.2.2.2.2.2 = 0 then (some (bt153.2.2.1 == 65)) else (some false)) else (some false)) else (some false)) else (some false)) else (some false)) else (some false))) else (none)) else (none))) = some r := by rw [if_neg (show ¬ (false = true) by decide)] at H; exact H
    clear H
    have H := H1
    clear H1
    replace H := Option.bind_eq_some_iff.mp H
    obtain ⟨⟨t144, t145, t146, t147, t150, t151⟩, A130, H⟩ := H
    replace H : (if 1 ≤ (t142.size : Int) then (if 1 + (t142.size - 1) ≤ 9223372036854775807 then ((head_Choose.f kj2 t140 ((⟨#[113]⟩ : ByteArray) ++ (t142.extract 1 t142.size))).bind fun bt153 => (if t144 = 8 then (if t150 = 1 then (if t151 = 0 then (if bt153.1 = 7 then (if bt153.2.2.2.2.1 = 0 then (if bt153.2.2.2.2.2 = 0 then (some (bt153.2.2.1 == 65)) else (some false)) else (some false)) else (some false)) else (some false)) else (some false)) else (some false))) else (none)) else (none)) = some r := H
    have A13 := Ax.mk A130
    clear A130
    by_cases c14 : 1 ≤ (t142.size : Int)
    ·rw [if_pos c14] at H
     have c14b0 := eq_true c14
     have c14b1 : decide (1 ≤ (t142.size : Int)) = true := decide_eq_true c14
     clear c14
     by_cases c15 : 1 + (t142.size - 1) ≤ 9223372036854775807
     ·rw [if_pos c15] at H
      have c15b0 := eq_true c15
      have c15b1 : decide (1 + (t142.size - 1) ≤ 9223372036854775807) = true := decide_eq_true c15
      try have c15b2 : (9223372036854775807 < 1 + (t142.size - 1)) = False := eq_false (Nat.not_lt.2 c15)
      replace H := Option.bind_eq_some_iff.mp H
      obtain ⟨⟨t153, t154, t155, t156, t159, t160⟩, A160, H⟩ := H
      replace H : (if t144 = 8 then (if t150 = 1 then (if t151 = 0 then (if t153 = 7 then (if t159 = 0 then (if t160 = 0 then (some (t155 == 65)) else (some false)) else (some false)) else (some false)) else (some false)) else (some false)) else (some false)) = some r := H
      have A16 := Ax.mk A160
      clear A160
      by_cases c17 : t144 = 8
      ·rw [if_pos c17] at H
       have c17b0 : (t144 == 8) = true := beq_iff_eq.mpr c17
       have c17b1 : (t144 != 8) = false := bne_eq_false_iff_eq.mpr c17
       clear c17
       by_cases c18 : t150 = 1
       ·rw [if_pos c18] at H
        have c18b0 : (t150 == 1) = true := beq_iff_eq.mpr c18
        have c18b1 : (t150 != 1) = false := bne_eq_false_iff_eq.mpr c18
        clear c18
        by_cases c19 : t151 = 0
        ·rw [if_pos c19] at H
         have c19b0 : (t151 == 0) = true := beq_iff_eq.mpr c19
         have c19b1 : (t151 != 0) = false := bne_eq_false_iff_eq.mpr c19
         clear c19
         by_cases c20 : t153 = 7
         ·rw [if_pos c20] at H
          have c20b0 : (t153 == 7) = true := beq_iff_eq.mpr c20
          have c20b1 : (t153 != 7) = false := bne_eq_false_iff_eq.mpr c20
          clear c20
          by_cases c21 : t159 = 0
          ·rw [if_pos c21] at H
           have c21b0 : (t159 == 0) = true := beq_iff_eq.mpr c21
           have c21b1 : (t159 != 0) = false := bne_eq_false_iff_eq.mpr c21
           clear c21
           by_cases c22 : t160 = 0
           ·rw [if_pos c22] at H
            have c22b0 : (t160 == 0) = true := beq_iff_eq.mpr c22
            have c22b1 : (t160 != 0) = false := bne_eq_false_iff_eq.mpr c22
            clear c22
            obtain rfl := Option.some.inj H
            go_wp2_with (first | ((with_reducible refine gate_callee (f := 18) rfl ?_); refine goesL_ (some 42) rfl rfl Tryd.func18 (by kernel_rfl) rfl #[.string t140, .string t142] rfl (by (try simp only [List.map_toArray, List.map_cons, List.map_nil]); first | done | rfl | (simp only [List.length_drop, List.length_take]; rfl) | (rw [wrap_sum2 (by assumption)]; rfl)) ?_; (with_reducible refine (head_Choose.calls kj2 t140 t142 t144 t145 t146 t147 t150 t151 _ A13.out).mono ?_); rintro e w23 ⟨v148, rfl, ho0, hb⟩; refine ⟨_, rfl, ?_⟩; have n0_ := Ax.mk (Kd.R_lower ho0 (bS bA)); have n1_ := Ax.mk (bP bA hb); clear HB; have HO149 := n0_; have HB := n1_; clear n0_ n1_; (try clear hb); (try clear hb2); (try clear hk); (try clear hi); (try clear ho0)) | ((with_reducible refine gate_dst (N := 5) rfl ?_); (try (refine gate_guard (by rfl) ?_; dsimp only)); refine box_event ?hg (N := 5) ?hd (cs := #[.int .u64 0, .int .i64 0, .int .i64 0, .slice none 0 0]) (t := 25) ?hr ?_; (case hd => rfl); (case hg => rfl); (case hr => first | (go_simp; done) | (go_simp; rfl)); intro gb152 hg w24 hbox hb; have n0_ := Ax.mk (Kd.R_below (by exact Kd.R_to HO149.out) hb); have n1_ := Ax.mk (bP bA hb); have n2_ := Ax.mk (hbox); have n3_ := Ax.mk ((ge_new hg : w.heap.size ≤ gb152)); have n4_ := n3_; clear HO149; clear HB; have HO149 := n0_; have HB := n1_; have BK152 := n2_; have GW152 := n3_; have GE152 := n4_; clear n0_ n1_ n2_ n3_ n4_; clear hb hbox hg; have hcz25_0 : w24.cell? ⟨gb152, 0, none⟩ = some (.int .u64 0) := (bC BK152.out 0).trans rfl; have hcz25_1 : w24.cell? ⟨gb152, 1, none⟩ = some (.int .i64 0) := (bC BK152.out 1).trans rfl; have hcz25_2 : w24.cell? ⟨gb152, 2, none⟩ = some (.int .i64 0) := (bC BK152.out 2).trans rfl; have hcz25_3 : w24.cell? ⟨gb152, 3, none⟩ = some (.slice none 0 0) := (bC BK152.out 3).trans rfl; have hfz25_0 := bF BK152.out 0; have hfz25_1 := bF BK152.out 1; have hfz25_2 := bF BK152.out 2; have hfz25_3 := bF BK152.out 3; obtain ⟨Ao26, co26, eo26⟩ := Kd.R_slice HO149.out; subst eo26) | ((with_reducible refine gate_callee (f := 18) rfl ?_); refine goesL_ (some 51) rfl rfl Tryd.func18 (by kernel_rfl) rfl #[.string t140, .string ((⟨#[113]⟩ : ByteArray) ++ (t142.extract 1 t142.size))] rfl (by (try simp only [List.map_toArray, List.map_cons, List.map_nil]); first | done | rfl | (simp only [List.length_drop, List.length_take]; rfl) | (rw [wrap_sum2 (by assumption)]; rfl)) ?_; (with_reducible refine (head_Choose.calls kj2 t140 ((⟨#[113]⟩ : ByteArray) ++ (t142.extract 1 t142.size)) t153 t154 t155 t156 t159 t160 _ A16.out).mono ?_); rintro e w27 ⟨v157, rfl, ho0, hb⟩; refine ⟨_, rfl, ?_⟩; have n0_ := Ax.mk (Kd.R_elder' (by apply Kd.R_to; exact (Kd.R_mono (Kd.R_far (p := ⟨gb152, 3, none⟩) (Kd.R_far (p := ⟨gb152, 2, none⟩) (Kd.R_far (p := ⟨gb152, 1, none⟩) (Kd.R_far (p := ⟨gb152, 0, none⟩) (Kd.R_types HO149.out BK152.out (by decide)) (fun _ hk => hk.2) (.int .u64 t144)) (fun _ hk => hk.2) (.int .i64 t145)) (fun _ hk => hk.2) (.int .i64 t146)) (fun _ hk => hk.2) (.slice Ao26 t147.length co26)) (fun _ h_ => h_.1))) (Kd.R_base ho0) hb); have n1_ := Ax.mk (Kd.R_lower (Kd.R_new' ho0 (Kd.R_lt (by apply Kd.R_to; exact (Kd.R_mono (Kd.R_far (p := ⟨gb152, 3, none⟩) (Kd.R_far (p := ⟨gb152, 2, none⟩) (Kd.R_far (p := ⟨gb152, 1, none⟩) (Kd.R_far (p := ⟨gb152, 0, none⟩) (Kd.R_types HO149.out BK152.out (by decide)) (fun _ hk => hk.2) (.int .u64 t144)) (fun _ hk => hk.2) (.int .i64 t145)) (fun _ hk => hk.2) (.int .i64 t146)) (fun _ hk => hk.2) (.slice Ao26 t147.length co26)) (fun _ h_ => h_.1))))) (bS bA)); have n2_ := Ax.mk (bB (g := gb152) (o := .cells #[.int .u64 t144, .int .i64 t145, .int .i64 t146, .slice Ao26 t147.length co26] 25 (0, 0)) (by refine bT ?_; refine bU (cs := #[.int .u64 t144, .int .i64 t145, .int .i64 t146, .slice none 0 0]) ?_ 3 _ rfl; refine bT ?_; refine bU (cs := #[.int .u64 t144, .int .i64 t145, .int .i64 0, .slice none 0 0]) ?_ 2 _ rfl; refine bT ?_; refine bU (cs := #[.int .u64 t144, .int .i64 0, .int .i64 0, .slice none 0 0]) ?_ 1 _ rfl; refine bT ?_; refine bU (cs := #[.int .u64 0, .int .i64 0, .int .i64 0, .slice none 0 0]) ?_ 0 _ rfl; exact bT BK152.out) hb); have n3_ := Ax.mk (bP bA hb); clear HO149; clear BK152; clear HB; have HO149 := n0_; have HO158 := n1_; have BK152 := n2_; have HB := n3_; clear n0_ n1_ n2_ n3_; (try clear hb); (try clear hb2); (try clear hk); (try clear hi); (try clear ho0)) | ((with_reducible refine gate_dst (N := 8) rfl ?_); (try (refine gate_guard (by rfl) ?_; dsimp only)); refine box_event ?hg (N := 8) ?hd (cs := #[.int .u64 0, .int .i64 0, .int .i64 0, .slice none 0 0]) (t := 25) ?hr ?_; (case hd => rfl); (case hg => rfl); (case hr => first | (go_simp; done) | (go_simp; rfl)); intro gb161 hg w28 hbox hb; have n0_ := Ax.mk (Kd.R_below (by exact Kd.R_to HO149.out) hb); have n1_ := Ax.mk (Kd.R_below (by exact Kd.R_to HO158.out) hb); have n2_ := Ax.mk (bB (bT BK152.out) hb); have n3_ := Ax.mk (bP bA hb); have n4_ := Ax.mk (hbox); have n5_ := Ax.mk ((ge_new hg : w.heap.size ≤ gb161)); have n6_ := n5_; have n7_ := Ax.mk ((ne_lt hg BK152.out : gb152 ≠ gb161)); have n8_ := Ax.mk ((ne_gt hg BK152.out : gb161 ≠ gb152)); clear HO149; clear HO158; clear BK152; clear HB; have HO149 := n0_; have HO158 := n1_; have BK152 := n2_; have HB := n3_; have BK161 := n4_; have GW161 := n5_; have GE161 := n6_; have NB152_161 := n7_; have NB161_152 := n8_; clear n0_ n1_ n2_ n3_ n4_ n5_ n6_ n7_ n8_; clear hb hbox hg; have hnb29 := NB161_152.out; have hnc29 := NB152_161.out; have hcz30_0 : w28.cell? ⟨gb161, 0, none⟩ = some (.int .u64 0) := (bC BK161.out 0).trans rfl; have hcz30_1 : w28.cell? ⟨gb161, 1, none⟩ = some (.int .i64 0) := (bC BK161.out 1).trans rfl; have hcz30_2 : w28.cell? ⟨gb161, 2, none⟩ = some (.int .i64 0) := (bC BK161.out 2).trans rfl; have hcz30_3 : w28.cell? ⟨gb161, 3, none⟩ = some (.slice none 0 0) := (bC BK161.out 3).trans rfl; have hfz30_0 := bF BK161.out 0; have hfz30_1 := bF BK161.out 1; have hfz30_2 := bF BK161.out 2; have hfz30_3 := bF BK161.out 3; obtain ⟨Ao31, co31, eo31⟩ := Kd.R_slice HO158.out; subst eo31; have hcz32_0 : w28.cell? ⟨gb152, 0, none⟩ = some (.int .u64 t144) := (bC BK152.out 0).trans rfl; have hcz32_1 : w28.cell? ⟨gb152, 1, none⟩ = some (.int .i64 t145) := (bC BK152.out 1).trans rfl; have hcz32_2 : w28.cell? ⟨gb152, 2, none⟩ = some (.int .i64 t146) := (bC BK152.out 2).trans rfl; have hcz32_3 : w28.cell? ⟨gb152, 3, none⟩ = some (.slice Ao26 t147.length co26) := (bC BK152.out 3).trans rfl; have hfz32_0 := bF BK152.out 0; have hfz32_1 := bF BK152.out 1; have hfz32_2 := bF BK152.out 2; have hfz32_3 := bF BK152.out 3))
            go_ret
            exact ⟨by first | rfl | (simp [errW_none, errW_some] <;> rfl) | (simp [*, errW_none, errW_some] <;> rfl), bA⟩
           ·rw [if_neg c22] at H
            have c22b0 : (t160 == 0) = false := beq_eq_false_iff_ne.mpr c22
            have c22b1 : (t160 != 0) = true := bne_iff_ne.mpr c22
            obtain rfl := Option.some.inj H
            go_wp2_with (first | ((with_reducible refine gate_callee (f := 18) rfl ?_); refine goesL_ (some 42) rfl rfl Tryd.func18 (by kernel_rfl) rfl #[.string t140, .string t142] rfl (by (try simp only [List.map_toArray, List.map_cons, List.map_nil]); first | done | rfl | (simp only [List.length_drop, List.length_take]; rfl) | (rw [wrap_sum2 (by assumption)]; rfl)) ?_; (with_reducible refine (head_Choose.calls kj2 t140 t142 t144 t145 t146 t147 t150 t151 _ A13.out).mono ?_); rintro e w33 ⟨v148, rfl, ho0, hb⟩; refine ⟨_, rfl, ?_⟩; have n0_ := Ax.mk (Kd.R_lower ho0 (bS bA)); have n1_ := Ax.mk (bP bA hb); clear HB; have HO149 := n0_; have HB := n1_; clear n0_ n1_; (try clear hb); (try clear hb2); (try clear hk); (try clear hi); (try clear ho0)) | ((with_reducible refine gate_dst (N := 5) rfl ?_); (try (refine gate_guard (by rfl) ?_; dsimp only)); refine box_event ?hg (N := 5) ?hd (cs := #[.int .u64 0, .int .i64 0, .int .i64 0, .slice none 0 0]) (t := 25) ?hr ?_; (case hd => rfl); (case hg => rfl); (case hr => first | (go_simp; done) | (go_simp; rfl)); intro gb152 hg w34 hbox hb; have n0_ := Ax.mk (Kd.R_below (by exact Kd.R_to HO149.out) hb); have n1_ := Ax.mk (bP bA hb); have n2_ := Ax.mk (hbox); have n3_ := Ax.mk ((ge_new hg : w.heap.size ≤ gb152)); have n4_ := n3_; clear HO149; clear HB; have HO149 := n0_; have HB := n1_; have BK152 := n2_; have GW152 := n3_; have GE152 := n4_; clear n0_ n1_ n2_ n3_ n4_; clear hb hbox hg; have hcz35_0 : w34.cell? ⟨gb152, 0, none⟩ = some (.int .u64 0) := (bC BK152.out 0).trans rfl; have hcz35_1 : w34.cell? ⟨gb152, 1, none⟩ = some (.int .i64 0) := (bC BK152.out 1).trans rfl; have hcz35_2 : w34.cell? ⟨gb152, 2, none⟩ = some (.int .i64 0) := (bC BK152.out 2).trans rfl; have hcz35_3 : w34.cell? ⟨gb152, 3, none⟩ = some (.slice none 0 0) := (bC BK152.out 3).trans rfl; have hfz35_0 := bF BK152.out 0; have hfz35_1 := bF BK152.out 1; have hfz35_2 := bF BK152.out 2; have hfz35_3 := bF BK152.out 3; obtain ⟨Ao36, co36, eo36⟩ := Kd.R_slice HO149.out; subst eo36) | ((with_reducible refine gate_callee (f := 18) rfl ?_); refine goesL_ (some 51) rfl rfl Tryd.func18 (by kernel_rfl) rfl #[.string t140, .string ((⟨#[113]⟩ : ByteArray) ++ (t142.extract 1 t142.size))] rfl (by (try simp only [List.map_toArray, List.map_cons, List.map_nil]); first | done | rfl | (simp only [List.length_drop, List.length_take]; rfl) | (rw [wrap_sum2 (by assumption)]; rfl)) ?_; (with_reducible refine (head_Choose.calls kj2 t140 ((⟨#[113]⟩ : ByteArray) ++ (t142.extract 1 t142.size)) t153 t154 t155 t156 t159 t160 _ A16.out).mono ?_); rintro e w37 ⟨v157, rfl, ho0, hb⟩; refine ⟨_, rfl, ?_⟩; have n0_ := Ax.mk (Kd.R_elder' (by apply Kd.R_to; exact (Kd.R_mono (Kd.R_far (p := ⟨gb152, 3, none⟩) (Kd.R_far (p := ⟨gb152, 2, none⟩) (Kd.R_far (p := ⟨gb152, 1, none⟩) (Kd.R_far (p := ⟨gb152, 0, none⟩) (Kd.R_types HO149.out BK152.out (by decide)) (fun _ hk => hk.2) (.int .u64 t144)) (fun _ hk => hk.2) (.int .i64 t145)) (fun _ hk => hk.2) (.int .i64 t146)) (fun _ hk => hk.2) (.slice Ao36 t147.length co36)) (fun _ h_ => h_.1))) (Kd.R_base ho0) hb); have n1_ := Ax.mk (Kd.R_lower (Kd.R_new' ho0 (Kd.R_lt (by apply Kd.R_to; exact (Kd.R_mono (Kd.R_far (p := ⟨gb152, 3, none⟩) (Kd.R_far (p := ⟨gb152, 2, none⟩) (Kd.R_far (p := ⟨gb152, 1, none⟩) (Kd.R_far (p := ⟨gb152, 0, none⟩) (Kd.R_types HO149.out BK152.out (by decide)) (fun _ hk => hk.2) (.int .u64 t144)) (fun _ hk => hk.2) (.int .i64 t145)) (fun _ hk => hk.2) (.int .i64 t146)) (fun _ hk => hk.2) (.slice Ao36 t147.length co36)) (fun _ h_ => h_.1))))) (bS bA)); have n2_ := Ax.mk (bB (g := gb152) (o := .cells #[.int .u64 t144, .int .i64 t145, .int .i64 t146, .slice Ao36 t147.length co36] 25 (0, 0)) (by refine bT ?_; refine bU (cs := #[.int .u64 t144, .int .i64 t145, .int .i64 t146, .slice none 0 0]) ?_ 3 _ rfl; refine bT ?_; refine bU (cs := #[.int .u64 t144, .int .i64 t145, .int .i64 0, .slice none 0 0]) ?_ 2 _ rfl; refine bT ?_; refine bU (cs := #[.int .u64 t144, .int .i64 0, .int .i64 0, .slice none 0 0]) ?_ 1 _ rfl; refine bT ?_; refine bU (cs := #[.int .u64 0, .int .i64 0, .int .i64 0, .slice none 0 0]) ?_ 0 _ rfl; exact bT BK152.out) hb); have n3_ := Ax.mk (bP bA hb); clear HO149; clear BK152; clear HB; have HO149 := n0_; have HO158 := n1_; have BK152 := n2_; have HB := n3_; clear n0_ n1_ n2_ n3_; (try clear hb); (try clear hb2); (try clear hk); (try clear hi); (try clear ho0)) | ((with_reducible refine gate_dst (N := 8) rfl ?_); (try (refine gate_guard (by rfl) ?_; dsimp only)); refine box_event ?hg (N := 8) ?hd (cs := #[.int .u64 0, .int .i64 0, .int .i64 0, .slice none 0 0]) (t := 25) ?hr ?_; (case hd => rfl); (case hg => rfl); (case hr => first | (go_simp; done) | (go_simp; rfl)); intro gb161 hg w38 hbox hb; have n0_ := Ax.mk (Kd.R_below (by exact Kd.R_to HO149.out) hb); have n1_ := Ax.mk (Kd.R_below (by exact Kd.R_to HO158.out) hb); have n2_ := Ax.mk (bB (bT BK152.out) hb); have n3_ := Ax.mk (bP bA hb); have n4_ := Ax.mk (hbox); have n5_ := Ax.mk ((ge_new hg : w.heap.size ≤ gb161)); have n6_ := n5_; have n7_ := Ax.mk ((ne_lt hg BK152.out : gb152 ≠ gb161)); have n8_ := Ax.mk ((ne_gt hg BK152.out : gb161 ≠ gb152)); clear HO149; clear HO158; clear BK152; clear HB; have HO149 := n0_; have HO158 := n1_; have BK152 := n2_; have HB := n3_; have BK161 := n4_; have GW161 := n5_; have GE161 := n6_; have NB152_161 := n7_; have NB161_152 := n8_; clear n0_ n1_ n2_ n3_ n4_ n5_ n6_ n7_ n8_; clear hb hbox hg; have hnb39 := NB161_152.out; have hnc39 := NB152_161.out; have hcz40_0 : w38.cell? ⟨gb161, 0, none⟩ = some (.int .u64 0) := (bC BK161.out 0).trans rfl; have hcz40_1 : w38.cell? ⟨gb161, 1, none⟩ = some (.int .i64 0) := (bC BK161.out 1).trans rfl; have hcz40_2 : w38.cell? ⟨gb161, 2, none⟩ = some (.int .i64 0) := (bC BK161.out 2).trans rfl; have hcz40_3 : w38.cell? ⟨gb161, 3, none⟩ = some (.slice none 0 0) := (bC BK161.out 3).trans rfl; have hfz40_0 := bF BK161.out 0; have hfz40_1 := bF BK161.out 1; have hfz40_2 := bF BK161.out 2; have hfz40_3 := bF BK161.out 3; obtain ⟨Ao41, co41, eo41⟩ := Kd.R_slice HO158.out; subst eo41; have hcz42_0 : w38.cell? ⟨gb152, 0, none⟩ = some (.int .u64 t144) := (bC BK152.out 0).trans rfl; have hcz42_1 : w38.cell? ⟨gb152, 1, none⟩ = some (.int .i64 t145) := (bC BK152.out 1).trans rfl; have hcz42_2 : w38.cell? ⟨gb152, 2, none⟩ = some (.int .i64 t146) := (bC BK152.out 2).trans rfl; have hcz42_3 : w38.cell? ⟨gb152, 3, none⟩ = some (.slice Ao36 t147.length co36) := (bC BK152.out 3).trans rfl; have hfz42_0 := bF BK152.out 0; have hfz42_1 := bF BK152.out 1; have hfz42_2 := bF BK152.out 2; have hfz42_3 := bF BK152.out 3))
            go_ret
            exact ⟨by first | rfl | (simp [errW_none, errW_some] <;> rfl) | (simp [*, errW_none, errW_some] <;> rfl), bA⟩
          ·rw [if_neg c21] at H
           have c21b0 : (t159 == 0) = false := beq_eq_false_iff_ne.mpr c21
           have c21b1 : (t159 != 0) = true := bne_iff_ne.mpr c21
           obtain rfl := Option.some.inj H
           go_wp2_with (first | ((with_reducible refine gate_callee (f := 18) rfl ?_); refine goesL_ (some 42) rfl rfl Tryd.func18 (by kernel_rfl) rfl #[.string t140, .string t142] rfl (by (try simp only [List.map_toArray, List.map_cons, List.map_nil]); first | done | rfl | (simp only [List.length_drop, List.length_take]; rfl) | (rw [wrap_sum2 (by assumption)]; rfl)) ?_; (with_reducible refine (head_Choose.calls kj2 t140 t142 t144 t145 t146 t147 t150 t151 _ A13.out).mono ?_); rintro e w43 ⟨v148, rfl, ho0, hb⟩; refine ⟨_, rfl, ?_⟩; have n0_ := Ax.mk (Kd.R_lower ho0 (bS bA)); have n1_ := Ax.mk (bP bA hb); clear HB; have HO149 := n0_; have HB := n1_; clear n0_ n1_; (try clear hb); (try clear hb2); (try clear hk); (try clear hi); (try clear ho0)) | ((with_reducible refine gate_dst (N := 5) rfl ?_); (try (refine gate_guard (by rfl) ?_; dsimp only)); refine box_event ?hg (N := 5) ?hd (cs := #[.int .u64 0, .int .i64 0, .int .i64 0, .slice none 0 0]) (t := 25) ?hr ?_; (case hd => rfl); (case hg => rfl); (case hr => first | (go_simp; done) | (go_simp; rfl)); intro gb152 hg w44 hbox hb; have n0_ := Ax.mk (Kd.R_below (by exact Kd.R_to HO149.out) hb); have n1_ := Ax.mk (bP bA hb); have n2_ := Ax.mk (hbox); have n3_ := Ax.mk ((ge_new hg : w.heap.size ≤ gb152)); have n4_ := n3_; clear HO149; clear HB; have HO149 := n0_; have HB := n1_; have BK152 := n2_; have GW152 := n3_; have GE152 := n4_; clear n0_ n1_ n2_ n3_ n4_; clear hb hbox hg; have hcz45_0 : w44.cell? ⟨gb152, 0, none⟩ = some (.int .u64 0) := (bC BK152.out 0).trans rfl; have hcz45_1 : w44.cell? ⟨gb152, 1, none⟩ = some (.int .i64 0) := (bC BK152.out 1).trans rfl; have hcz45_2 : w44.cell? ⟨gb152, 2, none⟩ = some (.int .i64 0) := (bC BK152.out 2).trans rfl; have hcz45_3 : w44.cell? ⟨gb152, 3, none⟩ = some (.slice none 0 0) := (bC BK152.out 3).trans rfl; have hfz45_0 := bF BK152.out 0; have hfz45_1 := bF BK152.out 1; have hfz45_2 := bF BK152.out 2; have hfz45_3 := bF BK152.out 3; obtain ⟨Ao46, co46, eo46⟩ := Kd.R_slice HO149.out; subst eo46) | ((with_reducible refine gate_callee (f := 18) rfl ?_); refine goesL_ (some 51) rfl rfl Tryd.func18 (by kernel_rfl) rfl #[.string t140, .string ((⟨#[113]⟩ : ByteArray) ++ (t142.extract 1 t142.size))] rfl (by (try simp only [List.map_toArray, List.map_cons, List.map_nil]); first | done | rfl | (simp only [List.length_drop, List.length_take]; rfl) | (rw [wrap_sum2 (by assumption)]; rfl)) ?_; (with_reducible refine (head_Choose.calls kj2 t140 ((⟨#[113]⟩ : ByteArray) ++ (t142.extract 1 t142.size)) t153 t154 t155 t156 t159 t160 _ A16.out).mono ?_); rintro e w47 ⟨v157, rfl, ho0, hb⟩; refine ⟨_, rfl, ?_⟩; have n0_ := Ax.mk (Kd.R_elder' (by apply Kd.R_to; exact (Kd.R_mono (Kd.R_far (p := ⟨gb152, 3, none⟩) (Kd.R_far (p := ⟨gb152, 2, none⟩) (Kd.R_far (p := ⟨gb152, 1, none⟩) (Kd.R_far (p := ⟨gb152, 0, none⟩) (Kd.R_types HO149.out BK152.out (by decide)) (fun _ hk => hk.2) (.int .u64 t144)) (fun _ hk => hk.2) (.int .i64 t145)) (fun _ hk => hk.2) (.int .i64 t146)) (fun _ hk => hk.2) (.slice Ao46 t147.length co46)) (fun _ h_ => h_.1))) (Kd.R_base ho0) hb); have n1_ := Ax.mk (Kd.R_lower (Kd.R_new' ho0 (Kd.R_lt (by apply Kd.R_to; exact (Kd.R_mono (Kd.R_far (p := ⟨gb152, 3, none⟩) (Kd.R_far (p := ⟨gb152, 2, none⟩) (Kd.R_far (p := ⟨gb152, 1, none⟩) (Kd.R_far (p := ⟨gb152, 0, none⟩) (Kd.R_types HO149.out BK152.out (by decide)) (fun _ hk => hk.2) (.int .u64 t144)) (fun _ hk => hk.2) (.int .i64 t145)) (fun _ hk => hk.2) (.int .i64 t146)) (fun _ hk => hk.2) (.slice Ao46 t147.length co46)) (fun _ h_ => h_.1))))) (bS bA)); have n2_ := Ax.mk (bB (g := gb152) (o := .cells #[.int .u64 t144, .int .i64 t145, .int .i64 t146, .slice Ao46 t147.length co46] 25 (0, 0)) (by refine bT ?_; refine bU (cs := #[.int .u64 t144, .int .i64 t145, .int .i64 t146, .slice none 0 0]) ?_ 3 _ rfl; refine bT ?_; refine bU (cs := #[.int .u64 t144, .int .i64 t145, .int .i64 0, .slice none 0 0]) ?_ 2 _ rfl; refine bT ?_; refine bU (cs := #[.int .u64 t144, .int .i64 0, .int .i64 0, .slice none 0 0]) ?_ 1 _ rfl; refine bT ?_; refine bU (cs := #[.int .u64 0, .int .i64 0, .int .i64 0, .slice none 0 0]) ?_ 0 _ rfl; exact bT BK152.out) hb); have n3_ := Ax.mk (bP bA hb); clear HO149; clear BK152; clear HB; have HO149 := n0_; have HO158 := n1_; have BK152 := n2_; have HB := n3_; clear n0_ n1_ n2_ n3_; (try clear hb); (try clear hb2); (try clear hk); (try clear hi); (try clear ho0)) | ((with_reducible refine gate_dst (N := 8) rfl ?_); (try (refine gate_guard (by rfl) ?_; dsimp only)); refine box_event ?hg (N := 8) ?hd (cs := #[.int .u64 0, .int .i64 0, .int .i64 0, .slice none 0 0]) (t := 25) ?hr ?_; (case hd => rfl); (case hg => rfl); (case hr => first | (go_simp; done) | (go_simp; rfl)); intro gb161 hg w48 hbox hb; have n0_ := Ax.mk (Kd.R_below (by exact Kd.R_to HO149.out) hb); have n1_ := Ax.mk (Kd.R_below (by exact Kd.R_to HO158.out) hb); have n2_ := Ax.mk (bB (bT BK152.out) hb); have n3_ := Ax.mk (bP bA hb); have n4_ := Ax.mk (hbox); have n5_ := Ax.mk ((ge_new hg : w.heap.size ≤ gb161)); have n6_ := n5_; have n7_ := Ax.mk ((ne_lt hg BK152.out : gb152 ≠ gb161)); have n8_ := Ax.mk ((ne_gt hg BK152.out : gb161 ≠ gb152)); clear HO149; clear HO158; clear BK152; clear HB; have HO149 := n0_; have HO158 := n1_; have BK152 := n2_; have HB := n3_; have BK161 := n4_; have GW161 := n5_; have GE161 := n6_; have NB152_161 := n7_; have NB161_152 := n8_; clear n0_ n1_ n2_ n3_ n4_ n5_ n6_ n7_ n8_; clear hb hbox hg; have hnb49 := NB161_152.out; have hnc49 := NB152_161.out; have hcz50_0 : w48.cell? ⟨gb161, 0, none⟩ = some (.int .u64 0) := (bC BK161.out 0).trans rfl; have hcz50_1 : w48.cell? ⟨gb161, 1, none⟩ = some (.int .i64 0) := (bC BK161.out 1).trans rfl; have hcz50_2 : w48.cell? ⟨gb161, 2, none⟩ = some (.int .i64 0) := (bC BK161.out 2).trans rfl; have hcz50_3 : w48.cell? ⟨gb161, 3, none⟩ = some (.slice none 0 0) := (bC BK161.out 3).trans rfl; have hfz50_0 := bF BK161.out 0; have hfz50_1 := bF BK161.out 1; have hfz50_2 := bF BK161.out 2; have hfz50_3 := bF BK161.out 3; obtain ⟨Ao51, co51, eo51⟩ := Kd.R_slice HO158.out; subst eo51; have hcz52_0 : w48.cell? ⟨gb152, 0, none⟩ = some (.int .u64 t144) := (bC BK152.out 0).trans rfl; have hcz52_1 : w48.cell? ⟨gb152, 1, none⟩ = some (.int .i64 t145) := (bC BK152.out 1).trans rfl; have hcz52_2 : w48.cell? ⟨gb152, 2, none⟩ = some (.int .i64 t146) := (bC BK152.out 2).trans rfl; have hcz52_3 : w48.cell? ⟨gb152, 3, none⟩ = some (.slice Ao46 t147.length co46) := (bC BK152.out 3).trans rfl; have hfz52_0 := bF BK152.out 0; have hfz52_1 := bF BK152.out 1; have hfz52_2 := bF BK152.out 2; have hfz52_3 := bF BK152.out 3))
           go_ret
           exact ⟨by first | rfl | (simp [errW_none, errW_some] <;> rfl) | (simp [*, errW_none, errW_some] <;> rfl), bA⟩
         ·rw [if_neg c20] at H
          have c20b0 : (t153 == 7) = false := beq_eq_false_iff_ne.mpr c20
          have c20b1 : (t153 != 7) = true := bne_iff_ne.mpr c20
          obtain rfl := Option.some.inj H
          go_wp2_with (first | ((with_reducible refine gate_callee (f := 18) rfl ?_); refine goesL_ (some 42) rfl rfl Tryd.func18 (by kernel_rfl) rfl #[.string t140, .string t142] rfl (by (try simp only [List.map_toArray, List.map_cons, List.map_nil]); first | done | rfl | (simp only [List.length_drop, List.length_take]; rfl) | (rw [wrap_sum2 (by assumption)]; rfl)) ?_; (with_reducible refine (head_Choose.calls kj2 t140 t142 t144 t145 t146 t147 t150 t151 _ A13.out).mono ?_); rintro e w53 ⟨v148, rfl, ho0, hb⟩; refine ⟨_, rfl, ?_⟩; have n0_ := Ax.mk (Kd.R_lower ho0 (bS bA)); have n1_ := Ax.mk (bP bA hb); clear HB; have HO149 := n0_; have HB := n1_; clear n0_ n1_; (try clear hb); (try clear hb2); (try clear hk); (try clear hi); (try clear ho0)) | ((with_reducible refine gate_dst (N := 5) rfl ?_); (try (refine gate_guard (by rfl) ?_; dsimp only)); refine box_event ?hg (N := 5) ?hd (cs := #[.int .u64 0, .int .i64 0, .int .i64 0, .slice none 0 0]) (t := 25) ?hr ?_; (case hd => rfl); (case hg => rfl); (case hr => first | (go_simp; done) | (go_simp; rfl)); intro gb152 hg w54 hbox hb; have n0_ := Ax.mk (Kd.R_below (by exact Kd.R_to HO149.out) hb); have n1_ := Ax.mk (bP bA hb); have n2_ := Ax.mk (hbox); have n3_ := Ax.mk ((ge_new hg : w.heap.size ≤ gb152)); have n4_ := n3_; clear HO149; clear HB; have HO149 := n0_; have HB := n1_; have BK152 := n2_; have GW152 := n3_; have GE152 := n4_; clear n0_ n1_ n2_ n3_ n4_; clear hb hbox hg; have hcz55_0 : w54.cell? ⟨gb152, 0, none⟩ = some (.int .u64 0) := (bC BK152.out 0).trans rfl; have hcz55_1 : w54.cell? ⟨gb152, 1, none⟩ = some (.int .i64 0) := (bC BK152.out 1).trans rfl; have hcz55_2 : w54.cell? ⟨gb152, 2, none⟩ = some (.int .i64 0) := (bC BK152.out 2).trans rfl; have hcz55_3 : w54.cell? ⟨gb152, 3, none⟩ = some (.slice none 0 0) := (bC BK152.out 3).trans rfl; have hfz55_0 := bF BK152.out 0; have hfz55_1 := bF BK152.out 1; have hfz55_2 := bF BK152.out 2; have hfz55_3 := bF BK152.out 3; obtain ⟨Ao56, co56, eo56⟩ := Kd.R_slice HO149.out; subst eo56) | ((with_reducible refine gate_callee (f := 18) rfl ?_); refine goesL_ (some 51) rfl rfl Tryd.func18 (by kernel_rfl) rfl #[.string t140, .string ((⟨#[113]⟩ : ByteArray) ++ (t142.extract 1 t142.size))] rfl (by (try simp only [List.map_toArray, List.map_cons, List.map_nil]); first | done | rfl | (simp only [List.length_drop, List.length_take]; rfl) | (rw [wrap_sum2 (by assumption)]; rfl)) ?_; (with_reducible refine (head_Choose.calls kj2 t140 ((⟨#[113]⟩ : ByteArray) ++ (t142.extract 1 t142.size)) t153 t154 t155 t156 t159 t160 _ A16.out).mono ?_); rintro e w57 ⟨v157, rfl, ho0, hb⟩; refine ⟨_, rfl, ?_⟩; have n0_ := Ax.mk (Kd.R_elder' (by apply Kd.R_to; exact (Kd.R_mono (Kd.R_far (p := ⟨gb152, 3, none⟩) (Kd.R_far (p := ⟨gb152, 2, none⟩) (Kd.R_far (p := ⟨gb152, 1, none⟩) (Kd.R_far (p := ⟨gb152, 0, none⟩) (Kd.R_types HO149.out BK152.out (by decide)) (fun _ hk => hk.2) (.int .u64 t144)) (fun _ hk => hk.2) (.int .i64 t145)) (fun _ hk => hk.2) (.int .i64 t146)) (fun _ hk => hk.2) (.slice Ao56 t147.length co56)) (fun _ h_ => h_.1))) (Kd.R_base ho0) hb); have n1_ := Ax.mk (Kd.R_lower (Kd.R_new' ho0 (Kd.R_lt (by apply Kd.R_to; exact (Kd.R_mono (Kd.R_far (p := ⟨gb152, 3, none⟩) (Kd.R_far (p := ⟨gb152, 2, none⟩) (Kd.R_far (p := ⟨gb152, 1, none⟩) (Kd.R_far (p := ⟨gb152, 0, none⟩) (Kd.R_types HO149.out BK152.out (by decide)) (fun _ hk => hk.2) (.int .u64 t144)) (fun _ hk => hk.2) (.int .i64 t145)) (fun _ hk => hk.2) (.int .i64 t146)) (fun _ hk => hk.2) (.slice Ao56 t147.length co56)) (fun _ h_ => h_.1))))) (bS bA)); have n2_ := Ax.mk (bB (g := gb152) (o := .cells #[.int .u64 t144, .int .i64 t145, .int .i64 t146, .slice Ao56 t147.length co56] 25 (0, 0)) (by refine bT ?_; refine bU (cs := #[.int .u64 t144, .int .i64 t145, .int .i64 t146, .slice none 0 0]) ?_ 3 _ rfl; refine bT ?_; refine bU (cs := #[.int .u64 t144, .int .i64 t145, .int .i64 0, .slice none 0 0]) ?_ 2 _ rfl; refine bT ?_; refine bU (cs := #[.int .u64 t144, .int .i64 0, .int .i64 0, .slice none 0 0]) ?_ 1 _ rfl; refine bT ?_; refine bU (cs := #[.int .u64 0, .int .i64 0, .int .i64 0, .slice none 0 0]) ?_ 0 _ rfl; exact bT BK152.out) hb); have n3_ := Ax.mk (bP bA hb); clear HO149; clear BK152; clear HB; have HO149 := n0_; have HO158 := n1_; have BK152 := n2_; have HB := n3_; clear n0_ n1_ n2_ n3_; (try clear hb); (try clear hb2); (try clear hk); (try clear hi); (try clear ho0)) | ((with_reducible refine gate_dst (N := 8) rfl ?_); (try (refine gate_guard (by rfl) ?_; dsimp only)); refine box_event ?hg (N := 8) ?hd (cs := #[.int .u64 0, .int .i64 0, .int .i64 0, .slice none 0 0]) (t := 25) ?hr ?_; (case hd => rfl); (case hg => rfl); (case hr => first | (go_simp; done) | (go_simp; rfl)); intro gb161 hg w58 hbox hb; have n0_ := Ax.mk (Kd.R_below (by exact Kd.R_to HO149.out) hb); have n1_ := Ax.mk (Kd.R_below (by exact Kd.R_to HO158.out) hb); have n2_ := Ax.mk (bB (bT BK152.out) hb); have n3_ := Ax.mk (bP bA hb); have n4_ := Ax.mk (hbox); have n5_ := Ax.mk ((ge_new hg : w.heap.size ≤ gb161)); have n6_ := n5_; have n7_ := Ax.mk ((ne_lt hg BK152.out : gb152 ≠ gb161)); have n8_ := Ax.mk ((ne_gt hg BK152.out : gb161 ≠ gb152)); clear HO149; clear HO158; clear BK152; clear HB; have HO149 := n0_; have HO158 := n1_; have BK152 := n2_; have HB := n3_; have BK161 := n4_; have GW161 := n5_; have GE161 := n6_; have NB152_161 := n7_; have NB161_152 := n8_; clear n0_ n1_ n2_ n3_ n4_ n5_ n6_ n7_ n8_; clear hb hbox hg; have hnb59 := NB161_152.out; have hnc59 := NB152_161.out; have hcz60_0 : w58.cell? ⟨gb161, 0, none⟩ = some (.int .u64 0) := (bC BK161.out 0).trans rfl; have hcz60_1 : w58.cell? ⟨gb161, 1, none⟩ = some (.int .i64 0) := (bC BK161.out 1).trans rfl; have hcz60_2 : w58.cell? ⟨gb161, 2, none⟩ = some (.int .i64 0) := (bC BK161.out 2).trans rfl; have hcz60_3 : w58.cell? ⟨gb161, 3, none⟩ = some (.slice none 0 0) := (bC BK161.out 3).trans rfl; have hfz60_0 := bF BK161.out 0; have hfz60_1 := bF BK161.out 1; have hfz60_2 := bF BK161.out 2; have hfz60_3 := bF BK161.out 3; obtain ⟨Ao61, co61, eo61⟩ := Kd.R_slice HO158.out; subst eo61; have hcz62_0 : w58.cell? ⟨gb152, 0, none⟩ = some (.int .u64 t144) := (bC BK152.out 0).trans rfl; have hcz62_1 : w58.cell? ⟨gb152, 1, none⟩ = some (.int .i64 t145) := (bC BK152.out 1).trans rfl; have hcz62_2 : w58.cell? ⟨gb152, 2, none⟩ = some (.int .i64 t146) := (bC BK152.out 2).trans rfl; have hcz62_3 : w58.cell? ⟨gb152, 3, none⟩ = some (.slice Ao56 t147.length co56) := (bC BK152.out 3).trans rfl; have hfz62_0 := bF BK152.out 0; have hfz62_1 := bF BK152.out 1; have hfz62_2 := bF BK152.out 2; have hfz62_3 := bF BK152.out 3))
          go_ret
          exact ⟨by first | rfl | (simp [errW_none, errW_some] <;> rfl) | (simp [*, errW_none, errW_some] <;> rfl), bA⟩
        ·rw [if_neg c19] at H
         have c19b0 : (t151 == 0) = false := beq_eq_false_iff_ne.mpr c19
         have c19b1 : (t151 != 0) = true := bne_iff_ne.mpr c19
         obtain rfl := Option.some.inj H
         go_wp2_with (first | ((with_reducible refine gate_callee (f := 18) rfl ?_); refine goesL_ (some 42) rfl rfl Tryd.func18 (by kernel_rfl) rfl #[.string t140, .string t142] rfl (by (try simp only [List.map_toArray, List.map_cons, List.map_nil]); first | done | rfl | (simp only [List.length_drop, List.length_take]; rfl) | (rw [wrap_sum2 (by assumption)]; rfl)) ?_; (with_reducible refine (head_Choose.calls kj2 t140 t142 t144 t145 t146 t147 t150 t151 _ A13.out).mono ?_); rintro e w63 ⟨v148, rfl, ho0, hb⟩; refine ⟨_, rfl, ?_⟩; have n0_ := Ax.mk (Kd.R_lower ho0 (bS bA)); have n1_ := Ax.mk (bP bA hb); clear HB; have HO149 := n0_; have HB := n1_; clear n0_ n1_; (try clear hb); (try clear hb2); (try clear hk); (try clear hi); (try clear ho0)) | ((with_reducible refine gate_dst (N := 5) rfl ?_); (try (refine gate_guard (by rfl) ?_; dsimp only)); refine box_event ?hg (N := 5) ?hd (cs := #[.int .u64 0, .int .i64 0, .int .i64 0, .slice none 0 0]) (t := 25) ?hr ?_; (case hd => rfl); (case hg => rfl); (case hr => first | (go_simp; done) | (go_simp; rfl)); intro gb152 hg w64 hbox hb; have n0_ := Ax.mk (Kd.R_below (by exact Kd.R_to HO149.out) hb); have n1_ := Ax.mk (bP bA hb); have n2_ := Ax.mk (hbox); have n3_ := Ax.mk ((ge_new hg : w.heap.size ≤ gb152)); have n4_ := n3_; clear HO149; clear HB; have HO149 := n0_; have HB := n1_; have BK152 := n2_; have GW152 := n3_; have GE152 := n4_; clear n0_ n1_ n2_ n3_ n4_; clear hb hbox hg; have hcz65_0 : w64.cell? ⟨gb152, 0, none⟩ = some (.int .u64 0) := (bC BK152.out 0).trans rfl; have hcz65_1 : w64.cell? ⟨gb152, 1, none⟩ = some (.int .i64 0) := (bC BK152.out 1).trans rfl; have hcz65_2 : w64.cell? ⟨gb152, 2, none⟩ = some (.int .i64 0) := (bC BK152.out 2).trans rfl; have hcz65_3 : w64.cell? ⟨gb152, 3, none⟩ = some (.slice none 0 0) := (bC BK152.out 3).trans rfl; have hfz65_0 := bF BK152.out 0; have hfz65_1 := bF BK152.out 1; have hfz65_2 := bF BK152.out 2; have hfz65_3 := bF BK152.out 3; obtain ⟨Ao66, co66, eo66⟩ := Kd.R_slice HO149.out; subst eo66) | ((with_reducible refine gate_callee (f := 18) rfl ?_); refine goesL_ (some 51) rfl rfl Tryd.func18 (by kernel_rfl) rfl #[.string t140, .string ((⟨#[113]⟩ : ByteArray) ++ (t142.extract 1 t142.size))] rfl (by (try simp only [List.map_toArray, List.map_cons, List.map_nil]); first | done | rfl | (simp only [List.length_drop, List.length_take]; rfl) | (rw [wrap_sum2 (by assumption)]; rfl)) ?_; (with_reducible refine (head_Choose.calls kj2 t140 ((⟨#[113]⟩ : ByteArray) ++ (t142.extract 1 t142.size)) t153 t154 t155 t156 t159 t160 _ A16.out).mono ?_); rintro e w67 ⟨v157, rfl, ho0, hb⟩; refine ⟨_, rfl, ?_⟩; have n0_ := Ax.mk (Kd.R_elder' (by apply Kd.R_to; exact (Kd.R_mono (Kd.R_far (p := ⟨gb152, 3, none⟩) (Kd.R_far (p := ⟨gb152, 2, none⟩) (Kd.R_far (p := ⟨gb152, 1, none⟩) (Kd.R_far (p := ⟨gb152, 0, none⟩) (Kd.R_types HO149.out BK152.out (by decide)) (fun _ hk => hk.2) (.int .u64 t144)) (fun _ hk => hk.2) (.int .i64 t145)) (fun _ hk => hk.2) (.int .i64 t146)) (fun _ hk => hk.2) (.slice Ao66 t147.length co66)) (fun _ h_ => h_.1))) (Kd.R_base ho0) hb); have n1_ := Ax.mk (Kd.R_lower (Kd.R_new' ho0 (Kd.R_lt (by apply Kd.R_to; exact (Kd.R_mono (Kd.R_far (p := ⟨gb152, 3, none⟩) (Kd.R_far (p := ⟨gb152, 2, none⟩) (Kd.R_far (p := ⟨gb152, 1, none⟩) (Kd.R_far (p := ⟨gb152, 0, none⟩) (Kd.R_types HO149.out BK152.out (by decide)) (fun _ hk => hk.2) (.int .u64 t144)) (fun _ hk => hk.2) (.int .i64 t145)) (fun _ hk => hk.2) (.int .i64 t146)) (fun _ hk => hk.2) (.slice Ao66 t147.length co66)) (fun _ h_ => h_.1))))) (bS bA)); have n2_ := Ax.mk (bB (g := gb152) (o := .cells #[.int .u64 t144, .int .i64 t145, .int .i64 t146, .slice Ao66 t147.length co66] 25 (0, 0)) (by refine bT ?_; refine bU (cs := #[.int .u64 t144, .int .i64 t145, .int .i64 t146, .slice none 0 0]) ?_ 3 _ rfl; refine bT ?_; refine bU (cs := #[.int .u64 t144, .int .i64 t145, .int .i64 0, .slice none 0 0]) ?_ 2 _ rfl; refine bT ?_; refine bU (cs := #[.int .u64 t144, .int .i64 0, .int .i64 0, .slice none 0 0]) ?_ 1 _ rfl; refine bT ?_; refine bU (cs := #[.int .u64 0, .int .i64 0, .int .i64 0, .slice none 0 0]) ?_ 0 _ rfl; exact bT BK152.out) hb); have n3_ := Ax.mk (bP bA hb); clear HO149; clear BK152; clear HB; have HO149 := n0_; have HO158 := n1_; have BK152 := n2_; have HB := n3_; clear n0_ n1_ n2_ n3_; (try clear hb); (try clear hb2); (try clear hk); (try clear hi); (try clear ho0)) | ((with_reducible refine gate_dst (N := 8) rfl ?_); (try (refine gate_guard (by rfl) ?_; dsimp only)); refine box_event ?hg (N := 8) ?hd (cs := #[.int .u64 0, .int .i64 0, .int .i64 0, .slice none 0 0]) (t := 25) ?hr ?_; (case hd => rfl); (case hg => rfl); (case hr => first | (go_simp; done) | (go_simp; rfl)); intro gb161 hg w68 hbox hb; have n0_ := Ax.mk (Kd.R_below (by exact Kd.R_to HO149.out) hb); have n1_ := Ax.mk (Kd.R_below (by exact Kd.R_to HO158.out) hb); have n2_ := Ax.mk (bB (bT BK152.out) hb); have n3_ := Ax.mk (bP bA hb); have n4_ := Ax.mk (hbox); have n5_ := Ax.mk ((ge_new hg : w.heap.size ≤ gb161)); have n6_ := n5_; have n7_ := Ax.mk ((ne_lt hg BK152.out : gb152 ≠ gb161)); have n8_ := Ax.mk ((ne_gt hg BK152.out : gb161 ≠ gb152)); clear HO149; clear HO158; clear BK152; clear HB; have HO149 := n0_; have HO158 := n1_; have BK152 := n2_; have HB := n3_; have BK161 := n4_; have GW161 := n5_; have GE161 := n6_; have NB152_161 := n7_; have NB161_152 := n8_; clear n0_ n1_ n2_ n3_ n4_ n5_ n6_ n7_ n8_; clear hb hbox hg; have hnb69 := NB161_152.out; have hnc69 := NB152_161.out; have hcz70_0 : w68.cell? ⟨gb161, 0, none⟩ = some (.int .u64 0) := (bC BK161.out 0).trans rfl; have hcz70_1 : w68.cell? ⟨gb161, 1, none⟩ = some (.int .i64 0) := (bC BK161.out 1).trans rfl; have hcz70_2 : w68.cell? ⟨gb161, 2, none⟩ = some (.int .i64 0) := (bC BK161.out 2).trans rfl; have hcz70_3 : w68.cell? ⟨gb161, 3, none⟩ = some (.slice none 0 0) := (bC BK161.out 3).trans rfl; have hfz70_0 := bF BK161.out 0; have hfz70_1 := bF BK161.out 1; have hfz70_2 := bF BK161.out 2; have hfz70_3 := bF BK161.out 3; obtain ⟨Ao71, co71, eo71⟩ := Kd.R_slice HO158.out; subst eo71; have hcz72_0 : w68.cell? ⟨gb152, 0, none⟩ = some (.int .u64 t144) := (bC BK152.out 0).trans rfl; have hcz72_1 : w68.cell? ⟨gb152, 1, none⟩ = some (.int .i64 t145) := (bC BK152.out 1).trans rfl; have hcz72_2 : w68.cell? ⟨gb152, 2, none⟩ = some (.int .i64 t146) := (bC BK152.out 2).trans rfl; have hcz72_3 : w68.cell? ⟨gb152, 3, none⟩ = some (.slice Ao66 t147.length co66) := (bC BK152.out 3).trans rfl; have hfz72_0 := bF BK152.out 0; have hfz72_1 := bF BK152.out 1; have hfz72_2 := bF BK152.out 2; have hfz72_3 := bF BK152.out 3))
         go_ret
         exact ⟨by first | rfl | (simp [errW_none, errW_some] <;> rfl) | (simp [*, errW_none, errW_some] <;> rfl), bA⟩
       ·rw [if_neg c18] at H
        have c18b0 : (t150 == 1) = false := beq_eq_false_iff_ne.mpr c18
        have c18b1 : (t150 != 1) = true := bne_iff_ne.mpr c18
        obtain rfl := Option.some.inj H
        go_wp2_with (first | ((with_reducible refine gate_callee (f := 18) rfl ?_); refine goesL_ (some 42) rfl rfl Tryd.func18 (by kernel_rfl) rfl #[.string t140, .string t142] rfl (by (try simp only [List.map_toArray, List.map_cons, List.map_nil]); first | done | rfl | (simp only [List.length_drop, List.length_take]; rfl) | (rw [wrap_sum2 (by assumption)]; rfl)) ?_; (with_reducible refine (head_Choose.calls kj2 t140 t142 t144 t145 t146 t147 t150 t151 _ A13.out).mono ?_); rintro e w73 ⟨v148, rfl, ho0, hb⟩; refine ⟨_, rfl, ?_⟩; have n0_ := Ax.mk (Kd.R_lower ho0 (bS bA)); have n1_ := Ax.mk (bP bA hb); clear HB; have HO149 := n0_; have HB := n1_; clear n0_ n1_; (try clear hb); (try clear hb2); (try clear hk); (try clear hi); (try clear ho0)) | ((with_reducible refine gate_dst (N := 5) rfl ?_); (try (refine gate_guard (by rfl) ?_; dsimp only)); refine box_event ?hg (N := 5) ?hd (cs := #[.int .u64 0, .int .i64 0, .int .i64 0, .slice none 0 0]) (t := 25) ?hr ?_; (case hd => rfl); (case hg => rfl); (case hr => first | (go_simp; done) | (go_simp; rfl)); intro gb152 hg w74 hbox hb; have n0_ := Ax.mk (Kd.R_below (by exact Kd.R_to HO149.out) hb); have n1_ := Ax.mk (bP bA hb); have n2_ := Ax.mk (hbox); have n3_ := Ax.mk ((ge_new hg : w.heap.size ≤ gb152)); have n4_ := n3_; clear HO149; clear HB; have HO149 := n0_; have HB := n1_; have BK152 := n2_; have GW152 := n3_; have GE152 := n4_; clear n0_ n1_ n2_ n3_ n4_; clear hb hbox hg; have hcz75_0 : w74.cell? ⟨gb152, 0, none⟩ = some (.int .u64 0) := (bC BK152.out 0).trans rfl; have hcz75_1 : w74.cell? ⟨gb152, 1, none⟩ = some (.int .i64 0) := (bC BK152.out 1).trans rfl; have hcz75_2 : w74.cell? ⟨gb152, 2, none⟩ = some (.int .i64 0) := (bC BK152.out 2).trans rfl; have hcz75_3 : w74.cell? ⟨gb152, 3, none⟩ = some (.slice none 0 0) := (bC BK152.out 3).trans rfl; have hfz75_0 := bF BK152.out 0; have hfz75_1 := bF BK152.out 1; have hfz75_2 := bF BK152.out 2; have hfz75_3 := bF BK152.out 3; obtain ⟨Ao76, co76, eo76⟩ := Kd.R_slice HO149.out; subst eo76) | ((with_reducible refine gate_callee (f := 18) rfl ?_); refine goesL_ (some 51) rfl rfl Tryd.func18 (by kernel_rfl) rfl #[.string t140, .string ((⟨#[113]⟩ : ByteArray) ++ (t142.extract 1 t142.size))] rfl (by (try simp only [List.map_toArray, List.map_cons, List.map_nil]); first | done | rfl | (simp only [List.length_drop, List.length_take]; rfl) | (rw [wrap_sum2 (by assumption)]; rfl)) ?_; (with_reducible refine (head_Choose.calls kj2 t140 ((⟨#[113]⟩ : ByteArray) ++ (t142.extract 1 t142.size)) t153 t154 t155 t156 t159 t160 _ A16.out).mono ?_); rintro e w77 ⟨v157, rfl, ho0, hb⟩; refine ⟨_, rfl, ?_⟩; have n0_ := Ax.mk (Kd.R_elder' (by apply Kd.R_to; exact (Kd.R_mono (Kd.R_far (p := ⟨gb152, 3, none⟩) (Kd.R_far (p := ⟨gb152, 2, none⟩) (Kd.R_far (p := ⟨gb152, 1, none⟩) (Kd.R_far (p := ⟨gb152, 0, none⟩) (Kd.R_types HO149.out BK152.out (by decide)) (fun _ hk => hk.2) (.int .u64 t144)) (fun _ hk => hk.2) (.int .i64 t145)) (fun _ hk => hk.2) (.int .i64 t146)) (fun _ hk => hk.2) (.slice Ao76 t147.length co76)) (fun _ h_ => h_.1))) (Kd.R_base ho0) hb); have n1_ := Ax.mk (Kd.R_lower (Kd.R_new' ho0 (Kd.R_lt (by apply Kd.R_to; exact (Kd.R_mono (Kd.R_far (p := ⟨gb152, 3, none⟩) (Kd.R_far (p := ⟨gb152, 2, none⟩) (Kd.R_far (p := ⟨gb152, 1, none⟩) (Kd.R_far (p := ⟨gb152, 0, none⟩) (Kd.R_types HO149.out BK152.out (by decide)) (fun _ hk => hk.2) (.int .u64 t144)) (fun _ hk => hk.2) (.int .i64 t145)) (fun _ hk => hk.2) (.int .i64 t146)) (fun _ hk => hk.2) (.slice Ao76 t147.length co76)) (fun _ h_ => h_.1))))) (bS bA)); have n2_ := Ax.mk (bB (g := gb152) (o := .cells #[.int .u64 t144, .int .i64 t145, .int .i64 t146, .slice Ao76 t147.length co76] 25 (0, 0)) (by refine bT ?_; refine bU (cs := #[.int .u64 t144, .int .i64 t145, .int .i64 t146, .slice none 0 0]) ?_ 3 _ rfl; refine bT ?_; refine bU (cs := #[.int .u64 t144, .int .i64 t145, .int .i64 0, .slice none 0 0]) ?_ 2 _ rfl; refine bT ?_; refine bU (cs := #[.int .u64 t144, .int .i64 0, .int .i64 0, .slice none 0 0]) ?_ 1 _ rfl; refine bT ?_; refine bU (cs := #[.int .u64 0, .int .i64 0, .int .i64 0, .slice none 0 0]) ?_ 0 _ rfl; exact bT BK152.out) hb); have n3_ := Ax.mk (bP bA hb); clear HO149; clear BK152; clear HB; have HO149 := n0_; have HO158 := n1_; have BK152 := n2_; have HB := n3_; clear n0_ n1_ n2_ n3_; (try clear hb); (try clear hb2); (try clear hk); (try clear hi); (try clear ho0)) | ((with_reducible refine gate_dst (N := 8) rfl ?_); (try (refine gate_guard (by rfl) ?_; dsimp only)); refine box_event ?hg (N := 8) ?hd (cs := #[.int .u64 0, .int .i64 0, .int .i64 0, .slice none 0 0]) (t := 25) ?hr ?_; (case hd => rfl); (case hg => rfl); (case hr => first | (go_simp; done) | (go_simp; rfl)); intro gb161 hg w78 hbox hb; have n0_ := Ax.mk (Kd.R_below (by exact Kd.R_to HO149.out) hb); have n1_ := Ax.mk (Kd.R_below (by exact Kd.R_to HO158.out) hb); have n2_ := Ax.mk (bB (bT BK152.out) hb); have n3_ := Ax.mk (bP bA hb); have n4_ := Ax.mk (hbox); have n5_ := Ax.mk ((ge_new hg : w.heap.size ≤ gb161)); have n6_ := n5_; have n7_ := Ax.mk ((ne_lt hg BK152.out : gb152 ≠ gb161)); have n8_ := Ax.mk ((ne_gt hg BK152.out : gb161 ≠ gb152)); clear HO149; clear HO158; clear BK152; clear HB; have HO149 := n0_; have HO158 := n1_; have BK152 := n2_; have HB := n3_; have BK161 := n4_; have GW161 := n5_; have GE161 := n6_; have NB152_161 := n7_; have NB161_152 := n8_; clear n0_ n1_ n2_ n3_ n4_ n5_ n6_ n7_ n8_; clear hb hbox hg; have hnb79 := NB161_152.out; have hnc79 := NB152_161.out; have hcz80_0 : w78.cell? ⟨gb161, 0, none⟩ = some (.int .u64 0) := (bC BK161.out 0).trans rfl; have hcz80_1 : w78.cell? ⟨gb161, 1, none⟩ = some (.int .i64 0) := (bC BK161.out 1).trans rfl; have hcz80_2 : w78.cell? ⟨gb161, 2, none⟩ = some (.int .i64 0) := (bC BK161.out 2).trans rfl; have hcz80_3 : w78.cell? ⟨gb161, 3, none⟩ = some (.slice none 0 0) := (bC BK161.out 3).trans rfl; have hfz80_0 := bF BK161.out 0; have hfz80_1 := bF BK161.out 1; have hfz80_2 := bF BK161.out 2; have hfz80_3 := bF BK161.out 3; obtain ⟨Ao81, co81, eo81⟩ := Kd.R_slice HO158.out; subst eo81; have hcz82_0 : w78.cell? ⟨gb152, 0, none⟩ = some (.int .u64 t144) := (bC BK152.out 0).trans rfl; have hcz82_1 : w78.cell? ⟨gb152, 1, none⟩ = some (.int .i64 t145) := (bC BK152.out 1).trans rfl; have hcz82_2 : w78.cell? ⟨gb152, 2, none⟩ = some (.int .i64 t146) := (bC BK152.out 2).trans rfl; have hcz82_3 : w78.cell? ⟨gb152, 3, none⟩ = some (.slice Ao76 t147.length co76) := (bC BK152.out 3).trans rfl; have hfz82_0 := bF BK152.out 0; have hfz82_1 := bF BK152.out 1; have hfz82_2 := bF BK152.out 2; have hfz82_3 := bF BK152.out 3))
        go_ret
        exact ⟨by first | rfl | (simp [errW_none, errW_some] <;> rfl) | (simp [*, errW_none, errW_some] <;> rfl), bA⟩
      ·rw [if_neg c17] at H
       have c17b0 : (t144 == 8) = false := beq_eq_false_iff_ne.mpr c17
       have c17b1 : (t144 != 8) = true := bne_iff_ne.mpr c17
       obtain rfl := Option.some.inj H
       go_wp2_with (first | ((with_reducible refine gate_callee (f := 18) rfl ?_); refine goesL_ (some 42) rfl rfl Tryd.func18 (by kernel_rfl) rfl #[.string t140, .string t142] rfl (by (try simp only [List.map_toArray, List.map_cons, List.map_nil]); first | done | rfl | (simp only [List.length_drop, List.length_take]; rfl) | (rw [wrap_sum2 (by assumption)]; rfl)) ?_; (with_reducible refine (head_Choose.calls kj2 t140 t142 t144 t145 t146 t147 t150 t151 _ A13.out).mono ?_); rintro e w83 ⟨v148, rfl, ho0, hb⟩; refine ⟨_, rfl, ?_⟩; have n0_ := Ax.mk (Kd.R_lower ho0 (bS bA)); have n1_ := Ax.mk (bP bA hb); clear HB; have HO149 := n0_; have HB := n1_; clear n0_ n1_; (try clear hb); (try clear hb2); (try clear hk); (try clear hi); (try clear ho0)) | ((with_reducible refine gate_dst (N := 5) rfl ?_); (try (refine gate_guard (by rfl) ?_; dsimp only)); refine box_event ?hg (N := 5) ?hd (cs := #[.int .u64 0, .int .i64 0, .int .i64 0, .slice none 0 0]) (t := 25) ?hr ?_; (case hd => rfl); (case hg => rfl); (case hr => first | (go_simp; done) | (go_simp; rfl)); intro gb152 hg w84 hbox hb; have n0_ := Ax.mk (Kd.R_below (by exact Kd.R_to HO149.out) hb); have n1_ := Ax.mk (bP bA hb); have n2_ := Ax.mk (hbox); have n3_ := Ax.mk ((ge_new hg : w.heap.size ≤ gb152)); have n4_ := n3_; clear HO149; clear HB; have HO149 := n0_; have HB := n1_; have BK152 := n2_; have GW152 := n3_; have GE152 := n4_; clear n0_ n1_ n2_ n3_ n4_; clear hb hbox hg; have hcz85_0 : w84.cell? ⟨gb152, 0, none⟩ = some (.int .u64 0) := (bC BK152.out 0).trans rfl; have hcz85_1 : w84.cell? ⟨gb152, 1, none⟩ = some (.int .i64 0) := (bC BK152.out 1).trans rfl; have hcz85_2 : w84.cell? ⟨gb152, 2, none⟩ = some (.int .i64 0) := (bC BK152.out 2).trans rfl; have hcz85_3 : w84.cell? ⟨gb152, 3, none⟩ = some (.slice none 0 0) := (bC BK152.out 3).trans rfl; have hfz85_0 := bF BK152.out 0; have hfz85_1 := bF BK152.out 1; have hfz85_2 := bF BK152.out 2; have hfz85_3 := bF BK152.out 3; obtain ⟨Ao86, co86, eo86⟩ := Kd.R_slice HO149.out; subst eo86) | ((with_reducible refine gate_callee (f := 18) rfl ?_); refine goesL_ (some 51) rfl rfl Tryd.func18 (by kernel_rfl) rfl #[.string t140, .string ((⟨#[113]⟩ : ByteArray) ++ (t142.extract 1 t142.size))] rfl (by (try simp only [List.map_toArray, List.map_cons, List.map_nil]); first | done | rfl | (simp only [List.length_drop, List.length_take]; rfl) | (rw [wrap_sum2 (by assumption)]; rfl)) ?_; (with_reducible refine (head_Choose.calls kj2 t140 ((⟨#[113]⟩ : ByteArray) ++ (t142.extract 1 t142.size)) t153 t154 t155 t156 t159 t160 _ A16.out).mono ?_); rintro e w87 ⟨v157, rfl, ho0, hb⟩; refine ⟨_, rfl, ?_⟩; have n0_ := Ax.mk (Kd.R_elder' (by apply Kd.R_to; exact (Kd.R_mono (Kd.R_far (p := ⟨gb152, 3, none⟩) (Kd.R_far (p := ⟨gb152, 2, none⟩) (Kd.R_far (p := ⟨gb152, 1, none⟩) (Kd.R_far (p := ⟨gb152, 0, none⟩) (Kd.R_types HO149.out BK152.out (by decide)) (fun _ hk => hk.2) (.int .u64 t144)) (fun _ hk => hk.2) (.int .i64 t145)) (fun _ hk => hk.2) (.int .i64 t146)) (fun _ hk => hk.2) (.slice Ao86 t147.length co86)) (fun _ h_ => h_.1))) (Kd.R_base ho0) hb); have n1_ := Ax.mk (Kd.R_lower (Kd.R_new' ho0 (Kd.R_lt (by apply Kd.R_to; exact (Kd.R_mono (Kd.R_far (p := ⟨gb152, 3, none⟩) (Kd.R_far (p := ⟨gb152, 2, none⟩) (Kd.R_far (p := ⟨gb152, 1, none⟩) (Kd.R_far (p := ⟨gb152, 0, none⟩) (Kd.R_types HO149.out BK152.out (by decide)) (fun _ hk => hk.2) (.int .u64 t144)) (fun _ hk => hk.2) (.int .i64 t145)) (fun _ hk => hk.2) (.int .i64 t146)) (fun _ hk => hk.2) (.slice Ao86 t147.length co86)) (fun _ h_ => h_.1))))) (bS bA)); have n2_ := Ax.mk (bB (g := gb152) (o := .cells #[.int .u64 t144, .int .i64 t145, .int .i64 t146, .slice Ao86 t147.length co86] 25 (0, 0)) (by refine bT ?_; refine bU (cs := #[.int .u64 t144, .int .i64 t145, .int .i64 t146, .slice none 0 0]) ?_ 3 _ rfl; refine bT ?_; refine bU (cs := #[.int .u64 t144, .int .i64 t145, .int .i64 0, .slice none 0 0]) ?_ 2 _ rfl; refine bT ?_; refine bU (cs := #[.int .u64 t144, .int .i64 0, .int .i64 0, .slice none 0 0]) ?_ 1 _ rfl; refine bT ?_; refine bU (cs := #[.int .u64 0, .int .i64 0, .int .i64 0, .slice none 0 0]) ?_ 0 _ rfl; exact bT BK152.out) hb); have n3_ := Ax.mk (bP bA hb); clear HO149; clear BK152; clear HB; have HO149 := n0_; have HO158 := n1_; have BK152 := n2_; have HB := n3_; clear n0_ n1_ n2_ n3_; (try clear hb); (try clear hb2); (try clear hk); (try clear hi); (try clear ho0)) | ((with_reducible refine gate_dst (N := 8) rfl ?_); (try (refine gate_guard (by rfl) ?_; dsimp only)); refine box_event ?hg (N := 8) ?hd (cs := #[.int .u64 0, .int .i64 0, .int .i64 0, .slice none 0 0]) (t := 25) ?hr ?_; (case hd => rfl); (case hg => rfl); (case hr => first | (go_simp; done) | (go_simp; rfl)); intro gb161 hg w88 hbox hb; have n0_ := Ax.mk (Kd.R_below (by exact Kd.R_to HO149.out) hb); have n1_ := Ax.mk (Kd.R_below (by exact Kd.R_to HO158.out) hb); have n2_ := Ax.mk (bB (bT BK152.out) hb); have n3_ := Ax.mk (bP bA hb); have n4_ := Ax.mk (hbox); have n5_ := Ax.mk ((ge_new hg : w.heap.size ≤ gb161)); have n6_ := n5_; have n7_ := Ax.mk ((ne_lt hg BK152.out : gb152 ≠ gb161)); have n8_ := Ax.mk ((ne_gt hg BK152.out : gb161 ≠ gb152)); clear HO149; clear HO158; clear BK152; clear HB; have HO149 := n0_; have HO158 := n1_; have BK152 := n2_; have HB := n3_; have BK161 := n4_; have GW161 := n5_; have GE161 := n6_; have NB152_161 := n7_; have NB161_152 := n8_; clear n0_ n1_ n2_ n3_ n4_ n5_ n6_ n7_ n8_; clear hb hbox hg; have hnb89 := NB161_152.out; have hnc89 := NB152_161.out; have hcz90_0 : w88.cell? ⟨gb161, 0, none⟩ = some (.int .u64 0) := (bC BK161.out 0).trans rfl; have hcz90_1 : w88.cell? ⟨gb161, 1, none⟩ = some (.int .i64 0) := (bC BK161.out 1).trans rfl; have hcz90_2 : w88.cell? ⟨gb161, 2, none⟩ = some (.int .i64 0) := (bC BK161.out 2).trans rfl; have hcz90_3 : w88.cell? ⟨gb161, 3, none⟩ = some (.slice none 0 0) := (bC BK161.out 3).trans rfl; have hfz90_0 := bF BK161.out 0; have hfz90_1 := bF BK161.out 1; have hfz90_2 := bF BK161.out 2; have hfz90_3 := bF BK161.out 3; obtain ⟨Ao91, co91, eo91⟩ := Kd.R_slice HO158.out; subst eo91; have hcz92_0 : w88.cell? ⟨gb152, 0, none⟩ = some (.int .u64 t144) := (bC BK152.out 0).trans rfl; have hcz92_1 : w88.cell? ⟨gb152, 1, none⟩ = some (.int .i64 t145) := (bC BK152.out 1).trans rfl; have hcz92_2 : w88.cell? ⟨gb152, 2, none⟩ = some (.int .i64 t146) := (bC BK152.out 2).trans rfl; have hcz92_3 : w88.cell? ⟨gb152, 3, none⟩ = some (.slice Ao86 t147.length co86) := (bC BK152.out 3).trans rfl; have hfz92_0 := bF BK152.out 0; have hfz92_1 := bF BK152.out 1; have hfz92_2 := bF BK152.out 2; have hfz92_3 := bF BK152.out 3))
       go_ret
       exact ⟨by first | rfl | (simp [errW_none, errW_some] <;> rfl) | (simp [*, errW_none, errW_some] <;> rfl), bA⟩
     ·rw [if_neg c15] at H
      exact absurd H (by simp)
    ·rw [if_neg c14] at H
     exact absurd H (by simp)
end Go.Proofs.YtcgejogmiglalaaDoor.Fn
end
