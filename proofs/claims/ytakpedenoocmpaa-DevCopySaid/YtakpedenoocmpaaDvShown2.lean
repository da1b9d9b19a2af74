import Derived.Test.YtakpedenoocmpaaDvShown
/-! chapter 4's examples: shown. -/
namespace Go.Proofs.Ytakpedenoocmpaa.Dv
open Go.RowKit Go.Proofs.YtakpedenoocmpaaW.PrintWords Go.Proofs.YtakpedenoocmpaaW.PrintLast Go.Proofs.YtakpedenoocmpaaW.PrintMore
attribute [local go_sem] max2_int min2_int max_two min_two max_three min_three max_four min_four
set_option linter.unusedVariables false
set_option linter.unusedSimpArgs false

/-- A row of numbers in a block of its own. -/
theorem keep_C {W : World} {h : Nat} {xs : List Int} (hb : W.heap[h]? = some (.cells (xs.map (Value.int .i64)).toArray 3 (0, 0))) (hn : xs.length ≤ maxLen) : (Kd.int .i64).C W (some ⟨h, 0, none⟩) xs.length xs := by
  have hR : (Kd.int .i64).R 3 W 0 (fun _ => True) (.slice (some ⟨h, 0, none⟩) xs.length xs.length) xs :=
    Kd.R_of_own (enc := Value.int .i64) (h1 := fun _ => rfl) ⟨by simp [encs], .inr ⟨h, xs.length, _, rfl, Nat.zero_le _, hb, Nat.le_refl _, hn, by simp, by simp only [encs, Nat.mul_one]; exact List.take_of_length_le (by simp)⟩⟩ (fun _ _ => trivial)
  exact (Kd.R_reads' hR).2.2
theorem keep_new {V W' : World} {b : Nat} (xs : List Int) (hn : xs.length ≤ maxLen) (h : Fr b (V.alloc (.cells (xs.map (Value.int .i64)).toArray 3)) W') : (Kd.int .i64).C W' (some ⟨V.heap.size, 0, none⟩) xs.length xs := by
  have h0 := heap_alloc_new V (.cells (xs.map (Value.int .i64)).toArray 3)
  exact keep_C ((h.kept _ _ _ _ h0 (by unfold Dt; omega)).trans h0) hn

theorem sh1 : (Dev.fresh 2).write 0 (sec 1) = (0, mk [sec 1, blankS] [blankS, blankS] [(0, sec 1)] (-1) false) := by
  simp [Dev.write, Dev.wrong, Dev.spend, Dev.put, fresh_eq, sec_size, mk, List.replicate]
theorem sh2 : (mk [sec 1, blankS] [blankS, blankS] [(0, sec 1)] (-1) false).flush = (0, mk [sec 1, blankS] [sec 1, blankS] [] (-1) false) := by
  simp [Dev.flush, Dev.spend, mk, laid]
theorem sh3 : (mk [sec 1, blankS] [sec 1, blankS] [] (-1) false).write 0 (sec 2) = (0, mk [sec 2, blankS] [sec 1, blankS] [(0, sec 2)] (-1) false) := by
  simp [Dev.write, Dev.wrong, Dev.spend, Dev.put, sec_size, mk]
theorem sh4 : (mk [sec 2, blankS] [sec 1, blankS] [(0, sec 2)] (-1) false).write 0 (sec 3) = (0, mk [sec 3, blankS] [sec 1, blankS] [(0, sec 2), (0, sec 3)] (-1) false) := by
  simp [Dev.write, Dev.wrong, Dev.spend, Dev.put, sec_size, mk]
theorem sh5 : (mk [sec 3, blankS] [sec 1, blankS] [(0, sec 2), (0, sec 3)] (-1) false).power [1] = mk [sec 2, blankS] [sec 2, blankS] [] (-1) false := by
  simp [Dev.power, keptOf, odd1, laid, mk]
theorem sh6 : (Dev.fresh 1).arm 1 = mk [blankS] [blankS] [] 1 false := by
  simp [Dev.arm, fresh_eq, mk, List.replicate]
theorem sh7 : (mk [blankS] [blankS] [] 1 false).write 0 (sec 1) = (0, mk [sec 1] [blankS] [(0, sec 1)] 0 false) := by
  simp [Dev.write, Dev.wrong, Dev.spend, Dev.put, sec_size, mk]
theorem sh8 : (mk [sec 1] [blankS] [(0, sec 1)] 0 false).write 0 (sec 2) = (8, mk [sec 1] [blankS] [(0, sec 1)] 0 true) := by
  simp [Dev.write, Dev.wrong, Dev.spend, Dev.put, sec_size, mk]
theorem sh9 : (mk [sec 1] [blankS] [(0, sec 1)] 0 true).power [1, 1] = mk [sec 1] [sec 1] [] (-1) false := by
  simp [Dev.power, keptOf, odd1, laid, mk]
theorem sh10 : (if (mk [sec 2, blankS] [sec 2, blankS] [] (-1) false).wrong 0 = 0 then rdOf ByteArray.empty (mk [sec 2, blankS] [sec 2, blankS] [] (-1) false).now 0 else ⟨#[]⟩) = sec 2 ∧ (mk [sec 2, blankS] [sec 2, blankS] [] (-1) false).wrong 0 = 0 := by
  simp [Dev.wrong, mk, rdOf]
theorem sh11 : (if (mk [sec 1] [sec 1] [] (-1) false).wrong 0 = 0 then rdOf ByteArray.empty (mk [sec 1] [sec 1] [] (-1) false).now 0 else ⟨#[]⟩) = sec 1 ∧ (mk [sec 1] [sec 1] [] (-1) false).wrong 0 = 0 := by
  simp [Dev.wrong, mk, rdOf]
section
variable {W : World} {b : Nat} {L : List (Nat × Dev)}
theorem stepP (h : Devs W b L) (i : Nat) {g : Nat} {D D' : Dev} (xs : List Int) (hi : L[i]? = some (g, D)) (hb : b ≤ W.heap.size) (hw : D.power xs = D') (hp : D.pend.length ≤ 1000000) (hn : xs.length ≤ maxLen) :
    Calls Try.prog 16 #[.pointer (some ⟨g, 0, none⟩), .slice (some ⟨W.heap.size, 0, none⟩) xs.length xs.length] (W.alloc (.cells (xs.map (Value.int .i64)).toArray 3)) fun r W1 => r = .returned (.tuple #[]) ∧ Devs W1 b (L.set i (g, D')) ∧ Fr b W W1 := by
  have hb1 : b ≤ (W.alloc (.cells (xs.map (Value.int .i64)).toArray 3)).heap.size := by simp; omega
  have := dPower (h.alloc (.cells (xs.map (Value.int .i64)).toArray 3)) i hi hb1 hp (some ⟨W.heap.size, 0, none⟩) xs xs.length (fun W' hF => keep_new xs hn hF)
  rw [hw] at this
  refine this.mono ?_
  rintro e W1 ⟨he, hV, hF⟩
  exact ⟨he, hV, (Fr.of_grow (below_alloc (Below.refl _ _) _) hb).trans hF⟩
theorem stepR (h : Devs W b L) (i : Nat) {g : Nat} {D : Dev} {at_ : Int} {s : ByteArray} (hi : L[i]? = some (g, D)) (hw : (if D.wrong at_ = 0 then rdOf ByteArray.empty D.now at_ else ⟨#[]⟩) = s ∧ D.wrong at_ = 0) :
    Calls Try.prog 15 #[.pointer (some ⟨g, 0, none⟩), .int .i64 at_] W fun e W' => e = .returned (.tuple #[.string s, .int .i64 0]) ∧ Drawn0 W W' := by
  have := dRead h i hi at_
  rwa [hw.1, hw.2] at this
theorem stepA (h : Devs W b L) (i : Nat) {g : Nat} {D D' : Dev} {n : Int} (hi : L[i]? = some (g, D)) (hb : b ≤ W.heap.size) (hn : n < 9223372036854775808) (hw : D.arm n = D') :
    Calls Try.prog 17 #[.pointer (some ⟨g, 0, none⟩), .int .i64 n] W fun e W1 => e = .returned (.tuple #[]) ∧ Devs W1 b (L.set i (g, D')) ∧ Fr b W W1 := by
  have := dArm h i hi hb n hn
  rwa [hw] at this
end

attribute [local irreducible] sec blankS Dev.write Dev.flush Dev.power Dev.arm Dev.fresh mk
theorem stepN {W : World} {b : Nat} {L : List (Nat × Dev)} (h : Devs W b L) (hb : b ≤ W.heap.size) (n : Nat) {x : Int} (hx : x = (n : Int)) (h1 : 1 ≤ n) (h2 : n ≤ 8192) :
    Calls Try.prog 10 #[.int .i64 x] W fun e W1 => ∃ g, e = .returned (.tuple #[.pointer (some ⟨g, 0, none⟩), .int .i64 0]) ∧ Devs W1 b (L ++ [(g, Dev.fresh n)]) ∧ Fr b W W1 := by
  rw [hx]
  exact dNew h hb n h1 h2
set_option maxHeartbeats 1000000 in
set_option maxRecDepth 100000 in
theorem shown_calls (W : World) : Calls Try.prog 8 #[] W fun e W' => e = .returned (.bool true) ∧ Below W.heap.size W W' := by
  have HV := Aside0.mk (Devs.nil W W.heap.size)
  have HB := Aside0.mk (Below.refl W.heap.size W)
  go_enter Try.func8, Try.ntmps8
  go_wp2_with (first
    | (go_at_call 13; (with_reducible refine (sector_calls _ _).mono ?_); rintro e w' ⟨rfl, hb⟩; have HV' := Aside0.mk (HV.out.below hb); have HB' := Aside0.mk (HB.out.trans (hb.mono HB.out.size)); clear HV HB hb; have HV := HV'; have HB := HB'; clear HV' HB')
    | (go_at_call 10; (first | (have hC := stepN HV.out HB.out.size 2 (x := 2) rfl (by decide) (by decide); with_reducible refine hC.mono ?_; clear hC)); rintro e w' ⟨g1, rfl, hV, hF⟩; have HV' := Aside0.mk hV; have HB' := Aside0.mk (HB.out.trans hF.below); clear HV HB hV hF; have HV := HV'; have HB := HB'; clear HV' HB')
    | (go_at_call 10; (first | (have hC := stepN HV.out HB.out.size 1 (x := 1) rfl (by decide) (by decide); with_reducible refine hC.mono ?_; clear hC)); rintro e w' ⟨g2, rfl, hV, hF⟩; have HV' := Aside0.mk hV; have HB' := Aside0.mk (HB.out.trans hF.below); clear HV HB hV hF; have HV := HV'; have HB := HB'; clear HV' HB')
    | (go_at_call 12; (first | (have hC := stepW HV.out 0 rfl HB.out.size sh1 (by simp [fresh_eq]); with_reducible refine hC.mono ?_; clear hC) | (have hC := stepW HV.out 0 rfl HB.out.size sh3 (by simp [mk]); with_reducible refine hC.mono ?_; clear hC) | (have hC := stepW HV.out 0 rfl HB.out.size sh4 (by simp [mk]); with_reducible refine hC.mono ?_; clear hC) | (have hC := stepW HV.out 1 rfl HB.out.size sh7 (by simp [mk]); with_reducible refine hC.mono ?_; clear hC) | (have hC := stepW HV.out 1 rfl HB.out.size sh8 (by simp [mk]); with_reducible refine hC.mono ?_; clear hC)); rintro e w' ⟨rfl, hV, hF⟩; have HV' := Aside0.mk hV; have HB' := Aside0.mk (HB.out.trans hF.below); clear HV HB hV hF; have HV := HV'; have HB := HB'; clear HV' HB')
    | (go_at_call 14; (first | (have hC := stepF HV.out 0 rfl HB.out.size sh2 (by simp [mk]); with_reducible refine hC.mono ?_; clear hC)); rintro e w' ⟨rfl, hV, hF⟩; have HV' := Aside0.mk hV; have HB' := Aside0.mk (HB.out.trans hF.below); clear HV HB hV hF; have HV := HV'; have HB := HB'; clear HV' HB')
    | (go_at_call 17; (first | (have hC := stepA HV.out 1 rfl HB.out.size (by decide) sh6; with_reducible refine hC.mono ?_; clear hC)); rintro e w' ⟨rfl, hV, hF⟩; have HV' := Aside0.mk hV; have HB' := Aside0.mk (HB.out.trans hF.below); clear HV HB hV hF; have HV := HV'; have HB := HB'; clear HV' HB')
    | (go_at_call 16; (first | (have hC := stepP HV.out 0 [1] rfl HB.out.size sh5 (by simp [mk]) (by decide); refine hC.mono ?_; clear hC) | (have hC := stepP HV.out 1 [1, 1] rfl HB.out.size sh9 (by simp [mk]) (by decide); refine hC.mono ?_; clear hC)); rintro e w' ⟨rfl, hV, hF⟩; have HV' := Aside0.mk hV; have HB' := Aside0.mk (HB.out.trans hF.below); clear HV HB hV hF; have HV := HV'; have HB := HB'; clear HV' HB')
    | (go_at_call 15; (first | (have hC := stepR HV.out 0 rfl sh10; with_reducible refine hC.mono ?_; clear hC) | (have hC := stepR HV.out 1 rfl sh11; with_reducible refine hC.mono ?_; clear hC)); rintro e w' ⟨rfl, ⟨nd, rfl⟩⟩; have HV' := Aside0.mk (HV.out.drewN nd); have HB' := Aside0.mk (pw_below_drewN HB.out nd); clear HV HB; have HV := HV'; have HB := HB'; clear HV' HB'))
  go_ret
  exact ⟨by first | rfl | (simp; done), HB.out⟩
end Go.Proofs.Ytakpedenoocmpaa.Dv
