import Derived.Test.YtakpedenoocmpaaDvCopy0
/-! alike. -/
namespace Go.Proofs.Ytakpedenoocmpaa.Dv
open Go.RowKit Go.Proofs.YtakpedenoocmpaaW.PrintWords Go.Proofs.YtakpedenoocmpaaW.PrintLast Go.Proofs.YtakpedenoocmpaaW.PrintMore
attribute [local go_sem] max2_int min2_int max_two min_two max_three min_three max_four min_four
set_option linter.unusedVariables false
set_option linter.unusedSimpArgs false

section
variable {W W1 : World} {b b' g m : Nat} {F F' : Nat → Prop} {D : Dev}
theorem IsDev.drawn (h : IsDev W b F g D) (hd : Drawn0 W W1) : IsDev W1 b F g D := by
  obtain ⟨n, rfl⟩ := hd
  exact h.step (fun _ _ _ => rfl)
theorem Rf.IsDev.drawn (h : Rf.IsDev W b F g D) (hd : Drawn0 W W1) : Rf.IsDev W1 b F g D := by
  obtain ⟨n, rfl⟩ := hd
  exact h.step (fun _ _ _ => rfl)
/-- Two devices of the same data; w: the world they were found in. -/
structure Two (w : World) (b b' g m : Nat) (F F' : Nat → Prop) (D : Dev) (V : World) : Prop where
  dev : IsDev V b F g D
  ref : Rf.IsDev V b' F' m D
  dr : Drawn0 w V
theorem Two.drawn {w V V1 : World} (h : Two w b b' g m F F' D V) (hd : Drawn0 V V1) : Two w b b' g m F F' D V1 := ⟨h.dev.drawn hd, Rf.IsDev.drawn h.ref hd, by
  obtain ⟨n, rfl⟩ := hd
  obtain ⟨k, rfl⟩ := h.dr
  exact ⟨k + n, by simp [World.drewN, Nat.add_assoc]⟩⟩
set_option maxHeartbeats 8000000 in
set_option maxRecDepth 100000 in
theorem alike_calls (hd : IsDev W b F g D) (hm : Rf.IsDev W b' F' m D) : Calls Try.prog 23 #[.pointer (some ⟨g, 0, none⟩), .pointer (some ⟨m, 0, none⟩)] W fun e W' => e = .returned (.bool true) ∧ Drawn0 W W' := by
  have HT := Aside0.mk (Two.mk hd hm (Drawn0.refl W))
  have HCC : Aside0 (∃ g1 c1 A c, ∀ V, Two W b b' g m F F' D V → V.cell? ⟨m, 0, none⟩ = some (.slice (some ⟨g1, 0, none⟩) D.now.length c1) ∧ V.cell? ⟨m, 2, none⟩ = some (.slice A D.pend.length c) ∧ V.cell? ⟨m, 4, none⟩ = some (.bool D.down)) := by
    obtain ⟨g1, c1, g2, c2, v3, h⟩ := hm
    obtain ⟨A, c, rfl⟩ := Kd.R_slice h.pend
    refine ⟨g1, c1, A, c, fun V hV => ?_⟩
    obtain ⟨n, rfl⟩ := hV.dr
    exact ⟨h.cell0, h.cell2, h.cell4⟩
  have HSM := Aside0.mk hd.ok.small
  clear hd hm
  obtain ⟨⟨g1, c1, A, c, hcc⟩⟩ := HCC
  have HCC := Aside0.mk hcc
  clear hcc
  obtain ⟨q0, q2, q4⟩ := HCC.out _ HT.out
  go_enter Try.func23, Try.ntmps23
  go_wp2
  have ht0 := HT.out.drawn (show Drawn0 W W.drew from ⟨1, rfl⟩)
  clear q0 q2 q4 HT
  go_region_held3 (fun V => V.cell? ⟨m, 0, none⟩ = some (.slice (some ⟨g1, 0, none⟩) D.now.length c1) ∧ V.cell? ⟨m, 2, none⟩ = some (.slice A D.pend.length c) ∧ V.cell? ⟨m, 4, none⟩ = some (.bool D.down))
    (first | exact HCC.out _ ht3 | exact HCC.out _ ht2 | exact HCC.out _ ht1 | exact HCC.out _ ht0) (first
    | (go_at_call 36; (with_reducible refine (Sectors_calls ht0.dev).mono ?_); rintro e v1 ⟨rfl, hd1⟩; have ht1 := ht0.drawn hd1)
    | (go_at_call 18; (with_reducible refine (Down_calls ht1.dev).mono ?_); rintro e v2 ⟨rfl, hd2⟩; have ht2 := ht1.drawn hd2)
    | (go_at_call 19; (with_reducible refine (Pending_calls ht2.dev).mono ?_); rintro e v3 ⟨rfl, hd3⟩; have ht3 := ht2.drawn hd3))
  have HT := Aside0.mk ht3
  clear ht0 ht1 ht2 ht3 hd1 hd2 hd3
  go_wp2
  go_loopw [5] (fun v5 wr => ∃ (i : Int), v5 = .int .i64 i ∧ -1 ≤ i ∧ i ≤ (D.now.length : Int) + 1 ∧ Aside0 (Two W b b' g m F F' D wr)) (fun v5 _ => ((D.now.length : Int) + 1 - intOf v5).toNat)
  case atStart => exact ⟨-1, rfl, by omega, by omega, HT⟩
  case round =>
    clear HT
    obtain ⟨i, rfl, hi0, hi1, HT⟩ := hrel
    have q0 := (HCC.out _ HT.out).1
    have hsm := HSM.out
    by_cases hlt : i ≤ (D.now.length : Int)
    · have HLT := Aside0.mk hlt
      have HI0 := Aside0.mk hi0
      have hlt1 := decide_eq_true hlt
      have HRD := Aside0.mk (fun V (hV : Two W b b' g m F F' D V) => And.intro (Read_calls hV.dev i) (Rf.Read_calls hV.ref i))
      generalize (if D.wrong i = 0 then rdOf ByteArray.empty D.now i else ⟨#[]⟩) = s at HRD
      generalize D.wrong i = z at HRD
      go_wp2_with (first
        | (go_at_call 15; (with_reducible refine ((HRD.out _ HT.out).1).mono ?_); rintro e w1 ⟨rfl, hd⟩; have HT' := Aside0.mk (HT.out.drawn hd); clear HT hd; have HT := HT'; clear HT')
        | (go_at_call 37; (with_reducible refine ((HRD.out _ HT.out).2).mono ?_); rintro e w2 ⟨rfl, hd⟩; have HT' := Aside0.mk (HT.out.drawn hd); clear HT hd; have HT := HT'; clear HT'))
      go_roundw
      case rel => exact ⟨i + 1, by go_num, by have := HI0.out; omega, by have := HLT.out; omega, HT⟩
      case measure => have := HLT.out; simp [intOf]; omega
    · have hlt1 := decide_eq_false hlt
      go_wp2
      go_ret
      exact ⟨rfl, HT.out.dr⟩
end
end Go.Proofs.Ytakpedenoocmpaa.Dv
