import Derived.Test.YtakpedenoocmpaaDvNew
/-! The device's functions, several devices beside one another. -/
namespace Go.Proofs.Ytakpedenoocmpaa.Dv
open Go.RowKit Go.Proofs.YtakpedenoocmpaaW.PrintWords
set_option linter.unusedVariables false
set_option linter.unusedSimpArgs false

section
variable {W : World} {b : Nat} {L : List (Nat × Dev)} {i g : Nat} {D : Dev}
theorem Devs.get (h : Devs W b L) (hi : L[i]? = some (g, D)) : ∃ F, IsDev W b F g D := by
  obtain ⟨Fs, h1, _⟩ := h
  exact ⟨_, h1 i g D hi⟩
theorem dWrite (h : Devs W b L) (i : Nat) {g : Nat} {D : Dev} (hi : L[i]? = some (g, D)) (hb : b ≤ W.heap.size) (hp : D.pend.length ≤ 1000000) (at_ : Int) (s : ByteArray) :
    Calls Try.prog 12 #[.pointer (some ⟨g, 0, none⟩), .int .i64 at_, .string s] W fun e W1 => e = .returned (.int .i64 (D.write at_ s).1) ∧ Devs W1 b (L.set i (g, (D.write at_ s).2)) ∧ Fr b W W1 :=
  h.lift hb hi (fun F _ hI => Write_calls hI at_ s hp hb)
theorem dFlush (h : Devs W b L) (i : Nat) {g : Nat} {D : Dev} (hi : L[i]? = some (g, D)) (hb : b ≤ W.heap.size) (hp : D.pend.length ≤ 1000000) :
    Calls Try.prog 14 #[.pointer (some ⟨g, 0, none⟩)] W fun e W1 => e = .returned (.int .i64 D.flush.1) ∧ Devs W1 b (L.set i (g, D.flush.2)) ∧ Fr b W W1 :=
  h.lift hb hi (fun F _ hI => Flush_calls hI hp)
theorem dArm (h : Devs W b L) (i : Nat) {g : Nat} {D : Dev} (hi : L[i]? = some (g, D)) (hb : b ≤ W.heap.size) (n : Int) (hn : n < 9223372036854775808) :
    Calls Try.prog 17 #[.pointer (some ⟨g, 0, none⟩), .int .i64 n] W fun e W1 => e = .returned (.tuple #[]) ∧ Devs W1 b (L.set i (g, D.arm n)) ∧ Fr b W W1 :=
  h.lift hb hi (fun F _ hI => Arm_calls hI n hn)
theorem dPower (h : Devs W b L) (i : Nat) {g : Nat} {D : Dev} (hi : L[i]? = some (g, D)) (hb : b ≤ W.heap.size) (hp : D.pend.length ≤ 1000000) (K : Option Addr) (keep : List Int) (ck : Nat) (hk : ∀ W', Fr b W W' → (Kd.int .i64).C W' K keep.length keep) :
    Calls Try.prog 16 #[.pointer (some ⟨g, 0, none⟩), .slice K keep.length ck] W fun e W1 => e = .returned (.tuple #[]) ∧ Devs W1 b (L.set i (g, D.power keep)) ∧ Fr b W W1 :=
  h.lift hb hi (fun F hF hI => Power_calls hI hp K keep ck (fun W' hM => hk W' (hM.fr hF hb)))
theorem dRead (h : Devs W b L) (i : Nat) {g : Nat} {D : Dev} (hi : L[i]? = some (g, D)) (at_ : Int) :
    Calls Try.prog 15 #[.pointer (some ⟨g, 0, none⟩), .int .i64 at_] W fun e W' => e = .returned (.tuple #[.string (if D.wrong at_ = 0 then rdOf ByteArray.empty D.now at_ else ⟨#[]⟩), .int .i64 (D.wrong at_)]) ∧ Drawn0 W W' := by
  obtain ⟨F, hI⟩ := h.get hi
  exact Read_calls hI at_
theorem dDown (h : Devs W b L) (i : Nat) {g : Nat} {D : Dev} (hi : L[i]? = some (g, D)) :
    Calls Try.prog 18 #[.pointer (some ⟨g, 0, none⟩)] W fun e W' => e = .returned (.bool D.down) ∧ Drawn0 W W' := by
  obtain ⟨F, hI⟩ := h.get hi
  exact Down_calls hI
theorem dPending (h : Devs W b L) (i : Nat) {g : Nat} {D : Dev} (hi : L[i]? = some (g, D)) :
    Calls Try.prog 19 #[.pointer (some ⟨g, 0, none⟩)] W fun e W' => e = .returned (.int .i64 D.pend.length) ∧ Drawn0 W W' := by
  obtain ⟨F, hI⟩ := h.get hi
  exact Pending_calls hI
theorem dNew (h : Devs W b L) (hb : b ≤ W.heap.size) (n : Nat) (h1 : 1 ≤ n) (h2 : n ≤ 8192) :
    Calls Try.prog 10 #[.int .i64 n] W fun e W1 => ∃ g, e = .returned (.tuple #[.pointer (some ⟨g, 0, none⟩), .int .i64 0]) ∧ Devs W1 b (L ++ [(g, Dev.fresh n)]) ∧ Fr b W W1 :=
  (New_calls n W b hb h1 h2).mono (fun e W1 ⟨g, he, hB, hI⟩ => ⟨g, he, h.snoc hB hb hI (fun _ hk => hk), Fr.of_grow hB hb⟩)
theorem dClone (h : Devs W b L) (i : Nat) {g : Nat} {D : Dev} (hi : L[i]? = some (g, D)) (hb : b ≤ W.heap.size) (hp : D.pend.length ≤ 1000000) :
    Calls Try.prog 20 #[.pointer (some ⟨g, 0, none⟩)] W fun e W1 => ∃ g', e = .returned (.pointer (some ⟨g', 0, none⟩)) ∧ Devs W1 b (L ++ [(g', D)]) ∧ Fr b W W1 := by
  obtain ⟨F, hI⟩ := h.get hi
  exact (Clone_calls hI hb hp).mono (fun e W1 ⟨g', he, hB, hI'⟩ => ⟨g', he, h.snoc hB hb hI' (fun _ hk => hk), Fr.of_grow hB hb⟩)
end
end Go.Proofs.Ytakpedenoocmpaa.Dv
