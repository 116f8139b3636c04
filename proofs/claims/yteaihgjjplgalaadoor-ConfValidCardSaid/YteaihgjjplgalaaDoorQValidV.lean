/- Written by mkcv.py out of QValid. -/
/- Which configs may be: the program's test and the reference's, as the print has them, say one thing: plain laws. -/
import Derived.Test.YteaihgjjplgalaaDoorDoorValid
import Derived.Test.YteaihgjjplgalaaDoorPConfValidx3
namespace Go.Proofs.YteaihgjjplgalaaDoor
open Go.RowKit Go.Proofs.YteaihgjjplgalaaDoorW.PrintWords Go.Proofs.YteaihgjjplgalaaDoorW.PrintLast Go.Proofs.YteaihgjjplgalaaDoorW.PrintMore
set_option linter.unusedVariables false
set_option linter.unusedSimpArgs false

/-- From some number of rounds on it is r. -/
def Ev {α : Type} (F : Nat → Option α) (r : α) : Prop := ∃ K, ∀ k, K ≤ k → F k = some r
def ringP (r : Int) : Prop := r = 2 ∨ r = 4 ∨ r = 8 ∨ r = 16 ∨ r = 32 ∨ r = 64
instance (r : Int) : Decidable (ringP r) := by unfold ringP; exact inferInstance
abbrev validP (a0 a1 a2 a3 a4 a5 a6 a7 a8 a9 a10 a11 a12 a13 a14 a15 : Int) : Prop :=
  (1 ≤ a0 ∧ a0 ≤ 8) ∧ (1 ≤ a1 ∧ a1 ≤ 1024) ∧ (1 ≤ a2 ∧ a2 ≤ 1099511627776) ∧ (1 ≤ a3 ∧ a3 ≤ 1099511627776) ∧ (0 ≤ a5 ∧ a5 ≤ a4 ∧ 0 ≤ a6) ∧ (a2 ≤ a7 ∧ a7 ≤ 1125899906842624) ∧
  ((0 ≤ a9 ∧ 0 ≤ a10 ∧ 0 ≤ a11 ∧ 0 ≤ a12) ∧ 1 ≤ a13) ∧ (1 ≤ a14 ∧ a14 ≤ 16) ∧ (2 ≤ a15 ∧ a15 ≤ 64) ∧ ringP a15
theorem ring_law (r : Int) (h : 2 ≤ r ∧ r ≤ 64) : (Go.bits .and .i64 r (wrap64 (r - 1)) = 0) ↔ (r = 2 ∨ r = 4 ∨ r = 8 ∨ r = 16 ∨ r = 32 ∨ r = 64) := by
  obtain ⟨n, rfl⟩ := Int.eq_ofNat_of_zero_le (show 0 ≤ r by omega)
  have : ∀ n : Nat, n < 65 → 2 ≤ n → decide (Go.bits .and .i64 (n : Int) (wrap64 ((n : Int) - 1)) = 0) = decide ((n : Int) = 2 ∨ (n : Int) = 4 ∨ (n : Int) = 8 ∨ (n : Int) = 16 ∨ (n : Int) = 32 ∨ (n : Int) = 64) := by decide +kernel
  have h2 := this n (by omega) (by omega)
  rw [decide_eq_decide] at h2
  exact h2
set_option maxRecDepth 100000 in
theorem conf_valid_f (a0 a1 a2 a3 a4 a5 a6 a7 a8 a9 a10 a11 a12 a13 a14 a15 : Int) : PConfValid.conf_Config_Valid.f a0 a1 a2 a3 a4 a5 a6 a7 a8 a9 a10 a11 a12 a13 a14 a15 = some (if validP a0 a1 a2 a3 a4 a5 a6 a7 a8 a9 a10 a11 a12 a13 a14 a15 then 0 else 1) := by
  have hr := ring_law a15
  unfold PConfValid.conf_Config_Valid.f PConfValid.conf_Config_Mode.f PConfValid.conf_Config_Pid.f PConfValid.conf_Config_Most.f
  simp only [within_f, moderight_f, pidright_f, Option.bind_some, decide_eq_true_eq]
  generalize Go.bits .and .i64 a15 (wrap64 (a15 - 1)) = B at hr ⊢
  generalize hm : wrap64 (a0 * 128) = m
  have hm' : (1 ≤ a0 ∧ a0 ≤ 8) → 0 ≤ m := by rw [← hm]; simp only [wrap64]; omega
  clear hm
  repeat' split
  all_goals first
    | rfl
    | (exfalso; unfold validP ringP at *; omega)
theorem validB_is (a0 a1 a2 a3 a4 a5 a6 a7 a8 a9 a10 a11 a12 a13 a14 a15 : Int) : validB [a0, a1, a2, a3, a4, a5, a6, a7, a8, a9, a10, a11, a12, a13, a14, a15] = decide (validP a0 a1 a2 a3 a4 a5 a6 a7 a8 a9 a10 a11 a12 a13 a14 a15) := by
  show decide (PConfValid.conf_Config_Valid.f a0 a1 a2 a3 a4 a5 a6 a7 a8 a9 a10 a11 a12 a13 a14 a15 = some 0) = _
  rw [conf_valid_f]
  by_cases h : validP a0 a1 a2 a3 a4 a5 a6 a7 a8 a9 a10 a11 a12 a13 a14 a15
  · rw [if_pos h, decide_eq_true h]; rfl
  · rw [if_neg h, decide_eq_false h]; rfl
open Go.Proofs.YteaihgjjplgalaaDoor.PConfValid
theorem within13_f (a l h : Int) : overfallref13_within.f a l h = some (decide (l ≤ a ∧ a ≤ h)) := by
  unfold overfallref13_within.f
  by_cases h1 : l ≤ a
  · rw [if_pos h1]; congr 1; rw [Bool.eq_iff_iff]; simp; omega
  · rw [if_neg h1]; congr 1; symm; rw [decide_eq_false_iff_not]; omega
theorem right11_f (a b c d e f g : Int) : overfallref11_Right.f a b c d e f g = some (decide ((0 ≤ b ∧ 0 ≤ c ∧ 0 ≤ d ∧ 0 ≤ e) ∧ 1 ≤ f ∧ 0 ≤ g)) := by
  unfold overfallref11_Right.f
  repeat' split
  all_goals (congr 1; first | (symm; rw [decide_eq_false_iff_not]; omega) | (rw [Bool.eq_iff_iff]; simp only [decide_eq_true_eq]; omega))
theorem right04_f (k : Nat) (r : Int) : overfallref04_Right.f (k + 8) r = some (decide (ringP r)) := by
  unfold overfallref04_Right.f
  have w2 : wrap64 (2 * 2) = 4 := by decide +kernel
  have w4 : wrap64 (4 * 2) = 8 := by decide +kernel
  have w8 : wrap64 (8 * 2) = 16 := by decide +kernel
  have w16 : wrap64 (16 * 2) = 32 := by decide +kernel
  have w32 : wrap64 (32 * 2) = 64 := by decide +kernel
  have w64 : wrap64 (64 * 2) = 128 := by decide +kernel
  have s : ∀ (k : Nat) (x : Int), overfallref04_Right.l0 (k + 1) r x = if x ≤ 64 then (if x = r then some true else overfallref04_Right.l0 k r (wrap64 (x * 2))) else some false := fun k x => by
    conv => lhs; unfold overfallref04_Right.l0
  rw [show k + 8 = k + 7 + 1 from rfl, s, w2, show k + 7 = k + 6 + 1 from rfl, s, w4, show k + 6 = k + 5 + 1 from rfl, s, w8, show k + 5 = k + 4 + 1 from rfl, s, w16, show k + 4 = k + 3 + 1 from rfl, s, w32, show k + 3 = k + 2 + 1 from rfl, s, w64, show k + 2 = k + 1 + 1 from rfl, s]
  rw [if_pos (show (2 : Int) ≤ 64 by decide), if_pos (show (4 : Int) ≤ 64 by decide), if_pos (show (8 : Int) ≤ 64 by decide), if_pos (show (16 : Int) ≤ 64 by decide), if_pos (show (32 : Int) ≤ 64 by decide), if_pos (show (64 : Int) ≤ 64 by decide), if_neg (show ¬ (128 : Int) ≤ 64 by decide)]
  by_cases h2 : (2 : Int) = r
  · rw [if_pos h2, decide_eq_true (show ringP r by unfold ringP; omega)]
  rw [if_neg h2]
  by_cases h4 : (4 : Int) = r
  · rw [if_pos h4, decide_eq_true (show ringP r by unfold ringP; omega)]
  rw [if_neg h4]
  by_cases h8 : (8 : Int) = r
  · rw [if_pos h8, decide_eq_true (show ringP r by unfold ringP; omega)]
  rw [if_neg h8]
  by_cases h16 : (16 : Int) = r
  · rw [if_pos h16, decide_eq_true (show ringP r by unfold ringP; omega)]
  rw [if_neg h16]
  by_cases h32 : (32 : Int) = r
  · rw [if_pos h32, decide_eq_true (show ringP r by unfold ringP; omega)]
  rw [if_neg h32]
  by_cases h64 : (64 : Int) = r
  · rw [if_pos h64, decide_eq_true (show ringP r by unfold ringP; omega)]
  rw [if_neg h64]
  rw [decide_eq_false (show ¬ ringP r by unfold ringP; omega)]
set_option maxRecDepth 100000 in
theorem valid13_ev (a0 a1 a2 a3 a4 a5 a6 a7 a8 a9 a10 a11 a12 a13 a14 a15 : Int) : Ev (fun k => overfallref13_Valid.f k [a0, a1, a2, a3, a4, a5, a6, a7, a8, a9, a10, a11, a12, a13, a14, a15]) (validB [a0, a1, a2, a3, a4, a5, a6, a7, a8, a9, a10, a11, a12, a13, a14, a15]) := by
  rw [validB_is]
  refine ⟨12, fun k hk => ?_⟩
  obtain ⟨k, rfl⟩ : ∃ j, k = j + 12 := ⟨k - 12, by omega⟩
  show overfallref13_Valid.f (k + 12) [a0, a1, a2, a3, a4, a5, a6, a7, a8, a9, a10, a11, a12, a13, a14, a15] = _
  have hl : (([a0, a1, a2, a3, a4, a5, a6, a7, a8, a9, a10, a11, a12, a13, a14, a15] : List Int).length : Int) = 16 := rfl
  have r0 : rd [a0, a1, a2, a3, a4, a5, a6, a7, a8, a9, a10, a11, a12, a13, a14, a15] 0 = a0 := rfl
  have r1 : rd [a0, a1, a2, a3, a4, a5, a6, a7, a8, a9, a10, a11, a12, a13, a14, a15] 1 = a1 := rfl
  have r2 : rd [a0, a1, a2, a3, a4, a5, a6, a7, a8, a9, a10, a11, a12, a13, a14, a15] 2 = a2 := rfl
  have r3 : rd [a0, a1, a2, a3, a4, a5, a6, a7, a8, a9, a10, a11, a12, a13, a14, a15] 3 = a3 := rfl
  have r4 : rd [a0, a1, a2, a3, a4, a5, a6, a7, a8, a9, a10, a11, a12, a13, a14, a15] 4 = a4 := rfl
  have r5 : rd [a0, a1, a2, a3, a4, a5, a6, a7, a8, a9, a10, a11, a12, a13, a14, a15] 5 = a5 := rfl
  have r6 : rd [a0, a1, a2, a3, a4, a5, a6, a7, a8, a9, a10, a11, a12, a13, a14, a15] 6 = a6 := rfl
  have r7 : rd [a0, a1, a2, a3, a4, a5, a6, a7, a8, a9, a10, a11, a12, a13, a14, a15] 7 = a7 := rfl
  have r8 : rd [a0, a1, a2, a3, a4, a5, a6, a7, a8, a9, a10, a11, a12, a13, a14, a15] 8 = a8 := rfl
  have r9 : rd [a0, a1, a2, a3, a4, a5, a6, a7, a8, a9, a10, a11, a12, a13, a14, a15] 9 = a9 := rfl
  have r10 : rd [a0, a1, a2, a3, a4, a5, a6, a7, a8, a9, a10, a11, a12, a13, a14, a15] 10 = a10 := rfl
  have r11 : rd [a0, a1, a2, a3, a4, a5, a6, a7, a8, a9, a10, a11, a12, a13, a14, a15] 11 = a11 := rfl
  have r12 : rd [a0, a1, a2, a3, a4, a5, a6, a7, a8, a9, a10, a11, a12, a13, a14, a15] 12 = a12 := rfl
  have r13 : rd [a0, a1, a2, a3, a4, a5, a6, a7, a8, a9, a10, a11, a12, a13, a14, a15] 13 = a13 := rfl
  have r14 : rd [a0, a1, a2, a3, a4, a5, a6, a7, a8, a9, a10, a11, a12, a13, a14, a15] 14 = a14 := rfl
  have r15 : rd [a0, a1, a2, a3, a4, a5, a6, a7, a8, a9, a10, a11, a12, a13, a14, a15] 15 = a15 := rfl
  have hP : overfallref13_Pid.f [a0, a1, a2, a3, a4, a5, a6, a7, a8, a9, a10, a11, a12, a13, a14, a15] = some (a8, a9, a10, a11, a12, a13, wrap64 (a0 * 128)) := by
    unfold overfallref13_Pid.f
    rw [hl, r8, r9, r10, r11, r12, r13, r0]
    rfl
  have t0 : ∀ k, overfallref13_Valid.j0 (k + 1) [a0, a1, a2, a3, a4, a5, a6, a7, a8, a9, a10, a11, a12, a13, a14, a15] true = some false := fun k => by unfold overfallref13_Valid.j0; dsimp only; rw [if_pos rfl]
  have t1 : ∀ k, overfallref13_Valid.j1 (k + 1) [a0, a1, a2, a3, a4, a5, a6, a7, a8, a9, a10, a11, a12, a13, a14, a15] true = some false := fun k => by unfold overfallref13_Valid.j1; dsimp only; rw [if_pos rfl]
  have e1 : overfallref13_Valid.j1 (k + 11) [a0, a1, a2, a3, a4, a5, a6, a7, a8, a9, a10, a11, a12, a13, a14, a15] false = some (decide (((0 ≤ a9 ∧ 0 ≤ a10 ∧ 0 ≤ a11 ∧ 0 ≤ a12) ∧ 1 ≤ a13 ∧ 0 ≤ wrap64 (a0 * 128)) ∧ (1 ≤ a14 ∧ a14 ≤ 16) ∧ (2 ≤ a15 ∧ a15 ≤ 64) ∧ ringP a15)) := by
    unfold overfallref13_Valid.j1
    dsimp only
    rw [if_neg (by decide), hP, Option.bind_some, right11_f, Option.bind_some, hl, r14, r15, within13_f, within13_f, show k + 10 = k + 2 + 8 from rfl, right04_f]
    simp only [Option.bind_some, decide_eq_true_eq]
    by_cases d1 : (0 ≤ a9 ∧ 0 ≤ a10 ∧ 0 ≤ a11 ∧ 0 ≤ a12) ∧ 1 ≤ a13 ∧ 0 ≤ wrap64 (a0 * 128)
    · rw [if_pos d1, if_pos (by decide)]
      by_cases d2 : 1 ≤ a14 ∧ a14 ≤ 16
      · rw [if_pos d2, if_pos (by decide)]
        by_cases d3 : 2 ≤ a15 ∧ a15 ≤ 64
        · rw [if_pos d3]
          congr 1
          rw [decide_eq_decide]
          exact ⟨fun h => ⟨d1, d2, d3, h⟩, fun h => h.2.2.2⟩
        · rw [if_neg d3, decide_eq_false (fun h => d3 h.2.2.1)]
      · rw [if_neg d2, decide_eq_false (fun h => d2 h.2.1)]
    · rw [if_neg d1, decide_eq_false (fun h => d1 h.1)]
  have e0 : overfallref13_Valid.j0 (k + 12) [a0, a1, a2, a3, a4, a5, a6, a7, a8, a9, a10, a11, a12, a13, a14, a15] false = some (decide ((0 ≤ a5 ∧ a5 ≤ a4 ∧ 0 ≤ a6) ∧ (a2 ≤ a7 ∧ a7 ≤ 1125899906842624) ∧ ((0 ≤ a9 ∧ 0 ≤ a10 ∧ 0 ≤ a11 ∧ 0 ≤ a12) ∧ 1 ≤ a13 ∧ 0 ≤ wrap64 (a0 * 128)) ∧ (1 ≤ a14 ∧ a14 ≤ 16) ∧ (2 ≤ a15 ∧ a15 ≤ 64) ∧ ringP a15)) := by
    unfold overfallref13_Valid.j0
    dsimp only
    have t1' := t1 (k + 10)
    rw [if_neg (by decide), hl, r5, r4, r6, r7, r2, within13_f]
    simp only [Option.bind_some]
    have l5 : (5 : Int) < 16 := by decide
    have l4 : (4 : Int) < 16 := by decide
    have l6 : (6 : Int) < 16 := by decide
    have l7 : (7 : Int) < 16 := by decide
    have l2 : (2 : Int) < 16 := by decide
    rw [if_pos l5, if_pos l4, if_pos l6, if_pos l7, if_pos l2]
    by_cases c1 : a5 < 0
    · rw [if_pos c1, t1', decide_eq_false (by omega)]
    rw [if_neg c1]
    by_cases c2 : a4 < a5
    · rw [if_pos c2, t1', decide_eq_false (by omega)]
    rw [if_neg c2]
    by_cases c3 : a6 < 0
    · rw [if_pos c3, t1', decide_eq_false (by omega)]
    rw [if_neg c3]
    by_cases c4 : a2 ≤ a7 ∧ a7 ≤ 1125899906842624
    · rw [decide_eq_true c4, Bool.not_true, e1]
      congr 1
      rw [decide_eq_decide]
      exact ⟨fun h => ⟨by omega, c4, h⟩, fun h => h.2.2⟩
    · rw [decide_eq_false c4, Bool.not_false, t1', decide_eq_false (fun h => c4 h.2.1)]
  have t0' := t0 (k + 11)
  unfold overfallref13_Valid.f
  rw [hl, r0, r1, r2, r3, within13_f, within13_f, within13_f, within13_f]
  simp only [Option.bind_some]
  have l0 : (0 : Int) < 16 := by decide
  have l1 : (1 : Int) < 16 := by decide
  have l2 : (2 : Int) < 16 := by decide
  have l3 : (3 : Int) < 16 := by decide
  rw [if_pos l0, if_pos l1, if_pos l2, if_pos l3]
  by_cases c1 : 1 ≤ a0 ∧ a0 ≤ 8
  · rw [if_pos (decide_eq_true c1)]
    by_cases c2 : 1 ≤ a1 ∧ a1 ≤ 1024
    · rw [if_pos (decide_eq_true c2)]
      by_cases c3 : 1 ≤ a2 ∧ a2 ≤ 1099511627776
      · rw [if_pos (decide_eq_true c3)]
        by_cases c4 : 1 ≤ a3 ∧ a3 ≤ 1099511627776
        · rw [decide_eq_true c4, Bool.not_true, e0]
          congr 1
          rw [decide_eq_decide]
          have hw : 0 ≤ wrap64 (a0 * 128) := by simp only [wrap64]; omega
          exact ⟨fun h => ⟨c1, c2, c3, c4, h.1, h.2.1, ⟨h.2.2.1.1, h.2.2.1.2.1⟩, h.2.2.2⟩, fun h => ⟨h.2.2.2.2.1, h.2.2.2.2.2.1, ⟨h.2.2.2.2.2.2.1.1, h.2.2.2.2.2.2.1.2, hw⟩, h.2.2.2.2.2.2.2⟩⟩
        · rw [decide_eq_false c4, Bool.not_false, t0', decide_eq_false (fun h => c4 h.2.2.2.1)]
      · rw [if_neg (by simpa using c3), t0', decide_eq_false (fun h => c3 h.2.2.1)]
    · rw [if_neg (by simpa using c2), t0', decide_eq_false (fun h => c2 h.2.1)]
  · rw [if_neg (by simpa using c1), t0', decide_eq_false (fun h => c1 h.1)]
end Go.Proofs.YteaihgjjplgalaaDoor
