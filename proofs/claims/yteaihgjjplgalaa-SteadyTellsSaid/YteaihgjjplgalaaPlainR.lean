/- The plain laws of layer 24: what Burst answers is what the reference answers; parts of a row; no program in sight. -/
import Derived.Test.YteaihgjjplgalaaRefR
namespace Go.Proofs.Yteaihgjjplgalaa.Rd
set_option linter.unusedVariables false
set_option linter.unusedSimpArgs false

theorem snoc_ind {α : Type} {P : List α → Prop} (h0 : P []) (hs : ∀ l x, P l → P (l ++ [x])) (l : List α) : P l := by
  have h : ∀ m : List α, P m.reverse := by
    intro m
    induction m with
    | nil => exact h0
    | cons x m ih => rw [List.reverse_cons]; exact hs _ _ ih
  have := h l.reverse
  rwa [List.reverse_reverse] at this

/-- submits, polls of a row of kinds. -/
def sub (ks : List Int) : Int := (ks.map fun k => if k = 0 then (1 : Int) else 0).sum
def pol (ks : List Int) : Int := (ks.map fun k => if k = 1 then (1 : Int) else 0).sum
theorem sub_app (a b : List Int) : sub (a ++ b) = sub a + sub b := by simp [sub]
theorem pol_app (a b : List Int) : pol (a ++ b) = pol a + pol b := by simp [pol]
theorem sub_one (k : Int) : sub [k] = if k = 0 then 1 else 0 := by simp [sub]
theorem pol_one (k : Int) : pol [k] = if k = 1 then 1 else 0 := by simp [pol]
theorem pol_nonneg (ks : List Int) : 0 ≤ pol ks := by
  induction ks with
  | nil => simp [pol]
  | cons k ks ih =>
    have : pol (k :: ks) = pol [k] + pol ks := pol_app [k] ks
    rw [this, pol_one]
    split <;> omega

/-- of which the greatest is looked for. -/
def v2 (ks : List Int) : Int := 2 * sub ks - pol ks
def v1 (ks : List Int) : Int := sub ks - pol ks / 2
theorem v12 (ks : List Int) : v1 ks = (v2 ks + 1) / 2 := by unfold v1 v2; omega

theorem bfold_here (ks : List Int) : (∀ a b, ks = a ++ b → v2 b ≤ (bfold ks).1) ∧ ∃ a b, ks = a ++ b ∧ v2 b = (bfold ks).1 := by
  induction ks using snoc_ind with
  | h0 =>
    refine ⟨fun a b h => ?_, [], [], rfl, rfl⟩
    have h' := List.append_eq_nil_iff.1 h.symm
    rw [h'.2]; simp [v2, sub, pol, bfold]
  | hs l x ih =>
    rw [bfold_snoc]
    have hstep : (bstep (bfold l) x).1 = max ((bfold l).1 + v2 [x]) 0 := by
      unfold bstep v2
      rw [sub_one, pol_one]
      dsimp only
      split
      · split <;> omega
      · split <;> omega
    have hv : ∀ b, v2 (b ++ [x]) = v2 b + v2 [x] := fun b => by unfold v2; rw [sub_app, pol_app]; omega
    rw [hstep]
    refine ⟨fun a b h => ?_, ?_⟩
    · rcases List.eq_nil_or_concat b with rfl | ⟨b', y, rfl⟩
      · have : v2 [] = 0 := by simp [v2, sub, pol]
        omega
      · rw [List.concat_eq_append, ← List.append_assoc] at h
        obtain ⟨h1, h2⟩ := List.append_inj' h rfl
        cases h2
        rw [List.concat_eq_append, hv]
        have := ih.1 a b' h1
        omega
    · obtain ⟨a, b, e1, e2⟩ := ih.2
      by_cases hp : 0 ≤ (bfold l).1 + v2 [x]
      · exact ⟨a, b ++ [x], by rw [e1, List.append_assoc], by rw [hv, e2]; omega⟩
      · refine ⟨l ++ [x], [], by simp, ?_⟩
        have : v2 [] = 0 := by simp [v2, sub, pol]
        omega
theorem bfold_most (ks : List Int) : (∀ a b c, ks = a ++ b ++ c → v2 b ≤ (bfold ks).2) ∧ ∃ a b c, ks = a ++ b ++ c ∧ v2 b = (bfold ks).2 := by
  induction ks using snoc_ind with
  | h0 =>
    refine ⟨fun a b c h => ?_, [], [], [], rfl, rfl⟩
    have h' := List.append_eq_nil_iff.1 (List.append_eq_nil_iff.1 h.symm).1
    rw [h'.2]; simp [v2, sub, pol, bfold]
  | hs l x ih =>
    have hh := bfold_here (l ++ [x])
    have hstep : (bfold (l ++ [x])).2 = max (bfold l).2 (bfold (l ++ [x])).1 := by rw [bfold_snoc]; rfl
    rw [hstep]
    refine ⟨fun a b c h => ?_, ?_⟩
    · rcases List.eq_nil_or_concat c with rfl | ⟨c', y, rfl⟩
      · rw [List.append_nil] at h
        have := hh.1 a b h
        omega
      · rw [List.concat_eq_append, ← List.append_assoc] at h
        obtain ⟨h1, h2⟩ := List.append_inj' h rfl
        have := ih.1 a b c' h1
        omega
    · obtain ⟨a, b, c, e1, e2⟩ := ih.2
      obtain ⟨a', b', e3, e4⟩ := hh.2
      by_cases hp : (bfold (l ++ [x])).1 ≤ (bfold l).2
      · exact ⟨a, b, c ++ [x], by rw [e1]; simp, by omega⟩
      · exact ⟨a', b', [], by rw [List.append_nil]; exact e3, by omega⟩

theorem rinner_val (ks : List Int) (m : Int) : (rinner ks m).1 = sub ks ∧ (rinner ks m).2.1 = pol ks ∧ m ≤ (rinner ks m).2.2 ∧ (∀ a b, ks = a ++ b → a ≠ [] → v1 a ≤ (rinner ks m).2.2) ∧ ((rinner ks m).2.2 = m ∨ ∃ a b, ks = a ++ b ∧ v1 a = (rinner ks m).2.2) := by
  induction ks using snoc_ind with
  | h0 => exact ⟨rfl, rfl, Int.le_refl _, fun a b h hn => absurd (List.append_eq_nil_iff.1 h.symm).1 hn, .inl rfl⟩
  | hs l x ih =>
    obtain ⟨i1, i2, i3, i4, i5⟩ := ih
    rw [rinner_snoc]
    have e1 : (rin (rinner l m) x).1 = sub (l ++ [x]) := by unfold rin; rw [sub_app, sub_one, ← i1]
    have e2 : (rin (rinner l m) x).2.1 = pol (l ++ [x]) := by unfold rin; rw [pol_app, pol_one, ← i2]
    have e3 : (rin (rinner l m) x).2.2 = max (rinner l m).2.2 (v1 (l ++ [x])) := by
      have : (rin (rinner l m) x).2.2 = max (rinner l m).2.2 ((rin (rinner l m) x).1 - (rin (rinner l m) x).2.1 / 2) := rfl
      rw [this, e1, e2]; rfl
    refine ⟨e1, e2, by omega, fun a b h hn => ?_, ?_⟩
    · rcases List.eq_nil_or_concat b with rfl | ⟨b', y, rfl⟩
      · rw [List.append_nil] at h
        rw [← h]; omega
      · rw [List.concat_eq_append, ← List.append_assoc] at h
        obtain ⟨h1, h2⟩ := List.append_inj' h rfl
        have := i4 a b' h1 hn
        omega
    · by_cases hp : v1 (l ++ [x]) ≤ (rinner l m).2.2
      · rcases i5 with h | ⟨a, b, h, h'⟩
        · exact .inl (by omega)
        · exact .inr ⟨a, b ++ [x], by rw [h, List.append_assoc], by omega⟩
      · exact .inr ⟨l ++ [x], [], by simp, by omega⟩

theorem router_val (ks : List Int) : ∀ n, n ≤ ks.length → 0 ≤ router ks n ∧ (∀ i a b, i < n → ks.drop i = a ++ b → a ≠ [] → v1 a ≤ router ks n) ∧ (router ks n = 0 ∨ ∃ i a b, i < n ∧ ks.drop i = a ++ b ∧ v1 a = router ks n)
  | 0, _ => ⟨by simp [router], fun i a b h => absurd h (Nat.not_lt_zero _), .inl rfl⟩
  | n + 1, h => by
    obtain ⟨i1, i2, i3⟩ := router_val ks n (by omega)
    obtain ⟨_, _, r3, r4, r5⟩ := rinner_val (ks.drop n) (router ks n)
    rw [router_succ]
    refine ⟨by omega, fun i a b hi e hn => ?_, ?_⟩
    · by_cases hin : i = n
      · subst hin; exact r4 a b e hn
      · have := i2 i a b (by omega) e hn; omega
    · rcases r5 with r5 | ⟨a, b, e, e'⟩
      · rcases i3 with i3 | ⟨i, a, b, hi, e, e'⟩
        · exact .inl (by omega)
        · exact .inr ⟨i, a, b, by omega, e, by omega⟩
      · exact .inr ⟨n, a, b, by omega, e, e'⟩

/-- THE TWO ARE ONE. -/
theorem router_eq (ks : List Int) : router ks ks.length = ((bfold ks).2 + 1) / 2 := by
  obtain ⟨h0, h1, h2⟩ := router_val ks ks.length (Nat.le_refl _)
  obtain ⟨m1, m2⟩ := bfold_most ks
  apply Int.le_antisymm
  · rcases h2 with h2 | ⟨i, a, b, hi, e, e'⟩
    · have := m1 [] [] ks rfl
      have : v2 [] = 0 := by simp [v2, sub, pol]
      omega
    · have := m1 (ks.take i) a b (by rw [List.append_assoc, ← e, List.take_append_drop])
      rw [← e', v12]
      omega
  · obtain ⟨a, b, c, e, e'⟩ := m2
    rw [← e', ← v12]
    by_cases hb : b = []
    · subst hb
      have : v1 [] = 0 := by simp [v1, sub, pol]
      omega
    · refine h1 a.length b c ?_ ?_ hb
      · have : 0 < b.length := List.length_pos_iff.2 hb
        rw [e]; simp; omega
      · rw [e, List.append_assoc, List.drop_left]
/-- a part of a row needs no more. -/
theorem bfold_part (a b c : List Int) : (bfold b).2 ≤ (bfold (a ++ b ++ c)).2 := by
  obtain ⟨x, y, z, e, e'⟩ := (bfold_most b).2
  rw [← e']
  exact (bfold_most _).1 (a ++ x) y (z ++ c) (by rw [e]; simp)
theorem bfold_v2 (a b c : List Int) : v2 b ≤ (bfold (a ++ b ++ c)).2 := (bfold_most _).1 a b c rfl
end Go.Proofs.Yteaihgjjplgalaa.Rd
