/- The plain laws of SteadyLater: a later time, one Poll more: no program in sight. -/
import Derived.Test.YteaihgjjplgalaaSteadyP
namespace Go.Proofs.Yteaihgjjplgalaa
set_option linter.unusedVariables false
set_option linter.unusedSimpArgs false

/-- times don't go back. -/
def Asc (xs : List StepD) : Prop := xs.Pairwise fun a b => a.now ≤ b.now
theorem Asc.later_all {t : Int} {x : StepD} {xs : List StepD} (h : Asc (x :: xs)) (ht : t ≤ x.now) : later t (x :: xs) = x :: xs := by
  unfold later
  rw [List.filter_eq_self]
  intro s hs
  rcases List.mem_cons.1 hs with rfl | hs
  · exact decide_eq_true ht
  · have := (List.pairwise_cons.1 h).1 s hs
    exact decide_eq_true (by omega)
theorem later_suffix {t1 t2 : Int} (ht : t1 ≤ t2) : ∀ (xs : List StepD), Asc xs → ∃ a, later t1 xs = a ++ later t2 xs
  | [], _ => ⟨[], rfl⟩
  | x :: xs, h => by
    by_cases h2 : t2 ≤ x.now
    · exact ⟨[], by rw [h.later_all h2, h.later_all (by omega)]; rfl⟩
    · have e2 : later t2 (x :: xs) = later t2 xs := by unfold later; rw [List.filter_cons, decide_eq_false h2]; rfl
      obtain ⟨a, ha⟩ := later_suffix ht xs (List.pairwise_cons.1 h).2
      by_cases h1 : t1 ≤ x.now
      · exact ⟨x :: a, by rw [e2, List.cons_append, ← ha]; unfold later; rw [List.filter_cons, decide_eq_true h1]; rfl⟩
      · exact ⟨a, by rw [e2, ← ha]; unfold later; rw [List.filter_cons, decide_eq_false h1]; rfl⟩
theorem burst_later {t1 t2 : Int} (ht : t1 ≤ t2) (xs : List StepD) (h : Asc xs) : burst t2 xs ≤ burst t1 xs := by
  obtain ⟨a, ha⟩ := later_suffix ht xs h
  have := bfold_part (a.map (·.k)) ((later t2 xs).map (·.k)) []
  rw [List.append_nil, ← List.map_append, ← ha] at this
  unfold burst
  omega

theorem bstep_mono {p q : Int × Int} (k : Int) (h1 : p.1 ≤ q.1) (h2 : p.2 ≤ q.2) : (bstep p k).1 ≤ (bstep q k).1 ∧ (bstep p k).2 ≤ (bstep q k).2 := by
  unfold bstep; dsimp only; split
  · omega
  · split <;> omega
theorem bfold_mono : ∀ (ks : List Int) (p q : Int × Int), p.1 ≤ q.1 → p.2 ≤ q.2 → (ks.foldl bstep p).2 ≤ (ks.foldl bstep q).2
  | [], p, q, _, h => h
  | k :: ks, p, q, h1, h2 => bfold_mono ks _ _ (bstep_mono k h1 h2).1 (bstep_mono k h1 h2).2
theorem bfold_le (ks : List Int) : 0 ≤ (bfold ks).1 ∧ (bfold ks).1 ≤ (bfold ks).2 := by
  induction ks using snoc_ind with
  | h0 => simp [bfold]
  | hs l x ih =>
    rw [bfold_snoc]
    unfold bstep; dsimp only; split
    · omega
    · split <;> omega
/-- one Poll more makes no burst greater. -/
theorem bfold_poll (a c : List Int) : (bfold (a ++ [1] ++ c)).2 ≤ (bfold (a ++ c)).2 := by
  have e1 : bfold (a ++ [1] ++ c) = c.foldl bstep (bstep (bfold a) 1) := by unfold bfold; rw [List.foldl_append, List.foldl_append]; rfl
  have e2 : bfold (a ++ c) = c.foldl bstep (bfold a) := by unfold bfold; rw [List.foldl_append]
  have := bfold_le a
  rw [e1, e2]
  refine bfold_mono c _ _ ?_ ?_
  all_goals (unfold bstep; simp; omega)
theorem later_app (t : Int) (a b : List StepD) : later t (a ++ b) = later t a ++ later t b := by unfold later; rw [List.filter_append]
theorem burst_poll (t : Int) (a c : List StepD) (p : StepD) (hp : p.k = 1) : burst t (a ++ [p] ++ c) ≤ burst t (a ++ c) := by
  unfold burst
  rw [later_app, later_app, later_app t a c]
  by_cases h : t ≤ p.now
  · have e : later t [p] = [p] := by unfold later; rw [List.filter_cons, decide_eq_true h]; rfl
    rw [e, List.map_append, List.map_append, List.map_append, List.map_cons, List.map_nil, hp]
    have := bfold_poll ((later t a).map (·.k)) ((later t c).map (·.k))
    omega
  · have e : later t [p] = [] := by unfold later; rw [List.filter_cons, decide_eq_false h]; rfl
    rw [e, List.append_nil]; omega

/-- the two rows' states, behind the Poll that one has more. -/
def GRel (p q : GapS) : Prop := p.some = true ∧ p.ende = q.ende ∧ q.last ≤ p.last ∧ p.last ≤ q.ende ∧ p.most ≤ max q.most (sat (p.last - q.last)) ∧ 0 ≤ q.most
theorem sat_mono {x y : Int} (h : x ≤ y) : sat x ≤ sat y := by unfold sat; split <;> split <;> (try split) <;> (try split) <;> omega
theorem sat_nn {x : Int} (h : 0 ≤ x) : 0 ≤ sat x := by unfold sat; split <;> (try split) <;> omega
theorem grel_step {p q : GapS} (s : StepD) (h : GRel p q) (hs : q.ende ≤ s.now) : GRel (gstep 1 p s) (gstep 1 q s) := by
  obtain ⟨h1, h2, h3, h4, h5, h6⟩ := h
  unfold gstep
  by_cases hk : s.k = 1
  · rw [if_pos hk, if_pos hk]
    have m1 := sat_mono (show s.now - p.last ≤ s.now - q.last by omega)
    have m2 := sat_mono (show p.last - q.last ≤ s.now - q.last by omega)
    refine ⟨rfl, rfl, Int.le_refl _, Int.le_refl _, ?_, ?_⟩ <;> simp only <;> omega
  · rw [if_neg hk, if_neg hk]
    exact ⟨h1, rfl, h3, by simp only; omega, h5, h6⟩
theorem grel_fold : ∀ (xs : List StepD) (p q : GapS), GRel p q → (∀ x ∈ xs, q.ende ≤ x.now) → Asc xs → GRel (xs.foldl (gstep 1) p) (xs.foldl (gstep 1) q)
  | [], p, q, h, _, _ => h
  | x :: xs, p, q, h, hx, ha => by
    refine grel_fold xs _ _ (grel_step x h (hx x List.mem_cons_self)) ?_ (List.pairwise_cons.1 ha).2
    intro y hy
    have e : (gstep 1 q x).ende = x.now := by unfold gstep; split <;> rfl
    rw [e]
    exact (List.pairwise_cons.1 ha).1 y hy
theorem gfold_inv (from_ : Int) (xs : List StepD) (h : Asc xs) (hf : ∀ x ∈ xs, from_ ≤ x.now) : 0 ≤ (gfold 1 from_ xs).most ∧ (gfold 1 from_ xs).last ≤ (gfold 1 from_ xs).ende ∧ (∀ T, (∀ x ∈ xs, x.now ≤ T) → from_ ≤ T → (gfold 1 from_ xs).ende ≤ T) := by
  induction xs using snoc_ind with
  | h0 => exact ⟨by simp [gfold], by simp [gfold], fun T _ hT => by simpa [gfold] using hT⟩
  | hs l x ih =>
    have ⟨a1, a2, a3⟩ := List.pairwise_append.1 h
    obtain ⟨i1, i2, i3⟩ := ih a1 (fun y hy => hf y (List.mem_append_left _ hy))
    have h4 := i3 x.now (fun y hy => a3 y hy x (by simp)) (hf x (by simp))
    rw [gfold_snoc]
    unfold gstep
    split
    · exact ⟨by simp only; omega, Int.le_refl _, fun T hT _ => hT x (by simp)⟩
    · exact ⟨i1, by simp only; omega, fun T hT _ => hT x (by simp)⟩
/-- A Poll more, at the time of one that is there: the gap is no greater. -/
theorem gap_more (t : Int) (a c : List StepD) (p x : StepD) (hp : p.k = 1) (hpx : p.now = x.now) (h : Asc (a ++ x :: c)) (hok : (gapV 1 t (a ++ x :: c)).2 = true) :
    (gapV 1 t (a ++ [p] ++ x :: c)).2 = true ∧ (gapV 1 t (a ++ [p] ++ x :: c)).1 ≤ (gapV 1 t (a ++ x :: c)).1 := by
  have ⟨a1, a2, a3⟩ := List.pairwise_append.1 h
  by_cases hx : t ≤ x.now
  · have e1 : later t [p] = [p] := by unfold later; rw [List.filter_cons, decide_eq_true (by omega)]; rfl
    have e2 : later t (x :: c) = x :: c := Asc.later_all a2 hx
    have hla : Asc (later t a) := List.Pairwise.filter _ a1
    have hlf : ∀ y ∈ later t a, t ≤ y.now := fun y hy => by
      have := (List.mem_filter.1 hy).2
      exact of_decide_eq_true this
    obtain ⟨i1, i2, i3⟩ := gfold_inv t (later t a) hla hlf
    have h4 := i3 x.now (fun y hy => a3 y (List.mem_filter.1 hy).1 x (by simp)) hx
    have hr : GRel (gstep 1 (gstep 1 (gfold 1 t (later t a)) p) x) (gstep 1 (gfold 1 t (later t a)) x) := by
      generalize gfold 1 t (later t a) = g at *
      have m0 := sat_nn (show 0 ≤ p.now - g.last by omega)
      have e0 : gstep 1 g p = ⟨max g.most (sat (p.now - g.last)), true, p.now, p.now⟩ := by unfold gstep; rw [if_pos hp]
      rw [e0]
      unfold gstep
      by_cases hk : x.k = 1
      · rw [if_pos hk, if_pos hk, hpx]
        have m1 : sat (x.now - x.now) = 0 := by rw [Int.sub_self]; rfl
        have m2 := sat_nn (show 0 ≤ x.now - g.last by omega)
        refine ⟨rfl, rfl, Int.le_refl _, Int.le_refl _, ?_, ?_⟩ <;> simp only [m1] <;> omega
      · rw [if_neg hk, if_neg hk, hpx]
        refine ⟨rfl, rfl, ?_, ?_, ?_, ?_⟩ <;> simp only <;> omega
    have hf := grel_fold c _ _ hr (fun y hy => by
      have e : (gstep 1 (gfold 1 t (later t a)) x).ende = x.now := by unfold gstep; split <;> rfl
      rw [e]; exact (List.pairwise_cons.1 a2).1 y hy) (List.pairwise_cons.1 a2).2
    have f1 : gfold 1 t (later t (a ++ [p] ++ x :: c)) = c.foldl (gstep 1) (gstep 1 (gstep 1 (gfold 1 t (later t a)) p) x) := by
      rw [later_app, later_app, e1, e2]; unfold gfold; simp
    have f2 : gfold 1 t (later t (a ++ x :: c)) = c.foldl (gstep 1) (gstep 1 (gfold 1 t (later t a)) x) := by
      rw [later_app, e2]; unfold gfold; simp
    unfold gapV at hok ⊢
    simp only [f1, f2] at hok ⊢
    generalize c.foldl (gstep 1) (gstep 1 (gstep 1 (gfold 1 t (later t a)) p) x) = P at *
    generalize c.foldl (gstep 1) (gstep 1 (gfold 1 t (later t a)) x) = Q at *
    obtain ⟨r1, r2, r3, r4, r5, r6⟩ := hf
    rw [r1]
    have hq : Q.some = true := by
      cases hqs : Q.some
      · rw [hqs] at hok; simp at hok
      · rfl
    rw [hq]
    have m1 := sat_mono (show P.ende - P.last ≤ Q.ende - Q.last by omega)
    have m2 := sat_mono (show P.last - Q.last ≤ Q.ende - Q.last by omega)
    exact ⟨rfl, by simp only [if_true]; omega⟩
  · have e1 : later t [p] = [] := by unfold later; rw [List.filter_cons, decide_eq_false (by omega)]; rfl
    have f : later t (a ++ [p] ++ x :: c) = later t (a ++ x :: c) := by rw [later_app, later_app, e1, List.append_nil, ← later_app]
    have g : gapV 1 t (a ++ [p] ++ x :: c) = gapV 1 t (a ++ x :: c) := by unfold gapV; rw [f]
    rw [g]
    exact ⟨hok, Int.le_refl _⟩
end Go.Proofs.Yteaihgjjplgalaa
