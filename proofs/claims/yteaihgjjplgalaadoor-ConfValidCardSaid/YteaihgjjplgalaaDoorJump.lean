/- A scope with a label that is gone back to: what stands behind the label is walked once. No program in sight. -/
import Derived.ScopeJumps
namespace Go.Proofs.YteaihgjjplgalaaDoor
set_option linter.unusedVariables false
set_option linter.unusedSimpArgs false

/-- The code ahead of the label comes to the label with J. -/
def ToLabel (P : Program) (l : Nat) : Code → (Act → World → Prop) → (Exit → Act → World → Prop) → Act → World → Prop
  | .seq x y, J, Q, a, w => if (findLabel x l).isSome = true then ToLabel P l x J Q a w else x.wp P (Exit.then (ToLabel P l y J Q) Q) a w
  | .label _, J, _, a, w => J a w
  | _, _, _, _, _ => False
/-- The code behind the label. -/
def FromLabel (P : Program) (l : Nat) : Code → (Exit → Act → World → Prop) → Act → World → Prop
  | .seq x y, Q, a, w => if (findLabel x l).isSome = true then FromLabel P l x (Exit.then (y.wp P Q) Q) a w else FromLabel P l y Q a w
  | .label _, Q, a, w => Q .normal a w
  | _, _, _, _ => False
variable {P : Program} {l : Nat}
theorem then_mono {K K' : Act → World → Prop} {Q Q' : Exit → Act → World → Prop} (hK : ∀ a w, K a w → K' a w) (hQ : ∀ e a w, e ≠ .normal → Q e a w → Q' e a w) : ∀ e a w, Exit.then K Q e a w → Exit.then K' Q' e a w := by
  intro e a w h
  cases e with
  | normal => exact hK a w h
  | _ => exact hQ _ a w (fun h => by cases h) h
theorem to_from (J : Act → World → Prop) (c : Code) : ∀ (r : Code), findLabel c l = some r → ∀ (Q Qn : Exit → Act → World → Prop) (a : Act) (w : World), (∀ e a w, e ≠ .normal → Qn e a w → Q e a w) → ToLabel P l c J Qn a w → (∀ a w, J a w → FromLabel P l c Q a w) → c.wp P Q a w := by
  induction c with
  | seq x y ihx ihy =>
    intro r hf Q Qn a w hQ ht hp
    refine wp_seq ?_
    unfold findLabel at hf
    unfold ToLabel at ht
    unfold FromLabel at hp
    cases hx : findLabel x l with
    | some rx =>
      rw [hx] at ht hp
      simp only [Option.isSome_some, if_true] at ht hp
      exact ihx rx hx _ Qn a w (fun e a w hne h => by cases e with | normal => exact absurd rfl hne | _ => exact hQ _ a w hne h) ht hp
    | none =>
      rw [hx] at ht hp hf
      simp only [Option.isSome_none, Bool.false_eq_true, if_false] at ht hp hf
      exact wp_mono ht (then_mono (fun a w h => ihy r hf Q Qn a w hQ h hp) hQ)
  | label l' =>
    intro r hf Q Qn a w hQ ht hp
    exact wp_label (hp a w ht)
  | _ => intro r hf; simp [findLabel] at hf
theorem from_rest (c : Code) : ∀ (r : Code), findLabel c l = some r → ∀ (Q : Exit → Act → World → Prop) (a : Act) (w : World), FromLabel P l c Q a w → r.wp P Q a w := by
  induction c with
  | seq x y ihx ihy =>
    intro r hf Q a w hp
    unfold findLabel at hf
    unfold FromLabel at hp
    cases hx : findLabel x l with
    | some rx =>
      rw [hx] at hp hf
      simp only [Option.isSome_some, if_true, Option.some.injEq] at hp hf
      subst hf
      exact wp_seq (ihx rx hx _ a w hp)
    | none =>
      rw [hx] at hp hf
      simp only [Option.isSome_none, Bool.false_eq_true, if_false] at hp hf
      exact ihy r hf Q a w hp
  | label l' =>
    intro r hf Q a w hp
    unfold findLabel at hf
    split at hf
    · injection hf with hf
      subst hf
      exact wp_skip hp
    · cases hf
  | _ => intro r hf; simp [findLabel] at hf
theorem from_mono (c : Code) : ∀ (Q Q' : Exit → Act → World → Prop) (a : Act) (w : World), (∀ e a w, Q e a w → Q' e a w) → FromLabel P l c Q a w → FromLabel P l c Q' a w := by
  induction c with
  | seq x y ihx ihy =>
    intro Q Q' a w hQ hp
    unfold FromLabel at hp ⊢
    split
    · rename_i h
      rw [if_pos h] at hp
      exact ihx _ _ a w (then_mono (fun a w h => wp_mono h hQ) (fun e a w _ => hQ e a w)) hp
    · rename_i h
      rw [if_neg h] at hp
      exact ihy _ _ a w hQ hp
  | label l' => intro Q Q' a w hQ hp; exact hQ _ _ _ hp
  | _ => intro Q Q' a w hQ hp; exact hp
/-- A scope with one label: it is come to with J, and from J on each way leads out, or to the label again with J and less. -/
theorem wp_scope_label {c : Code} {Q : Exit → Act → World → Prop} {a : Act} {w : World} (l : Nat) (J : Act → World → Prop) (μ : Act → World → Nat) (hf : (findLabel c l).isSome = true)
    (first : ToLabel P l c J (Exit.jump l J Q) a w)
    (pass : ∀ a w, J a w → FromLabel P l c (Exit.jump l (fun a' w' => J a' w' ∧ μ a' w' < μ a w) Q) a w) : (Code.scope c).wp P Q a w := by
  obtain ⟨r, hr⟩ := Option.isSome_iff_exists.1 hf
  refine wp_scope_jumps l J μ hr (to_from J c r hr _ _ a w (fun _ _ _ _ h => h) first (fun a w hJ => from_mono c _ _ a w ?_ (pass a w hJ))) (fun a w hJ => from_rest c r hr _ a w (pass a w hJ))
  intro e a' w' h
  cases e with
  | goto l' => exact ⟨h.1, h.2.1⟩
  | _ => exact h
end Go.Proofs.YteaihgjjplgalaaDoor
