/- A region that draws its order, by what holds whatever has been done. -/
import Derived.RegionTactic
namespace Go.Proofs.YteaihgjjplgalaaDoor
open Go
set_option linter.unusedVariables false
section
variable {P : Program} {ops : Array Oper} {Q : Exit → Act → World → Prop} {md : Region.Mode}
def unlisted (l : Array Bool) : Nat := l.toList.count false
theorem count_set_lt : ∀ (l : List Bool) (i : Nat), l[i]? = some false → (l.set i true).count false < l.count false
  | [], i, h => by simp at h
  | b :: l, 0, h => by
    simp only [List.getElem?_cons_zero, Option.some.injEq] at h
    subst h
    simp
  | b :: l, i + 1, h => by
    simp only [List.getElem?_cons_succ] at h
    have := count_set_lt l i h
    simp only [List.set_cons_succ, List.count_cons]
    omega
theorem unlisted_set {l : Array Bool} {i : Nat} (h : l.getD i true = false) : unlisted (l.setIfInBounds i true) < unlisted l := by
  unfold unlisted
  rw [Array.toList_setIfInBounds]
  refine count_set_lt _ _ ?_
  rcases Nat.lt_or_ge i l.size with h1 | h1
  · rw [Array.getElem?_toList, Array.getElem?_eq_getElem h1]
    simpa [h1] using h
  · simp [Array.getD, Nat.not_lt.2 h1] at h
theorem wpAny_inv (Inv : Array Bool → Act → World → Prop)
    (hdone : ∀ l a w, Inv l a w → Region.ready md ops l = [] → Q .normal a w)
    (hstep : ∀ l a w i, Inv l a w → i ∈ Region.ready md ops l → wpOp P ops Q i (Inv (l.setIfInBounds i true)) a w) :
    ∀ (fuel : Nat) (l : Array Bool) (a : Act) (w : World), unlisted l ≤ fuel → Inv l a w → wpAny P md ops Q fuel l a w
  | 0, l, a, w, hf, hi => by
    have hr : Region.ready md ops l = [] := by
      cases h : Region.ready md ops l with
      | nil => rfl
      | cons i r =>
        have hm : i ∈ Region.ready md ops l := by rw [h]; exact List.mem_cons_self
        have := unlisted_set (mem_ready.1 hm).1
        omega
    exact ⟨hr, hdone l a w hi hr⟩
  | fuel + 1, l, a, w, hf, hi => by
    refine ⟨fun hr => hdone l a w hi hr, fun i hm => ?_⟩
    have h1 := unlisted_set (mem_ready.1 hm).1
    exact wpOp_mono (fun a' w' h' => wpAny_inv Inv hdone hstep fuel _ a' w' (by omega) h') (hstep l a w i hi hm)
/-- What an operation waits for lies ahead of it. -/
def backB (md : Region.Mode) (ops : Array Oper) : Bool := (List.range ops.size).all fun i => ((ops[i]?).map fun o => o.after.all fun e => !Region.binds md e || decide (e.on < i)).getD true
theorem ready_nil_all {l : Array Bool} (hb : backB md ops = true) (h : Region.ready md ops l = []) : ∀ i, i < ops.size → l.getD i true = true := by
  intro i
  induction i using Nat.strongRecOn with
  | ind i ih =>
    intro hi
    cases hx : l.getD i true with
    | true => rfl
    | false =>
      have hlt : i < l.size := by
        rcases Nat.lt_or_ge i l.size with h1 | h1
        · exact h1
        · simp [Array.getD, Nat.not_lt.2 h1] at hx
      have hm : i ∈ Region.ready md ops l := by
        refine mem_ready.2 ⟨hx, ops[i], Array.getElem?_eq_getElem hi, fun e he hbd => ?_⟩
        have h2 := List.all_eq_true.1 hb i (List.mem_range.2 hi)
        rw [Array.getElem?_eq_getElem hi] at h2
        simp only [Option.map_some, Option.getD_some] at h2
        have h3 := Array.all_eq_true'.1 h2 e he
        rw [hbd] at h3
        simp only [Bool.not_true, Bool.false_or, decide_eq_true_eq] at h3
        have h4 := ih e.on h3 (by omega)
        have h5 : e.on < l.size := by omega
        simpa [Array.getD, h5] using h4
      rw [h] at hm
      cases hm
end
end Go.Proofs.YteaihgjjplgalaaDoor
