/- Slices that read as rows of records: plain laws over whatever record; no function in sight. -/
import Derived.Test.YteaihgjjplgalaaDoorOpen
import Derived.WalkKit
import Derived.OwnWalk
import Derived.OwnWalkIn
import Derived.Laws.OwnMore
namespace Go.Proofs.YteaihgjjplgalaaDoor
open Go.RowKit
set_option linter.unusedVariables false
set_option linter.unusedSimpArgs false

/-- A slice value that reads as xs, sz cells an element; its block (if it has elements) is one of G. -/
def SlAt {α : Type} (sz : Nat) (enc : α → List Value) (G : Nat → Prop) (w : World) (v : Value) (xs : List α) : Prop :=
  ∃ a cap, v = .slice a xs.length cap ∧ xs.length ≤ cap ∧ cap ≤ maxLen ∧ (a = none → cap = 0) ∧
    (0 < xs.length → ∃ b off, a = some ⟨b, off, none⟩ ∧ G b ∧ ∀ i x, xs[i]? = some x → ∀ j, j < sz → w.cell? ⟨b, off + i * sz + j, none⟩ = (enc x)[j]?)
theorem SlAt.kept {α : Type} {sz : Nat} {enc : α → List Value} {G : Nat → Prop} {w w' : World} {v : Value} {xs : List α} (h : SlAt sz enc G w v xs) (hk : ∀ b, G b → w'.heap[b]? = w.heap[b]?) : SlAt sz enc G w' v xs := by
  obtain ⟨a, cap, e, h1, h2, h3, h4⟩ := h
  refine ⟨a, cap, e, h1, h2, h3, fun hp => ?_⟩
  obtain ⟨b, off, ea, hg, hc⟩ := h4 hp
  exact ⟨b, off, ea, hg, fun i x hx j hj => by rw [World.cell?_of_block (hk b hg)]; exact hc i x hx j hj⟩
theorem SlAt.mono {α : Type} {sz : Nat} {enc : α → List Value} {G G' : Nat → Prop} {w : World} {v : Value} {xs : List α} (h : SlAt sz enc G w v xs) (hg : ∀ b, G b → G' b) : SlAt sz enc G' w v xs := by
  obtain ⟨a, cap, e, h1, h2, h3, h4⟩ := h
  refine ⟨a, cap, e, h1, h2, h3, fun hp => ?_⟩
  obtain ⟨b, off, ea, hb, hc⟩ := h4 hp
  exact ⟨b, off, ea, hg b hb, hc⟩
end Go.Proofs.YteaihgjjplgalaaDoor
