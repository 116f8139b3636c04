/- Slices of whole numbers (or of whatever takes one cell) that a call owns: plain laws. -/
import Derived.Test.YteaihgjjplgalaaRec
import Derived.Maps.AppendAt
import Derived.Test.YteaihgjjplgalaaRows
namespace Go.Proofs.Yteaihgjjplgalaa
open Go.RowKit
set_option linter.unusedVariables false
set_option linter.unusedSimpArgs false

theorem OwnV.base {α : Type} {e : TypeId} {sz : Nat} {enc : α → List Value} {base base' : Nat} {w : World} {v : Value} {xs : List α} (h : OwnV e sz enc base w v xs) (hb : base' ≤ base) : OwnV e sz enc base' w v xs := by
  refine ⟨h.1, ?_⟩
  rcases h.2 with h | ⟨g, cap, cur, hv, hg, r⟩
  · exact .inl h
  · exact .inr ⟨g, cap, cur, hv, Nat.le_trans hb hg, r⟩
def intEnc (z : Int) : List Value := [.int .i64 z]
theorem intEnc_len (z : Int) : (intEnc z).length = 1 := rfl
abbrev IOwn := OwnV 3 1 intEnc
theorem infoInt : (Try.prog.info? 3).map (fun i => (i.zero, i.size, i.bytes)) = some (some (.int .i64 0), 1, 8) := by kernel_rfl
theorem flat_one {α : Type} (f : α → Value) (xs : List α) : xs.flatMap (fun x => [f x]) = xs.map f := by
  induction xs with
  | nil => rfl
  | cons x xs ih => simp [List.flatMap_cons]; exact ih
theorem intEnc_flat (xs : List Int) : xs.flatMap intEnc = xs.map (Value.int .i64) := flat_one _ xs
theorem IOwn.formp {base : Nat} {w : World} {v : Value} {xs : List Int} (h : IOwn base w v xs) (hn : 0 < xs.length) : ∃ g cap, v = .slice (some ⟨g, 0, none⟩) xs.length cap ∧ base ≤ g ∧ g < w.heap.size ∧ xs.length ≤ cap ∧ cap ≤ maxLen := by
  rcases h.2 with ⟨_, h0⟩ | ⟨g, cap, cur, hv, hb, hg, hc, hm, _⟩
  · omega
  · refine ⟨g, cap, hv, hb, ?_, hc, hm⟩
    rcases Nat.lt_or_ge g w.heap.size with hlt | hge
    · exact hlt
    · rw [Array.getElem?_eq_none hge] at hg; cases hg
theorem IOwn.cell {base : Nat} {w : World} {g n cap : Nat} {xs : List Int} (h : IOwn base w (.slice (some ⟨g, 0, none⟩) n cap) xs) (hn : n = xs.length) (i : Nat) (x : Int) (hx : xs[i]? = some x) : w.cell? ⟨g, i, none⟩ = some (.int .i64 x) := by
  subst hn
  have hi := (List.getElem?_eq_some_iff.1 hx).1
  have := World.ownsRow.cellAt h i (by omega)
  rw [this, intEnc_flat, List.getElem?_map, hx]; rfl
theorem IOwn.frozen {base : Nat} {w : World} {g n cap : Nat} {xs : List Int} (h : IOwn base w (.slice (some ⟨g, 0, none⟩) n cap) xs) (hn : n = xs.length) (i : Nat) : w.frozen? ⟨g, i, none⟩ = false := by
  subst hn; exact World.ownsRow.frozenAt h i
theorem IOwn.set {base : Nat} {w : World} {g n cap : Nat} {xs : List Int} (h : IOwn base w (.slice (some ⟨g, 0, none⟩) n cap) xs) (hn : n = xs.length) (i : Nat) (z : Int) :
    IOwn base (w.setCell ⟨g, i, none⟩ (.int .i64 z)) (.slice (some ⟨g, 0, none⟩) n cap) (xs.set i z) := by
  subst hn
  have := (World.ownsRow.stored h i (.int .i64 z)).1
  unfold IOwn OwnV
  rw [intEnc_flat] at this ⊢
  rw [List.length_set, List.map_set]
  exact this
end Go.Proofs.Yteaihgjjplgalaa
