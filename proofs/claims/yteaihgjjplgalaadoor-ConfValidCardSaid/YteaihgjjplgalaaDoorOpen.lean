/- How the data of a law's arguments read: a type's leaves, a row of elements: plain facts on readings, no function in sight. -/
import Derived.Test.YteaihgjjplgalaaDoorBase
import Derived.ProofKit
import Derived.Deep.Slices
import Derived.ChangeOld
import Derived.SizedLaws
namespace Go.Proofs.YteaihgjjplgalaaDoor
open Go.RowKit Go.ChangeShapes Go.WideShapes
set_option linter.unusedVariables false
set_option linter.unusedSimpArgs false

/-- A cell's kind. -/
inductive Lf where
  | int (k : IntKind)
  | bool
  | str
  | sl (t e : TypeId)

def leavesFs (P : Program) (L : TypeId → Option (List Lf)) : List Field → Nat → Option (List Lf)
  | [], _ => some []
  | f :: fs, o => if f.offset = o then (match L f.type with
    | some l => if P.cellsOf f.type = l.length then (match leavesFs P L fs (o + l.length) with
      | some r => some (l ++ r)
      | none => none) else none
    | none => none) else none
/-- The cells' kinds of a type: whole numbers, bools, strings, slices; structs of these, laid one behind the other. -/
def leaves (P : Program) : Nat → TypeId → Option (List Lf)
  | 0, _ => none
  | n + 1, t => match P.underlying t with
    | some .bool => some [.bool]
    | some (.int k) => some [.int k]
    | some .string => some [.str]
    | some (.slice e) => some [.sl t e]
    | some (.struct fs) => match leavesFs P (leaves P n) fs.toList 0 with
      | some l => if P.cellsOf t = l.length then some l else none
      | none => none
    | _ => none

section
variable {H : Type} (enc : TypeId × Value → H) (P : Program) (w : World) (base : Nat) (spare : Nat → Bool) (held : Bool)
/-- What a cell of a kind holds. -/
def LfOK : Lf → Value → Prop
  | .int k, v => ∃ n, v = .int k n ∧ (Lit.int k n).wf = true
  | .bool, v => ∃ b, v = .bool b
  | .str, v => ∃ s : ByteArray, v = .string s ∧ s.size ≤ maxLen
  | .sl t e, v => ∃ a len cap, v = .slice a len cap ∧ ∃ fuel x, DataW.trod enc P w base spare held fuel t [v] = some x
end

inductive All2 {α β : Type} (R : α → β → Prop) : List α → List β → Prop where
  | nil : All2 R [] []
  | cons {a : α} {b : β} {l : List α} {m : List β} : R a b → All2 R l m → All2 R (a :: l) (b :: m)
theorem All2.len {α β : Type} {R : α → β → Prop} {l : List α} {m : List β} (h : All2 R l m) : l.length = m.length := by
  induction h with
  | nil => rfl
  | cons _ _ ih => simp [ih]
theorem All2.app {α β : Type} {R : α → β → Prop} {l l' : List α} {m m' : List β} (h : All2 R l m) (h' : All2 R l' m') : All2 R (l ++ l') (m ++ m') := by
  induction h with
  | nil => exact h'
  | cons hr _ ih => exact .cons hr ih

theorem All2.inv {α β : Type} {R : α → β → Prop} {a : α} {l : List α} {m : List β} (h : All2 R (a :: l) m) : ∃ b m', m = b :: m' ∧ R a b ∧ All2 R l m' := by
  cases h with
  | cons hr ht => exact ⟨_, _, rfl, hr, ht⟩
theorem All2.inv0 {α β : Type} {R : α → β → Prop} {m : List β} (h : All2 R [] m) : m = [] := by cases h; rfl
section
variable {H : Type} {enc : TypeId × Value → H} {P : Program} {w : World} {base : Nat} {spare : Nat → Bool} {held : Bool}
theorem open_leaves : ∀ (n : Nat) (t : TypeId) (ls : List Lf) (fuel : Nat) (cs : List Value) (x : DataW H × List MemPlace),
    leaves P n t = some ls → DataW.trod enc P w base spare held fuel t cs = some x → All2 (LfOK enc P w base spare held) ls cs := by
  intro n
  induction n with
  | zero => intro t ls fuel cs x hl; simp [leaves] at hl
  | succ n ih =>
    intro t ls fuel cs x hl hx
    unfold leaves at hl
    split at hl
    · rename_i hu
      cases hl
      obtain ⟨b, rfl, _⟩ := DataW.trod_bool hu hx
      exact .cons ⟨b, rfl⟩ .nil
    · rename_i k hu
      cases hl
      obtain ⟨m, rfl, _, hw⟩ := DataW.trod_int hu hx
      exact .cons ⟨m, rfl, hw⟩ .nil
    · rename_i hu
      cases hl
      obtain ⟨s, rfl, _, hw⟩ := DataW.trod_string hu hx
      exact .cons ⟨s, rfl, hw⟩ .nil
    · rename_i e hu
      cases hl
      have hx' := hx
      rcases DataW.trod_slice hu hx with ⟨rfl, _⟩ | ⟨a, len, cap, _, _, _, _, rfl, _⟩
      · exact .cons ⟨_, _, _, rfl, _, _, hx'⟩ .nil
      · exact .cons ⟨_, _, _, rfl, _, _, hx'⟩ .nil
    · rename_i fs hu
      split at hl
      · rename_i l hfs
        split at hl
        · rename_i hc
          cases hl
          obtain ⟨xs, m, _, _, hlen, hxl, hfld⟩ := DataW.trod_struct hu hx
          have key : ∀ (fs' : List Field) (o i0 : Nat) (ls' : List Lf), leavesFs P (leaves P n) fs' o = some ls' → (∀ (j : Nat) (f : Field), fs'[j]? = some f → fs[i0 + j]? = some f) →
              All2 (LfOK enc P w base spare held) ls' ((cs.drop o).take ls'.length) := by
            intro fs'
            induction fs' with
            | nil => intro o i0 ls' h _; simp [leavesFs] at h; subst h; simpa using All2.nil
            | cons f fs' ihf =>
              intro o i0 ls' h hat
              unfold leavesFs at h
              split at h
              · rename_i ho
                split at h
                · rename_i l1 hl1
                  split at h
                  · rename_i hc1
                    split at h
                    · rename_i r hr
                      cases h
                      have hf := hat 0 f rfl
                      have h1 := hfld i0 f (by simpa using hf)
                      have hlt : i0 < xs.length := by rw [hxl]; exact (Array.getElem?_eq_some_iff.1 (by simpa using hf)).1
                      rw [List.getElem?_eq_getElem hlt] at h1
                      have h2 := ih f.type l1 m _ _ hl1 h1
                      have h3 := ihf (o + l1.length) (i0 + 1) r hr (fun j g hg => by
                        have := hat (j + 1) g (by simpa using hg)
                        rwa [show i0 + 1 + j = i0 + (j + 1) by omega])
                      have e1 := h2.len
                      have e2 := h3.len
                      rw [ho, hc1] at h2
                      have e : (cs.drop o).take (l1.length + r.length) = (cs.drop o).take l1.length ++ (cs.drop (o + l1.length)).take r.length := by
                        rw [List.take_add, List.drop_drop]
                      rw [List.length_append, e]
                      exact h2.app h3
                    · cases h
                  · cases h
                · cases h
              · cases h
          have := key fs.toList 0 0 ls hfs (fun j f hj => by simpa using hj)
          rw [List.drop_zero, List.take_of_length_le (by omega)] at this
          exact this
        · cases hl
      · cases hl
    · cases hl

/-- A row of elements of sz cells each: what its cells hold, element by element. -/
def RowAt (w : World) (a : Option Addr) (n sz : Nat) (X : Nat → List Value) : Prop :=
  0 < n → ∃ b off, a = some ⟨b, off, none⟩ ∧ ∀ i, i < n → (X i).length = sz ∧ ∀ j, j < sz → w.cell? ⟨b, off + i * sz + j, none⟩ = (X i)[j]?

theorem cells_at {w : World} {base : Nat} {a : Addr} {n : Nat} {cs : List Value} (h : w.cells? base a n = some cs) : cs.length = n ∧ ∀ j, j < n → w.cell? (a.add j) = cs[j]? := by
  unfold World.cells? at h
  split at h
  · refine ⟨by have := mapM_some_length h; simpa using this, fun j hj => mapM_some_get h j j (by simp [hj])⟩
  · cases h

/-- A struct by value. -/
theorem open_struct {r : Reach} {b0 : Nat} {t : TypeId} {fs : Array Field} {ls : List Lf} {n : Nat} {v : Value} {d : DataW H} {p : List MemPlace} (hu : P.underlying t = some (.struct fs)) (hl : leaves P n t = some ls)
    (ho : Value.okWide P w r b0 t v) (h : DataW.Trod enc P w base spare held t v d p) : ∃ cs : List Value, v = .agg cs.toArray ∧ All2 (LfOK enc P w base spare held) ls cs := by
  simp only [Value.okWide, hu] at ho
  obtain ⟨cs, rfl, _⟩ := ho
  obtain ⟨fuel, hf⟩ := h
  exact ⟨cs.toList, by simp, open_leaves n t ls fuel _ _ hl hf⟩
theorem open_plain {t : TypeId} {ls : List Lf} {n : Nat} {v : Value} {d : DataW H} {p : List MemPlace} (hl : leaves P n t = some ls) (hv : v.cells = #[v])
    (h : DataW.Trod enc P w base spare held t v d p) : All2 (LfOK enc P w base spare held) ls [v] := by
  obtain ⟨fuel, hf⟩ := h
  rw [hv] at hf
  exact open_leaves n t ls fuel _ _ hl hf
theorem wf_bounds {k : IntKind} {n : Int} (h : (Lit.int k n).wf = true) : k.min ≤ n ∧ n ≤ k.max := by simpa [Lit.wf] using h

/-- A slice's elements, cell by cell. -/
theorem open_row {t e : TypeId} {ls : List Lf} {n : Nat} {a : Option Addr} {len cap fuel : Nat} {x : DataW H × List MemPlace} (hu : P.underlying t = some (.slice e)) (hl : leaves P n e = some ls) (hc : P.cellsOf e = ls.length) (hpos : 0 < ls.length)
    (h : DataW.trod enc P w base spare held fuel t [.slice a len cap] = some x) :
    len ≤ cap ∧ cap ≤ maxLen ∧ ∃ X : Nat → List Value, RowAt w a len ls.length X ∧ ∀ i, i < len → All2 (LfOK enc P w base spare held) ls (X i) := by
  rcases Deep.open_slice hu h with ⟨hcs, _⟩ | ⟨ad, len', cap', m, n', D, Pl, hcs, hb, hlc, hcm, hmm, _, hx⟩
  · simp only [List.cons.injEq, Value.slice.injEq, and_true] at hcs
    obtain ⟨rfl, rfl, rfl⟩ := hcs
    exact ⟨Nat.le_refl _, Nat.zero_le _, fun _ => [], fun h => absurd h (Nat.lt_irrefl _), fun i hi => absurd hi (Nat.not_lt_zero _)⟩
  · simp only [List.cons.injEq, Value.slice.injEq, and_true] at hcs
    obtain ⟨rfl, rfl, rfl⟩ := hcs
    have hlm : len ≤ m := by rw [hmm]; split <;> omega
    have hx' : ∀ i, i < len → ∃ cs', (w.cells? base (ad.add (i * P.cellsOf e)) (P.cellsOf e) = some cs' ∧ All2 (LfOK enc P w base spare held) ls cs') := fun i hi => by
      obtain ⟨cs', h1, h2⟩ := hx i (by omega)
      exact ⟨cs', h1, open_leaves n e ls _ _ _ hl h2⟩
    obtain ⟨X, hX⟩ := Deep.choose_lt hx'
    refine ⟨hlc, hcm, X, ?_, fun i hi => (hX i hi).2⟩
    intro hp
    obtain ⟨b, off, spot⟩ := ad
    have h0 := (cells_at (hX 0 hp).1)
    rw [hc] at h0
    have h00 := h0.2 0 hpos
    rw [Nat.zero_mul] at h00
    have hl0 : (X 0)[0]? = some ((X 0)[0]'(by omega)) := List.getElem?_eq_getElem _
    rw [hl0] at h00
    have hspot : spot = none := by simpa [Addr.add] using World.cell?_spot h00
    subst hspot
    refine ⟨b, off, rfl, fun i hi => ?_⟩
    have h1 := cells_at (hX i hi).1
    rw [hc] at h1
    refine ⟨h1.1, fun j hj => ?_⟩
    rw [← h1.2 j hj, Deep.add_add, add_plain, Nat.add_assoc]
end
end Go.Proofs.YteaihgjjplgalaaDoor
