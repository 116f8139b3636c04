/- A part of a slice of records: what it reads as: a plain law. -/
import Derived.Test.YteaihgjjplgalaaRec
namespace Go.Proofs.Yteaihgjjplgalaa
open Go.RowKit
set_option linter.unusedVariables false
set_option linter.unusedSimpArgs false

/-- The value of xs[l:h]. -/
def part (sz : Nat) : Value → Nat → Nat → Value
  | .slice a len cap, l, h => .slice (if cap = l then a else a.map (·.add (l * sz))) (h - l) (cap - l)
  | v, _, _ => v
theorem SlAt.part {α : Type} {sz : Nat} {enc : α → List Value} {G : Nat → Prop} {w : World} {v : Value} {xs : List α} (h : SlAt sz enc G w v xs) (l r : Nat) (hlr : l ≤ r) (hr : r ≤ xs.length) :
    SlAt sz enc G w (part sz v l r) ((xs.drop l).take (r - l)) := by
  obtain ⟨a, cap, rfl, h1, h2, h3, h4⟩ := h
  have hlen : ((xs.drop l).take (r - l)).length = r - l := by rw [List.length_take, List.length_drop]; omega
  refine ⟨if cap = l then a else a.map (·.add (l * sz)), cap - l, by rw [hlen]; rfl, by rw [hlen]; omega, by omega, ?_, ?_⟩
  · intro hn
    split at hn
    · omega
    · have := h3 (by simpa using hn); omega
  · rw [hlen]
    intro hp
    obtain ⟨b, off, rfl, hg, hc⟩ := h4 (by omega)
    rw [if_neg (by omega)]
    refine ⟨b, off + l * sz, by rw [Option.map_some, WideShapes.add_plain], hg, fun i x hx j hj => ?_⟩
    have hx' : xs[l + i]? = some x := by
      have hi : i < r - l := by
        have := (List.getElem?_eq_some_iff.1 hx).1
        rw [hlen] at this
        exact this
      rw [List.getElem?_take_of_lt hi, List.getElem?_drop] at hx
      exact hx
    rw [← hc (l + i) x hx' j hj]
    congr 2
    rw [Nat.add_mul]; omega
theorem part_form (sz : Nat) (a : Option Addr) (len cap l h : Nat) : ∃ a' c', part sz (.slice a len cap) l h = .slice a' (h - l) c' := ⟨_, _, rfl⟩
theorem run_part {P : Program} {t e : TypeId} {sz : Nat} (ht : P.underlying t = some (.slice e)) (he : P.elem t = e) (hsz : ∀ w, (sizeOf e).run P w = .ok sz w) (a : Option Addr) (len cap l h : Nat) (hlh : l ≤ h) (hc : h ≤ cap) (w : World) :
    (Instr.slice t (.slice a len cap) (some (.int .i64 l)) (some (.int .i64 h)) none).run P w = .ok (part sz (.slice a len cap) l h) w := by
  have ht' : P.underlying t = some (.slice (P.elem t)) := by rw [he]; exact ht
  rw [run_slice_lh w t a len cap ht' .i64 .i64 l h (by omega) (by omega) (by omega), he, hsz]
  simp [Result.andThen, sliced, part]
theorem run_partAt {P : Program} {t e : TypeId} {sz : Nat} (ht : P.underlying t = some (.slice e)) (he : P.elem t = e) (hsz : ∀ w, (sizeOf e).run P w = .ok sz w) (a : Option Addr) (len cap l h : Nat) (hlh : l ≤ h) (hc : h ≤ cap) (w : World) :
    (Instr.sliceAt t (.slice a len cap) (some (.int .i64 l)) (some (.int .i64 h)) none).run P w = .ok (part sz (.slice a len cap) l h) w := by
  have ht' : P.underlying t = some (.slice (P.elem t)) := by rw [he]; exact ht
  rw [run_sliceAt_slice w t _ _ _ _ ht']
  exact run_part ht he hsz a len cap l h hlh hc w
theorem run_hmAt {P : Program} {t e : TypeId} {sz : Nat} (ht : P.underlying t = some (.slice e)) (he : P.elem t = e) (hsz : ∀ w, (sizeOf e).run P w = .ok sz w) (g off len cap h : Nat) (hc : h ≤ cap) (w : World) :
    (Instr.sliceAt t (.slice (some ⟨g, off, none⟩) len cap) none (some (.int .i64 h)) (some (.int .i64 h))).run P w = .ok (.slice (some ⟨g, off, none⟩) h h) w := by
  have ht' : P.underlying t = some (.slice (P.elem t)) := by rw [he]; exact ht
  rw [run_sliceAt_slice w t _ _ _ _ ht', run_slice_hm w t _ len cap ht' .i64 .i64 h h (by omega) (by omega) (by omega), he, hsz]
  simp [Result.andThen, sliced, WideShapes.add_plain]
theorem run_lAt {P : Program} {t e : TypeId} {sz : Nat} (ht : P.underlying t = some (.slice e)) (he : P.elem t = e) (hsz : ∀ w, (sizeOf e).run P w = .ok sz w) (a : Option Addr) (len cap l : Nat) (hl : l ≤ len) (w : World) :
    (Instr.sliceAt t (.slice a len cap) (some (.int .i64 l)) none none).run P w = .ok (part sz (.slice a len cap) l len) w := by
  have ht' : P.underlying t = some (.slice (P.elem t)) := by rw [he]; exact ht
  rw [run_sliceAt_slice w t _ _ _ _ ht', run_slice_l w t _ len cap ht' .i64 l (by omega) (by omega), he, hsz]
  simp [Result.andThen, sliced, part]
/-- its beginning, with no room behind it. -/
theorem SlAt.head {α : Type} {sz : Nat} {enc : α → List Value} {G : Nat → Prop} {w : World} {b off len cap : Nat} {xs : List α} (h : SlAt sz enc G w (.slice (some ⟨b, off, none⟩) len cap) xs) (r : Nat) (hr : r ≤ xs.length) :
    SlAt sz enc G w (.slice (some ⟨b, off, none⟩) r r) (xs.take r) := by
  obtain ⟨a, c, e, h1, h2, h3, h4⟩ := h
  injection e with e1 e2 e3
  subst e1
  have hl : (xs.take r).length = r := by rw [List.length_take]; omega
  refine ⟨_, r, by rw [hl], by rw [hl]; exact Nat.le_refl _, by omega, by simp, fun hp => ?_⟩
  obtain ⟨b', off', e', hg, hc⟩ := h4 (by omega)
  injection e' with e'
  injection e' with e4 e5 _
  subst e4 e5
  refine ⟨_, _, rfl, hg, fun i x hx j hj => hc i x ?_ j hj⟩
  have hi := (List.getElem?_eq_some_iff.1 hx).1
  rw [hl] at hi
  rw [List.getElem?_take_of_lt hi] at hx
  exact hx
end Go.Proofs.Yteaihgjjplgalaa
