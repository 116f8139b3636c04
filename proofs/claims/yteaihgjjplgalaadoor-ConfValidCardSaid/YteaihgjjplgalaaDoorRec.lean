/- Slices of records that a call owns: append, reading: plain laws over whatever record. -/
import Derived.Test.YteaihgjjplgalaaDoorSl
import Derived.Deep.AppendLies
import Derived.ArgAppend
namespace Go.Proofs.YteaihgjjplgalaaDoor
open Go.RowKit
set_option linter.unusedVariables false
set_option linter.unusedSimpArgs false

/-- v is a slice that the call owns (its block is from base on): it reads as xs, sz cells an element. -/
def OwnV {α : Type} (e : TypeId) (sz : Nat) (enc : α → List Value) (base : Nat) (w : World) (v : Value) (xs : List α) : Prop :=
  w.ownsRow base e sz v xs.length (xs.flatMap enc)
theorem OwnV.nil {α : Type} (e : TypeId) (sz : Nat) (enc : α → List Value) (base : Nat) (w : World) : OwnV e sz enc base w (.slice none 0 0) ([] : List α) := World.ownsRow_nil w base e sz
theorem flatMap_len {α : Type} {enc : α → List Value} {sz : Nat} (he : ∀ x, (enc x).length = sz) (xs : List α) : (xs.flatMap enc).length = xs.length * sz := by
  induction xs with
  | nil => simp
  | cons x xs ih => rw [List.flatMap_cons, List.length_append, he, ih, List.length_cons, Nat.succ_mul, Nat.add_comm]
theorem flatMap_at {α : Type} {enc : α → List Value} {sz : Nat} (he : ∀ x, (enc x).length = sz) : ∀ (xs : List α) (i : Nat) (x : α), xs[i]? = some x → ∀ j, j < sz → (xs.flatMap enc)[i * sz + j]? = (enc x)[j]?
  | [], i, x, h, _, _ => by simp at h
  | y :: ys, 0, x, h, j, hj => by
    simp only [List.getElem?_cons_zero, Option.some.injEq] at h
    subst h
    rw [List.flatMap_cons, Nat.zero_mul, Nat.zero_add, List.getElem?_append_left (by rw [he]; exact hj)]
  | y :: ys, i + 1, x, h, j, hj => by
    simp only [List.getElem?_cons_succ] at h
    rw [List.flatMap_cons, List.getElem?_append_right (by rw [he, Nat.succ_mul]; omega), he, show (i + 1) * sz + j - sz = i * sz + j by rw [Nat.succ_mul]; omega]
    exact flatMap_at he ys i x h j hj
/-- it reads. -/
theorem OwnV.sl {α : Type} {e : TypeId} {sz : Nat} {enc : α → List Value} {base : Nat} {w : World} {v : Value} {xs : List α} (h : OwnV e sz enc base w v xs) (he : ∀ x, (enc x).length = sz) : SlAt sz enc (fun b => base ≤ b ∧ b < w.heap.size) w v xs := by
  rcases h.2 with ⟨rfl, h0⟩ | ⟨g, cap, cur, rfl, hb, hg, h1, h2, h3, h4⟩
  · have hx : xs = [] := List.eq_nil_of_length_eq_zero h0
    subst hx
    exact ⟨none, 0, rfl, Nat.le_refl _, Nat.zero_le _, fun _ => rfl, fun h => absurd h (Nat.lt_irrefl _)⟩
  · refine ⟨some ⟨g, 0, none⟩, cap, rfl, h1, h2, fun h => (by cases h), fun hp => ⟨g, 0, rfl, ⟨hb, (Array.getElem?_eq_some_iff.1 hg).1⟩, fun i x hx j hj => ?_⟩⟩
    have hc : w.cell? ⟨g, 0 + i * sz + j, none⟩ = cur.toList[i * sz + j]? := by simp [World.cell?, hg]
    have hlt : i < xs.length := (List.getElem?_eq_some_iff.1 hx).1
    have hlt2 : i * sz + j < xs.length * sz := by
      have : (i + 1) * sz ≤ xs.length * sz := Nat.mul_le_mul_right _ hlt
      rw [Nat.succ_mul] at this
      omega
    rw [hc, ← flatMap_at he xs i x hx j hj, ← h4, List.getElem?_take_of_lt hlt2]
/-- what is written elsewhere leaves it. -/
theorem OwnV.kept {α : Type} {e : TypeId} {sz : Nat} {enc : α → List Value} {base : Nat} {w w' : World} {v : Value} {xs : List α} (h : OwnV e sz enc base w v xs) (hk : ∀ b, v.ownBlock = some b → w'.heap[b]? = w.heap[b]?) : OwnV e sz enc base w' v xs := by
  refine ⟨h.1, ?_⟩
  rcases h.2 with h0 | ⟨g, cap, cur, rfl, hb, hg, h1⟩
  · exact .inl h0
  · exact .inr ⟨g, cap, cur, rfl, hb, (hk g rfl).trans hg, h1⟩
theorem OwnV.lt {α : Type} {e : TypeId} {sz : Nat} {enc : α → List Value} {base : Nat} {w : World} {v : Value} {xs : List α} (h : OwnV e sz enc base w v xs) : ∀ b, v.ownBlock = some b → base ≤ b ∧ b < w.heap.size := World.ownsRow.lt h
theorem OwnV.upd {α : Type} {e : TypeId} {sz : Nat} {enc : α → List Value} {base : Nat} {w w' : World} {v : Value} {xs : List α} {S : Nat → Prop} (h : OwnV e sz enc base w v xs) (u : Upd S w w') (hs : ∀ b, v.ownBlock = some b → ¬ S b) : OwnV e sz enc base w' v xs :=
  h.kept fun b hb => u.block b (h.lt b hb).2 (hs b hb)
theorem OwnV.form {α : Type} {e : TypeId} {sz : Nat} {enc : α → List Value} {base : Nat} {w : World} {v : Value} {xs : List α} (h : OwnV e sz enc base w v xs) : ∃ a cap, v = .slice a xs.length cap := by
  rcases h.2 with ⟨rfl, h0⟩ | ⟨g, cap, cur, rfl, _⟩
  · exact ⟨none, 0, by rw [h0]⟩
  · exact ⟨_, cap, rfl⟩
theorem OwnV.alloc {α : Type} {e : TypeId} {sz : Nat} {enc : α → List Value} {base : Nat} {w : World} {v : Value} {xs : List α} (h : OwnV e sz enc base w v xs) (o : Obj) : OwnV e sz enc base (w.alloc o) v xs :=
  h.upd ((Upd.refl (fun _ => False) w).alloc o) (fun _ _ h => h)
theorem OwnV.drew {α : Type} {e : TypeId} {sz : Nat} {enc : α → List Value} {base : Nat} {w : World} {v : Value} {xs : List α} (h : OwnV e sz enc base w v xs) : OwnV e sz enc base w.drew v xs := h
theorem OwnV.drewN {α : Type} {e : TypeId} {sz : Nat} {enc : α → List Value} {base : Nat} {w : World} {v : Value} {xs : List α} (h : OwnV e sz enc base w v xs) (n : Nat) : OwnV e sz enc base (w.drewN n) v xs := h
theorem news_alloc (w : World) (cs : List Value) (T : TypeId) (n : Nat) (hn : n = w.heap.size) : ∀ (j : Nat) (u : Value), cs[j]? = some u → (w.alloc (.cells cs.toArray T)).cell? ((⟨n, 0, none⟩ : Addr).add j) = some u := by
  intro j u h
  subst hn
  have e : (⟨w.heap.size, 0, none⟩ : Addr).add j = ⟨w.heap.size, j, none⟩ := by unfold Addr.add; split <;> simp_all
  rw [e, (Blk.new w cs.toArray T).cell]
  simpa using h
theorem Upd.of_grown {w w' : World} {row : Option Nat} (h : w.grownBy w' row) : Upd (fun b => row = some b) w w' := ⟨h.os, h.tape, h.output, h.size, fun k hk hs => h.block k hk (fun e => hs e.symm)⟩

section
variable {P : Program} {α : Type}
/-- s = append(s, x), one record more: the new slice is owned; nothing else that lay has turned but the old slice's own block. -/
theorem wpList_append_rec {ops : Array Oper} {rest : List Oper} {o : Oper} {a : Act} {w : World} {Q : Exit → Act → World → Prop} (hgd : o.guard = none) (s x : Operand) (t e : TypeId) (z : Value) (sz bytes : Nat) (enc : α → List Value) (he : ∀ x, (enc x).length = sz)
    (ho : o.op = .call { callee := .builtin .append, args := #[s, x], argTypes := #[t, t] })
    (ht : P.underlying t = some (.slice e)) (hinf : (P.info? e).map (fun i => (i.zero, i.size, i.bytes)) = some (some z, sz, bytes)) (hzs : z.cells.size = sz) (hsz : 0 < sz)
    (v : Value) (base : Nat) (xs : List α) (hs : a.eval s = v) (hown : OwnV e sz enc base w v xs)
    (ad : Addr) (c : Nat) (y : α) (hx : a.eval x = .slice (some ad) 1 c) (hnews : ∀ j u, (enc y)[j]? = some u → w.cell? (ad.add j) = some u) (h1 : ∀ u ∈ enc y, u.oneCell' = true)
    (h63 : xs.length + 1 ≤ maxLen) (hbytes : (xs.length + 1) * bytes ≤ 140737488355328) (hbase : base ≤ w.heap.size)
    (h : ∀ v' w', OwnV e sz enc base w' v' (xs ++ [y]) → Upd (fun b => v.ownBlock = some b) w w' → (∃ a' c', v' = .slice (some a') (xs.length + 1) c') → wpList P ops Q rest (a.put o.dst v') w') : wpList P ops Q (o :: rest) a w := by
  obtain ⟨i0, hi, hz0, hz1, hz2⟩ := info_parts hinf
  refine wpList_append_own w hgd s x t ho base e i0 z sz bytes ht hi hz0 hz1 hz2 hzs hsz v xs.length (xs.flatMap enc) hs hown ad 1 c (enc y) hx (by rw [he, Nat.one_mul]) hnews h1 h63 hbytes hbase ?_
  intro v' w' h2 h3 h4
  refine h v' w' ?_ (Upd.of_grown h3) ?_
  · unfold OwnV
    rw [List.length_append, List.length_singleton, List.flatMap_append, List.flatMap_cons, List.flatMap_nil, List.append_nil]
    exact h2
  · rcases h2.2 with ⟨rfl, h0⟩ | ⟨g, cap, cur, rfl, _⟩
    · omega
    · exact ⟨_, _, rfl⟩
end
end Go.Proofs.YteaihgjjplgalaaDoor
