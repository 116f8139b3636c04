/- append of a row of records onto another that has no room: the new slice is owned: plain laws over whatever record. -/
import Derived.Test.YteaihgjjplgalaaDoorRec
import Derived.Deep.RegionLaw
import Derived.ArgAppend
namespace Go.Proofs.YteaihgjjplgalaaDoor
open Go.RowKit
set_option linter.unusedVariables false
set_option linter.unusedSimpArgs false

section
variable {P : Program} {α : Type} {enc : α → List Value} {sz : Nat}
/-- The cells of a slice that reads as xs, one behind the other. -/
theorem SlAt.cells {G : Nat → Prop} {w : World} {b off len cap : Nat} {xs : List α} (he : ∀ x, (enc x).length = sz) (h : SlAt sz enc G w (.slice (some ⟨b, off, none⟩) len cap) xs) : ∀ j u, (xs.flatMap enc)[j]? = some u → w.cell? ((⟨b, off, none⟩ : Addr).add j) = some u := by
  obtain ⟨a, c, e, h1, h2, h3, h4⟩ := h
  cases e
  intro j u hj
  have hl := (List.getElem?_eq_some_iff.1 hj).1
  rw [flatMap_len he] at hl
  have hs : 0 < sz := by rcases Nat.eq_zero_or_pos sz with h | h; · rw [h, Nat.mul_zero] at hl; omega
                         · exact h
  have hi : j / sz < xs.length := by rw [Nat.div_lt_iff_lt_mul hs]; exact hl
  obtain ⟨b', off', e', _, hc⟩ := h4 (Nat.lt_of_le_of_lt (Nat.zero_le _) hi)
  cases e'
  have hx := List.getElem?_eq_getElem hi
  have hm := Nat.mod_lt j hs
  have hjj : j / sz * sz + j % sz = j := by rw [Nat.mul_comm]; exact Nat.div_add_mod j sz
  have h5 := flatMap_at he xs _ _ hx (j % sz) hm
  rw [hjj, hj] at h5
  have h6 := hc _ _ hx (j % sz) hm
  rw [WideShapes.add_plain, show off + j = off + j / sz * sz + j % sz by rw [Nat.add_assoc, hjj], h6, ← h5]
theorem SlAt.form {G : Nat → Prop} {w : World} {v : Value} {xs : List α} (h : SlAt sz enc G w v xs) : ∃ a c, v = .slice a xs.length c := by
  obtain ⟨a, c, e, _⟩ := h; exact ⟨a, c, e⟩

theorem run_append_new {G G' : Nat → Prop} {w : World} (he : ∀ x, (enc x).length = sz) (h1 : ∀ x, ∀ u ∈ enc x, u.oneCell' = true) (t ty e : TypeId) (z : Value) (bytes : Nat)
    (ht : P.underlying t = some (.slice e)) (hinf : (P.info? e).map (fun i => (i.zero, i.size, i.bytes)) = some (some z, sz, bytes)) (hzs : z.cells.size = sz) (hsz : 0 < sz)
    (a : Option Addr) (n cap : Nat) (v : Value) (xs ys : List α) (hs : SlAt sz enc G w (.slice a n cap) xs) (hx : SlAt sz enc G' w v ys) (hpos : 0 < ys.length) (hfull : cap < xs.length + ys.length)
    (h63 : xs.length + ys.length ≤ maxLen) (hbytes : (xs.length + ys.length) * bytes ≤ 140737488355328) :
    ∃ v' w', (Builtin.append_ #[t, t] ty #[.slice a n cap, v]).run P w = .ok v' w' ∧ OwnV e sz enc w.heap.size w' v' (xs ++ ys) ∧ Upd (fun _ => False) w w' := by
  obtain ⟨i0, hi, hz0, hz1, hz2⟩ := info_parts hinf
  have hy := id hx
  obtain ⟨a2, c2, rfl, g1, g2, g3, g4⟩ := hy
  obtain ⟨b2, off2, rfl, _, _⟩ := g4 hpos
  have hnews := hx.cells he
  have hs' := id hs
  obtain ⟨a', c', e', k1, k2, k3, k4⟩ := hs'
  cases e'
  have fin : ∀ v' w', w'.ownsRow w.heap.size e sz v' (xs.length + ys.length) (xs.flatMap enc ++ ys.flatMap enc) → OwnV e sz enc w.heap.size w' v' (xs ++ ys) := fun v' w' h => by
    unfold OwnV
    rw [List.length_append, List.flatMap_append]
    exact h
  cases a with
  | none =>
    obtain rfl := k3 rfl
    have hx0 : xs = [] := List.eq_nil_of_length_eq_zero (by omega)
    subst hx0
    obtain ⟨v', w', r, r1, r2, _⟩ := run_append_own (P := P) w w.heap.size t ty e i0 z sz bytes ht hi hz0 hz1 hz2 hzs hsz (.slice none 0 0) 0 [] (World.ownsRow_nil w _ e sz) ⟨b2, off2, none⟩ ys.length c2 (ys.flatMap enc) (flatMap_len he ys) hnews (fun u hu => by obtain ⟨x, _, hx⟩ := List.mem_flatMap.1 hu; exact h1 x u hx) (by simpa using h63) (by simpa using hbytes) (Nat.le_refl _)
    exact ⟨v', w', r, fin v' w' r1, (Upd.of_grown r2).mono (fun _ _ h => by cases h)⟩
  | some b =>
    have holds : ∀ j u, (xs.flatMap enc)[j]? = some u → w.cell? (b.add j) = some u := by
      by_cases hp : 0 < xs.length
      · obtain ⟨b', off', e', _, _⟩ := k4 hp
        cases e'
        exact hs.cells he
      · have hx0 : xs = [] := List.eq_nil_of_length_eq_zero (by omega)
        subst hx0
        intro j u h; simp at h
    obtain ⟨v', w', r, r1, r2⟩ := run_append_arg_grows (P := P) w t ty e i0 z sz bytes ht hi hz0 hz1 hz2 hzs hsz b xs.length cap (xs.flatMap enc) (flatMap_len he xs) holds ⟨b2, off2, none⟩ ys.length c2 (ys.flatMap enc) (flatMap_len he ys) hnews hfull h63 hbytes
    exact ⟨v', w', r, fin v' w' r1, (Upd.of_grown r2).mono (fun _ _ h => by cases h)⟩

theorem wpList_append_new {ops : Array Oper} {rest : List Oper} {o : Oper} {act : Act} {w : World} {Q : Exit → Act → World → Prop} {G G' : Nat → Prop} (hgd : o.guard = none) (s x : Operand) (t e : TypeId) (z : Value) (bytes : Nat)
    (ho : o.op = .call { callee := .builtin .append, args := #[s, x], argTypes := #[t, t] })
    (he : ∀ x, (enc x).length = sz) (h1 : ∀ x, ∀ u ∈ enc x, u.oneCell' = true)
    (ht : P.underlying t = some (.slice e)) (hinf : (P.info? e).map (fun i => (i.zero, i.size, i.bytes)) = some (some z, sz, bytes)) (hzs : z.cells.size = sz) (hsz : 0 < sz)
    (a : Option Addr) (n cap : Nat) (v : Value) (xs ys : List α) (hsv : act.eval s = .slice a n cap) (hxv : act.eval x = v) (hs : SlAt sz enc G w (.slice a n cap) xs) (hx : SlAt sz enc G' w v ys) (hpos : 0 < ys.length) (hfull : cap < xs.length + ys.length)
    (h63 : xs.length + ys.length ≤ maxLen) (hbytes : (xs.length + ys.length) * bytes ≤ 140737488355328)
    (h : ∀ v' w', OwnV e sz enc w.heap.size w' v' (xs ++ ys) → Upd (fun _ => False) w w' → wpList P ops Q rest (act.put o.dst v') w') : wpList P ops Q (o :: rest) act w := by
  refine wpList_plain hgd fun K hK => ?_
  obtain ⟨v', w', r, r1, r2⟩ := run_append_new (P := P) he h1 t o.type e z bytes ht hinf hzs hsz a n cap v xs ys hs hx hpos hfull h63 hbytes
  unfold Oper.wp
  simp [execOp, ho, resolve, invoke, builtin, hsv, hxv, r, Result.andThen]
  exact hK _ _ (h v' w' r1 r2)

theorem step_append_new {ops : Array Oper} {o : Oper} {act : Act} {w : World} {K : Act → World → Prop} {Q : Exit → Act → World → Prop} {E : Prop} {G G' : Nat → Prop} (hgd : o.guard = none) (s x : Operand) (t e : TypeId) (z : Value) (bytes : Nat)
    (ho : o.op = .call { callee := .builtin .append, args := #[s, x], argTypes := #[t, t] })
    (he : ∀ x, (enc x).length = sz) (h1 : ∀ x, ∀ u ∈ enc x, u.oneCell' = true)
    (ht : P.underlying t = some (.slice e)) (hinf : (P.info? e).map (fun i => (i.zero, i.size, i.bytes)) = some (some z, sz, bytes)) (hzs : z.cells.size = sz) (hsz : 0 < sz)
    (a : Option Addr) (n cap : Nat) (v : Value) (xs ys : List α) (hsv : act.eval s = .slice a n cap) (hxv : act.eval x = v) (hs : SlAt sz enc G w (.slice a n cap) xs) (hx : SlAt sz enc G' w v ys) (hpos : 0 < ys.length) (hfull : cap < xs.length + ys.length)
    (h63 : xs.length + ys.length ≤ maxLen) (hbytes : (xs.length + ys.length) * bytes ≤ 140737488355328)
    (h : ∀ v' w', OwnV e sz enc w.heap.size w' v' (xs ++ ys) → Upd (fun _ => False) w w' → K (act.put o.dst v') w') :
    if Region.wanted o (yielded ops act.tmps) = true then Oper.wp P o act w K Q else E := by
  have hw : Region.wanted o (yielded ops act.tmps) = true := by simp [Region.wanted, hgd]
  rw [if_pos hw]
  obtain ⟨v', w', r, r1, r2⟩ := run_append_new (P := P) he h1 t o.type e z bytes ht hinf hzs hsz a n cap v xs ys hs hx hpos hfull h63 hbytes
  unfold Oper.wp
  simp [execOp, ho, resolve, invoke, builtin, hsv, hxv, r, Result.andThen]
  exact h v' w' r1 r2
theorem run_append_none (w : World) (t ty e : TypeId) (z : Value) (bytes : Nat)
    (ht : P.underlying t = some (.slice e)) (hinf : (P.info? e).map (fun i => (i.zero, i.size, i.bytes)) = some (some z, sz, bytes))
    (a a2 : Option Addr) (n cap c2 : Nat) (hn : n ≤ cap) (h2 : a2 = none ∨ 0 < sz) :
    (Builtin.append_ #[t, t] ty #[.slice a n cap, .slice a2 0 c2]).run P w = .ok (.slice a n cap) w := by
  obtain ⟨i0, hi, hz0, hz1, hz2⟩ := info_parts hinf
  cases a <;> cases a2 <;> simp [Builtin.append_, run_underlying ht, sizeOf, typeInfo, hi, Builtin.lenOf, hn, Builtin.firstCells, storeCells, loadCells, loadCellsFrom]
theorem wpList_append_none {ops : Array Oper} {rest : List Oper} {o : Oper} {act : Act} {w : World} {Q : Exit → Act → World → Prop} (hgd : o.guard = none) (s x : Operand) (t e : TypeId) (z : Value) (bytes : Nat)
    (ho : o.op = .call { callee := .builtin .append, args := #[s, x], argTypes := #[t, t] })
    (ht : P.underlying t = some (.slice e)) (hinf : (P.info? e).map (fun i => (i.zero, i.size, i.bytes)) = some (some z, sz, bytes)) (hsz : 0 < sz)
    (a a2 : Option Addr) (n cap c2 : Nat) (hsv : act.eval s = .slice a n cap) (hxv : act.eval x = .slice a2 0 c2) (hn : n ≤ cap)
    (h : wpList P ops Q rest (act.put o.dst (.slice a n cap)) w) : wpList P ops Q (o :: rest) act w := by
  refine wpList_plain hgd fun K hK => ?_
  have r := run_append_none (P := P) w t o.type e z bytes ht hinf a a2 n cap c2 hn (.inr hsz)
  unfold Oper.wp
  simp [execOp, ho, resolve, invoke, builtin, hsv, hxv, r, Result.andThen]
  exact hK _ _ h
end
end Go.Proofs.YteaihgjjplgalaaDoor
