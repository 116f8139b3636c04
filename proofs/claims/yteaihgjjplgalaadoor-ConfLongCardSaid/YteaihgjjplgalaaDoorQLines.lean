/- The reference's lines of a text, as the print has them: plain laws. -/
import Derived.Test.YteaihgjjplgalaaDoorQText
namespace Go.Proofs.YteaihgjjplgalaaDoor
open Go.RowKit Go.Proofs.YteaihgjjplgalaaDoorW.PrintWords Go.Proofs.YteaihgjjplgalaaDoorW.PrintLast Go.Proofs.YteaihgjjplgalaaDoorW.PrintMore
open Go.Proofs.YteaihgjjplgalaaDoor.PConfOrders
set_option linter.unusedVariables false
set_option linter.unusedSimpArgs false

/-- the lines, the last one perhaps of no bytes -/
def goLines : List (List UInt8) → List UInt8 → List UInt8 → List (List UInt8)
  | prev, cur, [] => prev ++ [cur]
  | prev, cur, b :: r => if b = 10 then goLines (prev ++ [cur]) [] r else goLines prev (cur ++ [b]) r
theorem bt_app (pre rest : List UInt8) (b : UInt8) : bt (BA (pre ++ b :: rest)) (pre.length : Int) = (b.toNat : Int) := by
  unfold bt
  have h : ((pre.length : Int)).toNat < (BA (pre ++ b :: rest)).size := by rw [BA_size, List.length_append, List.length_cons]; omega
  rw [dif_pos h]
  have e : (BA (pre ++ b :: rest))[((pre.length : Int)).toNat]'h = b := by
    show (pre ++ b :: rest).toArray[((pre.length : Int)).toNat]'_ = b
    simp
  rw [e]
theorem ext_app (pre rest : List UInt8) (b : UInt8) : (BA (pre ++ b :: rest)).extract ((pre.length : Int)).toNat (((pre.length + 1 : Nat) : Int)).toNat = BA [b] := by
  apply ByteArray.ext
  rw [ByteArray.data_extract]
  apply Array.ext'
  simp [BA]
theorem lines_loop (ex : ByteArray) : ∀ (rest pre cur : List UInt8) (prev : List (List UInt8)), ex = BA (pre ++ rest) → prev.length + cur.length ≤ pre.length → (pre ++ rest).length ≤ 100000 → Ev (fun k => overfallref13_Lines.l0 k ex ((prev ++ [cur]).map BA) (pre.length : Int)) ((goLines prev cur rest).map BA)
  | [], pre, cur, prev, hex, hp, hsz => by
    refine ⟨1, fun k hk => ?_⟩
    obtain ⟨k, rfl⟩ : ∃ j, k = j + 1 := ⟨k - 1, by omega⟩
    show overfallref13_Lines.l0 (k + 1) _ _ _ = _
    unfold overfallref13_Lines.l0
    rw [if_neg (by rw [hex, BA_size, List.append_nil]; omega)]
    rfl
  | b :: rest, pre, cur, prev, hex, hp, hsz => by
    have hw : wrap64 ((pre.length : Int) + 1) = ((pre.length + 1 : Nat) : Int) := by
      rw [List.length_append, List.length_cons] at hsz
      simp only [wrap64]; omega
    have hlen : (pre ++ b :: rest).length = pre.length + rest.length + 1 := by rw [List.length_append, List.length_cons]; omega
    have hb : bt ex (pre.length : Int) = (b.toNat : Int) := by rw [hex]; exact bt_app pre rest b
    have hxl : ((prev ++ [cur]).map BA).length = prev.length + 1 := by rw [List.length_map, List.length_append, List.length_singleton]
    by_cases h10 : b = 10
    · obtain ⟨K, hK⟩ := lines_loop ex rest (pre ++ [b]) [] (prev ++ [cur]) (by rw [hex, List.append_assoc]; rfl) (by simp only [List.length_append, List.length_singleton, List.length_nil]; omega) (by rw [List.append_assoc]; exact hsz)
      refine ⟨K + 1, fun k hk => ?_⟩
      obtain ⟨k, rfl⟩ : ∃ j, k = j + 1 := ⟨k - 1, by omega⟩
      have h1 := hK k (by omega)
      show overfallref13_Lines.l0 (k + 1) _ _ _ = _
      unfold overfallref13_Lines.l0
      rw [if_pos (by rw [hex, BA_size, hlen]; omega), if_pos (by omega), hb, if_pos (by subst h10; rfl), hxl, if_pos (by rw [hlen] at hsz; omega), hw]
      have e : goLines prev cur (b :: rest) = goLines (prev ++ [cur]) [] rest := by conv => lhs; unfold goLines
                                                                                    rw [if_pos h10]
      rw [e]
      rw [List.length_append, List.length_singleton] at h1
      rw [show (prev ++ [cur]).map BA ++ [(⟨#[]⟩ : ByteArray)] = ((prev ++ [cur]) ++ [[]]).map BA by rw [List.map_append (l₁ := prev ++ [cur])]; rfl]
      exact h1
    · obtain ⟨K, hK⟩ := lines_loop ex rest (pre ++ [b]) (cur ++ [b]) prev (by rw [hex, List.append_assoc]; rfl) (by simp only [List.length_append, List.length_singleton]; omega) (by rw [List.append_assoc]; exact hsz)
      refine ⟨K + 1, fun k hk => ?_⟩
      obtain ⟨k, rfl⟩ : ∃ j, k = j + 1 := ⟨k - 1, by omega⟩
      have h1 := hK k (by omega)
      show overfallref13_Lines.l0 (k + 1) _ _ _ = _
      unfold overfallref13_Lines.l0
      have hne : ¬ ((b.toNat : Int) = 10) := fun e => h10 (UInt8.toNat_inj.1 (by show b.toNat = 10; omega))
      have hj : wrap64 (((prev.length + 1 : Nat) : Int) - 1) = (prev.length : Int) := by rw [hlen] at hsz; simp only [wrap64]; omega
      have hlast : rdOf ByteArray.empty ((prev ++ [cur]).map BA) (prev.length : Int) = BA cur := by
        simp [rdOf, List.getD_eq_getElem?_getD]
      rw [if_pos (by rw [hex, BA_size, hlen]; omega), if_pos (by omega), hb, if_neg hne, hxl, hj, if_pos (by omega), if_pos (by omega), hw, if_pos (by omega), if_pos (by rw [hex, BA_size, hlen]; omega), hlast]
      have hext : ex.extract ((pre.length : Int)).toNat (((pre.length + 1 : Nat) : Int)).toNat = BA [b] := by rw [hex]; exact ext_app pre rest b
      rw [hext, BA_size, BA_size, if_pos (by rw [hlen] at hsz; simp only [List.length_singleton]; omega), BA_app]
      have e : goLines prev cur (b :: rest) = goLines prev (cur ++ [b]) rest := by conv => lhs; unfold goLines
                                                                                   rw [if_neg h10]
      rw [e]
      rw [List.length_append, List.length_singleton] at h1
      rw [show ((prev ++ [cur]).map BA).set ((prev.length : Int)).toNat (BA (cur ++ [b])) = (prev ++ [cur ++ [b]]).map BA by simp [List.set_append]]
      exact h1
theorem lines_ev (l : List UInt8) (h : l.length ≤ 100000) : Ev (fun k => overfallref13_Lines.f k (BA l)) ((goLines [] [] l).map BA) :=
  lines_loop (BA l) l [] [] [] rfl (by simp) h
theorem goLines_line : ∀ (l : List UInt8) (prev : List (List UInt8)) (cur r : List UInt8), (10 : UInt8) ∉ l → goLines prev cur (l ++ r) = goLines prev (cur ++ l) r
  | [], prev, cur, r, _ => by rw [List.append_nil, List.nil_append]
  | b :: l, prev, cur, r, h => by
    have h1 : b ≠ 10 := fun e => h (by subst e; exact List.mem_cons_self)
    rw [List.cons_append]
    conv => lhs; unfold goLines
    rw [if_neg h1, goLines_line l prev (cur ++ [b]) r (fun hm => h (List.mem_cons_of_mem _ hm)), List.append_assoc]
    rfl
theorem goLines_flat : ∀ (ls : List (List UInt8)) (prev : List (List UInt8)), (∀ l ∈ ls, (10 : UInt8) ∉ l) → goLines prev [] (flat ls) = prev ++ ls ++ [[]]
  | [], prev, _ => by simp [flat, goLines]
  | l :: ls, prev, h => by
    have e : flat (l :: ls) = l ++ 10 :: flat ls := by unfold flat; rw [List.flatMap_cons, List.append_assoc]; rfl
    rw [e, goLines_line l prev [] _ (h l List.mem_cons_self)]
    conv => lhs; unfold goLines
    rw [if_pos rfl, List.nil_append, goLines_flat ls (prev ++ [l]) (fun x hx => h x (List.mem_cons_of_mem _ hx))]
    simp
end Go.Proofs.YteaihgjjplgalaaDoor
