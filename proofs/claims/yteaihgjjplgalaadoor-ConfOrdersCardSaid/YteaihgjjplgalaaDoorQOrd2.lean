/- What ConfOrders' second loop writes, and what it is read as: plain laws. -/
import Derived.Test.YteaihgjjplgalaaDoorQOrd
namespace Go.Proofs.YteaihgjjplgalaaDoor
open Go.RowKit Go.Proofs.YteaihgjjplgalaaDoorW.PrintWords Go.Proofs.YteaihgjjplgalaaDoorW.PrintLast Go.Proofs.YteaihgjjplgalaaDoorW.PrintMore
set_option linter.unusedVariables false
set_option linter.unusedSimpArgs false

/-- The text behind q lines. -/
def ordText (ns : List Int) (is : List Nat) (t : Nat) (ag : Bool) (q : Nat) : ByteArray := BA (flat (noteL :: [] :: (written is t ag q).map (lineOf ns)))
theorem perm16 {is : List Nat} (hp : is.Perm (List.range 16)) : (∀ i ∈ is, i < 16) ∧ is.length = 16 := ⟨fun i hi => List.mem_range.1 (hp.mem_iff.1 hi), by rw [hp.length_eq, List.length_range]⟩
theorem ord_sizes (ns : List Int) (hn : I64s ns) {is : List Nat} (hp : is.Perm (List.range 16)) (t : Nat) (ag : Bool) (q : Nat) (hq : q < 16) : (ordText ns is t ag q).size ≤ 800 ∧ (BA (lineOf ns (is.getD q 0))).size ≤ 40 := by
  obtain ⟨h16, hl⟩ := perm16 hp
  have hwl := written_len is t ag q
  have hwl' : (written is t ag q).length ≤ 17 := by split at hwl <;> omega
  have hfl := (lines_ok ns hn (written is t ag q) (fun j hj => h16 j (written_mem is t ag q (by omega) j hj))).2
  have hgi : is.getD q 0 < 16 := by
    rw [List.getD_eq_getElem?_getD, List.getElem?_eq_getElem (by omega)]
    exact h16 _ (List.getElem_mem _)
  have := line_len ns hn (is.getD q 0) hgi
  unfold ordText
  rw [BA_size, BA_size]
  exact ⟨by omega, this⟩
theorem ord_start (ns : List Int) (is : List Nat) (t : Nat) (ag : Bool) : (⟨#[35, 32, 97, 32, 110, 111, 116, 101, 10, 10]⟩ : ByteArray) = ordText ns is t ag 0 := rfl
theorem ord_step1 (ns : List Int) (is : List Nat) (t : Nat) (ag : Bool) (q : Nat) (h : ¬ (ag = true ∧ q = t)) : ordText ns is t ag q ++ (BA (lineOf ns (is.getD q 0)) ++ (⟨#[10]⟩ : ByteArray)) = ordText ns is t ag (q + 1) := by
  unfold ordText
  rw [flat_snoc]
  conv => rhs; unfold written
  rw [if_neg h, List.map_append]
  simp
theorem ord_step2 (ns : List Int) (is : List Nat) (t : Nat) (q : Nat) (h : q = t) : (ordText ns is t true q ++ (BA (lineOf ns (is.getD q 0)) ++ (⟨#[10]⟩ : ByteArray))) ++ (BA (lineOf ns (is.getD q 0)) ++ (⟨#[10]⟩ : ByteArray)) = ordText ns is t true (q + 1) := by
  unfold ordText
  rw [flat_snoc, flat_snoc]
  conv => rhs; unfold written
  rw [if_pos ⟨rfl, h⟩, List.map_append]
  simp
theorem ord_parse (ns : List Int) (hl : ns.length = 16) (hn : I64s ns) {is : List Nat} (hp : is.Perm (List.range 16)) (t : Nat) (ht : t < 16) (ag : Bool) : parseR (ordText ns is t ag 16).data.toList = if ag = true then (zero16, 2) else if validB ns = true then (ns, 0) else (zero16, 1) := by
  obtain ⟨h16, hil⟩ := perm16 hp
  unfold ordText
  rw [BA_data]
  cases ag with
  | true =>
    rw [if_pos rfl]
    have hl := written_len is t true 16
    rw [if_pos (by omega)] at hl
    exact parse_twice _ hn _ (fun j hj => h16 j (written_mem is t true 16 (by omega) j hj)) (by omega) (written_twice is t 16 (by omega) (by omega))
  | false =>
    rw [if_neg (by decide), written_once is t 16 (by omega), List.take_of_length_le (by omega)]
    exact parse_perm _ hl hn is hp
end Go.Proofs.YteaihgjjplgalaaDoor
