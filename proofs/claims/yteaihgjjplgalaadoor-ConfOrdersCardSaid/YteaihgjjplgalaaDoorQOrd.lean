/- Lines of a config in whatever order, one perhaps twice: plain laws. -/
import Derived.Test.YteaihgjjplgalaaDoorQLines
namespace Go.Proofs.YteaihgjjplgalaaDoor
open Go.RowKit Go.Proofs.YteaihgjjplgalaaDoorW.PrintWords Go.Proofs.YteaihgjjplgalaaDoorW.PrintLast Go.Proofs.YteaihgjjplgalaaDoorW.PrintMore
set_option linter.unusedVariables false
set_option linter.unusedSimpArgs false

def I64s (ns : List Int) : Prop := ∀ v ∈ ns, -9223372036854775808 ≤ v ∧ v ≤ 9223372036854775807
theorem parse_of_steps (ls : List (List UInt8)) (h10 : ∀ l ∈ ls, (10 : UInt8) ∉ l) (hlen : (flat ls).length ≤ 20000) {x : Except Int PS} (h : stepAll told0 ls = x) : parseR (flat ls) = endR x := by
  unfold parseR
  rw [if_neg (by omega), lines_flat ls _ told0 h10 (by omega), h]
def noteL : List UInt8 := [35, 32, 97, 32, 110, 111, 116, 101]
theorem steps_note (ls : List (List UInt8)) : stepAll told0 (noteL :: [] :: ls) = stepAll told0 ls := by
  have h1 : lineStep told0 noteL = .ok told0 := by unfold lineStep; rw [if_neg (by simp [noteL])]
  have h2 : lineStep told0 [] = .ok told0 := by unfold lineStep; rw [if_neg (by simp)]
  conv => lhs; unfold stepAll
  rw [h1]
  simp only []
  conv => lhs; unfold stepAll
  rw [h2]
theorem lines_ok (ns : List Int) (hn : I64s ns) (is : List Nat) (h16 : ∀ i ∈ is, i < 16) : (∀ l ∈ noteL :: [] :: is.map (lineOf ns), (10 : UInt8) ∉ l) ∧ (flat (noteL :: [] :: is.map (lineOf ns))).length ≤ 41 * (is.length + 2) := by
  refine ⟨fun l hl => ?_, ?_⟩
  · rcases List.mem_cons.1 hl with rfl | hl
    · decide
    rcases List.mem_cons.1 hl with rfl | hl
    · decide
    obtain ⟨i, hi, rfl⟩ := List.mem_map.1 hl
    exact line_no10 ns i (h16 i hi)
  · have := flat_len (noteL :: [] :: is.map (lineOf ns)) (fun l hl => by
      rcases List.mem_cons.1 hl with rfl | hl
      · decide
      rcases List.mem_cons.1 hl with rfl | hl
      · decide
      obtain ⟨i, hi, rfl⟩ := List.mem_map.1 hl
      exact line_len ns hn i (h16 i hi))
    simpa using this
/-- All lines, once each, in whatever order. -/
theorem parse_perm (ns : List Int) (hl : ns.length = 16) (hn : I64s ns) (is : List Nat) (hp : is.Perm (List.range 16)) : parseR (flat (noteL :: [] :: is.map (lineOf ns))) = if validB ns = true then (ns, 0) else (zero16, 1) := by
  have h16 : ∀ i ∈ is, i < 16 := fun i hi => List.mem_range.1 (hp.mem_iff.1 hi)
  have hil : is.length = 16 := by rw [hp.length_eq, List.length_range]
  obtain ⟨h10, hlen⟩ := lines_ok ns hn is h16
  obtain ⟨q, hq, hqv⟩ := steps_all ns hl hn is hp
  rw [parse_of_steps _ h10 (by omega) ((steps_note _).trans hq)]
  unfold endR
  simp only [hqv]
/-- One of them twice. -/
theorem parse_twice (ns : List Int) (hn : I64s ns) (is : List Nat) (h16 : ∀ i ∈ is, i < 16) (hlen : is.length ≤ 17) (hd : ¬ is.Nodup) : parseR (flat (noteL :: [] :: is.map (lineOf ns))) = (zero16, 2) := by
  obtain ⟨h10, hl⟩ := lines_ok ns hn is h16
  rw [parse_of_steps _ h10 (by omega) ((steps_note _).trans (steps_dup ns hn is told0 (by decide) h16 hd))]
  rfl
theorem flat_snoc (ls : List (List UInt8)) (l : List UInt8) : BA (flat ls) ++ (BA l ++ (⟨#[10]⟩ : ByteArray)) = BA (flat (ls ++ [l])) := by
  rw [show (⟨#[10]⟩ : ByteArray) = BA [10] from rfl, BA_app, BA_app]
  unfold flat
  rw [List.flatMap_append]
  simp
/-- the order of lines that is written: one twice, perhaps -/
def written (is : List Nat) (t : Nat) (again : Bool) : Nat → List Nat
  | 0 => []
  | i + 1 => written is t again i ++ (if again = true ∧ i = t then [is.getD i 0, is.getD i 0] else [is.getD i 0])
theorem written_len (is : List Nat) (t : Nat) (again : Bool) : ∀ i, (written is t again i).length ≤ i + (if t < i then 1 else 0)
  | 0 => by simp [written]
  | i + 1 => by
    have := written_len is t again i
    unfold written
    rw [List.length_append]
    split
    · rename_i h
      obtain ⟨_, rfl⟩ := h
      rw [if_neg (by omega)] at this
      rw [if_pos (by omega)]
      simp only [List.length_cons, List.length_nil]
      omega
    · simp only [List.length_cons, List.length_nil]
      split at this <;> split <;> omega
theorem written_mem (is : List Nat) (t : Nat) (again : Bool) : ∀ i, i ≤ is.length → ∀ j ∈ written is t again i, j ∈ is
  | 0, _, j, h => by simp [written] at h
  | i + 1, hi, j, h => by
    unfold written at h
    rcases List.mem_append.1 h with h | h
    · exact written_mem is t again i (by omega) j h
    · have hg : is.getD i 0 ∈ is := by
        rw [List.getD_eq_getElem?_getD, List.getElem?_eq_getElem (by omega)]
        exact List.getElem_mem _
      split at h
      · simp at h; rw [h]; exact hg
      · simp at h; rw [h]; exact hg
theorem written_once (is : List Nat) (t : Nat) : ∀ i, i ≤ is.length → written is t false i = is.take i
  | 0, _ => by simp [written]
  | i + 1, hi => by
    unfold written
    rw [written_once is t i (by omega), if_neg (fun h => by cases h.1), List.take_add_one, List.getD_eq_getElem?_getD, List.getElem?_eq_getElem (by omega)]
    rfl
theorem written_twice (is : List Nat) (t : Nat) : ∀ i, t < i → i ≤ is.length → ¬ (written is t true i).Nodup
  | 0, h, _ => by omega
  | i + 1, h, hi => by
    unfold written
    intro hd
    by_cases hti : i = t
    · rw [if_pos ⟨rfl, hti⟩] at hd
      have := (List.nodup_append.1 hd).2.1
      simp at this
    · exact written_twice is t i (by omega) (by omega) (List.nodup_append.1 hd).1
end Go.Proofs.YteaihgjjplgalaaDoor
