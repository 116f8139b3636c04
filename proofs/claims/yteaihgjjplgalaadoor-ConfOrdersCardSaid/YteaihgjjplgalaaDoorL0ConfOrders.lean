/- The law ConfOrders, walked: what is used; the first loop. -/
import Derived.Test.YteaihgjjplgalaaDoorDoorAwake2
import Derived.Test.YteaihgjjplgalaaDoorQOrd
import Derived.Deep.RegionHeld3
namespace Go.Proofs.YteaihgjjplgalaaDoor
open Go.RowKit Go.Proofs.YteaihgjjplgalaaDoorW.PrintWords Go.Proofs.YteaihgjjplgalaaDoorW.PrintLast Go.Proofs.YteaihgjjplgalaaDoorW.PrintMore
set_option linter.unusedVariables false
set_option linter.unusedSimpArgs false

def I64c (ns : List Int) : Prop := ∀ v ∈ ns, -9223372036854775808 ≤ v ∧ v ≤ 9223372036854775807
theorem own_any (a0 a1 a2 a3 a4 a5 a6 a7 a8 a9 a10 a11 a12 a13 a14 a15 : Int) (w : World) :
    Calls Tryd.prog 10 #[.agg #[.int .i64 a0, .int .i64 a1, .int .i64 a2, .int .i64 a3, .int .i64 a4, .int .i64 a5, .int .i64 a6, .int .i64 a7, .int .i64 a8, .int .i64 a9, .int .i64 a10, .int .i64 a11, .int .i64 a12, .int .i64 a13, .int .i64 a14, .int .i64 a15]] w fun e w' => ∃ A c, e = .returned (.slice A 16 c) ∧ Kd.C (Kd.int .i64) w' A 16 [a0, a1, a2, a3, a4, a5, a6, a7, a8, a9, a10, a11, a12, a13, a14, a15] ∧ 16 ≤ c ∧ Below w.heap.size w w' := by
  refine (PConfOrders.overfalllaw13_own.calls a0 a1 a2 a3 a4 a5 a6 a7 a8 a9 a10 a11 a12 a13 a14 a15 [a0, a1, a2, a3, a4, a5, a6, a7, a8, a9, a10, a11, a12, a13, a14, a15] w rfl).mono ?_
  rintro e w' ⟨v, rfl, hR, hb⟩
  obtain ⟨A, c, rfl, hl, hr⟩ := Kd.R_reads hR
  exact ⟨A, c, rfl, hr, hl, hb⟩
theorem reftext_any (A : Option Addr) (c : Nat) (ns : List Int) (hl : ns.length = 16) (hn : I64c ns) (w : World) (hC : Kd.C (Kd.int .i64) w A 16 ns) (hc : 16 ≤ c) :
    Calls Tryd.prog 9 #[.slice A 16 c] w fun e w' => e = .returned (.string ⟨(confText ns).toArray⟩) ∧ Below w.heap.size w w' := by
  obtain ⟨K, hK⟩ := text_ev ns hl hn
  rw [← hl] at hC hc ⊢
  exact PConfOrders.overfallref13_Text.calls K A c ns _ w hC hc (hK K (Nat.le_refl _))
/-- A row of the call's own: its first sixteen cells are these strings. -/
def Row16 (w : World) (g : Nat) (f : Nat → ByteArray) : Prop := ∃ cur : Array Value, w.heap[g]? = some (.cells cur 9 (0, 0)) ∧ ∀ j, j < 16 → cur[j]? = some (.string (f j))
theorem Row16.cell {w : World} {g : Nat} {f : Nat → ByteArray} (h : Row16 w g f) {j : Nat} (hj : j < 16) : w.cell? ⟨g, j, none⟩ = some (.string (f j)) := by
  obtain ⟨cur, hb, hc⟩ := h
  exact (blk_cell hb j).trans (hc j hj)
theorem Row16.frozen {w : World} {g : Nat} {f : Nat → ByteArray} (h : Row16 w g f) (j : Nat) : w.frozen? ⟨g, j, none⟩ = false := by
  obtain ⟨cur, hb, hc⟩ := h
  exact blk_frozen hb j
theorem Row16.lt {w : World} {g : Nat} {f : Nat → ByteArray} (h : Row16 w g f) : g < w.heap.size := by
  obtain ⟨cur, hb, hc⟩ := h
  exact blk_lt hb
theorem Row16.below {w w' : World} {g : Nat} {f : Nat → ByteArray} (h : Row16 w g f) (hb : Below w.heap.size w w') : Row16 w' g f := by
  obtain ⟨cur, hk, hc⟩ := h
  exact ⟨cur, (hb.block g (blk_lt hk)).trans hk, hc⟩
theorem Row16.set {w : World} {g : Nat} {f : Nat → ByteArray} (h : Row16 w g f) {i : Nat} (hi : i < 16) (s : ByteArray) : Row16 (w.setCell ⟨g, i, none⟩ (.string s)) g (fun j => if j = i then s else f j) := by
  obtain ⟨cur, hk, hc⟩ := h
  refine ⟨_, blk_set hk i (.string s), fun j hj => ?_⟩
  have hsz : i < cur.size := by
    have := hc i hi
    rcases Nat.lt_or_ge i cur.size with h | h
    · exact h
    · rw [Array.getElem?_eq_none h] at this; cases this
  show _ = some (Value.string (if j = i then s else f j))
  by_cases e : j = i
  · subst e
    rw [if_pos rfl, Array.getElem?_setIfInBounds_self_of_lt hsz]
  · rw [if_neg e, Array.getElem?_setIfInBounds_ne (fun h => e h.symm)]
    exact hc j hj
theorem reflines_any (ns : List Int) (hl : ns.length = 16) (hn : I64c ns) (w : World) :
    Calls Tryd.prog 8 #[.string ⟨(confText ns).toArray⟩] w fun e w' => ∃ g cap, e = .returned (.slice (some ⟨g, 0, none⟩) 17 cap) ∧ 17 ≤ cap ∧ cap ≤ maxLen ∧ w.heap.size ≤ g ∧ Row16 w' g (fun j => BA (lineOf ns j)) ∧ Below w.heap.size w w' := by
  have hlt : (confText ns).length ≤ 100000 := by
    have := flat_len ((List.range 16).map (lineOf ns)) (fun l hl => by
      obtain ⟨i, hi, rfl⟩ := List.mem_map.1 hl
      exact line_len ns hn i (List.mem_range.1 hi))
    have e : (flat ((List.range 16).map (lineOf ns))).length = (confText ns).length := rfl
    simp at this
    omega
  obtain ⟨K, hK⟩ := lines_ev (confText ns) hlt
  refine (PConfOrders.overfallref13_Lines.calls K (BA (confText ns)) _ w (hK K (Nat.le_refl _))).mono ?_
  rintro e w' ⟨v, rfl, hR, hb⟩
  have hg : goLines [] [] (confText ns) = (List.range 16).map (lineOf ns) ++ [[]] :=
    goLines_flat ((List.range 16).map (lineOf ns)) [] (fun l hl => by
      obtain ⟨i, hi, rfl⟩ := List.mem_map.1 hl
      exact line_no10 _ i (List.mem_range.1 hi))
  rw [hg] at hR
  have ho := Kd.own_of_R hR
  have hlen : (((List.range 16).map (lineOf ns) ++ [[]]).map BA).length = 17 := rfl
  rw [hlen] at ho
  rcases ho.2 with ⟨_, h0⟩ | ⟨g, cap, cur, rfl, hbase, hcell, h1, h2, h3, h4⟩
  · exact absurd h0 (by decide)
  · refine ⟨g, cap, rfl, h1, h2, hbase, ⟨cur, hcell, fun j hj => ?_⟩, hb⟩
    have e : (cur.toList.take 17)[j]? = (encs Value.string (((List.range 16).map (lineOf ns) ++ [[]]).map BA))[j]? := by rw [h4]
    rw [List.getElem?_take_of_lt (by omega)] at e
    rw [← Array.getElem?_toList, e]
    have hj' : j = 0 ∨ j = 1 ∨ j = 2 ∨ j = 3 ∨ j = 4 ∨ j = 5 ∨ j = 6 ∨ j = 7 ∨ j = 8 ∨ j = 9 ∨ j = 10 ∨ j = 11 ∨ j = 12 ∨ j = 13 ∨ j = 14 ∨ j = 15 := by omega
    rcases hj' with rfl | rfl | rfl | rfl | rfl | rfl | rfl | rfl | rfl | rfl | rfl | rfl | rfl | rfl | rfl | rfl <;> rfl
end Go.Proofs.YteaihgjjplgalaaDoor
