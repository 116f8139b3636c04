/- The reference of layer 24: own, Burst: contracts, walked. -/
import Derived.Test.YteaihgjjplgalaaGap
import Derived.Test.YteaihgjjplgalaaRec
import Derived.Maps.AppendAt
namespace Go.Proofs.Yteaihgjjplgalaa
open Go.RowKit
set_option linter.unusedVariables false
set_option linter.unusedSimpArgs false

/-- A step as the reference has it. -/
structure RStep where
  now : Int
  k : Int
  n : Int
def RStep.cells (s : RStep) : List Value := [.int .i64 s.now, .int .u8 s.k, .int .i64 s.n]
theorem RStep.len (s : RStep) : s.cells.length = 3 := rfl
def StepD.toR (s : StepD) : RStep := ⟨s.now, s.k, s.n⟩
abbrev ROwn := OwnV 75 3 RStep.cells
theorem infoRStep : (Try.prog.info? 75).map (fun i => (i.zero, i.size, i.bytes)) = some (some (.agg #[.int .i64 0, .int .u8 0, .int .i64 0]), 3, 24) := by kernel_rfl
theorem take_map_succ {α β : Type} (f : α → β) {xs : List α} {k : Nat} {x : α} (hx : xs[k]? = some x) : (xs.take (k + 1)).map f = (xs.take k).map f ++ [f x] := by
  rw [List.take_add_one, hx, List.map_append]; rfl

set_option maxRecDepth 100000 in
set_option maxHeartbeats 1000000 in
theorem own_any (sv : Value) (xs : List StepD) (hlen : xs.length ≤ 1000000) (w : World) (hI : StepsAt (· < w.heap.size) w sv xs) :
    Calls Try.prog 29 #[sv] w fun e W' => ∃ v, e = .returned v ∧ ROwn w.heap.size W' v (xs.map StepD.toR) ∧ Upd (fun _ => False) w W' := by
  obtain ⟨a, cap, rfl, h1, h2, h3, h4⟩ := hI
  have hm : xs.length ≤ 9223372036854775807 := Nat.le_trans h1 h2
  have H4 := Lib.hid h4
  clear h4
  go_enter Try.func29, Try.ntmps29
  go_wp2_with fail
  go_loopw [3, 8] (fun out i wr => ∃ k : Nat, i = .int .i64 k ∧ k ≤ xs.length ∧ ROwn w.heap.size wr out ((xs.take k).map StepD.toR) ∧ Upd (fun _ => False) w wr) (fun _ i _ => xs.length - (intOf i).toNat)
  case atStart => exact ⟨0, rfl, Nat.zero_le _, OwnV.nil _ _ _ _ _, Upd.refl _ _⟩
  case round =>
    obtain ⟨k, rfl, hk, hO, hU⟩ := hrel
    have hsz := hU.size
    by_cases hlt : k < xs.length
    · obtain ⟨b, off, rfl, hGb, hc⟩ := H4.out (by omega)
      have hx : xs[k]? = some xs[k] := List.getElem?_eq_getElem hlt
      generalize xs[k] = x at hx
      have hck : ∀ j, j < 11 → wr.cell? ⟨b, off + k * 11 + j, none⟩ = x.cells[j]? := fun j hj => by
        rw [World.cell?_of_block (hU.block b hGb (fun h => h))]
        exact hc k x hx j hj
      have g0 : wr.cell? ⟨b, off + k * 11, none⟩ = _ := hck 0 (by decide)
      have g1 := hck 1 (by decide)
      have g2 := hck 2 (by decide)
      have g3 := hck 3 (by decide)
      have g4 := hck 4 (by decide)
      have g5 := hck 5 (by decide)
      have g6 := hck 6 (by decide)
      have g7 := hck 7 (by decide)
      have g8 := hck 8 (by decide)
      have g9 := hck 9 (by decide)
      have g10 := hck 10 (by decide)
      have HT := Lib.hid (take_map_succ StepD.toR hx)
      have hlk : ((xs.take k).map StepD.toR).length = k := by rw [List.length_map, List.length_take]; omega
      have Hlk := Lib.hid hlk
      have hsw : w.heap.size ≤ wr.heap.size := hU.size
      clear hc hck hx hlk
      generalize (xs.take k).map StepD.toR = ys at hO HT Hlk
      obtain ⟨now, kk, t, c, nn, aa, ii, t2, c2, s2, ga, gl, gc, hbd⟩ := x
      simp only [StepD.cells, List.getElem?_cons_zero, List.getElem?_cons_succ] at g0 g1 g2 g3 g4 g5 g6 g7 g8 g9 g10
      have hb2 : (ys.length + 1) * 24 ≤ 140737488355328 := by rw [Hlk.out]; omega
      have hb1 : ys.length + 1 ≤ maxLen := by rw [Hlk.out]; unfold maxLen; omega
      go_wp2_with (at_builtin; refine wpList_append_rec rfl _ _ 71 75 _ 3 24 RStep.cells RStep.len rfl Try.underlying71 infoRStep rfl (by decide) _ w.heap.size ys rfl ((hO.alloc _).alloc _) ⟨wr.heap.size + 1, 0, none⟩ 1 ⟨now, kk, nn⟩ rfl (news_alloc _ _ _ _ (by simp)) (by simp [RStep.cells, Value.oneCell']) hb1 hb2 (by simp; omega) ?_; rintro v' w' hO' hu ⟨a', c', rfl⟩)
      go_roundw
      case rel => exact ⟨k + 1, by go_num, by omega, by rw [HT.out]; exact hO', ((hU.alloc _).alloc _).then hu (fun i hi e => by have := (hO.lt i e).1; omega)⟩
      case measure => simp [intOf]; omega
    · rw [List.take_of_length_le (by omega)] at hO
      go_wp2_with fail
      go_ret
      exact ⟨_, rfl, hO, hU⟩
end Go.Proofs.Yteaihgjjplgalaa
