-- Printed for PaceTells of this claim, with some functions given by hand (wip/gprint.py).
import Derived.Test.YteaihgjjplgalaaPPaceTellsx0
import Derived.Test.YteaihgjjplgalaaPPaceTellsx1
namespace Go.Proofs.Yteaihgjjplgalaa.PPaceTells
open Go.RowKit Go.Proofs.YteaihgjjplgalaaW.PrintWords Go.Proofs.YteaihgjjplgalaaW.PrintLast Go.Proofs.YteaihgjjplgalaaW.PrintMore
attribute [local go_sem] max2_int min2_int max_two min_two max_three min_three max_four min_four   -- for this text's walks alone
set_option linter.unusedVariables false
set_option linter.unusedSimpArgs false

/-! ### overfallref23_Waits: function 37 -/
mutual
def overfallref23_Waits.l0 : Nat → List (S147) → List Int → Int → Int → Int → Int → Int → Int → Int → Int → Int → Int → Int → Int → Int → Int → Int → Int → Int → Option (List Int)
  | 0, _, _, _, _, _, _, _, _, _, _, _, _, _, _, _, _, _, _, _ => none
  | k + 1, x0, x5, x9, x10, x144000, x144001, x144002, x144003, x144004, x144005, x144006, x144007, x144008, x144009, x144010, x144011, x144012, x144013, x144014 => if x10 < x9 then ((overfallref23_in.f x0 x144000 x144001 x144002 x144003 x144004 x144005 x144006 x144007 x144008 x144009 x144010 x144011 x144012 x144013 x144014 x10).bind fun t147 => (if t147 = true then (if 0 ≤ x10 then (if x10 < (x0.length : Int) then (if ((rd_T147 x0 x10).f1) = x144000 then (if x5.length < 17592186044416 then (overfallref23_Waits.l0 k x0 (x5 ++ [0]) x9 (wrap64 (x10 + 1)) x144000 x144001 x144002 x144003 x144004 x144005 x144006 x144007 x144008 x144009 x144010 x144011 x144012 x144013 x144014) else (none)) else (if 0 ≤ (wrap64 ((x5.length : Int) - 1)) then (if (wrap64 ((x5.length : Int) - 1)) < (x5.length : Int) then (overfallref23_Waits.l0 k x0 (x5.set ((wrap64 ((x5.length : Int) - 1)) : Int).toNat (wrap64 ((rd x5 (wrap64 ((x5.length : Int) - 1))) + 1))) x9 (wrap64 (x10 + 1)) x144000 x144001 x144002 x144003 x144004 x144005 x144006 x144007 x144008 x144009 x144010 x144011 x144012 x144013 x144014) else (none)) else (none))) else (none)) else (none)) else (overfallref23_Waits.l0 k x0 x5 x9 (wrap64 (x10 + 1)) x144000 x144001 x144002 x144003 x144004 x144005 x144006 x144007 x144008 x144009 x144010 x144011 x144012 x144013 x144014))) else (if x144005 < 0 then (overfallref23_Waits.j1 k x5 true x144000 x144001 x144002 x144003 x144004 x144005 x144006 x144007 x144008 x144009 x144010 x144011 x144012 x144013 x144014) else (overfallref23_Waits.j1 k x5 (decide (x144005 ≥ (x0.length : Int))) x144000 x144001 x144002 x144003 x144004 x144005 x144006 x144007 x144008 x144009 x144010 x144011 x144012 x144013 x144014))
def overfallref23_Waits.j1 : Nat → List Int → Bool → Int → Int → Int → Int → Int → Int → Int → Int → Int → Int → Int → Int → Int → Int → Int → Option (List Int)
  | 0, _, _, _, _, _, _, _, _, _, _, _, _, _, _, _, _, _ => none
  | k + 1, x5, x47, x144000, x144001, x144002, x144003, x144004, x144005, x144006, x144007, x144008, x144009, x144010, x144011, x144012, x144013, x144014 => if x47 = true then (some ([] : List Int)) else (if x144006 ≥ 0 then (if 0 ≤ (wrap64 ((x5.length : Int) - 1)) then (if (wrap64 ((x5.length : Int) - 1)) ≤ (x5.length : Int) then (some (x5.take ((wrap64 ((x5.length : Int) - 1)) : Int).toNat)) else (none)) else (none)) else (some x5))
end
def overfallref23_Waits.f (k : Nat) (l0 : List (S147)) (a1_0 : Int) (a1_1 : Int) (a1_2 : Int) (a1_3 : Int) (a1_4 : Int) (a1_5 : Int) (a1_6 : Int) (a1_7 : Int) (a1_8 : Int) (a1_9 : Int) (a1_10 : Int) (a1_11 : Int) (a1_12 : Int) (a1_13 : Int) (a1_14 : Int) : Option (List Int) := overfallref23_Waits.l0 k l0 (([0] : List Int)) (l0.length : Int) 0 a1_0 a1_1 a1_2 a1_3 a1_4 a1_5 a1_6 a1_7 a1_8 a1_9 a1_10 a1_11 a1_12 a1_13 a1_14
theorem overfallref23_Waits.mono_l : ∀ k, (∀ y0 y1 y2 y3 y4 y5 y6 y7 y8 y9 y10 y11 y12 y13 y14 y15 y16 y17 y18, LeO (overfallref23_Waits.l0 k y0 y1 y2 y3 y4 y5 y6 y7 y8 y9 y10 y11 y12 y13 y14 y15 y16 y17 y18) (overfallref23_Waits.l0 (k + 1) y0 y1 y2 y3 y4 y5 y6 y7 y8 y9 y10 y11 y12 y13 y14 y15 y16 y17 y18)) ∧ (∀ y0 y1 y2 y3 y4 y5 y6 y7 y8 y9 y10 y11 y12 y13 y14 y15 y16, LeO (overfallref23_Waits.j1 k y0 y1 y2 y3 y4 y5 y6 y7 y8 y9 y10 y11 y12 y13 y14 y15 y16) (overfallref23_Waits.j1 (k + 1) y0 y1 y2 y3 y4 y5 y6 y7 y8 y9 y10 y11 y12 y13 y14 y15 y16))
  | 0 => ⟨fun _ _ _ _ _ _ _ _ _ _ _ _ _ _ _ _ _ _ _ r h => by simp [overfallref23_Waits.l0] at h, fun _ _ _ _ _ _ _ _ _ _ _ _ _ _ _ _ _ r h => by simp [overfallref23_Waits.j1] at h⟩
  | k + 1 => by
    obtain ⟨ih0, ih1⟩ := overfallref23_Waits.mono_l k
    refine ⟨?_, ?_⟩
    · intro y0 y1 y2 y3 y4 y5 y6 y7 y8 y9 y10 y11 y12 y13 y14 y15 y16 y17 y18
      unfold overfallref23_Waits.l0
      repeat' first
      | (with_reducible exact ih0 _ _ _ _ _ _ _ _ _ _ _ _ _ _ _ _ _ _ _)
      | (with_reducible exact ih1 _ _ _ _ _ _ _ _ _ _ _ _ _ _ _ _ _)
      | (with_reducible exact LeO.refl _)
      | (with_reducible exact LeO.none _)
      | (with_reducible refine LeO.ite ?_ ?_)
      | (with_reducible refine LeO.bind ?_ (fun _ => ?_))
      | exact ih0 _ _ _ _ _ _ _ _ _ _ _ _ _ _ _ _ _ _ _
      | exact ih1 _ _ _ _ _ _ _ _ _ _ _ _ _ _ _ _ _
      | exact LeO.none _
      | refine LeO.ite ?_ ?_
      | refine LeO.bind ?_ (fun _ => ?_)
    · intro y0 y1 y2 y3 y4 y5 y6 y7 y8 y9 y10 y11 y12 y13 y14 y15 y16
      unfold overfallref23_Waits.j1
      repeat' first
      | (with_reducible exact ih0 _ _ _ _ _ _ _ _ _ _ _ _ _ _ _ _ _ _ _)
      | (with_reducible exact ih1 _ _ _ _ _ _ _ _ _ _ _ _ _ _ _ _ _)
      | (with_reducible exact LeO.refl _)
      | (with_reducible exact LeO.none _)
      | (with_reducible refine LeO.ite ?_ ?_)
      | (with_reducible refine LeO.bind ?_ (fun _ => ?_))
      | exact ih0 _ _ _ _ _ _ _ _ _ _ _ _ _ _ _ _ _ _ _
      | exact ih1 _ _ _ _ _ _ _ _ _ _ _ _ _ _ _ _ _
      | exact LeO.none _
      | refine LeO.ite ?_ ?_
      | refine LeO.bind ?_ (fun _ => ?_)
theorem overfallref23_Waits.mono : ∀ a0 a1 a2 a3 a4 a5 a6 a7 a8 a9 a10 a11 a12 a13 a14 a15 k, LeO (overfallref23_Waits.f k a0 a1 a2 a3 a4 a5 a6 a7 a8 a9 a10 a11 a12 a13 a14 a15) (overfallref23_Waits.f (k + 1) a0 a1 a2 a3 a4 a5 a6 a7 a8 a9 a10 a11 a12 a13 a14 a15) := by
  intro a0 a1 a2 a3 a4 a5 a6 a7 a8 a9 a10 a11 a12 a13 a14 a15 k
  obtain ⟨ih0, ih1⟩ := overfallref23_Waits.mono_l k
  unfold overfallref23_Waits.f
  repeat' first
      | (with_reducible exact ih0 _ _ _ _ _ _ _ _ _ _ _ _ _ _ _ _ _ _ _)
      | (with_reducible exact ih1 _ _ _ _ _ _ _ _ _ _ _ _ _ _ _ _ _)
      | (with_reducible exact LeO.refl _)
      | (with_reducible exact LeO.none _)
      | (with_reducible refine LeO.ite ?_ ?_)
      | (with_reducible refine LeO.bind ?_ (fun _ => ?_))
      | exact ih0 _ _ _ _ _ _ _ _ _ _ _ _ _ _ _ _ _ _ _
      | exact ih1 _ _ _ _ _ _ _ _ _ _ _ _ _ _ _ _ _
      | exact LeO.none _
      | refine LeO.ite ?_ ?_
      | refine LeO.bind ?_ (fun _ => ?_)
set_option maxHeartbeats 8000000 in
set_option maxRecDepth 100000 in
theorem overfallref23_Waits.calls (k : Nat) (A0 : Option Addr) (c0 : Nat) (l0 : List (S147)) (a1_0 : Int) (a1_1 : Int) (a1_2 : Int) (a1_3 : Int) (a1_4 : Int) (a1_5 : Int) (a1_6 : Int) (a1_7 : Int) (a1_8 : Int) (a1_9 : Int) (a1_10 : Int) (a1_11 : Int) (a1_12 : Int) (a1_13 : Int) (a1_14 : Int) (r : List Int) (w : World) (hr0 : Kd.C k147 w A0 l0.length l0) (hc0 : l0.length ≤ c0) (h : overfallref23_Waits.f k l0 a1_0 a1_1 a1_2 a1_3 a1_4 a1_5 a1_6 a1_7 a1_8 a1_9 a1_10 a1_11 a1_12 a1_13 a1_14 = some r) :
    Calls Try.prog 37 #[.slice A0 l0.length c0, .agg #[.int .i64 a1_0, .int .u8 a1_1, .int .i64 a1_2, .int .i64 a1_3, .int .i64 a1_4, .int .i64 a1_5, .int .i64 a1_6, .int .i64 a1_7, .int .i64 a1_8, .int .i64 a1_9, .int .u8 a1_10, .int .u64 a1_11, .int .i64 a1_12, .int .i64 a1_13, .int .i64 a1_14]] w fun e w' => ∃ v0_ : Value, e = .returned (v0_) ∧ Kd.R (Kd.int .i64) 3 w' w.heap.size (fun _ => True) v0_ r ∧ Below w.heap.size w w' := by
  have hu104 := Try.underlying104
  have HR0 := Aside0.mk hr0
  have HC0 := Aside0.mk hc0
  clear hr0 hc0
  have HB := Aside0.mk (Below.refl w.heap.size w)
  have H : (overfallref23_Waits.l0 k l0 (([0] : List Int)) (l0.length : Int) 0 a1_0 a1_1 a1_2 a1_3 a1_4 a1_5 a1_6 a1_7 a1_8 a1_9 a1_10 a1_11 a1_12 a1_13 a1_14) = some r := h
  clear h
  obtain ⟨y144, hy144⟩ : ∃ y_ : List Int, y_ = (([0] : List Int)) := ⟨_, rfl⟩
  replace H : (overfallref23_Waits.l0 k l0 y144 (l0.length : Int) 0 a1_0 a1_1 a1_2 a1_3 a1_4 a1_5 a1_6 a1_7 a1_8 a1_9 a1_10 a1_11 a1_12 a1_13 a1_14) = some r := by first | (rw [hy144]; with_reducible exact H) | (have H2_ := (Option.bind_some _ _).symm.trans H; rw [hy144]; with_reducible exact H2_) | (have H2_ := (Option.bind_some _ _).symm.trans H; with_reducible exact H2_) | with_reducible exact H | (rw [hy144]; exact H) | exact H
  have Ny144 := Aside0.mk hy144
  clear hy144
  have H' := Aside0.mk H
  clear H
  go_enter Try.func37, Try.ntmps37
  go_wp2_with (first | ((with_reducible refine gate_dst (N := 3) rfl ?_); (try (refine gate_guard (by rfl) ?_; dsimp only)); refine box_event ?hg (N := 3) ?hd (cs := #[.int .i64 a1_0, .int .u8 a1_1, .int .i64 a1_2, .int .i64 a1_3, .int .i64 a1_4, .int .i64 a1_5, .int .i64 a1_6, .int .i64 a1_7, .int .i64 a1_8, .int .i64 a1_9, .int .u8 a1_10, .int .u64 a1_11, .int .i64 a1_12, .int .i64 a1_13, .int .i64 a1_14]) (t := 104) ?hr ?_; (case hd => rfl); (case hg => rfl); (case hr => first | (go_simp; done) | (go_simp; rfl)); intro gb143 hg w3 hbox hb; have n0_ := Aside0.mk (below_step (by repeat (first | (with_reducible first | exact HB.out | apply below_alloc | apply pw_below_drewN | apply below_drew1) | exact HB.out)) hb); have n1_ := Aside0.mk (hbox); have n2_ := Aside0.mk ((by rw [hg]; exact (below_size (by repeat (first | (with_reducible first | exact HB.out | apply below_alloc | apply pw_below_drewN | apply below_drew1) | exact HB.out))) : w.heap.size ≤ gb143)); have n3_ := Aside0.mk ((by rw [hg]; exact (below_size (by repeat (first | (with_reducible first | exact HB.out | apply below_alloc | apply pw_below_drewN | apply below_drew1) | exact HB.out))) : w.heap.size ≤ gb143)); clear HB; have HB := n0_; have BK143 := n1_; have GW143 := n2_; have GE143 := n3_; clear n0_ n1_ n2_ n3_; clear hb hbox hg) | ((with_reducible refine gate_dst (N := 7) rfl ?_); (try (refine gate_guard (by rfl) ?_; dsimp only)); refine Kd.R_lit (Kd.int .i64) _ 3 ?hg (N := 7) ?hd (xs := ([0] : List Int)) (inner := [.int .i64 0]) (ok := fun _ => True) (okp := fun _ => True) ?hr ?hp (fun _ hk => hk) trivial (Below.refl _ _) (Nat.le_refl _) (by simp) ?_; (case hd => rfl); (case hg => rfl); (case hr => first | (go_simp; done) | (go_simp; rfl)); (case hp => exact (Reps.one (show Kd.M (Kd.int .i64) _ _ _ 0 [.int .i64 0] from rfl) (Reps.none _ _))); intro v145 w4 ho5 hb hg_ hnew_; clear hg_ hnew_; (first | rw [← Ny144.out] at ho5 | (simp only [Int.reduceToNat] at ho5; rw [← Ny144.out] at ho5)); have n0_ := Aside0.mk (Kd.R_lower ho5 (below_size (by repeat (first | (with_reducible first | exact HB.out | apply below_alloc | apply pw_below_drewN | apply below_drew1 | refine below_set ?_ GE143.out) | exact HB.out)))); have n1_ := Aside0.mk (blk_below (g := gb143) (o := .cells #[.int .i64 a1_0, .int .u8 a1_1, .int .i64 a1_2, .int .i64 a1_3, .int .i64 a1_4, .int .i64 a1_5, .int .i64 a1_6, .int .i64 a1_7, .int .i64 a1_8, .int .i64 a1_9, .int .u8 a1_10, .int .u64 a1_11, .int .i64 a1_12, .int .i64 a1_13, .int .i64 a1_14] 104 (0, 0)) (by (with_reducible repeat (first | refine blk_drewN ?_ _ | refine blk_drew ?_ | refine blk_alloc ?_ _)); exact BK143.out) hb); have n2_ := Aside0.mk (below_step (by repeat (first | (with_reducible first | exact HB.out | apply below_alloc | apply pw_below_drewN | apply below_drew1 | refine below_set ?_ GE143.out) | exact HB.out)) hb); clear BK143; clear HB; have HO146 := n0_; have BK143 := n1_; have HB := n2_; clear n0_ n1_ n2_; clear hb ho5))
  repeat (go_quiet (first | ((with_reducible refine gate_dst (N := 3) rfl ?_); (try (refine gate_guard (by rfl) ?_; dsimp only)); refine box_event ?hg (N := 3) ?hd (cs := #[.int .i64 a1_0, .int .u8 a1_1, .int .i64 a1_2, .int .i64 a1_3, .int .i64 a1_4, .int .i64 a1_5, .int .i64 a1_6, .int .i64 a1_7, .int .i64 a1_8, .int .i64 a1_9, .int .u8 a1_10, .int .u64 a1_11, .int .i64 a1_12, .int .i64 a1_13, .int .i64 a1_14]) (t := 104) ?hr ?_; (case hd => rfl); (case hg => rfl); (case hr => first | (go_simp; done) | (go_simp; rfl)); intro gb143 hg w3 hbox hb; have n0_ := Aside0.mk (below_step (by repeat (first | (with_reducible first | exact HB.out | apply below_alloc | apply pw_below_drewN | apply below_drew1) | exact HB.out)) hb); have n1_ := Aside0.mk (hbox); have n2_ := Aside0.mk ((by rw [hg]; exact (below_size (by repeat (first | (with_reducible first | exact HB.out | apply below_alloc | apply pw_below_drewN | apply below_drew1) | exact HB.out))) : w.heap.size ≤ gb143)); have n3_ := Aside0.mk ((by rw [hg]; exact (below_size (by repeat (first | (with_reducible first | exact HB.out | apply below_alloc | apply pw_below_drewN | apply below_drew1) | exact HB.out))) : w.heap.size ≤ gb143)); clear HB; have HB := n0_; have BK143 := n1_; have GW143 := n2_; have GE143 := n3_; clear n0_ n1_ n2_ n3_; clear hb hbox hg) | ((with_reducible refine gate_dst (N := 7) rfl ?_); (try (refine gate_guard (by rfl) ?_; dsimp only)); refine Kd.R_lit (Kd.int .i64) _ 3 ?hg (N := 7) ?hd (xs := ([0] : List Int)) (inner := [.int .i64 0]) (ok := fun _ => True) (okp := fun _ => True) ?hr ?hp (fun _ hk => hk) trivial (Below.refl _ _) (Nat.le_refl _) (by simp) ?_; (case hd => rfl); (case hg => rfl); (case hr => first | (go_simp; done) | (go_simp; rfl)); (case hp => exact (Reps.one (show Kd.M (Kd.int .i64) _ _ _ 0 [.int .i64 0] from rfl) (Reps.none _ _))); intro v145 w4 ho5 hb hg_ hnew_; clear hg_ hnew_; (first | rw [← Ny144.out] at ho5 | (simp only [Int.reduceToNat] at ho5; rw [← Ny144.out] at ho5)); have n0_ := Aside0.mk (Kd.R_lower ho5 (below_size (by repeat (first | (with_reducible first | exact HB.out | apply below_alloc | apply pw_below_drewN | apply below_drew1 | refine below_set ?_ GE143.out) | exact HB.out)))); have n1_ := Aside0.mk (blk_below (g := gb143) (o := .cells #[.int .i64 a1_0, .int .u8 a1_1, .int .i64 a1_2, .int .i64 a1_3, .int .i64 a1_4, .int .i64 a1_5, .int .i64 a1_6, .int .i64 a1_7, .int .i64 a1_8, .int .i64 a1_9, .int .u8 a1_10, .int .u64 a1_11, .int .i64 a1_12, .int .i64 a1_13, .int .i64 a1_14] 104 (0, 0)) (by (with_reducible repeat (first | refine blk_drewN ?_ _ | refine blk_drew ?_ | refine blk_alloc ?_ _)); exact BK143.out) hb); have n2_ := Aside0.mk (below_step (by repeat (first | (with_reducible first | exact HB.out | apply below_alloc | apply pw_below_drewN | apply below_drew1 | refine below_set ?_ GE143.out) | exact HB.out)) hb); clear BK143; clear HB; have HO146 := n0_; have BK143 := n1_; have HB := n2_; clear n0_ n1_ n2_; clear hb ho5)); try go_wp2_with (first | ((with_reducible refine gate_dst (N := 3) rfl ?_); (try (refine gate_guard (by rfl) ?_; dsimp only)); refine box_event ?hg (N := 3) ?hd (cs := #[.int .i64 a1_0, .int .u8 a1_1, .int .i64 a1_2, .int .i64 a1_3, .int .i64 a1_4, .int .i64 a1_5, .int .i64 a1_6, .int .i64 a1_7, .int .i64 a1_8, .int .i64 a1_9, .int .u8 a1_10, .int .u64 a1_11, .int .i64 a1_12, .int .i64 a1_13, .int .i64 a1_14]) (t := 104) ?hr ?_; (case hd => rfl); (case hg => rfl); (case hr => first | (go_simp; done) | (go_simp; rfl)); intro gb143 hg w3 hbox hb; have n0_ := Aside0.mk (below_step (by repeat (first | (with_reducible first | exact HB.out | apply below_alloc | apply pw_below_drewN | apply below_drew1) | exact HB.out)) hb); have n1_ := Aside0.mk (hbox); have n2_ := Aside0.mk ((by rw [hg]; exact (below_size (by repeat (first | (with_reducible first | exact HB.out | apply below_alloc | apply pw_below_drewN | apply below_drew1) | exact HB.out))) : w.heap.size ≤ gb143)); have n3_ := Aside0.mk ((by rw [hg]; exact (below_size (by repeat (first | (with_reducible first | exact HB.out | apply below_alloc | apply pw_below_drewN | apply below_drew1) | exact HB.out))) : w.heap.size ≤ gb143)); clear HB; have HB := n0_; have BK143 := n1_; have GW143 := n2_; have GE143 := n3_; clear n0_ n1_ n2_ n3_; clear hb hbox hg) | ((with_reducible refine gate_dst (N := 7) rfl ?_); (try (refine gate_guard (by rfl) ?_; dsimp only)); refine Kd.R_lit (Kd.int .i64) _ 3 ?hg (N := 7) ?hd (xs := ([0] : List Int)) (inner := [.int .i64 0]) (ok := fun _ => True) (okp := fun _ => True) ?hr ?hp (fun _ hk => hk) trivial (Below.refl _ _) (Nat.le_refl _) (by simp) ?_; (case hd => rfl); (case hg => rfl); (case hr => first | (go_simp; done) | (go_simp; rfl)); (case hp => exact (Reps.one (show Kd.M (Kd.int .i64) _ _ _ 0 [.int .i64 0] from rfl) (Reps.none _ _))); intro v145 w4 ho5 hb hg_ hnew_; clear hg_ hnew_; (first | rw [← Ny144.out] at ho5 | (simp only [Int.reduceToNat] at ho5; rw [← Ny144.out] at ho5)); have n0_ := Aside0.mk (Kd.R_lower ho5 (below_size (by repeat (first | (with_reducible first | exact HB.out | apply below_alloc | apply pw_below_drewN | apply below_drew1 | refine below_set ?_ GE143.out) | exact HB.out)))); have n1_ := Aside0.mk (blk_below (g := gb143) (o := .cells #[.int .i64 a1_0, .int .u8 a1_1, .int .i64 a1_2, .int .i64 a1_3, .int .i64 a1_4, .int .i64 a1_5, .int .i64 a1_6, .int .i64 a1_7, .int .i64 a1_8, .int .i64 a1_9, .int .u8 a1_10, .int .u64 a1_11, .int .i64 a1_12, .int .i64 a1_13, .int .i64 a1_14] 104 (0, 0)) (by (with_reducible repeat (first | refine blk_drewN ?_ _ | refine blk_drew ?_ | refine blk_alloc ?_ _)); exact BK143.out) hb); have n2_ := Aside0.mk (below_step (by repeat (first | (with_reducible first | exact HB.out | apply below_alloc | apply pw_below_drewN | apply below_drew1 | refine below_set ?_ GE143.out) | exact HB.out)) hb); clear BK143; clear HB; have HO146 := n0_; have BK143 := n1_; have HB := n2_; clear n0_ n1_ n2_; clear hb ho5)))
  go_loopg [5, 10] k (fun kq v5 v10 w' => ∃ (x5_1 : List Int) (x10_1 : Int), v10 = .int .i64 x10_1 ∧ Aside0 (overfallref23_Waits.l0 kq l0 x5_1 (l0.length : Int) x10_1 a1_0 a1_1 a1_2 a1_3 a1_4 a1_5 a1_6 a1_7 a1_8 a1_9 a1_10 a1_11 a1_12 a1_13 a1_14 = some r) ∧ Aside0 (kq ≤ k) ∧ Aside0 (Kd.R (Kd.int .i64) 3 w' w.heap.size (fun _ => True) v5 x5_1) ∧ Aside0 (w'.heap[gb143]? = some (.cells #[.int .i64 a1_0, .int .u8 a1_1, .int .i64 a1_2, .int .i64 a1_3, .int .i64 a1_4, .int .i64 a1_5, .int .i64 a1_6, .int .i64 a1_7, .int .i64 a1_8, .int .i64 a1_9, .int .u8 a1_10, .int .u64 a1_11, .int .i64 a1_12, .int .i64 a1_13, .int .i64 a1_14] 104 (0, 0))) ∧ Aside0 (Below w.heap.size w w'))
  case atStart => exact ⟨(y144), (0), (by first | rfl | (simp; done) | (simp [*]; done)), H', ⟨Nat.le_refl _⟩, ⟨by (with_reducible repeat (first | apply Kd.R_alloc | apply Kd.R_drewN | apply Kd.R_drew)); exact HO146.out⟩, ⟨by (with_reducible repeat (first | refine blk_drewN ?_ _ | refine blk_drew ?_ | refine blk_alloc ?_ _)); exact BK143.out⟩, ⟨by repeat (first | (with_reducible first | exact HB.out | apply below_alloc | apply pw_below_drewN | apply below_drew1 | refine below_set ?_ GE143.out) | exact HB.out)⟩⟩
  case round =>
    clear H'
    try clear p2
    try clear c3
    obtain ⟨x5_1, x10_1, rfl, HA, HK1, HO_5, BK143, HB⟩ := hrel
    cases gk with
    | zero => exact absurd HA.out (by simp [overfallref23_Waits.l0])
    | succ k1 =>
      have H := HA.out
      clear HA
      simp only [overfallref23_Waits.l0] at H
      by_cases c6 : x10_1 < (l0.length : Int)
      · rw [if_pos c6] at H
        have c6b0 : decide (x10_1 < (l0.length : Int)) = true := decide_eq_true c6
        clear c6
        replace H := Option.bind_eq_some_iff.mp H
        obtain ⟨t147, A70, H⟩ := H
        replace H : (if t147 = true then (if 0 ≤ x10_1 then (if x10_1 < (l0.length : Int) then (if ((rd_T147 l0 x10_1).f1) = a1_0 then (if x5_1.length < 17592186044416 then (overfallref23_Waits.l0 k1 l0 (x5_1 ++ [0]) (l0.length : Int) (wrap64 (x10_1 + 1)) a1_0 a1_1 a1_2 a1_3 a1_4 a1_5 a1_6 a1_7 a1_8 a1_9 a1_10 a1_11 a1_12 a1_13 a1_14) else (none)) else (if 0 ≤ (wrap64 ((x5_1.length : Int) - 1)) then (if (wrap64 ((x5_1.length : Int) - 1)) < (x5_1.length : Int) then (overfallref23_Waits.l0 k1 l0 (x5_1.set ((wrap64 ((x5_1.length : Int) - 1)) : Int).toNat (wrap64 ((rd x5_1 (wrap64 ((x5_1.length : Int) - 1))) + 1))) (l0.length : Int) (wrap64 (x10_1 + 1)) a1_0 a1_1 a1_2 a1_3 a1_4 a1_5 a1_6 a1_7 a1_8 a1_9 a1_10 a1_11 a1_12 a1_13 a1_14) else (none)) else (none))) else (none)) else (none)) else (overfallref23_Waits.l0 k1 l0 x5_1 (l0.length : Int) (wrap64 (x10_1 + 1)) a1_0 a1_1 a1_2 a1_3 a1_4 a1_5 a1_6 a1_7 a1_8 a1_9 a1_10 a1_11 a1_12 a1_13 a1_14)) = some r := H
        have A7 := Aside0.mk A70
        clear A70
        by_cases c8 : t147 = true
        · subst c8
          have H1 : (if 0 ≤ x10_1 then (if x10_1 < (l0.length : Int) then (if ((rd_T147 l0 x10_1).f1) = a1_0 then (if x5_1.length < 17592186044416 then (overfallref23_Waits.l0 k1 l0 (x5_1 ++ [0]) (l0.length : Int) (wrap64 (x10_1 + 1)) a1_0 a1_1 a1_2 a1_3 a1_4 a1_5 a1_6 a1_7 a1_8 a1_9 a1_10 a1_11 a1_12 a1_13 a1_14) else (none)) else (if 0 ≤ (wrap64 ((x5_1.length : Int) - 1)) then (if (wrap64 ((x5_1.length : Int) - 1)) < (x5_1.length : Int) then (overfallref23_Waits.l0 k1 l0 (x5_1.set ((wrap64 ((x5_1.length : Int) - 1)) : Int).toNat (wrap64 ((rd x5_1 (wrap64 ((x5_1.length : Int) - 1))) + 1))) (l0.length : Int) (wrap64 (x10_1 + 1)) a1_0 a1_1 a1_2 a1_3 a1_4 a1_5 a1_6 a1_7 a1_8 a1_9 a1_10 a1_11 a1_12 a1_13 a1_14) else (none)) else (none))) else (none)) else (none)) = some r := by rw [if_pos rfl] at H; exact H
          clear H
          have H := H1
          clear H1
          by_cases c9 : 0 ≤ x10_1
          · rw [if_pos c9] at H
            have c9b0 : decide (0 ≤ x10_1) = true := decide_eq_true c9
            clear c9
            by_cases c10 : x10_1 < (l0.length : Int)
            · rw [if_pos c10] at H
              have c10b0 : decide (x10_1 < (l0.length : Int)) = true := decide_eq_true c10
              clear c10
              by_cases c11 : ((rd_T147 l0 x10_1).f1) = a1_0
              · rw [if_pos c11] at H
                have c11b0 : (((rd_T147 l0 x10_1).f1) == a1_0) = true := beq_iff_eq.mpr c11
                have c11b1 : (((rd_T147 l0 x10_1).f1) != a1_0) = false := bne_eq_false_iff_eq.mpr c11
                clear c11
                by_cases c12 : x5_1.length < 17592186044416
                · rw [if_pos c12] at H
                  have LMc12 := Aside0.mk c12
                  clear c12
                  obtain ⟨y149, hy149⟩ : ∃ y_ : List Int, y_ = (x5_1 ++ [0]) := ⟨_, rfl⟩
                  replace H : (overfallref23_Waits.l0 k1 l0 y149 (l0.length : Int) (wrap64 (x10_1 + 1)) a1_0 a1_1 a1_2 a1_3 a1_4 a1_5 a1_6 a1_7 a1_8 a1_9 a1_10 a1_11 a1_12 a1_13 a1_14) = some r := by first | (rw [hy149]; with_reducible exact H) | (have H2_ := (Option.bind_some _ _).symm.trans H; rw [hy149]; with_reducible exact H2_) | (have H2_ := (Option.bind_some _ _).symm.trans H; with_reducible exact H2_) | with_reducible exact H | (rw [hy149]; exact H) | exact H
                  have Ny149 := Aside0.mk hy149
                  clear hy149
                  have H' := Aside0.mk H
                  clear H
                  have hcz13_0 : wr.cell? ⟨gb143, 0, none⟩ = some (.int .i64 a1_0) := (blk_cell BK143.out 0).trans rfl
                  have hcz13_1 : wr.cell? ⟨gb143, 1, none⟩ = some (.int .u8 a1_1) := (blk_cell BK143.out 1).trans rfl
                  have hcz13_2 : wr.cell? ⟨gb143, 2, none⟩ = some (.int .i64 a1_2) := (blk_cell BK143.out 2).trans rfl
                  have hcz13_3 : wr.cell? ⟨gb143, 3, none⟩ = some (.int .i64 a1_3) := (blk_cell BK143.out 3).trans rfl
                  have hcz13_4 : wr.cell? ⟨gb143, 4, none⟩ = some (.int .i64 a1_4) := (blk_cell BK143.out 4).trans rfl
                  have hcz13_5 : wr.cell? ⟨gb143, 5, none⟩ = some (.int .i64 a1_5) := (blk_cell BK143.out 5).trans rfl
                  have hcz13_6 : wr.cell? ⟨gb143, 6, none⟩ = some (.int .i64 a1_6) := (blk_cell BK143.out 6).trans rfl
                  have hcz13_7 : wr.cell? ⟨gb143, 7, none⟩ = some (.int .i64 a1_7) := (blk_cell BK143.out 7).trans rfl
                  have hcz13_8 : wr.cell? ⟨gb143, 8, none⟩ = some (.int .i64 a1_8) := (blk_cell BK143.out 8).trans rfl
                  have hcz13_9 : wr.cell? ⟨gb143, 9, none⟩ = some (.int .i64 a1_9) := (blk_cell BK143.out 9).trans rfl
                  have hcz13_10 : wr.cell? ⟨gb143, 10, none⟩ = some (.int .u8 a1_10) := (blk_cell BK143.out 10).trans rfl
                  have hcz13_11 : wr.cell? ⟨gb143, 11, none⟩ = some (.int .u64 a1_11) := (blk_cell BK143.out 11).trans rfl
                  have hcz13_12 : wr.cell? ⟨gb143, 12, none⟩ = some (.int .i64 a1_12) := (blk_cell BK143.out 12).trans rfl
                  have hcz13_13 : wr.cell? ⟨gb143, 13, none⟩ = some (.int .i64 a1_13) := (blk_cell BK143.out 13).trans rfl
                  have hcz13_14 : wr.cell? ⟨gb143, 14, none⟩ = some (.int .i64 a1_14) := (blk_cell BK143.out 14).trans rfl
                  have hfz13_0 := blk_frozen BK143.out 0
                  have hfz13_1 := blk_frozen BK143.out 1
                  have hfz13_2 := blk_frozen BK143.out 2
                  have hfz13_3 := blk_frozen BK143.out 3
                  have hfz13_4 := blk_frozen BK143.out 4
                  have hfz13_5 := blk_frozen BK143.out 5
                  have hfz13_6 := blk_frozen BK143.out 6
                  have hfz13_7 := blk_frozen BK143.out 7
                  have hfz13_8 := blk_frozen BK143.out 8
                  have hfz13_9 := blk_frozen BK143.out 9
                  have hfz13_10 := blk_frozen BK143.out 10
                  have hfz13_11 := blk_frozen BK143.out 11
                  have hfz13_12 := blk_frozen BK143.out 12
                  have hfz13_13 := blk_frozen BK143.out 13
                  have hfz13_14 := blk_frozen BK143.out 14
                  go_wp2_with (first | (go_at_call 65; (with_reducible refine (overfallref23_in.calls _ _ l0 a1_0 a1_1 a1_2 a1_3 a1_4 a1_5 a1_6 a1_7 a1_8 a1_9 a1_10 a1_11 a1_12 a1_13 a1_14 x10_1 true _ ?side1 ?side2 A7.out).mono ?_); (case side1 => repeat (first | exact (Kd.C_below HR0.out HB.out) | (with_reducible refine Kd.C_alloc ?_ _) | (with_reducible refine Kd.C_drewN ?_ _) | (with_reducible refine Kd.C_drew ?_))); (case side2 => exact HC0.out); rintro e w14 ⟨rfl, hb⟩; have n0_ := Aside0.mk (Kd.R_below (by (with_reducible repeat (first | apply Kd.R_alloc | apply Kd.R_drewN | apply Kd.R_drew)); exact HO_5.out) hb); have n1_ := Aside0.mk (blk_below (g := gb143) (o := .cells #[.int .i64 a1_0, .int .u8 a1_1, .int .i64 a1_2, .int .i64 a1_3, .int .i64 a1_4, .int .i64 a1_5, .int .i64 a1_6, .int .i64 a1_7, .int .i64 a1_8, .int .i64 a1_9, .int .u8 a1_10, .int .u64 a1_11, .int .i64 a1_12, .int .i64 a1_13, .int .i64 a1_14] 104 (0, 0)) (by (with_reducible repeat (first | refine blk_drewN ?_ _ | refine blk_drew ?_ | refine blk_alloc ?_ _)); exact BK143.out) hb); have n2_ := Aside0.mk (below_step (by repeat (first | (with_reducible first | exact HB.out | apply below_alloc | apply pw_below_drewN | apply below_drew1 | refine below_set ?_ GE143.out) | exact HB.out)) hb); clear HO_5; clear BK143; clear HB; have HO_5 := n0_; have BK143 := n1_; have HB := n2_; clear n0_ n1_ n2_; (try clear hb); (try clear hb2); (try clear hk); (try clear hi); have p148 : 0 ≤ (x10_1 : Int) := of_decide_eq_true (by first | (with_reducible assumption) | assumption); have q148 : x10_1 < (l0.length : Int) := of_decide_eq_true (by first | (with_reducible assumption) | assumption); obtain ⟨ad148, e148, hx148_0, hx148_1, hx148_2, hx148_3, hx148_4, hx148_5, hx148_6⟩ := at_T147 HR0.out x10_1 p148 q148; cases e148; replace hx148_0 := (HB.out.cell (World.block_lt_of_cell? w _ hx148_0)).trans hx148_0; replace hx148_1 := (HB.out.cell (World.block_lt_of_cell? w _ hx148_1)).trans hx148_1; replace hx148_2 := (HB.out.cell (World.block_lt_of_cell? w _ hx148_2)).trans hx148_2; replace hx148_3 := (HB.out.cell (World.block_lt_of_cell? w _ hx148_3)).trans hx148_3; replace hx148_4 := (HB.out.cell (World.block_lt_of_cell? w _ hx148_4)).trans hx148_4; replace hx148_5 := (HB.out.cell (World.block_lt_of_cell? w _ hx148_5)).trans hx148_5; replace hx148_6 := (HB.out.cell (World.block_lt_of_cell? w _ hx148_6)).trans hx148_6; replace p148 := eq_true p148; replace q148 := eq_true q148; have hcz15_0 : w14.cell? ⟨gb143, 0, none⟩ = some (.int .i64 a1_0) := (blk_cell BK143.out 0).trans rfl; have hcz15_1 : w14.cell? ⟨gb143, 1, none⟩ = some (.int .u8 a1_1) := (blk_cell BK143.out 1).trans rfl; have hcz15_2 : w14.cell? ⟨gb143, 2, none⟩ = some (.int .i64 a1_2) := (blk_cell BK143.out 2).trans rfl; have hcz15_3 : w14.cell? ⟨gb143, 3, none⟩ = some (.int .i64 a1_3) := (blk_cell BK143.out 3).trans rfl; have hcz15_4 : w14.cell? ⟨gb143, 4, none⟩ = some (.int .i64 a1_4) := (blk_cell BK143.out 4).trans rfl; have hcz15_5 : w14.cell? ⟨gb143, 5, none⟩ = some (.int .i64 a1_5) := (blk_cell BK143.out 5).trans rfl; have hcz15_6 : w14.cell? ⟨gb143, 6, none⟩ = some (.int .i64 a1_6) := (blk_cell BK143.out 6).trans rfl; have hcz15_7 : w14.cell? ⟨gb143, 7, none⟩ = some (.int .i64 a1_7) := (blk_cell BK143.out 7).trans rfl; have hcz15_8 : w14.cell? ⟨gb143, 8, none⟩ = some (.int .i64 a1_8) := (blk_cell BK143.out 8).trans rfl; have hcz15_9 : w14.cell? ⟨gb143, 9, none⟩ = some (.int .i64 a1_9) := (blk_cell BK143.out 9).trans rfl; have hcz15_10 : w14.cell? ⟨gb143, 10, none⟩ = some (.int .u8 a1_10) := (blk_cell BK143.out 10).trans rfl; have hcz15_11 : w14.cell? ⟨gb143, 11, none⟩ = some (.int .u64 a1_11) := (blk_cell BK143.out 11).trans rfl; have hcz15_12 : w14.cell? ⟨gb143, 12, none⟩ = some (.int .i64 a1_12) := (blk_cell BK143.out 12).trans rfl; have hcz15_13 : w14.cell? ⟨gb143, 13, none⟩ = some (.int .i64 a1_13) := (blk_cell BK143.out 13).trans rfl; have hcz15_14 : w14.cell? ⟨gb143, 14, none⟩ = some (.int .i64 a1_14) := (blk_cell BK143.out 14).trans rfl; have hfz15_0 := blk_frozen BK143.out 0; have hfz15_1 := blk_frozen BK143.out 1; have hfz15_2 := blk_frozen BK143.out 2; have hfz15_3 := blk_frozen BK143.out 3; have hfz15_4 := blk_frozen BK143.out 4; have hfz15_5 := blk_frozen BK143.out 5; have hfz15_6 := blk_frozen BK143.out 6; have hfz15_7 := blk_frozen BK143.out 7; have hfz15_8 := blk_frozen BK143.out 8; have hfz15_9 := blk_frozen BK143.out 9; have hfz15_10 := blk_frozen BK143.out 10; have hfz15_11 := blk_frozen BK143.out 11; have hfz15_12 := blk_frozen BK143.out 12; have hfz15_13 := blk_frozen BK143.out 13; have hfz15_14 := blk_frozen BK143.out 14) | ((with_reducible refine gate_builtin (b := .append) (xs := #[.tmp 26, .tmp 27]) rfl ?_); (try (refine gate_guard (by rfl) ?_; dsimp only)); at_builtin; refine Kd.R_append (Kd.int .i64) (w0 := w) w.heap.size rfl (.tmp 26) (.tmp 27) 91 3 (.int .i64 0) 8 rfl Try.underlying91 info3 rfl (by decide) (by omega) u5 x5_1 0 [.int .i64 0] (fun _ => True) (fun _ => False) rfl rfl ?aP (fun _ hk => hk.elim) ?aF ?aO ?aB ?aS ?aL ?_; (case aP => exact rfl); (case aB => exact (by repeat (first | (with_reducible first | exact HB.out | apply below_alloc | apply pw_below_drewN | apply below_drew1 | refine below_set ?_ GE143.out) | exact HB.out))); (case aF => exact (fun _ _ => trivial)); (case aO => exact (by (with_reducible repeat (first | apply Kd.R_alloc | apply Kd.R_drewN | apply Kd.R_drew)); exact HO_5.out)); (case aS => exact (below_size (by repeat (first | (with_reducible first | exact HB.out | apply below_alloc | apply pw_below_drewN | apply below_drew1 | refine below_set ?_ GE143.out) | exact HB.out)))); (case aL => have := LMc12.out; omega); intro v150 w16 ho hb hg hat; rw [← Ny149.out] at ho; have n0_ := Aside0.mk (blk_grown (g := gb143) (o := .cells #[.int .i64 a1_0, .int .u8 a1_1, .int .i64 a1_2, .int .i64 a1_3, .int .i64 a1_4, .int .i64 a1_5, .int .i64 a1_6, .int .i64 a1_7, .int .i64 a1_8, .int .i64 a1_9, .int .u8 a1_10, .int .u64 a1_11, .int .i64 a1_12, .int .i64 a1_13, .int .i64 a1_14] 104 (0, 0)) (by (with_reducible repeat (first | refine blk_drewN ?_ _ | refine blk_drew ?_ | refine blk_alloc ?_ _)); exact BK143.out) hg (Kd.R_ne HO_5.out BK143.out (by decide))); have n1_ := Aside0.mk (hb); have n2_ := Aside0.mk (ho); clear BK143; clear HB; clear HO_5; have BK143 := n0_; have HB := n1_; have HO151 := n2_; clear n0_ n1_ n2_; clear ho hb hg hat))
                  repeat (go_quiet (first | (go_at_call 65; (with_reducible refine (overfallref23_in.calls _ _ l0 a1_0 a1_1 a1_2 a1_3 a1_4 a1_5 a1_6 a1_7 a1_8 a1_9 a1_10 a1_11 a1_12 a1_13 a1_14 x10_1 true _ ?side1 ?side2 A7.out).mono ?_); (case side1 => repeat (first | exact (Kd.C_below HR0.out HB.out) | (with_reducible refine Kd.C_alloc ?_ _) | (with_reducible refine Kd.C_drewN ?_ _) | (with_reducible refine Kd.C_drew ?_))); (case side2 => exact HC0.out); rintro e w14 ⟨rfl, hb⟩; have n0_ := Aside0.mk (Kd.R_below (by (with_reducible repeat (first | apply Kd.R_alloc | apply Kd.R_drewN | apply Kd.R_drew)); exact HO_5.out) hb); have n1_ := Aside0.mk (blk_below (g := gb143) (o := .cells #[.int .i64 a1_0, .int .u8 a1_1, .int .i64 a1_2, .int .i64 a1_3, .int .i64 a1_4, .int .i64 a1_5, .int .i64 a1_6, .int .i64 a1_7, .int .i64 a1_8, .int .i64 a1_9, .int .u8 a1_10, .int .u64 a1_11, .int .i64 a1_12, .int .i64 a1_13, .int .i64 a1_14] 104 (0, 0)) (by (with_reducible repeat (first | refine blk_drewN ?_ _ | refine blk_drew ?_ | refine blk_alloc ?_ _)); exact BK143.out) hb); have n2_ := Aside0.mk (below_step (by repeat (first | (with_reducible first | exact HB.out | apply below_alloc | apply pw_below_drewN | apply below_drew1 | refine below_set ?_ GE143.out) | exact HB.out)) hb); clear HO_5; clear BK143; clear HB; have HO_5 := n0_; have BK143 := n1_; have HB := n2_; clear n0_ n1_ n2_; (try clear hb); (try clear hb2); (try clear hk); (try clear hi); have p148 : 0 ≤ (x10_1 : Int) := of_decide_eq_true (by first | (with_reducible assumption) | assumption); have q148 : x10_1 < (l0.length : Int) := of_decide_eq_true (by first | (with_reducible assumption) | assumption); obtain ⟨ad148, e148, hx148_0, hx148_1, hx148_2, hx148_3, hx148_4, hx148_5, hx148_6⟩ := at_T147 HR0.out x10_1 p148 q148; cases e148; replace hx148_0 := (HB.out.cell (World.block_lt_of_cell? w _ hx148_0)).trans hx148_0; replace hx148_1 := (HB.out.cell (World.block_lt_of_cell? w _ hx148_1)).trans hx148_1; replace hx148_2 := (HB.out.cell (World.block_lt_of_cell? w _ hx148_2)).trans hx148_2; replace hx148_3 := (HB.out.cell (World.block_lt_of_cell? w _ hx148_3)).trans hx148_3; replace hx148_4 := (HB.out.cell (World.block_lt_of_cell? w _ hx148_4)).trans hx148_4; replace hx148_5 := (HB.out.cell (World.block_lt_of_cell? w _ hx148_5)).trans hx148_5; replace hx148_6 := (HB.out.cell (World.block_lt_of_cell? w _ hx148_6)).trans hx148_6; replace p148 := eq_true p148; replace q148 := eq_true q148; have hcz15_0 : w14.cell? ⟨gb143, 0, none⟩ = some (.int .i64 a1_0) := (blk_cell BK143.out 0).trans rfl; have hcz15_1 : w14.cell? ⟨gb143, 1, none⟩ = some (.int .u8 a1_1) := (blk_cell BK143.out 1).trans rfl; have hcz15_2 : w14.cell? ⟨gb143, 2, none⟩ = some (.int .i64 a1_2) := (blk_cell BK143.out 2).trans rfl; have hcz15_3 : w14.cell? ⟨gb143, 3, none⟩ = some (.int .i64 a1_3) := (blk_cell BK143.out 3).trans rfl; have hcz15_4 : w14.cell? ⟨gb143, 4, none⟩ = some (.int .i64 a1_4) := (blk_cell BK143.out 4).trans rfl; have hcz15_5 : w14.cell? ⟨gb143, 5, none⟩ = some (.int .i64 a1_5) := (blk_cell BK143.out 5).trans rfl; have hcz15_6 : w14.cell? ⟨gb143, 6, none⟩ = some (.int .i64 a1_6) := (blk_cell BK143.out 6).trans rfl; have hcz15_7 : w14.cell? ⟨gb143, 7, none⟩ = some (.int .i64 a1_7) := (blk_cell BK143.out 7).trans rfl; have hcz15_8 : w14.cell? ⟨gb143, 8, none⟩ = some (.int .i64 a1_8) := (blk_cell BK143.out 8).trans rfl; have hcz15_9 : w14.cell? ⟨gb143, 9, none⟩ = some (.int .i64 a1_9) := (blk_cell BK143.out 9).trans rfl; have hcz15_10 : w14.cell? ⟨gb143, 10, none⟩ = some (.int .u8 a1_10) := (blk_cell BK143.out 10).trans rfl; have hcz15_11 : w14.cell? ⟨gb143, 11, none⟩ = some (.int .u64 a1_11) := (blk_cell BK143.out 11).trans rfl; have hcz15_12 : w14.cell? ⟨gb143, 12, none⟩ = some (.int .i64 a1_12) := (blk_cell BK143.out 12).trans rfl; have hcz15_13 : w14.cell? ⟨gb143, 13, none⟩ = some (.int .i64 a1_13) := (blk_cell BK143.out 13).trans rfl; have hcz15_14 : w14.cell? ⟨gb143, 14, none⟩ = some (.int .i64 a1_14) := (blk_cell BK143.out 14).trans rfl; have hfz15_0 := blk_frozen BK143.out 0; have hfz15_1 := blk_frozen BK143.out 1; have hfz15_2 := blk_frozen BK143.out 2; have hfz15_3 := blk_frozen BK143.out 3; have hfz15_4 := blk_frozen BK143.out 4; have hfz15_5 := blk_frozen BK143.out 5; have hfz15_6 := blk_frozen BK143.out 6; have hfz15_7 := blk_frozen BK143.out 7; have hfz15_8 := blk_frozen BK143.out 8; have hfz15_9 := blk_frozen BK143.out 9; have hfz15_10 := blk_frozen BK143.out 10; have hfz15_11 := blk_frozen BK143.out 11; have hfz15_12 := blk_frozen BK143.out 12; have hfz15_13 := blk_frozen BK143.out 13; have hfz15_14 := blk_frozen BK143.out 14) | ((with_reducible refine gate_builtin (b := .append) (xs := #[.tmp 26, .tmp 27]) rfl ?_); (try (refine gate_guard (by rfl) ?_; dsimp only)); at_builtin; refine Kd.R_append (Kd.int .i64) (w0 := w) w.heap.size rfl (.tmp 26) (.tmp 27) 91 3 (.int .i64 0) 8 rfl Try.underlying91 info3 rfl (by decide) (by omega) u5 x5_1 0 [.int .i64 0] (fun _ => True) (fun _ => False) rfl rfl ?aP (fun _ hk => hk.elim) ?aF ?aO ?aB ?aS ?aL ?_; (case aP => exact rfl); (case aB => exact (by repeat (first | (with_reducible first | exact HB.out | apply below_alloc | apply pw_below_drewN | apply below_drew1 | refine below_set ?_ GE143.out) | exact HB.out))); (case aF => exact (fun _ _ => trivial)); (case aO => exact (by (with_reducible repeat (first | apply Kd.R_alloc | apply Kd.R_drewN | apply Kd.R_drew)); exact HO_5.out)); (case aS => exact (below_size (by repeat (first | (with_reducible first | exact HB.out | apply below_alloc | apply pw_below_drewN | apply below_drew1 | refine below_set ?_ GE143.out) | exact HB.out)))); (case aL => have := LMc12.out; omega); intro v150 w16 ho hb hg hat; rw [← Ny149.out] at ho; have n0_ := Aside0.mk (blk_grown (g := gb143) (o := .cells #[.int .i64 a1_0, .int .u8 a1_1, .int .i64 a1_2, .int .i64 a1_3, .int .i64 a1_4, .int .i64 a1_5, .int .i64 a1_6, .int .i64 a1_7, .int .i64 a1_8, .int .i64 a1_9, .int .u8 a1_10, .int .u64 a1_11, .int .i64 a1_12, .int .i64 a1_13, .int .i64 a1_14] 104 (0, 0)) (by (with_reducible repeat (first | refine blk_drewN ?_ _ | refine blk_drew ?_ | refine blk_alloc ?_ _)); exact BK143.out) hg (Kd.R_ne HO_5.out BK143.out (by decide))); have n1_ := Aside0.mk (hb); have n2_ := Aside0.mk (ho); clear BK143; clear HB; clear HO_5; have BK143 := n0_; have HB := n1_; have HO151 := n2_; clear n0_ n1_ n2_; clear ho hb hg hat)); try go_wp2_with (first | (go_at_call 65; (with_reducible refine (overfallref23_in.calls _ _ l0 a1_0 a1_1 a1_2 a1_3 a1_4 a1_5 a1_6 a1_7 a1_8 a1_9 a1_10 a1_11 a1_12 a1_13 a1_14 x10_1 true _ ?side1 ?side2 A7.out).mono ?_); (case side1 => repeat (first | exact (Kd.C_below HR0.out HB.out) | (with_reducible refine Kd.C_alloc ?_ _) | (with_reducible refine Kd.C_drewN ?_ _) | (with_reducible refine Kd.C_drew ?_))); (case side2 => exact HC0.out); rintro e w14 ⟨rfl, hb⟩; have n0_ := Aside0.mk (Kd.R_below (by (with_reducible repeat (first | apply Kd.R_alloc | apply Kd.R_drewN | apply Kd.R_drew)); exact HO_5.out) hb); have n1_ := Aside0.mk (blk_below (g := gb143) (o := .cells #[.int .i64 a1_0, .int .u8 a1_1, .int .i64 a1_2, .int .i64 a1_3, .int .i64 a1_4, .int .i64 a1_5, .int .i64 a1_6, .int .i64 a1_7, .int .i64 a1_8, .int .i64 a1_9, .int .u8 a1_10, .int .u64 a1_11, .int .i64 a1_12, .int .i64 a1_13, .int .i64 a1_14] 104 (0, 0)) (by (with_reducible repeat (first | refine blk_drewN ?_ _ | refine blk_drew ?_ | refine blk_alloc ?_ _)); exact BK143.out) hb); have n2_ := Aside0.mk (below_step (by repeat (first | (with_reducible first | exact HB.out | apply below_alloc | apply pw_below_drewN | apply below_drew1 | refine below_set ?_ GE143.out) | exact HB.out)) hb); clear HO_5; clear BK143; clear HB; have HO_5 := n0_; have BK143 := n1_; have HB := n2_; clear n0_ n1_ n2_; (try clear hb); (try clear hb2); (try clear hk); (try clear hi); have p148 : 0 ≤ (x10_1 : Int) := of_decide_eq_true (by first | (with_reducible assumption) | assumption); have q148 : x10_1 < (l0.length : Int) := of_decide_eq_true (by first | (with_reducible assumption) | assumption); obtain ⟨ad148, e148, hx148_0, hx148_1, hx148_2, hx148_3, hx148_4, hx148_5, hx148_6⟩ := at_T147 HR0.out x10_1 p148 q148; cases e148; replace hx148_0 := (HB.out.cell (World.block_lt_of_cell? w _ hx148_0)).trans hx148_0; replace hx148_1 := (HB.out.cell (World.block_lt_of_cell? w _ hx148_1)).trans hx148_1; replace hx148_2 := (HB.out.cell (World.block_lt_of_cell? w _ hx148_2)).trans hx148_2; replace hx148_3 := (HB.out.cell (World.block_lt_of_cell? w _ hx148_3)).trans hx148_3; replace hx148_4 := (HB.out.cell (World.block_lt_of_cell? w _ hx148_4)).trans hx148_4; replace hx148_5 := (HB.out.cell (World.block_lt_of_cell? w _ hx148_5)).trans hx148_5; replace hx148_6 := (HB.out.cell (World.block_lt_of_cell? w _ hx148_6)).trans hx148_6; replace p148 := eq_true p148; replace q148 := eq_true q148; have hcz15_0 : w14.cell? ⟨gb143, 0, none⟩ = some (.int .i64 a1_0) := (blk_cell BK143.out 0).trans rfl; have hcz15_1 : w14.cell? ⟨gb143, 1, none⟩ = some (.int .u8 a1_1) := (blk_cell BK143.out 1).trans rfl; have hcz15_2 : w14.cell? ⟨gb143, 2, none⟩ = some (.int .i64 a1_2) := (blk_cell BK143.out 2).trans rfl; have hcz15_3 : w14.cell? ⟨gb143, 3, none⟩ = some (.int .i64 a1_3) := (blk_cell BK143.out 3).trans rfl; have hcz15_4 : w14.cell? ⟨gb143, 4, none⟩ = some (.int .i64 a1_4) := (blk_cell BK143.out 4).trans rfl; have hcz15_5 : w14.cell? ⟨gb143, 5, none⟩ = some (.int .i64 a1_5) := (blk_cell BK143.out 5).trans rfl; have hcz15_6 : w14.cell? ⟨gb143, 6, none⟩ = some (.int .i64 a1_6) := (blk_cell BK143.out 6).trans rfl; have hcz15_7 : w14.cell? ⟨gb143, 7, none⟩ = some (.int .i64 a1_7) := (blk_cell BK143.out 7).trans rfl; have hcz15_8 : w14.cell? ⟨gb143, 8, none⟩ = some (.int .i64 a1_8) := (blk_cell BK143.out 8).trans rfl; have hcz15_9 : w14.cell? ⟨gb143, 9, none⟩ = some (.int .i64 a1_9) := (blk_cell BK143.out 9).trans rfl; have hcz15_10 : w14.cell? ⟨gb143, 10, none⟩ = some (.int .u8 a1_10) := (blk_cell BK143.out 10).trans rfl; have hcz15_11 : w14.cell? ⟨gb143, 11, none⟩ = some (.int .u64 a1_11) := (blk_cell BK143.out 11).trans rfl; have hcz15_12 : w14.cell? ⟨gb143, 12, none⟩ = some (.int .i64 a1_12) := (blk_cell BK143.out 12).trans rfl; have hcz15_13 : w14.cell? ⟨gb143, 13, none⟩ = some (.int .i64 a1_13) := (blk_cell BK143.out 13).trans rfl; have hcz15_14 : w14.cell? ⟨gb143, 14, none⟩ = some (.int .i64 a1_14) := (blk_cell BK143.out 14).trans rfl; have hfz15_0 := blk_frozen BK143.out 0; have hfz15_1 := blk_frozen BK143.out 1; have hfz15_2 := blk_frozen BK143.out 2; have hfz15_3 := blk_frozen BK143.out 3; have hfz15_4 := blk_frozen BK143.out 4; have hfz15_5 := blk_frozen BK143.out 5; have hfz15_6 := blk_frozen BK143.out 6; have hfz15_7 := blk_frozen BK143.out 7; have hfz15_8 := blk_frozen BK143.out 8; have hfz15_9 := blk_frozen BK143.out 9; have hfz15_10 := blk_frozen BK143.out 10; have hfz15_11 := blk_frozen BK143.out 11; have hfz15_12 := blk_frozen BK143.out 12; have hfz15_13 := blk_frozen BK143.out 13; have hfz15_14 := blk_frozen BK143.out 14) | ((with_reducible refine gate_builtin (b := .append) (xs := #[.tmp 26, .tmp 27]) rfl ?_); (try (refine gate_guard (by rfl) ?_; dsimp only)); at_builtin; refine Kd.R_append (Kd.int .i64) (w0 := w) w.heap.size rfl (.tmp 26) (.tmp 27) 91 3 (.int .i64 0) 8 rfl Try.underlying91 info3 rfl (by decide) (by omega) u5 x5_1 0 [.int .i64 0] (fun _ => True) (fun _ => False) rfl rfl ?aP (fun _ hk => hk.elim) ?aF ?aO ?aB ?aS ?aL ?_; (case aP => exact rfl); (case aB => exact (by repeat (first | (with_reducible first | exact HB.out | apply below_alloc | apply pw_below_drewN | apply below_drew1 | refine below_set ?_ GE143.out) | exact HB.out))); (case aF => exact (fun _ _ => trivial)); (case aO => exact (by (with_reducible repeat (first | apply Kd.R_alloc | apply Kd.R_drewN | apply Kd.R_drew)); exact HO_5.out)); (case aS => exact (below_size (by repeat (first | (with_reducible first | exact HB.out | apply below_alloc | apply pw_below_drewN | apply below_drew1 | refine below_set ?_ GE143.out) | exact HB.out)))); (case aL => have := LMc12.out; omega); intro v150 w16 ho hb hg hat; rw [← Ny149.out] at ho; have n0_ := Aside0.mk (blk_grown (g := gb143) (o := .cells #[.int .i64 a1_0, .int .u8 a1_1, .int .i64 a1_2, .int .i64 a1_3, .int .i64 a1_4, .int .i64 a1_5, .int .i64 a1_6, .int .i64 a1_7, .int .i64 a1_8, .int .i64 a1_9, .int .u8 a1_10, .int .u64 a1_11, .int .i64 a1_12, .int .i64 a1_13, .int .i64 a1_14] 104 (0, 0)) (by (with_reducible repeat (first | refine blk_drewN ?_ _ | refine blk_drew ?_ | refine blk_alloc ?_ _)); exact BK143.out) hg (Kd.R_ne HO_5.out BK143.out (by decide))); have n1_ := Aside0.mk (hb); have n2_ := Aside0.mk (ho); clear BK143; clear HB; clear HO_5; have BK143 := n0_; have HB := n1_; have HO151 := n2_; clear n0_ n1_ n2_; clear ho hb hg hat)))
                  go_roundg k1
                  case measure => have := HK1.out; omega
                  case rel => exact ⟨(y149), (wrap64 (x10_1 + 1)), (by first | rfl | (simp; done) | (simp [*]; done)), H', ⟨by have := HK1.out; omega⟩, ⟨by (with_reducible repeat (first | apply Kd.R_alloc | apply Kd.R_drewN | apply Kd.R_drew)); exact HO151.out⟩, ⟨by (with_reducible repeat (first | refine blk_drewN ?_ _ | refine blk_drew ?_ | refine blk_alloc ?_ _)); exact BK143.out⟩, ⟨by repeat (first | (with_reducible first | exact HB.out | apply below_alloc | apply pw_below_drewN | apply below_drew1 | refine below_set ?_ GE143.out) | exact HB.out)⟩⟩
                · rw [if_neg c12] at H
                  exact absurd H (by simp)
              · rw [if_neg c11] at H
                have c11b0 : (((rd_T147 l0 x10_1).f1) == a1_0) = false := beq_eq_false_iff_ne.mpr c11
                have c11b1 : (((rd_T147 l0 x10_1).f1) != a1_0) = true := bne_iff_ne.mpr c11
                obtain ⟨ji17, hji17⟩ : ∃ j_ : Int, (wrap64 ((x5_1.length : Int) - 1)) = j_ := ⟨_, rfl⟩
                replace H : (if 0 ≤ (ji17) then (if (ji17) < (x5_1.length : Int) then (overfallref23_Waits.l0 k1 l0 (x5_1.set ((ji17) : Int).toNat (wrap64 ((rd x5_1 (ji17)) + 1))) (l0.length : Int) (wrap64 (x10_1 + 1)) a1_0 a1_1 a1_2 a1_3 a1_4 a1_5 a1_6 a1_7 a1_8 a1_9 a1_10 a1_11 a1_12 a1_13 a1_14) else (none)) else (none)) = some r := by first | (rw [hji17] at H; exact H) | (simp only [hji17] at H ⊢; exact H)
                (try rw [hji17] at A7)
                have hji17w : (IntKind.i64.wrap ((x5_1.length : Int) - 1)) = ji17 := (i64_w _).trans hji17
                by_cases c18 : 0 ≤ (ji17)
                · rw [if_pos c18] at H
                  have c18b0 : decide (0 ≤ (ji17)) = true := decide_eq_true c18
                  clear c18
                  by_cases c19 : (ji17) < (x5_1.length : Int)
                  · rw [if_pos c19] at H
                    have c19b0 : decide ((ji17) < (x5_1.length : Int)) = true := decide_eq_true c19
                    clear c19
                    obtain ⟨y153, hy153⟩ : ∃ y_ : List Int, y_ = (x5_1.set ((ji17) : Int).toNat (wrap64 ((rd x5_1 (ji17)) + 1))) := ⟨_, rfl⟩
                    replace H : (overfallref23_Waits.l0 k1 l0 y153 (l0.length : Int) (wrap64 (x10_1 + 1)) a1_0 a1_1 a1_2 a1_3 a1_4 a1_5 a1_6 a1_7 a1_8 a1_9 a1_10 a1_11 a1_12 a1_13 a1_14) = some r := by first | (rw [hy153]; with_reducible exact H) | (have H2_ := (Option.bind_some _ _).symm.trans H; rw [hy153]; with_reducible exact H2_) | (have H2_ := (Option.bind_some _ _).symm.trans H; with_reducible exact H2_) | with_reducible exact H | (rw [hy153]; exact H) | exact H
                    have Ny153 := Aside0.mk hy153
                    clear hy153
                    have H' := Aside0.mk H
                    clear H
                    have hcz21_0 : wr.cell? ⟨gb143, 0, none⟩ = some (.int .i64 a1_0) := (blk_cell BK143.out 0).trans rfl
                    have hcz21_1 : wr.cell? ⟨gb143, 1, none⟩ = some (.int .u8 a1_1) := (blk_cell BK143.out 1).trans rfl
                    have hcz21_2 : wr.cell? ⟨gb143, 2, none⟩ = some (.int .i64 a1_2) := (blk_cell BK143.out 2).trans rfl
                    have hcz21_3 : wr.cell? ⟨gb143, 3, none⟩ = some (.int .i64 a1_3) := (blk_cell BK143.out 3).trans rfl
                    have hcz21_4 : wr.cell? ⟨gb143, 4, none⟩ = some (.int .i64 a1_4) := (blk_cell BK143.out 4).trans rfl
                    have hcz21_5 : wr.cell? ⟨gb143, 5, none⟩ = some (.int .i64 a1_5) := (blk_cell BK143.out 5).trans rfl
                    have hcz21_6 : wr.cell? ⟨gb143, 6, none⟩ = some (.int .i64 a1_6) := (blk_cell BK143.out 6).trans rfl
                    have hcz21_7 : wr.cell? ⟨gb143, 7, none⟩ = some (.int .i64 a1_7) := (blk_cell BK143.out 7).trans rfl
                    have hcz21_8 : wr.cell? ⟨gb143, 8, none⟩ = some (.int .i64 a1_8) := (blk_cell BK143.out 8).trans rfl
                    have hcz21_9 : wr.cell? ⟨gb143, 9, none⟩ = some (.int .i64 a1_9) := (blk_cell BK143.out 9).trans rfl
                    have hcz21_10 : wr.cell? ⟨gb143, 10, none⟩ = some (.int .u8 a1_10) := (blk_cell BK143.out 10).trans rfl
                    have hcz21_11 : wr.cell? ⟨gb143, 11, none⟩ = some (.int .u64 a1_11) := (blk_cell BK143.out 11).trans rfl
                    have hcz21_12 : wr.cell? ⟨gb143, 12, none⟩ = some (.int .i64 a1_12) := (blk_cell BK143.out 12).trans rfl
                    have hcz21_13 : wr.cell? ⟨gb143, 13, none⟩ = some (.int .i64 a1_13) := (blk_cell BK143.out 13).trans rfl
                    have hcz21_14 : wr.cell? ⟨gb143, 14, none⟩ = some (.int .i64 a1_14) := (blk_cell BK143.out 14).trans rfl
                    have hfz21_0 := blk_frozen BK143.out 0
                    have hfz21_1 := blk_frozen BK143.out 1
                    have hfz21_2 := blk_frozen BK143.out 2
                    have hfz21_3 := blk_frozen BK143.out 3
                    have hfz21_4 := blk_frozen BK143.out 4
                    have hfz21_5 := blk_frozen BK143.out 5
                    have hfz21_6 := blk_frozen BK143.out 6
                    have hfz21_7 := blk_frozen BK143.out 7
                    have hfz21_8 := blk_frozen BK143.out 8
                    have hfz21_9 := blk_frozen BK143.out 9
                    have hfz21_10 := blk_frozen BK143.out 10
                    have hfz21_11 := blk_frozen BK143.out 11
                    have hfz21_12 := blk_frozen BK143.out 12
                    have hfz21_13 := blk_frozen BK143.out 13
                    have hfz21_14 := blk_frozen BK143.out 14
                    go_wp2_with (first | (go_at_call 65; (with_reducible refine (overfallref23_in.calls _ _ l0 a1_0 a1_1 a1_2 a1_3 a1_4 a1_5 a1_6 a1_7 a1_8 a1_9 a1_10 a1_11 a1_12 a1_13 a1_14 x10_1 true _ ?side1 ?side2 A7.out).mono ?_); (case side1 => repeat (first | exact (Kd.C_below HR0.out HB.out) | (with_reducible refine Kd.C_alloc ?_ _) | (with_reducible refine Kd.C_drewN ?_ _) | (with_reducible refine Kd.C_drew ?_))); (case side2 => exact HC0.out); rintro e w22 ⟨rfl, hb⟩; have n0_ := Aside0.mk (Kd.R_below (by (with_reducible repeat (first | apply Kd.R_alloc | apply Kd.R_drewN | apply Kd.R_drew)); exact HO_5.out) hb); have n1_ := Aside0.mk (blk_below (g := gb143) (o := .cells #[.int .i64 a1_0, .int .u8 a1_1, .int .i64 a1_2, .int .i64 a1_3, .int .i64 a1_4, .int .i64 a1_5, .int .i64 a1_6, .int .i64 a1_7, .int .i64 a1_8, .int .i64 a1_9, .int .u8 a1_10, .int .u64 a1_11, .int .i64 a1_12, .int .i64 a1_13, .int .i64 a1_14] 104 (0, 0)) (by (with_reducible repeat (first | refine blk_drewN ?_ _ | refine blk_drew ?_ | refine blk_alloc ?_ _)); exact BK143.out) hb); have n2_ := Aside0.mk (below_step (by repeat (first | (with_reducible first | exact HB.out | apply below_alloc | apply pw_below_drewN | apply below_drew1 | refine below_set ?_ GE143.out) | exact HB.out)) hb); clear HO_5; clear BK143; clear HB; have HO_5 := n0_; have BK143 := n1_; have HB := n2_; clear n0_ n1_ n2_; (try clear hb); (try clear hb2); (try clear hk); (try clear hi); have p148 : 0 ≤ (x10_1 : Int) := of_decide_eq_true (by first | (with_reducible assumption) | assumption); have q148 : x10_1 < (l0.length : Int) := of_decide_eq_true (by first | (with_reducible assumption) | assumption); obtain ⟨ad148, e148, hx148_0, hx148_1, hx148_2, hx148_3, hx148_4, hx148_5, hx148_6⟩ := at_T147 HR0.out x10_1 p148 q148; cases e148; replace hx148_0 := (HB.out.cell (World.block_lt_of_cell? w _ hx148_0)).trans hx148_0; replace hx148_1 := (HB.out.cell (World.block_lt_of_cell? w _ hx148_1)).trans hx148_1; replace hx148_2 := (HB.out.cell (World.block_lt_of_cell? w _ hx148_2)).trans hx148_2; replace hx148_3 := (HB.out.cell (World.block_lt_of_cell? w _ hx148_3)).trans hx148_3; replace hx148_4 := (HB.out.cell (World.block_lt_of_cell? w _ hx148_4)).trans hx148_4; replace hx148_5 := (HB.out.cell (World.block_lt_of_cell? w _ hx148_5)).trans hx148_5; replace hx148_6 := (HB.out.cell (World.block_lt_of_cell? w _ hx148_6)).trans hx148_6; replace p148 := eq_true p148; replace q148 := eq_true q148; have hcz23_0 : w22.cell? ⟨gb143, 0, none⟩ = some (.int .i64 a1_0) := (blk_cell BK143.out 0).trans rfl; have hcz23_1 : w22.cell? ⟨gb143, 1, none⟩ = some (.int .u8 a1_1) := (blk_cell BK143.out 1).trans rfl; have hcz23_2 : w22.cell? ⟨gb143, 2, none⟩ = some (.int .i64 a1_2) := (blk_cell BK143.out 2).trans rfl; have hcz23_3 : w22.cell? ⟨gb143, 3, none⟩ = some (.int .i64 a1_3) := (blk_cell BK143.out 3).trans rfl; have hcz23_4 : w22.cell? ⟨gb143, 4, none⟩ = some (.int .i64 a1_4) := (blk_cell BK143.out 4).trans rfl; have hcz23_5 : w22.cell? ⟨gb143, 5, none⟩ = some (.int .i64 a1_5) := (blk_cell BK143.out 5).trans rfl; have hcz23_6 : w22.cell? ⟨gb143, 6, none⟩ = some (.int .i64 a1_6) := (blk_cell BK143.out 6).trans rfl; have hcz23_7 : w22.cell? ⟨gb143, 7, none⟩ = some (.int .i64 a1_7) := (blk_cell BK143.out 7).trans rfl; have hcz23_8 : w22.cell? ⟨gb143, 8, none⟩ = some (.int .i64 a1_8) := (blk_cell BK143.out 8).trans rfl; have hcz23_9 : w22.cell? ⟨gb143, 9, none⟩ = some (.int .i64 a1_9) := (blk_cell BK143.out 9).trans rfl; have hcz23_10 : w22.cell? ⟨gb143, 10, none⟩ = some (.int .u8 a1_10) := (blk_cell BK143.out 10).trans rfl; have hcz23_11 : w22.cell? ⟨gb143, 11, none⟩ = some (.int .u64 a1_11) := (blk_cell BK143.out 11).trans rfl; have hcz23_12 : w22.cell? ⟨gb143, 12, none⟩ = some (.int .i64 a1_12) := (blk_cell BK143.out 12).trans rfl; have hcz23_13 : w22.cell? ⟨gb143, 13, none⟩ = some (.int .i64 a1_13) := (blk_cell BK143.out 13).trans rfl; have hcz23_14 : w22.cell? ⟨gb143, 14, none⟩ = some (.int .i64 a1_14) := (blk_cell BK143.out 14).trans rfl; have hfz23_0 := blk_frozen BK143.out 0; have hfz23_1 := blk_frozen BK143.out 1; have hfz23_2 := blk_frozen BK143.out 2; have hfz23_3 := blk_frozen BK143.out 3; have hfz23_4 := blk_frozen BK143.out 4; have hfz23_5 := blk_frozen BK143.out 5; have hfz23_6 := blk_frozen BK143.out 6; have hfz23_7 := blk_frozen BK143.out 7; have hfz23_8 := blk_frozen BK143.out 8; have hfz23_9 := blk_frozen BK143.out 9; have hfz23_10 := blk_frozen BK143.out 10; have hfz23_11 := blk_frozen BK143.out 11; have hfz23_12 := blk_frozen BK143.out 12; have hfz23_13 := blk_frozen BK143.out 13; have hfz23_14 := blk_frozen BK143.out 14; obtain ⟨Ao24, co24, eo24⟩ := Kd.R_slice HO_5.out; subst eo24; have p152 : 0 ≤ ((ji17) : Int) := of_decide_eq_true (by first | (with_reducible assumption) | assumption); have q152 : (ji17) < (x5_1.length : Int) := of_decide_eq_true (by first | (with_reducible assumption) | assumption); obtain ⟨ad152, e152, hx152_0⟩ := Kd.at_int (Kd.R_reads' HO_5.out).2.2 (ji17) p152 q152; cases e152; replace p152 := eq_true p152; replace q152 := eq_true q152; have p20 : 0 ≤ ((ji17) : Int) := of_decide_eq_true (by first | (with_reducible assumption) | assumption); have q20 : ((ji17) : Int) < ((x5_1.length : Int) : Int) := of_decide_eq_true (by first | (with_reducible assumption) | assumption); obtain ⟨go20, co20, eo20, gb20, gl20, cl20, HG20⟩ := Kd.R_form HO_5.out (by omega); (first | cases eo20 | (injection eo20 with ea_ en_ ec_; (first | subst ea_ | (injection ea_ with ea_; subst ea_)); subst ec_; clear en_)); have GB20 := Aside0.mk gb20; have GG20 := Aside0.mk HG20; clear gb20 gl20 HG20; (first | simp only [add_plain] at hx152_0 | skip); obtain ⟨hx20_0, hf20_0⟩ := Kd.R_celln 0 HO_5.out ((ji17) : Int) p20 q20; replace p20 := eq_true p20; replace q20 := eq_true q20; obtain ⟨hy25_, hz25_⟩ := Kd.R_celln 0 HO_5.out ((ji17) : Int) (of_decide_eq_true (by first | (with_reducible assumption) | assumption)) (of_decide_eq_true (by first | (with_reducible assumption) | assumption)); have HP25 := Kd.R_putg HO_5.out ((ji17) : Int) (wrap64 ((rd x5_1 (ji17)) + 1))) | ((with_reducible refine gate_store (t := 3) (p := 36) rfl ?_); (try (rw [drewN_self w22]; generalize hq_ : World.drewN w22 _ = w22; have n0_ := Aside0.mk (Kd.R_at hq_ HO_5.out); have n1_ := Aside0.mk (blk_at hq_ BK143.out); have n2_ := Aside0.mk (below_at hq_ HB.out); clear hq_ HO_5 BK143 HB; have HO_5 := n0_; have BK143 := n1_; have HB := n2_; clear n0_ n1_ n2_; (try (obtain ⟨hy25_, hz25_⟩ := Kd.R_celln 0 HO_5.out ((ji17) : Int) (of_decide_eq_true (by first | (with_reducible assumption) | assumption)) (of_decide_eq_true (by first | (with_reducible assumption) | assumption)))); (try (have HP25 := Kd.R_putg HO_5.out ((ji17) : Int) (wrap64 ((rd x5_1 (ji17)) + 1)))))); refine store_event (t := 3) (p := 36) (v := ?vo_w26) (w1 := (w22.setCell ⟨go20, ((ji17) : Int).toNat, none⟩ (.int .i64 (wrap64 ((rd x5_1 (ji17)) + 1))))) ?hg ?ho ?hn ?hr ?_; (case ho => rfl); (case hg => rfl); (case hn => rfl); (case hr => first | (go_simp; done) | (go_simp; rfl)); intro w26 hw; have hg : w22.grownBy w26 (some go20) := (by rw [hw]; exact HP25.2); have hp_ : Kd.R (Kd.int .i64) 3 w26 w.heap.size (fun _ => True) (.slice (some ⟨go20, 0, none⟩) x5_1.length co24) y153 := (by rw [hw, Ny153.out]; exact HP25.1); clear HP25; have n0_ := Aside0.mk (hp_); have n1_ := Aside0.mk (blk_grown (g := gb143) (o := .cells #[.int .i64 a1_0, .int .u8 a1_1, .int .i64 a1_2, .int .i64 a1_3, .int .i64 a1_4, .int .i64 a1_5, .int .i64 a1_6, .int .i64 a1_7, .int .i64 a1_8, .int .i64 a1_9, .int .u8 a1_10, .int .u64 a1_11, .int .i64 a1_12, .int .i64 a1_13, .int .i64 a1_14] 104 (0, 0)) (by (with_reducible repeat (first | refine blk_drewN ?_ _ | refine blk_drew ?_ | refine blk_alloc ?_ _)); exact BK143.out) hg (Kd.R_ne HO_5.out BK143.out (by decide))); have n2_ := Aside0.mk ((by rw [hw]; exact below_set (HB.out) GB20.out : Below w.heap.size w w26)); clear HO_5; clear BK143; clear HB; have HO_5 := n0_; have BK143 := n1_; have HB := n2_; clear n0_ n1_ n2_; clear hg hw hp_))
                    repeat (go_quiet (first | (go_at_call 65; (with_reducible refine (overfallref23_in.calls _ _ l0 a1_0 a1_1 a1_2 a1_3 a1_4 a1_5 a1_6 a1_7 a1_8 a1_9 a1_10 a1_11 a1_12 a1_13 a1_14 x10_1 true _ ?side1 ?side2 A7.out).mono ?_); (case side1 => repeat (first | exact (Kd.C_below HR0.out HB.out) | (with_reducible refine Kd.C_alloc ?_ _) | (with_reducible refine Kd.C_drewN ?_ _) | (with_reducible refine Kd.C_drew ?_))); (case side2 => exact HC0.out); rintro e w22 ⟨rfl, hb⟩; have n0_ := Aside0.mk (Kd.R_below (by (with_reducible repeat (first | apply Kd.R_alloc | apply Kd.R_drewN | apply Kd.R_drew)); exact HO_5.out) hb); have n1_ := Aside0.mk (blk_below (g := gb143) (o := .cells #[.int .i64 a1_0, .int .u8 a1_1, .int .i64 a1_2, .int .i64 a1_3, .int .i64 a1_4, .int .i64 a1_5, .int .i64 a1_6, .int .i64 a1_7, .int .i64 a1_8, .int .i64 a1_9, .int .u8 a1_10, .int .u64 a1_11, .int .i64 a1_12, .int .i64 a1_13, .int .i64 a1_14] 104 (0, 0)) (by (with_reducible repeat (first | refine blk_drewN ?_ _ | refine blk_drew ?_ | refine blk_alloc ?_ _)); exact BK143.out) hb); have n2_ := Aside0.mk (below_step (by repeat (first | (with_reducible first | exact HB.out | apply below_alloc | apply pw_below_drewN | apply below_drew1 | refine below_set ?_ GE143.out) | exact HB.out)) hb); clear HO_5; clear BK143; clear HB; have HO_5 := n0_; have BK143 := n1_; have HB := n2_; clear n0_ n1_ n2_; (try clear hb); (try clear hb2); (try clear hk); (try clear hi); have p148 : 0 ≤ (x10_1 : Int) := of_decide_eq_true (by first | (with_reducible assumption) | assumption); have q148 : x10_1 < (l0.length : Int) := of_decide_eq_true (by first | (with_reducible assumption) | assumption); obtain ⟨ad148, e148, hx148_0, hx148_1, hx148_2, hx148_3, hx148_4, hx148_5, hx148_6⟩ := at_T147 HR0.out x10_1 p148 q148; cases e148; replace hx148_0 := (HB.out.cell (World.block_lt_of_cell? w _ hx148_0)).trans hx148_0; replace hx148_1 := (HB.out.cell (World.block_lt_of_cell? w _ hx148_1)).trans hx148_1; replace hx148_2 := (HB.out.cell (World.block_lt_of_cell? w _ hx148_2)).trans hx148_2; replace hx148_3 := (HB.out.cell (World.block_lt_of_cell? w _ hx148_3)).trans hx148_3; replace hx148_4 := (HB.out.cell (World.block_lt_of_cell? w _ hx148_4)).trans hx148_4; replace hx148_5 := (HB.out.cell (World.block_lt_of_cell? w _ hx148_5)).trans hx148_5; replace hx148_6 := (HB.out.cell (World.block_lt_of_cell? w _ hx148_6)).trans hx148_6; replace p148 := eq_true p148; replace q148 := eq_true q148; have hcz23_0 : w22.cell? ⟨gb143, 0, none⟩ = some (.int .i64 a1_0) := (blk_cell BK143.out 0).trans rfl; have hcz23_1 : w22.cell? ⟨gb143, 1, none⟩ = some (.int .u8 a1_1) := (blk_cell BK143.out 1).trans rfl; have hcz23_2 : w22.cell? ⟨gb143, 2, none⟩ = some (.int .i64 a1_2) := (blk_cell BK143.out 2).trans rfl; have hcz23_3 : w22.cell? ⟨gb143, 3, none⟩ = some (.int .i64 a1_3) := (blk_cell BK143.out 3).trans rfl; have hcz23_4 : w22.cell? ⟨gb143, 4, none⟩ = some (.int .i64 a1_4) := (blk_cell BK143.out 4).trans rfl; have hcz23_5 : w22.cell? ⟨gb143, 5, none⟩ = some (.int .i64 a1_5) := (blk_cell BK143.out 5).trans rfl; have hcz23_6 : w22.cell? ⟨gb143, 6, none⟩ = some (.int .i64 a1_6) := (blk_cell BK143.out 6).trans rfl; have hcz23_7 : w22.cell? ⟨gb143, 7, none⟩ = some (.int .i64 a1_7) := (blk_cell BK143.out 7).trans rfl; have hcz23_8 : w22.cell? ⟨gb143, 8, none⟩ = some (.int .i64 a1_8) := (blk_cell BK143.out 8).trans rfl; have hcz23_9 : w22.cell? ⟨gb143, 9, none⟩ = some (.int .i64 a1_9) := (blk_cell BK143.out 9).trans rfl; have hcz23_10 : w22.cell? ⟨gb143, 10, none⟩ = some (.int .u8 a1_10) := (blk_cell BK143.out 10).trans rfl; have hcz23_11 : w22.cell? ⟨gb143, 11, none⟩ = some (.int .u64 a1_11) := (blk_cell BK143.out 11).trans rfl; have hcz23_12 : w22.cell? ⟨gb143, 12, none⟩ = some (.int .i64 a1_12) := (blk_cell BK143.out 12).trans rfl; have hcz23_13 : w22.cell? ⟨gb143, 13, none⟩ = some (.int .i64 a1_13) := (blk_cell BK143.out 13).trans rfl; have hcz23_14 : w22.cell? ⟨gb143, 14, none⟩ = some (.int .i64 a1_14) := (blk_cell BK143.out 14).trans rfl; have hfz23_0 := blk_frozen BK143.out 0; have hfz23_1 := blk_frozen BK143.out 1; have hfz23_2 := blk_frozen BK143.out 2; have hfz23_3 := blk_frozen BK143.out 3; have hfz23_4 := blk_frozen BK143.out 4; have hfz23_5 := blk_frozen BK143.out 5; have hfz23_6 := blk_frozen BK143.out 6; have hfz23_7 := blk_frozen BK143.out 7; have hfz23_8 := blk_frozen BK143.out 8; have hfz23_9 := blk_frozen BK143.out 9; have hfz23_10 := blk_frozen BK143.out 10; have hfz23_11 := blk_frozen BK143.out 11; have hfz23_12 := blk_frozen BK143.out 12; have hfz23_13 := blk_frozen BK143.out 13; have hfz23_14 := blk_frozen BK143.out 14; obtain ⟨Ao24, co24, eo24⟩ := Kd.R_slice HO_5.out; subst eo24; have p152 : 0 ≤ ((ji17) : Int) := of_decide_eq_true (by first | (with_reducible assumption) | assumption); have q152 : (ji17) < (x5_1.length : Int) := of_decide_eq_true (by first | (with_reducible assumption) | assumption); obtain ⟨ad152, e152, hx152_0⟩ := Kd.at_int (Kd.R_reads' HO_5.out).2.2 (ji17) p152 q152; cases e152; replace p152 := eq_true p152; replace q152 := eq_true q152; have p20 : 0 ≤ ((ji17) : Int) := of_decide_eq_true (by first | (with_reducible assumption) | assumption); have q20 : ((ji17) : Int) < ((x5_1.length : Int) : Int) := of_decide_eq_true (by first | (with_reducible assumption) | assumption); obtain ⟨go20, co20, eo20, gb20, gl20, cl20, HG20⟩ := Kd.R_form HO_5.out (by omega); (first | cases eo20 | (injection eo20 with ea_ en_ ec_; (first | subst ea_ | (injection ea_ with ea_; subst ea_)); subst ec_; clear en_)); have GB20 := Aside0.mk gb20; have GG20 := Aside0.mk HG20; clear gb20 gl20 HG20; (first | simp only [add_plain] at hx152_0 | skip); obtain ⟨hx20_0, hf20_0⟩ := Kd.R_celln 0 HO_5.out ((ji17) : Int) p20 q20; replace p20 := eq_true p20; replace q20 := eq_true q20; obtain ⟨hy25_, hz25_⟩ := Kd.R_celln 0 HO_5.out ((ji17) : Int) (of_decide_eq_true (by first | (with_reducible assumption) | assumption)) (of_decide_eq_true (by first | (with_reducible assumption) | assumption)); have HP25 := Kd.R_putg HO_5.out ((ji17) : Int) (wrap64 ((rd x5_1 (ji17)) + 1))) | ((with_reducible refine gate_store (t := 3) (p := 36) rfl ?_); (try (rw [drewN_self w22]; generalize hq_ : World.drewN w22 _ = w22; have n0_ := Aside0.mk (Kd.R_at hq_ HO_5.out); have n1_ := Aside0.mk (blk_at hq_ BK143.out); have n2_ := Aside0.mk (below_at hq_ HB.out); clear hq_ HO_5 BK143 HB; have HO_5 := n0_; have BK143 := n1_; have HB := n2_; clear n0_ n1_ n2_; (try (obtain ⟨hy25_, hz25_⟩ := Kd.R_celln 0 HO_5.out ((ji17) : Int) (of_decide_eq_true (by first | (with_reducible assumption) | assumption)) (of_decide_eq_true (by first | (with_reducible assumption) | assumption)))); (try (have HP25 := Kd.R_putg HO_5.out ((ji17) : Int) (wrap64 ((rd x5_1 (ji17)) + 1)))))); refine store_event (t := 3) (p := 36) (v := ?vo_w26) (w1 := (w22.setCell ⟨go20, ((ji17) : Int).toNat, none⟩ (.int .i64 (wrap64 ((rd x5_1 (ji17)) + 1))))) ?hg ?ho ?hn ?hr ?_; (case ho => rfl); (case hg => rfl); (case hn => rfl); (case hr => first | (go_simp; done) | (go_simp; rfl)); intro w26 hw; have hg : w22.grownBy w26 (some go20) := (by rw [hw]; exact HP25.2); have hp_ : Kd.R (Kd.int .i64) 3 w26 w.heap.size (fun _ => True) (.slice (some ⟨go20, 0, none⟩) x5_1.length co24) y153 := (by rw [hw, Ny153.out]; exact HP25.1); clear HP25; have n0_ := Aside0.mk (hp_); have n1_ := Aside0.mk (blk_grown (g := gb143) (o := .cells #[.int .i64 a1_0, .int .u8 a1_1, .int .i64 a1_2, .int .i64 a1_3, .int .i64 a1_4, .int .i64 a1_5, .int .i64 a1_6, .int .i64 a1_7, .int .i64 a1_8, .int .i64 a1_9, .int .u8 a1_10, .int .u64 a1_11, .int .i64 a1_12, .int .i64 a1_13, .int .i64 a1_14] 104 (0, 0)) (by (with_reducible repeat (first | refine blk_drewN ?_ _ | refine blk_drew ?_ | refine blk_alloc ?_ _)); exact BK143.out) hg (Kd.R_ne HO_5.out BK143.out (by decide))); have n2_ := Aside0.mk ((by rw [hw]; exact below_set (HB.out) GB20.out : Below w.heap.size w w26)); clear HO_5; clear BK143; clear HB; have HO_5 := n0_; have BK143 := n1_; have HB := n2_; clear n0_ n1_ n2_; clear hg hw hp_)); try go_wp2_with (first | (go_at_call 65; (with_reducible refine (overfallref23_in.calls _ _ l0 a1_0 a1_1 a1_2 a1_3 a1_4 a1_5 a1_6 a1_7 a1_8 a1_9 a1_10 a1_11 a1_12 a1_13 a1_14 x10_1 true _ ?side1 ?side2 A7.out).mono ?_); (case side1 => repeat (first | exact (Kd.C_below HR0.out HB.out) | (with_reducible refine Kd.C_alloc ?_ _) | (with_reducible refine Kd.C_drewN ?_ _) | (with_reducible refine Kd.C_drew ?_))); (case side2 => exact HC0.out); rintro e w22 ⟨rfl, hb⟩; have n0_ := Aside0.mk (Kd.R_below (by (with_reducible repeat (first | apply Kd.R_alloc | apply Kd.R_drewN | apply Kd.R_drew)); exact HO_5.out) hb); have n1_ := Aside0.mk (blk_below (g := gb143) (o := .cells #[.int .i64 a1_0, .int .u8 a1_1, .int .i64 a1_2, .int .i64 a1_3, .int .i64 a1_4, .int .i64 a1_5, .int .i64 a1_6, .int .i64 a1_7, .int .i64 a1_8, .int .i64 a1_9, .int .u8 a1_10, .int .u64 a1_11, .int .i64 a1_12, .int .i64 a1_13, .int .i64 a1_14] 104 (0, 0)) (by (with_reducible repeat (first | refine blk_drewN ?_ _ | refine blk_drew ?_ | refine blk_alloc ?_ _)); exact BK143.out) hb); have n2_ := Aside0.mk (below_step (by repeat (first | (with_reducible first | exact HB.out | apply below_alloc | apply pw_below_drewN | apply below_drew1 | refine below_set ?_ GE143.out) | exact HB.out)) hb); clear HO_5; clear BK143; clear HB; have HO_5 := n0_; have BK143 := n1_; have HB := n2_; clear n0_ n1_ n2_; (try clear hb); (try clear hb2); (try clear hk); (try clear hi); have p148 : 0 ≤ (x10_1 : Int) := of_decide_eq_true (by first | (with_reducible assumption) | assumption); have q148 : x10_1 < (l0.length : Int) := of_decide_eq_true (by first | (with_reducible assumption) | assumption); obtain ⟨ad148, e148, hx148_0, hx148_1, hx148_2, hx148_3, hx148_4, hx148_5, hx148_6⟩ := at_T147 HR0.out x10_1 p148 q148; cases e148; replace hx148_0 := (HB.out.cell (World.block_lt_of_cell? w _ hx148_0)).trans hx148_0; replace hx148_1 := (HB.out.cell (World.block_lt_of_cell? w _ hx148_1)).trans hx148_1; replace hx148_2 := (HB.out.cell (World.block_lt_of_cell? w _ hx148_2)).trans hx148_2; replace hx148_3 := (HB.out.cell (World.block_lt_of_cell? w _ hx148_3)).trans hx148_3; replace hx148_4 := (HB.out.cell (World.block_lt_of_cell? w _ hx148_4)).trans hx148_4; replace hx148_5 := (HB.out.cell (World.block_lt_of_cell? w _ hx148_5)).trans hx148_5; replace hx148_6 := (HB.out.cell (World.block_lt_of_cell? w _ hx148_6)).trans hx148_6; replace p148 := eq_true p148; replace q148 := eq_true q148; have hcz23_0 : w22.cell? ⟨gb143, 0, none⟩ = some (.int .i64 a1_0) := (blk_cell BK143.out 0).trans rfl; have hcz23_1 : w22.cell? ⟨gb143, 1, none⟩ = some (.int .u8 a1_1) := (blk_cell BK143.out 1).trans rfl; have hcz23_2 : w22.cell? ⟨gb143, 2, none⟩ = some (.int .i64 a1_2) := (blk_cell BK143.out 2).trans rfl; have hcz23_3 : w22.cell? ⟨gb143, 3, none⟩ = some (.int .i64 a1_3) := (blk_cell BK143.out 3).trans rfl; have hcz23_4 : w22.cell? ⟨gb143, 4, none⟩ = some (.int .i64 a1_4) := (blk_cell BK143.out 4).trans rfl; have hcz23_5 : w22.cell? ⟨gb143, 5, none⟩ = some (.int .i64 a1_5) := (blk_cell BK143.out 5).trans rfl; have hcz23_6 : w22.cell? ⟨gb143, 6, none⟩ = some (.int .i64 a1_6) := (blk_cell BK143.out 6).trans rfl; have hcz23_7 : w22.cell? ⟨gb143, 7, none⟩ = some (.int .i64 a1_7) := (blk_cell BK143.out 7).trans rfl; have hcz23_8 : w22.cell? ⟨gb143, 8, none⟩ = some (.int .i64 a1_8) := (blk_cell BK143.out 8).trans rfl; have hcz23_9 : w22.cell? ⟨gb143, 9, none⟩ = some (.int .i64 a1_9) := (blk_cell BK143.out 9).trans rfl; have hcz23_10 : w22.cell? ⟨gb143, 10, none⟩ = some (.int .u8 a1_10) := (blk_cell BK143.out 10).trans rfl; have hcz23_11 : w22.cell? ⟨gb143, 11, none⟩ = some (.int .u64 a1_11) := (blk_cell BK143.out 11).trans rfl; have hcz23_12 : w22.cell? ⟨gb143, 12, none⟩ = some (.int .i64 a1_12) := (blk_cell BK143.out 12).trans rfl; have hcz23_13 : w22.cell? ⟨gb143, 13, none⟩ = some (.int .i64 a1_13) := (blk_cell BK143.out 13).trans rfl; have hcz23_14 : w22.cell? ⟨gb143, 14, none⟩ = some (.int .i64 a1_14) := (blk_cell BK143.out 14).trans rfl; have hfz23_0 := blk_frozen BK143.out 0; have hfz23_1 := blk_frozen BK143.out 1; have hfz23_2 := blk_frozen BK143.out 2; have hfz23_3 := blk_frozen BK143.out 3; have hfz23_4 := blk_frozen BK143.out 4; have hfz23_5 := blk_frozen BK143.out 5; have hfz23_6 := blk_frozen BK143.out 6; have hfz23_7 := blk_frozen BK143.out 7; have hfz23_8 := blk_frozen BK143.out 8; have hfz23_9 := blk_frozen BK143.out 9; have hfz23_10 := blk_frozen BK143.out 10; have hfz23_11 := blk_frozen BK143.out 11; have hfz23_12 := blk_frozen BK143.out 12; have hfz23_13 := blk_frozen BK143.out 13; have hfz23_14 := blk_frozen BK143.out 14; obtain ⟨Ao24, co24, eo24⟩ := Kd.R_slice HO_5.out; subst eo24; have p152 : 0 ≤ ((ji17) : Int) := of_decide_eq_true (by first | (with_reducible assumption) | assumption); have q152 : (ji17) < (x5_1.length : Int) := of_decide_eq_true (by first | (with_reducible assumption) | assumption); obtain ⟨ad152, e152, hx152_0⟩ := Kd.at_int (Kd.R_reads' HO_5.out).2.2 (ji17) p152 q152; cases e152; replace p152 := eq_true p152; replace q152 := eq_true q152; have p20 : 0 ≤ ((ji17) : Int) := of_decide_eq_true (by first | (with_reducible assumption) | assumption); have q20 : ((ji17) : Int) < ((x5_1.length : Int) : Int) := of_decide_eq_true (by first | (with_reducible assumption) | assumption); obtain ⟨go20, co20, eo20, gb20, gl20, cl20, HG20⟩ := Kd.R_form HO_5.out (by omega); (first | cases eo20 | (injection eo20 with ea_ en_ ec_; (first | subst ea_ | (injection ea_ with ea_; subst ea_)); subst ec_; clear en_)); have GB20 := Aside0.mk gb20; have GG20 := Aside0.mk HG20; clear gb20 gl20 HG20; (first | simp only [add_plain] at hx152_0 | skip); obtain ⟨hx20_0, hf20_0⟩ := Kd.R_celln 0 HO_5.out ((ji17) : Int) p20 q20; replace p20 := eq_true p20; replace q20 := eq_true q20; obtain ⟨hy25_, hz25_⟩ := Kd.R_celln 0 HO_5.out ((ji17) : Int) (of_decide_eq_true (by first | (with_reducible assumption) | assumption)) (of_decide_eq_true (by first | (with_reducible assumption) | assumption)); have HP25 := Kd.R_putg HO_5.out ((ji17) : Int) (wrap64 ((rd x5_1 (ji17)) + 1))) | ((with_reducible refine gate_store (t := 3) (p := 36) rfl ?_); (try (rw [drewN_self w22]; generalize hq_ : World.drewN w22 _ = w22; have n0_ := Aside0.mk (Kd.R_at hq_ HO_5.out); have n1_ := Aside0.mk (blk_at hq_ BK143.out); have n2_ := Aside0.mk (below_at hq_ HB.out); clear hq_ HO_5 BK143 HB; have HO_5 := n0_; have BK143 := n1_; have HB := n2_; clear n0_ n1_ n2_; (try (obtain ⟨hy25_, hz25_⟩ := Kd.R_celln 0 HO_5.out ((ji17) : Int) (of_decide_eq_true (by first | (with_reducible assumption) | assumption)) (of_decide_eq_true (by first | (with_reducible assumption) | assumption)))); (try (have HP25 := Kd.R_putg HO_5.out ((ji17) : Int) (wrap64 ((rd x5_1 (ji17)) + 1)))))); refine store_event (t := 3) (p := 36) (v := ?vo_w26) (w1 := (w22.setCell ⟨go20, ((ji17) : Int).toNat, none⟩ (.int .i64 (wrap64 ((rd x5_1 (ji17)) + 1))))) ?hg ?ho ?hn ?hr ?_; (case ho => rfl); (case hg => rfl); (case hn => rfl); (case hr => first | (go_simp; done) | (go_simp; rfl)); intro w26 hw; have hg : w22.grownBy w26 (some go20) := (by rw [hw]; exact HP25.2); have hp_ : Kd.R (Kd.int .i64) 3 w26 w.heap.size (fun _ => True) (.slice (some ⟨go20, 0, none⟩) x5_1.length co24) y153 := (by rw [hw, Ny153.out]; exact HP25.1); clear HP25; have n0_ := Aside0.mk (hp_); have n1_ := Aside0.mk (blk_grown (g := gb143) (o := .cells #[.int .i64 a1_0, .int .u8 a1_1, .int .i64 a1_2, .int .i64 a1_3, .int .i64 a1_4, .int .i64 a1_5, .int .i64 a1_6, .int .i64 a1_7, .int .i64 a1_8, .int .i64 a1_9, .int .u8 a1_10, .int .u64 a1_11, .int .i64 a1_12, .int .i64 a1_13, .int .i64 a1_14] 104 (0, 0)) (by (with_reducible repeat (first | refine blk_drewN ?_ _ | refine blk_drew ?_ | refine blk_alloc ?_ _)); exact BK143.out) hg (Kd.R_ne HO_5.out BK143.out (by decide))); have n2_ := Aside0.mk ((by rw [hw]; exact below_set (HB.out) GB20.out : Below w.heap.size w w26)); clear HO_5; clear BK143; clear HB; have HO_5 := n0_; have BK143 := n1_; have HB := n2_; clear n0_ n1_ n2_; clear hg hw hp_)))
                    go_roundg k1
                    case measure => have := HK1.out; omega
                    case rel => exact ⟨(y153), (wrap64 (x10_1 + 1)), (by first | rfl | (simp; done) | (simp [*]; done)), H', ⟨by have := HK1.out; omega⟩, ⟨by (with_reducible repeat (first | apply Kd.R_alloc | apply Kd.R_drewN | apply Kd.R_drew)); exact HO_5.out⟩, ⟨by (with_reducible repeat (first | refine blk_drewN ?_ _ | refine blk_drew ?_ | refine blk_alloc ?_ _)); exact BK143.out⟩, ⟨by repeat (first | (with_reducible first | exact HB.out | apply below_alloc | apply pw_below_drewN | apply below_drew1 | refine below_set ?_ GE143.out) | exact HB.out)⟩⟩
                  · rw [if_neg c19] at H
                    exact absurd H (by simp)
                · rw [if_neg c18] at H
                  exact absurd H (by simp)
            · rw [if_neg c10] at H
              exact absurd H (by simp)
          · rw [if_neg c9] at H
            exact absurd H (by simp)
        · replace c8 := Bool.eq_false_iff.mpr c8
          subst c8
          have H1 : (overfallref23_Waits.l0 k1 l0 x5_1 (l0.length : Int) (wrap64 (x10_1 + 1)) a1_0 a1_1 a1_2 a1_3 a1_4 a1_5 a1_6 a1_7 a1_8 a1_9 a1_10 a1_11 a1_12 a1_13 a1_14) = some r := by rw [if_neg (show ¬ (false = true) by decide)] at H; exact H
          clear H
          have H := H1
          clear H1
          have H' := Aside0.mk H
          clear H
          have hcz27_0 : wr.cell? ⟨gb143, 0, none⟩ = some (.int .i64 a1_0) := (blk_cell BK143.out 0).trans rfl
          have hcz27_1 : wr.cell? ⟨gb143, 1, none⟩ = some (.int .u8 a1_1) := (blk_cell BK143.out 1).trans rfl
          have hcz27_2 : wr.cell? ⟨gb143, 2, none⟩ = some (.int .i64 a1_2) := (blk_cell BK143.out 2).trans rfl
          have hcz27_3 : wr.cell? ⟨gb143, 3, none⟩ = some (.int .i64 a1_3) := (blk_cell BK143.out 3).trans rfl
          have hcz27_4 : wr.cell? ⟨gb143, 4, none⟩ = some (.int .i64 a1_4) := (blk_cell BK143.out 4).trans rfl
          have hcz27_5 : wr.cell? ⟨gb143, 5, none⟩ = some (.int .i64 a1_5) := (blk_cell BK143.out 5).trans rfl
          have hcz27_6 : wr.cell? ⟨gb143, 6, none⟩ = some (.int .i64 a1_6) := (blk_cell BK143.out 6).trans rfl
          have hcz27_7 : wr.cell? ⟨gb143, 7, none⟩ = some (.int .i64 a1_7) := (blk_cell BK143.out 7).trans rfl
          have hcz27_8 : wr.cell? ⟨gb143, 8, none⟩ = some (.int .i64 a1_8) := (blk_cell BK143.out 8).trans rfl
          have hcz27_9 : wr.cell? ⟨gb143, 9, none⟩ = some (.int .i64 a1_9) := (blk_cell BK143.out 9).trans rfl
          have hcz27_10 : wr.cell? ⟨gb143, 10, none⟩ = some (.int .u8 a1_10) := (blk_cell BK143.out 10).trans rfl
          have hcz27_11 : wr.cell? ⟨gb143, 11, none⟩ = some (.int .u64 a1_11) := (blk_cell BK143.out 11).trans rfl
          have hcz27_12 : wr.cell? ⟨gb143, 12, none⟩ = some (.int .i64 a1_12) := (blk_cell BK143.out 12).trans rfl
          have hcz27_13 : wr.cell? ⟨gb143, 13, none⟩ = some (.int .i64 a1_13) := (blk_cell BK143.out 13).trans rfl
          have hcz27_14 : wr.cell? ⟨gb143, 14, none⟩ = some (.int .i64 a1_14) := (blk_cell BK143.out 14).trans rfl
          have hfz27_0 := blk_frozen BK143.out 0
          have hfz27_1 := blk_frozen BK143.out 1
          have hfz27_2 := blk_frozen BK143.out 2
          have hfz27_3 := blk_frozen BK143.out 3
          have hfz27_4 := blk_frozen BK143.out 4
          have hfz27_5 := blk_frozen BK143.out 5
          have hfz27_6 := blk_frozen BK143.out 6
          have hfz27_7 := blk_frozen BK143.out 7
          have hfz27_8 := blk_frozen BK143.out 8
          have hfz27_9 := blk_frozen BK143.out 9
          have hfz27_10 := blk_frozen BK143.out 10
          have hfz27_11 := blk_frozen BK143.out 11
          have hfz27_12 := blk_frozen BK143.out 12
          have hfz27_13 := blk_frozen BK143.out 13
          have hfz27_14 := blk_frozen BK143.out 14
          go_wp2_with (first | (go_at_call 65; (with_reducible refine (overfallref23_in.calls _ _ l0 a1_0 a1_1 a1_2 a1_3 a1_4 a1_5 a1_6 a1_7 a1_8 a1_9 a1_10 a1_11 a1_12 a1_13 a1_14 x10_1 false _ ?side1 ?side2 A7.out).mono ?_); (case side1 => repeat (first | exact (Kd.C_below HR0.out HB.out) | (with_reducible refine Kd.C_alloc ?_ _) | (with_reducible refine Kd.C_drewN ?_ _) | (with_reducible refine Kd.C_drew ?_))); (case side2 => exact HC0.out); rintro e w28 ⟨rfl, hb⟩; have n0_ := Aside0.mk (Kd.R_below (by (with_reducible repeat (first | apply Kd.R_alloc | apply Kd.R_drewN | apply Kd.R_drew)); exact HO_5.out) hb); have n1_ := Aside0.mk (blk_below (g := gb143) (o := .cells #[.int .i64 a1_0, .int .u8 a1_1, .int .i64 a1_2, .int .i64 a1_3, .int .i64 a1_4, .int .i64 a1_5, .int .i64 a1_6, .int .i64 a1_7, .int .i64 a1_8, .int .i64 a1_9, .int .u8 a1_10, .int .u64 a1_11, .int .i64 a1_12, .int .i64 a1_13, .int .i64 a1_14] 104 (0, 0)) (by (with_reducible repeat (first | refine blk_drewN ?_ _ | refine blk_drew ?_ | refine blk_alloc ?_ _)); exact BK143.out) hb); have n2_ := Aside0.mk (below_step (by repeat (first | (with_reducible first | exact HB.out | apply below_alloc | apply pw_below_drewN | apply below_drew1 | refine below_set ?_ GE143.out) | exact HB.out)) hb); clear HO_5; clear BK143; clear HB; have HO_5 := n0_; have BK143 := n1_; have HB := n2_; clear n0_ n1_ n2_; (try clear hb); (try clear hb2); (try clear hk); (try clear hi)))
          repeat (go_quiet (first | (go_at_call 65; (with_reducible refine (overfallref23_in.calls _ _ l0 a1_0 a1_1 a1_2 a1_3 a1_4 a1_5 a1_6 a1_7 a1_8 a1_9 a1_10 a1_11 a1_12 a1_13 a1_14 x10_1 false _ ?side1 ?side2 A7.out).mono ?_); (case side1 => repeat (first | exact (Kd.C_below HR0.out HB.out) | (with_reducible refine Kd.C_alloc ?_ _) | (with_reducible refine Kd.C_drewN ?_ _) | (with_reducible refine Kd.C_drew ?_))); (case side2 => exact HC0.out); rintro e w28 ⟨rfl, hb⟩; have n0_ := Aside0.mk (Kd.R_below (by (with_reducible repeat (first | apply Kd.R_alloc | apply Kd.R_drewN | apply Kd.R_drew)); exact HO_5.out) hb); have n1_ := Aside0.mk (blk_below (g := gb143) (o := .cells #[.int .i64 a1_0, .int .u8 a1_1, .int .i64 a1_2, .int .i64 a1_3, .int .i64 a1_4, .int .i64 a1_5, .int .i64 a1_6, .int .i64 a1_7, .int .i64 a1_8, .int .i64 a1_9, .int .u8 a1_10, .int .u64 a1_11, .int .i64 a1_12, .int .i64 a1_13, .int .i64 a1_14] 104 (0, 0)) (by (with_reducible repeat (first | refine blk_drewN ?_ _ | refine blk_drew ?_ | refine blk_alloc ?_ _)); exact BK143.out) hb); have n2_ := Aside0.mk (below_step (by repeat (first | (with_reducible first | exact HB.out | apply below_alloc | apply pw_below_drewN | apply below_drew1 | refine below_set ?_ GE143.out) | exact HB.out)) hb); clear HO_5; clear BK143; clear HB; have HO_5 := n0_; have BK143 := n1_; have HB := n2_; clear n0_ n1_ n2_; (try clear hb); (try clear hb2); (try clear hk); (try clear hi))); try go_wp2_with (first | (go_at_call 65; (with_reducible refine (overfallref23_in.calls _ _ l0 a1_0 a1_1 a1_2 a1_3 a1_4 a1_5 a1_6 a1_7 a1_8 a1_9 a1_10 a1_11 a1_12 a1_13 a1_14 x10_1 false _ ?side1 ?side2 A7.out).mono ?_); (case side1 => repeat (first | exact (Kd.C_below HR0.out HB.out) | (with_reducible refine Kd.C_alloc ?_ _) | (with_reducible refine Kd.C_drewN ?_ _) | (with_reducible refine Kd.C_drew ?_))); (case side2 => exact HC0.out); rintro e w28 ⟨rfl, hb⟩; have n0_ := Aside0.mk (Kd.R_below (by (with_reducible repeat (first | apply Kd.R_alloc | apply Kd.R_drewN | apply Kd.R_drew)); exact HO_5.out) hb); have n1_ := Aside0.mk (blk_below (g := gb143) (o := .cells #[.int .i64 a1_0, .int .u8 a1_1, .int .i64 a1_2, .int .i64 a1_3, .int .i64 a1_4, .int .i64 a1_5, .int .i64 a1_6, .int .i64 a1_7, .int .i64 a1_8, .int .i64 a1_9, .int .u8 a1_10, .int .u64 a1_11, .int .i64 a1_12, .int .i64 a1_13, .int .i64 a1_14] 104 (0, 0)) (by (with_reducible repeat (first | refine blk_drewN ?_ _ | refine blk_drew ?_ | refine blk_alloc ?_ _)); exact BK143.out) hb); have n2_ := Aside0.mk (below_step (by repeat (first | (with_reducible first | exact HB.out | apply below_alloc | apply pw_below_drewN | apply below_drew1 | refine below_set ?_ GE143.out) | exact HB.out)) hb); clear HO_5; clear BK143; clear HB; have HO_5 := n0_; have BK143 := n1_; have HB := n2_; clear n0_ n1_ n2_; (try clear hb); (try clear hb2); (try clear hk); (try clear hi))))
          go_roundg k1
          case measure => have := HK1.out; omega
          case rel => exact ⟨(x5_1), (wrap64 (x10_1 + 1)), (by first | rfl | (simp; done) | (simp [*]; done)), H', ⟨by have := HK1.out; omega⟩, ⟨by (with_reducible repeat (first | apply Kd.R_alloc | apply Kd.R_drewN | apply Kd.R_drew)); exact HO_5.out⟩, ⟨by (with_reducible repeat (first | refine blk_drewN ?_ _ | refine blk_drew ?_ | refine blk_alloc ?_ _)); exact BK143.out⟩, ⟨by repeat (first | (with_reducible first | exact HB.out | apply below_alloc | apply pw_below_drewN | apply below_drew1 | refine below_set ?_ GE143.out) | exact HB.out)⟩⟩
      · rw [if_neg c6] at H
        have c6b0 : decide (x10_1 < (l0.length : Int)) = false := decide_eq_false c6
        clear c6
        have HC29 := Aside0.mk H
        clear H
        go_upto_region 10 with (fail)
        repeat (go_quiet (fail); go_upto_region 10 with (fail))
        go_cut [47] (fun v47 wc => ∃ (kq : Nat) (x47_28 : Bool), v47 = .bool x47_28 ∧ Aside0 (overfallref23_Waits.j1 kq x5_1 x47_28 a1_0 a1_1 a1_2 a1_3 a1_4 a1_5 a1_6 a1_7 a1_8 a1_9 a1_10 a1_11 a1_12 a1_13 a1_14 = some r) ∧ Aside0 (kq ≤ k1) ∧ Aside0 (Kd.R (Kd.int .i64) 3 wc w.heap.size (fun _ => True) u5 x5_1) ∧ Aside0 (wc.heap[gb143]? = some (.cells #[.int .i64 a1_0, .int .u8 a1_1, .int .i64 a1_2, .int .i64 a1_3, .int .i64 a1_4, .int .i64 a1_5, .int .i64 a1_6, .int .i64 a1_7, .int .i64 a1_8, .int .i64 a1_9, .int .u8 a1_10, .int .u64 a1_11, .int .i64 a1_12, .int .i64 a1_13, .int .i64 a1_14] 104 (0, 0))) ∧ Aside0 (Below w.heap.size w wc))
        case first =>
          have H := HC29.out
          clear HC29
          by_cases c30 : a1_5 < 0
          · rw [if_pos c30] at H
            have c30b0 : decide (a1_5 < 0) = true := decide_eq_true c30
            clear c30
            (first | rw [c30b0] | (simp only [i64_w, i32_w]; rw [c30b0]) | skip)
            have H' := Aside0.mk H
            clear H
            have hcz31_0 : wr.cell? ⟨gb143, 0, none⟩ = some (.int .i64 a1_0) := (blk_cell BK143.out 0).trans rfl
            have hcz31_1 : wr.cell? ⟨gb143, 1, none⟩ = some (.int .u8 a1_1) := (blk_cell BK143.out 1).trans rfl
            have hcz31_2 : wr.cell? ⟨gb143, 2, none⟩ = some (.int .i64 a1_2) := (blk_cell BK143.out 2).trans rfl
            have hcz31_3 : wr.cell? ⟨gb143, 3, none⟩ = some (.int .i64 a1_3) := (blk_cell BK143.out 3).trans rfl
            have hcz31_4 : wr.cell? ⟨gb143, 4, none⟩ = some (.int .i64 a1_4) := (blk_cell BK143.out 4).trans rfl
            have hcz31_5 : wr.cell? ⟨gb143, 5, none⟩ = some (.int .i64 a1_5) := (blk_cell BK143.out 5).trans rfl
            have hcz31_6 : wr.cell? ⟨gb143, 6, none⟩ = some (.int .i64 a1_6) := (blk_cell BK143.out 6).trans rfl
            have hcz31_7 : wr.cell? ⟨gb143, 7, none⟩ = some (.int .i64 a1_7) := (blk_cell BK143.out 7).trans rfl
            have hcz31_8 : wr.cell? ⟨gb143, 8, none⟩ = some (.int .i64 a1_8) := (blk_cell BK143.out 8).trans rfl
            have hcz31_9 : wr.cell? ⟨gb143, 9, none⟩ = some (.int .i64 a1_9) := (blk_cell BK143.out 9).trans rfl
            have hcz31_10 : wr.cell? ⟨gb143, 10, none⟩ = some (.int .u8 a1_10) := (blk_cell BK143.out 10).trans rfl
            have hcz31_11 : wr.cell? ⟨gb143, 11, none⟩ = some (.int .u64 a1_11) := (blk_cell BK143.out 11).trans rfl
            have hcz31_12 : wr.cell? ⟨gb143, 12, none⟩ = some (.int .i64 a1_12) := (blk_cell BK143.out 12).trans rfl
            have hcz31_13 : wr.cell? ⟨gb143, 13, none⟩ = some (.int .i64 a1_13) := (blk_cell BK143.out 13).trans rfl
            have hcz31_14 : wr.cell? ⟨gb143, 14, none⟩ = some (.int .i64 a1_14) := (blk_cell BK143.out 14).trans rfl
            have hfz31_0 := blk_frozen BK143.out 0
            have hfz31_1 := blk_frozen BK143.out 1
            have hfz31_2 := blk_frozen BK143.out 2
            have hfz31_3 := blk_frozen BK143.out 3
            have hfz31_4 := blk_frozen BK143.out 4
            have hfz31_5 := blk_frozen BK143.out 5
            have hfz31_6 := blk_frozen BK143.out 6
            have hfz31_7 := blk_frozen BK143.out 7
            have hfz31_8 := blk_frozen BK143.out 8
            have hfz31_9 := blk_frozen BK143.out 9
            have hfz31_10 := blk_frozen BK143.out 10
            have hfz31_11 := blk_frozen BK143.out 11
            have hfz31_12 := blk_frozen BK143.out 12
            have hfz31_13 := blk_frozen BK143.out 13
            have hfz31_14 := blk_frozen BK143.out 14
            go_wp2
            repeat (go_quiet (fail); try go_wp2)
            go_meet
            case rel => exact ⟨_, (true), (by first | rfl | (simp; done) | (simp [*]; done)), H', ⟨by have := HK1.out; first | omega | exact Nat.le_refl _⟩, ⟨by (with_reducible repeat (first | apply Kd.R_alloc | apply Kd.R_drewN | apply Kd.R_drew)); exact HO_5.out⟩, ⟨by (with_reducible repeat (first | refine blk_drewN ?_ _ | refine blk_drew ?_ | refine blk_alloc ?_ _)); exact BK143.out⟩, ⟨by repeat (first | (with_reducible first | exact HB.out | apply below_alloc | apply pw_below_drewN | apply below_drew1 | refine below_set ?_ GE143.out) | exact HB.out)⟩⟩
          · rw [if_neg c30] at H
            have c30b0 : decide (a1_5 < 0) = false := decide_eq_false c30
            clear c30
            (first | rw [c30b0] | (simp only [i64_w, i32_w]; rw [c30b0]) | skip)
            have H' := Aside0.mk H
            clear H
            have hcz32_0 : wr.cell? ⟨gb143, 0, none⟩ = some (.int .i64 a1_0) := (blk_cell BK143.out 0).trans rfl
            have hcz32_1 : wr.cell? ⟨gb143, 1, none⟩ = some (.int .u8 a1_1) := (blk_cell BK143.out 1).trans rfl
            have hcz32_2 : wr.cell? ⟨gb143, 2, none⟩ = some (.int .i64 a1_2) := (blk_cell BK143.out 2).trans rfl
            have hcz32_3 : wr.cell? ⟨gb143, 3, none⟩ = some (.int .i64 a1_3) := (blk_cell BK143.out 3).trans rfl
            have hcz32_4 : wr.cell? ⟨gb143, 4, none⟩ = some (.int .i64 a1_4) := (blk_cell BK143.out 4).trans rfl
            have hcz32_5 : wr.cell? ⟨gb143, 5, none⟩ = some (.int .i64 a1_5) := (blk_cell BK143.out 5).trans rfl
            have hcz32_6 : wr.cell? ⟨gb143, 6, none⟩ = some (.int .i64 a1_6) := (blk_cell BK143.out 6).trans rfl
            have hcz32_7 : wr.cell? ⟨gb143, 7, none⟩ = some (.int .i64 a1_7) := (blk_cell BK143.out 7).trans rfl
            have hcz32_8 : wr.cell? ⟨gb143, 8, none⟩ = some (.int .i64 a1_8) := (blk_cell BK143.out 8).trans rfl
            have hcz32_9 : wr.cell? ⟨gb143, 9, none⟩ = some (.int .i64 a1_9) := (blk_cell BK143.out 9).trans rfl
            have hcz32_10 : wr.cell? ⟨gb143, 10, none⟩ = some (.int .u8 a1_10) := (blk_cell BK143.out 10).trans rfl
            have hcz32_11 : wr.cell? ⟨gb143, 11, none⟩ = some (.int .u64 a1_11) := (blk_cell BK143.out 11).trans rfl
            have hcz32_12 : wr.cell? ⟨gb143, 12, none⟩ = some (.int .i64 a1_12) := (blk_cell BK143.out 12).trans rfl
            have hcz32_13 : wr.cell? ⟨gb143, 13, none⟩ = some (.int .i64 a1_13) := (blk_cell BK143.out 13).trans rfl
            have hcz32_14 : wr.cell? ⟨gb143, 14, none⟩ = some (.int .i64 a1_14) := (blk_cell BK143.out 14).trans rfl
            have hfz32_0 := blk_frozen BK143.out 0
            have hfz32_1 := blk_frozen BK143.out 1
            have hfz32_2 := blk_frozen BK143.out 2
            have hfz32_3 := blk_frozen BK143.out 3
            have hfz32_4 := blk_frozen BK143.out 4
            have hfz32_5 := blk_frozen BK143.out 5
            have hfz32_6 := blk_frozen BK143.out 6
            have hfz32_7 := blk_frozen BK143.out 7
            have hfz32_8 := blk_frozen BK143.out 8
            have hfz32_9 := blk_frozen BK143.out 9
            have hfz32_10 := blk_frozen BK143.out 10
            have hfz32_11 := blk_frozen BK143.out 11
            have hfz32_12 := blk_frozen BK143.out 12
            have hfz32_13 := blk_frozen BK143.out 13
            have hfz32_14 := blk_frozen BK143.out 14
            go_wp2
            repeat (go_quiet (fail); try go_wp2)
            go_meet
            case rel => exact ⟨_, (decide (a1_5 ≥ (l0.length : Int))), (by first | rfl | (simp; done) | (simp [*]; done)), H', ⟨by have := HK1.out; first | omega | exact Nat.le_refl _⟩, ⟨by (with_reducible repeat (first | apply Kd.R_alloc | apply Kd.R_drewN | apply Kd.R_drew)); exact HO_5.out⟩, ⟨by (with_reducible repeat (first | refine blk_drewN ?_ _ | refine blk_drew ?_ | refine blk_alloc ?_ _)); exact BK143.out⟩, ⟨by repeat (first | (with_reducible first | exact HB.out | apply below_alloc | apply pw_below_drewN | apply below_drew1 | refine below_set ?_ GE143.out) | exact HB.out)⟩⟩
        case rest =>
          clear HC29
          try clear c1
          try clear p1
          try clear q1
          try clear hx1
          try clear p2
          try clear q2
          try clear hx2
          try clear hf2
          try clear c3
          try clear c6
          try clear c6b0
          try clear p6
          try clear c8
          try clear c9
          try clear c9b0
          try clear c10
          try clear c10b0
          try clear c11
          try clear c11b0
          try clear c11b1
          try clear c12
          try clear p14
          try clear q14
          try clear hx14
          try clear p15
          try clear q15
          try clear hx15
          try clear c18
          try clear c18b0
          try clear c19
          try clear c19b0
          try clear p20
          try clear q20
          try clear hx20
          try clear hf20
          try clear c30
          try clear c30b0
          try clear hcz13_0
          try clear hcz13_1
          try clear hcz13_10
          try clear hcz13_11
          try clear hcz13_12
          try clear hcz13_13
          try clear hcz13_14
          try clear hcz13_2
          try clear hcz13_3
          try clear hcz13_4
          try clear hcz13_5
          try clear hcz13_6
          try clear hcz13_7
          try clear hcz13_8
          try clear hcz13_9
          try clear hcz15_0
          try clear hcz15_1
          try clear hcz15_10
          try clear hcz15_11
          try clear hcz15_12
          try clear hcz15_13
          try clear hcz15_14
          try clear hcz15_2
          try clear hcz15_3
          try clear hcz15_4
          try clear hcz15_5
          try clear hcz15_6
          try clear hcz15_7
          try clear hcz15_8
          try clear hcz15_9
          try clear hcz21_0
          try clear hcz21_1
          try clear hcz21_10
          try clear hcz21_11
          try clear hcz21_12
          try clear hcz21_13
          try clear hcz21_14
          try clear hcz21_2
          try clear hcz21_3
          try clear hcz21_4
          try clear hcz21_5
          try clear hcz21_6
          try clear hcz21_7
          try clear hcz21_8
          try clear hcz21_9
          try clear hcz23_0
          try clear hcz23_1
          try clear hcz23_10
          try clear hcz23_11
          try clear hcz23_12
          try clear hcz23_13
          try clear hcz23_14
          try clear hcz23_2
          try clear hcz23_3
          try clear hcz23_4
          try clear hcz23_5
          try clear hcz23_6
          try clear hcz23_7
          try clear hcz23_8
          try clear hcz23_9
          try clear hcz27_0
          try clear hcz27_1
          try clear hcz27_10
          try clear hcz27_11
          try clear hcz27_12
          try clear hcz27_13
          try clear hcz27_14
          try clear hcz27_2
          try clear hcz27_3
          try clear hcz27_4
          try clear hcz27_5
          try clear hcz27_6
          try clear hcz27_7
          try clear hcz27_8
          try clear hcz27_9
          try clear hcz31_0
          try clear hcz31_1
          try clear hcz31_10
          try clear hcz31_11
          try clear hcz31_12
          try clear hcz31_13
          try clear hcz31_14
          try clear hcz31_2
          try clear hcz31_3
          try clear hcz31_4
          try clear hcz31_5
          try clear hcz31_6
          try clear hcz31_7
          try clear hcz31_8
          try clear hcz31_9
          try clear hcz32_0
          try clear hcz32_1
          try clear hcz32_10
          try clear hcz32_11
          try clear hcz32_12
          try clear hcz32_13
          try clear hcz32_14
          try clear hcz32_2
          try clear hcz32_3
          try clear hcz32_4
          try clear hcz32_5
          try clear hcz32_6
          try clear hcz32_7
          try clear hcz32_8
          try clear hcz32_9
          try clear hfz13_0
          try clear hfz13_1
          try clear hfz13_10
          try clear hfz13_11
          try clear hfz13_12
          try clear hfz13_13
          try clear hfz13_14
          try clear hfz13_2
          try clear hfz13_3
          try clear hfz13_4
          try clear hfz13_5
          try clear hfz13_6
          try clear hfz13_7
          try clear hfz13_8
          try clear hfz13_9
          try clear hfz15_0
          try clear hfz15_1
          try clear hfz15_10
          try clear hfz15_11
          try clear hfz15_12
          try clear hfz15_13
          try clear hfz15_14
          try clear hfz15_2
          try clear hfz15_3
          try clear hfz15_4
          try clear hfz15_5
          try clear hfz15_6
          try clear hfz15_7
          try clear hfz15_8
          try clear hfz15_9
          try clear hfz21_0
          try clear hfz21_1
          try clear hfz21_10
          try clear hfz21_11
          try clear hfz21_12
          try clear hfz21_13
          try clear hfz21_14
          try clear hfz21_2
          try clear hfz21_3
          try clear hfz21_4
          try clear hfz21_5
          try clear hfz21_6
          try clear hfz21_7
          try clear hfz21_8
          try clear hfz21_9
          try clear hfz23_0
          try clear hfz23_1
          try clear hfz23_10
          try clear hfz23_11
          try clear hfz23_12
          try clear hfz23_13
          try clear hfz23_14
          try clear hfz23_2
          try clear hfz23_3
          try clear hfz23_4
          try clear hfz23_5
          try clear hfz23_6
          try clear hfz23_7
          try clear hfz23_8
          try clear hfz23_9
          try clear hfz27_0
          try clear hfz27_1
          try clear hfz27_10
          try clear hfz27_11
          try clear hfz27_12
          try clear hfz27_13
          try clear hfz27_14
          try clear hfz27_2
          try clear hfz27_3
          try clear hfz27_4
          try clear hfz27_5
          try clear hfz27_6
          try clear hfz27_7
          try clear hfz27_8
          try clear hfz27_9
          try clear hfz31_0
          try clear hfz31_1
          try clear hfz31_10
          try clear hfz31_11
          try clear hfz31_12
          try clear hfz31_13
          try clear hfz31_14
          try clear hfz31_2
          try clear hfz31_3
          try clear hfz31_4
          try clear hfz31_5
          try clear hfz31_6
          try clear hfz31_7
          try clear hfz31_8
          try clear hfz31_9
          try clear hfz32_0
          try clear hfz32_1
          try clear hfz32_10
          try clear hfz32_11
          try clear hfz32_12
          try clear hfz32_13
          try clear hfz32_14
          try clear hfz32_2
          try clear hfz32_3
          try clear hfz32_4
          try clear hfz32_5
          try clear hfz32_6
          try clear hfz32_7
          try clear hfz32_8
          try clear hfz32_9
          try clear hx148_0
          try clear hx148_1
          try clear hx148_2
          try clear hx148_3
          try clear hx148_4
          try clear hx148_5
          try clear hx148_6
          try clear hx152_0
          try clear hx20_0
          try clear p148
          try clear p152
          try clear p2
          try clear p20
          try clear q148
          try clear q152
          try clear q20
          obtain ⟨kq, x47_28, rfl, HA, HJ28, HO_5, BK143, HB⟩ := hcut
          cases kq with
          | zero => exact absurd HA.out (by simp [overfallref23_Waits.j1])
          | succ kj28 =>
            have H := HA.out
            clear HA
            simp only [overfallref23_Waits.j1] at H
            by_cases c33 : x47_28 = true
            · subst c33
              have H1 : (some ([] : List Int)) = some r := by rw [if_pos rfl] at H; exact H
              clear H
              have H := H1
              clear H1
              obtain rfl := Option.some.inj H
              go_wp2
              repeat (go_quiet (fail); try go_wp2)
              go_ret
              exact ⟨_, by first | rfl | (simp [errW_none, errW_some] <;> rfl) | (simp [*, errW_none, errW_some] <;> rfl), by first | exact Kd.R_nil _ _ _ _ _ | exact Kd.N_nil _ _ _ _ _ | exact Kd.V_nil _ _ _ _ _ | exact Kd.Q_nil _ _ _ _ _ | exact Kd.S_nil _ _ _ _ _, by repeat (first | (with_reducible first | exact HB.out | apply below_alloc | apply pw_below_drewN | apply below_drew1 | refine below_set ?_ GE143.out) | exact HB.out)⟩
            · replace c33 := Bool.eq_false_iff.mpr c33
              subst c33
              have H1 : (if a1_6 ≥ 0 then (if 0 ≤ (wrap64 ((x5_1.length : Int) - 1)) then (if (wrap64 ((x5_1.length : Int) - 1)) ≤ (x5_1.length : Int) then (some (x5_1.take ((wrap64 ((x5_1.length : Int) - 1)) : Int).toNat)) else (none)) else (none)) else (some x5_1)) = some r := by rw [if_neg (show ¬ (false = true) by decide)] at H; exact H
              clear H
              have H := H1
              clear H1
              by_cases c34 : a1_6 ≥ 0
              · rw [if_pos c34] at H
                have c34b0 : decide (0 ≤ a1_6) = true := decide_eq_true c34
                clear c34
                obtain ⟨ji35, hji35⟩ : ∃ j_ : Int, (wrap64 ((x5_1.length : Int) - 1)) = j_ := ⟨_, rfl⟩
                replace H : (if 0 ≤ (ji35) then (if (ji35) ≤ (x5_1.length : Int) then (some (x5_1.take ((ji35) : Int).toNat)) else (none)) else (none)) = some r := by first | (rw [hji35] at H; exact H) | (simp only [hji35] at H ⊢; exact H)
                have hji35w : (IntKind.i64.wrap ((x5_1.length : Int) - 1)) = ji35 := (i64_w _).trans hji35
                by_cases c36 : 0 ≤ (ji35)
                · rw [if_pos c36] at H
                  have c36b0 := eq_true c36
                  have c36b1 : decide (0 ≤ (ji35)) = true := decide_eq_true c36
                  clear c36
                  by_cases c37 : (ji35) ≤ (x5_1.length : Int)
                  · rw [if_pos c37] at H
                    have c37b0 := eq_true c37
                    have c37b1 : decide ((ji35) ≤ (x5_1.length : Int)) = true := decide_eq_true c37
                    clear c37
                    obtain ⟨y154, hy154⟩ : ∃ y_ : List Int, y_ = (x5_1.take ((ji35) : Int).toNat) := ⟨_, rfl⟩
                    replace H : (some y154) = some r := by first | (rw [hy154]; with_reducible exact H) | (have H2_ := (Option.bind_some _ _).symm.trans H; rw [hy154]; with_reducible exact H2_) | (have H2_ := (Option.bind_some _ _).symm.trans H; with_reducible exact H2_) | with_reducible exact H | (rw [hy154]; exact H) | exact H
                    have Ny154 := Aside0.mk hy154
                    clear hy154
                    obtain rfl := Option.some.inj H
                    have hcz38_0 : wc.cell? ⟨gb143, 0, none⟩ = some (.int .i64 a1_0) := (blk_cell BK143.out 0).trans rfl
                    have hcz38_1 : wc.cell? ⟨gb143, 1, none⟩ = some (.int .u8 a1_1) := (blk_cell BK143.out 1).trans rfl
                    have hcz38_2 : wc.cell? ⟨gb143, 2, none⟩ = some (.int .i64 a1_2) := (blk_cell BK143.out 2).trans rfl
                    have hcz38_3 : wc.cell? ⟨gb143, 3, none⟩ = some (.int .i64 a1_3) := (blk_cell BK143.out 3).trans rfl
                    have hcz38_4 : wc.cell? ⟨gb143, 4, none⟩ = some (.int .i64 a1_4) := (blk_cell BK143.out 4).trans rfl
                    have hcz38_5 : wc.cell? ⟨gb143, 5, none⟩ = some (.int .i64 a1_5) := (blk_cell BK143.out 5).trans rfl
                    have hcz38_6 : wc.cell? ⟨gb143, 6, none⟩ = some (.int .i64 a1_6) := (blk_cell BK143.out 6).trans rfl
                    have hcz38_7 : wc.cell? ⟨gb143, 7, none⟩ = some (.int .i64 a1_7) := (blk_cell BK143.out 7).trans rfl
                    have hcz38_8 : wc.cell? ⟨gb143, 8, none⟩ = some (.int .i64 a1_8) := (blk_cell BK143.out 8).trans rfl
                    have hcz38_9 : wc.cell? ⟨gb143, 9, none⟩ = some (.int .i64 a1_9) := (blk_cell BK143.out 9).trans rfl
                    have hcz38_10 : wc.cell? ⟨gb143, 10, none⟩ = some (.int .u8 a1_10) := (blk_cell BK143.out 10).trans rfl
                    have hcz38_11 : wc.cell? ⟨gb143, 11, none⟩ = some (.int .u64 a1_11) := (blk_cell BK143.out 11).trans rfl
                    have hcz38_12 : wc.cell? ⟨gb143, 12, none⟩ = some (.int .i64 a1_12) := (blk_cell BK143.out 12).trans rfl
                    have hcz38_13 : wc.cell? ⟨gb143, 13, none⟩ = some (.int .i64 a1_13) := (blk_cell BK143.out 13).trans rfl
                    have hcz38_14 : wc.cell? ⟨gb143, 14, none⟩ = some (.int .i64 a1_14) := (blk_cell BK143.out 14).trans rfl
                    have hfz38_0 := blk_frozen BK143.out 0
                    have hfz38_1 := blk_frozen BK143.out 1
                    have hfz38_2 := blk_frozen BK143.out 2
                    have hfz38_3 := blk_frozen BK143.out 3
                    have hfz38_4 := blk_frozen BK143.out 4
                    have hfz38_5 := blk_frozen BK143.out 5
                    have hfz38_6 := blk_frozen BK143.out 6
                    have hfz38_7 := blk_frozen BK143.out 7
                    have hfz38_8 := blk_frozen BK143.out 8
                    have hfz38_9 := blk_frozen BK143.out 9
                    have hfz38_10 := blk_frozen BK143.out 10
                    have hfz38_11 := blk_frozen BK143.out 11
                    have hfz38_12 := blk_frozen BK143.out 12
                    have hfz38_13 := blk_frozen BK143.out 13
                    have hfz38_14 := blk_frozen BK143.out 14
                    obtain ⟨Ao39, co39, eo39⟩ := Kd.R_slice HO_5.out
                    subst eo39
                    have q40 : ((ji35) : Int) ≤ ((x5_1.length : Int) : Int) := of_decide_eq_true (by first | (with_reducible assumption) | assumption)
                    obtain ⟨i040, hi040, _, hsz40, _⟩ := info_parts info3
                    have hcut40 := cut_to (P := Try.prog) 91 3 .i64 Try.underlying91 hi040 Ao39 x5_1.length co39 (ji35) (of_decide_eq_true (by first | (with_reducible assumption) | assumption)) q40 (Kd.R_reads' HO_5.out).2.1
                    have hr40 := Kd.R_take (m := ((ji35) : Int).toNat) HO_5.out (by omega)
                    have hy40 : y154.length = ((ji35) : Int).toNat := (by rw [Ny154.out, List.length_take]; omega)
                    rw [← Ny154.out] at hr40
                    rw [← hy40] at hr40 hcut40
                    clear hy40 hi040 hsz40 HO_5
                    have HO156 := Aside0.mk hr40
                    clear hr40
                    replace q40 := eq_true q40
                    go_wp2
                    repeat (go_quiet (fail); try go_wp2)
                    go_ret
                    exact ⟨_, by first | rfl | (simp [errW_none, errW_some] <;> rfl) | (simp only [← hji35]; first | rfl | (simp [errW_none, errW_some] <;> rfl)) | (simp [*, errW_none, errW_some] <;> rfl), by (with_reducible repeat (first | apply Kd.R_alloc | apply Kd.R_drewN | apply Kd.R_drew)); exact HO156.out, by repeat (first | (with_reducible first | exact HB.out | apply below_alloc | apply pw_below_drewN | apply below_drew1 | refine below_set ?_ GE143.out) | exact HB.out)⟩
                  · rw [if_neg c37] at H
                    exact absurd H (by simp)
                · rw [if_neg c36] at H
                  exact absurd H (by simp)
              · rw [if_neg c34] at H
                have c34b0 : decide (0 ≤ a1_6) = false := decide_eq_false c34
                clear c34
                obtain rfl := Option.some.inj H
                have hcz41_0 : wc.cell? ⟨gb143, 0, none⟩ = some (.int .i64 a1_0) := (blk_cell BK143.out 0).trans rfl
                have hcz41_1 : wc.cell? ⟨gb143, 1, none⟩ = some (.int .u8 a1_1) := (blk_cell BK143.out 1).trans rfl
                have hcz41_2 : wc.cell? ⟨gb143, 2, none⟩ = some (.int .i64 a1_2) := (blk_cell BK143.out 2).trans rfl
                have hcz41_3 : wc.cell? ⟨gb143, 3, none⟩ = some (.int .i64 a1_3) := (blk_cell BK143.out 3).trans rfl
                have hcz41_4 : wc.cell? ⟨gb143, 4, none⟩ = some (.int .i64 a1_4) := (blk_cell BK143.out 4).trans rfl
                have hcz41_5 : wc.cell? ⟨gb143, 5, none⟩ = some (.int .i64 a1_5) := (blk_cell BK143.out 5).trans rfl
                have hcz41_6 : wc.cell? ⟨gb143, 6, none⟩ = some (.int .i64 a1_6) := (blk_cell BK143.out 6).trans rfl
                have hcz41_7 : wc.cell? ⟨gb143, 7, none⟩ = some (.int .i64 a1_7) := (blk_cell BK143.out 7).trans rfl
                have hcz41_8 : wc.cell? ⟨gb143, 8, none⟩ = some (.int .i64 a1_8) := (blk_cell BK143.out 8).trans rfl
                have hcz41_9 : wc.cell? ⟨gb143, 9, none⟩ = some (.int .i64 a1_9) := (blk_cell BK143.out 9).trans rfl
                have hcz41_10 : wc.cell? ⟨gb143, 10, none⟩ = some (.int .u8 a1_10) := (blk_cell BK143.out 10).trans rfl
                have hcz41_11 : wc.cell? ⟨gb143, 11, none⟩ = some (.int .u64 a1_11) := (blk_cell BK143.out 11).trans rfl
                have hcz41_12 : wc.cell? ⟨gb143, 12, none⟩ = some (.int .i64 a1_12) := (blk_cell BK143.out 12).trans rfl
                have hcz41_13 : wc.cell? ⟨gb143, 13, none⟩ = some (.int .i64 a1_13) := (blk_cell BK143.out 13).trans rfl
                have hcz41_14 : wc.cell? ⟨gb143, 14, none⟩ = some (.int .i64 a1_14) := (blk_cell BK143.out 14).trans rfl
                have hfz41_0 := blk_frozen BK143.out 0
                have hfz41_1 := blk_frozen BK143.out 1
                have hfz41_2 := blk_frozen BK143.out 2
                have hfz41_3 := blk_frozen BK143.out 3
                have hfz41_4 := blk_frozen BK143.out 4
                have hfz41_5 := blk_frozen BK143.out 5
                have hfz41_6 := blk_frozen BK143.out 6
                have hfz41_7 := blk_frozen BK143.out 7
                have hfz41_8 := blk_frozen BK143.out 8
                have hfz41_9 := blk_frozen BK143.out 9
                have hfz41_10 := blk_frozen BK143.out 10
                have hfz41_11 := blk_frozen BK143.out 11
                have hfz41_12 := blk_frozen BK143.out 12
                have hfz41_13 := blk_frozen BK143.out 13
                have hfz41_14 := blk_frozen BK143.out 14
                go_wp2
                repeat (go_quiet (fail); try go_wp2)
                go_ret
                exact ⟨_, by first | rfl | (simp [errW_none, errW_some] <;> rfl) | (simp [*, errW_none, errW_some] <;> rfl), by (with_reducible repeat (first | apply Kd.R_alloc | apply Kd.R_drewN | apply Kd.R_drew)); exact HO_5.out, by repeat (first | (with_reducible first | exact HB.out | apply below_alloc | apply pw_below_drewN | apply below_drew1 | refine below_set ?_ GE143.out) | exact HB.out)⟩

end Go.Proofs.Yteaihgjjplgalaa.PPaceTells
