-- Printed for PaceTells of this claim, with some functions given by hand (wip/gprint.py).
import Derived.Test.YteaihgjjplgalaaPPaceTellsx0
import Derived.Test.YteaihgjjplgalaaPPaceTellsx1
import Derived.Test.YteaihgjjplgalaaPPaceTellsx2
import Derived.Test.YteaihgjjplgalaaGPaceTells
namespace Go.Proofs.Yteaihgjjplgalaa.PPaceTells
open Go.RowKit Go.Proofs.YteaihgjjplgalaaW.PrintWords Go.Proofs.YteaihgjjplgalaaW.PrintLast Go.Proofs.YteaihgjjplgalaaW.PrintMore
attribute [local go_sem] max2_int min2_int max_two min_two max_three min_three max_four min_four   -- for this text's walks alone
set_option linter.unusedVariables false
set_option linter.unusedSimpArgs false

/-! ### overfallref23_Fair: function 39 -/
mutual
def overfallref23_Fair.l0 : Nat → List (S147) → Int → List (S104) → Int → Int → Option (Int)
  | 0, _, _, _, _, _ => none
  | k + 1, x0, x5, x10, x11, x12 => if x12 < x11 then (if 0 ≤ x12 then (if x12 < (x10.length : Int) then ((overfallref23_Waits.f k x0 ((rd_T104 x10 x12).f0) ((rd_T104 x10 x12).f1.f0) ((rd_T104 x10 x12).f1.f1) ((rd_T104 x10 x12).f1.f2) ((rd_T104 x10 x12).f1.f3) ((rd_T104 x10 x12).f2) ((rd_T104 x10 x12).f3) ((rd_T104 x10 x12).f4) ((rd_T104 x10 x12).f5) ((rd_T104 x10 x12).f6) ((rd_T104 x10 x12).f7.f0) ((rd_T104 x10 x12).f7.f1) ((rd_T104 x10 x12).f7.f2) ((rd_T104 x10 x12).f7.f3) ((rd_T104 x10 x12).f7.f4)).bind fun t159 => (overfallref23_Fair.l1 k x0 x5 x10 x11 x12 t159 (t159.length : Int) 0)) else (none)) else (none)) else (some (wrap64 (x5 + 1)))
def overfallref23_Fair.l1 : Nat → List (S147) → Int → List (S104) → Int → Int → List Int → Int → Int → Option (Int)
  | 0, _, _, _, _, _, _, _, _ => none
  | k + 1, x0, x5, x10, x11, x12, x18, x19, x20 => if x20 < x19 then (if 0 ≤ x20 then (if x20 < (x18.length : Int) then (overfallref23_Fair.l1 k x0 (mx x5 (rd x18 x20)) x10 x11 x12 x18 x19 (wrap64 (x20 + 1))) else (none)) else (none)) else (overfallref23_Fair.l0 k x0 x5 x10 x11 (wrap64 (x12 + 1)))
end
def overfallref23_Fair.f (k : Nat) (l0 : List (S147)) (l1 : List (S104)) : Option (Int) := overfallref23_Fair.l0 k l0 0 l1 (l1.length : Int) 0
theorem overfallref23_Fair.mono_l : ∀ k, (∀ y0 y1 y2 y3 y4, LeO (overfallref23_Fair.l0 k y0 y1 y2 y3 y4) (overfallref23_Fair.l0 (k + 1) y0 y1 y2 y3 y4)) ∧ (∀ y0 y1 y2 y3 y4 y5 y6 y7, LeO (overfallref23_Fair.l1 k y0 y1 y2 y3 y4 y5 y6 y7) (overfallref23_Fair.l1 (k + 1) y0 y1 y2 y3 y4 y5 y6 y7))
  | 0 => ⟨fun _ _ _ _ _ r h => by simp [overfallref23_Fair.l0] at h, fun _ _ _ _ _ _ _ _ r h => by simp [overfallref23_Fair.l1] at h⟩
  | k + 1 => by
    obtain ⟨ih0, ih1⟩ := overfallref23_Fair.mono_l k
    refine ⟨?_, ?_⟩
    · intro y0 y1 y2 y3 y4
      unfold overfallref23_Fair.l0
      repeat' first
      | (with_reducible exact ih0 _ _ _ _ _)
      | (with_reducible exact ih1 _ _ _ _ _ _ _ _)
      | (with_reducible exact overfallref23_Waits.mono _ _ _ _ _ _ _ _ _ _ _ _ _ _ _ _ _)
      | (with_reducible exact LeO.refl _)
      | (with_reducible exact LeO.none _)
      | (with_reducible refine LeO.ite ?_ ?_)
      | (with_reducible refine LeO.bind ?_ (fun _ => ?_))
      | exact ih0 _ _ _ _ _
      | exact ih1 _ _ _ _ _ _ _ _
      | exact overfallref23_Waits.mono _ _ _ _ _ _ _ _ _ _ _ _ _ _ _ _ _
      | exact LeO.none _
      | refine LeO.ite ?_ ?_
      | refine LeO.bind ?_ (fun _ => ?_)
    · intro y0 y1 y2 y3 y4 y5 y6 y7
      unfold overfallref23_Fair.l1
      repeat' first
      | (with_reducible exact ih0 _ _ _ _ _)
      | (with_reducible exact ih1 _ _ _ _ _ _ _ _)
      | (with_reducible exact overfallref23_Waits.mono _ _ _ _ _ _ _ _ _ _ _ _ _ _ _ _ _)
      | (with_reducible exact LeO.refl _)
      | (with_reducible exact LeO.none _)
      | (with_reducible refine LeO.ite ?_ ?_)
      | (with_reducible refine LeO.bind ?_ (fun _ => ?_))
      | exact ih0 _ _ _ _ _
      | exact ih1 _ _ _ _ _ _ _ _
      | exact overfallref23_Waits.mono _ _ _ _ _ _ _ _ _ _ _ _ _ _ _ _ _
      | exact LeO.none _
      | refine LeO.ite ?_ ?_
      | refine LeO.bind ?_ (fun _ => ?_)
theorem overfallref23_Fair.mono : ∀ a0 a1 k, LeO (overfallref23_Fair.f k a0 a1) (overfallref23_Fair.f (k + 1) a0 a1) := by
  intro a0 a1 k
  obtain ⟨ih0, ih1⟩ := overfallref23_Fair.mono_l k
  unfold overfallref23_Fair.f
  repeat' first
      | (with_reducible exact ih0 _ _ _ _ _)
      | (with_reducible exact ih1 _ _ _ _ _ _ _ _)
      | (with_reducible exact overfallref23_Waits.mono _ _ _ _ _ _ _ _ _ _ _ _ _ _ _ _ _)
      | (with_reducible exact LeO.refl _)
      | (with_reducible exact LeO.none _)
      | (with_reducible refine LeO.ite ?_ ?_)
      | (with_reducible refine LeO.bind ?_ (fun _ => ?_))
      | exact ih0 _ _ _ _ _
      | exact ih1 _ _ _ _ _ _ _ _
      | exact overfallref23_Waits.mono _ _ _ _ _ _ _ _ _ _ _ _ _ _ _ _ _
      | exact LeO.none _
      | refine LeO.ite ?_ ?_
      | refine LeO.bind ?_ (fun _ => ?_)
set_option maxHeartbeats 8000000 in
set_option maxRecDepth 100000 in
theorem overfallref23_Fair.calls (k : Nat) (A0 : Option Addr) (c0 : Nat) (l0 : List (S147)) (A1 : Option Addr) (c1 : Nat) (l1 : List (S104)) (r : Int) (w : World) (hr0 : Kd.C k147 w A0 l0.length l0) (hc0 : l0.length ≤ c0) (hr1 : Kd.C k104 w A1 l1.length l1) (hc1 : l1.length ≤ c1) (h : overfallref23_Fair.f k l0 l1 = some r) :
    Calls Try.prog 39 #[.slice A0 l0.length c0, .slice A1 l1.length c1] w fun e w' => e = .returned (.int .i64 r) ∧ Below w.heap.size w w' := by
  have hu104 := Try.underlying104
  have HR0 := Aside0.mk hr0
  have HC0 := Aside0.mk hc0
  clear hr0 hc0
  have HR1 := Aside0.mk hr1
  have HC1 := Aside0.mk hc1
  clear hr1 hc1
  have HB := Aside0.mk (Below.refl w.heap.size w)
  have H : (overfallref23_Fair.l0 k l0 0 l1 (l1.length : Int) 0) = some r := h
  clear h
  have H' := Aside0.mk H
  clear H
  go_enter Try.func39, Try.ntmps39
  go_wp2
  go_loopg [5, 12] k (fun kq v5 v12 w' => ∃ (x5_1 : Int) (x12_1 : Int), v5 = .int .i64 x5_1 ∧ v12 = .int .i64 x12_1 ∧ Aside0 (overfallref23_Fair.l0 kq l0 x5_1 l1 (l1.length : Int) x12_1 = some r) ∧ Aside0 (kq ≤ k) ∧ Aside0 (Below w.heap.size w w'))
  case atStart => exact ⟨(0), (0), (by first | rfl | (simp; done) | (simp [*]; done)), (by first | rfl | (simp; done) | (simp [*]; done)), H', ⟨Nat.le_refl _⟩, ⟨by repeat (first | (with_reducible first | exact HB.out | apply below_alloc | apply pw_below_drewN | apply below_drew1) | exact HB.out)⟩⟩
  case round =>
    clear H'
    try clear c1
    try clear p2
    obtain ⟨x5_1, x12_1, rfl, rfl, HA, HK1, HB⟩ := hrel
    cases gk with
    | zero => exact absurd HA.out (by simp [overfallref23_Fair.l0])
    | succ k1 =>
      have H := HA.out
      clear HA
      simp only [overfallref23_Fair.l0] at H
      by_cases c3 : x12_1 < (l1.length : Int)
      · rw [if_pos c3] at H
        have c3b0 : decide (x12_1 < (l1.length : Int)) = true := decide_eq_true c3
        clear c3
        by_cases c4 : 0 ≤ x12_1
        · rw [if_pos c4] at H
          have c4b0 : decide (0 ≤ x12_1) = true := decide_eq_true c4
          clear c4
          by_cases c5 : x12_1 < (l1.length : Int)
          · rw [if_pos c5] at H
            have c5b0 : decide (x12_1 < (l1.length : Int)) = true := decide_eq_true c5
            clear c5
            replace H := Option.bind_eq_some_iff.mp H
            obtain ⟨t159, A60, H⟩ := H
            replace H : (overfallref23_Fair.l1 k1 l0 x5_1 l1 (l1.length : Int) x12_1 t159 (t159.length : Int) 0) = some r := H
            have A6 := Aside0.mk A60
            clear A60
            have H' := Aside0.mk H
            clear H
            have p157 : 0 ≤ (x12_1 : Int) := of_decide_eq_true (by first | (with_reducible assumption) | assumption)
            have q157 : x12_1 < (l1.length : Int) := of_decide_eq_true (by first | (with_reducible assumption) | assumption)
            obtain ⟨ad157, e157, hx157_0, hx157_1, hx157_2, hx157_3, hx157_4, hx157_5, hx157_6, hx157_7, hx157_8, hx157_9, hx157_10, hx157_11, hx157_12, hx157_13, hx157_14⟩ := at_T104 HR1.out x12_1 p157 q157
            cases e157
            replace hx157_0 := (HB.out.cell (World.block_lt_of_cell? w _ hx157_0)).trans hx157_0
            replace hx157_1 := (HB.out.cell (World.block_lt_of_cell? w _ hx157_1)).trans hx157_1
            replace hx157_2 := (HB.out.cell (World.block_lt_of_cell? w _ hx157_2)).trans hx157_2
            replace hx157_3 := (HB.out.cell (World.block_lt_of_cell? w _ hx157_3)).trans hx157_3
            replace hx157_4 := (HB.out.cell (World.block_lt_of_cell? w _ hx157_4)).trans hx157_4
            replace hx157_5 := (HB.out.cell (World.block_lt_of_cell? w _ hx157_5)).trans hx157_5
            replace hx157_6 := (HB.out.cell (World.block_lt_of_cell? w _ hx157_6)).trans hx157_6
            replace hx157_7 := (HB.out.cell (World.block_lt_of_cell? w _ hx157_7)).trans hx157_7
            replace hx157_8 := (HB.out.cell (World.block_lt_of_cell? w _ hx157_8)).trans hx157_8
            replace hx157_9 := (HB.out.cell (World.block_lt_of_cell? w _ hx157_9)).trans hx157_9
            replace hx157_10 := (HB.out.cell (World.block_lt_of_cell? w _ hx157_10)).trans hx157_10
            replace hx157_11 := (HB.out.cell (World.block_lt_of_cell? w _ hx157_11)).trans hx157_11
            replace hx157_12 := (HB.out.cell (World.block_lt_of_cell? w _ hx157_12)).trans hx157_12
            replace hx157_13 := (HB.out.cell (World.block_lt_of_cell? w _ hx157_13)).trans hx157_13
            replace hx157_14 := (HB.out.cell (World.block_lt_of_cell? w _ hx157_14)).trans hx157_14
            replace p157 := eq_true p157
            replace q157 := eq_true q157
            go_wp2_with (first | ((with_reducible refine gate_dst (N := 7) rfl ?_); refine box_event ?hg (N := 7) ?hd (cs := #[.int .i64 0, .int .u8 0, .int .i64 0, .int .i64 0, .int .i64 0, .int .i64 0, .int .i64 0, .int .i64 0, .int .i64 0, .int .i64 0, .int .u8 0, .int .u64 0, .int .i64 0, .int .i64 0, .int .i64 0]) (t := 104) ?hr ?_; (case hd => rfl); (case hg => rfl); (case hr => first | (go_simp; done) | (go_simp; rfl)); intro gb158 hg w7 hbox hb; have n0_ := Aside0.mk (below_step (by repeat (first | (with_reducible first | exact HB.out | apply below_alloc | apply pw_below_drewN | apply below_drew1) | exact HB.out)) hb); have n1_ := Aside0.mk (hbox); have n2_ := Aside0.mk ((by rw [hg]; exact (below_size (by repeat (first | (with_reducible first | exact HB.out | apply below_alloc | apply pw_below_drewN | apply below_drew1) | exact HB.out))) : w.heap.size ≤ gb158)); have n3_ := Aside0.mk ((by rw [hg]; exact (below_size (by repeat (first | (with_reducible first | exact HB.out | apply below_alloc | apply pw_below_drewN | apply below_drew1) | exact HB.out))) : w.heap.size ≤ gb158)); clear HB; have HB := n0_; have BK158 := n1_; have GW158 := n2_; have GE158 := n3_; clear n0_ n1_ n2_ n3_; clear hb hbox hg; have hcz8_0 : w7.cell? ⟨gb158, 0, none⟩ = some (.int .i64 0) := (blk_cell BK158.out 0).trans rfl; have hcz8_1 : w7.cell? ⟨gb158, 1, none⟩ = some (.int .u8 0) := (blk_cell BK158.out 1).trans rfl; have hcz8_2 : w7.cell? ⟨gb158, 2, none⟩ = some (.int .i64 0) := (blk_cell BK158.out 2).trans rfl; have hcz8_3 : w7.cell? ⟨gb158, 3, none⟩ = some (.int .i64 0) := (blk_cell BK158.out 3).trans rfl; have hcz8_4 : w7.cell? ⟨gb158, 4, none⟩ = some (.int .i64 0) := (blk_cell BK158.out 4).trans rfl; have hcz8_5 : w7.cell? ⟨gb158, 5, none⟩ = some (.int .i64 0) := (blk_cell BK158.out 5).trans rfl; have hcz8_6 : w7.cell? ⟨gb158, 6, none⟩ = some (.int .i64 0) := (blk_cell BK158.out 6).trans rfl; have hcz8_7 : w7.cell? ⟨gb158, 7, none⟩ = some (.int .i64 0) := (blk_cell BK158.out 7).trans rfl; have hcz8_8 : w7.cell? ⟨gb158, 8, none⟩ = some (.int .i64 0) := (blk_cell BK158.out 8).trans rfl; have hcz8_9 : w7.cell? ⟨gb158, 9, none⟩ = some (.int .i64 0) := (blk_cell BK158.out 9).trans rfl; have hcz8_10 : w7.cell? ⟨gb158, 10, none⟩ = some (.int .u8 0) := (blk_cell BK158.out 10).trans rfl; have hcz8_11 : w7.cell? ⟨gb158, 11, none⟩ = some (.int .u64 0) := (blk_cell BK158.out 11).trans rfl; have hcz8_12 : w7.cell? ⟨gb158, 12, none⟩ = some (.int .i64 0) := (blk_cell BK158.out 12).trans rfl; have hcz8_13 : w7.cell? ⟨gb158, 13, none⟩ = some (.int .i64 0) := (blk_cell BK158.out 13).trans rfl; have hcz8_14 : w7.cell? ⟨gb158, 14, none⟩ = some (.int .i64 0) := (blk_cell BK158.out 14).trans rfl; have hfz8_0 := blk_frozen BK158.out 0; have hfz8_1 := blk_frozen BK158.out 1; have hfz8_2 := blk_frozen BK158.out 2; have hfz8_3 := blk_frozen BK158.out 3; have hfz8_4 := blk_frozen BK158.out 4; have hfz8_5 := blk_frozen BK158.out 5; have hfz8_6 := blk_frozen BK158.out 6; have hfz8_7 := blk_frozen BK158.out 7; have hfz8_8 := blk_frozen BK158.out 8; have hfz8_9 := blk_frozen BK158.out 9; have hfz8_10 := blk_frozen BK158.out 10; have hfz8_11 := blk_frozen BK158.out 11; have hfz8_12 := blk_frozen BK158.out 12; have hfz8_13 := blk_frozen BK158.out 13; have hfz8_14 := blk_frozen BK158.out 14) | ((with_reducible refine gate_callee (f := 37) rfl ?_); refine goesL_ (some 18) rfl rfl Try.func37 (by kernel_rfl) rfl #[.slice A0 l0.length c0, .agg #[.int .i64 ((rd_T104 l1 x12_1).f0), .int .u8 ((rd_T104 l1 x12_1).f1.f0), .int .i64 ((rd_T104 l1 x12_1).f1.f1), .int .i64 ((rd_T104 l1 x12_1).f1.f2), .int .i64 ((rd_T104 l1 x12_1).f1.f3), .int .i64 ((rd_T104 l1 x12_1).f2), .int .i64 ((rd_T104 l1 x12_1).f3), .int .i64 ((rd_T104 l1 x12_1).f4), .int .i64 ((rd_T104 l1 x12_1).f5), .int .i64 ((rd_T104 l1 x12_1).f6), .int .u8 ((rd_T104 l1 x12_1).f7.f0), .int .u64 ((rd_T104 l1 x12_1).f7.f1), .int .i64 ((rd_T104 l1 x12_1).f7.f2), .int .i64 ((rd_T104 l1 x12_1).f7.f3), .int .i64 ((rd_T104 l1 x12_1).f7.f4)]] rfl (by (try simp only [List.map_toArray, List.map_cons, List.map_nil]); first | done | rfl | (simp only [List.length_drop, List.length_take]; rfl)) ?_; (with_reducible refine (overfallref23_Waits.calls k1 _ _ l0 ((rd_T104 l1 x12_1).f0) ((rd_T104 l1 x12_1).f1.f0) ((rd_T104 l1 x12_1).f1.f1) ((rd_T104 l1 x12_1).f1.f2) ((rd_T104 l1 x12_1).f1.f3) ((rd_T104 l1 x12_1).f2) ((rd_T104 l1 x12_1).f3) ((rd_T104 l1 x12_1).f4) ((rd_T104 l1 x12_1).f5) ((rd_T104 l1 x12_1).f6) ((rd_T104 l1 x12_1).f7.f0) ((rd_T104 l1 x12_1).f7.f1) ((rd_T104 l1 x12_1).f7.f2) ((rd_T104 l1 x12_1).f7.f3) ((rd_T104 l1 x12_1).f7.f4) t159 _ ?side1 ?side2 A6.out).mono ?_); (case side1 => exact Kd.C_below HR0.out (by repeat (first | (with_reducible first | exact HB.out | apply below_alloc | apply pw_below_drewN | apply below_drew1 | refine below_set ?_ GE158.out) | exact HB.out))); (case side2 => exact HC0.out); rintro e w9 ⟨v160, rfl, ho0, hb⟩; refine ⟨_, rfl, ?_⟩; have n0_ := Aside0.mk (Kd.R_lower ho0 (below_size (by repeat (first | (with_reducible first | exact HB.out | apply below_alloc | apply pw_below_drewN | apply below_drew1 | refine below_set ?_ GE158.out) | exact HB.out)))); have n1_ := Aside0.mk (blk_below (g := gb158) (o := .cells #[.int .i64 ((rd_T104 l1 x12_1).f0), .int .u8 ((rd_T104 l1 x12_1).f1.f0), .int .i64 ((rd_T104 l1 x12_1).f1.f1), .int .i64 ((rd_T104 l1 x12_1).f1.f2), .int .i64 ((rd_T104 l1 x12_1).f1.f3), .int .i64 ((rd_T104 l1 x12_1).f2), .int .i64 ((rd_T104 l1 x12_1).f3), .int .i64 ((rd_T104 l1 x12_1).f4), .int .i64 ((rd_T104 l1 x12_1).f5), .int .i64 ((rd_T104 l1 x12_1).f6), .int .u8 ((rd_T104 l1 x12_1).f7.f0), .int .u64 ((rd_T104 l1 x12_1).f7.f1), .int .i64 ((rd_T104 l1 x12_1).f7.f2), .int .i64 ((rd_T104 l1 x12_1).f7.f3), .int .i64 ((rd_T104 l1 x12_1).f7.f4)] 104 (0, 0)) (by (with_reducible repeat (first | refine blk_drewN ?_ _ | refine blk_drew ?_ | refine blk_alloc ?_ _)); refine blk_put (cs := #[.int .i64 ((rd_T104 l1 x12_1).f0), .int .u8 ((rd_T104 l1 x12_1).f1.f0), .int .i64 ((rd_T104 l1 x12_1).f1.f1), .int .i64 ((rd_T104 l1 x12_1).f1.f2), .int .i64 ((rd_T104 l1 x12_1).f1.f3), .int .i64 ((rd_T104 l1 x12_1).f2), .int .i64 ((rd_T104 l1 x12_1).f3), .int .i64 ((rd_T104 l1 x12_1).f4), .int .i64 ((rd_T104 l1 x12_1).f5), .int .i64 ((rd_T104 l1 x12_1).f6), .int .u8 ((rd_T104 l1 x12_1).f7.f0), .int .u64 ((rd_T104 l1 x12_1).f7.f1), .int .i64 ((rd_T104 l1 x12_1).f7.f2), .int .i64 ((rd_T104 l1 x12_1).f7.f3), .int .i64 0]) ?_ 14 _ rfl; (with_reducible repeat (first | refine blk_drewN ?_ _ | refine blk_drew ?_ | refine blk_alloc ?_ _)); refine blk_put (cs := #[.int .i64 ((rd_T104 l1 x12_1).f0), .int .u8 ((rd_T104 l1 x12_1).f1.f0), .int .i64 ((rd_T104 l1 x12_1).f1.f1), .int .i64 ((rd_T104 l1 x12_1).f1.f2), .int .i64 ((rd_T104 l1 x12_1).f1.f3), .int .i64 ((rd_T104 l1 x12_1).f2), .int .i64 ((rd_T104 l1 x12_1).f3), .int .i64 ((rd_T104 l1 x12_1).f4), .int .i64 ((rd_T104 l1 x12_1).f5), .int .i64 ((rd_T104 l1 x12_1).f6), .int .u8 ((rd_T104 l1 x12_1).f7.f0), .int .u64 ((rd_T104 l1 x12_1).f7.f1), .int .i64 ((rd_T104 l1 x12_1).f7.f2), .int .i64 0, .int .i64 0]) ?_ 13 _ rfl; (with_reducible repeat (first | refine blk_drewN ?_ _ | refine blk_drew ?_ | refine blk_alloc ?_ _)); refine blk_put (cs := #[.int .i64 ((rd_T104 l1 x12_1).f0), .int .u8 ((rd_T104 l1 x12_1).f1.f0), .int .i64 ((rd_T104 l1 x12_1).f1.f1), .int .i64 ((rd_T104 l1 x12_1).f1.f2), .int .i64 ((rd_T104 l1 x12_1).f1.f3), .int .i64 ((rd_T104 l1 x12_1).f2), .int .i64 ((rd_T104 l1 x12_1).f3), .int .i64 ((rd_T104 l1 x12_1).f4), .int .i64 ((rd_T104 l1 x12_1).f5), .int .i64 ((rd_T104 l1 x12_1).f6), .int .u8 ((rd_T104 l1 x12_1).f7.f0), .int .u64 ((rd_T104 l1 x12_1).f7.f1), .int .i64 0, .int .i64 0, .int .i64 0]) ?_ 12 _ rfl; (with_reducible repeat (first | refine blk_drewN ?_ _ | refine blk_drew ?_ | refine blk_alloc ?_ _)); refine blk_put (cs := #[.int .i64 ((rd_T104 l1 x12_1).f0), .int .u8 ((rd_T104 l1 x12_1).f1.f0), .int .i64 ((rd_T104 l1 x12_1).f1.f1), .int .i64 ((rd_T104 l1 x12_1).f1.f2), .int .i64 ((rd_T104 l1 x12_1).f1.f3), .int .i64 ((rd_T104 l1 x12_1).f2), .int .i64 ((rd_T104 l1 x12_1).f3), .int .i64 ((rd_T104 l1 x12_1).f4), .int .i64 ((rd_T104 l1 x12_1).f5), .int .i64 ((rd_T104 l1 x12_1).f6), .int .u8 ((rd_T104 l1 x12_1).f7.f0), .int .u64 0, .int .i64 0, .int .i64 0, .int .i64 0]) ?_ 11 _ rfl; (with_reducible repeat (first | refine blk_drewN ?_ _ | refine blk_drew ?_ | refine blk_alloc ?_ _)); refine blk_put (cs := #[.int .i64 ((rd_T104 l1 x12_1).f0), .int .u8 ((rd_T104 l1 x12_1).f1.f0), .int .i64 ((rd_T104 l1 x12_1).f1.f1), .int .i64 ((rd_T104 l1 x12_1).f1.f2), .int .i64 ((rd_T104 l1 x12_1).f1.f3), .int .i64 ((rd_T104 l1 x12_1).f2), .int .i64 ((rd_T104 l1 x12_1).f3), .int .i64 ((rd_T104 l1 x12_1).f4), .int .i64 ((rd_T104 l1 x12_1).f5), .int .i64 ((rd_T104 l1 x12_1).f6), .int .u8 0, .int .u64 0, .int .i64 0, .int .i64 0, .int .i64 0]) ?_ 10 _ rfl; (with_reducible repeat (first | refine blk_drewN ?_ _ | refine blk_drew ?_ | refine blk_alloc ?_ _)); refine blk_put (cs := #[.int .i64 ((rd_T104 l1 x12_1).f0), .int .u8 ((rd_T104 l1 x12_1).f1.f0), .int .i64 ((rd_T104 l1 x12_1).f1.f1), .int .i64 ((rd_T104 l1 x12_1).f1.f2), .int .i64 ((rd_T104 l1 x12_1).f1.f3), .int .i64 ((rd_T104 l1 x12_1).f2), .int .i64 ((rd_T104 l1 x12_1).f3), .int .i64 ((rd_T104 l1 x12_1).f4), .int .i64 ((rd_T104 l1 x12_1).f5), .int .i64 0, .int .u8 0, .int .u64 0, .int .i64 0, .int .i64 0, .int .i64 0]) ?_ 9 _ rfl; (with_reducible repeat (first | refine blk_drewN ?_ _ | refine blk_drew ?_ | refine blk_alloc ?_ _)); refine blk_put (cs := #[.int .i64 ((rd_T104 l1 x12_1).f0), .int .u8 ((rd_T104 l1 x12_1).f1.f0), .int .i64 ((rd_T104 l1 x12_1).f1.f1), .int .i64 ((rd_T104 l1 x12_1).f1.f2), .int .i64 ((rd_T104 l1 x12_1).f1.f3), .int .i64 ((rd_T104 l1 x12_1).f2), .int .i64 ((rd_T104 l1 x12_1).f3), .int .i64 ((rd_T104 l1 x12_1).f4), .int .i64 0, .int .i64 0, .int .u8 0, .int .u64 0, .int .i64 0, .int .i64 0, .int .i64 0]) ?_ 8 _ rfl; (with_reducible repeat (first | refine blk_drewN ?_ _ | refine blk_drew ?_ | refine blk_alloc ?_ _)); refine blk_put (cs := #[.int .i64 ((rd_T104 l1 x12_1).f0), .int .u8 ((rd_T104 l1 x12_1).f1.f0), .int .i64 ((rd_T104 l1 x12_1).f1.f1), .int .i64 ((rd_T104 l1 x12_1).f1.f2), .int .i64 ((rd_T104 l1 x12_1).f1.f3), .int .i64 ((rd_T104 l1 x12_1).f2), .int .i64 ((rd_T104 l1 x12_1).f3), .int .i64 0, .int .i64 0, .int .i64 0, .int .u8 0, .int .u64 0, .int .i64 0, .int .i64 0, .int .i64 0]) ?_ 7 _ rfl; (with_reducible repeat (first | refine blk_drewN ?_ _ | refine blk_drew ?_ | refine blk_alloc ?_ _)); refine blk_put (cs := #[.int .i64 ((rd_T104 l1 x12_1).f0), .int .u8 ((rd_T104 l1 x12_1).f1.f0), .int .i64 ((rd_T104 l1 x12_1).f1.f1), .int .i64 ((rd_T104 l1 x12_1).f1.f2), .int .i64 ((rd_T104 l1 x12_1).f1.f3), .int .i64 ((rd_T104 l1 x12_1).f2), .int .i64 0, .int .i64 0, .int .i64 0, .int .i64 0, .int .u8 0, .int .u64 0, .int .i64 0, .int .i64 0, .int .i64 0]) ?_ 6 _ rfl; (with_reducible repeat (first | refine blk_drewN ?_ _ | refine blk_drew ?_ | refine blk_alloc ?_ _)); refine blk_put (cs := #[.int .i64 ((rd_T104 l1 x12_1).f0), .int .u8 ((rd_T104 l1 x12_1).f1.f0), .int .i64 ((rd_T104 l1 x12_1).f1.f1), .int .i64 ((rd_T104 l1 x12_1).f1.f2), .int .i64 ((rd_T104 l1 x12_1).f1.f3), .int .i64 0, .int .i64 0, .int .i64 0, .int .i64 0, .int .i64 0, .int .u8 0, .int .u64 0, .int .i64 0, .int .i64 0, .int .i64 0]) ?_ 5 _ rfl; (with_reducible repeat (first | refine blk_drewN ?_ _ | refine blk_drew ?_ | refine blk_alloc ?_ _)); refine blk_put (cs := #[.int .i64 ((rd_T104 l1 x12_1).f0), .int .u8 ((rd_T104 l1 x12_1).f1.f0), .int .i64 ((rd_T104 l1 x12_1).f1.f1), .int .i64 ((rd_T104 l1 x12_1).f1.f2), .int .i64 0, .int .i64 0, .int .i64 0, .int .i64 0, .int .i64 0, .int .i64 0, .int .u8 0, .int .u64 0, .int .i64 0, .int .i64 0, .int .i64 0]) ?_ 4 _ rfl; (with_reducible repeat (first | refine blk_drewN ?_ _ | refine blk_drew ?_ | refine blk_alloc ?_ _)); refine blk_put (cs := #[.int .i64 ((rd_T104 l1 x12_1).f0), .int .u8 ((rd_T104 l1 x12_1).f1.f0), .int .i64 ((rd_T104 l1 x12_1).f1.f1), .int .i64 0, .int .i64 0, .int .i64 0, .int .i64 0, .int .i64 0, .int .i64 0, .int .i64 0, .int .u8 0, .int .u64 0, .int .i64 0, .int .i64 0, .int .i64 0]) ?_ 3 _ rfl; (with_reducible repeat (first | refine blk_drewN ?_ _ | refine blk_drew ?_ | refine blk_alloc ?_ _)); refine blk_put (cs := #[.int .i64 ((rd_T104 l1 x12_1).f0), .int .u8 ((rd_T104 l1 x12_1).f1.f0), .int .i64 0, .int .i64 0, .int .i64 0, .int .i64 0, .int .i64 0, .int .i64 0, .int .i64 0, .int .i64 0, .int .u8 0, .int .u64 0, .int .i64 0, .int .i64 0, .int .i64 0]) ?_ 2 _ rfl; (with_reducible repeat (first | refine blk_drewN ?_ _ | refine blk_drew ?_ | refine blk_alloc ?_ _)); refine blk_put (cs := #[.int .i64 ((rd_T104 l1 x12_1).f0), .int .u8 0, .int .i64 0, .int .i64 0, .int .i64 0, .int .i64 0, .int .i64 0, .int .i64 0, .int .i64 0, .int .i64 0, .int .u8 0, .int .u64 0, .int .i64 0, .int .i64 0, .int .i64 0]) ?_ 1 _ rfl; (with_reducible repeat (first | refine blk_drewN ?_ _ | refine blk_drew ?_ | refine blk_alloc ?_ _)); refine blk_put (cs := #[.int .i64 0, .int .u8 0, .int .i64 0, .int .i64 0, .int .i64 0, .int .i64 0, .int .i64 0, .int .i64 0, .int .i64 0, .int .i64 0, .int .u8 0, .int .u64 0, .int .i64 0, .int .i64 0, .int .i64 0]) ?_ 0 _ rfl; (with_reducible repeat (first | refine blk_drewN ?_ _ | refine blk_drew ?_ | refine blk_alloc ?_ _)); exact BK158.out) hb); have n2_ := Aside0.mk (below_step (by repeat (first | (with_reducible first | exact HB.out | apply below_alloc | apply pw_below_drewN | apply below_drew1 | refine below_set ?_ GE158.out) | exact HB.out)) hb); clear BK158; clear HB; have HO161 := n0_; have BK158 := n1_; have HB := n2_; clear n0_ n1_ n2_; (try clear hb); (try clear hb2); (try clear hk); (try clear hi); (try clear ho0); obtain ⟨Ao10, co10, eo10⟩ := Kd.R_slice HO161.out; subst eo10))
            go_loopg [5, 20] k1 (fun kq v5 v20 w' => ∃ (x5_2 : Int) (x20_2 : Int), v5 = .int .i64 x5_2 ∧ v20 = .int .i64 x20_2 ∧ Aside0 (overfallref23_Fair.l1 kq l0 x5_2 l1 (l1.length : Int) x12_1 t159 (t159.length : Int) x20_2 = some r) ∧ Aside0 (kq ≤ k1) ∧ Aside0 (Kd.R (Kd.int .i64) 3 w' w.heap.size (fun _ => True) (.slice Ao10 t159.length co10) t159) ∧ Aside0 (w'.heap[gb158]? = some (.cells #[.int .i64 ((rd_T104 l1 x12_1).f0), .int .u8 ((rd_T104 l1 x12_1).f1.f0), .int .i64 ((rd_T104 l1 x12_1).f1.f1), .int .i64 ((rd_T104 l1 x12_1).f1.f2), .int .i64 ((rd_T104 l1 x12_1).f1.f3), .int .i64 ((rd_T104 l1 x12_1).f2), .int .i64 ((rd_T104 l1 x12_1).f3), .int .i64 ((rd_T104 l1 x12_1).f4), .int .i64 ((rd_T104 l1 x12_1).f5), .int .i64 ((rd_T104 l1 x12_1).f6), .int .u8 ((rd_T104 l1 x12_1).f7.f0), .int .u64 ((rd_T104 l1 x12_1).f7.f1), .int .i64 ((rd_T104 l1 x12_1).f7.f2), .int .i64 ((rd_T104 l1 x12_1).f7.f3), .int .i64 ((rd_T104 l1 x12_1).f7.f4)] 104 (0, 0))) ∧ Aside0 (Below w.heap.size w w'))
            case atStart => exact ⟨(x5_1), (0), (by first | rfl | (simp; done) | (simp [*]; done)), (by first | rfl | (simp; done) | (simp [*]; done)), H', ⟨Nat.le_refl _⟩, ⟨by (with_reducible repeat (first | apply Kd.R_alloc | apply Kd.R_drewN | apply Kd.R_drew)); exact HO161.out⟩, ⟨by (with_reducible repeat (first | refine blk_drewN ?_ _ | refine blk_drew ?_ | refine blk_alloc ?_ _)); exact BK158.out⟩, ⟨by repeat (first | (with_reducible first | exact HB.out | apply below_alloc | apply pw_below_drewN | apply below_drew1 | refine below_set ?_ GE158.out) | exact HB.out)⟩⟩
            case round =>
              clear H'
              try clear c1
              try clear p1
              try clear q1
              try clear hx1
              try clear p2
              try clear c3
              try clear c3b0
              try clear c4
              try clear c4b0
              try clear c5
              try clear c5b0
              try clear hcz8_0
              try clear hcz8_1
              try clear hcz8_10
              try clear hcz8_11
              try clear hcz8_12
              try clear hcz8_13
              try clear hcz8_14
              try clear hcz8_2
              try clear hcz8_3
              try clear hcz8_4
              try clear hcz8_5
              try clear hcz8_6
              try clear hcz8_7
              try clear hcz8_8
              try clear hcz8_9
              try clear hfz8_0
              try clear hfz8_1
              try clear hfz8_10
              try clear hfz8_11
              try clear hfz8_12
              try clear hfz8_13
              try clear hfz8_14
              try clear hfz8_2
              try clear hfz8_3
              try clear hfz8_4
              try clear hfz8_5
              try clear hfz8_6
              try clear hfz8_7
              try clear hfz8_8
              try clear hfz8_9
              try clear hx157_0
              try clear hx157_1
              try clear hx157_10
              try clear hx157_11
              try clear hx157_12
              try clear hx157_13
              try clear hx157_14
              try clear hx157_2
              try clear hx157_3
              try clear hx157_4
              try clear hx157_5
              try clear hx157_6
              try clear hx157_7
              try clear hx157_8
              try clear hx157_9
              try clear p157
              try clear p2
              try clear q157
              obtain ⟨x5_2, x20_2, rfl, rfl, HA, HK2, HO_18, BK158, HB⟩ := hrel
              cases gk with
              | zero => exact absurd HA.out (by simp [overfallref23_Fair.l1])
              | succ k2 =>
                have H := HA.out
                clear HA
                simp only [overfallref23_Fair.l1] at H
                by_cases c11 : x20_2 < (t159.length : Int)
                · rw [if_pos c11] at H
                  have c11b0 : decide (x20_2 < (t159.length : Int)) = true := decide_eq_true c11
                  clear c11
                  by_cases c12 : 0 ≤ x20_2
                  · rw [if_pos c12] at H
                    have c12b0 : decide (0 ≤ x20_2) = true := decide_eq_true c12
                    clear c12
                    by_cases c13 : x20_2 < (t159.length : Int)
                    · rw [if_pos c13] at H
                      have c13b0 : decide (x20_2 < (t159.length : Int)) = true := decide_eq_true c13
                      clear c13
                      obtain ⟨ji14, hji14⟩ : ∃ j_ : Int, (mx x5_2 (rd t159 x20_2)) = j_ := ⟨_, rfl⟩
                      replace H : (overfallref23_Fair.l1 k2 l0 ji14 l1 (l1.length : Int) x12_1 t159 (t159.length : Int) (wrap64 (x20_2 + 1))) = some r := by first | (rw [hji14] at H; exact H) | (simp only [hji14] at H ⊢; exact H)
                      have hji14_ : (if x5_2 < (rd t159 x20_2) then (rd t159 x20_2) else x5_2) = ji14 := hji14
                      have H' := Aside0.mk H
                      clear H
                      have p162 : 0 ≤ (x20_2 : Int) := of_decide_eq_true (by first | (with_reducible assumption) | assumption)
                      have q162 : x20_2 < (t159.length : Int) := of_decide_eq_true (by first | (with_reducible assumption) | assumption)
                      obtain ⟨ad162, e162, hx162_0⟩ := Kd.at_int (Kd.R_reads' HO_18.out).2.2 x20_2 p162 q162
                      cases e162
                      replace p162 := eq_true p162
                      replace q162 := eq_true q162
                      go_wp2
                      go_roundg k2
                      case measure => have := HK1.out; have := HK2.out; omega
                      case rel => exact ⟨(ji14), (wrap64 (x20_2 + 1)), (by first | rfl | (simp; done) | (simp only [← hji14] <;> (first | rfl | simp)) | (simp [*]; done)), (by first | rfl | (simp; done) | (simp [*]; done)), H', ⟨by have := HK1.out; have := HK2.out; omega⟩, ⟨by (with_reducible repeat (first | apply Kd.R_alloc | apply Kd.R_drewN | apply Kd.R_drew)); exact HO_18.out⟩, ⟨by (with_reducible repeat (first | refine blk_drewN ?_ _ | refine blk_drew ?_ | refine blk_alloc ?_ _)); exact BK158.out⟩, ⟨by repeat (first | (with_reducible first | exact HB.out | apply below_alloc | apply pw_below_drewN | apply below_drew1 | refine below_set ?_ GE158.out) | exact HB.out)⟩⟩
                    · rw [if_neg c13] at H
                      exact absurd H (by simp)
                  · rw [if_neg c12] at H
                    exact absurd H (by simp)
                · rw [if_neg c11] at H
                  have c11b0 : decide (x20_2 < (t159.length : Int)) = false := decide_eq_false c11
                  clear c11
                  have H' := Aside0.mk H
                  clear H
                  go_wp2
                  go_roundg k2
                  case measure => have := HK1.out; have := HK2.out; omega
                  case rel => exact ⟨(x5_2), (wrap64 (x12_1 + 1)), (by first | rfl | (simp; done) | (simp [*]; done)), (by first | rfl | (simp; done) | (simp [*]; done)), H', ⟨by have := HK1.out; have := HK2.out; omega⟩, ⟨by repeat (first | (with_reducible first | exact HB.out | apply below_alloc | apply pw_below_drewN | apply below_drew1 | refine below_set ?_ GE158.out) | exact HB.out)⟩⟩
          · rw [if_neg c5] at H
            exact absurd H (by simp)
        · rw [if_neg c4] at H
          exact absurd H (by simp)
      · rw [if_neg c3] at H
        have c3b0 : decide (x12_1 < (l1.length : Int)) = false := decide_eq_false c3
        clear c3
        obtain rfl := Option.some.inj H
        go_wp2
        go_ret
        exact ⟨by first | rfl | (simp [errW_none, errW_some] <;> rfl) | (simp [*, errW_none, errW_some] <;> rfl), by repeat (first | (with_reducible first | exact HB.out | apply below_alloc | apply pw_below_drewN | apply below_drew1) | exact HB.out)⟩

/-! ### overfallref23_Longest: function 41 -/
mutual
def overfallref23_Longest.l0 : Nat → List (S147) → Int → List (S104) → Int → Int → Option (Int)
  | 0, _, _, _, _, _ => none
  | k + 1, x0, x5, x10, x11, x12 => if x12 < x11 then (if 0 ≤ x12 then (if x12 < (x10.length : Int) then (overfallref23_Longest.l1 k x0 x5 0 x10 x11 x12 (x0.length : Int) 0 ((rd_T104 x10 x12).f0) ((rd_T104 x10 x12).f1.f0) ((rd_T104 x10 x12).f1.f1) ((rd_T104 x10 x12).f1.f2) ((rd_T104 x10 x12).f1.f3) ((rd_T104 x10 x12).f2) ((rd_T104 x10 x12).f3) ((rd_T104 x10 x12).f4) ((rd_T104 x10 x12).f5) ((rd_T104 x10 x12).f6) ((rd_T104 x10 x12).f7.f0) ((rd_T104 x10 x12).f7.f1) ((rd_T104 x10 x12).f7.f2) ((rd_T104 x10 x12).f7.f3) ((rd_T104 x10 x12).f7.f4)) else (none)) else (none)) else (some x5)
def overfallref23_Longest.l1 : Nat → List (S147) → Int → Int → List (S104) → Int → Int → Int → Int → Int → Int → Int → Int → Int → Int → Int → Int → Int → Int → Int → Int → Int → Int → Int → Option (Int)
  | 0, _, _, _, _, _, _, _, _, _, _, _, _, _, _, _, _, _, _, _, _, _, _, _ => none
  | k + 1, x0, x5, x8, x10, x11, x12, x17, x18, x165000, x165001, x165002, x165003, x165004, x165005, x165006, x165007, x165008, x165009, x165010, x165011, x165012, x165013, x165014 => if x18 < x17 then ((overfallref23_in.f x0 x165000 x165001 x165002 x165003 x165004 x165005 x165006 x165007 x165008 x165009 x165010 x165011 x165012 x165013 x165014 x18).bind fun t165 => (if t165 = true then (overfallref23_Longest.l1 k x0 x5 (wrap64 (x8 + 1)) x10 x11 x12 x17 (wrap64 (x18 + 1)) x165000 x165001 x165002 x165003 x165004 x165005 x165006 x165007 x165008 x165009 x165010 x165011 x165012 x165013 x165014) else (overfallref23_Longest.l1 k x0 x5 x8 x10 x11 x12 x17 (wrap64 (x18 + 1)) x165000 x165001 x165002 x165003 x165004 x165005 x165006 x165007 x165008 x165009 x165010 x165011 x165012 x165013 x165014))) else (overfallref23_Longest.l0 k x0 (mx x5 x8) x10 x11 (wrap64 (x12 + 1)))
end
def overfallref23_Longest.f (k : Nat) (l0 : List (S147)) (l1 : List (S104)) : Option (Int) := overfallref23_Longest.l0 k l0 0 l1 (l1.length : Int) 0
theorem overfallref23_Longest.mono_l : ∀ k, (∀ y0 y1 y2 y3 y4, LeO (overfallref23_Longest.l0 k y0 y1 y2 y3 y4) (overfallref23_Longest.l0 (k + 1) y0 y1 y2 y3 y4)) ∧ (∀ y0 y1 y2 y3 y4 y5 y6 y7 y8 y9 y10 y11 y12 y13 y14 y15 y16 y17 y18 y19 y20 y21 y22, LeO (overfallref23_Longest.l1 k y0 y1 y2 y3 y4 y5 y6 y7 y8 y9 y10 y11 y12 y13 y14 y15 y16 y17 y18 y19 y20 y21 y22) (overfallref23_Longest.l1 (k + 1) y0 y1 y2 y3 y4 y5 y6 y7 y8 y9 y10 y11 y12 y13 y14 y15 y16 y17 y18 y19 y20 y21 y22))
  | 0 => ⟨fun _ _ _ _ _ r h => by simp [overfallref23_Longest.l0] at h, fun _ _ _ _ _ _ _ _ _ _ _ _ _ _ _ _ _ _ _ _ _ _ _ r h => by simp [overfallref23_Longest.l1] at h⟩
  | k + 1 => by
    obtain ⟨ih0, ih1⟩ := overfallref23_Longest.mono_l k
    refine ⟨?_, ?_⟩
    · intro y0 y1 y2 y3 y4
      unfold overfallref23_Longest.l0
      repeat' first
      | (with_reducible exact ih0 _ _ _ _ _)
      | (with_reducible exact ih1 _ _ _ _ _ _ _ _ _ _ _ _ _ _ _ _ _ _ _ _ _ _ _)
      | (with_reducible exact LeO.refl _)
      | (with_reducible exact LeO.none _)
      | (with_reducible refine LeO.ite ?_ ?_)
      | (with_reducible refine LeO.bind ?_ (fun _ => ?_))
      | exact ih0 _ _ _ _ _
      | exact ih1 _ _ _ _ _ _ _ _ _ _ _ _ _ _ _ _ _ _ _ _ _ _ _
      | exact LeO.none _
      | refine LeO.ite ?_ ?_
      | refine LeO.bind ?_ (fun _ => ?_)
    · intro y0 y1 y2 y3 y4 y5 y6 y7 y8 y9 y10 y11 y12 y13 y14 y15 y16 y17 y18 y19 y20 y21 y22
      unfold overfallref23_Longest.l1
      repeat' first
      | (with_reducible exact ih0 _ _ _ _ _)
      | (with_reducible exact ih1 _ _ _ _ _ _ _ _ _ _ _ _ _ _ _ _ _ _ _ _ _ _ _)
      | (with_reducible exact LeO.refl _)
      | (with_reducible exact LeO.none _)
      | (with_reducible refine LeO.ite ?_ ?_)
      | (with_reducible refine LeO.bind ?_ (fun _ => ?_))
      | exact ih0 _ _ _ _ _
      | exact ih1 _ _ _ _ _ _ _ _ _ _ _ _ _ _ _ _ _ _ _ _ _ _ _
      | exact LeO.none _
      | refine LeO.ite ?_ ?_
      | refine LeO.bind ?_ (fun _ => ?_)
theorem overfallref23_Longest.mono : ∀ a0 a1 k, LeO (overfallref23_Longest.f k a0 a1) (overfallref23_Longest.f (k + 1) a0 a1) := by
  intro a0 a1 k
  obtain ⟨ih0, ih1⟩ := overfallref23_Longest.mono_l k
  unfold overfallref23_Longest.f
  repeat' first
      | (with_reducible exact ih0 _ _ _ _ _)
      | (with_reducible exact ih1 _ _ _ _ _ _ _ _ _ _ _ _ _ _ _ _ _ _ _ _ _ _ _)
      | (with_reducible exact LeO.refl _)
      | (with_reducible exact LeO.none _)
      | (with_reducible refine LeO.ite ?_ ?_)
      | (with_reducible refine LeO.bind ?_ (fun _ => ?_))
      | exact ih0 _ _ _ _ _
      | exact ih1 _ _ _ _ _ _ _ _ _ _ _ _ _ _ _ _ _ _ _ _ _ _ _
      | exact LeO.none _
      | refine LeO.ite ?_ ?_
      | refine LeO.bind ?_ (fun _ => ?_)
set_option maxHeartbeats 8000000 in
set_option maxRecDepth 100000 in
theorem overfallref23_Longest.calls (k : Nat) (A0 : Option Addr) (c0 : Nat) (l0 : List (S147)) (A1 : Option Addr) (c1 : Nat) (l1 : List (S104)) (r : Int) (w : World) (hr0 : Kd.C k147 w A0 l0.length l0) (hc0 : l0.length ≤ c0) (hr1 : Kd.C k104 w A1 l1.length l1) (hc1 : l1.length ≤ c1) (h : overfallref23_Longest.f k l0 l1 = some r) :
    Calls Try.prog 41 #[.slice A0 l0.length c0, .slice A1 l1.length c1] w fun e w' => e = .returned (.int .i64 r) ∧ Below w.heap.size w w' := by
  have hu104 := Try.underlying104
  have HR0 := Aside0.mk hr0
  have HC0 := Aside0.mk hc0
  clear hr0 hc0
  have HR1 := Aside0.mk hr1
  have HC1 := Aside0.mk hc1
  clear hr1 hc1
  have HB := Aside0.mk (Below.refl w.heap.size w)
  have H : (overfallref23_Longest.l0 k l0 0 l1 (l1.length : Int) 0) = some r := h
  clear h
  have H' := Aside0.mk H
  clear H
  go_enter Try.func41, Try.ntmps41
  go_wp2
  go_loopg [5, 12] k (fun kq v5 v12 w' => ∃ (x5_1 : Int) (x12_1 : Int), v5 = .int .i64 x5_1 ∧ v12 = .int .i64 x12_1 ∧ Aside0 (overfallref23_Longest.l0 kq l0 x5_1 l1 (l1.length : Int) x12_1 = some r) ∧ Aside0 (kq ≤ k) ∧ Aside0 (Below w.heap.size w w'))
  case atStart => exact ⟨(0), (0), (by first | rfl | (simp; done) | (simp [*]; done)), (by first | rfl | (simp; done) | (simp [*]; done)), H', ⟨Nat.le_refl _⟩, ⟨by repeat (first | (with_reducible first | exact HB.out | apply below_alloc | apply pw_below_drewN | apply below_drew1) | exact HB.out)⟩⟩
  case round =>
    clear H'
    try clear c1
    try clear p2
    obtain ⟨x5_1, x12_1, rfl, rfl, HA, HK1, HB⟩ := hrel
    cases gk with
    | zero => exact absurd HA.out (by simp [overfallref23_Longest.l0])
    | succ k1 =>
      have H := HA.out
      clear HA
      simp only [overfallref23_Longest.l0] at H
      by_cases c3 : x12_1 < (l1.length : Int)
      · rw [if_pos c3] at H
        have c3b0 : decide (x12_1 < (l1.length : Int)) = true := decide_eq_true c3
        clear c3
        by_cases c4 : 0 ≤ x12_1
        · rw [if_pos c4] at H
          have c4b0 : decide (0 ≤ x12_1) = true := decide_eq_true c4
          clear c4
          by_cases c5 : x12_1 < (l1.length : Int)
          · rw [if_pos c5] at H
            have c5b0 : decide (x12_1 < (l1.length : Int)) = true := decide_eq_true c5
            clear c5
            have H' := Aside0.mk H
            clear H
            have p163 : 0 ≤ (x12_1 : Int) := of_decide_eq_true (by first | (with_reducible assumption) | assumption)
            have q163 : x12_1 < (l1.length : Int) := of_decide_eq_true (by first | (with_reducible assumption) | assumption)
            obtain ⟨ad163, e163, hx163_0, hx163_1, hx163_2, hx163_3, hx163_4, hx163_5, hx163_6, hx163_7, hx163_8, hx163_9, hx163_10, hx163_11, hx163_12, hx163_13, hx163_14⟩ := at_T104 HR1.out x12_1 p163 q163
            cases e163
            replace hx163_0 := (HB.out.cell (World.block_lt_of_cell? w _ hx163_0)).trans hx163_0
            replace hx163_1 := (HB.out.cell (World.block_lt_of_cell? w _ hx163_1)).trans hx163_1
            replace hx163_2 := (HB.out.cell (World.block_lt_of_cell? w _ hx163_2)).trans hx163_2
            replace hx163_3 := (HB.out.cell (World.block_lt_of_cell? w _ hx163_3)).trans hx163_3
            replace hx163_4 := (HB.out.cell (World.block_lt_of_cell? w _ hx163_4)).trans hx163_4
            replace hx163_5 := (HB.out.cell (World.block_lt_of_cell? w _ hx163_5)).trans hx163_5
            replace hx163_6 := (HB.out.cell (World.block_lt_of_cell? w _ hx163_6)).trans hx163_6
            replace hx163_7 := (HB.out.cell (World.block_lt_of_cell? w _ hx163_7)).trans hx163_7
            replace hx163_8 := (HB.out.cell (World.block_lt_of_cell? w _ hx163_8)).trans hx163_8
            replace hx163_9 := (HB.out.cell (World.block_lt_of_cell? w _ hx163_9)).trans hx163_9
            replace hx163_10 := (HB.out.cell (World.block_lt_of_cell? w _ hx163_10)).trans hx163_10
            replace hx163_11 := (HB.out.cell (World.block_lt_of_cell? w _ hx163_11)).trans hx163_11
            replace hx163_12 := (HB.out.cell (World.block_lt_of_cell? w _ hx163_12)).trans hx163_12
            replace hx163_13 := (HB.out.cell (World.block_lt_of_cell? w _ hx163_13)).trans hx163_13
            replace hx163_14 := (HB.out.cell (World.block_lt_of_cell? w _ hx163_14)).trans hx163_14
            replace p163 := eq_true p163
            replace q163 := eq_true q163
            go_wp2_with (first | ((with_reducible refine gate_dst (N := 7) rfl ?_); refine box_event ?hg (N := 7) ?hd (cs := #[.int .i64 0, .int .u8 0, .int .i64 0, .int .i64 0, .int .i64 0, .int .i64 0, .int .i64 0, .int .i64 0, .int .i64 0, .int .i64 0, .int .u8 0, .int .u64 0, .int .i64 0, .int .i64 0, .int .i64 0]) (t := 104) ?hr ?_; (case hd => rfl); (case hg => rfl); (case hr => first | (go_simp; done) | (go_simp; rfl)); intro gb164 hg w6 hbox hb; have n0_ := Aside0.mk (below_step (by repeat (first | (with_reducible first | exact HB.out | apply below_alloc | apply pw_below_drewN | apply below_drew1) | exact HB.out)) hb); have n1_ := Aside0.mk (hbox); have n2_ := Aside0.mk ((by rw [hg]; exact (below_size (by repeat (first | (with_reducible first | exact HB.out | apply below_alloc | apply pw_below_drewN | apply below_drew1) | exact HB.out))) : w.heap.size ≤ gb164)); have n3_ := Aside0.mk ((by rw [hg]; exact (below_size (by repeat (first | (with_reducible first | exact HB.out | apply below_alloc | apply pw_below_drewN | apply below_drew1) | exact HB.out))) : w.heap.size ≤ gb164)); clear HB; have HB := n0_; have BK164 := n1_; have GW164 := n2_; have GE164 := n3_; clear n0_ n1_ n2_ n3_; clear hb hbox hg; have hcz7_0 : w6.cell? ⟨gb164, 0, none⟩ = some (.int .i64 0) := (blk_cell BK164.out 0).trans rfl; have hcz7_1 : w6.cell? ⟨gb164, 1, none⟩ = some (.int .u8 0) := (blk_cell BK164.out 1).trans rfl; have hcz7_2 : w6.cell? ⟨gb164, 2, none⟩ = some (.int .i64 0) := (blk_cell BK164.out 2).trans rfl; have hcz7_3 : w6.cell? ⟨gb164, 3, none⟩ = some (.int .i64 0) := (blk_cell BK164.out 3).trans rfl; have hcz7_4 : w6.cell? ⟨gb164, 4, none⟩ = some (.int .i64 0) := (blk_cell BK164.out 4).trans rfl; have hcz7_5 : w6.cell? ⟨gb164, 5, none⟩ = some (.int .i64 0) := (blk_cell BK164.out 5).trans rfl; have hcz7_6 : w6.cell? ⟨gb164, 6, none⟩ = some (.int .i64 0) := (blk_cell BK164.out 6).trans rfl; have hcz7_7 : w6.cell? ⟨gb164, 7, none⟩ = some (.int .i64 0) := (blk_cell BK164.out 7).trans rfl; have hcz7_8 : w6.cell? ⟨gb164, 8, none⟩ = some (.int .i64 0) := (blk_cell BK164.out 8).trans rfl; have hcz7_9 : w6.cell? ⟨gb164, 9, none⟩ = some (.int .i64 0) := (blk_cell BK164.out 9).trans rfl; have hcz7_10 : w6.cell? ⟨gb164, 10, none⟩ = some (.int .u8 0) := (blk_cell BK164.out 10).trans rfl; have hcz7_11 : w6.cell? ⟨gb164, 11, none⟩ = some (.int .u64 0) := (blk_cell BK164.out 11).trans rfl; have hcz7_12 : w6.cell? ⟨gb164, 12, none⟩ = some (.int .i64 0) := (blk_cell BK164.out 12).trans rfl; have hcz7_13 : w6.cell? ⟨gb164, 13, none⟩ = some (.int .i64 0) := (blk_cell BK164.out 13).trans rfl; have hcz7_14 : w6.cell? ⟨gb164, 14, none⟩ = some (.int .i64 0) := (blk_cell BK164.out 14).trans rfl; have hfz7_0 := blk_frozen BK164.out 0; have hfz7_1 := blk_frozen BK164.out 1; have hfz7_2 := blk_frozen BK164.out 2; have hfz7_3 := blk_frozen BK164.out 3; have hfz7_4 := blk_frozen BK164.out 4; have hfz7_5 := blk_frozen BK164.out 5; have hfz7_6 := blk_frozen BK164.out 6; have hfz7_7 := blk_frozen BK164.out 7; have hfz7_8 := blk_frozen BK164.out 8; have hfz7_9 := blk_frozen BK164.out 9; have hfz7_10 := blk_frozen BK164.out 10; have hfz7_11 := blk_frozen BK164.out 11; have hfz7_12 := blk_frozen BK164.out 12; have hfz7_13 := blk_frozen BK164.out 13; have hfz7_14 := blk_frozen BK164.out 14))
            go_loopg [8, 18] k1 (fun kq v8 v18 w' => ∃ (x8_2 : Int) (x18_2 : Int), v8 = .int .i64 x8_2 ∧ v18 = .int .i64 x18_2 ∧ Aside0 (overfallref23_Longest.l1 kq l0 x5_1 x8_2 l1 (l1.length : Int) x12_1 (l0.length : Int) x18_2 ((rd_T104 l1 x12_1).f0) ((rd_T104 l1 x12_1).f1.f0) ((rd_T104 l1 x12_1).f1.f1) ((rd_T104 l1 x12_1).f1.f2) ((rd_T104 l1 x12_1).f1.f3) ((rd_T104 l1 x12_1).f2) ((rd_T104 l1 x12_1).f3) ((rd_T104 l1 x12_1).f4) ((rd_T104 l1 x12_1).f5) ((rd_T104 l1 x12_1).f6) ((rd_T104 l1 x12_1).f7.f0) ((rd_T104 l1 x12_1).f7.f1) ((rd_T104 l1 x12_1).f7.f2) ((rd_T104 l1 x12_1).f7.f3) ((rd_T104 l1 x12_1).f7.f4) = some r) ∧ Aside0 (kq ≤ k1) ∧ Aside0 (w'.heap[gb164]? = some (.cells #[.int .i64 ((rd_T104 l1 x12_1).f0), .int .u8 ((rd_T104 l1 x12_1).f1.f0), .int .i64 ((rd_T104 l1 x12_1).f1.f1), .int .i64 ((rd_T104 l1 x12_1).f1.f2), .int .i64 ((rd_T104 l1 x12_1).f1.f3), .int .i64 ((rd_T104 l1 x12_1).f2), .int .i64 ((rd_T104 l1 x12_1).f3), .int .i64 ((rd_T104 l1 x12_1).f4), .int .i64 ((rd_T104 l1 x12_1).f5), .int .i64 ((rd_T104 l1 x12_1).f6), .int .u8 ((rd_T104 l1 x12_1).f7.f0), .int .u64 ((rd_T104 l1 x12_1).f7.f1), .int .i64 ((rd_T104 l1 x12_1).f7.f2), .int .i64 ((rd_T104 l1 x12_1).f7.f3), .int .i64 ((rd_T104 l1 x12_1).f7.f4)] 104 (0, 0))) ∧ Aside0 (Below w.heap.size w w'))
            case atStart => exact ⟨(0), (0), (by first | rfl | (simp; done) | (simp [*]; done)), (by first | rfl | (simp; done) | (simp [*]; done)), H', ⟨Nat.le_refl _⟩, ⟨by (with_reducible repeat (first | refine blk_drewN ?_ _ | refine blk_drew ?_ | refine blk_alloc ?_ _)); refine blk_put (cs := #[.int .i64 ((rd_T104 l1 x12_1).f0), .int .u8 ((rd_T104 l1 x12_1).f1.f0), .int .i64 ((rd_T104 l1 x12_1).f1.f1), .int .i64 ((rd_T104 l1 x12_1).f1.f2), .int .i64 ((rd_T104 l1 x12_1).f1.f3), .int .i64 ((rd_T104 l1 x12_1).f2), .int .i64 ((rd_T104 l1 x12_1).f3), .int .i64 ((rd_T104 l1 x12_1).f4), .int .i64 ((rd_T104 l1 x12_1).f5), .int .i64 ((rd_T104 l1 x12_1).f6), .int .u8 ((rd_T104 l1 x12_1).f7.f0), .int .u64 ((rd_T104 l1 x12_1).f7.f1), .int .i64 ((rd_T104 l1 x12_1).f7.f2), .int .i64 ((rd_T104 l1 x12_1).f7.f3), .int .i64 0]) ?_ 14 _ rfl; (with_reducible repeat (first | refine blk_drewN ?_ _ | refine blk_drew ?_ | refine blk_alloc ?_ _)); refine blk_put (cs := #[.int .i64 ((rd_T104 l1 x12_1).f0), .int .u8 ((rd_T104 l1 x12_1).f1.f0), .int .i64 ((rd_T104 l1 x12_1).f1.f1), .int .i64 ((rd_T104 l1 x12_1).f1.f2), .int .i64 ((rd_T104 l1 x12_1).f1.f3), .int .i64 ((rd_T104 l1 x12_1).f2), .int .i64 ((rd_T104 l1 x12_1).f3), .int .i64 ((rd_T104 l1 x12_1).f4), .int .i64 ((rd_T104 l1 x12_1).f5), .int .i64 ((rd_T104 l1 x12_1).f6), .int .u8 ((rd_T104 l1 x12_1).f7.f0), .int .u64 ((rd_T104 l1 x12_1).f7.f1), .int .i64 ((rd_T104 l1 x12_1).f7.f2), .int .i64 0, .int .i64 0]) ?_ 13 _ rfl; (with_reducible repeat (first | refine blk_drewN ?_ _ | refine blk_drew ?_ | refine blk_alloc ?_ _)); refine blk_put (cs := #[.int .i64 ((rd_T104 l1 x12_1).f0), .int .u8 ((rd_T104 l1 x12_1).f1.f0), .int .i64 ((rd_T104 l1 x12_1).f1.f1), .int .i64 ((rd_T104 l1 x12_1).f1.f2), .int .i64 ((rd_T104 l1 x12_1).f1.f3), .int .i64 ((rd_T104 l1 x12_1).f2), .int .i64 ((rd_T104 l1 x12_1).f3), .int .i64 ((rd_T104 l1 x12_1).f4), .int .i64 ((rd_T104 l1 x12_1).f5), .int .i64 ((rd_T104 l1 x12_1).f6), .int .u8 ((rd_T104 l1 x12_1).f7.f0), .int .u64 ((rd_T104 l1 x12_1).f7.f1), .int .i64 0, .int .i64 0, .int .i64 0]) ?_ 12 _ rfl; (with_reducible repeat (first | refine blk_drewN ?_ _ | refine blk_drew ?_ | refine blk_alloc ?_ _)); refine blk_put (cs := #[.int .i64 ((rd_T104 l1 x12_1).f0), .int .u8 ((rd_T104 l1 x12_1).f1.f0), .int .i64 ((rd_T104 l1 x12_1).f1.f1), .int .i64 ((rd_T104 l1 x12_1).f1.f2), .int .i64 ((rd_T104 l1 x12_1).f1.f3), .int .i64 ((rd_T104 l1 x12_1).f2), .int .i64 ((rd_T104 l1 x12_1).f3), .int .i64 ((rd_T104 l1 x12_1).f4), .int .i64 ((rd_T104 l1 x12_1).f5), .int .i64 ((rd_T104 l1 x12_1).f6), .int .u8 ((rd_T104 l1 x12_1).f7.f0), .int .u64 0, .int .i64 0, .int .i64 0, .int .i64 0]) ?_ 11 _ rfl; (with_reducible repeat (first | refine blk_drewN ?_ _ | refine blk_drew ?_ | refine blk_alloc ?_ _)); refine blk_put (cs := #[.int .i64 ((rd_T104 l1 x12_1).f0), .int .u8 ((rd_T104 l1 x12_1).f1.f0), .int .i64 ((rd_T104 l1 x12_1).f1.f1), .int .i64 ((rd_T104 l1 x12_1).f1.f2), .int .i64 ((rd_T104 l1 x12_1).f1.f3), .int .i64 ((rd_T104 l1 x12_1).f2), .int .i64 ((rd_T104 l1 x12_1).f3), .int .i64 ((rd_T104 l1 x12_1).f4), .int .i64 ((rd_T104 l1 x12_1).f5), .int .i64 ((rd_T104 l1 x12_1).f6), .int .u8 0, .int .u64 0, .int .i64 0, .int .i64 0, .int .i64 0]) ?_ 10 _ rfl; (with_reducible repeat (first | refine blk_drewN ?_ _ | refine blk_drew ?_ | refine blk_alloc ?_ _)); refine blk_put (cs := #[.int .i64 ((rd_T104 l1 x12_1).f0), .int .u8 ((rd_T104 l1 x12_1).f1.f0), .int .i64 ((rd_T104 l1 x12_1).f1.f1), .int .i64 ((rd_T104 l1 x12_1).f1.f2), .int .i64 ((rd_T104 l1 x12_1).f1.f3), .int .i64 ((rd_T104 l1 x12_1).f2), .int .i64 ((rd_T104 l1 x12_1).f3), .int .i64 ((rd_T104 l1 x12_1).f4), .int .i64 ((rd_T104 l1 x12_1).f5), .int .i64 0, .int .u8 0, .int .u64 0, .int .i64 0, .int .i64 0, .int .i64 0]) ?_ 9 _ rfl; (with_reducible repeat (first | refine blk_drewN ?_ _ | refine blk_drew ?_ | refine blk_alloc ?_ _)); refine blk_put (cs := #[.int .i64 ((rd_T104 l1 x12_1).f0), .int .u8 ((rd_T104 l1 x12_1).f1.f0), .int .i64 ((rd_T104 l1 x12_1).f1.f1), .int .i64 ((rd_T104 l1 x12_1).f1.f2), .int .i64 ((rd_T104 l1 x12_1).f1.f3), .int .i64 ((rd_T104 l1 x12_1).f2), .int .i64 ((rd_T104 l1 x12_1).f3), .int .i64 ((rd_T104 l1 x12_1).f4), .int .i64 0, .int .i64 0, .int .u8 0, .int .u64 0, .int .i64 0, .int .i64 0, .int .i64 0]) ?_ 8 _ rfl; (with_reducible repeat (first | refine blk_drewN ?_ _ | refine blk_drew ?_ | refine blk_alloc ?_ _)); refine blk_put (cs := #[.int .i64 ((rd_T104 l1 x12_1).f0), .int .u8 ((rd_T104 l1 x12_1).f1.f0), .int .i64 ((rd_T104 l1 x12_1).f1.f1), .int .i64 ((rd_T104 l1 x12_1).f1.f2), .int .i64 ((rd_T104 l1 x12_1).f1.f3), .int .i64 ((rd_T104 l1 x12_1).f2), .int .i64 ((rd_T104 l1 x12_1).f3), .int .i64 0, .int .i64 0, .int .i64 0, .int .u8 0, .int .u64 0, .int .i64 0, .int .i64 0, .int .i64 0]) ?_ 7 _ rfl; (with_reducible repeat (first | refine blk_drewN ?_ _ | refine blk_drew ?_ | refine blk_alloc ?_ _)); refine blk_put (cs := #[.int .i64 ((rd_T104 l1 x12_1).f0), .int .u8 ((rd_T104 l1 x12_1).f1.f0), .int .i64 ((rd_T104 l1 x12_1).f1.f1), .int .i64 ((rd_T104 l1 x12_1).f1.f2), .int .i64 ((rd_T104 l1 x12_1).f1.f3), .int .i64 ((rd_T104 l1 x12_1).f2), .int .i64 0, .int .i64 0, .int .i64 0, .int .i64 0, .int .u8 0, .int .u64 0, .int .i64 0, .int .i64 0, .int .i64 0]) ?_ 6 _ rfl; (with_reducible repeat (first | refine blk_drewN ?_ _ | refine blk_drew ?_ | refine blk_alloc ?_ _)); refine blk_put (cs := #[.int .i64 ((rd_T104 l1 x12_1).f0), .int .u8 ((rd_T104 l1 x12_1).f1.f0), .int .i64 ((rd_T104 l1 x12_1).f1.f1), .int .i64 ((rd_T104 l1 x12_1).f1.f2), .int .i64 ((rd_T104 l1 x12_1).f1.f3), .int .i64 0, .int .i64 0, .int .i64 0, .int .i64 0, .int .i64 0, .int .u8 0, .int .u64 0, .int .i64 0, .int .i64 0, .int .i64 0]) ?_ 5 _ rfl; (with_reducible repeat (first | refine blk_drewN ?_ _ | refine blk_drew ?_ | refine blk_alloc ?_ _)); refine blk_put (cs := #[.int .i64 ((rd_T104 l1 x12_1).f0), .int .u8 ((rd_T104 l1 x12_1).f1.f0), .int .i64 ((rd_T104 l1 x12_1).f1.f1), .int .i64 ((rd_T104 l1 x12_1).f1.f2), .int .i64 0, .int .i64 0, .int .i64 0, .int .i64 0, .int .i64 0, .int .i64 0, .int .u8 0, .int .u64 0, .int .i64 0, .int .i64 0, .int .i64 0]) ?_ 4 _ rfl; (with_reducible repeat (first | refine blk_drewN ?_ _ | refine blk_drew ?_ | refine blk_alloc ?_ _)); refine blk_put (cs := #[.int .i64 ((rd_T104 l1 x12_1).f0), .int .u8 ((rd_T104 l1 x12_1).f1.f0), .int .i64 ((rd_T104 l1 x12_1).f1.f1), .int .i64 0, .int .i64 0, .int .i64 0, .int .i64 0, .int .i64 0, .int .i64 0, .int .i64 0, .int .u8 0, .int .u64 0, .int .i64 0, .int .i64 0, .int .i64 0]) ?_ 3 _ rfl; (with_reducible repeat (first | refine blk_drewN ?_ _ | refine blk_drew ?_ | refine blk_alloc ?_ _)); refine blk_put (cs := #[.int .i64 ((rd_T104 l1 x12_1).f0), .int .u8 ((rd_T104 l1 x12_1).f1.f0), .int .i64 0, .int .i64 0, .int .i64 0, .int .i64 0, .int .i64 0, .int .i64 0, .int .i64 0, .int .i64 0, .int .u8 0, .int .u64 0, .int .i64 0, .int .i64 0, .int .i64 0]) ?_ 2 _ rfl; (with_reducible repeat (first | refine blk_drewN ?_ _ | refine blk_drew ?_ | refine blk_alloc ?_ _)); refine blk_put (cs := #[.int .i64 ((rd_T104 l1 x12_1).f0), .int .u8 0, .int .i64 0, .int .i64 0, .int .i64 0, .int .i64 0, .int .i64 0, .int .i64 0, .int .i64 0, .int .i64 0, .int .u8 0, .int .u64 0, .int .i64 0, .int .i64 0, .int .i64 0]) ?_ 1 _ rfl; (with_reducible repeat (first | refine blk_drewN ?_ _ | refine blk_drew ?_ | refine blk_alloc ?_ _)); refine blk_put (cs := #[.int .i64 0, .int .u8 0, .int .i64 0, .int .i64 0, .int .i64 0, .int .i64 0, .int .i64 0, .int .i64 0, .int .i64 0, .int .i64 0, .int .u8 0, .int .u64 0, .int .i64 0, .int .i64 0, .int .i64 0]) ?_ 0 _ rfl; (with_reducible repeat (first | refine blk_drewN ?_ _ | refine blk_drew ?_ | refine blk_alloc ?_ _)); exact BK164.out⟩, ⟨by repeat (first | (with_reducible first | exact HB.out | apply below_alloc | apply pw_below_drewN | apply below_drew1 | refine below_set ?_ GE164.out) | exact HB.out)⟩⟩
            case round =>
              clear H'
              try clear c1
              try clear p1
              try clear q1
              try clear hx1
              try clear p2
              try clear c3
              try clear c3b0
              try clear c4
              try clear c4b0
              try clear c5
              try clear c5b0
              try clear hcz7_0
              try clear hcz7_1
              try clear hcz7_10
              try clear hcz7_11
              try clear hcz7_12
              try clear hcz7_13
              try clear hcz7_14
              try clear hcz7_2
              try clear hcz7_3
              try clear hcz7_4
              try clear hcz7_5
              try clear hcz7_6
              try clear hcz7_7
              try clear hcz7_8
              try clear hcz7_9
              try clear hfz7_0
              try clear hfz7_1
              try clear hfz7_10
              try clear hfz7_11
              try clear hfz7_12
              try clear hfz7_13
              try clear hfz7_14
              try clear hfz7_2
              try clear hfz7_3
              try clear hfz7_4
              try clear hfz7_5
              try clear hfz7_6
              try clear hfz7_7
              try clear hfz7_8
              try clear hfz7_9
              try clear hx163_0
              try clear hx163_1
              try clear hx163_10
              try clear hx163_11
              try clear hx163_12
              try clear hx163_13
              try clear hx163_14
              try clear hx163_2
              try clear hx163_3
              try clear hx163_4
              try clear hx163_5
              try clear hx163_6
              try clear hx163_7
              try clear hx163_8
              try clear hx163_9
              try clear p163
              try clear p2
              try clear q163
              obtain ⟨x8_2, x18_2, rfl, rfl, HA, HK2, BK164, HB⟩ := hrel
              cases gk with
              | zero => exact absurd HA.out (by simp [overfallref23_Longest.l1])
              | succ k2 =>
                have H := HA.out
                clear HA
                simp only [overfallref23_Longest.l1] at H
                by_cases c8 : x18_2 < (l0.length : Int)
                · rw [if_pos c8] at H
                  have c8b0 : decide (x18_2 < (l0.length : Int)) = true := decide_eq_true c8
                  clear c8
                  replace H := Option.bind_eq_some_iff.mp H
                  obtain ⟨t165, A90, H⟩ := H
                  replace H : (if t165 = true then (overfallref23_Longest.l1 k2 l0 x5_1 (wrap64 (x8_2 + 1)) l1 (l1.length : Int) x12_1 (l0.length : Int) (wrap64 (x18_2 + 1)) ((rd_T104 l1 x12_1).f0) ((rd_T104 l1 x12_1).f1.f0) ((rd_T104 l1 x12_1).f1.f1) ((rd_T104 l1 x12_1).f1.f2) ((rd_T104 l1 x12_1).f1.f3) ((rd_T104 l1 x12_1).f2) ((rd_T104 l1 x12_1).f3) ((rd_T104 l1 x12_1).f4) ((rd_T104 l1 x12_1).f5) ((rd_T104 l1 x12_1).f6) ((rd_T104 l1 x12_1).f7.f0) ((rd_T104 l1 x12_1).f7.f1) ((rd_T104 l1 x12_1).f7.f2) ((rd_T104 l1 x12_1).f7.f3) ((rd_T104 l1 x12_1).f7.f4)) else (overfallref23_Longest.l1 k2 l0 x5_1 x8_2 l1 (l1.length : Int) x12_1 (l0.length : Int) (wrap64 (x18_2 + 1)) ((rd_T104 l1 x12_1).f0) ((rd_T104 l1 x12_1).f1.f0) ((rd_T104 l1 x12_1).f1.f1) ((rd_T104 l1 x12_1).f1.f2) ((rd_T104 l1 x12_1).f1.f3) ((rd_T104 l1 x12_1).f2) ((rd_T104 l1 x12_1).f3) ((rd_T104 l1 x12_1).f4) ((rd_T104 l1 x12_1).f5) ((rd_T104 l1 x12_1).f6) ((rd_T104 l1 x12_1).f7.f0) ((rd_T104 l1 x12_1).f7.f1) ((rd_T104 l1 x12_1).f7.f2) ((rd_T104 l1 x12_1).f7.f3) ((rd_T104 l1 x12_1).f7.f4))) = some r := H
                  have A9 := Aside0.mk A90
                  clear A90
                  by_cases c10 : t165 = true
                  · subst c10
                    have H1 : (overfallref23_Longest.l1 k2 l0 x5_1 (wrap64 (x8_2 + 1)) l1 (l1.length : Int) x12_1 (l0.length : Int) (wrap64 (x18_2 + 1)) ((rd_T104 l1 x12_1).f0) ((rd_T104 l1 x12_1).f1.f0) ((rd_T104 l1 x12_1).f1.f1) ((rd_T104 l1 x12_1).f1.f2) ((rd_T104 l1 x12_1).f1.f3) ((rd_T104 l1 x12_1).f2) ((rd_T104 l1 x12_1).f3) ((rd_T104 l1 x12_1).f4) ((rd_T104 l1 x12_1).f5) ((rd_T104 l1 x12_1).f6) ((rd_T104 l1 x12_1).f7.f0) ((rd_T104 l1 x12_1).f7.f1) ((rd_T104 l1 x12_1).f7.f2) ((rd_T104 l1 x12_1).f7.f3) ((rd_T104 l1 x12_1).f7.f4)) = some r := by rw [if_pos rfl] at H; exact H
                    clear H
                    have H := H1
                    clear H1
                    have H' := Aside0.mk H
                    clear H
                    have hcz11_0 : wr.cell? ⟨gb164, 0, none⟩ = some (.int .i64 ((rd_T104 l1 x12_1).f0)) := (blk_cell BK164.out 0).trans rfl
                    have hcz11_1 : wr.cell? ⟨gb164, 1, none⟩ = some (.int .u8 ((rd_T104 l1 x12_1).f1.f0)) := (blk_cell BK164.out 1).trans rfl
                    have hcz11_2 : wr.cell? ⟨gb164, 2, none⟩ = some (.int .i64 ((rd_T104 l1 x12_1).f1.f1)) := (blk_cell BK164.out 2).trans rfl
                    have hcz11_3 : wr.cell? ⟨gb164, 3, none⟩ = some (.int .i64 ((rd_T104 l1 x12_1).f1.f2)) := (blk_cell BK164.out 3).trans rfl
                    have hcz11_4 : wr.cell? ⟨gb164, 4, none⟩ = some (.int .i64 ((rd_T104 l1 x12_1).f1.f3)) := (blk_cell BK164.out 4).trans rfl
                    have hcz11_5 : wr.cell? ⟨gb164, 5, none⟩ = some (.int .i64 ((rd_T104 l1 x12_1).f2)) := (blk_cell BK164.out 5).trans rfl
                    have hcz11_6 : wr.cell? ⟨gb164, 6, none⟩ = some (.int .i64 ((rd_T104 l1 x12_1).f3)) := (blk_cell BK164.out 6).trans rfl
                    have hcz11_7 : wr.cell? ⟨gb164, 7, none⟩ = some (.int .i64 ((rd_T104 l1 x12_1).f4)) := (blk_cell BK164.out 7).trans rfl
                    have hcz11_8 : wr.cell? ⟨gb164, 8, none⟩ = some (.int .i64 ((rd_T104 l1 x12_1).f5)) := (blk_cell BK164.out 8).trans rfl
                    have hcz11_9 : wr.cell? ⟨gb164, 9, none⟩ = some (.int .i64 ((rd_T104 l1 x12_1).f6)) := (blk_cell BK164.out 9).trans rfl
                    have hcz11_10 : wr.cell? ⟨gb164, 10, none⟩ = some (.int .u8 ((rd_T104 l1 x12_1).f7.f0)) := (blk_cell BK164.out 10).trans rfl
                    have hcz11_11 : wr.cell? ⟨gb164, 11, none⟩ = some (.int .u64 ((rd_T104 l1 x12_1).f7.f1)) := (blk_cell BK164.out 11).trans rfl
                    have hcz11_12 : wr.cell? ⟨gb164, 12, none⟩ = some (.int .i64 ((rd_T104 l1 x12_1).f7.f2)) := (blk_cell BK164.out 12).trans rfl
                    have hcz11_13 : wr.cell? ⟨gb164, 13, none⟩ = some (.int .i64 ((rd_T104 l1 x12_1).f7.f3)) := (blk_cell BK164.out 13).trans rfl
                    have hcz11_14 : wr.cell? ⟨gb164, 14, none⟩ = some (.int .i64 ((rd_T104 l1 x12_1).f7.f4)) := (blk_cell BK164.out 14).trans rfl
                    have hfz11_0 := blk_frozen BK164.out 0
                    have hfz11_1 := blk_frozen BK164.out 1
                    have hfz11_2 := blk_frozen BK164.out 2
                    have hfz11_3 := blk_frozen BK164.out 3
                    have hfz11_4 := blk_frozen BK164.out 4
                    have hfz11_5 := blk_frozen BK164.out 5
                    have hfz11_6 := blk_frozen BK164.out 6
                    have hfz11_7 := blk_frozen BK164.out 7
                    have hfz11_8 := blk_frozen BK164.out 8
                    have hfz11_9 := blk_frozen BK164.out 9
                    have hfz11_10 := blk_frozen BK164.out 10
                    have hfz11_11 := blk_frozen BK164.out 11
                    have hfz11_12 := blk_frozen BK164.out 12
                    have hfz11_13 := blk_frozen BK164.out 13
                    have hfz11_14 := blk_frozen BK164.out 14
                    go_wp2_with (first | ((with_reducible refine gate_callee (f := 65) rfl ?_); refine goesL_ (some 24) rfl rfl Try.func65 (by kernel_rfl) rfl #[.slice A0 l0.length c0, .agg #[.int .i64 ((rd_T104 l1 x12_1).f0), .int .u8 ((rd_T104 l1 x12_1).f1.f0), .int .i64 ((rd_T104 l1 x12_1).f1.f1), .int .i64 ((rd_T104 l1 x12_1).f1.f2), .int .i64 ((rd_T104 l1 x12_1).f1.f3), .int .i64 ((rd_T104 l1 x12_1).f2), .int .i64 ((rd_T104 l1 x12_1).f3), .int .i64 ((rd_T104 l1 x12_1).f4), .int .i64 ((rd_T104 l1 x12_1).f5), .int .i64 ((rd_T104 l1 x12_1).f6), .int .u8 ((rd_T104 l1 x12_1).f7.f0), .int .u64 ((rd_T104 l1 x12_1).f7.f1), .int .i64 ((rd_T104 l1 x12_1).f7.f2), .int .i64 ((rd_T104 l1 x12_1).f7.f3), .int .i64 ((rd_T104 l1 x12_1).f7.f4)], .int .i64 x18_2] rfl (by (try simp only [List.map_toArray, List.map_cons, List.map_nil]); first | done | rfl | (simp only [List.length_drop, List.length_take]; rfl)) ?_; (with_reducible refine (overfallref23_in.calls _ _ l0 ((rd_T104 l1 x12_1).f0) ((rd_T104 l1 x12_1).f1.f0) ((rd_T104 l1 x12_1).f1.f1) ((rd_T104 l1 x12_1).f1.f2) ((rd_T104 l1 x12_1).f1.f3) ((rd_T104 l1 x12_1).f2) ((rd_T104 l1 x12_1).f3) ((rd_T104 l1 x12_1).f4) ((rd_T104 l1 x12_1).f5) ((rd_T104 l1 x12_1).f6) ((rd_T104 l1 x12_1).f7.f0) ((rd_T104 l1 x12_1).f7.f1) ((rd_T104 l1 x12_1).f7.f2) ((rd_T104 l1 x12_1).f7.f3) ((rd_T104 l1 x12_1).f7.f4) x18_2 true _ ?side1 ?side2 A9.out).mono ?_); (case side1 => repeat (first | exact (Kd.C_below HR0.out HB.out) | (with_reducible refine Kd.C_alloc ?_ _) | (with_reducible refine Kd.C_drewN ?_ _) | (with_reducible refine Kd.C_drew ?_))); (case side2 => exact HC0.out); rintro e w12 ⟨rfl, hb⟩; refine ⟨_, rfl, ?_⟩; have n0_ := Aside0.mk (blk_below (g := gb164) (o := .cells #[.int .i64 ((rd_T104 l1 x12_1).f0), .int .u8 ((rd_T104 l1 x12_1).f1.f0), .int .i64 ((rd_T104 l1 x12_1).f1.f1), .int .i64 ((rd_T104 l1 x12_1).f1.f2), .int .i64 ((rd_T104 l1 x12_1).f1.f3), .int .i64 ((rd_T104 l1 x12_1).f2), .int .i64 ((rd_T104 l1 x12_1).f3), .int .i64 ((rd_T104 l1 x12_1).f4), .int .i64 ((rd_T104 l1 x12_1).f5), .int .i64 ((rd_T104 l1 x12_1).f6), .int .u8 ((rd_T104 l1 x12_1).f7.f0), .int .u64 ((rd_T104 l1 x12_1).f7.f1), .int .i64 ((rd_T104 l1 x12_1).f7.f2), .int .i64 ((rd_T104 l1 x12_1).f7.f3), .int .i64 ((rd_T104 l1 x12_1).f7.f4)] 104 (0, 0)) (by (with_reducible repeat (first | refine blk_drewN ?_ _ | refine blk_drew ?_ | refine blk_alloc ?_ _)); exact BK164.out) hb); have n1_ := Aside0.mk (below_step (by repeat (first | (with_reducible first | exact HB.out | apply below_alloc | apply pw_below_drewN | apply below_drew1 | refine below_set ?_ GE164.out) | exact HB.out)) hb); clear BK164; clear HB; have BK164 := n0_; have HB := n1_; clear n0_ n1_; (try clear hb); (try clear hb2); (try clear hk); (try clear hi)))
                    go_roundg k2
                    case measure => have := HK1.out; have := HK2.out; omega
                    case rel => exact ⟨(wrap64 (x8_2 + 1)), (wrap64 (x18_2 + 1)), (by first | rfl | (simp; done) | (simp [*]; done)), (by first | rfl | (simp; done) | (simp [*]; done)), H', ⟨by have := HK1.out; have := HK2.out; omega⟩, ⟨by (with_reducible repeat (first | refine blk_drewN ?_ _ | refine blk_drew ?_ | refine blk_alloc ?_ _)); exact BK164.out⟩, ⟨by repeat (first | (with_reducible first | exact HB.out | apply below_alloc | apply pw_below_drewN | apply below_drew1 | refine below_set ?_ GE164.out) | exact HB.out)⟩⟩
                  · replace c10 := Bool.eq_false_iff.mpr c10
                    subst c10
                    have H1 : (overfallref23_Longest.l1 k2 l0 x5_1 x8_2 l1 (l1.length : Int) x12_1 (l0.length : Int) (wrap64 (x18_2 + 1)) ((rd_T104 l1 x12_1).f0) ((rd_T104 l1 x12_1).f1.f0) ((rd_T104 l1 x12_1).f1.f1) ((rd_T104 l1 x12_1).f1.f2) ((rd_T104 l1 x12_1).f1.f3) ((rd_T104 l1 x12_1).f2) ((rd_T104 l1 x12_1).f3) ((rd_T104 l1 x12_1).f4) ((rd_T104 l1 x12_1).f5) ((rd_T104 l1 x12_1).f6) ((rd_T104 l1 x12_1).f7.f0) ((rd_T104 l1 x12_1).f7.f1) ((rd_T104 l1 x12_1).f7.f2) ((rd_T104 l1 x12_1).f7.f3) ((rd_T104 l1 x12_1).f7.f4)) = some r := by rw [if_neg (show ¬ (false = true) by decide)] at H; exact H
                    clear H
                    have H := H1
                    clear H1
                    have H' := Aside0.mk H
                    clear H
                    have hcz13_0 : wr.cell? ⟨gb164, 0, none⟩ = some (.int .i64 ((rd_T104 l1 x12_1).f0)) := (blk_cell BK164.out 0).trans rfl
                    have hcz13_1 : wr.cell? ⟨gb164, 1, none⟩ = some (.int .u8 ((rd_T104 l1 x12_1).f1.f0)) := (blk_cell BK164.out 1).trans rfl
                    have hcz13_2 : wr.cell? ⟨gb164, 2, none⟩ = some (.int .i64 ((rd_T104 l1 x12_1).f1.f1)) := (blk_cell BK164.out 2).trans rfl
                    have hcz13_3 : wr.cell? ⟨gb164, 3, none⟩ = some (.int .i64 ((rd_T104 l1 x12_1).f1.f2)) := (blk_cell BK164.out 3).trans rfl
                    have hcz13_4 : wr.cell? ⟨gb164, 4, none⟩ = some (.int .i64 ((rd_T104 l1 x12_1).f1.f3)) := (blk_cell BK164.out 4).trans rfl
                    have hcz13_5 : wr.cell? ⟨gb164, 5, none⟩ = some (.int .i64 ((rd_T104 l1 x12_1).f2)) := (blk_cell BK164.out 5).trans rfl
                    have hcz13_6 : wr.cell? ⟨gb164, 6, none⟩ = some (.int .i64 ((rd_T104 l1 x12_1).f3)) := (blk_cell BK164.out 6).trans rfl
                    have hcz13_7 : wr.cell? ⟨gb164, 7, none⟩ = some (.int .i64 ((rd_T104 l1 x12_1).f4)) := (blk_cell BK164.out 7).trans rfl
                    have hcz13_8 : wr.cell? ⟨gb164, 8, none⟩ = some (.int .i64 ((rd_T104 l1 x12_1).f5)) := (blk_cell BK164.out 8).trans rfl
                    have hcz13_9 : wr.cell? ⟨gb164, 9, none⟩ = some (.int .i64 ((rd_T104 l1 x12_1).f6)) := (blk_cell BK164.out 9).trans rfl
                    have hcz13_10 : wr.cell? ⟨gb164, 10, none⟩ = some (.int .u8 ((rd_T104 l1 x12_1).f7.f0)) := (blk_cell BK164.out 10).trans rfl
                    have hcz13_11 : wr.cell? ⟨gb164, 11, none⟩ = some (.int .u64 ((rd_T104 l1 x12_1).f7.f1)) := (blk_cell BK164.out 11).trans rfl
                    have hcz13_12 : wr.cell? ⟨gb164, 12, none⟩ = some (.int .i64 ((rd_T104 l1 x12_1).f7.f2)) := (blk_cell BK164.out 12).trans rfl
                    have hcz13_13 : wr.cell? ⟨gb164, 13, none⟩ = some (.int .i64 ((rd_T104 l1 x12_1).f7.f3)) := (blk_cell BK164.out 13).trans rfl
                    have hcz13_14 : wr.cell? ⟨gb164, 14, none⟩ = some (.int .i64 ((rd_T104 l1 x12_1).f7.f4)) := (blk_cell BK164.out 14).trans rfl
                    have hfz13_0 := blk_frozen BK164.out 0
                    have hfz13_1 := blk_frozen BK164.out 1
                    have hfz13_2 := blk_frozen BK164.out 2
                    have hfz13_3 := blk_frozen BK164.out 3
                    have hfz13_4 := blk_frozen BK164.out 4
                    have hfz13_5 := blk_frozen BK164.out 5
                    have hfz13_6 := blk_frozen BK164.out 6
                    have hfz13_7 := blk_frozen BK164.out 7
                    have hfz13_8 := blk_frozen BK164.out 8
                    have hfz13_9 := blk_frozen BK164.out 9
                    have hfz13_10 := blk_frozen BK164.out 10
                    have hfz13_11 := blk_frozen BK164.out 11
                    have hfz13_12 := blk_frozen BK164.out 12
                    have hfz13_13 := blk_frozen BK164.out 13
                    have hfz13_14 := blk_frozen BK164.out 14
                    go_wp2_with (first | ((with_reducible refine gate_callee (f := 65) rfl ?_); refine goesL_ (some 24) rfl rfl Try.func65 (by kernel_rfl) rfl #[.slice A0 l0.length c0, .agg #[.int .i64 ((rd_T104 l1 x12_1).f0), .int .u8 ((rd_T104 l1 x12_1).f1.f0), .int .i64 ((rd_T104 l1 x12_1).f1.f1), .int .i64 ((rd_T104 l1 x12_1).f1.f2), .int .i64 ((rd_T104 l1 x12_1).f1.f3), .int .i64 ((rd_T104 l1 x12_1).f2), .int .i64 ((rd_T104 l1 x12_1).f3), .int .i64 ((rd_T104 l1 x12_1).f4), .int .i64 ((rd_T104 l1 x12_1).f5), .int .i64 ((rd_T104 l1 x12_1).f6), .int .u8 ((rd_T104 l1 x12_1).f7.f0), .int .u64 ((rd_T104 l1 x12_1).f7.f1), .int .i64 ((rd_T104 l1 x12_1).f7.f2), .int .i64 ((rd_T104 l1 x12_1).f7.f3), .int .i64 ((rd_T104 l1 x12_1).f7.f4)], .int .i64 x18_2] rfl (by (try simp only [List.map_toArray, List.map_cons, List.map_nil]); first | done | rfl | (simp only [List.length_drop, List.length_take]; rfl)) ?_; (with_reducible refine (overfallref23_in.calls _ _ l0 ((rd_T104 l1 x12_1).f0) ((rd_T104 l1 x12_1).f1.f0) ((rd_T104 l1 x12_1).f1.f1) ((rd_T104 l1 x12_1).f1.f2) ((rd_T104 l1 x12_1).f1.f3) ((rd_T104 l1 x12_1).f2) ((rd_T104 l1 x12_1).f3) ((rd_T104 l1 x12_1).f4) ((rd_T104 l1 x12_1).f5) ((rd_T104 l1 x12_1).f6) ((rd_T104 l1 x12_1).f7.f0) ((rd_T104 l1 x12_1).f7.f1) ((rd_T104 l1 x12_1).f7.f2) ((rd_T104 l1 x12_1).f7.f3) ((rd_T104 l1 x12_1).f7.f4) x18_2 false _ ?side1 ?side2 A9.out).mono ?_); (case side1 => repeat (first | exact (Kd.C_below HR0.out HB.out) | (with_reducible refine Kd.C_alloc ?_ _) | (with_reducible refine Kd.C_drewN ?_ _) | (with_reducible refine Kd.C_drew ?_))); (case side2 => exact HC0.out); rintro e w14 ⟨rfl, hb⟩; refine ⟨_, rfl, ?_⟩; have n0_ := Aside0.mk (blk_below (g := gb164) (o := .cells #[.int .i64 ((rd_T104 l1 x12_1).f0), .int .u8 ((rd_T104 l1 x12_1).f1.f0), .int .i64 ((rd_T104 l1 x12_1).f1.f1), .int .i64 ((rd_T104 l1 x12_1).f1.f2), .int .i64 ((rd_T104 l1 x12_1).f1.f3), .int .i64 ((rd_T104 l1 x12_1).f2), .int .i64 ((rd_T104 l1 x12_1).f3), .int .i64 ((rd_T104 l1 x12_1).f4), .int .i64 ((rd_T104 l1 x12_1).f5), .int .i64 ((rd_T104 l1 x12_1).f6), .int .u8 ((rd_T104 l1 x12_1).f7.f0), .int .u64 ((rd_T104 l1 x12_1).f7.f1), .int .i64 ((rd_T104 l1 x12_1).f7.f2), .int .i64 ((rd_T104 l1 x12_1).f7.f3), .int .i64 ((rd_T104 l1 x12_1).f7.f4)] 104 (0, 0)) (by (with_reducible repeat (first | refine blk_drewN ?_ _ | refine blk_drew ?_ | refine blk_alloc ?_ _)); exact BK164.out) hb); have n1_ := Aside0.mk (below_step (by repeat (first | (with_reducible first | exact HB.out | apply below_alloc | apply pw_below_drewN | apply below_drew1 | refine below_set ?_ GE164.out) | exact HB.out)) hb); clear BK164; clear HB; have BK164 := n0_; have HB := n1_; clear n0_ n1_; (try clear hb); (try clear hb2); (try clear hk); (try clear hi)))
                    go_roundg k2
                    case measure => have := HK1.out; have := HK2.out; omega
                    case rel => exact ⟨(x8_2), (wrap64 (x18_2 + 1)), (by first | rfl | (simp; done) | (simp [*]; done)), (by first | rfl | (simp; done) | (simp [*]; done)), H', ⟨by have := HK1.out; have := HK2.out; omega⟩, ⟨by (with_reducible repeat (first | refine blk_drewN ?_ _ | refine blk_drew ?_ | refine blk_alloc ?_ _)); exact BK164.out⟩, ⟨by repeat (first | (with_reducible first | exact HB.out | apply below_alloc | apply pw_below_drewN | apply below_drew1 | refine below_set ?_ GE164.out) | exact HB.out)⟩⟩
                · rw [if_neg c8] at H
                  have c8b0 : decide (x18_2 < (l0.length : Int)) = false := decide_eq_false c8
                  clear c8
                  obtain ⟨ji15, hji15⟩ : ∃ j_ : Int, (mx x5_1 x8_2) = j_ := ⟨_, rfl⟩
                  replace H : (overfallref23_Longest.l0 k2 l0 ji15 l1 (l1.length : Int) (wrap64 (x12_1 + 1))) = some r := by first | (rw [hji15] at H; exact H) | (simp only [hji15] at H ⊢; exact H)
                  have hji15_ : (if x5_1 < x8_2 then x8_2 else x5_1) = ji15 := hji15
                  have H' := Aside0.mk H
                  clear H
                  go_wp2
                  go_roundg k2
                  case measure => have := HK1.out; have := HK2.out; omega
                  case rel => exact ⟨(ji15), (wrap64 (x12_1 + 1)), (by first | rfl | (simp; done) | (simp only [← hji15] <;> (first | rfl | simp)) | (simp [*]; done)), (by first | rfl | (simp; done) | (simp [*]; done)), H', ⟨by have := HK1.out; have := HK2.out; omega⟩, ⟨by repeat (first | (with_reducible first | exact HB.out | apply below_alloc | apply pw_below_drewN | apply below_drew1 | refine below_set ?_ GE164.out) | exact HB.out)⟩⟩
          · rw [if_neg c5] at H
            exact absurd H (by simp)
        · rw [if_neg c4] at H
          exact absurd H (by simp)
      · rw [if_neg c3] at H
        have c3b0 : decide (x12_1 < (l1.length : Int)) = false := decide_eq_false c3
        clear c3
        obtain rfl := Option.some.inj H
        go_wp2
        go_ret
        exact ⟨by first | rfl | (simp [errW_none, errW_some] <;> rfl) | (simp [*, errW_none, errW_some] <;> rfl), by repeat (first | (with_reducible first | exact HB.out | apply below_alloc | apply pw_below_drewN | apply below_drew1) | exact HB.out)⟩

/-! ### pace_Bound: function 42 -/
def pace_Bound.f (a0 : Int) (a1 : Int) : Option (Int) := (fix_Mul.f 18 a1).bind fun t166 => ((fix_Add.f t166 24).bind fun t167 => ((fix_Mul.f a0 t167).bind fun t168 => (some t168)))
set_option maxHeartbeats 8000000 in
set_option maxRecDepth 100000 in
theorem pace_Bound.calls (a0 : Int) (a1 : Int) (r : Int) (w : World) (h : pace_Bound.f a0 a1 = some r) :
    Calls Try.prog 42 #[.int .i64 a0, .int .i64 a1] w fun e w' => e = .returned (.int .i64 r) ∧ Below w.heap.size w w' := by
  have HB := Aside0.mk (Below.refl w.heap.size w)
  have H : ((fix_Mul.f 18 a1).bind fun t166 => ((fix_Add.f t166 24).bind fun t167 => ((fix_Mul.f a0 t167).bind fun t168 => (some t168)))) = some r := h
  clear h
  replace H := Option.bind_eq_some_iff.mp H
  obtain ⟨t166, A30, H⟩ := H
  replace H : ((fix_Add.f t166 24).bind fun t167 => ((fix_Mul.f a0 t167).bind fun t168 => (some t168))) = some r := H
  have A3 := Aside0.mk A30
  clear A30
  replace H := Option.bind_eq_some_iff.mp H
  obtain ⟨t167, A40, H⟩ := H
  replace H : ((fix_Mul.f a0 t167).bind fun t168 => (some t168)) = some r := H
  have A4 := Aside0.mk A40
  clear A40
  replace H := Option.bind_eq_some_iff.mp H
  obtain ⟨t168, A50, H⟩ := H
  replace H : (some t168) = some r := H
  have A5 := Aside0.mk A50
  clear A50
  obtain rfl := Option.some.inj H
  go_enter Try.func42, Try.ntmps42
  go_wp2_with (first | ((with_reducible refine gate_callee (f := 67) rfl ?_); refine goesL_ (some 7) rfl rfl Try.func67 (by kernel_rfl) rfl #[.int .i64 18, .int .i64 a1] rfl (by (try simp only [List.map_toArray, List.map_cons, List.map_nil]); first | done | rfl | (simp only [List.length_drop, List.length_take]; rfl)) ?_; (with_reducible refine (fix_Mul.calls 18 a1 t166 _ A3.out).mono ?_); rintro e w6 ⟨rfl, hb⟩; refine ⟨_, rfl, ?_⟩; have n0_ := Aside0.mk (below_step (by repeat (first | (with_reducible first | exact HB.out | apply below_alloc | apply pw_below_drewN | apply below_drew1) | exact HB.out)) hb); clear HB; have HB := n0_; clear n0_; (try clear hb); (try clear hb2); (try clear hk); (try clear hi)) | ((with_reducible refine gate_callee (f := 68) rfl ?_); refine goesL_ (some 8) rfl rfl Try.func68 (by kernel_rfl) rfl #[.int .i64 t166, .int .i64 24] rfl (by (try simp only [List.map_toArray, List.map_cons, List.map_nil]); first | done | rfl | (simp only [List.length_drop, List.length_take]; rfl)) ?_; (with_reducible refine (fix_Add.calls t166 24 t167 _ A4.out).mono ?_); rintro e w' ⟨rfl, ⟨nd, rfl⟩⟩; refine ⟨_, rfl, ?_⟩) | ((with_reducible refine gate_callee (f := 67) rfl ?_); refine goesL_ (some 9) rfl rfl Try.func67 (by kernel_rfl) rfl #[.int .i64 a0, .int .i64 t167] rfl (by (try simp only [List.map_toArray, List.map_cons, List.map_nil]); first | done | rfl | (simp only [List.length_drop, List.length_take]; rfl)) ?_; (with_reducible refine (fix_Mul.calls a0 t167 t168 _ A5.out).mono ?_); rintro e w7 ⟨rfl, hb⟩; refine ⟨_, rfl, ?_⟩; have n0_ := Aside0.mk (below_step (by repeat (first | (with_reducible first | exact HB.out | apply below_alloc | apply pw_below_drewN | apply below_drew1) | exact HB.out)) hb); clear HB; have HB := n0_; clear n0_; (try clear hb); (try clear hb2); (try clear hk); (try clear hi)))
  go_ret
  exact ⟨by first | rfl | (simp [errW_none, errW_some] <;> rfl) | (simp [*, errW_none, errW_some] <;> rfl), by repeat (first | (with_reducible first | exact HB.out | apply below_alloc | apply pw_below_drewN | apply below_drew1) | exact HB.out)⟩

/-! ### overfallref23_Bound: function 43 -/
def overfallref23_Bound.f (a0 : Int) (a1 : Int) : Option (Int) := (overfallref02_Mul.f 18 a1).bind fun t169 => ((overfallref02_Add.f t169 24).bind fun t170 => ((overfallref02_Mul.f a0 t170).bind fun t171 => (some t171)))
set_option maxHeartbeats 8000000 in
set_option maxRecDepth 100000 in
theorem overfallref23_Bound.calls (a0 : Int) (a1 : Int) (r : Int) (w : World) (h : overfallref23_Bound.f a0 a1 = some r) :
    Calls Try.prog 43 #[.int .i64 a0, .int .i64 a1] w fun e w' => e = .returned (.int .i64 r) ∧ Below w.heap.size w w' := by
  have HB := Aside0.mk (Below.refl w.heap.size w)
  have H : ((overfallref02_Mul.f 18 a1).bind fun t169 => ((overfallref02_Add.f t169 24).bind fun t170 => ((overfallref02_Mul.f a0 t170).bind fun t171 => (some t171)))) = some r := h
  clear h
  replace H := Option.bind_eq_some_iff.mp H
  obtain ⟨t169, A30, H⟩ := H
  replace H : ((overfallref02_Add.f t169 24).bind fun t170 => ((overfallref02_Mul.f a0 t170).bind fun t171 => (some t171))) = some r := H
  have A3 := Aside0.mk A30
  clear A30
  replace H := Option.bind_eq_some_iff.mp H
  obtain ⟨t170, A40, H⟩ := H
  replace H : ((overfallref02_Mul.f a0 t170).bind fun t171 => (some t171)) = some r := H
  have A4 := Aside0.mk A40
  clear A40
  replace H := Option.bind_eq_some_iff.mp H
  obtain ⟨t171, A50, H⟩ := H
  replace H : (some t171) = some r := H
  have A5 := Aside0.mk A50
  clear A50
  obtain rfl := Option.some.inj H
  go_enter Try.func43, Try.ntmps43
  go_wp2_with (first | ((with_reducible refine gate_callee (f := 51) rfl ?_); refine goesL_ (some 7) rfl rfl Try.func51 (by kernel_rfl) rfl #[.int .i64 18, .int .i64 a1] rfl (by (try simp only [List.map_toArray, List.map_cons, List.map_nil]); first | done | rfl | (simp only [List.length_drop, List.length_take]; rfl)) ?_; (with_reducible refine (overfallref02_Mul.calls 18 a1 t169 _ A3.out).mono ?_); rintro e w6 ⟨rfl, hb⟩; refine ⟨_, rfl, ?_⟩; have n0_ := Aside0.mk (below_step (by repeat (first | (with_reducible first | exact HB.out | apply below_alloc | apply pw_below_drewN | apply below_drew1) | exact HB.out)) hb); clear HB; have HB := n0_; clear n0_; (try clear hb); (try clear hb2); (try clear hk); (try clear hi)) | ((with_reducible refine gate_callee (f := 31) rfl ?_); refine goesL_ (some 8) rfl rfl Try.func31 (by kernel_rfl) rfl #[.int .i64 t169, .int .i64 24] rfl (by (try simp only [List.map_toArray, List.map_cons, List.map_nil]); first | done | rfl | (simp only [List.length_drop, List.length_take]; rfl)) ?_; (with_reducible refine (overfallref02_Add.calls t169 24 t170 _ A4.out).mono ?_); rintro e w7 ⟨rfl, hb⟩; refine ⟨_, rfl, ?_⟩; have n0_ := Aside0.mk (below_step (by repeat (first | (with_reducible first | exact HB.out | apply below_alloc | apply pw_below_drewN | apply below_drew1) | exact HB.out)) hb); clear HB; have HB := n0_; clear n0_; (try clear hb); (try clear hb2); (try clear hk); (try clear hi)) | ((with_reducible refine gate_callee (f := 51) rfl ?_); refine goesL_ (some 9) rfl rfl Try.func51 (by kernel_rfl) rfl #[.int .i64 a0, .int .i64 t170] rfl (by (try simp only [List.map_toArray, List.map_cons, List.map_nil]); first | done | rfl | (simp only [List.length_drop, List.length_take]; rfl)) ?_; (with_reducible refine (overfallref02_Mul.calls a0 t170 t171 _ A5.out).mono ?_); rintro e w8 ⟨rfl, hb⟩; refine ⟨_, rfl, ?_⟩; have n0_ := Aside0.mk (below_step (by repeat (first | (with_reducible first | exact HB.out | apply below_alloc | apply pw_below_drewN | apply below_drew1) | exact HB.out)) hb); clear HB; have HB := n0_; clear n0_; (try clear hb); (try clear hb2); (try clear hk); (try clear hi)))
  go_ret
  exact ⟨by first | rfl | (simp [errW_none, errW_some] <;> rfl) | (simp [*, errW_none, errW_some] <;> rfl), by repeat (first | (with_reducible first | exact HB.out | apply below_alloc | apply pw_below_drewN | apply below_drew1) | exact HB.out)⟩

end Go.Proofs.Yteaihgjjplgalaa.PPaceTells
