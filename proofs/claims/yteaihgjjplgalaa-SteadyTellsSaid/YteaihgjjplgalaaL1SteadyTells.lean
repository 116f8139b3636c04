/- The walk of SteadyTells. -/
import Derived.Test.YteaihgjjplgalaaL0SteadyTells
namespace Go.Proofs.Yteaihgjjplgalaa.PSteadyTells
open Go.RowKit Go.Proofs.YteaihgjjplgalaaW.PrintWords Go.Proofs.YteaihgjjplgalaaW.PrintLast Go.Proofs.YteaihgjjplgalaaW.PrintMore
open Go.Proofs.Yteaihgjjplgalaa.Rd
attribute [local go_sem] max2_int min2_int max_two min_two max_three min_three max_four min_four
set_option linter.unusedVariables false
set_option linter.unusedSimpArgs false

set_option maxRecDepth 100000 in
set_option maxHeartbeats 8000000 in
theorem law_not (b0 b1 b2 b3 b4 b5 b6 b7 b8 b9 b10 b11 b12 b13 b14 b15 : Int) (hV : conf_Config_Valid.f b0 b1 b2 b3 b4 b5 b6 b7 b8 b9 b10 b11 b12 b13 b14 b15 = some 1) (A1 : Option Addr) (c1 : Nat) (l1 : List CT) (fr : Int) (w : World) :
    Calls Try.prog 10 #[.agg #[.int .i64 b0, .int .i64 b1, .int .i64 b2, .int .i64 b3, .int .i64 b4, .int .i64 b5, .int .i64 b6, .int .i64 b7, .int .i64 b8, .int .i64 b9, .int .i64 b10, .int .i64 b11, .int .i64 b12, .int .i64 b13, .int .i64 b14, .int .i64 b15], .slice A1 l1.length c1, .int .i64 fr] w fun e w' => e = .returned (.bool true) ∧ Below w.heap.size w w' := by
  obtain ⟨Ka, ha⟩ := awake_ev
  have HA := Aside0.mk ha
  have HV := Aside0.mk hV
  clear ha hV
  go_enter Try.func10, Try.ntmps10
  go_wp2_with fail
  have BK0 := Aside0.mk (heap_alloc_new w (.cells #[.int .i64 b0, .int .i64 b1, .int .i64 b2, .int .i64 b3, .int .i64 b4, .int .i64 b5, .int .i64 b6, .int .i64 b7, .int .i64 b8, .int .i64 b9, .int .i64 b10, .int .i64 b11, .int .i64 b12, .int .i64 b13, .int .i64 b14, .int .i64 b15] 79))
  have HB0 := Aside0.mk ((Below.refl w.heap.size w).alloc (Nat.le_refl _) (.cells #[.int .i64 b0, .int .i64 b1, .int .i64 b2, .int .i64 b3, .int .i64 b4, .int .i64 b5, .int .i64 b6, .int .i64 b7, .int .i64 b8, .int .i64 b9, .int .i64 b10, .int .i64 b11, .int .i64 b12, .int .i64 b13, .int .i64 b14, .int .i64 b15] 79))
  have hs0 : w.heap.size < (w.alloc (.cells #[.int .i64 b0, .int .i64 b1, .int .i64 b2, .int .i64 b3, .int .i64 b4, .int .i64 b5, .int .i64 b6, .int .i64 b7, .int .i64 b8, .int .i64 b9, .int .i64 b10, .int .i64 b11, .int .i64 b12, .int .i64 b13, .int .i64 b14, .int .i64 b15] 79)).heap.size := by simp
  generalize w.alloc (.cells #[.int .i64 b0, .int .i64 b1, .int .i64 b2, .int .i64 b3, .int .i64 b4, .int .i64 b5, .int .i64 b6, .int .i64 b7, .int .i64 b8, .int .i64 b9, .int .i64 b10, .int .i64 b11, .int .i64 b12, .int .i64 b13, .int .i64 b14, .int .i64 b15] 79) = W0 at *
  generalize hG : w.heap.size = G at *
  have HG := Lib.hid hG
  clear hG
  refine (overfalllaw24_awake.calls Ka true _ HA.out).mono ?_
  rintro e w1 ⟨rfl, hb1⟩
  have BK1 := Aside0.mk ((hb1.block G hs0).trans BK0.out)
  have HB1 := Aside0.mk (HB0.out.trans (hb1.mono (by rw [← HG.out]; exact HB0.out.size)))
  have q0 : w1.cell? ⟨G, 0, none⟩ = some (.int .i64 b0) := (blk_cell BK1.out 0).trans rfl
  have q1 : w1.cell? ⟨G, 1, none⟩ = some (.int .i64 b1) := (blk_cell BK1.out 1).trans rfl
  have q2 : w1.cell? ⟨G, 2, none⟩ = some (.int .i64 b2) := (blk_cell BK1.out 2).trans rfl
  have q3 : w1.cell? ⟨G, 3, none⟩ = some (.int .i64 b3) := (blk_cell BK1.out 3).trans rfl
  have q4 : w1.cell? ⟨G, 4, none⟩ = some (.int .i64 b4) := (blk_cell BK1.out 4).trans rfl
  have q5 : w1.cell? ⟨G, 5, none⟩ = some (.int .i64 b5) := (blk_cell BK1.out 5).trans rfl
  have q6 : w1.cell? ⟨G, 6, none⟩ = some (.int .i64 b6) := (blk_cell BK1.out 6).trans rfl
  have q7 : w1.cell? ⟨G, 7, none⟩ = some (.int .i64 b7) := (blk_cell BK1.out 7).trans rfl
  have q8 : w1.cell? ⟨G, 8, none⟩ = some (.int .i64 b8) := (blk_cell BK1.out 8).trans rfl
  have q9 : w1.cell? ⟨G, 9, none⟩ = some (.int .i64 b9) := (blk_cell BK1.out 9).trans rfl
  have q10 : w1.cell? ⟨G, 10, none⟩ = some (.int .i64 b10) := (blk_cell BK1.out 10).trans rfl
  have q11 : w1.cell? ⟨G, 11, none⟩ = some (.int .i64 b11) := (blk_cell BK1.out 11).trans rfl
  have q12 : w1.cell? ⟨G, 12, none⟩ = some (.int .i64 b12) := (blk_cell BK1.out 12).trans rfl
  have q13 : w1.cell? ⟨G, 13, none⟩ = some (.int .i64 b13) := (blk_cell BK1.out 13).trans rfl
  have q14 : w1.cell? ⟨G, 14, none⟩ = some (.int .i64 b14) := (blk_cell BK1.out 14).trans rfl
  have q15 : w1.cell? ⟨G, 15, none⟩ = some (.int .i64 b15) := (blk_cell BK1.out 15).trans rfl
  clear hb1 BK0 HB0
  go_wp2_with fail
  refine (conf_Config_Valid.calls b0 b1 b2 b3 b4 b5 b6 b7 b8 b9 b10 b11 b12 b13 b14 b15 1 _ HV.out).mono ?_
  rintro e w2 ⟨rfl, hb2⟩
  go_wp2_with fail
  go_ret
  exact ⟨rfl, by rw [HG.out]; exact HB1.out.trans (hb2.mono (by rw [← HG.out]; exact HB1.out.size))⟩

end Go.Proofs.Yteaihgjjplgalaa.PSteadyTells
