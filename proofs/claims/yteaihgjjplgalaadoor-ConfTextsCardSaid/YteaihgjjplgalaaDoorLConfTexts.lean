/- The law ConfTexts, walked. -/
import Derived.Test.YteaihgjjplgalaaDoorDoorAwake2
import Derived.Test.YteaihgjjplgalaaDoorDoorWrite2
import Derived.Test.YteaihgjjplgalaaDoorQText
namespace Go.Proofs.YteaihgjjplgalaaDoor
open Go.RowKit Go.Proofs.YteaihgjjplgalaaDoorW.PrintWords Go.Proofs.YteaihgjjplgalaaDoorW.PrintLast Go.Proofs.YteaihgjjplgalaaDoorW.PrintMore
set_option linter.unusedVariables false
set_option linter.unusedSimpArgs false

def I64c (ns : List Int) : Prop := ∀ v ∈ ns, -9223372036854775808 ≤ v ∧ v ≤ 9223372036854775807
theorem own_any (a0 a1 a2 a3 a4 a5 a6 a7 a8 a9 a10 a11 a12 a13 a14 a15 : Int) (w : World) :
    Calls Tryd.prog 10 #[.agg #[.int .i64 a0, .int .i64 a1, .int .i64 a2, .int .i64 a3, .int .i64 a4, .int .i64 a5, .int .i64 a6, .int .i64 a7, .int .i64 a8, .int .i64 a9, .int .i64 a10, .int .i64 a11, .int .i64 a12, .int .i64 a13, .int .i64 a14, .int .i64 a15]] w fun e w' => ∃ A c, e = .returned (.slice A 16 c) ∧ Kd.C (Kd.int .i64) w' A 16 [a0, a1, a2, a3, a4, a5, a6, a7, a8, a9, a10, a11, a12, a13, a14, a15] ∧ 16 ≤ c ∧ Below w.heap.size w w' := by
  refine (PConfOrders.overfalllaw13_own.calls a0 a1 a2 a3 a4 a5 a6 a7 a8 a9 a10 a11 a12 a13 a14 a15 [a0, a1, a2, a3, a4, a5, a6, a7, a8, a9, a10, a11, a12, a13, a14, a15] w rfl).mono ?_
  rintro e w' ⟨v, rfl, hR, hb⟩
  obtain ⟨A, c, rfl, hl, hr⟩ := Kd.R_reads hR
  exact ⟨A, c, rfl, hr, hl, hb⟩
theorem reftext_any (A : Option Addr) (c : Nat) (ns : List Int) (hl : ns.length = 16) (hn : I64c ns) (w : World) (hC : Kd.C (Kd.int .i64) w A 16 ns) (hc : 16 ≤ c) :
    Calls Tryd.prog 9 #[.slice A 16 c] w fun e w' => e = .returned (.string ⟨(confText ns).toArray⟩) ∧ Below w.heap.size w w' := by
  obtain ⟨K, hK⟩ := text_ev ns hl hn
  rw [← hl] at hC hc ⊢
  exact PConfOrders.overfallref13_Text.calls K A c ns _ w hC hc (hK K (Nat.le_refl _))
set_option maxRecDepth 100000 in
set_option maxHeartbeats 8000000 in
theorem confTexts_valid (a0 a1 a2 a3 a4 a5 a6 a7 a8 a9 a10 a11 a12 a13 a14 a15 : Int) (hn : I64c [a0, a1, a2, a3, a4, a5, a6, a7, a8, a9, a10, a11, a12, a13, a14, a15]) (hv : validB [a0, a1, a2, a3, a4, a5, a6, a7, a8, a9, a10, a11, a12, a13, a14, a15] = true) (w : World) (hL : LibAt w) :
    Calls Tryd.prog 6 #[.agg #[.int .i64 a0, .int .i64 a1, .int .i64 a2, .int .i64 a3, .int .i64 a4, .int .i64 a5, .int .i64 a6, .int .i64 a7, .int .i64 a8, .int .i64 a9, .int .i64 a10, .int .i64 a11, .int .i64 a12, .int .i64 a13, .int .i64 a14, .int .i64 a15]] w fun e w' => e = .returned (.bool true) ∧ Below w.heap.size w w' := by
  have HP := Aside0.mk (parse_text [a0, a1, a2, a3, a4, a5, a6, a7, a8, a9, a10, a11, a12, a13, a14, a15] rfl hn)
  rw [if_pos hv] at HP
  have HL := Aside0.mk hL
  have HN := Aside0.mk hn
  have HV := Aside0.mk hv
  clear hL hn hv
  have BK0 := Aside0.mk (heap_alloc_new w (.cells #[.int .i64 a0, .int .i64 a1, .int .i64 a2, .int .i64 a3, .int .i64 a4, .int .i64 a5, .int .i64 a6, .int .i64 a7, .int .i64 a8, .int .i64 a9, .int .i64 a10, .int .i64 a11, .int .i64 a12, .int .i64 a13, .int .i64 a14, .int .i64 a15] 24))
  have HB0 := Aside0.mk ((Below.refl w.heap.size w).alloc (Nat.le_refl _) (.cells #[.int .i64 a0, .int .i64 a1, .int .i64 a2, .int .i64 a3, .int .i64 a4, .int .i64 a5, .int .i64 a6, .int .i64 a7, .int .i64 a8, .int .i64 a9, .int .i64 a10, .int .i64 a11, .int .i64 a12, .int .i64 a13, .int .i64 a14, .int .i64 a15] 24))
  have hlt0 : w.heap.size < (w.alloc (.cells #[.int .i64 a0, .int .i64 a1, .int .i64 a2, .int .i64 a3, .int .i64 a4, .int .i64 a5, .int .i64 a6, .int .i64 a7, .int .i64 a8, .int .i64 a9, .int .i64 a10, .int .i64 a11, .int .i64 a12, .int .i64 a13, .int .i64 a14, .int .i64 a15] 24)).heap.size := by simp
  go_enter Tryd.func6, Tryd.ntmps6
  go_wp2_with fail
  refine (awake_any _ (HL.out.below HB0.out)).mono ?_
  rintro e w1 ⟨rfl, hb1⟩
  have BK1 := Aside0.mk ((hb1.block _ hlt0).trans BK0.out)
  have HB1 := Aside0.mk (HB0.out.trans (hb1.mono HB0.out.size))
  clear hb1 hlt0 BK0 HB0
  generalize hg0 : w.heap.size = g0 at *
  have HG := Aside0.mk hg0
  clear hg0
  have x0 : w1.cell? ⟨g0, 0, none⟩ = some (.int .i64 a0) := (blk_cell BK1.out 0).trans rfl
  have x1 : w1.cell? ⟨g0, 1, none⟩ = some (.int .i64 a1) := (blk_cell BK1.out 1).trans rfl
  have x2 : w1.cell? ⟨g0, 2, none⟩ = some (.int .i64 a2) := (blk_cell BK1.out 2).trans rfl
  have x3 : w1.cell? ⟨g0, 3, none⟩ = some (.int .i64 a3) := (blk_cell BK1.out 3).trans rfl
  have x4 : w1.cell? ⟨g0, 4, none⟩ = some (.int .i64 a4) := (blk_cell BK1.out 4).trans rfl
  have x5 : w1.cell? ⟨g0, 5, none⟩ = some (.int .i64 a5) := (blk_cell BK1.out 5).trans rfl
  have x6 : w1.cell? ⟨g0, 6, none⟩ = some (.int .i64 a6) := (blk_cell BK1.out 6).trans rfl
  have x7 : w1.cell? ⟨g0, 7, none⟩ = some (.int .i64 a7) := (blk_cell BK1.out 7).trans rfl
  have x8 : w1.cell? ⟨g0, 8, none⟩ = some (.int .i64 a8) := (blk_cell BK1.out 8).trans rfl
  have x9 : w1.cell? ⟨g0, 9, none⟩ = some (.int .i64 a9) := (blk_cell BK1.out 9).trans rfl
  have x10 : w1.cell? ⟨g0, 10, none⟩ = some (.int .i64 a10) := (blk_cell BK1.out 10).trans rfl
  have x11 : w1.cell? ⟨g0, 11, none⟩ = some (.int .i64 a11) := (blk_cell BK1.out 11).trans rfl
  have x12 : w1.cell? ⟨g0, 12, none⟩ = some (.int .i64 a12) := (blk_cell BK1.out 12).trans rfl
  have x13 : w1.cell? ⟨g0, 13, none⟩ = some (.int .i64 a13) := (blk_cell BK1.out 13).trans rfl
  have x14 : w1.cell? ⟨g0, 14, none⟩ = some (.int .i64 a14) := (blk_cell BK1.out 14).trans rfl
  have x15 : w1.cell? ⟨g0, 15, none⟩ = some (.int .i64 a15) := (blk_cell BK1.out 15).trans rfl
  go_wp2_with fail
  refine (text_any a0 a1 a2 a3 a4 a5 a6 a7 a8 a9 a10 a11 a12 a13 a14 a15 HN.out w1 (HL.out.below (by rw [HG.out]; exact HB1.out))).mono ?_
  rintro e w2 ⟨rfl, hb2⟩
  have BK2 := Aside0.mk ((hb2.block _ (blk_lt BK1.out)).trans BK1.out)
  have HB2 := Aside0.mk (HB1.out.trans (hb2.mono (Nat.le_of_lt (blk_lt BK1.out))))
  clear hb2 x0 x1 x2 x3 x4 x5 x6 x7 x8 x9 x10 x11 x12 x13 x14 x15
  go_wp2_with fail
  refine (parse_any _ w2 (HL.out.below (by rw [HG.out]; exact HB2.out))).mono ?_
  rintro e w3 ⟨rfl, hb3⟩
  rw [show (⟨(confText [a0, a1, a2, a3, a4, a5, a6, a7, a8, a9, a10, a11, a12, a13, a14, a15]).toArray⟩ : ByteArray).data.toList = confText [a0, a1, a2, a3, a4, a5, a6, a7, a8, a9, a10, a11, a12, a13, a14, a15] by simp, HP.out]
  simp only [cfgV, List.map_cons, List.map_nil]
  have BK3 := Aside0.mk ((hb3.block _ (blk_lt BK2.out)).trans BK2.out)
  have HB3 := Aside0.mk (HB2.out.trans (hb3.mono (Nat.le_of_lt (blk_lt BK2.out))))
  clear hb3
  have BN4 := Aside0.mk (heap_alloc_new w3 (.cells #[.int .i64 a0, .int .i64 a1, .int .i64 a2, .int .i64 a3, .int .i64 a4, .int .i64 a5, .int .i64 a6, .int .i64 a7, .int .i64 a8, .int .i64 a9, .int .i64 a10, .int .i64 a11, .int .i64 a12, .int .i64 a13, .int .i64 a14, .int .i64 a15] 24))
  have BK4 := Aside0.mk (blk_alloc BK3.out (.cells #[.int .i64 a0, .int .i64 a1, .int .i64 a2, .int .i64 a3, .int .i64 a4, .int .i64 a5, .int .i64 a6, .int .i64 a7, .int .i64 a8, .int .i64 a9, .int .i64 a10, .int .i64 a11, .int .i64 a12, .int .i64 a13, .int .i64 a14, .int .i64 a15] 24))
  have HB4 := Aside0.mk (HB3.out.alloc (Nat.le_of_lt (blk_lt BK3.out)) (.cells #[.int .i64 a0, .int .i64 a1, .int .i64 a2, .int .i64 a3, .int .i64 a4, .int .i64 a5, .int .i64 a6, .int .i64 a7, .int .i64 a8, .int .i64 a9, .int .i64 a10, .int .i64 a11, .int .i64 a12, .int .i64 a13, .int .i64 a14, .int .i64 a15] 24))
  go_upto_region 5 with fail
  generalize w3.alloc (.cells #[.int .i64 a0, .int .i64 a1, .int .i64 a2, .int .i64 a3, .int .i64 a4, .int .i64 a5, .int .i64 a6, .int .i64 a7, .int .i64 a8, .int .i64 a9, .int .i64 a10, .int .i64 a11, .int .i64 a12, .int .i64 a13, .int .i64 a14, .int .i64 a15] 24) = w4 at *
  generalize w3.heap.size = g4 at *
  have x0 : w4.cell? ⟨g0, 0, none⟩ = some (.int .i64 a0) := (blk_cell BK4.out 0).trans rfl
  have y0 : w4.cell? ⟨g4, 0, none⟩ = some (.int .i64 a0) := (blk_cell BN4.out 0).trans rfl
  have x1 : w4.cell? ⟨g0, 1, none⟩ = some (.int .i64 a1) := (blk_cell BK4.out 1).trans rfl
  have y1 : w4.cell? ⟨g4, 1, none⟩ = some (.int .i64 a1) := (blk_cell BN4.out 1).trans rfl
  have x2 : w4.cell? ⟨g0, 2, none⟩ = some (.int .i64 a2) := (blk_cell BK4.out 2).trans rfl
  have y2 : w4.cell? ⟨g4, 2, none⟩ = some (.int .i64 a2) := (blk_cell BN4.out 2).trans rfl
  have x3 : w4.cell? ⟨g0, 3, none⟩ = some (.int .i64 a3) := (blk_cell BK4.out 3).trans rfl
  have y3 : w4.cell? ⟨g4, 3, none⟩ = some (.int .i64 a3) := (blk_cell BN4.out 3).trans rfl
  have x4 : w4.cell? ⟨g0, 4, none⟩ = some (.int .i64 a4) := (blk_cell BK4.out 4).trans rfl
  have y4 : w4.cell? ⟨g4, 4, none⟩ = some (.int .i64 a4) := (blk_cell BN4.out 4).trans rfl
  have x5 : w4.cell? ⟨g0, 5, none⟩ = some (.int .i64 a5) := (blk_cell BK4.out 5).trans rfl
  have y5 : w4.cell? ⟨g4, 5, none⟩ = some (.int .i64 a5) := (blk_cell BN4.out 5).trans rfl
  have x6 : w4.cell? ⟨g0, 6, none⟩ = some (.int .i64 a6) := (blk_cell BK4.out 6).trans rfl
  have y6 : w4.cell? ⟨g4, 6, none⟩ = some (.int .i64 a6) := (blk_cell BN4.out 6).trans rfl
  have x7 : w4.cell? ⟨g0, 7, none⟩ = some (.int .i64 a7) := (blk_cell BK4.out 7).trans rfl
  have y7 : w4.cell? ⟨g4, 7, none⟩ = some (.int .i64 a7) := (blk_cell BN4.out 7).trans rfl
  have x8 : w4.cell? ⟨g0, 8, none⟩ = some (.int .i64 a8) := (blk_cell BK4.out 8).trans rfl
  have y8 : w4.cell? ⟨g4, 8, none⟩ = some (.int .i64 a8) := (blk_cell BN4.out 8).trans rfl
  have x9 : w4.cell? ⟨g0, 9, none⟩ = some (.int .i64 a9) := (blk_cell BK4.out 9).trans rfl
  have y9 : w4.cell? ⟨g4, 9, none⟩ = some (.int .i64 a9) := (blk_cell BN4.out 9).trans rfl
  have x10 : w4.cell? ⟨g0, 10, none⟩ = some (.int .i64 a10) := (blk_cell BK4.out 10).trans rfl
  have y10 : w4.cell? ⟨g4, 10, none⟩ = some (.int .i64 a10) := (blk_cell BN4.out 10).trans rfl
  have x11 : w4.cell? ⟨g0, 11, none⟩ = some (.int .i64 a11) := (blk_cell BK4.out 11).trans rfl
  have y11 : w4.cell? ⟨g4, 11, none⟩ = some (.int .i64 a11) := (blk_cell BN4.out 11).trans rfl
  have x12 : w4.cell? ⟨g0, 12, none⟩ = some (.int .i64 a12) := (blk_cell BK4.out 12).trans rfl
  have y12 : w4.cell? ⟨g4, 12, none⟩ = some (.int .i64 a12) := (blk_cell BN4.out 12).trans rfl
  have x13 : w4.cell? ⟨g0, 13, none⟩ = some (.int .i64 a13) := (blk_cell BK4.out 13).trans rfl
  have y13 : w4.cell? ⟨g4, 13, none⟩ = some (.int .i64 a13) := (blk_cell BN4.out 13).trans rfl
  have x14 : w4.cell? ⟨g0, 14, none⟩ = some (.int .i64 a14) := (blk_cell BK4.out 14).trans rfl
  have y14 : w4.cell? ⟨g4, 14, none⟩ = some (.int .i64 a14) := (blk_cell BN4.out 14).trans rfl
  have x15 : w4.cell? ⟨g0, 15, none⟩ = some (.int .i64 a15) := (blk_cell BK4.out 15).trans rfl
  have y15 : w4.cell? ⟨g4, 15, none⟩ = some (.int .i64 a15) := (blk_cell BN4.out 15).trans rfl
  go_wp2_with fail
  as_aux_lemma =>
    refine (own_any a0 a1 a2 a3 a4 a5 a6 a7 a8 a9 a10 a11 a12 a13 a14 a15 w4).mono ?_
    rintro e w5 ⟨A5, c5, rfl, hC5, hc5, hb5⟩
    have BK5 := Aside0.mk ((hb5.block _ (blk_lt BK4.out)).trans BK4.out)
    have BN5 := Aside0.mk ((hb5.block _ (blk_lt BN4.out)).trans BN4.out)
    have HB5 := Aside0.mk (HB4.out.trans (hb5.mono (Nat.le_of_lt (blk_lt BK4.out))))
    clear hb5 x0 x1 x2 x3 x4 x5 x6 x7 x8 x9 x10 x11 x12 x13 x14 x15 y0 y1 y2 y3 y4 y5 y6 y7 y8 y9 y10 y11 y12 y13 y14 y15
    go_wp2_with fail
    refine (reftext_any A5 c5 [a0, a1, a2, a3, a4, a5, a6, a7, a8, a9, a10, a11, a12, a13, a14, a15] rfl HN.out w5 hC5 hc5).mono ?_
    rintro e w6 ⟨rfl, hb6⟩
    have BK6 := Aside0.mk ((hb6.block _ (blk_lt BK5.out)).trans BK5.out)
    have BN6 := Aside0.mk ((hb6.block _ (blk_lt BN5.out)).trans BN5.out)
    have HB6 := Aside0.mk (HB5.out.trans (hb6.mono (Nat.le_of_lt (blk_lt BK5.out))))
    clear hb6 hC5 hc5
    have x0 : w6.cell? ⟨g0, 0, none⟩ = some (.int .i64 a0) := (blk_cell BK6.out 0).trans rfl
    have x1 : w6.cell? ⟨g0, 1, none⟩ = some (.int .i64 a1) := (blk_cell BK6.out 1).trans rfl
    have x2 : w6.cell? ⟨g0, 2, none⟩ = some (.int .i64 a2) := (blk_cell BK6.out 2).trans rfl
    have x3 : w6.cell? ⟨g0, 3, none⟩ = some (.int .i64 a3) := (blk_cell BK6.out 3).trans rfl
    have x4 : w6.cell? ⟨g0, 4, none⟩ = some (.int .i64 a4) := (blk_cell BK6.out 4).trans rfl
    have x5 : w6.cell? ⟨g0, 5, none⟩ = some (.int .i64 a5) := (blk_cell BK6.out 5).trans rfl
    have x6 : w6.cell? ⟨g0, 6, none⟩ = some (.int .i64 a6) := (blk_cell BK6.out 6).trans rfl
    have x7 : w6.cell? ⟨g0, 7, none⟩ = some (.int .i64 a7) := (blk_cell BK6.out 7).trans rfl
    have x8 : w6.cell? ⟨g0, 8, none⟩ = some (.int .i64 a8) := (blk_cell BK6.out 8).trans rfl
    have x9 : w6.cell? ⟨g0, 9, none⟩ = some (.int .i64 a9) := (blk_cell BK6.out 9).trans rfl
    have x10 : w6.cell? ⟨g0, 10, none⟩ = some (.int .i64 a10) := (blk_cell BK6.out 10).trans rfl
    have x11 : w6.cell? ⟨g0, 11, none⟩ = some (.int .i64 a11) := (blk_cell BK6.out 11).trans rfl
    have x12 : w6.cell? ⟨g0, 12, none⟩ = some (.int .i64 a12) := (blk_cell BK6.out 12).trans rfl
    have x13 : w6.cell? ⟨g0, 13, none⟩ = some (.int .i64 a13) := (blk_cell BK6.out 13).trans rfl
    have x14 : w6.cell? ⟨g0, 14, none⟩ = some (.int .i64 a14) := (blk_cell BK6.out 14).trans rfl
    have x15 : w6.cell? ⟨g0, 15, none⟩ = some (.int .i64 a15) := (blk_cell BK6.out 15).trans rfl
    go_wp2_with fail
    as_aux_lemma =>
      refine (valid_any a0 a1 a2 a3 a4 a5 a6 a7 a8 a9 a10 a11 a12 a13 a14 a15 w6).mono ?_
      rintro e w7 ⟨rfl, hb7⟩
      have BK7 := Aside0.mk ((hb7.block _ (blk_lt BK6.out)).trans BK6.out)
      have BN7 := Aside0.mk ((hb7.block _ (blk_lt BN6.out)).trans BN6.out)
      have HB7 := Aside0.mk (HB6.out.trans (hb7.mono (Nat.le_of_lt (blk_lt BK6.out))))
      clear hb7 x0 x1 x2 x3 x4 x5 x6 x7 x8 x9 x10 x11 x12 x13 x14 x15
      rw [if_pos HV.out]
      have x0 : w7.cell? ⟨g0, 0, none⟩ = some (.int .i64 a0) := (blk_cell BK7.out 0).trans rfl
      have x1 : w7.cell? ⟨g0, 1, none⟩ = some (.int .i64 a1) := (blk_cell BK7.out 1).trans rfl
      have x2 : w7.cell? ⟨g0, 2, none⟩ = some (.int .i64 a2) := (blk_cell BK7.out 2).trans rfl
      have x3 : w7.cell? ⟨g0, 3, none⟩ = some (.int .i64 a3) := (blk_cell BK7.out 3).trans rfl
      have x4 : w7.cell? ⟨g0, 4, none⟩ = some (.int .i64 a4) := (blk_cell BK7.out 4).trans rfl
      have x5 : w7.cell? ⟨g0, 5, none⟩ = some (.int .i64 a5) := (blk_cell BK7.out 5).trans rfl
      have x6 : w7.cell? ⟨g0, 6, none⟩ = some (.int .i64 a6) := (blk_cell BK7.out 6).trans rfl
      have x7 : w7.cell? ⟨g0, 7, none⟩ = some (.int .i64 a7) := (blk_cell BK7.out 7).trans rfl
      have x8 : w7.cell? ⟨g0, 8, none⟩ = some (.int .i64 a8) := (blk_cell BK7.out 8).trans rfl
      have x9 : w7.cell? ⟨g0, 9, none⟩ = some (.int .i64 a9) := (blk_cell BK7.out 9).trans rfl
      have x10 : w7.cell? ⟨g0, 10, none⟩ = some (.int .i64 a10) := (blk_cell BK7.out 10).trans rfl
      have x11 : w7.cell? ⟨g0, 11, none⟩ = some (.int .i64 a11) := (blk_cell BK7.out 11).trans rfl
      have x12 : w7.cell? ⟨g0, 12, none⟩ = some (.int .i64 a12) := (blk_cell BK7.out 12).trans rfl
      have x13 : w7.cell? ⟨g0, 13, none⟩ = some (.int .i64 a13) := (blk_cell BK7.out 13).trans rfl
      have x14 : w7.cell? ⟨g0, 14, none⟩ = some (.int .i64 a14) := (blk_cell BK7.out 14).trans rfl
      have x15 : w7.cell? ⟨g0, 15, none⟩ = some (.int .i64 a15) := (blk_cell BK7.out 15).trans rfl
      have y0 : w7.cell? ⟨g4, 0, none⟩ = some (.int .i64 a0) := (blk_cell BN7.out 0).trans rfl
      have y1 : w7.cell? ⟨g4, 1, none⟩ = some (.int .i64 a1) := (blk_cell BN7.out 1).trans rfl
      have y2 : w7.cell? ⟨g4, 2, none⟩ = some (.int .i64 a2) := (blk_cell BN7.out 2).trans rfl
      have y3 : w7.cell? ⟨g4, 3, none⟩ = some (.int .i64 a3) := (blk_cell BN7.out 3).trans rfl
      have y4 : w7.cell? ⟨g4, 4, none⟩ = some (.int .i64 a4) := (blk_cell BN7.out 4).trans rfl
      have y5 : w7.cell? ⟨g4, 5, none⟩ = some (.int .i64 a5) := (blk_cell BN7.out 5).trans rfl
      have y6 : w7.cell? ⟨g4, 6, none⟩ = some (.int .i64 a6) := (blk_cell BN7.out 6).trans rfl
      have y7 : w7.cell? ⟨g4, 7, none⟩ = some (.int .i64 a7) := (blk_cell BN7.out 7).trans rfl
      have y8 : w7.cell? ⟨g4, 8, none⟩ = some (.int .i64 a8) := (blk_cell BN7.out 8).trans rfl
      have y9 : w7.cell? ⟨g4, 9, none⟩ = some (.int .i64 a9) := (blk_cell BN7.out 9).trans rfl
      have y10 : w7.cell? ⟨g4, 10, none⟩ = some (.int .i64 a10) := (blk_cell BN7.out 10).trans rfl
      have y11 : w7.cell? ⟨g4, 11, none⟩ = some (.int .i64 a11) := (blk_cell BN7.out 11).trans rfl
      have y12 : w7.cell? ⟨g4, 12, none⟩ = some (.int .i64 a12) := (blk_cell BN7.out 12).trans rfl
      have y13 : w7.cell? ⟨g4, 13, none⟩ = some (.int .i64 a13) := (blk_cell BN7.out 13).trans rfl
      have y14 : w7.cell? ⟨g4, 14, none⟩ = some (.int .i64 a14) := (blk_cell BN7.out 14).trans rfl
      have y15 : w7.cell? ⟨g4, 15, none⟩ = some (.int .i64 a15) := (blk_cell BN7.out 15).trans rfl
      go_wp2_with fail
      go_ret
      rw [HG.out]
      exact ⟨by simp, HB7.out⟩
end Go.Proofs.YteaihgjjplgalaaDoor
