/- The document's example, as the laws have it: conf.Parse reads it. -/
import Derived.Test.YteaihgjjplgalaaDoorDoorParse6
namespace Go.Proofs.YteaihgjjplgalaaDoor
open Go.RowKit Go.Proofs.YteaihgjjplgalaaDoorW.PrintWords Go.Proofs.YteaihgjjplgalaaDoorW.PrintLast Go.Proofs.YteaihgjjplgalaaDoorW.PrintMore
open Go.Proofs.YteaihgjjplgalaaDoor.PConfValid
set_option linter.unusedVariables false
set_option linter.unusedSimpArgs false

theorem eqA24 (d : Nat) (w : World) (x0 y0 : Int) (x1 y1 : Int) (x2 y2 : Int) (x3 y3 : Int) (x4 y4 : Int) (x5 y5 : Int) (x6 y6 : Int) (x7 y7 : Int) (x8 y8 : Int) (x9 y9 : Int) (x10 y10 : Int) (x11 y11 : Int) (x12 y12 : Int) (x13 y13 : Int) (x14 y14 : Int) (x15 y15 : Int) :
    (Op.equalIn (d + 2) 24 (.agg #[.int .i64 x0, .int .i64 x1, .int .i64 x2, .int .i64 x3, .int .i64 x4, .int .i64 x5, .int .i64 x6, .int .i64 x7, .int .i64 x8, .int .i64 x9, .int .i64 x10, .int .i64 x11, .int .i64 x12, .int .i64 x13, .int .i64 x14, .int .i64 x15]) (.agg #[.int .i64 y0, .int .i64 y1, .int .i64 y2, .int .i64 y3, .int .i64 y4, .int .i64 y5, .int .i64 y6, .int .i64 y7, .int .i64 y8, .int .i64 y9, .int .i64 y10, .int .i64 y11, .int .i64 y12, .int .i64 y13, .int .i64 y14, .int .i64 y15])).run Tryd.prog w = .ok (x0 == y0 && (x1 == y1 && (x2 == y2 && (x3 == y3 && (x4 == y4 && (x5 == y5 && (x6 == y6 && (x7 == y7 && (x8 == y8 && (x9 == y9 && (x10 == y10 && (x11 == y11 && (x12 == y12 && (x13 == y13 && (x14 == y14 && (x15 == y15)))))))))))))))) w := by
  refine eqA_of Tryd.underlying24 (by kernel_rfl) ?_
  refine eqf_cons (by rfl) (by go_simp; rfl) (by go_simp; rfl) (by go_simp) ?_
  refine eqf_cons (by rfl) (by go_simp; rfl) (by go_simp; rfl) (by go_simp) ?_
  refine eqf_cons (by rfl) (by go_simp; rfl) (by go_simp; rfl) (by go_simp) ?_
  refine eqf_cons (by rfl) (by go_simp; rfl) (by go_simp; rfl) (by go_simp) ?_
  refine eqf_cons (by rfl) (by go_simp; rfl) (by go_simp; rfl) (by go_simp) ?_
  refine eqf_cons (by rfl) (by go_simp; rfl) (by go_simp; rfl) (by go_simp) ?_
  refine eqf_cons (by rfl) (by go_simp; rfl) (by go_simp; rfl) (by go_simp) ?_
  refine eqf_cons (by rfl) (by go_simp; rfl) (by go_simp; rfl) (by go_simp) ?_
  refine eqf_cons (by rfl) (by go_simp; rfl) (by go_simp; rfl) (by go_simp) ?_
  refine eqf_cons (by rfl) (by go_simp; rfl) (by go_simp; rfl) (by go_simp) ?_
  refine eqf_cons (by rfl) (by go_simp; rfl) (by go_simp; rfl) (by go_simp) ?_
  refine eqf_cons (by rfl) (by go_simp; rfl) (by go_simp; rfl) (by go_simp) ?_
  refine eqf_cons (by rfl) (by go_simp; rfl) (by go_simp; rfl) (by go_simp) ?_
  refine eqf_cons (by rfl) (by go_simp; rfl) (by go_simp; rfl) (by go_simp) ?_
  refine eqf_cons (by rfl) (by go_simp; rfl) (by go_simp; rfl) (by go_simp) ?_
  exact eqf_last (by rfl) (by go_simp; rfl) (by go_simp; rfl) (by go_simp)
theorem awake_parse : parseR (⟨#[116, 105, 101, 114, 115, 32, 50, 10, 114, 111, 111, 109, 32, 57]⟩ : ByteArray).data.toList = ([2, 9, 5, 100, 50, 10, 20, 1000, 2147483648, 4294967296, 1073741824, 0, 1099511627776, 64, 4, 4], 0) := by decide +kernel
theorem most_is (a0 a1 a2 a3 a4 a5 a6 a7 a8 a9 a10 a11 a12 a13 a14 a15 : Int) (v : Int) (hv : wrap64 (a0 * 128) = v) (w : World) :
    Calls Tryd.prog 17 #[.agg #[.int .i64 a0, .int .i64 a1, .int .i64 a2, .int .i64 a3, .int .i64 a4, .int .i64 a5, .int .i64 a6, .int .i64 a7, .int .i64 a8, .int .i64 a9, .int .i64 a10, .int .i64 a11, .int .i64 a12, .int .i64 a13, .int .i64 a14, .int .i64 a15]] w fun e w' => e = .returned (.int .i64 v) ∧ Below w.heap.size w w' :=
  conf_Config_Most.calls a0 a1 a2 a3 a4 a5 a6 a7 a8 a9 a10 a11 a12 a13 a14 a15 v w (by unfold conf_Config_Most.f; rw [hv])
set_option maxRecDepth 100000 in
set_option maxHeartbeats 8000000 in
theorem awake_any (w : World) (hL : LibAt w) :
    Calls Tryd.prog 7 #[] w fun e w' => e = .returned (.bool true) ∧ Below w.heap.size w w' := by
  have hP := parse_any ⟨#[116, 105, 101, 114, 115, 32, 50, 10, 114, 111, 111, 109, 32, 57]⟩ w hL
  rw [awake_parse] at hP
  go_enter Tryd.func7, Tryd.ntmps7
  go_wp2_with fail
  refine hP.mono ?_
  rintro e w1 ⟨rfl, hb1⟩
  clear hP
  have HB1 := Aside0.mk hb1
  clear hb1
  simp only [cfgV, List.map_cons, List.map_nil]
  have BK1 := Aside0.mk (heap_alloc_new w1 (.cells #[.int .i64 2, .int .i64 9, .int .i64 5, .int .i64 100, .int .i64 50, .int .i64 10, .int .i64 20, .int .i64 1000, .int .i64 2147483648, .int .i64 4294967296, .int .i64 1073741824, .int .i64 0, .int .i64 1099511627776, .int .i64 64, .int .i64 4, .int .i64 4] 24))
  have HB2 := Aside0.mk (HB1.out.alloc HB1.out.size (.cells #[.int .i64 2, .int .i64 9, .int .i64 5, .int .i64 100, .int .i64 50, .int .i64 10, .int .i64 20, .int .i64 1000, .int .i64 2147483648, .int .i64 4294967296, .int .i64 1073741824, .int .i64 0, .int .i64 1099511627776, .int .i64 64, .int .i64 4, .int .i64 4] 24))
  have hlt1 : w1.heap.size < (w1.alloc (.cells #[.int .i64 2, .int .i64 9, .int .i64 5, .int .i64 100, .int .i64 50, .int .i64 10, .int .i64 20, .int .i64 1000, .int .i64 2147483648, .int .i64 4294967296, .int .i64 1073741824, .int .i64 0, .int .i64 1099511627776, .int .i64 64, .int .i64 4, .int .i64 4] 24)).heap.size := by simp
  go_wp2_with fail
  refine (default_any _).mono ?_
  rintro e w2 ⟨rfl, hb2⟩
  have BK2 := Aside0.mk ((hb2.block _ hlt1).trans BK1.out)
  have HB3 := Aside0.mk (HB2.out.trans (hb2.mono HB2.out.size))
  have hg2 : w1.heap.size < w2.heap.size := blk_lt BK2.out
  clear hb2 hlt1
  have BN := Aside0.mk (heap_alloc_new w2 (.cells #[.int .i64 2, .int .i64 9, .int .i64 5, .int .i64 100, .int .i64 50, .int .i64 10, .int .i64 20, .int .i64 1000, .int .i64 2147483648, .int .i64 4294967296, .int .i64 1073741824, .int .i64 0, .int .i64 1099511627776, .int .i64 64, .int .i64 4, .int .i64 4] 24))
  have BO := Aside0.mk (blk_alloc BK2.out (.cells #[.int .i64 2, .int .i64 9, .int .i64 5, .int .i64 100, .int .i64 50, .int .i64 10, .int .i64 20, .int .i64 1000, .int .i64 2147483648, .int .i64 4294967296, .int .i64 1073741824, .int .i64 0, .int .i64 1099511627776, .int .i64 64, .int .i64 4, .int .i64 4] 24))
  have HB4 := Aside0.mk (HB3.out.alloc HB3.out.size (.cells #[.int .i64 2, .int .i64 9, .int .i64 5, .int .i64 100, .int .i64 50, .int .i64 10, .int .i64 20, .int .i64 1000, .int .i64 2147483648, .int .i64 4294967296, .int .i64 1073741824, .int .i64 0, .int .i64 1099511627776, .int .i64 64, .int .i64 4, .int .i64 4] 24))
  go_upto_region 4 with fail
  generalize w2.alloc (.cells #[.int .i64 2, .int .i64 9, .int .i64 5, .int .i64 100, .int .i64 50, .int .i64 10, .int .i64 20, .int .i64 1000, .int .i64 2147483648, .int .i64 4294967296, .int .i64 1073741824, .int .i64 0, .int .i64 1099511627776, .int .i64 64, .int .i64 4, .int .i64 4] 24) = W at *
  generalize w1.heap.size = g1 at *
  generalize w2.heap.size = g2 at *
  clear BK1 BK2 HB1 HB2 HB3 hg2
  have x0 : W.cell? ⟨g1, 0, none⟩ = some (.int .i64 2) := (blk_cell BO.out 0).trans rfl
  have y0 : W.cell? ⟨g2, 0, none⟩ = some (.int .i64 2) := (blk_cell BN.out 0).trans rfl
  have x1 : W.cell? ⟨g1, 1, none⟩ = some (.int .i64 9) := (blk_cell BO.out 1).trans rfl
  have y1 : W.cell? ⟨g2, 1, none⟩ = some (.int .i64 9) := (blk_cell BN.out 1).trans rfl
  have x2 : W.cell? ⟨g1, 2, none⟩ = some (.int .i64 5) := (blk_cell BO.out 2).trans rfl
  have y2 : W.cell? ⟨g2, 2, none⟩ = some (.int .i64 5) := (blk_cell BN.out 2).trans rfl
  have x3 : W.cell? ⟨g1, 3, none⟩ = some (.int .i64 100) := (blk_cell BO.out 3).trans rfl
  have y3 : W.cell? ⟨g2, 3, none⟩ = some (.int .i64 100) := (blk_cell BN.out 3).trans rfl
  have x4 : W.cell? ⟨g1, 4, none⟩ = some (.int .i64 50) := (blk_cell BO.out 4).trans rfl
  have y4 : W.cell? ⟨g2, 4, none⟩ = some (.int .i64 50) := (blk_cell BN.out 4).trans rfl
  have x5 : W.cell? ⟨g1, 5, none⟩ = some (.int .i64 10) := (blk_cell BO.out 5).trans rfl
  have y5 : W.cell? ⟨g2, 5, none⟩ = some (.int .i64 10) := (blk_cell BN.out 5).trans rfl
  have x6 : W.cell? ⟨g1, 6, none⟩ = some (.int .i64 20) := (blk_cell BO.out 6).trans rfl
  have y6 : W.cell? ⟨g2, 6, none⟩ = some (.int .i64 20) := (blk_cell BN.out 6).trans rfl
  have x7 : W.cell? ⟨g1, 7, none⟩ = some (.int .i64 1000) := (blk_cell BO.out 7).trans rfl
  have y7 : W.cell? ⟨g2, 7, none⟩ = some (.int .i64 1000) := (blk_cell BN.out 7).trans rfl
  have x8 : W.cell? ⟨g1, 8, none⟩ = some (.int .i64 2147483648) := (blk_cell BO.out 8).trans rfl
  have y8 : W.cell? ⟨g2, 8, none⟩ = some (.int .i64 2147483648) := (blk_cell BN.out 8).trans rfl
  have x9 : W.cell? ⟨g1, 9, none⟩ = some (.int .i64 4294967296) := (blk_cell BO.out 9).trans rfl
  have y9 : W.cell? ⟨g2, 9, none⟩ = some (.int .i64 4294967296) := (blk_cell BN.out 9).trans rfl
  have x10 : W.cell? ⟨g1, 10, none⟩ = some (.int .i64 1073741824) := (blk_cell BO.out 10).trans rfl
  have y10 : W.cell? ⟨g2, 10, none⟩ = some (.int .i64 1073741824) := (blk_cell BN.out 10).trans rfl
  have x11 : W.cell? ⟨g1, 11, none⟩ = some (.int .i64 0) := (blk_cell BO.out 11).trans rfl
  have y11 : W.cell? ⟨g2, 11, none⟩ = some (.int .i64 0) := (blk_cell BN.out 11).trans rfl
  have x12 : W.cell? ⟨g1, 12, none⟩ = some (.int .i64 1099511627776) := (blk_cell BO.out 12).trans rfl
  have y12 : W.cell? ⟨g2, 12, none⟩ = some (.int .i64 1099511627776) := (blk_cell BN.out 12).trans rfl
  have x13 : W.cell? ⟨g1, 13, none⟩ = some (.int .i64 64) := (blk_cell BO.out 13).trans rfl
  have y13 : W.cell? ⟨g2, 13, none⟩ = some (.int .i64 64) := (blk_cell BN.out 13).trans rfl
  have x14 : W.cell? ⟨g1, 14, none⟩ = some (.int .i64 4) := (blk_cell BO.out 14).trans rfl
  have y14 : W.cell? ⟨g2, 14, none⟩ = some (.int .i64 4) := (blk_cell BN.out 14).trans rfl
  have x15 : W.cell? ⟨g1, 15, none⟩ = some (.int .i64 4) := (blk_cell BO.out 15).trans rfl
  have y15 : W.cell? ⟨g2, 15, none⟩ = some (.int .i64 4) := (blk_cell BN.out 15).trans rfl
  go_wp2_with fail
  refine (most_is 2 9 5 100 50 10 20 1000 2147483648 4294967296 1073741824 0 1099511627776 64 4 4 256 (by decide +kernel) _).mono ?_
  rintro e w3 ⟨rfl, hb3⟩
  have HB5 := Aside0.mk (HB4.out.trans (hb3.mono HB4.out.size))
  clear hb3
  go_wp2_with fail
  go_ret
  exact ⟨rfl, HB5.out⟩
end Go.Proofs.YteaihgjjplgalaaDoor
