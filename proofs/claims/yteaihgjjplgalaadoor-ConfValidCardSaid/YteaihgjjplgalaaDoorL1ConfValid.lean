/- The law ConfValid, walked (written by mkcv.py). -/
import Derived.Test.YteaihgjjplgalaaDoorL0ConfValid
import Derived.Deep.RegionWith
namespace Go.Proofs.YteaihgjjplgalaaDoor
open Go.RowKit Go.Proofs.YteaihgjjplgalaaDoorW.PrintWords Go.Proofs.YteaihgjjplgalaaDoorW.PrintLast Go.Proofs.YteaihgjjplgalaaDoorW.PrintMore
set_option linter.unusedVariables false
set_option linter.unusedSimpArgs false

set_option maxRecDepth 100000 in
set_option maxHeartbeats 8000000 in
theorem confValid_any (w0 : World) (a0 a1 a2 a3 a4 a5 a6 a7 a8 a9 a10 a11 a12 a13 a14 a15 : Int) (hn : I64c [a0, a1, a2, a3, a4, a5, a6, a7, a8, a9, a10, a11, a12, a13, a14, a15]) (hL : LibAt w0) :
    Calls Tryd.prog 5 #[.agg #[.int .i64 a0, .int .i64 a1, .int .i64 a2, .int .i64 a3, .int .i64 a4, .int .i64 a5, .int .i64 a6, .int .i64 a7, .int .i64 a8, .int .i64 a9, .int .i64 a10, .int .i64 a11, .int .i64 a12, .int .i64 a13, .int .i64 a14, .int .i64 a15]] w0 fun e w' => e = .returned (.bool true) ∧ Below w0.heap.size w0 w' := by
  have HL := Aside0.mk hL
  have HN := Aside0.mk hn
  clear hL hn
  have BK0 := Aside0.mk (heap_alloc_new w0 (.cells #[.int .i64 a0, .int .i64 a1, .int .i64 a2, .int .i64 a3, .int .i64 a4, .int .i64 a5, .int .i64 a6, .int .i64 a7, .int .i64 a8, .int .i64 a9, .int .i64 a10, .int .i64 a11, .int .i64 a12, .int .i64 a13, .int .i64 a14, .int .i64 a15] 24))
  have HB0 := Aside0.mk ((Below.refl w0.heap.size w0).alloc (Nat.le_refl _) (.cells #[.int .i64 a0, .int .i64 a1, .int .i64 a2, .int .i64 a3, .int .i64 a4, .int .i64 a5, .int .i64 a6, .int .i64 a7, .int .i64 a8, .int .i64 a9, .int .i64 a10, .int .i64 a11, .int .i64 a12, .int .i64 a13, .int .i64 a14, .int .i64 a15] 24))
  have hlt0 : w0.heap.size < (w0.alloc (.cells #[.int .i64 a0, .int .i64 a1, .int .i64 a2, .int .i64 a3, .int .i64 a4, .int .i64 a5, .int .i64 a6, .int .i64 a7, .int .i64 a8, .int .i64 a9, .int .i64 a10, .int .i64 a11, .int .i64 a12, .int .i64 a13, .int .i64 a14, .int .i64 a15] 24)).heap.size := by simp
  go_enter Tryd.func5, Tryd.ntmps5
  go_wp2_with fail
  refine (awake_any _ (HL.out.below HB0.out)).mono ?_
  rintro e w1 ⟨rfl, hb1⟩
  have BK1 := Aside0.mk ((hb1.block _ hlt0).trans BK0.out)
  have HB1 := Aside0.mk (HB0.out.trans (hb1.mono HB0.out.size))
  clear hb1 hlt0 BK0 HB0
  generalize hg0 : w0.heap.size = g0 at *
  have HG := Aside0.mk hg0
  clear hg0
  have x0 : w1.cell? ⟨g0, 0, none⟩ = some (.int .i64 a0) := (blk_cell BK1.out 0).trans rfl
  have x1 : w1.cell? ⟨g0, 1, none⟩ = some (.int .i64 a1) := (blk_cell BK1.out 1).trans rfl
  have x2 : w1.cell? ⟨g0, 2, none⟩ = some (.int .i64 a2) := (blk_cell BK1.out 2).trans rfl
  have x3 : w1.cell? ⟨g0, 3, none⟩ = some (.int .i64 a3) := (blk_cell BK1.out 3).trans rfl
  have x4 : w1.cell? ⟨g0, 4, none⟩ = some (.int .i64 a4) := (blk_cell BK1.out 4).trans rfl
  have x5 : w1.cell? ⟨g0, 5, none⟩ = some (.int .i64 a5) := (blk_cell BK1.out 5).trans rfl
  have x6 : w1.cell? ⟨g0, 6, none⟩ = some (.int .i64 a6) := (blk_cell BK1.out 6).trans rfl
  have x7 : w1.cell? ⟨g0, 7, none⟩ = some (.int .i64 a7) := (blk_cell BK1.out 7).trans rfl
  have x8 : w1.cell? ⟨g0, 8, none⟩ = some (.int .i64 a8) := (blk_cell BK1.out 8).trans rfl
  have x9 : w1.cell? ⟨g0, 9, none⟩ = some (.int .i64 a9) := (blk_cell BK1.out 9).trans rfl
  have x10 : w1.cell? ⟨g0, 10, none⟩ = some (.int .i64 a10) := (blk_cell BK1.out 10).trans rfl
  have x11 : w1.cell? ⟨g0, 11, none⟩ = some (.int .i64 a11) := (blk_cell BK1.out 11).trans rfl
  have x12 : w1.cell? ⟨g0, 12, none⟩ = some (.int .i64 a12) := (blk_cell BK1.out 12).trans rfl
  have x13 : w1.cell? ⟨g0, 13, none⟩ = some (.int .i64 a13) := (blk_cell BK1.out 13).trans rfl
  have x14 : w1.cell? ⟨g0, 14, none⟩ = some (.int .i64 a14) := (blk_cell BK1.out 14).trans rfl
  have x15 : w1.cell? ⟨g0, 15, none⟩ = some (.int .i64 a15) := (blk_cell BK1.out 15).trans rfl
  go_wp2_with fail
  refine (own_row a0 a1 a2 a3 a4 a5 a6 a7 a8 a9 a10 a11 a12 a13 a14 a15 w1).mono ?_
  rintro e w2 ⟨gr, c5, cur, rfl, hc5, hgr, hC5, hb2⟩
  have BK2 := Aside0.mk ((hb2.block _ (blk_lt BK1.out)).trans BK1.out)
  have HB2 := Aside0.mk (HB1.out.trans (hb2.mono (Nat.le_of_lt (blk_lt BK1.out))))
  have HC2 := Aside0.mk hC5
  clear hb2 hC5 hgr x0 x1 x2 x3 x4 x5 x6 x7 x8 x9 x10 x11 x12 x13 x14 x15
  have x0 : w2.cell? ⟨g0, 0, none⟩ = some (.int .i64 a0) := (blk_cell BK2.out 0).trans rfl
  have x1 : w2.cell? ⟨g0, 1, none⟩ = some (.int .i64 a1) := (blk_cell BK2.out 1).trans rfl
  have x2 : w2.cell? ⟨g0, 2, none⟩ = some (.int .i64 a2) := (blk_cell BK2.out 2).trans rfl
  have x3 : w2.cell? ⟨g0, 3, none⟩ = some (.int .i64 a3) := (blk_cell BK2.out 3).trans rfl
  have x4 : w2.cell? ⟨g0, 4, none⟩ = some (.int .i64 a4) := (blk_cell BK2.out 4).trans rfl
  have x5 : w2.cell? ⟨g0, 5, none⟩ = some (.int .i64 a5) := (blk_cell BK2.out 5).trans rfl
  have x6 : w2.cell? ⟨g0, 6, none⟩ = some (.int .i64 a6) := (blk_cell BK2.out 6).trans rfl
  have x7 : w2.cell? ⟨g0, 7, none⟩ = some (.int .i64 a7) := (blk_cell BK2.out 7).trans rfl
  have x8 : w2.cell? ⟨g0, 8, none⟩ = some (.int .i64 a8) := (blk_cell BK2.out 8).trans rfl
  have x9 : w2.cell? ⟨g0, 9, none⟩ = some (.int .i64 a9) := (blk_cell BK2.out 9).trans rfl
  have x10 : w2.cell? ⟨g0, 10, none⟩ = some (.int .i64 a10) := (blk_cell BK2.out 10).trans rfl
  have x11 : w2.cell? ⟨g0, 11, none⟩ = some (.int .i64 a11) := (blk_cell BK2.out 11).trans rfl
  have x12 : w2.cell? ⟨g0, 12, none⟩ = some (.int .i64 a12) := (blk_cell BK2.out 12).trans rfl
  have x13 : w2.cell? ⟨g0, 13, none⟩ = some (.int .i64 a13) := (blk_cell BK2.out 13).trans rfl
  have x14 : w2.cell? ⟨g0, 14, none⟩ = some (.int .i64 a14) := (blk_cell BK2.out 14).trans rfl
  have x15 : w2.cell? ⟨g0, 15, none⟩ = some (.int .i64 a15) := (blk_cell BK2.out 15).trans rfl
  go_wp2_with fail
  refine (valid_any a0 a1 a2 a3 a4 a5 a6 a7 a8 a9 a10 a11 a12 a13 a14 a15 w2).mono ?_
  rintro e w3 ⟨rfl, hb3⟩
  have BK3 := Aside0.mk ((hb3.block _ (blk_lt BK2.out)).trans BK2.out)
  have HB3 := Aside0.mk (HB2.out.trans (hb3.mono (Nat.le_of_lt (blk_lt BK2.out))))
  have HC3 := Aside0.mk (HC2.out.below hb3)
  clear hb3 HC2 x0 x1 x2 x3 x4 x5 x6 x7 x8 x9 x10 x11 x12 x13 x14 x15
  obtain ⟨ev, hev⟩ : ∃ ev, (if validB [a0, a1, a2, a3, a4, a5, a6, a7, a8, a9, a10, a11, a12, a13, a14, a15] = true then (0 : Int) else 1) = ev := ⟨_, rfl⟩
  rw [hev]
  have HEV := Lib.hid hev
  clear hev
  go_upto_region 5 with fail
  refine wp_region_any (by kernel_rfl) ?_
  change wpAny _ _ _ _ _ _ _ (World.drew _)
  have HI0 : Aside0 (Inv5 a0 a1 a2 a3 a4 a5 a6 a7 a8 a9 a10 a11 a12 a13 a14 a15 w0 g0 gr cur #[.int .i64 a0, .int .i64 a1, .int .i64 a2, .int .i64 a3, .int .i64 a4, .int .i64 a5, .int .i64 a6, .int .i64 a7, .int .i64 a8, .int .i64 a9, .int .i64 a10, .int .i64 a11, .int .i64 a12, .int .i64 a13, .int .i64 a14, .int .i64 a15] #[.int .i64 a2, .int .i64 a3] #[.int .i64 a4, .int .i64 a5, .int .i64 a6] #[.int .i64 a8, .int .i64 a9, .int .i64 a10, .int .i64 a11, .int .i64 a12, .int .i64 a13, .int .i64 (wrap64 (a0 * 128))] false false false false false false false false false false false false undef undef undef undef undef undef undef undef undef w3.drew) := ⟨{ rw_ := HC3.out.below ((Below.refl w3.heap.size w3).drew), bel := below_drew1 HB3.out, bk := blk_drew BK3.out, h0 := fun h => (by cases h), h1 := fun h => (by cases h), h2 := fun h => (by cases h), h3 := fun h => (by cases h), h4 := fun h => (by cases h), h5 := fun h => (by cases h), h6 := fun h => (by cases h), h7 := fun h => (by cases h), h8 := fun h => (by cases h), d9 := fun h => (by cases h), d10 := fun h => (by cases h), d11 := fun h => (by cases h) }⟩
  generalize w3.drew = w4 at *
  clear HC3 HB3 BK3
  refine wpAny_inv (fun l a w => ∃ b0 b1 b2 b3 b4 b5 b6 b7 b8 b9 b10 b11 : Bool, ∃ v14 v15 v16 v17 v18 v19 v5 v6 v7 : Value, l = #[b0, b1, b2, b3, b4, b5, b6, b7, b8, b9, b10, b11] ∧ a = act5 (.agg #[.int .i64 a0, .int .i64 a1, .int .i64 a2, .int .i64 a3, .int .i64 a4, .int .i64 a5, .int .i64 a6, .int .i64 a7, .int .i64 a8, .int .i64 a9, .int .i64 a10, .int .i64 a11, .int .i64 a12, .int .i64 a13, .int .i64 a14, .int .i64 a15]) g0 gr c5 ev v14 v15 v16 v17 v18 v19 v5 v6 v7 ∧ Inv5 a0 a1 a2 a3 a4 a5 a6 a7 a8 a9 a10 a11 a12 a13 a14 a15 w0 g0 gr cur #[.int .i64 a0, .int .i64 a1, .int .i64 a2, .int .i64 a3, .int .i64 a4, .int .i64 a5, .int .i64 a6, .int .i64 a7, .int .i64 a8, .int .i64 a9, .int .i64 a10, .int .i64 a11, .int .i64 a12, .int .i64 a13, .int .i64 a14, .int .i64 a15] #[.int .i64 a2, .int .i64 a3] #[.int .i64 a4, .int .i64 a5, .int .i64 a6] #[.int .i64 a8, .int .i64 a9, .int .i64 a10, .int .i64 a11, .int .i64 a12, .int .i64 a13, .int .i64 (wrap64 (a0 * 128))] b0 b1 b2 b3 b4 b5 b6 b7 b8 b9 b10 b11 v14 v15 v16 v17 v18 v19 v5 v6 v7 w) ?_ ?_ _ _ _ _ (by decide) ⟨false, false, false, false, false, false, false, false, false, false, false, false, undef, undef, undef, undef, undef, undef, undef, undef, undef, rfl, rfl, HI0.out⟩
  · intro l a w5 hl5 hr5
    obtain ⟨b0, b1, b2, b3, b4, b5, b6, b7, b8, b9, b10, b11, v14, v15, v16, v17, v18, v19, v5, v6, v7, rfl, rfl, hI5⟩ := hl5
    have hall := ready_nil_all (by kernel_rfl) hr5
    obtain rfl : b0 = true := by simpa using hall 0 (by decide)
    obtain rfl : b1 = true := by simpa using hall 1 (by decide)
    obtain rfl : b2 = true := by simpa using hall 2 (by decide)
    obtain rfl : b3 = true := by simpa using hall 3 (by decide)
    obtain rfl : b4 = true := by simpa using hall 4 (by decide)
    obtain rfl : b5 = true := by simpa using hall 5 (by decide)
    obtain rfl : b6 = true := by simpa using hall 6 (by decide)
    obtain rfl : b7 = true := by simpa using hall 7 (by decide)
    obtain rfl : b8 = true := by simpa using hall 8 (by decide)
    obtain rfl : b9 = true := by simpa using hall 9 (by decide)
    obtain rfl : b10 = true := by simpa using hall 10 (by decide)
    obtain rfl : b11 = true := by simpa using hall 11 (by decide)
    obtain rfl := hI5.h0 rfl
    obtain rfl := hI5.h1 rfl
    obtain rfl := hI5.h2 rfl
    obtain rfl := hI5.h3 rfl
    obtain rfl := hI5.h4 rfl
    obtain rfl := hI5.h5 rfl
    obtain ⟨g5, rfl, hg5, hk5⟩ := hI5.h6 rfl
    obtain ⟨g6, rfl, hg6, hk6⟩ := hI5.h7 rfl
    obtain ⟨g7, rfl, hg7, hk7⟩ := hI5.h8 rfl
    clear hall hr5
    have HF : Aside0 (Fin5 a0 a1 a2 a3 a4 a5 a6 a7 a8 a9 a10 a11 a12 a13 a14 a15 w0 g0 gr cur g5 g6 g7 w5) := ⟨⟨hI5.rw_, hI5.bel, hI5.bk, by rw [if_pos rfl] at hk5; exact hk5, by rw [if_pos rfl] at hk6; exact hk6, by rw [if_pos rfl] at hk7; exact hk7⟩⟩
    clear hI5 hk5 hk6 hk7 hg5 hg6 hg7
    dsimp only [act5]
    obtain ⟨x0, x1, x2, x3, x4, x5, x6, x7, x8, x9, x10, x11, x12, x13, x14, x15⟩ := HF.out.x
    obtain ⟨k0, k1⟩ := HF.out.k
    obtain ⟨m0, m1, m2⟩ := HF.out.m
    obtain ⟨p0, p1, p2, p3, p4, p5, p6⟩ := HF.out.p
    go_upto_region 8 with fail
    clear k0 k1
    by_cases hv : validB [a0, a1, a2, a3, a4, a5, a6, a7, a8, a9, a10, a11, a12, a13, a14, a15] = true
    · obtain rfl : ev = 0 := by have := HEV.out; rw [if_pos hv] at this; exact this.symm
      have hvb := Lib.hid hv
      rw [validB_is] at hv
      have hP := of_decide_eq_true hv
      clear hv
      have HM1 := Aside0.mk (fun W => PConfValid.conf_Config_Most.calls a0 a1 a2 a3 a4 a5 a6 a7 a8 a9 a10 a11 a12 a13 a14 a15 (wrap64 (a0 * 128)) W rfl)
      have HM2 := Aside0.mk (fun W => PConfValid.pid_Params_Right.calls a8 a9 a10 a11 a12 a13 (wrap64 (a0 * 128)) true W (by rw [pidright_f]; congr 1; rw [decide_eq_true_eq]; simp only [wrap64]; unfold validP at hP; omega))
      have HM3 := Aside0.mk (fun W => PConfValid.mode_Params_Right.calls a4 a5 a6 true W (by rw [moderight_f]; congr 1; rw [decide_eq_true_eq]; unfold validP at hP; omega))
      have hmul : wrap64 (128 * a0) = wrap64 (a0 * 128) := by rw [Int.mul_comm]
      clear hP
      have HFd := Aside0.mk HF.out.drew
      clear HF x0 x1 x2 x3 x4 x5 x6 x7 x8 x9 x10 x11 x12 x13 x14 x15 m0 m1 m2 p0 p1 p2 p3 p4 p5 p6
      have hmul2 : IntKind.i64.wrap (128 * a0) = wrap64 (a0 * 128) := (i64_w _).trans hmul
      refine wp_region_any (by kernel_rfl) ?_
      change wpAny _ _ _ _ _ _ _ (World.drew _)
      generalize w5.drew = w6 at *
      refine (fun H => H _ _ _ _ _ _ _ _ _ _ _ _ _ _ _ _ _ _ _ _ _ _ _ _ _ _ _ _ _ _ _ _ _ _ _ _ _ _ _ _ _ _ _ _ _ _ _ _ _ _ _ _ _ _ _ _ _ _ _ _ _ _ _ _ _ _ _ _ _ _ _ _ _ _ _ : (∀ u20 u21 u22 u23 u24 u25 u26 u27 u28 u29 u30 u31 u32 u33 u34 u35 u36 u37 u38 u39 u40 u41 u42 u43 u44 u45 u46 u47 u48 u49 u50 u51 u52 u53 u54 u55 u56 u57 u58 u59 u60 u61 u62 u63 u64 u65 u66 u67 u68 u69 u70 u71 u72 u73 u74 u75 u76 u77 u78 u79 u80 u81 u82 u83 u84 u85 u86 u87 u88 u89 u90 u91 u92 u93 u94 : Value, wpAny _ _ _ _ _ _ (act8 a0 a1 a2 a3 a4 a5 a6 a7 a8 a9 a10 a11 a12 a13 a14 a15 g0 gr c5 g5 g6 g7 u20 u21 u22 u23 u24 u25 u26 u27 u28 u29 u30 u31 u32 u33 u34 u35 u36 u37 u38 u39 u40 u41 u42 u43 u44 u45 u46 u47 u48 u49 u50 u51 u52 u53 u54 u55 u56 u57 u58 u59 u60 u61 u62 u63 u64 u65 u66 u67 u68 u69 u70 u71 u72 u73 u74 u75 u76 u77 u78 u79 u80 u81 u82 u83 u84 u85 u86 u87 u88 u89 u90 u91 u92 u93 u94 undef undef undef undef undef undef undef undef undef undef undef undef undef undef undef undef undef undef undef undef undef undef undef undef undef undef undef) w6) → _) ?_
      intro u20 u21 u22 u23 u24 u25 u26 u27 u28 u29 u30 u31 u32 u33 u34 u35 u36 u37 u38 u39 u40 u41 u42 u43 u44 u45 u46 u47 u48 u49 u50 u51 u52 u53 u54 u55 u56 u57 u58 u59 u60 u61 u62 u63 u64 u65 u66 u67 u68 u69 u70 u71 u72 u73 u74 u75 u76 u77 u78 u79 u80 u81 u82 u83 u84 u85 u86 u87 u88 u89 u90 u91 u92 u93 u94
      refine wpAny_inv (fun l a w => Fin5 a0 a1 a2 a3 a4 a5 a6 a7 a8 a9 a10 a11 a12 a13 a14 a15 w0 g0 gr cur g5 g6 g7 w ∧ ∃ b0 b1 b2 b3 b4 b5 b6 b7 b8 b9 b10 b11 b12 b13 b14 b15 b16 b17 b18 b19 b20 b21 b22 b23 b24 b25 b26 : Bool, ∃ v95 v96 v97 v98 v99 v100 v101 v102 v103 v104 v105 v106 v107 v108 v109 v110 v111 v112 v113 v114 v115 v116 v117 v118 v119 v120 v121 : Value, l = #[b0, b1, b2, b3, b4, b5, b6, b7, b8, b9, b10, b11, b12, b13, b14, b15, b16, b17, b18, b19, b20, b21, b22, b23, b24, b25, b26] ∧ a = act8 a0 a1 a2 a3 a4 a5 a6 a7 a8 a9 a10 a11 a12 a13 a14 a15 g0 gr c5 g5 g6 g7 u20 u21 u22 u23 u24 u25 u26 u27 u28 u29 u30 u31 u32 u33 u34 u35 u36 u37 u38 u39 u40 u41 u42 u43 u44 u45 u46 u47 u48 u49 u50 u51 u52 u53 u54 u55 u56 u57 u58 u59 u60 u61 u62 u63 u64 u65 u66 u67 u68 u69 u70 u71 u72 u73 u74 u75 u76 u77 u78 u79 u80 u81 u82 u83 u84 u85 u86 u87 u88 u89 u90 u91 u92 u93 u94 v95 v96 v97 v98 v99 v100 v101 v102 v103 v104 v105 v106 v107 v108 v109 v110 v111 v112 v113 v114 v115 v116 v117 v118 v119 v120 v121 ∧ Inv8 a0 a1 a2 a3 a4 a5 a6 a7 a8 a9 a10 a11 a12 a13 a14 a15 g0 g7 b0 b1 b2 b3 b4 b5 b6 b7 b8 b9 b10 b11 b12 b13 b14 b15 b16 b17 b18 b19 b20 b21 b22 b23 b24 b25 b26 v95 v96 v97 v98 v99 v100 v101 v102 v103 v104 v105 v106 v107 v108 v109 v110 v111 v112 v113 v114 v115 v116 v117 v118 v119 v120 v121) ?_ ?_ _ _ _ _ (by decide) ⟨HFd.out, false, false, false, false, false, false, false, false, false, false, false, false, false, false, false, false, false, false, false, false, false, false, false, false, false, false, false, undef, undef, undef, undef, undef, undef, undef, undef, undef, undef, undef, undef, undef, undef, undef, undef, undef, undef, undef, undef, undef, undef, undef, undef, undef, undef, undef, rfl, rfl, ⟨fun h => (by cases h), fun h => (by cases h), fun h => (by cases h), fun h => (by cases h), fun h => (by cases h), fun h => (by cases h), fun h => (by cases h), fun h => (by cases h), fun h => (by cases h), fun h => (by cases h), fun h => (by cases h), fun h => (by cases h), fun h => (by cases h), fun h => (by cases h), fun h => (by cases h), fun h => (by cases h), fun h => (by cases h), fun h => (by cases h), fun h => (by cases h), fun h => (by cases h), fun h => (by cases h), fun h => (by cases h), fun h => (by cases h), fun h => (by cases h), fun h => (by cases h), fun h => (by cases h), fun h => (by cases h)⟩⟩
      · intro l a w8 hl5 hr5
        obtain ⟨hF8, b0, b1, b2, b3, b4, b5, b6, b7, b8, b9, b10, b11, b12, b13, b14, b15, b16, b17, b18, b19, b20, b21, b22, b23, b24, b25, b26, v95, v96, v97, v98, v99, v100, v101, v102, v103, v104, v105, v106, v107, v108, v109, v110, v111, v112, v113, v114, v115, v116, v117, v118, v119, v120, v121, rfl, rfl, hI8⟩ := hl5
        have hall := ready_nil_all (by kernel_rfl) hr5
        obtain rfl : b0 = true := by simpa using hall 0 (by decide)
        obtain rfl : b1 = true := by simpa using hall 1 (by decide)
        obtain rfl : b2 = true := by simpa using hall 2 (by decide)
        obtain rfl : b3 = true := by simpa using hall 3 (by decide)
        obtain rfl : b4 = true := by simpa using hall 4 (by decide)
        obtain rfl : b5 = true := by simpa using hall 5 (by decide)
        obtain rfl : b6 = true := by simpa using hall 6 (by decide)
        obtain rfl : b7 = true := by simpa using hall 7 (by decide)
        obtain rfl : b8 = true := by simpa using hall 8 (by decide)
        obtain rfl : b9 = true := by simpa using hall 9 (by decide)
        obtain rfl : b10 = true := by simpa using hall 10 (by decide)
        obtain rfl : b11 = true := by simpa using hall 11 (by decide)
        obtain rfl : b12 = true := by simpa using hall 12 (by decide)
        obtain rfl : b13 = true := by simpa using hall 13 (by decide)
        obtain rfl : b14 = true := by simpa using hall 14 (by decide)
        obtain rfl : b15 = true := by simpa using hall 15 (by decide)
        obtain rfl : b16 = true := by simpa using hall 16 (by decide)
        obtain rfl : b17 = true := by simpa using hall 17 (by decide)
        obtain rfl : b18 = true := by simpa using hall 18 (by decide)
        obtain rfl : b19 = true := by simpa using hall 19 (by decide)
        obtain rfl : b20 = true := by simpa using hall 20 (by decide)
        obtain rfl : b21 = true := by simpa using hall 21 (by decide)
        obtain rfl : b22 = true := by simpa using hall 22 (by decide)
        obtain rfl : b23 = true := by simpa using hall 23 (by decide)
        obtain rfl : b24 = true := by simpa using hall 24 (by decide)
        obtain rfl : b25 = true := by simpa using hall 25 (by decide)
        obtain rfl : b26 = true := by simpa using hall 26 (by decide)
        obtain rfl := hI8.h0 rfl
        obtain rfl := hI8.h1 rfl
        obtain rfl := hI8.h2 rfl
        obtain rfl := hI8.h3 rfl
        obtain rfl := hI8.h4 rfl
        obtain rfl := hI8.h5 rfl
        obtain rfl := hI8.h6 rfl
        obtain rfl := hI8.h7 rfl
        obtain rfl := hI8.h8 rfl
        obtain rfl := hI8.h9 rfl
        obtain rfl := hI8.h10 rfl
        obtain rfl := hI8.h11 rfl
        obtain rfl := hI8.h12 rfl
        obtain rfl := hI8.h13 rfl
        obtain rfl := hI8.h14 rfl
        obtain rfl := hI8.h15 rfl
        obtain rfl := hI8.h16 rfl
        obtain rfl := hI8.h17 rfl
        obtain rfl := hI8.h18 rfl
        obtain rfl := hI8.h19 rfl
        obtain rfl := hI8.h20 rfl
        obtain rfl := hI8.h21 rfl
        obtain rfl := hI8.h22 rfl
        obtain rfl := hI8.h23 rfl
        obtain rfl := hI8.h24 rfl
        obtain rfl := hI8.h25 rfl
        obtain rfl := hI8.h26 rfl
        clear hall hr5 hI8 HFd
        have HF8 := Aside0.mk hF8
        clear hF8
        dsimp only [act8]
        as_aux_lemma =>
          have HB8 : Aside0 (Below w0.heap.size w0 w8) := ⟨by rw [HG.out]; exact HF8.out.bel⟩
          go_wp2_with fail
          refine (refvalid_row [a0, a1, a2, a3, a4, a5, a6, a7, a8, a9, a10, a11, a12, a13, a14, a15] rfl gr c5 cur _ HF8.out.rw_ hc5).mono ?_
          rintro e w9 ⟨rfl, hb9⟩
          rw [hvb.out]
          have HB9 := Aside0.mk (HB8.out.trans (hb9.mono HB8.out.size))
          clear hb9
          go_wp2_with fail
          refine (PConfValid.conf_Default.calls 4 64 5 100 50 10 20 1000 2147483648 4294967296 1073741824 0 1099511627776 64 4 4 _ rfl).mono ?_
          rintro e w10 ⟨rfl, hb10⟩
          have HB10 := Aside0.mk (HB9.out.trans (hb10.mono HB9.out.size))
          clear hb10 HB9
          go_wp2_with fail
          refine (refdefault_row _).mono ?_
          rintro e w11 ⟨rfl, rfl⟩
          have HN11 := Aside0.mk (heap_alloc_new w10 (.cells #[.int .i64 4, .int .i64 64, .int .i64 5, .int .i64 100, .int .i64 50, .int .i64 10, .int .i64 20, .int .i64 1000, .int .i64 2147483648, .int .i64 4294967296, .int .i64 1073741824, .int .i64 0, .int .i64 1099511627776, .int .i64 64, .int .i64 4, .int .i64 4] 2))
          have HB11 := Aside0.mk (HB10.out.alloc HB10.out.size (.cells #[.int .i64 4, .int .i64 64, .int .i64 5, .int .i64 100, .int .i64 50, .int .i64 10, .int .i64 20, .int .i64 1000, .int .i64 2147483648, .int .i64 4294967296, .int .i64 1073741824, .int .i64 0, .int .i64 1099511627776, .int .i64 64, .int .i64 4, .int .i64 4] 2))
          generalize w10.alloc (.cells #[.int .i64 4, .int .i64 64, .int .i64 5, .int .i64 100, .int .i64 50, .int .i64 10, .int .i64 20, .int .i64 1000, .int .i64 2147483648, .int .i64 4294967296, .int .i64 1073741824, .int .i64 0, .int .i64 1099511627776, .int .i64 64, .int .i64 4, .int .i64 4] 2) = w12 at *
          generalize w10.heap.size = gd at *
          go_wp2_with fail
          refine (of_row 4 64 5 100 50 10 20 1000 2147483648 4294967296 1073741824 0 1099511627776 64 4 4 gd 16 _ HN11.out (by decide)).mono ?_
          rintro e w13 ⟨rfl, hb13⟩
          have HB13 := Aside0.mk (HB11.out.trans (hb13.mono HB11.out.size))
          clear hb13 HB11 HN11
          go_wp2_with fail
          refine (PConfValid.conf_Default.calls 4 64 5 100 50 10 20 1000 2147483648 4294967296 1073741824 0 1099511627776 64 4 4 _ rfl).mono ?_
          rintro e w14 ⟨rfl, hb14⟩
          have HB14 := Aside0.mk (HB13.out.trans (hb14.mono HB13.out.size))
          clear hb14 HB13
          go_wp2_with fail
          refine (valid_any 4 64 5 100 50 10 20 1000 2147483648 4294967296 1073741824 0 1099511627776 64 4 4 _).mono ?_
          rintro e w15 ⟨rfl, hb15⟩
          rw [if_pos valid_default]
          have HB15 := Aside0.mk (HB14.out.trans (hb15.mono HB14.out.size))
          clear hb15 HB14
          go_wp2_with fail
          go_ret
          exact ⟨by simp, HB15.out⟩
      · intro l a w i hl5 hm
        obtain ⟨hFw, b0, b1, b2, b3, b4, b5, b6, b7, b8, b9, b10, b11, b12, b13, b14, b15, b16, b17, b18, b19, b20, b21, b22, b23, b24, b25, b26, v95, v96, v97, v98, v99, v100, v101, v102, v103, v104, v105, v106, v107, v108, v109, v110, v111, v112, v113, v114, v115, v116, v117, v118, v119, v120, v121, rfl, rfl, h⟩ := hl5
        obtain ⟨hun, o, ho, hall⟩ := mem_ready.1 hm
        clear hm HFd
        have ho2 := ho
        have hi : i < 27 := (Array.getElem?_eq_some_iff.1 ho).1
        have hi' : i = 0 ∨ i = 1 ∨ i = 2 ∨ i = 3 ∨ i = 4 ∨ i = 5 ∨ i = 6 ∨ i = 7 ∨ i = 8 ∨ i = 9 ∨ i = 10 ∨ i = 11 ∨ i = 12 ∨ i = 13 ∨ i = 14 ∨ i = 15 ∨ i = 16 ∨ i = 17 ∨ i = 18 ∨ i = 19 ∨ i = 20 ∨ i = 21 ∨ i = 22 ∨ i = 23 ∨ i = 24 ∨ i = 25 ∨ i = 26 := by omega
        clear hi
        rcases hi' with rfl | rfl | rfl | rfl | rfl | rfl | rfl | rfl | rfl | rfl | rfl | rfl | rfl | rfl | rfl | rfl | rfl | rfl | rfl | rfl | rfl | rfl | rfl | rfl | rfl | rfl | rfl
        · as_aux_lemma =>
            simp only [List.getElem?_toArray, List.getElem?_cons_zero, List.getElem?_cons_succ, Option.some.injEq] at ho
            subst ho
            clear hall hun 
            refine wpOp_step ho2 (fun K hK => ?_)
            dsimp only [act8]
            go_simp
            refine hK _ _ ⟨hFw, true, b1, b2, b3, b4, b5, b6, b7, b8, b9, b10, b11, b12, b13, b14, b15, b16, b17, b18, b19, b20, b21, b22, b23, b24, b25, b26, _, v96, v97, v98, v99, v100, v101, v102, v103, v104, v105, v106, v107, v108, v109, v110, v111, v112, v113, v114, v115, v116, v117, v118, v119, v120, v121, by simp, rfl, { h with h0 := fun _ => by first | rfl | (simp [hmul, hmul2]; done) }⟩
        · as_aux_lemma =>
            simp only [List.getElem?_toArray, List.getElem?_cons_zero, List.getElem?_cons_succ, Option.some.injEq] at ho
            subst ho
            have d0 := hall ⟨0, .data⟩ (by simp) (by rfl)
            obtain rfl := h.h0 (by simpa using d0)
            clear hall hun d0
            refine wpOp_step ho2 (fun K hK => ?_)
            dsimp only [act8]
            go_simp
            refine hK _ _ ⟨hFw, b0, true, b2, b3, b4, b5, b6, b7, b8, b9, b10, b11, b12, b13, b14, b15, b16, b17, b18, b19, b20, b21, b22, b23, b24, b25, b26, _, _, v97, v98, v99, v100, v101, v102, v103, v104, v105, v106, v107, v108, v109, v110, v111, v112, v113, v114, v115, v116, v117, v118, v119, v120, v121, by simp, rfl, { h with h1 := fun _ => by first | rfl | (simp [hmul, hmul2]; done) }⟩
        · as_aux_lemma =>
            simp only [List.getElem?_toArray, List.getElem?_cons_zero, List.getElem?_cons_succ, Option.some.injEq] at ho
            subst ho
            have d1 := hall ⟨1, .data⟩ (by simp) (by rfl)
            obtain rfl := h.h1 (by simpa using d1)
            clear hall hun d1
            refine wpOp_step ho2 (fun K hK => ?_)
            dsimp only [act8]
            go_simp
            refine hK _ _ ⟨hFw, b0, b1, true, b3, b4, b5, b6, b7, b8, b9, b10, b11, b12, b13, b14, b15, b16, b17, b18, b19, b20, b21, b22, b23, b24, b25, b26, v95, _, _, v98, v99, v100, v101, v102, v103, v104, v105, v106, v107, v108, v109, v110, v111, v112, v113, v114, v115, v116, v117, v118, v119, v120, v121, by simp, rfl, { h with h2 := fun _ => by first | rfl | (simp [hmul, hmul2]; done) }⟩
        · as_aux_lemma =>
            simp only [List.getElem?_toArray, List.getElem?_cons_zero, List.getElem?_cons_succ, Option.some.injEq] at ho
            subst ho
            have d2 := hall ⟨2, .guard⟩ (by simp) (by rfl)
            obtain rfl := h.h2 (by simpa using d2)
            clear hall hun d2
            refine wpOp_step ho2 (fun K hK => ?_)
            dsimp only [act8]
            go_simp
            refine hK _ _ ⟨hFw, b0, b1, b2, true, b4, b5, b6, b7, b8, b9, b10, b11, b12, b13, b14, b15, b16, b17, b18, b19, b20, b21, b22, b23, b24, b25, b26, v95, v96, _, _, v99, v100, v101, v102, v103, v104, v105, v106, v107, v108, v109, v110, v111, v112, v113, v114, v115, v116, v117, v118, v119, v120, v121, by simp, rfl, { h with h3 := fun _ => by first | rfl | (simp [hmul, hmul2]; done) }⟩
        · as_aux_lemma =>
            simp only [List.getElem?_toArray, List.getElem?_cons_zero, List.getElem?_cons_succ, Option.some.injEq] at ho
            subst ho
            have d3 := hall ⟨3, .data⟩ (by simp) (by rfl)
            have d2 := hall ⟨2, .guard⟩ (by simp) (by rfl)
            obtain rfl := h.h3 (by simpa using d3)
            obtain rfl := h.h2 (by simpa using d2)
            clear hall hun d3 d2
            obtain ⟨x0, x1, x2, x3, x4, x5, x6, x7, x8, x9, x10, x11, x12, x13, x14, x15⟩ := hFw.x
            obtain ⟨p0, p1, p2, p3, p4, p5, p6⟩ := hFw.p
            refine wpOp_step ho2 (fun K hK => ?_)
            dsimp only [act8]
            go_simp
            refine hK _ _ ⟨hFw, b0, b1, b2, b3, true, b5, b6, b7, b8, b9, b10, b11, b12, b13, b14, b15, b16, b17, b18, b19, b20, b21, b22, b23, b24, b25, b26, v95, v96, _, _, _, v100, v101, v102, v103, v104, v105, v106, v107, v108, v109, v110, v111, v112, v113, v114, v115, v116, v117, v118, v119, v120, v121, by simp, rfl, { h with h4 := fun _ => by first | rfl | (simp [hmul, hmul2]; done) }⟩
        · as_aux_lemma =>
            simp only [List.getElem?_toArray, List.getElem?_cons_zero, List.getElem?_cons_succ, Option.some.injEq] at ho
            subst ho
            have d2 := hall ⟨2, .guard⟩ (by simp) (by rfl)
            obtain rfl := h.h2 (by simpa using d2)
            clear hall hun d2
            refine wpOp_step ho2 (fun K hK => ?_)
            dsimp only [act8]
            go_simp
            refine hK _ _ ⟨hFw, b0, b1, b2, b3, b4, true, b6, b7, b8, b9, b10, b11, b12, b13, b14, b15, b16, b17, b18, b19, b20, b21, b22, b23, b24, b25, b26, v95, v96, _, v98, v99, _, v101, v102, v103, v104, v105, v106, v107, v108, v109, v110, v111, v112, v113, v114, v115, v116, v117, v118, v119, v120, v121, by simp, rfl, { h with h5 := fun _ => by first | rfl | (simp [hmul, hmul2]; done) }⟩
        · as_aux_lemma =>
            simp only [List.getElem?_toArray, List.getElem?_cons_zero, List.getElem?_cons_succ, Option.some.injEq] at ho
            subst ho
            have d5 := hall ⟨5, .data⟩ (by simp) (by rfl)
            have d2 := hall ⟨2, .guard⟩ (by simp) (by rfl)
            obtain rfl := h.h5 (by simpa using d5)
            obtain rfl := h.h2 (by simpa using d2)
            clear hall hun d5 d2
            obtain ⟨x0, x1, x2, x3, x4, x5, x6, x7, x8, x9, x10, x11, x12, x13, x14, x15⟩ := hFw.x
            obtain ⟨p0, p1, p2, p3, p4, p5, p6⟩ := hFw.p
            refine wpOp_step ho2 (fun K hK => ?_)
            dsimp only [act8]
            go_simp
            refine hK _ _ ⟨hFw, b0, b1, b2, b3, b4, b5, true, b7, b8, b9, b10, b11, b12, b13, b14, b15, b16, b17, b18, b19, b20, b21, b22, b23, b24, b25, b26, v95, v96, _, v98, v99, _, _, v102, v103, v104, v105, v106, v107, v108, v109, v110, v111, v112, v113, v114, v115, v116, v117, v118, v119, v120, v121, by simp, rfl, { h with h6 := fun _ => by first | rfl | (simp [hmul, hmul2]; done) }⟩
        · as_aux_lemma =>
            simp only [List.getElem?_toArray, List.getElem?_cons_zero, List.getElem?_cons_succ, Option.some.injEq] at ho
            subst ho
            have d6 := hall ⟨6, .data⟩ (by simp) (by rfl)
            have d2 := hall ⟨2, .guard⟩ (by simp) (by rfl)
            obtain rfl := h.h6 (by simpa using d6)
            obtain rfl := h.h2 (by simpa using d2)
            clear hall hun d6 d2
            refine wpOp_step ho2 (fun K hK => ?_)
            dsimp only [act8]
            go_simp
            refine hK _ _ ⟨hFw, b0, b1, b2, b3, b4, b5, b6, true, b8, b9, b10, b11, b12, b13, b14, b15, b16, b17, b18, b19, b20, b21, b22, b23, b24, b25, b26, v95, v96, _, v98, v99, v100, _, _, v103, v104, v105, v106, v107, v108, v109, v110, v111, v112, v113, v114, v115, v116, v117, v118, v119, v120, v121, by simp, rfl, { h with h7 := fun _ => by first | rfl | (simp [hmul, hmul2]; done) }⟩
        · as_aux_lemma =>
            simp only [List.getElem?_toArray, List.getElem?_cons_zero, List.getElem?_cons_succ, Option.some.injEq] at ho
            subst ho
            have d4 := hall ⟨4, .data⟩ (by simp) (by rfl)
            have d7 := hall ⟨7, .data⟩ (by simp) (by rfl)
            have d2 := hall ⟨2, .guard⟩ (by simp) (by rfl)
            obtain rfl := h.h4 (by simpa using d4)
            obtain rfl := h.h7 (by simpa using d7)
            obtain rfl := h.h2 (by simpa using d2)
            clear hall hun d4 d7 d2
            refine wpOp_step ho2 (fun K hK => ?_)
            dsimp only [act8]
            go_simp
            refine hK _ _ ⟨hFw, b0, b1, b2, b3, b4, b5, b6, b7, true, b9, b10, b11, b12, b13, b14, b15, b16, b17, b18, b19, b20, b21, b22, b23, b24, b25, b26, v95, v96, _, v98, _, v100, v101, _, _, v104, v105, v106, v107, v108, v109, v110, v111, v112, v113, v114, v115, v116, v117, v118, v119, v120, v121, by simp, rfl, { h with h8 := fun _ => by first | rfl | (simp [hmul, hmul2]; done) }⟩
        · as_aux_lemma =>
            simp only [List.getElem?_toArray, List.getElem?_cons_zero, List.getElem?_cons_succ, Option.some.injEq] at ho
            subst ho
            have d8 := hall ⟨8, .data⟩ (by simp) (by rfl)
            have d2 := hall ⟨2, .guard⟩ (by simp) (by rfl)
            obtain rfl := h.h8 (by simpa using d8)
            obtain rfl := h.h2 (by simpa using d2)
            clear hall hun d8 d2
            refine wpOp_step ho2 (fun K hK => ?_)
            dsimp only [act8]
            go_simp
            refine hK _ _ ⟨hFw, b0, b1, b2, b3, b4, b5, b6, b7, b8, true, b10, b11, b12, b13, b14, b15, b16, b17, b18, b19, b20, b21, b22, b23, b24, b25, b26, v95, v96, _, v98, v99, v100, v101, v102, _, _, v105, v106, v107, v108, v109, v110, v111, v112, v113, v114, v115, v116, v117, v118, v119, v120, v121, by simp, rfl, { h with h9 := fun _ => by first | rfl | (simp [hmul, hmul2]; done) }⟩
        · as_aux_lemma =>
            simp only [List.getElem?_toArray, List.getElem?_cons_zero, List.getElem?_cons_succ, Option.some.injEq] at ho
            subst ho
            have d9 := hall ⟨9, .guard⟩ (by simp) (by rfl)
            obtain rfl := h.h9 (by simpa using d9)
            clear hall hun d9
            obtain ⟨x0, x1, x2, x3, x4, x5, x6, x7, x8, x9, x10, x11, x12, x13, x14, x15⟩ := hFw.x
            refine wpOp_step ho2 (fun K hK => ?_)
            dsimp only [act8]
            go_simp
            refine hK _ _ ⟨hFw, b0, b1, b2, b3, b4, b5, b6, b7, b8, b9, true, b11, b12, b13, b14, b15, b16, b17, b18, b19, b20, b21, b22, b23, b24, b25, b26, v95, v96, v97, v98, v99, v100, v101, v102, v103, _, _, v106, v107, v108, v109, v110, v111, v112, v113, v114, v115, v116, v117, v118, v119, v120, v121, by simp, rfl, { h with h10 := fun _ => by first | rfl | (simp [hmul, hmul2]; done) }⟩
        · as_aux_lemma =>
            simp only [List.getElem?_toArray, List.getElem?_cons_zero, List.getElem?_cons_succ, Option.some.injEq] at ho
            subst ho
            have d10 := hall ⟨10, .data⟩ (by simp) (by rfl)
            have d9 := hall ⟨9, .guard⟩ (by simp) (by rfl)
            obtain rfl := h.h10 (by simpa using d10)
            obtain rfl := h.h9 (by simpa using d9)
            clear hall hun d10 d9
            refine wpOp_step ho2 (fun K hK => ?_)
            dsimp only [act8]
            go_simp
            refine (HM1.out _).mono ?_
            rintro e w' ⟨rfl, hb⟩
            refine hK _ _ ⟨hFw.below hb, b0, b1, b2, b3, b4, b5, b6, b7, b8, b9, b10, true, b12, b13, b14, b15, b16, b17, b18, b19, b20, b21, b22, b23, b24, b25, b26, v95, v96, v97, v98, v99, v100, v101, v102, v103, _, _, _, v107, v108, v109, v110, v111, v112, v113, v114, v115, v116, v117, v118, v119, v120, v121, by simp, rfl, { h with h11 := fun _ => rfl }⟩
        · as_aux_lemma =>
            simp only [List.getElem?_toArray, List.getElem?_cons_zero, List.getElem?_cons_succ, Option.some.injEq] at ho
            subst ho
            have d9 := hall ⟨9, .guard⟩ (by simp) (by rfl)
            obtain rfl := h.h9 (by simpa using d9)
            clear hall hun d9
            refine wpOp_step ho2 (fun K hK => ?_)
            dsimp only [act8]
            go_simp
            refine hK _ _ ⟨hFw, b0, b1, b2, b3, b4, b5, b6, b7, b8, b9, b10, b11, true, b13, b14, b15, b16, b17, b18, b19, b20, b21, b22, b23, b24, b25, b26, v95, v96, v97, v98, v99, v100, v101, v102, v103, _, v105, v106, _, v108, v109, v110, v111, v112, v113, v114, v115, v116, v117, v118, v119, v120, v121, by simp, rfl, { h with h12 := fun _ => by first | rfl | (simp [hmul, hmul2]; done) }⟩
        · as_aux_lemma =>
            simp only [List.getElem?_toArray, List.getElem?_cons_zero, List.getElem?_cons_succ, Option.some.injEq] at ho
            subst ho
            have d12 := hall ⟨12, .data⟩ (by simp) (by rfl)
            have d9 := hall ⟨9, .guard⟩ (by simp) (by rfl)
            obtain rfl := h.h12 (by simpa using d12)
            obtain rfl := h.h9 (by simpa using d9)
            clear hall hun d12 d9
            obtain ⟨x0, x1, x2, x3, x4, x5, x6, x7, x8, x9, x10, x11, x12, x13, x14, x15⟩ := hFw.x
            obtain ⟨p0, p1, p2, p3, p4, p5, p6⟩ := hFw.p
            refine wpOp_step ho2 (fun K hK => ?_)
            dsimp only [act8]
            go_simp
            refine hK _ _ ⟨hFw, b0, b1, b2, b3, b4, b5, b6, b7, b8, b9, b10, b11, b12, true, b14, b15, b16, b17, b18, b19, b20, b21, b22, b23, b24, b25, b26, v95, v96, v97, v98, v99, v100, v101, v102, v103, _, v105, v106, _, _, v109, v110, v111, v112, v113, v114, v115, v116, v117, v118, v119, v120, v121, by simp, rfl, { h with h13 := fun _ => by first | rfl | (simp [hmul, hmul2]; done) }⟩
        · as_aux_lemma =>
            simp only [List.getElem?_toArray, List.getElem?_cons_zero, List.getElem?_cons_succ, Option.some.injEq] at ho
            subst ho
            have d11 := hall ⟨11, .data⟩ (by simp) (by rfl)
            have d13 := hall ⟨13, .data⟩ (by simp) (by rfl)
            have d9 := hall ⟨9, .guard⟩ (by simp) (by rfl)
            obtain rfl := h.h11 (by simpa using d11)
            obtain rfl := h.h13 (by simpa using d13)
            obtain rfl := h.h9 (by simpa using d9)
            clear hall hun d11 d13 d9
            refine wpOp_step ho2 (fun K hK => ?_)
            dsimp only [act8]
            go_simp
            refine hK _ _ ⟨hFw, b0, b1, b2, b3, b4, b5, b6, b7, b8, b9, b10, b11, b12, b13, true, b15, b16, b17, b18, b19, b20, b21, b22, b23, b24, b25, b26, v95, v96, v97, v98, v99, v100, v101, v102, v103, _, v105, _, v107, _, _, v110, v111, v112, v113, v114, v115, v116, v117, v118, v119, v120, v121, by simp, rfl, { h with h14 := fun _ => by first | rfl | (simp [hmul, hmul2]; done) }⟩
        · as_aux_lemma =>
            simp only [List.getElem?_toArray, List.getElem?_cons_zero, List.getElem?_cons_succ, Option.some.injEq] at ho
            subst ho
            have d9 := hall ⟨9, .data⟩ (by simp) (by rfl)
            have d14 := hall ⟨14, .data⟩ (by simp) (by rfl)
            have d2 := hall ⟨2, .guard⟩ (by simp) (by rfl)
            obtain rfl := h.h9 (by simpa using d9)
            obtain rfl := h.h14 (by simpa using d14)
            obtain rfl := h.h2 (by simpa using d2)
            clear hall hun d9 d14 d2
            refine wpOp_step ho2 (fun K hK => ?_)
            dsimp only [act8]
            go_simp
            refine hK _ _ ⟨hFw, b0, b1, b2, b3, b4, b5, b6, b7, b8, b9, b10, b11, b12, b13, b14, true, b16, b17, b18, b19, b20, b21, b22, b23, b24, b25, b26, v95, v96, _, v98, v99, v100, v101, v102, v103, _, v105, v106, v107, v108, _, _, v111, v112, v113, v114, v115, v116, v117, v118, v119, v120, v121, by simp, rfl, { h with h15 := fun _ => by first | rfl | (simp [hmul, hmul2]; done) }⟩
        · as_aux_lemma =>
            simp only [List.getElem?_toArray, List.getElem?_cons_zero, List.getElem?_cons_succ, Option.some.injEq] at ho
            subst ho
            have d15 := hall ⟨15, .data⟩ (by simp) (by rfl)
            have d2 := hall ⟨2, .guard⟩ (by simp) (by rfl)
            obtain rfl := h.h15 (by simpa using d15)
            obtain rfl := h.h2 (by simpa using d2)
            clear hall hun d15 d2
            refine wpOp_step ho2 (fun K hK => ?_)
            dsimp only [act8]
            go_simp
            refine hK _ _ ⟨hFw, b0, b1, b2, b3, b4, b5, b6, b7, b8, b9, b10, b11, b12, b13, b14, b15, true, b17, b18, b19, b20, b21, b22, b23, b24, b25, b26, v95, v96, _, v98, v99, v100, v101, v102, v103, v104, v105, v106, v107, v108, v109, _, _, v112, v113, v114, v115, v116, v117, v118, v119, v120, v121, by simp, rfl, { h with h16 := fun _ => by first | rfl | (simp [hmul, hmul2]; done) }⟩
        · as_aux_lemma =>
            simp only [List.getElem?_toArray, List.getElem?_cons_zero, List.getElem?_cons_succ, Option.some.injEq] at ho
            subst ho
            have d16 := hall ⟨16, .guard⟩ (by simp) (by rfl)
            obtain rfl := h.h16 (by simpa using d16)
            clear hall hun d16
            obtain ⟨p0, p1, p2, p3, p4, p5, p6⟩ := hFw.p
            refine wpOp_step ho2 (fun K hK => ?_)
            dsimp only [act8]
            go_simp
            refine hK _ _ ⟨hFw, b0, b1, b2, b3, b4, b5, b6, b7, b8, b9, b10, b11, b12, b13, b14, b15, b16, true, b18, b19, b20, b21, b22, b23, b24, b25, b26, v95, v96, v97, v98, v99, v100, v101, v102, v103, v104, v105, v106, v107, v108, v109, v110, _, _, v113, v114, v115, v116, v117, v118, v119, v120, v121, by simp, rfl, { h with h17 := fun _ => by first | rfl | (simp [hmul, hmul2]; done) }⟩
        · as_aux_lemma =>
            simp only [List.getElem?_toArray, List.getElem?_cons_zero, List.getElem?_cons_succ, Option.some.injEq] at ho
            subst ho
            have d17 := hall ⟨17, .data⟩ (by simp) (by rfl)
            have d16 := hall ⟨16, .guard⟩ (by simp) (by rfl)
            obtain rfl := h.h17 (by simpa using d17)
            obtain rfl := h.h16 (by simpa using d16)
            clear hall hun d17 d16
            refine wpOp_step ho2 (fun K hK => ?_)
            dsimp only [act8]
            go_simp
            refine (HM2.out _).mono ?_
            rintro e w' ⟨rfl, hb⟩
            refine hK _ _ ⟨hFw.below hb, b0, b1, b2, b3, b4, b5, b6, b7, b8, b9, b10, b11, b12, b13, b14, b15, b16, b17, true, b19, b20, b21, b22, b23, b24, b25, b26, v95, v96, v97, v98, v99, v100, v101, v102, v103, v104, v105, v106, v107, v108, v109, v110, _, _, _, v114, v115, v116, v117, v118, v119, v120, v121, by simp, rfl, { h with h18 := fun _ => rfl }⟩
        · as_aux_lemma =>
            simp only [List.getElem?_toArray, List.getElem?_cons_zero, List.getElem?_cons_succ, Option.some.injEq] at ho
            subst ho
            have d18 := hall ⟨18, .data⟩ (by simp) (by rfl)
            have d16 := hall ⟨16, .guard⟩ (by simp) (by rfl)
            obtain rfl := h.h18 (by simpa using d18)
            obtain rfl := h.h16 (by simpa using d16)
            clear hall hun d18 d16
            refine wpOp_step ho2 (fun K hK => ?_)
            dsimp only [act8]
            go_simp
            refine hK _ _ ⟨hFw, b0, b1, b2, b3, b4, b5, b6, b7, b8, b9, b10, b11, b12, b13, b14, b15, b16, b17, b18, true, b20, b21, b22, b23, b24, b25, b26, v95, v96, v97, v98, v99, v100, v101, v102, v103, v104, v105, v106, v107, v108, v109, v110, _, v112, _, _, v115, v116, v117, v118, v119, v120, v121, by simp, rfl, { h with h19 := fun _ => by first | rfl | (simp [hmul, hmul2]; done) }⟩
        · as_aux_lemma =>
            simp only [List.getElem?_toArray, List.getElem?_cons_zero, List.getElem?_cons_succ, Option.some.injEq] at ho
            subst ho
            have d16 := hall ⟨16, .data⟩ (by simp) (by rfl)
            have d19 := hall ⟨19, .data⟩ (by simp) (by rfl)
            have d2 := hall ⟨2, .guard⟩ (by simp) (by rfl)
            obtain rfl := h.h16 (by simpa using d16)
            obtain rfl := h.h19 (by simpa using d19)
            obtain rfl := h.h2 (by simpa using d2)
            clear hall hun d16 d19 d2
            refine wpOp_step ho2 (fun K hK => ?_)
            dsimp only [act8]
            go_simp
            refine hK _ _ ⟨hFw, b0, b1, b2, b3, b4, b5, b6, b7, b8, b9, b10, b11, b12, b13, b14, b15, b16, b17, b18, b19, true, b21, b22, b23, b24, b25, b26, v95, v96, _, v98, v99, v100, v101, v102, v103, v104, v105, v106, v107, v108, v109, v110, _, v112, v113, _, _, v116, v117, v118, v119, v120, v121, by simp, rfl, { h with h20 := fun _ => by first | rfl | (simp [hmul, hmul2]; done) }⟩
        · as_aux_lemma =>
            simp only [List.getElem?_toArray, List.getElem?_cons_zero, List.getElem?_cons_succ, Option.some.injEq] at ho
            subst ho
            have d20 := hall ⟨20, .data⟩ (by simp) (by rfl)
            have d2 := hall ⟨2, .guard⟩ (by simp) (by rfl)
            obtain rfl := h.h20 (by simpa using d20)
            obtain rfl := h.h2 (by simpa using d2)
            clear hall hun d20 d2
            refine wpOp_step ho2 (fun K hK => ?_)
            dsimp only [act8]
            go_simp
            refine hK _ _ ⟨hFw, b0, b1, b2, b3, b4, b5, b6, b7, b8, b9, b10, b11, b12, b13, b14, b15, b16, b17, b18, b19, b20, true, b22, b23, b24, b25, b26, v95, v96, _, v98, v99, v100, v101, v102, v103, v104, v105, v106, v107, v108, v109, v110, v111, v112, v113, v114, _, _, v117, v118, v119, v120, v121, by simp, rfl, { h with h21 := fun _ => by first | rfl | (simp [hmul, hmul2]; done) }⟩
        · as_aux_lemma =>
            simp only [List.getElem?_toArray, List.getElem?_cons_zero, List.getElem?_cons_succ, Option.some.injEq] at ho
            subst ho
            have d21 := hall ⟨21, .guard⟩ (by simp) (by rfl)
            obtain rfl := h.h21 (by simpa using d21)
            clear hall hun d21
            obtain ⟨m0, m1, m2⟩ := hFw.m
            refine wpOp_step ho2 (fun K hK => ?_)
            dsimp only [act8]
            go_simp
            refine hK _ _ ⟨hFw, b0, b1, b2, b3, b4, b5, b6, b7, b8, b9, b10, b11, b12, b13, b14, b15, b16, b17, b18, b19, b20, b21, true, b23, b24, b25, b26, v95, v96, v97, v98, v99, v100, v101, v102, v103, v104, v105, v106, v107, v108, v109, v110, v111, v112, v113, v114, v115, _, _, v118, v119, v120, v121, by simp, rfl, { h with h22 := fun _ => by first | rfl | (simp [hmul, hmul2]; done) }⟩
        · as_aux_lemma =>
            simp only [List.getElem?_toArray, List.getElem?_cons_zero, List.getElem?_cons_succ, Option.some.injEq] at ho
            subst ho
            have d22 := hall ⟨22, .data⟩ (by simp) (by rfl)
            have d21 := hall ⟨21, .guard⟩ (by simp) (by rfl)
            obtain rfl := h.h22 (by simpa using d22)
            obtain rfl := h.h21 (by simpa using d21)
            clear hall hun d22 d21
            refine wpOp_step ho2 (fun K hK => ?_)
            dsimp only [act8]
            go_simp
            refine (HM3.out _).mono ?_
            rintro e w' ⟨rfl, hb⟩
            refine hK _ _ ⟨hFw.below hb, b0, b1, b2, b3, b4, b5, b6, b7, b8, b9, b10, b11, b12, b13, b14, b15, b16, b17, b18, b19, b20, b21, b22, true, b24, b25, b26, v95, v96, v97, v98, v99, v100, v101, v102, v103, v104, v105, v106, v107, v108, v109, v110, v111, v112, v113, v114, v115, _, _, _, v119, v120, v121, by simp, rfl, { h with h23 := fun _ => rfl }⟩
        · as_aux_lemma =>
            simp only [List.getElem?_toArray, List.getElem?_cons_zero, List.getElem?_cons_succ, Option.some.injEq] at ho
            subst ho
            have d23 := hall ⟨23, .data⟩ (by simp) (by rfl)
            have d21 := hall ⟨21, .guard⟩ (by simp) (by rfl)
            obtain rfl := h.h23 (by simpa using d23)
            obtain rfl := h.h21 (by simpa using d21)
            clear hall hun d23 d21
            refine wpOp_step ho2 (fun K hK => ?_)
            dsimp only [act8]
            go_simp
            refine hK _ _ ⟨hFw, b0, b1, b2, b3, b4, b5, b6, b7, b8, b9, b10, b11, b12, b13, b14, b15, b16, b17, b18, b19, b20, b21, b22, b23, true, b25, b26, v95, v96, v97, v98, v99, v100, v101, v102, v103, v104, v105, v106, v107, v108, v109, v110, v111, v112, v113, v114, v115, _, v117, _, _, v120, v121, by simp, rfl, { h with h24 := fun _ => by first | rfl | (simp [hmul, hmul2]; done) }⟩
        · as_aux_lemma =>
            simp only [List.getElem?_toArray, List.getElem?_cons_zero, List.getElem?_cons_succ, Option.some.injEq] at ho
            subst ho
            have d21 := hall ⟨21, .data⟩ (by simp) (by rfl)
            have d24 := hall ⟨24, .data⟩ (by simp) (by rfl)
            have d2 := hall ⟨2, .guard⟩ (by simp) (by rfl)
            obtain rfl := h.h21 (by simpa using d21)
            obtain rfl := h.h24 (by simpa using d24)
            obtain rfl := h.h2 (by simpa using d2)
            clear hall hun d21 d24 d2
            refine wpOp_step ho2 (fun K hK => ?_)
            dsimp only [act8]
            go_simp
            refine hK _ _ ⟨hFw, b0, b1, b2, b3, b4, b5, b6, b7, b8, b9, b10, b11, b12, b13, b14, b15, b16, b17, b18, b19, b20, b21, b22, b23, b24, true, b26, v95, v96, _, v98, v99, v100, v101, v102, v103, v104, v105, v106, v107, v108, v109, v110, v111, v112, v113, v114, v115, _, v117, v118, _, _, v121, by simp, rfl, { h with h25 := fun _ => by first | rfl | (simp [hmul, hmul2]; done) }⟩
        · as_aux_lemma =>
            simp only [List.getElem?_toArray, List.getElem?_cons_zero, List.getElem?_cons_succ, Option.some.injEq] at ho
            subst ho
            have d2 := hall ⟨2, .data⟩ (by simp) (by rfl)
            have d25 := hall ⟨25, .data⟩ (by simp) (by rfl)
            obtain rfl := h.h2 (by simpa using d2)
            obtain rfl := h.h25 (by simpa using d25)
            clear hall hun d2 d25
            refine wpOp_step ho2 (fun K hK => ?_)
            dsimp only [act8]
            go_simp
            refine hK _ _ ⟨hFw, b0, b1, b2, b3, b4, b5, b6, b7, b8, b9, b10, b11, b12, b13, b14, b15, b16, b17, b18, b19, b20, b21, b22, b23, b24, b25, true, v95, v96, _, v98, v99, v100, v101, v102, v103, v104, v105, v106, v107, v108, v109, v110, v111, v112, v113, v114, v115, v116, v117, v118, v119, _, _, by simp, rfl, { h with h26 := fun _ => by first | rfl | (simp [hmul, hmul2]; done) }⟩
    · obtain rfl : ev = 1 := by have := HEV.out; rw [if_neg hv] at this; exact this.symm
      have hvb := Lib.hid (show validB [a0, a1, a2, a3, a4, a5, a6, a7, a8, a9, a10, a11, a12, a13, a14, a15] = false by simpa using hv)
      clear hv
      have HFd := Aside0.mk HF.out.drew
      go_region
      all_goals
        as_aux_lemma =>
          have HB8 : Aside0 (Below w0.heap.size w0 w5.drew) := ⟨by rw [HG.out]; exact HFd.out.bel⟩
          go_wp2_with fail
          refine (refvalid_row [a0, a1, a2, a3, a4, a5, a6, a7, a8, a9, a10, a11, a12, a13, a14, a15] rfl gr c5 cur _ HFd.out.rw_ hc5).mono ?_
          rintro e w9 ⟨rfl, hb9⟩
          rw [hvb.out]
          have HB9 := Aside0.mk (HB8.out.trans (hb9.mono HB8.out.size))
          clear hb9
          go_wp2_with fail
          refine (PConfValid.conf_Default.calls 4 64 5 100 50 10 20 1000 2147483648 4294967296 1073741824 0 1099511627776 64 4 4 _ rfl).mono ?_
          rintro e w10 ⟨rfl, hb10⟩
          have HB10 := Aside0.mk (HB9.out.trans (hb10.mono HB9.out.size))
          clear hb10 HB9
          go_wp2_with fail
          refine (refdefault_row _).mono ?_
          rintro e w11 ⟨rfl, rfl⟩
          have HN11 := Aside0.mk (heap_alloc_new w10 (.cells #[.int .i64 4, .int .i64 64, .int .i64 5, .int .i64 100, .int .i64 50, .int .i64 10, .int .i64 20, .int .i64 1000, .int .i64 2147483648, .int .i64 4294967296, .int .i64 1073741824, .int .i64 0, .int .i64 1099511627776, .int .i64 64, .int .i64 4, .int .i64 4] 2))
          have HB11 := Aside0.mk (HB10.out.alloc HB10.out.size (.cells #[.int .i64 4, .int .i64 64, .int .i64 5, .int .i64 100, .int .i64 50, .int .i64 10, .int .i64 20, .int .i64 1000, .int .i64 2147483648, .int .i64 4294967296, .int .i64 1073741824, .int .i64 0, .int .i64 1099511627776, .int .i64 64, .int .i64 4, .int .i64 4] 2))
          generalize w10.alloc (.cells #[.int .i64 4, .int .i64 64, .int .i64 5, .int .i64 100, .int .i64 50, .int .i64 10, .int .i64 20, .int .i64 1000, .int .i64 2147483648, .int .i64 4294967296, .int .i64 1073741824, .int .i64 0, .int .i64 1099511627776, .int .i64 64, .int .i64 4, .int .i64 4] 2) = w12 at *
          generalize w10.heap.size = gd at *
          go_wp2_with fail
          refine (of_row 4 64 5 100 50 10 20 1000 2147483648 4294967296 1073741824 0 1099511627776 64 4 4 gd 16 _ HN11.out (by decide)).mono ?_
          rintro e w13 ⟨rfl, hb13⟩
          have HB13 := Aside0.mk (HB11.out.trans (hb13.mono HB11.out.size))
          clear hb13 HB11 HN11
          go_wp2_with fail
          refine (PConfValid.conf_Default.calls 4 64 5 100 50 10 20 1000 2147483648 4294967296 1073741824 0 1099511627776 64 4 4 _ rfl).mono ?_
          rintro e w14 ⟨rfl, hb14⟩
          have HB14 := Aside0.mk (HB13.out.trans (hb14.mono HB13.out.size))
          clear hb14 HB13
          go_wp2_with fail
          refine (valid_any 4 64 5 100 50 10 20 1000 2147483648 4294967296 1073741824 0 1099511627776 64 4 4 _).mono ?_
          rintro e w15 ⟨rfl, hb15⟩
          rw [if_pos valid_default]
          have HB15 := Aside0.mk (HB14.out.trans (hb15.mono HB14.out.size))
          clear hb15 HB14
          go_wp2_with fail
          go_ret
          exact ⟨by simp, HB15.out⟩
  · intro l a w i hl5 hm
    obtain ⟨b0, b1, b2, b3, b4, b5, b6, b7, b8, b9, b10, b11, v14, v15, v16, v17, v18, v19, v5, v6, v7, rfl, rfl, h⟩ := hl5
    obtain ⟨hun, o, ho, hall⟩ := mem_ready.1 hm
    clear hm
    have ho2 := ho
    have hi : i < 12 := (Array.getElem?_eq_some_iff.1 ho).1
    have hi' : i = 0 ∨ i = 1 ∨ i = 2 ∨ i = 3 ∨ i = 4 ∨ i = 5 ∨ i = 6 ∨ i = 7 ∨ i = 8 ∨ i = 9 ∨ i = 10 ∨ i = 11 := by omega
    clear hi
    rcases hi' with rfl | rfl | rfl | rfl | rfl | rfl | rfl | rfl | rfl | rfl | rfl | rfl
    · as_aux_lemma =>
        simp only [List.getElem?_toArray, List.getElem?_cons_zero, List.getElem?_cons_succ, Option.some.injEq] at ho
        subst ho
        clear hall hun
        have x0 : w.cell? ⟨g0, 0, none⟩ = some (.int .i64 a0) := (blk_cell h.bk 0).trans rfl
        have x1 : w.cell? ⟨g0, 1, none⟩ = some (.int .i64 a1) := (blk_cell h.bk 1).trans rfl
        have x2 : w.cell? ⟨g0, 2, none⟩ = some (.int .i64 a2) := (blk_cell h.bk 2).trans rfl
        have x3 : w.cell? ⟨g0, 3, none⟩ = some (.int .i64 a3) := (blk_cell h.bk 3).trans rfl
        have x4 : w.cell? ⟨g0, 4, none⟩ = some (.int .i64 a4) := (blk_cell h.bk 4).trans rfl
        have x5 : w.cell? ⟨g0, 5, none⟩ = some (.int .i64 a5) := (blk_cell h.bk 5).trans rfl
        have x6 : w.cell? ⟨g0, 6, none⟩ = some (.int .i64 a6) := (blk_cell h.bk 6).trans rfl
        have x7 : w.cell? ⟨g0, 7, none⟩ = some (.int .i64 a7) := (blk_cell h.bk 7).trans rfl
        have x8 : w.cell? ⟨g0, 8, none⟩ = some (.int .i64 a8) := (blk_cell h.bk 8).trans rfl
        have x9 : w.cell? ⟨g0, 9, none⟩ = some (.int .i64 a9) := (blk_cell h.bk 9).trans rfl
        have x10 : w.cell? ⟨g0, 10, none⟩ = some (.int .i64 a10) := (blk_cell h.bk 10).trans rfl
        have x11 : w.cell? ⟨g0, 11, none⟩ = some (.int .i64 a11) := (blk_cell h.bk 11).trans rfl
        have x12 : w.cell? ⟨g0, 12, none⟩ = some (.int .i64 a12) := (blk_cell h.bk 12).trans rfl
        have x13 : w.cell? ⟨g0, 13, none⟩ = some (.int .i64 a13) := (blk_cell h.bk 13).trans rfl
        have x14 : w.cell? ⟨g0, 14, none⟩ = some (.int .i64 a14) := (blk_cell h.bk 14).trans rfl
        have x15 : w.cell? ⟨g0, 15, none⟩ = some (.int .i64 a15) := (blk_cell h.bk 15).trans rfl
        refine wpOp_step ho2 (fun K hK => ?_)
        dsimp only [act5]
        go_simp
        refine hK _ _ ⟨true, b1, b2, b3, b4, b5, b6, b7, b8, b9, b10, b11, .agg #[.int .i64 a0, .int .i64 a1, .int .i64 a2, .int .i64 a3, .int .i64 a4, .int .i64 a5, .int .i64 a6, .int .i64 a7, .int .i64 a8, .int .i64 a9, .int .i64 a10, .int .i64 a11, .int .i64 a12, .int .i64 a13, .int .i64 a14, .int .i64 a15], v15, v16, v17, v18, v19, v5, v6, v7, by simp, rfl, { h with h0 := fun _ => rfl }⟩
    · as_aux_lemma =>
        simp only [List.getElem?_toArray, List.getElem?_cons_zero, List.getElem?_cons_succ, Option.some.injEq] at ho
        subst ho
        have d0 := hall ⟨0, .data⟩ (by simp) (by rfl)
        obtain rfl := h.h0 (by simpa using d0)
        clear hall hun d0
        refine wpOp_step ho2 (fun K hK => ?_)
        refine goes_ Tryd.func14 (by kernel_rfl) rfl #[.agg #[.int .i64 a0, .int .i64 a1, .int .i64 a2, .int .i64 a3, .int .i64 a4, .int .i64 a5, .int .i64 a6, .int .i64 a7, .int .i64 a8, .int .i64 a9, .int .i64 a10, .int .i64 a11, .int .i64 a12, .int .i64 a13, .int .i64 a14, .int .i64 a15]] (by rfl) rfl rfl (by simp [act5, Act.eval]) ?_
        refine (PConfValid.conf_Config_Codel.calls a0 a1 a2 a3 a4 a5 a6 a7 a8 a9 a10 a11 a12 a13 a14 a15 a2 a3 w rfl).mono ?_
        rintro e w' ⟨rfl, hb⟩
        exact ⟨_, rfl, hK _ _ ⟨b0, true, b2, b3, b4, b5, b6, b7, b8, b9, b10, b11, .agg #[.int .i64 a0, .int .i64 a1, .int .i64 a2, .int .i64 a3, .int .i64 a4, .int .i64 a5, .int .i64 a6, .int .i64 a7, .int .i64 a8, .int .i64 a9, .int .i64 a10, .int .i64 a11, .int .i64 a12, .int .i64 a13, .int .i64 a14, .int .i64 a15], .agg #[.int .i64 a2, .int .i64 a3], v16, v17, v18, v19, v5, v6, v7, by simp, rfl, { h.below hb with h1 := fun _ => rfl }⟩⟩
    · as_aux_lemma =>
        simp only [List.getElem?_toArray, List.getElem?_cons_zero, List.getElem?_cons_succ, Option.some.injEq] at ho
        subst ho
        clear hall hun
        have x0 : w.cell? ⟨g0, 0, none⟩ = some (.int .i64 a0) := (blk_cell h.bk 0).trans rfl
        have x1 : w.cell? ⟨g0, 1, none⟩ = some (.int .i64 a1) := (blk_cell h.bk 1).trans rfl
        have x2 : w.cell? ⟨g0, 2, none⟩ = some (.int .i64 a2) := (blk_cell h.bk 2).trans rfl
        have x3 : w.cell? ⟨g0, 3, none⟩ = some (.int .i64 a3) := (blk_cell h.bk 3).trans rfl
        have x4 : w.cell? ⟨g0, 4, none⟩ = some (.int .i64 a4) := (blk_cell h.bk 4).trans rfl
        have x5 : w.cell? ⟨g0, 5, none⟩ = some (.int .i64 a5) := (blk_cell h.bk 5).trans rfl
        have x6 : w.cell? ⟨g0, 6, none⟩ = some (.int .i64 a6) := (blk_cell h.bk 6).trans rfl
        have x7 : w.cell? ⟨g0, 7, none⟩ = some (.int .i64 a7) := (blk_cell h.bk 7).trans rfl
        have x8 : w.cell? ⟨g0, 8, none⟩ = some (.int .i64 a8) := (blk_cell h.bk 8).trans rfl
        have x9 : w.cell? ⟨g0, 9, none⟩ = some (.int .i64 a9) := (blk_cell h.bk 9).trans rfl
        have x10 : w.cell? ⟨g0, 10, none⟩ = some (.int .i64 a10) := (blk_cell h.bk 10).trans rfl
        have x11 : w.cell? ⟨g0, 11, none⟩ = some (.int .i64 a11) := (blk_cell h.bk 11).trans rfl
        have x12 : w.cell? ⟨g0, 12, none⟩ = some (.int .i64 a12) := (blk_cell h.bk 12).trans rfl
        have x13 : w.cell? ⟨g0, 13, none⟩ = some (.int .i64 a13) := (blk_cell h.bk 13).trans rfl
        have x14 : w.cell? ⟨g0, 14, none⟩ = some (.int .i64 a14) := (blk_cell h.bk 14).trans rfl
        have x15 : w.cell? ⟨g0, 15, none⟩ = some (.int .i64 a15) := (blk_cell h.bk 15).trans rfl
        refine wpOp_step ho2 (fun K hK => ?_)
        dsimp only [act5]
        go_simp
        refine hK _ _ ⟨b0, b1, true, b3, b4, b5, b6, b7, b8, b9, b10, b11, v14, v15, .agg #[.int .i64 a0, .int .i64 a1, .int .i64 a2, .int .i64 a3, .int .i64 a4, .int .i64 a5, .int .i64 a6, .int .i64 a7, .int .i64 a8, .int .i64 a9, .int .i64 a10, .int .i64 a11, .int .i64 a12, .int .i64 a13, .int .i64 a14, .int .i64 a15], v17, v18, v19, v5, v6, v7, by simp, rfl, { h with h2 := fun _ => rfl }⟩
    · as_aux_lemma =>
        simp only [List.getElem?_toArray, List.getElem?_cons_zero, List.getElem?_cons_succ, Option.some.injEq] at ho
        subst ho
        have d0 := hall ⟨2, .data⟩ (by simp) (by rfl)
        obtain rfl := h.h2 (by simpa using d0)
        clear hall hun d0
        refine wpOp_step ho2 (fun K hK => ?_)
        refine goes_ Tryd.func15 (by kernel_rfl) rfl #[.agg #[.int .i64 a0, .int .i64 a1, .int .i64 a2, .int .i64 a3, .int .i64 a4, .int .i64 a5, .int .i64 a6, .int .i64 a7, .int .i64 a8, .int .i64 a9, .int .i64 a10, .int .i64 a11, .int .i64 a12, .int .i64 a13, .int .i64 a14, .int .i64 a15]] (by rfl) rfl rfl (by simp [act5, Act.eval]) ?_
        refine (PConfValid.conf_Config_Mode.calls a0 a1 a2 a3 a4 a5 a6 a7 a8 a9 a10 a11 a12 a13 a14 a15 a4 a5 a6 w rfl).mono ?_
        rintro e w' ⟨rfl, hb⟩
        exact ⟨_, rfl, hK _ _ ⟨b0, b1, b2, true, b4, b5, b6, b7, b8, b9, b10, b11, v14, v15, .agg #[.int .i64 a0, .int .i64 a1, .int .i64 a2, .int .i64 a3, .int .i64 a4, .int .i64 a5, .int .i64 a6, .int .i64 a7, .int .i64 a8, .int .i64 a9, .int .i64 a10, .int .i64 a11, .int .i64 a12, .int .i64 a13, .int .i64 a14, .int .i64 a15], .agg #[.int .i64 a4, .int .i64 a5, .int .i64 a6], v18, v19, v5, v6, v7, by simp, rfl, { h.below hb with h3 := fun _ => rfl }⟩⟩
    · as_aux_lemma =>
        simp only [List.getElem?_toArray, List.getElem?_cons_zero, List.getElem?_cons_succ, Option.some.injEq] at ho
        subst ho
        clear hall hun
        have x0 : w.cell? ⟨g0, 0, none⟩ = some (.int .i64 a0) := (blk_cell h.bk 0).trans rfl
        have x1 : w.cell? ⟨g0, 1, none⟩ = some (.int .i64 a1) := (blk_cell h.bk 1).trans rfl
        have x2 : w.cell? ⟨g0, 2, none⟩ = some (.int .i64 a2) := (blk_cell h.bk 2).trans rfl
        have x3 : w.cell? ⟨g0, 3, none⟩ = some (.int .i64 a3) := (blk_cell h.bk 3).trans rfl
        have x4 : w.cell? ⟨g0, 4, none⟩ = some (.int .i64 a4) := (blk_cell h.bk 4).trans rfl
        have x5 : w.cell? ⟨g0, 5, none⟩ = some (.int .i64 a5) := (blk_cell h.bk 5).trans rfl
        have x6 : w.cell? ⟨g0, 6, none⟩ = some (.int .i64 a6) := (blk_cell h.bk 6).trans rfl
        have x7 : w.cell? ⟨g0, 7, none⟩ = some (.int .i64 a7) := (blk_cell h.bk 7).trans rfl
        have x8 : w.cell? ⟨g0, 8, none⟩ = some (.int .i64 a8) := (blk_cell h.bk 8).trans rfl
        have x9 : w.cell? ⟨g0, 9, none⟩ = some (.int .i64 a9) := (blk_cell h.bk 9).trans rfl
        have x10 : w.cell? ⟨g0, 10, none⟩ = some (.int .i64 a10) := (blk_cell h.bk 10).trans rfl
        have x11 : w.cell? ⟨g0, 11, none⟩ = some (.int .i64 a11) := (blk_cell h.bk 11).trans rfl
        have x12 : w.cell? ⟨g0, 12, none⟩ = some (.int .i64 a12) := (blk_cell h.bk 12).trans rfl
        have x13 : w.cell? ⟨g0, 13, none⟩ = some (.int .i64 a13) := (blk_cell h.bk 13).trans rfl
        have x14 : w.cell? ⟨g0, 14, none⟩ = some (.int .i64 a14) := (blk_cell h.bk 14).trans rfl
        have x15 : w.cell? ⟨g0, 15, none⟩ = some (.int .i64 a15) := (blk_cell h.bk 15).trans rfl
        refine wpOp_step ho2 (fun K hK => ?_)
        dsimp only [act5]
        go_simp
        refine hK _ _ ⟨b0, b1, b2, b3, true, b5, b6, b7, b8, b9, b10, b11, v14, v15, v16, v17, .agg #[.int .i64 a0, .int .i64 a1, .int .i64 a2, .int .i64 a3, .int .i64 a4, .int .i64 a5, .int .i64 a6, .int .i64 a7, .int .i64 a8, .int .i64 a9, .int .i64 a10, .int .i64 a11, .int .i64 a12, .int .i64 a13, .int .i64 a14, .int .i64 a15], v19, v5, v6, v7, by simp, rfl, { h with h4 := fun _ => rfl }⟩
    · as_aux_lemma =>
        simp only [List.getElem?_toArray, List.getElem?_cons_zero, List.getElem?_cons_succ, Option.some.injEq] at ho
        subst ho
        have d0 := hall ⟨4, .data⟩ (by simp) (by rfl)
        obtain rfl := h.h4 (by simpa using d0)
        clear hall hun d0
        refine wpOp_step ho2 (fun K hK => ?_)
        refine goes_ Tryd.func16 (by kernel_rfl) rfl #[.agg #[.int .i64 a0, .int .i64 a1, .int .i64 a2, .int .i64 a3, .int .i64 a4, .int .i64 a5, .int .i64 a6, .int .i64 a7, .int .i64 a8, .int .i64 a9, .int .i64 a10, .int .i64 a11, .int .i64 a12, .int .i64 a13, .int .i64 a14, .int .i64 a15]] (by rfl) rfl rfl (by simp [act5, Act.eval]) ?_
        refine (PConfValid.conf_Config_Pid.calls a0 a1 a2 a3 a4 a5 a6 a7 a8 a9 a10 a11 a12 a13 a14 a15 a8 a9 a10 a11 a12 a13 (wrap64 (a0 * 128)) w rfl).mono ?_
        rintro e w' ⟨rfl, hb⟩
        exact ⟨_, rfl, hK _ _ ⟨b0, b1, b2, b3, b4, true, b6, b7, b8, b9, b10, b11, v14, v15, v16, v17, .agg #[.int .i64 a0, .int .i64 a1, .int .i64 a2, .int .i64 a3, .int .i64 a4, .int .i64 a5, .int .i64 a6, .int .i64 a7, .int .i64 a8, .int .i64 a9, .int .i64 a10, .int .i64 a11, .int .i64 a12, .int .i64 a13, .int .i64 a14, .int .i64 a15], .agg #[.int .i64 a8, .int .i64 a9, .int .i64 a10, .int .i64 a11, .int .i64 a12, .int .i64 a13, .int .i64 (wrap64 (a0 * 128))], v5, v6, v7, by simp, rfl, { h.below hb with h5 := fun _ => rfl }⟩⟩
    · as_aux_lemma =>
        simp only [List.getElem?_toArray, List.getElem?_cons_zero, List.getElem?_cons_succ, Option.some.injEq] at ho
        subst ho
        have hz : b9 = false := by cases hb : b9 with | false => rfl | true => rw [h.d9 hb] at hun; simp at hun
        clear hall hun
        refine wpOp_step ho2 (fun K hK => ?_)
        have hlt := h.lt
        have HI := Aside0.mk (h.below ((Below.refl _ _).alloc (Nat.le_refl _) (.cells #[.int .i64 0, .int .i64 0] 42)))
        have HNW := Aside0.mk (heap_alloc_new w (.cells #[.int .i64 0, .int .i64 0] 42))
        dsimp only [act5]
        go_simp
        refine hK _ _ ⟨b0, b1, b2, b3, b4, b5, true, b7, b8, b9, b10, b11, v14, v15, v16, v17, v18, v19, .pointer (some ⟨w.heap.size, 0, none⟩), v6, v7, by simp, rfl, { HI.out with h6 := fun _ => ⟨_, rfl, Nat.le_of_lt hlt, by rw [hz, if_neg (by decide)]; exact HNW.out⟩, d9 := fun _ => rfl }⟩
    · as_aux_lemma =>
        simp only [List.getElem?_toArray, List.getElem?_cons_zero, List.getElem?_cons_succ, Option.some.injEq] at ho
        subst ho
        have hz : b10 = false := by cases hb : b10 with | false => rfl | true => rw [h.d10 hb] at hun; simp at hun
        clear hall hun
        refine wpOp_step ho2 (fun K hK => ?_)
        have hlt := h.lt
        have HI := Aside0.mk (h.below ((Below.refl _ _).alloc (Nat.le_refl _) (.cells #[.int .i64 0, .int .i64 0, .int .i64 0] 45)))
        have HNW := Aside0.mk (heap_alloc_new w (.cells #[.int .i64 0, .int .i64 0, .int .i64 0] 45))
        dsimp only [act5]
        go_simp
        refine hK _ _ ⟨b0, b1, b2, b3, b4, b5, b6, true, b8, b9, b10, b11, v14, v15, v16, v17, v18, v19, v5, .pointer (some ⟨w.heap.size, 0, none⟩), v7, by simp, rfl, { HI.out with h7 := fun _ => ⟨_, rfl, Nat.le_of_lt hlt, by rw [hz, if_neg (by decide)]; exact HNW.out⟩, d10 := fun _ => rfl }⟩
    · as_aux_lemma =>
        simp only [List.getElem?_toArray, List.getElem?_cons_zero, List.getElem?_cons_succ, Option.some.injEq] at ho
        subst ho
        have hz : b11 = false := by cases hb : b11 with | false => rfl | true => rw [h.d11 hb] at hun; simp at hun
        clear hall hun
        refine wpOp_step ho2 (fun K hK => ?_)
        have hlt := h.lt
        have HI := Aside0.mk (h.below ((Below.refl _ _).alloc (Nat.le_refl _) (.cells #[.int .i64 0, .int .i64 0, .int .i64 0, .int .i64 0, .int .i64 0, .int .i64 0, .int .i64 0] 48)))
        have HNW := Aside0.mk (heap_alloc_new w (.cells #[.int .i64 0, .int .i64 0, .int .i64 0, .int .i64 0, .int .i64 0, .int .i64 0, .int .i64 0] 48))
        dsimp only [act5]
        go_simp
        refine hK _ _ ⟨b0, b1, b2, b3, b4, b5, b6, b7, true, b9, b10, b11, v14, v15, v16, v17, v18, v19, v5, v6, .pointer (some ⟨w.heap.size, 0, none⟩), by simp, rfl, { HI.out with h8 := fun _ => ⟨_, rfl, Nat.le_of_lt hlt, by rw [hz, if_neg (by decide)]; exact HNW.out⟩, d11 := fun _ => rfl }⟩
    · as_aux_lemma =>
        simp only [List.getElem?_toArray, List.getElem?_cons_zero, List.getElem?_cons_succ, Option.some.injEq] at ho
        subst ho
        have d0 := hall ⟨6, .data⟩ (by simp) (by rfl)
        have d1 := hall ⟨1, .data⟩ (by simp) (by rfl)
        obtain ⟨g, rfl, hg, hk⟩ := h.h6 (by simpa using d0)
        obtain rfl := h.h1 (by simpa using d1)
        have hz : b9 = false := by simpa using hun
        rw [if_neg (by rw [hz]; decide)] at hk
        have hd : b6 = true := by simpa using d0
        clear hall hun d0 d1
        have c0 : w.cell? ⟨g, 0, none⟩ = some (.int .i64 0) := (blk_cell hk 0).trans rfl
        have c1 : w.cell? ⟨g, 1, none⟩ = some (.int .i64 0) := (blk_cell hk 1).trans rfl
        have hf := blk_frozen hk
        have HK := Aside0.mk hk
        clear hk
        refine wpOp_step ho2 (fun K hK => ?_)
        dsimp only [act5]
        go_simp
        exact hK _ _ ⟨b0, b1, b2, b3, b4, b5, b6, b7, b8, true, b10, b11, v14, .agg #[.int .i64 a2, .int .i64 a3], v16, v17, v18, v19, .pointer (some ⟨g, 0, none⟩), v6, v7, by simp, rfl, h.only6 rfl hg HK.out (((Only.refl g w).set 0 (.int .i64 a2)).set 1 (.int .i64 a3)) (blk_set (blk_set HK.out 0 (.int .i64 a2)) 1 (.int .i64 a3)) hd⟩
    · as_aux_lemma =>
        simp only [List.getElem?_toArray, List.getElem?_cons_zero, List.getElem?_cons_succ, Option.some.injEq] at ho
        subst ho
        have d0 := hall ⟨7, .data⟩ (by simp) (by rfl)
        have d1 := hall ⟨3, .data⟩ (by simp) (by rfl)
        obtain ⟨g, rfl, hg, hk⟩ := h.h7 (by simpa using d0)
        obtain rfl := h.h3 (by simpa using d1)
        have hz : b10 = false := by simpa using hun
        rw [if_neg (by rw [hz]; decide)] at hk
        have hd : b7 = true := by simpa using d0
        clear hall hun d0 d1
        have c0 : w.cell? ⟨g, 0, none⟩ = some (.int .i64 0) := (blk_cell hk 0).trans rfl
        have c1 : w.cell? ⟨g, 1, none⟩ = some (.int .i64 0) := (blk_cell hk 1).trans rfl
        have c2 : w.cell? ⟨g, 2, none⟩ = some (.int .i64 0) := (blk_cell hk 2).trans rfl
        have hf := blk_frozen hk
        have HK := Aside0.mk hk
        clear hk
        refine wpOp_step ho2 (fun K hK => ?_)
        dsimp only [act5]
        go_simp
        exact hK _ _ ⟨b0, b1, b2, b3, b4, b5, b6, b7, b8, b9, true, b11, v14, v15, v16, .agg #[.int .i64 a4, .int .i64 a5, .int .i64 a6], v18, v19, v5, .pointer (some ⟨g, 0, none⟩), v7, by simp, rfl, h.only7 rfl hg HK.out ((((Only.refl g w).set 0 (.int .i64 a4)).set 1 (.int .i64 a5)).set 2 (.int .i64 a6)) (blk_set (blk_set (blk_set HK.out 0 (.int .i64 a4)) 1 (.int .i64 a5)) 2 (.int .i64 a6)) hd⟩
    · as_aux_lemma =>
        simp only [List.getElem?_toArray, List.getElem?_cons_zero, List.getElem?_cons_succ, Option.some.injEq] at ho
        subst ho
        have d0 := hall ⟨8, .data⟩ (by simp) (by rfl)
        have d1 := hall ⟨5, .data⟩ (by simp) (by rfl)
        obtain ⟨g, rfl, hg, hk⟩ := h.h8 (by simpa using d0)
        obtain rfl := h.h5 (by simpa using d1)
        have hz : b11 = false := by simpa using hun
        rw [if_neg (by rw [hz]; decide)] at hk
        have hd : b8 = true := by simpa using d0
        clear hall hun d0 d1
        have c0 : w.cell? ⟨g, 0, none⟩ = some (.int .i64 0) := (blk_cell hk 0).trans rfl
        have c1 : w.cell? ⟨g, 1, none⟩ = some (.int .i64 0) := (blk_cell hk 1).trans rfl
        have c2 : w.cell? ⟨g, 2, none⟩ = some (.int .i64 0) := (blk_cell hk 2).trans rfl
        have c3 : w.cell? ⟨g, 3, none⟩ = some (.int .i64 0) := (blk_cell hk 3).trans rfl
        have c4 : w.cell? ⟨g, 4, none⟩ = some (.int .i64 0) := (blk_cell hk 4).trans rfl
        have c5 : w.cell? ⟨g, 5, none⟩ = some (.int .i64 0) := (blk_cell hk 5).trans rfl
        have c6 : w.cell? ⟨g, 6, none⟩ = some (.int .i64 0) := (blk_cell hk 6).trans rfl
        have hf := blk_frozen hk
        have HK := Aside0.mk hk
        clear hk
        refine wpOp_step ho2 (fun K hK => ?_)
        dsimp only [act5]
        go_simp
        exact hK _ _ ⟨b0, b1, b2, b3, b4, b5, b6, b7, b8, b9, b10, true, v14, v15, v16, v17, v18, .agg #[.int .i64 a8, .int .i64 a9, .int .i64 a10, .int .i64 a11, .int .i64 a12, .int .i64 a13, .int .i64 (wrap64 (a0 * 128))], v5, v6, .pointer (some ⟨g, 0, none⟩), by simp, rfl, h.only8 rfl hg HK.out ((((((((Only.refl g w).set 0 (.int .i64 a8)).set 1 (.int .i64 a9)).set 2 (.int .i64 a10)).set 3 (.int .i64 a11)).set 4 (.int .i64 a12)).set 5 (.int .i64 a13)).set 6 (.int .i64 (wrap64 (a0 * 128)))) (blk_set (blk_set (blk_set (blk_set (blk_set (blk_set (blk_set HK.out 0 (.int .i64 a8)) 1 (.int .i64 a9)) 2 (.int .i64 a10)) 3 (.int .i64 a11)) 4 (.int .i64 a12)) 5 (.int .i64 a13)) 6 (.int .i64 (wrap64 (a0 * 128)))) hd⟩
end Go.Proofs.YteaihgjjplgalaaDoor
