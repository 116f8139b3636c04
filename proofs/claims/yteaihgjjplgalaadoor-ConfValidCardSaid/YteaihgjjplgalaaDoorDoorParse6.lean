/- conf.Parse: all of it. -/
import Derived.Test.YteaihgjjplgalaaDoorDoorParse3
import Derived.Test.YteaihgjjplgalaaDoorDoorParse4
import Derived.Test.YteaihgjjplgalaaDoorDoorParse5
namespace Go.Proofs.YteaihgjjplgalaaDoor
open Go.RowKit Go.Proofs.YteaihgjjplgalaaDoorW.PrintWords Go.Proofs.YteaihgjjplgalaaDoorW.PrintLast Go.Proofs.YteaihgjjplgalaaDoorW.PrintMore
set_option linter.unusedVariables false
set_option linter.unusedSimpArgs false

theorem pass_all (w : World) (R : List Int × Int) (a' : Act) (W : World) (h : JA w R a' W) : FromLabel Tryd.prog 0 scopeC (QJ w R (sizeOf' a')) a' W := by
  obtain ⟨s, p, B, b, bs, u6, u7, u8, u9, u10, u11, u12, u13, u14, u15, u16, u17, u18, u19, u20, u21, u22, u23, u24, u25, u26, u27, u28, u29, u30, u31, u32, u33, u34, u35, u36, u37, u38, u39, u40, u41, u42, u43, u44, u45, u46, u47, u48, u49, u50, u51, u52, u53, u54, u55, u56, u57, u58, u59, u60, u61, u62, u63, u64, u65, rfl, hj⟩ := h
  obtain ⟨lb, rb, more, hc⟩ : ∃ (lb rb : ByteArray) (more : Bool), Lib.cut s.data.toList [10] = (lb.data.toList, rb.data.toList, more) := ⟨⟨(Lib.cut s.data.toList [10]).1.toArray⟩, ⟨(Lib.cut s.data.toList [10]).2.1.toArray⟩, (Lib.cut s.data.toList [10]).2.2, rfl⟩
  show FromLabel Tryd.prog 0 scopeC (QJ w R s.size) _ W
  by_cases hln : lb.toList = []
  · cases more with
    | true => exact leaf_em w R s p B b bs W u6 u7 u8 u9 u10 u11 u12 u13 u14 u15 u16 u17 u18 u19 u20 u21 u22 u23 u24 u25 u26 u27 u28 u29 u30 u31 u32 u33 u34 u35 u36 u37 u38 u39 u40 u41 u42 u43 u44 u45 u46 u47 u48 u49 u50 u51 u52 u53 u54 u55 u56 u57 u58 u59 u60 u61 u62 u63 u64 u65 hj lb rb hc hln
    | false => exact leaf_el w R s p B b bs W u6 u7 u8 u9 u10 u11 u12 u13 u14 u15 u16 u17 u18 u19 u20 u21 u22 u23 u24 u25 u26 u27 u28 u29 u30 u31 u32 u33 u34 u35 u36 u37 u38 u39 u40 u41 u42 u43 u44 u45 u46 u47 u48 u49 u50 u51 u52 u53 u54 u55 u56 u57 u58 u59 u60 u61 u62 u63 u64 u65 hj lb rb hc hln
  · cases hh : ((((lb[0]'(size_pos hln)).toNat : Int)) != 35) with
    | false =>
      cases more with
      | true => exact leaf_hm w R s p B b bs W u6 u7 u8 u9 u10 u11 u12 u13 u14 u15 u16 u17 u18 u19 u20 u21 u22 u23 u24 u25 u26 u27 u28 u29 u30 u31 u32 u33 u34 u35 u36 u37 u38 u39 u40 u41 u42 u43 u44 u45 u46 u47 u48 u49 u50 u51 u52 u53 u54 u55 u56 u57 u58 u59 u60 u61 u62 u63 u64 u65 hj lb rb hc hln hh
      | false => exact leaf_hl w R s p B b bs W u6 u7 u8 u9 u10 u11 u12 u13 u14 u15 u16 u17 u18 u19 u20 u21 u22 u23 u24 u25 u26 u27 u28 u29 u30 u31 u32 u33 u34 u35 u36 u37 u38 u39 u40 u41 u42 u43 u44 u45 u46 u47 u48 u49 u50 u51 u52 u53 u54 u55 u56 u57 u58 u59 u60 u61 u62 u63 u64 u65 hj lb rb hc hln hh
    | true =>
      rcases tell_cases p lb.data.toList (by rw [← ByteArray.toList_eq]; exact hln) (not_hash (size_pos hln) hh) with ⟨hB, hs⟩ | ⟨hB, i, n, hi, hI, hN, hn, hs⟩
      · exact leaf_bad w R s p B b bs W u6 u7 u8 u9 u10 u11 u12 u13 u14 u15 u16 u17 u18 u19 u20 u21 u22 u23 u24 u25 u26 u27 u28 u29 u30 u31 u32 u33 u34 u35 u36 u37 u38 u39 u40 u41 u42 u43 u44 u45 u46 u47 u48 u49 u50 u51 u52 u53 u54 u55 u56 u57 u58 u59 u60 u61 u62 u63 u64 u65 hj lb rb more hc hln hh hB hs
      · cases hsn : p.sn.getD i false with
        | true =>
          rw [hsn, if_pos rfl] at hs
          exact leaf_seen w R s p B b bs W u6 u7 u8 u9 u10 u11 u12 u13 u14 u15 u16 u17 u18 u19 u20 u21 u22 u23 u24 u25 u26 u27 u28 u29 u30 u31 u32 u33 u34 u35 u36 u37 u38 u39 u40 u41 u42 u43 u44 u45 u46 u47 u48 u49 u50 u51 u52 u53 u54 u55 u56 u57 u58 u59 u60 u61 u62 u63 u64 u65 hj lb rb more hc hln hh i n hi hB hI hN hn hs hsn
        | false =>
          rw [hsn, if_neg (by decide)] at hs
          cases more with
          | true => exact leaf_okm w R s p B b bs W u6 u7 u8 u9 u10 u11 u12 u13 u14 u15 u16 u17 u18 u19 u20 u21 u22 u23 u24 u25 u26 u27 u28 u29 u30 u31 u32 u33 u34 u35 u36 u37 u38 u39 u40 u41 u42 u43 u44 u45 u46 u47 u48 u49 u50 u51 u52 u53 u54 u55 u56 u57 u58 u59 u60 u61 u62 u63 u64 u65 hj lb rb hc hln hh i n hi hB hI hN hn hs hsn
          | false => exact leaf_okl w R s p B b bs W u6 u7 u8 u9 u10 u11 u12 u13 u14 u15 u16 u17 u18 u19 u20 u21 u22 u23 u24 u25 u26 u27 u28 u29 u30 u31 u32 u33 u34 u35 u36 u37 u38 u39 u40 u41 u42 u43 u44 u45 u46 u47 u48 u49 u50 u51 u52 u53 u54 u55 u56 u57 u58 u59 u60 u61 u62 u63 u64 u65 hj lb rb hc hln hh i n hi hB hI hN hn hs hsn
set_option maxRecDepth 100000 in
set_option maxHeartbeats 8000000 in
theorem parse_any (s : ByteArray) (w : World) (hL : LibAt w) :
    Calls Tryd.prog 11 #[.string s] w fun e w' => e = .returned (.tuple #[cfgV (parseR s.data.toList).1, .int .i64 (parseR s.data.toList).2]) ∧ Below w.heap.size w w' := by
  have HL := Aside0.mk hL
  clear hL
  obtain ⟨R, hR⟩ : ∃ R, R = parseR s.data.toList := ⟨_, rfl⟩
  rw [← hR]
  have HR := Aside0.mk hR
  clear hR
  have HB0 := Aside0.mk ((Below.refl w.heap.size w).alloc (Nat.le_refl _) (.cells #[.int .i64 0, .int .i64 0, .int .i64 0, .int .i64 0, .int .i64 0, .int .i64 0, .int .i64 0, .int .i64 0, .int .i64 0, .int .i64 0, .int .i64 0, .int .i64 0, .int .i64 0, .int .i64 0, .int .i64 0, .int .i64 0] 24))
  have BK0 := Aside0.mk (heap_alloc_new w (.cells #[.int .i64 0, .int .i64 0, .int .i64 0, .int .i64 0, .int .i64 0, .int .i64 0, .int .i64 0, .int .i64 0, .int .i64 0, .int .i64 0, .int .i64 0, .int .i64 0, .int .i64 0, .int .i64 0, .int .i64 0, .int .i64 0] 24))
  have hs0 : w.heap.size < (w.alloc (.cells #[.int .i64 0, .int .i64 0, .int .i64 0, .int .i64 0, .int .i64 0, .int .i64 0, .int .i64 0, .int .i64 0, .int .i64 0, .int .i64 0, .int .i64 0, .int .i64 0, .int .i64 0, .int .i64 0, .int .i64 0, .int .i64 0] 24)).heap.size := by simp
  go_enter Tryd.func11, Tryd.ntmps11
  go_wp2_with fail
  refine wp_scope_label (c := scopeC) 0 (JA w R) (fun a' _ => sizeOf' a') rfl ?_ (fun a' w' h => pass_all w R a' w' h)
  change Code.wp _ _ _ _ _
  have hsize : s.data.size = s.size := rfl
  by_cases hs : (s.size : Int) > 20000
  · have d : decide ((s.size : Int) > 20000) = true := decide_eq_true hs
    have HF := Lib.hid (show R = (zero16, 7) by rw [HR.out, parseR, if_pos (by rw [Array.length_toList]; omega)])
    generalize w.alloc (.cells #[.int .i64 0, .int .i64 0, .int .i64 0, .int .i64 0, .int .i64 0, .int .i64 0, .int .i64 0, .int .i64 0, .int .i64 0, .int .i64 0, .int .i64 0, .int .i64 0, .int .i64 0, .int .i64 0, .int .i64 0, .int .i64 0] 24) = W2 at *
    have BKB := Aside0.mk BK0.out
    have y0 : W2.cell? ⟨w.heap.size, 0, none⟩ = some (.int .i64 0) := (blk_cell BKB.out 0).trans rfl
    have z0 : W2.frozen? ⟨w.heap.size, 0, none⟩ = false := blk_frozen BKB.out 0
    have y1 : W2.cell? ⟨w.heap.size, 1, none⟩ = some (.int .i64 0) := (blk_cell BKB.out 1).trans rfl
    have z1 : W2.frozen? ⟨w.heap.size, 1, none⟩ = false := blk_frozen BKB.out 1
    have y2 : W2.cell? ⟨w.heap.size, 2, none⟩ = some (.int .i64 0) := (blk_cell BKB.out 2).trans rfl
    have z2 : W2.frozen? ⟨w.heap.size, 2, none⟩ = false := blk_frozen BKB.out 2
    have y3 : W2.cell? ⟨w.heap.size, 3, none⟩ = some (.int .i64 0) := (blk_cell BKB.out 3).trans rfl
    have z3 : W2.frozen? ⟨w.heap.size, 3, none⟩ = false := blk_frozen BKB.out 3
    have y4 : W2.cell? ⟨w.heap.size, 4, none⟩ = some (.int .i64 0) := (blk_cell BKB.out 4).trans rfl
    have z4 : W2.frozen? ⟨w.heap.size, 4, none⟩ = false := blk_frozen BKB.out 4
    have y5 : W2.cell? ⟨w.heap.size, 5, none⟩ = some (.int .i64 0) := (blk_cell BKB.out 5).trans rfl
    have z5 : W2.frozen? ⟨w.heap.size, 5, none⟩ = false := blk_frozen BKB.out 5
    have y6 : W2.cell? ⟨w.heap.size, 6, none⟩ = some (.int .i64 0) := (blk_cell BKB.out 6).trans rfl
    have z6 : W2.frozen? ⟨w.heap.size, 6, none⟩ = false := blk_frozen BKB.out 6
    have y7 : W2.cell? ⟨w.heap.size, 7, none⟩ = some (.int .i64 0) := (blk_cell BKB.out 7).trans rfl
    have z7 : W2.frozen? ⟨w.heap.size, 7, none⟩ = false := blk_frozen BKB.out 7
    have y8 : W2.cell? ⟨w.heap.size, 8, none⟩ = some (.int .i64 0) := (blk_cell BKB.out 8).trans rfl
    have z8 : W2.frozen? ⟨w.heap.size, 8, none⟩ = false := blk_frozen BKB.out 8
    have y9 : W2.cell? ⟨w.heap.size, 9, none⟩ = some (.int .i64 0) := (blk_cell BKB.out 9).trans rfl
    have z9 : W2.frozen? ⟨w.heap.size, 9, none⟩ = false := blk_frozen BKB.out 9
    have y10 : W2.cell? ⟨w.heap.size, 10, none⟩ = some (.int .i64 0) := (blk_cell BKB.out 10).trans rfl
    have z10 : W2.frozen? ⟨w.heap.size, 10, none⟩ = false := blk_frozen BKB.out 10
    have y11 : W2.cell? ⟨w.heap.size, 11, none⟩ = some (.int .i64 0) := (blk_cell BKB.out 11).trans rfl
    have z11 : W2.frozen? ⟨w.heap.size, 11, none⟩ = false := blk_frozen BKB.out 11
    have y12 : W2.cell? ⟨w.heap.size, 12, none⟩ = some (.int .i64 0) := (blk_cell BKB.out 12).trans rfl
    have z12 : W2.frozen? ⟨w.heap.size, 12, none⟩ = false := blk_frozen BKB.out 12
    have y13 : W2.cell? ⟨w.heap.size, 13, none⟩ = some (.int .i64 0) := (blk_cell BKB.out 13).trans rfl
    have z13 : W2.frozen? ⟨w.heap.size, 13, none⟩ = false := blk_frozen BKB.out 13
    have y14 : W2.cell? ⟨w.heap.size, 14, none⟩ = some (.int .i64 0) := (blk_cell BKB.out 14).trans rfl
    have z14 : W2.frozen? ⟨w.heap.size, 14, none⟩ = false := blk_frozen BKB.out 14
    have y15 : W2.cell? ⟨w.heap.size, 15, none⟩ = some (.int .i64 0) := (blk_cell BKB.out 15).trans rfl
    have z15 : W2.frozen? ⟨w.heap.size, 15, none⟩ = false := blk_frozen BKB.out 15
    have HKB := Aside0.mk (blk16 BKB.out (.int .i64 0) (.int .i64 0) (.int .i64 0) (.int .i64 0) (.int .i64 0) (.int .i64 0) (.int .i64 0) (.int .i64 0) (.int .i64 0) (.int .i64 0) (.int .i64 0) (.int .i64 0) (.int .i64 0) (.int .i64 0) (.int .i64 0) (.int .i64 0))
    have HKU := Aside0.mk (below16 HB0.out (Nat.le_refl _) (.int .i64 0) (.int .i64 0) (.int .i64 0) (.int .i64 0) (.int .i64 0) (.int .i64 0) (.int .i64 0) (.int .i64 0) (.int .i64 0) (.int .i64 0) (.int .i64 0) (.int .i64 0) (.int .i64 0) (.int .i64 0) (.int .i64 0) (.int .i64 0))
    go_wp2_with fail
    simp only [Exit.jump]
    (try simp only [Exit.inBlock, Exit.then])
    refine bodyPost_ret (results_ct rfl _ _ w.heap.size 24 #[.int .i64 0, .int .i64 0, .int .i64 0, .int .i64 0, .int .i64 0, .int .i64 0, .int .i64 0, .int .i64 0, .int .i64 0, .int .i64 0, .int .i64 0, .int .i64 0, .int .i64 0, .int .i64 0, .int .i64 0, .int .i64 0] (0, 0) _ rfl HKB.out Tryd.underlying24 rfl (by kernel_rfl)) rfl ?_
    rw [HF.out]
    exact ⟨rfl, HKU.out⟩
  · have d : decide ((s.size : Int) > 20000) = false := decide_eq_false hs
    go_wp2_with fail
    change Code.wp _ _ _ _ _
    go_wp2_with fail
    generalize w.alloc (.cells #[.int .i64 0, .int .i64 0, .int .i64 0, .int .i64 0, .int .i64 0, .int .i64 0, .int .i64 0, .int .i64 0, .int .i64 0, .int .i64 0, .int .i64 0, .int .i64 0, .int .i64 0, .int .i64 0, .int .i64 0, .int .i64 0] 24) = W0 at *
    refine (default_any _).mono ?_
    rintro e w1 ⟨rfl, hb1⟩
    have BK1 := Aside0.mk ((hb1.block w.heap.size hs0).trans BK0.out)
    have HB1 := Aside0.mk (HB0.out.trans (hb1.mono HB0.out.size))
    have hs1 : w.heap.size < w1.heap.size := Nat.lt_of_lt_of_le hs0 hb1.size
    clear hb1
    go_wp2_with fail
    refine (numbers_any 4 64 5 100 50 10 20 1000 2147483648 4294967296 1073741824 0 1099511627776 64 4 4 _).mono ?_
    rintro e w2 ⟨b, rfl, hbb, hrow, hb2⟩
    have BK2 := Aside0.mk ((hb2.block w.heap.size hs1).trans BK1.out)
    have HB2 := Aside0.mk (HB1.out.trans (hb2.mono HB1.out.size))
    have HR2 := Aside0.mk hrow
    have hbb' : w.heap.size ≤ b := Nat.le_trans HB1.out.size hbb
    clear hb2 hrow
    go_wp2_with fail
    change Code.wp _ _ _ _ _
    go_wp2_with fail
    have hmk : ∀ w, (Instr.makeSlice 59 (.int .i64 16) (.int .i64 16)).run Tryd.prog w = .ok (.slice (some ⟨w.heap.size, 0, none⟩) 16 16) (w.alloc (.cells #[.bool false, .bool false, .bool false, .bool false, .bool false, .bool false, .bool false, .bool false, .bool false, .bool false, .bool false, .bool false, .bool false, .bool false, .bool false, .bool false] 4)) := by intro w; kernel_rfl
    rw [hmk]
    clear hmk
    have HBS := Aside0.mk (heap_alloc_new w2 (.cells #[.bool false, .bool false, .bool false, .bool false, .bool false, .bool false, .bool false, .bool false, .bool false, .bool false, .bool false, .bool false, .bool false, .bool false, .bool false, .bool false] 4))
    have hs2 : w.heap.size < w2.heap.size := blk_lt BK2.out
    have Hj : Aside0 (JP w R s told0 w.heap.size b w2.heap.size (w2.alloc (.cells #[.bool false, .bool false, .bool false, .bool false, .bool false, .bool false, .bool false, .bool false, .bool false, .bool false, .bool false, .bool false, .bool false, .bool false, .bool false, .bool false] 4))) := ⟨{ rsz := by omega, vl := by decide, sl := by decide, vi := by decide, hB := blk_alloc BK2.out _, hb := blk_alloc HR2.out _, hs := HBS.out, lB := Nat.le_refl _, lb := hbb', ls := Nat.le_of_lt hs2, lib0 := HL.out, bel := HB2.out.alloc HB2.out.size _, same := by rw [HR.out, parseR, if_neg (by rw [Array.length_toList]; omega), Array.length_toList]; rfl }⟩
    go_wp2_with fail
    change Code.wp _ _ _ _ _
    go_wp2_with fail
    exact ⟨s, told0, w.heap.size, b, w2.heap.size, _, _, _, _, _, _, _, _, _, _, _, _, _, _, _, _, _, _, _, _, _, _, _, _, _, _, _, _, _, _, _, _, _, _, _, _, _, _, _, _, _, _, _, _, _, _, _, _, _, _, _, _, _, _, _, _, _, _, _, _, rfl, Hj.out⟩
end Go.Proofs.YteaihgjjplgalaaDoor
