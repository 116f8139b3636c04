/- conf.Parse: the last line, which tells. -/
import Derived.Test.YteaihgjjplgalaaDoorDoorParse2
namespace Go.Proofs.YteaihgjjplgalaaDoor
open Go.RowKit Go.Proofs.YteaihgjjplgalaaDoorW.PrintWords Go.Proofs.YteaihgjjplgalaaDoorW.PrintLast Go.Proofs.YteaihgjjplgalaaDoorW.PrintMore
set_option linter.unusedVariables false
set_option linter.unusedSimpArgs false

set_option maxRecDepth 100000 in
set_option maxHeartbeats 8000000 in
theorem leaf_okl (w : World) (R : List Int × Int) (s : ByteArray) (p : PS) (B b bs : Nat) (W : World) (u6 u7 u8 u9 u10 u11 u12 u13 u14 u15 u16 u17 u18 u19 u20 u21 u22 u23 u24 u25 u26 u27 u28 u29 u30 u31 u32 u33 u34 u35 u36 u37 u38 u39 u40 u41 u42 u43 u44 u45 u46 u47 u48 u49 u50 u51 u52 u53 u54 u55 u56 u57 u58 u59 u60 u61 u62 u63 u64 u65 : Value) (hj : JP w R s p B b bs W) (lb rb : ByteArray) (hc : Lib.cut s.data.toList [10] = (lb.data.toList, rb.data.toList, false)) (hln : ¬ lb.toList = []) (hh : ((((lb[0]'(size_pos hln)).toNat : Int)) != 35) = true) (i : Nat) (n : Int) (hi : i < 16) (hB : toldB lb.data.toList = true) (hI : toldI lb.data.toList = (i : Int)) (hN : toldN (cutL lb.data.toList).2.1 = n) (hn : -9223372036854775808 ≤ n ∧ n ≤ 9223372036854775807) (hs : lineStep p lb.data.toList = .ok ⟨p.vs.set i n, p.sn.set i true⟩) (hsn : p.sn.getD i false = false) :
    FromLabel Tryd.prog 0 scopeC (QJ w R s.size) { tmps := #[.string s, undef, .pointer (some ⟨B, 0, none⟩), .int .i64 0, .slice (some ⟨b, 0, none⟩) 16 16, .slice (some ⟨bs, 0, none⟩) 16 16, u6, u7, u8, u9, u10, u11, u12, u13, u14, u15, u16, u17, u18, u19, u20, u21, u22, u23, u24, u25, u26, u27, u28, u29, u30, u31, u32, u33, u34, u35, u36, u37, u38, u39, u40, u41, u42, u43, u44, u45, u46, u47, u48, u49, u50, u51, u52, u53, u54, u55, u56, u57, u58, u59, u60, u61, u62, u63, u64, u65], defers := [] } W := by
  have hl1 := (cut_sizes hc).1
  have hl2 := (cut_sizes hc).2
  have hsz := hj.rsz
  have HC := Aside0.mk hc
  have Hj := Aside0.mk hj
  clear hc hj
  change Code.wp _ _ _ _ _
  go_wp2_with fail
  refine (cut_nl s lb rb false hsz W Hj.out.lib HC.out).mono ?_
  rintro e W1 ⟨rfl, hb1⟩
  have HJ1 := Aside0.mk (Hj.out.below hb1)
  clear hb1 Hj
  have d1 : (lb.toList != []) = true := by simpa using hln
  have h0 : 0 < lb.size := size_pos hln
  have d3 : lb.toList.isEmpty = false := by rw [List.isEmpty_eq_false_iff]; exact hln
  go_wp2_with fail
  refine (told_any lb (by omega) W1 HJ1.out.lib).mono ?_
  rintro e W2 ⟨rfl, hb2⟩
  have HJ2 := Aside0.mk (HJ1.out.below hb2)
  clear hb2
  have BKB := Aside0.mk HJ2.out.hB
  have hc0 : W2.cell? ⟨bs, i, none⟩ = some (.bool false) := by rw [← hsn]; exact HJ2.out.seen i hi
  have hc1 : W2.cell? ⟨b, i, none⟩ = some (.int .i64 (p.vs.getD i 0)) := HJ2.out.val i hi
  have hz1 : W2.frozen? ⟨b, i, none⟩ = false := blk_frozen HJ2.out.hb i
  have hz0 : W2.frozen? ⟨bs, i, none⟩ = false := blk_frozen HJ2.out.hs i
  have hne : bs ≠ b := Ne.symm HJ2.out.ne3
  have HJ3 := Aside0.mk (HJ2.out.store i n hn)
  rw [hB, hI, hN]
  have HS := Aside0.mk hs
  clear hs hsn hB hI hN BKB
  generalize p.vs.getD i 0 = v0 at hc1
  have HE := Lib.hid (HJ1.out.last HC.out HS.out)
  clear HJ1 HC HS HJ2
  have HJ2 := HJ3
  clear HJ3
  go_wp2_with fail
  clear hc0 hc1 hz0 hz1
  generalize (⟨p.vs.set i n, p.sn.set i true⟩ : PS) = q at HJ2 HE
  obtain ⟨n0, n1, n2, n3, n4, n5, n6, n7, n8, n9, n10, n11, n12, n13, n14, n15, hv⟩ := len16 q.vs HJ2.out.vl
  have hrow := HJ2.out.hb
  rw [hv] at hrow
  simp only [List.map_cons, List.map_nil] at hrow
  refine (of_any b n0 n1 n2 n3 n4 n5 n6 n7 n8 n9 n10 n11 n12 n13 n14 n15 16 _ hrow).mono ?_
  rintro e W2 ⟨rfl, hb2⟩
  have HJ3 := Aside0.mk (HJ2.out.below hb2)
  clear hb2 hrow
  have BKC := Aside0.mk (heap_alloc_new W2 (.cells #[.int .i64 n0, .int .i64 n1, .int .i64 n2, .int .i64 n3, .int .i64 n4, .int .i64 n5, .int .i64 n6, .int .i64 n7, .int .i64 n8, .int .i64 n9, .int .i64 n10, .int .i64 n11, .int .i64 n12, .int .i64 n13, .int .i64 n14, .int .i64 n15] 24))
  have HJ4 := Aside0.mk (HJ3.out.below ((Below.refl _ _).alloc (Nat.le_refl _) (.cells #[.int .i64 n0, .int .i64 n1, .int .i64 n2, .int .i64 n3, .int .i64 n4, .int .i64 n5, .int .i64 n6, .int .i64 n7, .int .i64 n8, .int .i64 n9, .int .i64 n10, .int .i64 n11, .int .i64 n12, .int .i64 n13, .int .i64 n14, .int .i64 n15] 24)))
  have hlt2 : W2.heap.size < (W2.alloc (.cells #[.int .i64 n0, .int .i64 n1, .int .i64 n2, .int .i64 n3, .int .i64 n4, .int .i64 n5, .int .i64 n6, .int .i64 n7, .int .i64 n8, .int .i64 n9, .int .i64 n10, .int .i64 n11, .int .i64 n12, .int .i64 n13, .int .i64 n14, .int .i64 n15] 24)).heap.size := by simp
  go_wp2_with fail
  refine (valid_any n0 n1 n2 n3 n4 n5 n6 n7 n8 n9 n10 n11 n12 n13 n14 n15 _).mono ?_
  rintro e W3 ⟨rfl, hb3⟩
  have HJ5 := Aside0.mk (HJ4.out.below hb3)
  have BK3 := Aside0.mk ((hb3.block _ hlt2).trans BKC.out)
  clear hb3 hlt2
  generalize W2.heap.size = g at *
  have BKB := Aside0.mk HJ5.out.hB
  have y0 : W3.cell? ⟨B, 0, none⟩ = some (.int .i64 0) := (blk_cell BKB.out 0).trans rfl
  have z0 : W3.frozen? ⟨B, 0, none⟩ = false := blk_frozen BKB.out 0
  have x0 : W3.cell? ⟨g, 0, none⟩ = some (.int .i64 n0) := (blk_cell BK3.out 0).trans rfl
  have y1 : W3.cell? ⟨B, 1, none⟩ = some (.int .i64 0) := (blk_cell BKB.out 1).trans rfl
  have z1 : W3.frozen? ⟨B, 1, none⟩ = false := blk_frozen BKB.out 1
  have x1 : W3.cell? ⟨g, 1, none⟩ = some (.int .i64 n1) := (blk_cell BK3.out 1).trans rfl
  have y2 : W3.cell? ⟨B, 2, none⟩ = some (.int .i64 0) := (blk_cell BKB.out 2).trans rfl
  have z2 : W3.frozen? ⟨B, 2, none⟩ = false := blk_frozen BKB.out 2
  have x2 : W3.cell? ⟨g, 2, none⟩ = some (.int .i64 n2) := (blk_cell BK3.out 2).trans rfl
  have y3 : W3.cell? ⟨B, 3, none⟩ = some (.int .i64 0) := (blk_cell BKB.out 3).trans rfl
  have z3 : W3.frozen? ⟨B, 3, none⟩ = false := blk_frozen BKB.out 3
  have x3 : W3.cell? ⟨g, 3, none⟩ = some (.int .i64 n3) := (blk_cell BK3.out 3).trans rfl
  have y4 : W3.cell? ⟨B, 4, none⟩ = some (.int .i64 0) := (blk_cell BKB.out 4).trans rfl
  have z4 : W3.frozen? ⟨B, 4, none⟩ = false := blk_frozen BKB.out 4
  have x4 : W3.cell? ⟨g, 4, none⟩ = some (.int .i64 n4) := (blk_cell BK3.out 4).trans rfl
  have y5 : W3.cell? ⟨B, 5, none⟩ = some (.int .i64 0) := (blk_cell BKB.out 5).trans rfl
  have z5 : W3.frozen? ⟨B, 5, none⟩ = false := blk_frozen BKB.out 5
  have x5 : W3.cell? ⟨g, 5, none⟩ = some (.int .i64 n5) := (blk_cell BK3.out 5).trans rfl
  have y6 : W3.cell? ⟨B, 6, none⟩ = some (.int .i64 0) := (blk_cell BKB.out 6).trans rfl
  have z6 : W3.frozen? ⟨B, 6, none⟩ = false := blk_frozen BKB.out 6
  have x6 : W3.cell? ⟨g, 6, none⟩ = some (.int .i64 n6) := (blk_cell BK3.out 6).trans rfl
  have y7 : W3.cell? ⟨B, 7, none⟩ = some (.int .i64 0) := (blk_cell BKB.out 7).trans rfl
  have z7 : W3.frozen? ⟨B, 7, none⟩ = false := blk_frozen BKB.out 7
  have x7 : W3.cell? ⟨g, 7, none⟩ = some (.int .i64 n7) := (blk_cell BK3.out 7).trans rfl
  have y8 : W3.cell? ⟨B, 8, none⟩ = some (.int .i64 0) := (blk_cell BKB.out 8).trans rfl
  have z8 : W3.frozen? ⟨B, 8, none⟩ = false := blk_frozen BKB.out 8
  have x8 : W3.cell? ⟨g, 8, none⟩ = some (.int .i64 n8) := (blk_cell BK3.out 8).trans rfl
  have y9 : W3.cell? ⟨B, 9, none⟩ = some (.int .i64 0) := (blk_cell BKB.out 9).trans rfl
  have z9 : W3.frozen? ⟨B, 9, none⟩ = false := blk_frozen BKB.out 9
  have x9 : W3.cell? ⟨g, 9, none⟩ = some (.int .i64 n9) := (blk_cell BK3.out 9).trans rfl
  have y10 : W3.cell? ⟨B, 10, none⟩ = some (.int .i64 0) := (blk_cell BKB.out 10).trans rfl
  have z10 : W3.frozen? ⟨B, 10, none⟩ = false := blk_frozen BKB.out 10
  have x10 : W3.cell? ⟨g, 10, none⟩ = some (.int .i64 n10) := (blk_cell BK3.out 10).trans rfl
  have y11 : W3.cell? ⟨B, 11, none⟩ = some (.int .i64 0) := (blk_cell BKB.out 11).trans rfl
  have z11 : W3.frozen? ⟨B, 11, none⟩ = false := blk_frozen BKB.out 11
  have x11 : W3.cell? ⟨g, 11, none⟩ = some (.int .i64 n11) := (blk_cell BK3.out 11).trans rfl
  have y12 : W3.cell? ⟨B, 12, none⟩ = some (.int .i64 0) := (blk_cell BKB.out 12).trans rfl
  have z12 : W3.frozen? ⟨B, 12, none⟩ = false := blk_frozen BKB.out 12
  have x12 : W3.cell? ⟨g, 12, none⟩ = some (.int .i64 n12) := (blk_cell BK3.out 12).trans rfl
  have y13 : W3.cell? ⟨B, 13, none⟩ = some (.int .i64 0) := (blk_cell BKB.out 13).trans rfl
  have z13 : W3.frozen? ⟨B, 13, none⟩ = false := blk_frozen BKB.out 13
  have x13 : W3.cell? ⟨g, 13, none⟩ = some (.int .i64 n13) := (blk_cell BK3.out 13).trans rfl
  have y14 : W3.cell? ⟨B, 14, none⟩ = some (.int .i64 0) := (blk_cell BKB.out 14).trans rfl
  have z14 : W3.frozen? ⟨B, 14, none⟩ = false := blk_frozen BKB.out 14
  have x14 : W3.cell? ⟨g, 14, none⟩ = some (.int .i64 n14) := (blk_cell BK3.out 14).trans rfl
  have y15 : W3.cell? ⟨B, 15, none⟩ = some (.int .i64 0) := (blk_cell BKB.out 15).trans rfl
  have z15 : W3.frozen? ⟨B, 15, none⟩ = false := blk_frozen BKB.out 15
  have x15 : W3.cell? ⟨g, 15, none⟩ = some (.int .i64 n15) := (blk_cell BK3.out 15).trans rfl
  by_cases hV : validB [n0, n1, n2, n3, n4, n5, n6, n7, n8, n9, n10, n11, n12, n13, n14, n15] = true
  · rw [if_pos hV]
    have HF := Lib.hid (show R = ([n0, n1, n2, n3, n4, n5, n6, n7, n8, n9, n10, n11, n12, n13, n14, n15], 0) by rw [HE.out, endR, hv, if_pos hV])
    have HKB := Aside0.mk (blk16 BKB.out (.int .i64 n0) (.int .i64 n1) (.int .i64 n2) (.int .i64 n3) (.int .i64 n4) (.int .i64 n5) (.int .i64 n6) (.int .i64 n7) (.int .i64 n8) (.int .i64 n9) (.int .i64 n10) (.int .i64 n11) (.int .i64 n12) (.int .i64 n13) (.int .i64 n14) (.int .i64 n15))
    have HKU := Aside0.mk (below16 HJ5.out.bel HJ5.out.lB (.int .i64 n0) (.int .i64 n1) (.int .i64 n2) (.int .i64 n3) (.int .i64 n4) (.int .i64 n5) (.int .i64 n6) (.int .i64 n7) (.int .i64 n8) (.int .i64 n9) (.int .i64 n10) (.int .i64 n11) (.int .i64 n12) (.int .i64 n13) (.int .i64 n14) (.int .i64 n15))
    go_wp2_with fail
    refine ret_ok ?_
    unfold QR
    refine bodyPost_ret (results_ct rfl _ _ B 24 #[.int .i64 n0, .int .i64 n1, .int .i64 n2, .int .i64 n3, .int .i64 n4, .int .i64 n5, .int .i64 n6, .int .i64 n7, .int .i64 n8, .int .i64 n9, .int .i64 n10, .int .i64 n11, .int .i64 n12, .int .i64 n13, .int .i64 n14, .int .i64 n15] (0, 0) _ rfl HKB.out Tryd.underlying24 rfl (by kernel_rfl)) rfl ?_
    rw [HF.out]
    exact ⟨rfl, HKU.out⟩
  · rw [if_neg hV]
    have HF := Lib.hid (show R = (zero16, 1) by rw [HE.out, endR, hv, if_neg hV])
    have HKB := Aside0.mk (blk16 BKB.out (.int .i64 0) (.int .i64 0) (.int .i64 0) (.int .i64 0) (.int .i64 0) (.int .i64 0) (.int .i64 0) (.int .i64 0) (.int .i64 0) (.int .i64 0) (.int .i64 0) (.int .i64 0) (.int .i64 0) (.int .i64 0) (.int .i64 0) (.int .i64 0))
    have HKU := Aside0.mk (below16 HJ5.out.bel HJ5.out.lB (.int .i64 0) (.int .i64 0) (.int .i64 0) (.int .i64 0) (.int .i64 0) (.int .i64 0) (.int .i64 0) (.int .i64 0) (.int .i64 0) (.int .i64 0) (.int .i64 0) (.int .i64 0) (.int .i64 0) (.int .i64 0) (.int .i64 0) (.int .i64 0))
    go_wp2_with fail
    refine ret_ok ?_
    unfold QR
    refine bodyPost_ret (results_ct rfl _ _ B 24 #[.int .i64 0, .int .i64 0, .int .i64 0, .int .i64 0, .int .i64 0, .int .i64 0, .int .i64 0, .int .i64 0, .int .i64 0, .int .i64 0, .int .i64 0, .int .i64 0, .int .i64 0, .int .i64 0, .int .i64 0, .int .i64 0] (0, 0) _ rfl HKB.out Tryd.underlying24 rfl (by kernel_rfl)) rfl ?_
    rw [HF.out]
    exact ⟨rfl, HKU.out⟩
end Go.Proofs.YteaihgjjplgalaaDoor
