/- conf.Parse: a line that tells, but more follows; a line that's wrong. -/
import Derived.Test.YteaihgjjplgalaaDoorDoorParse2
namespace Go.Proofs.YteaihgjjplgalaaDoor
open Go.RowKit Go.Proofs.YteaihgjjplgalaaDoorW.PrintWords Go.Proofs.YteaihgjjplgalaaDoorW.PrintLast Go.Proofs.YteaihgjjplgalaaDoorW.PrintMore
set_option linter.unusedVariables false
set_option linter.unusedSimpArgs false

set_option maxRecDepth 100000 in
set_option maxHeartbeats 8000000 in
theorem leaf_bad (w : World) (R : List Int × Int) (s : ByteArray) (p : PS) (B b bs : Nat) (W : World) (u6 u7 u8 u9 u10 u11 u12 u13 u14 u15 u16 u17 u18 u19 u20 u21 u22 u23 u24 u25 u26 u27 u28 u29 u30 u31 u32 u33 u34 u35 u36 u37 u38 u39 u40 u41 u42 u43 u44 u45 u46 u47 u48 u49 u50 u51 u52 u53 u54 u55 u56 u57 u58 u59 u60 u61 u62 u63 u64 u65 : Value) (hj : JP w R s p B b bs W) (lb rb : ByteArray) (more : Bool) (hc : Lib.cut s.data.toList [10] = (lb.data.toList, rb.data.toList, more)) (hln : ¬ lb.toList = []) (hh : ((((lb[0]'(size_pos hln)).toNat : Int)) != 35) = true) (hB : toldB lb.data.toList = false) (hs : lineStep p lb.data.toList = .error 9) :
    FromLabel Tryd.prog 0 scopeC (QJ w R s.size) { tmps := #[.string s, undef, .pointer (some ⟨B, 0, none⟩), .int .i64 0, .slice (some ⟨b, 0, none⟩) 16 16, .slice (some ⟨bs, 0, none⟩) 16 16, u6, u7, u8, u9, u10, u11, u12, u13, u14, u15, u16, u17, u18, u19, u20, u21, u22, u23, u24, u25, u26, u27, u28, u29, u30, u31, u32, u33, u34, u35, u36, u37, u38, u39, u40, u41, u42, u43, u44, u45, u46, u47, u48, u49, u50, u51, u52, u53, u54, u55, u56, u57, u58, u59, u60, u61, u62, u63, u64, u65], defers := [] } W := by
  have hl1 := (cut_sizes hc).1
  have hl2 := (cut_sizes hc).2
  have hsz := hj.rsz
  have HC := Aside0.mk hc
  have Hj := Aside0.mk hj
  clear hc hj
  change Code.wp _ _ _ _ _
  go_wp2_with fail
  refine (cut_nl s lb rb more hsz W Hj.out.lib HC.out).mono ?_
  rintro e W1 ⟨rfl, hb1⟩
  have HJ1 := Aside0.mk (Hj.out.below hb1)
  clear hb1 Hj
  have d1 : (lb.toList != []) = true := by simpa using hln
  have h0 : 0 < lb.size := size_pos hln
  have d3 : lb.toList.isEmpty = false := by rw [List.isEmpty_eq_false_iff]; exact hln
  go_wp2_with fail
  refine (told_any lb (by omega) W1 HJ1.out.lib).mono ?_
  rintro e W2 ⟨rfl, hb2⟩
  have HJ2 := Aside0.mk (HJ1.out.below hb2)
  clear hb2
  have BKB := Aside0.mk HJ2.out.hB
  have HF := Lib.hid (HJ1.out.fail HC.out hs)
  rw [hB]
  clear hB hs HC
  have y0 : W2.cell? ⟨B, 0, none⟩ = some (.int .i64 0) := (blk_cell BKB.out 0).trans rfl
  have z0 : W2.frozen? ⟨B, 0, none⟩ = false := blk_frozen BKB.out 0
  have y1 : W2.cell? ⟨B, 1, none⟩ = some (.int .i64 0) := (blk_cell BKB.out 1).trans rfl
  have z1 : W2.frozen? ⟨B, 1, none⟩ = false := blk_frozen BKB.out 1
  have y2 : W2.cell? ⟨B, 2, none⟩ = some (.int .i64 0) := (blk_cell BKB.out 2).trans rfl
  have z2 : W2.frozen? ⟨B, 2, none⟩ = false := blk_frozen BKB.out 2
  have y3 : W2.cell? ⟨B, 3, none⟩ = some (.int .i64 0) := (blk_cell BKB.out 3).trans rfl
  have z3 : W2.frozen? ⟨B, 3, none⟩ = false := blk_frozen BKB.out 3
  have y4 : W2.cell? ⟨B, 4, none⟩ = some (.int .i64 0) := (blk_cell BKB.out 4).trans rfl
  have z4 : W2.frozen? ⟨B, 4, none⟩ = false := blk_frozen BKB.out 4
  have y5 : W2.cell? ⟨B, 5, none⟩ = some (.int .i64 0) := (blk_cell BKB.out 5).trans rfl
  have z5 : W2.frozen? ⟨B, 5, none⟩ = false := blk_frozen BKB.out 5
  have y6 : W2.cell? ⟨B, 6, none⟩ = some (.int .i64 0) := (blk_cell BKB.out 6).trans rfl
  have z6 : W2.frozen? ⟨B, 6, none⟩ = false := blk_frozen BKB.out 6
  have y7 : W2.cell? ⟨B, 7, none⟩ = some (.int .i64 0) := (blk_cell BKB.out 7).trans rfl
  have z7 : W2.frozen? ⟨B, 7, none⟩ = false := blk_frozen BKB.out 7
  have y8 : W2.cell? ⟨B, 8, none⟩ = some (.int .i64 0) := (blk_cell BKB.out 8).trans rfl
  have z8 : W2.frozen? ⟨B, 8, none⟩ = false := blk_frozen BKB.out 8
  have y9 : W2.cell? ⟨B, 9, none⟩ = some (.int .i64 0) := (blk_cell BKB.out 9).trans rfl
  have z9 : W2.frozen? ⟨B, 9, none⟩ = false := blk_frozen BKB.out 9
  have y10 : W2.cell? ⟨B, 10, none⟩ = some (.int .i64 0) := (blk_cell BKB.out 10).trans rfl
  have z10 : W2.frozen? ⟨B, 10, none⟩ = false := blk_frozen BKB.out 10
  have y11 : W2.cell? ⟨B, 11, none⟩ = some (.int .i64 0) := (blk_cell BKB.out 11).trans rfl
  have z11 : W2.frozen? ⟨B, 11, none⟩ = false := blk_frozen BKB.out 11
  have y12 : W2.cell? ⟨B, 12, none⟩ = some (.int .i64 0) := (blk_cell BKB.out 12).trans rfl
  have z12 : W2.frozen? ⟨B, 12, none⟩ = false := blk_frozen BKB.out 12
  have y13 : W2.cell? ⟨B, 13, none⟩ = some (.int .i64 0) := (blk_cell BKB.out 13).trans rfl
  have z13 : W2.frozen? ⟨B, 13, none⟩ = false := blk_frozen BKB.out 13
  have y14 : W2.cell? ⟨B, 14, none⟩ = some (.int .i64 0) := (blk_cell BKB.out 14).trans rfl
  have z14 : W2.frozen? ⟨B, 14, none⟩ = false := blk_frozen BKB.out 14
  have y15 : W2.cell? ⟨B, 15, none⟩ = some (.int .i64 0) := (blk_cell BKB.out 15).trans rfl
  have z15 : W2.frozen? ⟨B, 15, none⟩ = false := blk_frozen BKB.out 15
  have HKB := Aside0.mk (blk16 BKB.out (.int .i64 0) (.int .i64 0) (.int .i64 0) (.int .i64 0) (.int .i64 0) (.int .i64 0) (.int .i64 0) (.int .i64 0) (.int .i64 0) (.int .i64 0) (.int .i64 0) (.int .i64 0) (.int .i64 0) (.int .i64 0) (.int .i64 0) (.int .i64 0))
  have HKU := Aside0.mk (below16 HJ2.out.bel HJ2.out.lB (.int .i64 0) (.int .i64 0) (.int .i64 0) (.int .i64 0) (.int .i64 0) (.int .i64 0) (.int .i64 0) (.int .i64 0) (.int .i64 0) (.int .i64 0) (.int .i64 0) (.int .i64 0) (.int .i64 0) (.int .i64 0) (.int .i64 0) (.int .i64 0))
  go_wp2_with fail
  refine ret_ok ?_
  unfold QR
  refine bodyPost_ret (results_ct rfl _ _ B 24 #[.int .i64 0, .int .i64 0, .int .i64 0, .int .i64 0, .int .i64 0, .int .i64 0, .int .i64 0, .int .i64 0, .int .i64 0, .int .i64 0, .int .i64 0, .int .i64 0, .int .i64 0, .int .i64 0, .int .i64 0, .int .i64 0] (0, 0) _ rfl HKB.out Tryd.underlying24 rfl (by kernel_rfl)) rfl ?_
  rw [HF.out]
  exact ⟨rfl, HKU.out⟩
set_option maxRecDepth 100000 in
set_option maxHeartbeats 8000000 in
theorem leaf_seen (w : World) (R : List Int × Int) (s : ByteArray) (p : PS) (B b bs : Nat) (W : World) (u6 u7 u8 u9 u10 u11 u12 u13 u14 u15 u16 u17 u18 u19 u20 u21 u22 u23 u24 u25 u26 u27 u28 u29 u30 u31 u32 u33 u34 u35 u36 u37 u38 u39 u40 u41 u42 u43 u44 u45 u46 u47 u48 u49 u50 u51 u52 u53 u54 u55 u56 u57 u58 u59 u60 u61 u62 u63 u64 u65 : Value) (hj : JP w R s p B b bs W) (lb rb : ByteArray) (more : Bool) (hc : Lib.cut s.data.toList [10] = (lb.data.toList, rb.data.toList, more)) (hln : ¬ lb.toList = []) (hh : ((((lb[0]'(size_pos hln)).toNat : Int)) != 35) = true) (i : Nat) (n : Int) (hi : i < 16) (hB : toldB lb.data.toList = true) (hI : toldI lb.data.toList = (i : Int)) (hN : toldN (cutL lb.data.toList).2.1 = n) (hn : -9223372036854775808 ≤ n ∧ n ≤ 9223372036854775807) (hs : lineStep p lb.data.toList = .error 2) (hsn : p.sn.getD i false = true) :
    FromLabel Tryd.prog 0 scopeC (QJ w R s.size) { tmps := #[.string s, undef, .pointer (some ⟨B, 0, none⟩), .int .i64 0, .slice (some ⟨b, 0, none⟩) 16 16, .slice (some ⟨bs, 0, none⟩) 16 16, u6, u7, u8, u9, u10, u11, u12, u13, u14, u15, u16, u17, u18, u19, u20, u21, u22, u23, u24, u25, u26, u27, u28, u29, u30, u31, u32, u33, u34, u35, u36, u37, u38, u39, u40, u41, u42, u43, u44, u45, u46, u47, u48, u49, u50, u51, u52, u53, u54, u55, u56, u57, u58, u59, u60, u61, u62, u63, u64, u65], defers := [] } W := by
  have hl1 := (cut_sizes hc).1
  have hl2 := (cut_sizes hc).2
  have hsz := hj.rsz
  have HC := Aside0.mk hc
  have Hj := Aside0.mk hj
  clear hc hj
  change Code.wp _ _ _ _ _
  go_wp2_with fail
  refine (cut_nl s lb rb more hsz W Hj.out.lib HC.out).mono ?_
  rintro e W1 ⟨rfl, hb1⟩
  have HJ1 := Aside0.mk (Hj.out.below hb1)
  clear hb1 Hj
  have d1 : (lb.toList != []) = true := by simpa using hln
  have h0 : 0 < lb.size := size_pos hln
  have d3 : lb.toList.isEmpty = false := by rw [List.isEmpty_eq_false_iff]; exact hln
  go_wp2_with fail
  refine (told_any lb (by omega) W1 HJ1.out.lib).mono ?_
  rintro e W2 ⟨rfl, hb2⟩
  have HJ2 := Aside0.mk (HJ1.out.below hb2)
  clear hb2
  have BKB := Aside0.mk HJ2.out.hB
  have HF := Lib.hid (HJ1.out.fail HC.out hs)
  have hc0 : W2.cell? ⟨bs, i, none⟩ = some (.bool true) := by rw [← hsn]; exact HJ2.out.seen i hi
  rw [hB, hI]
  clear hB hI hs HC hsn
  have y0 : W2.cell? ⟨B, 0, none⟩ = some (.int .i64 0) := (blk_cell BKB.out 0).trans rfl
  have z0 : W2.frozen? ⟨B, 0, none⟩ = false := blk_frozen BKB.out 0
  have y1 : W2.cell? ⟨B, 1, none⟩ = some (.int .i64 0) := (blk_cell BKB.out 1).trans rfl
  have z1 : W2.frozen? ⟨B, 1, none⟩ = false := blk_frozen BKB.out 1
  have y2 : W2.cell? ⟨B, 2, none⟩ = some (.int .i64 0) := (blk_cell BKB.out 2).trans rfl
  have z2 : W2.frozen? ⟨B, 2, none⟩ = false := blk_frozen BKB.out 2
  have y3 : W2.cell? ⟨B, 3, none⟩ = some (.int .i64 0) := (blk_cell BKB.out 3).trans rfl
  have z3 : W2.frozen? ⟨B, 3, none⟩ = false := blk_frozen BKB.out 3
  have y4 : W2.cell? ⟨B, 4, none⟩ = some (.int .i64 0) := (blk_cell BKB.out 4).trans rfl
  have z4 : W2.frozen? ⟨B, 4, none⟩ = false := blk_frozen BKB.out 4
  have y5 : W2.cell? ⟨B, 5, none⟩ = some (.int .i64 0) := (blk_cell BKB.out 5).trans rfl
  have z5 : W2.frozen? ⟨B, 5, none⟩ = false := blk_frozen BKB.out 5
  have y6 : W2.cell? ⟨B, 6, none⟩ = some (.int .i64 0) := (blk_cell BKB.out 6).trans rfl
  have z6 : W2.frozen? ⟨B, 6, none⟩ = false := blk_frozen BKB.out 6
  have y7 : W2.cell? ⟨B, 7, none⟩ = some (.int .i64 0) := (blk_cell BKB.out 7).trans rfl
  have z7 : W2.frozen? ⟨B, 7, none⟩ = false := blk_frozen BKB.out 7
  have y8 : W2.cell? ⟨B, 8, none⟩ = some (.int .i64 0) := (blk_cell BKB.out 8).trans rfl
  have z8 : W2.frozen? ⟨B, 8, none⟩ = false := blk_frozen BKB.out 8
  have y9 : W2.cell? ⟨B, 9, none⟩ = some (.int .i64 0) := (blk_cell BKB.out 9).trans rfl
  have z9 : W2.frozen? ⟨B, 9, none⟩ = false := blk_frozen BKB.out 9
  have y10 : W2.cell? ⟨B, 10, none⟩ = some (.int .i64 0) := (blk_cell BKB.out 10).trans rfl
  have z10 : W2.frozen? ⟨B, 10, none⟩ = false := blk_frozen BKB.out 10
  have y11 : W2.cell? ⟨B, 11, none⟩ = some (.int .i64 0) := (blk_cell BKB.out 11).trans rfl
  have z11 : W2.frozen? ⟨B, 11, none⟩ = false := blk_frozen BKB.out 11
  have y12 : W2.cell? ⟨B, 12, none⟩ = some (.int .i64 0) := (blk_cell BKB.out 12).trans rfl
  have z12 : W2.frozen? ⟨B, 12, none⟩ = false := blk_frozen BKB.out 12
  have y13 : W2.cell? ⟨B, 13, none⟩ = some (.int .i64 0) := (blk_cell BKB.out 13).trans rfl
  have z13 : W2.frozen? ⟨B, 13, none⟩ = false := blk_frozen BKB.out 13
  have y14 : W2.cell? ⟨B, 14, none⟩ = some (.int .i64 0) := (blk_cell BKB.out 14).trans rfl
  have z14 : W2.frozen? ⟨B, 14, none⟩ = false := blk_frozen BKB.out 14
  have y15 : W2.cell? ⟨B, 15, none⟩ = some (.int .i64 0) := (blk_cell BKB.out 15).trans rfl
  have z15 : W2.frozen? ⟨B, 15, none⟩ = false := blk_frozen BKB.out 15
  have HKB := Aside0.mk (blk16 BKB.out (.int .i64 0) (.int .i64 0) (.int .i64 0) (.int .i64 0) (.int .i64 0) (.int .i64 0) (.int .i64 0) (.int .i64 0) (.int .i64 0) (.int .i64 0) (.int .i64 0) (.int .i64 0) (.int .i64 0) (.int .i64 0) (.int .i64 0) (.int .i64 0))
  have HKU := Aside0.mk (below16 HJ2.out.bel HJ2.out.lB (.int .i64 0) (.int .i64 0) (.int .i64 0) (.int .i64 0) (.int .i64 0) (.int .i64 0) (.int .i64 0) (.int .i64 0) (.int .i64 0) (.int .i64 0) (.int .i64 0) (.int .i64 0) (.int .i64 0) (.int .i64 0) (.int .i64 0) (.int .i64 0))
  go_wp2_with fail
  refine ret_ok ?_
  unfold QR
  refine bodyPost_ret (results_ct rfl _ _ B 24 #[.int .i64 0, .int .i64 0, .int .i64 0, .int .i64 0, .int .i64 0, .int .i64 0, .int .i64 0, .int .i64 0, .int .i64 0, .int .i64 0, .int .i64 0, .int .i64 0, .int .i64 0, .int .i64 0, .int .i64 0, .int .i64 0] (0, 0) _ rfl HKB.out Tryd.underlying24 rfl (by kernel_rfl)) rfl ?_
  rw [HF.out]
  exact ⟨rfl, HKU.out⟩
set_option maxRecDepth 100000 in
set_option maxHeartbeats 8000000 in
theorem leaf_okm (w : World) (R : List Int × Int) (s : ByteArray) (p : PS) (B b bs : Nat) (W : World) (u6 u7 u8 u9 u10 u11 u12 u13 u14 u15 u16 u17 u18 u19 u20 u21 u22 u23 u24 u25 u26 u27 u28 u29 u30 u31 u32 u33 u34 u35 u36 u37 u38 u39 u40 u41 u42 u43 u44 u45 u46 u47 u48 u49 u50 u51 u52 u53 u54 u55 u56 u57 u58 u59 u60 u61 u62 u63 u64 u65 : Value) (hj : JP w R s p B b bs W) (lb rb : ByteArray) (hc : Lib.cut s.data.toList [10] = (lb.data.toList, rb.data.toList, true)) (hln : ¬ lb.toList = []) (hh : ((((lb[0]'(size_pos hln)).toNat : Int)) != 35) = true) (i : Nat) (n : Int) (hi : i < 16) (hB : toldB lb.data.toList = true) (hI : toldI lb.data.toList = (i : Int)) (hN : toldN (cutL lb.data.toList).2.1 = n) (hn : -9223372036854775808 ≤ n ∧ n ≤ 9223372036854775807) (hs : lineStep p lb.data.toList = .ok ⟨p.vs.set i n, p.sn.set i true⟩) (hsn : p.sn.getD i false = false) :
    FromLabel Tryd.prog 0 scopeC (QJ w R s.size) { tmps := #[.string s, undef, .pointer (some ⟨B, 0, none⟩), .int .i64 0, .slice (some ⟨b, 0, none⟩) 16 16, .slice (some ⟨bs, 0, none⟩) 16 16, u6, u7, u8, u9, u10, u11, u12, u13, u14, u15, u16, u17, u18, u19, u20, u21, u22, u23, u24, u25, u26, u27, u28, u29, u30, u31, u32, u33, u34, u35, u36, u37, u38, u39, u40, u41, u42, u43, u44, u45, u46, u47, u48, u49, u50, u51, u52, u53, u54, u55, u56, u57, u58, u59, u60, u61, u62, u63, u64, u65], defers := [] } W := by
  have hl1 := (cut_sizes hc).1
  have hl2 := (cut_sizes hc).2
  have hsz := hj.rsz
  have HC := Aside0.mk hc
  have Hj := Aside0.mk hj
  clear hc hj
  change Code.wp _ _ _ _ _
  go_wp2_with fail
  refine (cut_nl s lb rb true hsz W Hj.out.lib HC.out).mono ?_
  rintro e W1 ⟨rfl, hb1⟩
  have HJ1 := Aside0.mk (Hj.out.below hb1)
  clear hb1 Hj
  have d1 : (lb.toList != []) = true := by simpa using hln
  have h0 : 0 < lb.size := size_pos hln
  have d3 : lb.toList.isEmpty = false := by rw [List.isEmpty_eq_false_iff]; exact hln
  go_wp2_with fail
  refine (told_any lb (by omega) W1 HJ1.out.lib).mono ?_
  rintro e W2 ⟨rfl, hb2⟩
  have HJ2 := Aside0.mk (HJ1.out.below hb2)
  clear hb2
  have BKB := Aside0.mk HJ2.out.hB
  have hc0 : W2.cell? ⟨bs, i, none⟩ = some (.bool false) := by rw [← hsn]; exact HJ2.out.seen i hi
  have hc1 : W2.cell? ⟨b, i, none⟩ = some (.int .i64 (p.vs.getD i 0)) := HJ2.out.val i hi
  have hz1 : W2.frozen? ⟨b, i, none⟩ = false := blk_frozen HJ2.out.hb i
  have hz0 : W2.frozen? ⟨bs, i, none⟩ = false := blk_frozen HJ2.out.hs i
  have hne : bs ≠ b := Ne.symm HJ2.out.ne3
  have HJ3 := Aside0.mk (HJ2.out.store i n hn)
  rw [hB, hI, hN]
  have HS := Aside0.mk hs
  clear hs hsn hB hI hN BKB
  generalize p.vs.getD i 0 = v0 at hc1
  have HJ4 := Aside0.mk (HJ1.out.next HJ3.out HC.out rfl HS.out)
  clear HJ2 HJ3 HS
  have HJ2 := HJ4
  go_wp2_with fail
  go_step3
  exact goto_ok ⟨rb, _, B, b, bs, _, _, _, _, _, _, _, _, _, _, _, _, _, _, _, _, _, _, _, _, _, _, _, _, _, _, _, _, _, _, _, _, _, _, _, _, _, _, _, _, _, _, _, _, _, _, _, _, _, _, _, _, _, _, _, _, _, _, _, _, rfl, HJ2.out⟩ (hl2 (by first | rfl | trivial))
end Go.Proofs.YteaihgjjplgalaaDoor
