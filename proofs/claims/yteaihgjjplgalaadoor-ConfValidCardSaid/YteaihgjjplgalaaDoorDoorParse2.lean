/- conf.Parse: a line that tells nothing. -/
import Derived.Test.YteaihgjjplgalaaDoorDoorValid
import Derived.Test.YteaihgjjplgalaaDoorDoorOf
import Derived.Test.YteaihgjjplgalaaDoorJump
import Derived.WalkMore
namespace Go.Proofs.YteaihgjjplgalaaDoor
open Go.RowKit Go.Proofs.YteaihgjjplgalaaDoorW.PrintWords Go.Proofs.YteaihgjjplgalaaDoorW.PrintLast Go.Proofs.YteaihgjjplgalaaDoorW.PrintMore
set_option linter.unusedVariables false
set_option linter.unusedSimpArgs false

/-- The scope in conf.Parse. -/
noncomputable def scopeC : Code := match Tryd.f11.body with
  | some (.seq _ (.scope c)) => c
  | _ => .skip
def JA (w0 : World) (R : List Int × Int) (a : Act) (w : World) : Prop := ∃ (s : ByteArray) (p : PS) (B b bs : Nat) (u6 u7 u8 u9 u10 u11 u12 u13 u14 u15 u16 u17 u18 u19 u20 u21 u22 u23 u24 u25 u26 u27 u28 u29 u30 u31 u32 u33 u34 u35 u36 u37 u38 u39 u40 u41 u42 u43 u44 u45 u46 u47 u48 u49 u50 u51 u52 u53 u54 u55 u56 u57 u58 u59 u60 u61 u62 u63 u64 u65 : Value), a = { tmps := #[.string s, undef, .pointer (some ⟨B, 0, none⟩), .int .i64 0, .slice (some ⟨b, 0, none⟩) 16 16, .slice (some ⟨bs, 0, none⟩) 16 16, u6, u7, u8, u9, u10, u11, u12, u13, u14, u15, u16, u17, u18, u19, u20, u21, u22, u23, u24, u25, u26, u27, u28, u29, u30, u31, u32, u33, u34, u35, u36, u37, u38, u39, u40, u41, u42, u43, u44, u45, u46, u47, u48, u49, u50, u51, u52, u53, u54, u55, u56, u57, u58, u59, u60, u61, u62, u63, u64, u65], defers := [] } ∧ JP w0 R s p B b bs w
def sizeOf' (a : Act) : Nat := match a.tmps.getD 0 undef with | .string r => r.size | _ => 0
def QR (w : World) (R : List Int × Int) : Exit → Act → World → Prop := bodyPost Tryd.prog Tryd.f11 fun e w' => e = .returned (.tuple #[cfgV R.1, .int .i64 R.2]) ∧ Below w.heap.size w w'
def QJ (w : World) (R : List Int × Int) (m : Nat) : Exit → Act → World → Prop := Exit.jump 0 (fun a' w' => JA w R a' w' ∧ sizeOf' a' < m) (QR w R)
theorem goto_ok {w : World} {R : List Int × Int} {m : Nat} {a' : Act} {w' : World} (h1 : JA w R a' w') (h2 : sizeOf' a' < m) : QJ w R m (.goto 0) a' w' := ⟨rfl, h1, h2⟩
theorem ret_ok {w : World} {R : List Int × Int} {m : Nat} {a' : Act} {w' : World} (h : QR w R .ret a' w') : QJ w R m .ret a' w' := h
theorem cut_nl (s lb rb : ByteArray) (more : Bool) (hs : s.size ≤ 20000) (w : World) (hL : LibAt w) (hc : Lib.cut s.data.toList [10] = (lb.data.toList, rb.data.toList, more)) :
    Calls Tryd.prog 28 #[.string s, .string ⟨#[10]⟩] w fun e w' => e = .returned (.tuple #[.string lb, .string rb, .bool more]) ∧ Below w.heap.size w w' := by
  refine (cut_any s (by omega) ⟨#[10]⟩ w hL).mono ?_
  rintro e w' ⟨he, hb⟩
  refine ⟨he.trans ?_, hb⟩
  have e1 : (⟨#[10]⟩ : ByteArray).data.toList = [10] := rfl
  rw [e1, hc]
theorem cut_sizes {s lb rb : ByteArray} {more : Bool} (hc : Lib.cut s.data.toList [10] = (lb.data.toList, rb.data.toList, more)) : lb.size ≤ s.size ∧ (more = true → rb.size < s.size) := by
  have h := cut_lens s.data.toList
  rw [hc, Array.length_toList, Array.length_toList, Array.length_toList] at h
  exact ⟨h.1, h.2.2⟩
theorem size_pos {l : ByteArray} (h : ¬ l.toList = []) : 0 < l.size := by
  rcases Nat.eq_zero_or_pos l.size with h0 | h0
  · refine absurd ?_ h
    rw [ByteArray.toList_eq]
    exact List.eq_nil_of_length_eq_zero (by rw [Array.length_toList]; exact h0)
  · exact h0
set_option maxRecDepth 100000 in
set_option maxHeartbeats 8000000 in
theorem leaf_em (w : World) (R : List Int × Int) (s : ByteArray) (p : PS) (B b bs : Nat) (W : World) (u6 u7 u8 u9 u10 u11 u12 u13 u14 u15 u16 u17 u18 u19 u20 u21 u22 u23 u24 u25 u26 u27 u28 u29 u30 u31 u32 u33 u34 u35 u36 u37 u38 u39 u40 u41 u42 u43 u44 u45 u46 u47 u48 u49 u50 u51 u52 u53 u54 u55 u56 u57 u58 u59 u60 u61 u62 u63 u64 u65 : Value) (hj : JP w R s p B b bs W) (lb rb : ByteArray) (hc : Lib.cut s.data.toList [10] = (lb.data.toList, rb.data.toList, true)) (hln : lb.toList = []) :
    FromLabel Tryd.prog 0 scopeC (QJ w R s.size) { tmps := #[.string s, undef, .pointer (some ⟨B, 0, none⟩), .int .i64 0, .slice (some ⟨b, 0, none⟩) 16 16, .slice (some ⟨bs, 0, none⟩) 16 16, u6, u7, u8, u9, u10, u11, u12, u13, u14, u15, u16, u17, u18, u19, u20, u21, u22, u23, u24, u25, u26, u27, u28, u29, u30, u31, u32, u33, u34, u35, u36, u37, u38, u39, u40, u41, u42, u43, u44, u45, u46, u47, u48, u49, u50, u51, u52, u53, u54, u55, u56, u57, u58, u59, u60, u61, u62, u63, u64, u65], defers := [] } W := by
  have hl1 := (cut_sizes hc).1
  have hl2 := (cut_sizes hc).2
  have hsz := hj.rsz
  have HC := Aside0.mk hc
  have Hj := Aside0.mk hj
  clear hc hj
  change Code.wp _ _ _ _ _
  go_wp2_with fail
  refine (cut_nl s lb rb true hsz W Hj.out.lib HC.out).mono ?_
  rintro e W1 ⟨rfl, hb1⟩
  have HJ1 := Aside0.mk (Hj.out.below hb1)
  clear hb1 Hj
  have d1 : (lb.toList != []) = false := by rw [hln]; rfl
  have HS := Aside0.mk (step_empty p hln)
  have HJ2 := Aside0.mk (HJ1.out.next HJ1.out HC.out rfl HS.out)
  go_wp2_with fail
  go_step3
  exact goto_ok ⟨rb, _, B, b, bs, _, _, _, _, _, _, _, _, _, _, _, _, _, _, _, _, _, _, _, _, _, _, _, _, _, _, _, _, _, _, _, _, _, _, _, _, _, _, _, _, _, _, _, _, _, _, _, _, _, _, _, _, _, _, _, _, _, _, _, _, rfl, HJ2.out⟩ (hl2 (by first | rfl | trivial))
set_option maxRecDepth 100000 in
set_option maxHeartbeats 8000000 in
theorem leaf_hm (w : World) (R : List Int × Int) (s : ByteArray) (p : PS) (B b bs : Nat) (W : World) (u6 u7 u8 u9 u10 u11 u12 u13 u14 u15 u16 u17 u18 u19 u20 u21 u22 u23 u24 u25 u26 u27 u28 u29 u30 u31 u32 u33 u34 u35 u36 u37 u38 u39 u40 u41 u42 u43 u44 u45 u46 u47 u48 u49 u50 u51 u52 u53 u54 u55 u56 u57 u58 u59 u60 u61 u62 u63 u64 u65 : Value) (hj : JP w R s p B b bs W) (lb rb : ByteArray) (hc : Lib.cut s.data.toList [10] = (lb.data.toList, rb.data.toList, true)) (hln : ¬ lb.toList = []) (hh : ((((lb[0]'(size_pos hln)).toNat : Int)) != 35) = false) :
    FromLabel Tryd.prog 0 scopeC (QJ w R s.size) { tmps := #[.string s, undef, .pointer (some ⟨B, 0, none⟩), .int .i64 0, .slice (some ⟨b, 0, none⟩) 16 16, .slice (some ⟨bs, 0, none⟩) 16 16, u6, u7, u8, u9, u10, u11, u12, u13, u14, u15, u16, u17, u18, u19, u20, u21, u22, u23, u24, u25, u26, u27, u28, u29, u30, u31, u32, u33, u34, u35, u36, u37, u38, u39, u40, u41, u42, u43, u44, u45, u46, u47, u48, u49, u50, u51, u52, u53, u54, u55, u56, u57, u58, u59, u60, u61, u62, u63, u64, u65], defers := [] } W := by
  have hl1 := (cut_sizes hc).1
  have hl2 := (cut_sizes hc).2
  have hsz := hj.rsz
  have HC := Aside0.mk hc
  have Hj := Aside0.mk hj
  clear hc hj
  change Code.wp _ _ _ _ _
  go_wp2_with fail
  refine (cut_nl s lb rb true hsz W Hj.out.lib HC.out).mono ?_
  rintro e W1 ⟨rfl, hb1⟩
  have HJ1 := Aside0.mk (Hj.out.below hb1)
  clear hb1 Hj
  have d1 : (lb.toList != []) = true := by simpa using hln
  have h0 : 0 < lb.size := size_pos hln
  have d3 : lb.toList.isEmpty = false := by rw [List.isEmpty_eq_false_iff]; exact hln
  have d2 : ((lb[0].toNat : Int) != 35) = false := hh
  have HS := Aside0.mk (step_hash p h0 d2)
  have HJ2 := Aside0.mk (HJ1.out.next HJ1.out HC.out rfl HS.out)
  go_wp2_with fail
  go_step3
  exact goto_ok ⟨rb, _, B, b, bs, _, _, _, _, _, _, _, _, _, _, _, _, _, _, _, _, _, _, _, _, _, _, _, _, _, _, _, _, _, _, _, _, _, _, _, _, _, _, _, _, _, _, _, _, _, _, _, _, _, _, _, _, _, _, _, _, _, _, _, _, rfl, HJ2.out⟩ (hl2 (by first | rfl | trivial))
end Go.Proofs.YteaihgjjplgalaaDoor
