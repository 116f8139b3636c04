/- The document's examples of layer 24, and SteadyBursts: walked. -/
import Derived.Test.YteaihgjjplgalaaSteadyP
namespace Go.Proofs.Yteaihgjjplgalaa
open Go.RowKit
set_option linter.unusedVariables false
set_option linter.unusedSimpArgs false

theorem StepD.len (s : StepD) : s.cells.length = 11 := rfl
abbrev SOwn := OwnV 69 11 StepD.cells
theorem infoStep : (Try.prog.info? 69).map (fun i => (i.zero, i.size, i.bytes)) = some (some (.agg #[.int .i64 0, .int .u8 0, .int .i64 0, .int .i64 0, .int .i64 0, .int .u8 0, .int .u64 0, .int .i64 0, .int .i64 0, .int .i64 0, .slice none 0 0]), 11, 104) := by kernel_rfl
/-- a step of a time and a kind, and nothing else. -/
def bare (now k : Int) (h : I64 now ∧ (0 ≤ k ∧ k ≤ 255) ∧ I64 0) : StepD := ⟨now, k, 0, 0, 0, 0, 0, 0, 0, 0, none, 0, 0, h⟩
theorem i64_0 : I64 0 := by unfold I64; omega
theorem i64_3 : I64 3 := by unfold I64; omega
theorem i64_5 : I64 5 := by unfold I64; omega
def exA : List StepD := [bare 0 1 ⟨i64_0, by omega, i64_0⟩, bare 3 1 ⟨i64_3, by omega, i64_0⟩, bare 5 1 ⟨i64_5, by omega, i64_0⟩]
def exB : List StepD := [bare 0 0 ⟨i64_0, by omega, i64_0⟩, bare 0 0 ⟨i64_0, by omega, i64_0⟩, bare 0 1 ⟨i64_0, by omega, i64_0⟩, bare 0 1 ⟨i64_0, by omega, i64_0⟩, bare 0 0 ⟨i64_0, by omega, i64_0⟩]
theorem take_app {α : Type} {xs : List α} {k : Nat} {x : α} (hx : xs[k]? = some x) : xs.take (k + 1) = xs.take k ++ [x] := by
  rw [List.take_add_one, hx]; rfl
theorem gap_exA : gapV 1 0 exA = (3, true) := by decide
theorem burst_exB : burst 0 exB = 2 := by decide

set_option maxRecDepth 100000 in
set_option maxHeartbeats 2000000 in
theorem steady_awake (w : World) : Calls Try.prog 27 #[] w fun e W' => e = .returned (.bool true) ∧ Upd (fun _ => False) w W' := by
  go_enter Try.func27, Try.ntmps27
  go_wp2_with fail
  have b0 : Blk _ _ _ _ := Blk.new w #[.int .i64 0, .int .i64 3, .int .i64 5] 2
  have u0 : Upd (fun _ => False) w _ := (Upd.refl _ w).alloc (.cells #[.int .i64 0, .int .i64 3, .int .i64 5] 2)
  obtain ⟨B, hB⟩ : ∃ B, B = w.heap.size := ⟨_, rfl⟩
  rw [← hB] at b0 ⊢
  have hsB : ∀ wx : World, Upd (fun _ => False) w wx → B ≤ wx.heap.size := fun wx h => by rw [hB]; exact h.size
  have HSB := Lib.hid hsB
  have HBe := Lib.hid hB
  clear hB hsB
  go_loopw [1, 11] (fun out i wr => ∃ k : Nat, i = .int .i64 k ∧ k ≤ 3 ∧ SOwn (B + 1) wr out (exA.take k) ∧ Blk wr B #[.int .i64 0, .int .i64 3, .int .i64 5] 2 ∧ Upd (fun _ => False) w wr) (fun _ i _ => 3 - (intOf i).toNat)
  case atStart => exact ⟨0, rfl, Nat.zero_le _, OwnV.nil _ _ _ _ _, b0, u0⟩
  case round =>
    obtain ⟨k, rfl, hk, hO, hbk, hU⟩ := hrel
    have hlB := hbk.lt
    have hk4 : k = 0 ∨ k = 1 ∨ k = 2 ∨ k = 3 := by omega
    clear b0 u0
    rcases hk4 with rfl | rfl | rfl | rfl
    · have hl : (exA.take 0).length = 0 := rfl
      have hc0 : wr.cell? ⟨B, 0, none⟩ = some (.int .i64 0) := hbk.cell 0
      go_wp2_with (at_builtin; refine wpList_append_rec rfl _ _ 66 69 _ 11 104 StepD.cells StepD.len rfl Try.underlying66 infoStep rfl (by decide) _ (B + 1) (exA.take 0) rfl (hO.alloc _) ⟨wr.heap.size, 0, none⟩ 1 exA[0] rfl (news_alloc _ _ _ _ rfl) (by simp [exA, bare, StepD.cells, Value.oneCell']) (by rw [hl]; unfold maxLen; omega) (by rw [hl]; omega) (by simp; omega) ?_; rintro v' w' hO' hu ⟨a', c', rfl⟩)
      go_roundw
      case rel => exact ⟨1, rfl, by omega, hO', ((hbk.upd ((Upd.refl (fun _ => False) _).alloc _) (fun h => h)).upd hu (fun e => by have := (hO.lt _ e).1; omega)), (hU.alloc _).then hu (fun i hi e => by have := (hO.lt i e).1; have := HBe.out; omega)⟩
      case measure => simp [intOf]
    · have hl : (exA.take 1).length = 1 := rfl
      have hc0 : wr.cell? ⟨B, 1, none⟩ = some (.int .i64 3) := hbk.cell 1
      go_wp2_with (at_builtin; refine wpList_append_rec rfl _ _ 66 69 _ 11 104 StepD.cells StepD.len rfl Try.underlying66 infoStep rfl (by decide) _ (B + 1) (exA.take 1) rfl (hO.alloc _) ⟨wr.heap.size, 0, none⟩ 1 exA[1] rfl (news_alloc _ _ _ _ rfl) (by simp [exA, bare, StepD.cells, Value.oneCell']) (by rw [hl]; unfold maxLen; omega) (by rw [hl]; omega) (by simp; omega) ?_; rintro v' w' hO' hu ⟨a', c', rfl⟩)
      go_roundw
      case rel => exact ⟨2, rfl, by omega, hO', ((hbk.upd ((Upd.refl (fun _ => False) _).alloc _) (fun h => h)).upd hu (fun e => by have := (hO.lt _ e).1; omega)), (hU.alloc _).then hu (fun i hi e => by have := (hO.lt i e).1; have := HBe.out; omega)⟩
      case measure => simp [intOf]
    · have hl : (exA.take 2).length = 2 := rfl
      have hc0 : wr.cell? ⟨B, 2, none⟩ = some (.int .i64 5) := hbk.cell 2
      go_wp2_with (at_builtin; refine wpList_append_rec rfl _ _ 66 69 _ 11 104 StepD.cells StepD.len rfl Try.underlying66 infoStep rfl (by decide) _ (B + 1) (exA.take 2) rfl (hO.alloc _) ⟨wr.heap.size, 0, none⟩ 1 exA[2] rfl (news_alloc _ _ _ _ rfl) (by simp [exA, bare, StepD.cells, Value.oneCell']) (by rw [hl]; unfold maxLen; omega) (by rw [hl]; omega) (by simp; omega) ?_; rintro v' w' hO' hu ⟨a', c', rfl⟩)
      go_roundw
      case rel => exact ⟨3, rfl, by omega, hO', ((hbk.upd ((Upd.refl (fun _ => False) _).alloc _) (fun h => h)).upd hu (fun e => by have := (hO.lt _ e).1; omega)), (hU.alloc _).then hu (fun i hi e => by have := (hO.lt i e).1; have := HBe.out; omega)⟩
      case measure => simp [intOf]
    · have hOA : SOwn (B + 1) wr _ exA := hO
      obtain ⟨w1, rfl⟩ : ∃ w1 : World, w1 = wr := ⟨_, rfl⟩
      obtain ⟨aa, ca, rfl⟩ := hOA.form
      go_wp2_with fail
      have b1 : Blk _ _ _ _ := Blk.new w1 #[.int .u8 0, .int .u8 0, .int .u8 1, .int .u8 1, .int .u8 0] 5
      have u1 : Upd (fun _ => False) w1 _ := (Upd.refl _ w1).alloc (.cells #[.int .u8 0, .int .u8 0, .int .u8 1, .int .u8 1, .int .u8 0] 5)
      obtain ⟨C, hC⟩ : ∃ C, C = w1.heap.size := ⟨_, rfl⟩
      rw [← hC] at b1 ⊢
      have HBf := Lib.hid hC
      have HU1 := Lib.hid hU
      have HO1 := Lib.hid hOA
      clear hC hbk hO hOA hU hlB
      go_loopw [2, 24] (fun out i wr => ∃ k : Nat, i = .int .i64 k ∧ k ≤ 5 ∧ SOwn (C + 1) wr out (exB.take k) ∧ Blk wr C #[.int .u8 0, .int .u8 0, .int .u8 1, .int .u8 1, .int .u8 0] 5 ∧ Upd (fun _ => False) w1 wr) (fun _ i _ => 5 - (intOf i).toNat)
      case atStart => exact ⟨0, rfl, Nat.zero_le _, OwnV.nil _ _ _ _ _, b1, u1⟩
      case round =>
        obtain ⟨k, rfl, hk, hO, hbk, hU⟩ := hrel
        have hlB := hbk.lt
        have hk4 : k = 0 ∨ k = 1 ∨ k = 2 ∨ k = 3 ∨ k = 4 ∨ k = 5 := by omega
        clear b1 u1
        rcases hk4 with rfl | rfl | rfl | rfl | rfl | rfl
        · have hl : (exB.take 0).length = 0 := rfl
          have hc0 : wr.cell? ⟨C, 0, none⟩ = some (.int .u8 0) := hbk.cell 0
          go_wp2_with (at_builtin; refine wpList_append_rec rfl _ _ 66 69 _ 11 104 StepD.cells StepD.len rfl Try.underlying66 infoStep rfl (by decide) _ (C + 1) (exB.take 0) rfl (hO.alloc _) ⟨wr.heap.size, 0, none⟩ 1 exB[0] rfl (news_alloc _ _ _ _ rfl) (by simp [exB, bare, StepD.cells, Value.oneCell']) (by rw [hl]; unfold maxLen; omega) (by rw [hl]; omega) (by simp; omega) ?_; rintro v' w' hO' hu ⟨a', c', rfl⟩)
          go_roundw
          case rel => first | exact ⟨1, rfl, by omega, hO', ((hbk.upd ((Upd.refl (fun _ => False) _).alloc _) (fun h => h)).upd hu (fun e => by have := (hO.lt _ e).1; omega)), (hU.alloc _).then hu (fun i hi e => by have := (hO.lt i e).1; have := HBf.out; omega)⟩ | ((repeat apply Exists.intro); exact ⟨⟨1, rfl, by omega, hO', ((hbk.upd ((Upd.refl (fun _ => False) _).alloc _) (fun h => h)).upd hu (fun e => by have := (hO.lt _ e).1; omega)), (hU.alloc _).then hu (fun i hi e => by have := (hO.lt i e).1; have := HBf.out; omega)⟩, rfl⟩)
          case measure => simp [intOf]
        · have hl : (exB.take 1).length = 1 := rfl
          have hc0 : wr.cell? ⟨C, 1, none⟩ = some (.int .u8 0) := hbk.cell 1
          go_wp2_with (at_builtin; refine wpList_append_rec rfl _ _ 66 69 _ 11 104 StepD.cells StepD.len rfl Try.underlying66 infoStep rfl (by decide) _ (C + 1) (exB.take 1) rfl (hO.alloc _) ⟨wr.heap.size, 0, none⟩ 1 exB[1] rfl (news_alloc _ _ _ _ rfl) (by simp [exB, bare, StepD.cells, Value.oneCell']) (by rw [hl]; unfold maxLen; omega) (by rw [hl]; omega) (by simp; omega) ?_; rintro v' w' hO' hu ⟨a', c', rfl⟩)
          go_roundw
          case rel => first | exact ⟨2, rfl, by omega, hO', ((hbk.upd ((Upd.refl (fun _ => False) _).alloc _) (fun h => h)).upd hu (fun e => by have := (hO.lt _ e).1; omega)), (hU.alloc _).then hu (fun i hi e => by have := (hO.lt i e).1; have := HBf.out; omega)⟩ | ((repeat apply Exists.intro); exact ⟨⟨2, rfl, by omega, hO', ((hbk.upd ((Upd.refl (fun _ => False) _).alloc _) (fun h => h)).upd hu (fun e => by have := (hO.lt _ e).1; omega)), (hU.alloc _).then hu (fun i hi e => by have := (hO.lt i e).1; have := HBf.out; omega)⟩, rfl⟩)
          case measure => simp [intOf]
        · have hl : (exB.take 2).length = 2 := rfl
          have hc0 : wr.cell? ⟨C, 2, none⟩ = some (.int .u8 1) := hbk.cell 2
          go_wp2_with (at_builtin; refine wpList_append_rec rfl _ _ 66 69 _ 11 104 StepD.cells StepD.len rfl Try.underlying66 infoStep rfl (by decide) _ (C + 1) (exB.take 2) rfl (hO.alloc _) ⟨wr.heap.size, 0, none⟩ 1 exB[2] rfl (news_alloc _ _ _ _ rfl) (by simp [exB, bare, StepD.cells, Value.oneCell']) (by rw [hl]; unfold maxLen; omega) (by rw [hl]; omega) (by simp; omega) ?_; rintro v' w' hO' hu ⟨a', c', rfl⟩)
          go_roundw
          case rel => first | exact ⟨3, rfl, by omega, hO', ((hbk.upd ((Upd.refl (fun _ => False) _).alloc _) (fun h => h)).upd hu (fun e => by have := (hO.lt _ e).1; omega)), (hU.alloc _).then hu (fun i hi e => by have := (hO.lt i e).1; have := HBf.out; omega)⟩ | ((repeat apply Exists.intro); exact ⟨⟨3, rfl, by omega, hO', ((hbk.upd ((Upd.refl (fun _ => False) _).alloc _) (fun h => h)).upd hu (fun e => by have := (hO.lt _ e).1; omega)), (hU.alloc _).then hu (fun i hi e => by have := (hO.lt i e).1; have := HBf.out; omega)⟩, rfl⟩)
          case measure => simp [intOf]
        · have hl : (exB.take 3).length = 3 := rfl
          have hc0 : wr.cell? ⟨C, 3, none⟩ = some (.int .u8 1) := hbk.cell 3
          go_wp2_with (at_builtin; refine wpList_append_rec rfl _ _ 66 69 _ 11 104 StepD.cells StepD.len rfl Try.underlying66 infoStep rfl (by decide) _ (C + 1) (exB.take 3) rfl (hO.alloc _) ⟨wr.heap.size, 0, none⟩ 1 exB[3] rfl (news_alloc _ _ _ _ rfl) (by simp [exB, bare, StepD.cells, Value.oneCell']) (by rw [hl]; unfold maxLen; omega) (by rw [hl]; omega) (by simp; omega) ?_; rintro v' w' hO' hu ⟨a', c', rfl⟩)
          go_roundw
          case rel => first | exact ⟨4, rfl, by omega, hO', ((hbk.upd ((Upd.refl (fun _ => False) _).alloc _) (fun h => h)).upd hu (fun e => by have := (hO.lt _ e).1; omega)), (hU.alloc _).then hu (fun i hi e => by have := (hO.lt i e).1; have := HBf.out; omega)⟩ | ((repeat apply Exists.intro); exact ⟨⟨4, rfl, by omega, hO', ((hbk.upd ((Upd.refl (fun _ => False) _).alloc _) (fun h => h)).upd hu (fun e => by have := (hO.lt _ e).1; omega)), (hU.alloc _).then hu (fun i hi e => by have := (hO.lt i e).1; have := HBf.out; omega)⟩, rfl⟩)
          case measure => simp [intOf]
        · have hl : (exB.take 4).length = 4 := rfl
          have hc0 : wr.cell? ⟨C, 4, none⟩ = some (.int .u8 0) := hbk.cell 4
          go_wp2_with (at_builtin; refine wpList_append_rec rfl _ _ 66 69 _ 11 104 StepD.cells StepD.len rfl Try.underlying66 infoStep rfl (by decide) _ (C + 1) (exB.take 4) rfl (hO.alloc _) ⟨wr.heap.size, 0, none⟩ 1 exB[4] rfl (news_alloc _ _ _ _ rfl) (by simp [exB, bare, StepD.cells, Value.oneCell']) (by rw [hl]; unfold maxLen; omega) (by rw [hl]; omega) (by simp; omega) ?_; rintro v' w' hO' hu ⟨a', c', rfl⟩)
          go_roundw
          case rel => first | exact ⟨5, rfl, by omega, hO', ((hbk.upd ((Upd.refl (fun _ => False) _).alloc _) (fun h => h)).upd hu (fun e => by have := (hO.lt _ e).1; omega)), (hU.alloc _).then hu (fun i hi e => by have := (hO.lt i e).1; have := HBf.out; omega)⟩ | ((repeat apply Exists.intro); exact ⟨⟨5, rfl, by omega, hO', ((hbk.upd ((Upd.refl (fun _ => False) _).alloc _) (fun h => h)).upd hu (fun e => by have := (hO.lt _ e).1; omega)), (hU.alloc _).then hu (fun i hi e => by have := (hO.lt i e).1; have := HBf.out; omega)⟩, rfl⟩)
          case measure => simp [intOf]
        · have hOB : SOwn (C + 1) wr _ exB := hO
          have hOA : SOwn (B + 1) wr _ exA := HO1.out.upd hU (fun _ _ h => h)
          obtain ⟨ab, cb, rfl⟩ := hOB.form
          go_wp2_with fail
          refine (gap_poll _ exA 0 i64_0 _ ((hOA.sl StepD.len).mono (fun b hb => hb.2))).mono ?_
          rw [gap_exA]
          rintro e w2 ⟨rfl, v2⟩
          go_wp2_with fail
          refine (burst_any _ exB (by decide) 0 _ (((hOB.upd v2 (fun _ _ h => h)).sl StepD.len).mono (fun b hb => hb.2))).mono ?_
          rw [burst_exB]
          rintro e w3 ⟨rfl, v3⟩
          go_wp2_with fail
          go_ret
          exact ⟨rfl, ((HU1.out.trans hU).trans v2).trans v3⟩
end Go.Proofs.Yteaihgjjplgalaa
