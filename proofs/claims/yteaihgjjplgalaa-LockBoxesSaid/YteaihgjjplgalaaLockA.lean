/- The document's example of layer 19, and the scripts of trying and freeing: walked. -/
import Derived.Test.YteaihgjjplgalaaLock
import Derived.Test.YteaihgjjplgalaaOpen
namespace Go.Proofs.Yteaihgjjplgalaa
open Go.RowKit
set_option linter.unusedVariables false
set_option linter.unusedSimpArgs false

set_option maxHeartbeats 400000 in
theorem lock_awake (w : World) : Calls Try.prog 11 #[] w fun e w' => e = .returned (.bool true) ∧ Upd (fun _ => False) w w' := by
  go_enter Try.func11, Try.ntmps11
  go_wp2_with fail
  refine (newlock _).mono ?_
  rintro e w1 ⟨rfl, hw1⟩
  have b0 : Blk w1 w.heap.size #[.int .i64 0] 123 := by rw [hw1]; exact Blk.new _ _ _
  have u0 : Upd (· = w.heap.size) w w1 := by rw [hw1]; exact (Upd.refl _ _).alloc _
  clear hw1
  go_wp2_with fail
  refine (lock_try _ 0 1 _ (by omega) b0).mono ?_
  rintro e w2 ⟨rfl, b1, u1⟩
  rw [show tried 0 1 = 2 from rfl] at b1
  go_wp2_with fail
  refine (lock_try _ 2 2 _ (by omega) b1).mono ?_
  rintro e w3 ⟨rfl, b2, u2⟩
  rw [show tried 2 2 = 2 from rfl] at b2
  go_wp2_with fail
  refine (lock_free _ 2 2 _ (by omega) b2).mono ?_
  rintro e w4 ⟨rfl, b3, u3⟩
  rw [show freed 2 2 = 2 from rfl] at b3
  go_wp2_with fail
  refine (lock_free _ 2 1 _ (by omega) b3).mono ?_
  rintro e w5 ⟨rfl, b4, u4⟩
  go_wp2_with fail
  go_ret
  exact ⟨rfl, ((((u0.trans u1).trans u2).trans u3).trans u4).mono fun k hk e => by omega⟩

/-- the reference's owner and the lock's number. -/
theorem tried_rel {o r i : Int} (h : o = r + 1) (h0 : -1 ≤ r) : tried o i = rtried r i + 1 ∧ -1 ≤ rtried r i ∧ decide (0 ≤ i ∧ o = 0) = decide (0 ≤ i ∧ r < 0) := by
  unfold tried rtried
  refine ⟨?_, ?_, ?_⟩
  · split <;> split <;> omega
  · split <;> omega
  · rw [decide_eq_decide]; omega
theorem freed_rel {o r i : Int} (h : o = r + 1) (h0 : -1 ≤ r) : freed o i = rfreed r i + 1 ∧ -1 ≤ rfreed r i ∧ decide (0 ≤ i ∧ o = i + 1) = decide (0 ≤ i ∧ r = i) := by
  unfold freed rfreed
  refine ⟨?_, ?_, ?_⟩
  · split <;> split <;> omega
  · split <;> omega
  · rw [decide_eq_decide]; omega

theorem i8_bound (y : Int) : -128 ≤ wrap64 (IntKind.i8.wrap y) ∧ wrap64 (IntKind.i8.wrap y) ≤ 127 := by
  have h : -128 ≤ IntKind.i8.wrap y ∧ IntKind.i8.wrap y ≤ 127 := by
    simp only [IntKind.wrap, IntKind.bits, IntKind.signed]
    simp
    split <;> omega
  unfold wrap64
  omega

set_option maxHeartbeats 1000000 in
theorem lockPlays_walk (a : Option Addr) (len cap : Nat) (X : Nat → Int) (w : World) (hm : len ≤ 9223372036854775807) (hX : ∀ i, i < len → -128 ≤ X i ∧ X i ≤ 127)
    (hrow : 0 < len → ∃ b off, a = some ⟨b, off, none⟩ ∧ ∀ i, i < len → w.cell? ⟨b, off + i, none⟩ = some (.int .i8 (X i))) :
    Calls Try.prog 3 #[.slice a len cap] w fun e w' => e = .returned (.bool true) ∧ Upd (fun _ => False) w w' := by
  go_enter Try.func3, Try.ntmps3
  go_wp2_with fail
  refine (lock_awake _).mono ?_
  rintro e w1 ⟨rfl, u1⟩
  go_wp2_with fail
  refine (newlock _).mono ?_
  rintro e w2 ⟨rfl, hw2⟩
  have b0 : Blk w2 w1.heap.size #[.int .i64 0] 123 := by rw [hw2]; exact Blk.new _ _ _
  have u2 : Upd (fun _ => False) w w2 := by rw [hw2]; exact u1.alloc _
  have hs2 : w2.heap.size = w1.heap.size + 1 := by rw [hw2, sz_alloc]
  clear hw2
  have hs1 := u1.size
  generalize hL : w1.heap.size = L at *
  have HL := Lib.hid hL
  clear hL
  have HS := Lib.hid hs2
  clear hs2
  go_wp2_with fail
  generalize hM : w2.heap.size = M at *
  have HM := Lib.hid hM
  clear hM
  have b1 : Blk (w2.alloc (Obj.cells #[Value.int IntKind.i64 (-1)] 28)) M #[.int .i64 (-1)] 28 := hp_new' _ _ _ HM.out.symm
  have b0' : Blk (w2.alloc (Obj.cells #[Value.int IntKind.i64 (-1)] 28)) L #[.int .i64 (-1 + 1)] 123 := (hp_alloc _ _ _ b0.lt).trans b0
  have u3 := u2.alloc (Obj.cells #[Value.int IntKind.i64 (-1)] 28)
  have HW := Lib.hid (show w.heap.size ≤ L ∧ M = L + 1 from ⟨hs1, HS.out⟩)
  clear b0 u2 HS HM
  go_loopw [17] (fun i wr => ∃ (k : Nat) (r : Int), i = .int .i64 k ∧ k ≤ len ∧ Blk wr L #[.int .i64 (r + 1)] 123 ∧ Blk wr M #[.int .i64 r] 28 ∧ -1 ≤ r ∧ r ≤ 127 ∧ Upd (fun _ => False) w wr) (fun i _ => len - (intOf i).toNat)
  case atStart => exact ⟨0, -1, rfl, Nat.zero_le _, b0', b1, by omega, by omega, u3⟩
  case round =>
    obtain ⟨k, r, rfl, hk, c0, c1, hr0, hr1, u4⟩ := hrel
    clear b0' b1 u3
    by_cases hlt : k < len
    · obtain ⟨b, off, rfl, hc⟩ := hrow (by omega)
      have hck : wr.cell? ⟨b, off + k, none⟩ = some (.int .i8 (X k)) := by
        have := hc k hlt
        have hb := World.block_lt_of_cell? w _ this
        rw [World.cell?_of_block (u4.block b hb id)]
        exact this
      have hxk := hX k hlt
      clear hc hrow hX
      go_wp2_with fail
      · go_ret
        exact ⟨rfl, u4⟩
      · have hd := i8_bound ((X k).tdiv 2)
        generalize wrap64 (IntKind.i8.wrap ((X k).tdiv 2)) = d at hd ⊢
        refine (lock_try _ (r + 1) d _ (by omega) c0).mono ?_
        rintro e w3 ⟨rfl, c2, u5⟩
        have T0 := tried_rel (o := r + 1) (r := r) (i := d) rfl hr0
        rw [T0.1] at c2
        rw [T0.2.2]
        have T1 := T0.2.1
        clear T0
        have c1' := c1.upd u5 (show ¬ M = L by have := HW.out; omega)
        go_wp2_with fail
        refine (ref_try _ r d _ c1').mono ?_
        rintro e w4 ⟨rfl, c3, u6⟩
        have c4 := c2.upd u6 (show ¬ L = M by have := HW.out; omega)
        have u7 := (u4.then u5 (fun i hi e => by have := HW.out; omega)).then u6 (fun i hi e => by have := HW.out; omega)
        have hq : rtried r d ≤ 127 := by unfold rtried; split <;> omega
        obtain ⟨q, hqe⟩ : ∃ q, q = rtried r d := ⟨_, rfl⟩
        rw [← hqe] at c3 c4 hq T1
        clear c0 c1 c1' c2 u4 u5 u6 hqe
        go_wp2_with fail
        refine (lock_owner _ _ _ (by omega) (by omega) c4).mono ?_
        rintro e w5 ⟨rfl, rfl⟩
        have hc3 := c3.cell
        by_cases hq0 : q = -1
        · subst hq0
          go_wp2_with fail
          go_roundw
          case rel => exact ⟨k + 1, -1, by go_num, by omega, c4, c3, by omega, by omega, u7⟩
          case measure => simp [intOf]; omega
        · have e1 : (q + 1 = 0) = False := by simp; omega
          have e2 : decide (0 ≤ q) = true := by simp; omega
          have e3 : (q + 1 - 1 : Int) = q := by omega
          go_wp2_with fail
          go_roundw
          case rel => exact ⟨k + 1, q, by go_num, by omega, c4, c3, by omega, by omega, u7⟩
          case measure => simp [intOf]; omega
      · have hd := i8_bound ((X k).tdiv 2)
        generalize wrap64 (IntKind.i8.wrap ((X k).tdiv 2)) = d at hd ⊢
        refine (lock_free _ (r + 1) d _ (by omega) c0).mono ?_
        rintro e w3 ⟨rfl, c2, u5⟩
        have T0 := freed_rel (o := r + 1) (r := r) (i := d) rfl hr0
        rw [T0.1] at c2
        rw [T0.2.2]
        have T1 := T0.2.1
        clear T0
        have c1' := c1.upd u5 (show ¬ M = L by have := HW.out; omega)
        go_wp2_with fail
        refine (ref_free _ r d _ c1').mono ?_
        rintro e w4 ⟨rfl, c3, u6⟩
        have c4 := c2.upd u6 (show ¬ L = M by have := HW.out; omega)
        have u7 := (u4.then u5 (fun i hi e => by have := HW.out; omega)).then u6 (fun i hi e => by have := HW.out; omega)
        have hq : rfreed r d ≤ 127 := by unfold rfreed; split <;> omega
        obtain ⟨q, hqe⟩ : ∃ q, q = rfreed r d := ⟨_, rfl⟩
        rw [← hqe] at c3 c4 hq T1
        clear c0 c1 c1' c2 u4 u5 u6 hqe
        go_wp2_with fail
        refine (lock_owner _ _ _ (by omega) (by omega) c4).mono ?_
        rintro e w5 ⟨rfl, rfl⟩
        have hc3 := c3.cell
        by_cases hq0 : q = -1
        · subst hq0
          go_wp2_with fail
          go_roundw
          case rel => exact ⟨k + 1, -1, by go_num, by omega, c4, c3, by omega, by omega, u7⟩
          case measure => simp [intOf]; omega
        · have e1 : (q + 1 = 0) = False := by simp; omega
          have e2 : decide (0 ≤ q) = true := by simp; omega
          have e3 : (q + 1 - 1 : Int) = q := by omega
          go_wp2_with fail
          go_roundw
          case rel => exact ⟨k + 1, q, by go_num, by omega, c4, c3, by omega, by omega, u7⟩
          case measure => simp [intOf]; omega
    · go_wp2_with fail
      go_ret
      exact ⟨rfl, u4⟩

open Go.ChangeShapes Go.WideShapes Go.ChangeAt in
set_option maxRecDepth 100000 in
theorem lockPlays_law {H : Type} (enc : TypeId × Value → H) (W : World) (base : Nat) (v0 : Value) (d0 : DataW H) (p0 : List MemPlace) (o0 : Value.okWide Try.prog W .any base 22 v0) (h0 : DataW.Trod enc Try.prog W 0 (fun _ => true) true 22 v0 d0 p0) :
    Calls Try.prog 3 #[v0] W fun e W' => e = .returned (.bool true) ∧ Below W.heap.size W W' := by
  obtain ⟨a, len, cap, rfl⟩ := okWide_slice Try.underlying22 o0
  obtain ⟨fuel, hf⟩ := h0
  obtain ⟨h1, h2, X, hX, hL⟩ := open_row (ls := [.int .i8]) (n := 1) Try.underlying22 (by kernel_rfl) (by kernel_rfl) (by decide) hf
  have hi : ∀ i, i < len → ∃ z : Int, X i = [.int .i8 z] ∧ -128 ≤ z ∧ z ≤ 127 := fun i hi => by
    have := hL i hi
    generalize X i = x at this
    cases this with
    | cons h t =>
      cases t
      obtain ⟨z, rfl, hw⟩ := h
      refine ⟨z, rfl, ?_⟩
      simpa [Lit.wf, IntKind.min, IntKind.max, IntKind.signed, IntKind.bits] using hw
  obtain ⟨Z, hZ⟩ := Deep.choose_lt hi
  refine (lockPlays_walk a len cap Z W (Nat.le_trans h1 h2) (fun i hi => (hZ i hi).2) ?_).mono fun e W' ⟨he, hu⟩ => ⟨he, hu.below (fun _ _ h => h)⟩
  intro hp
  obtain ⟨b, off, ha, hc⟩ := hX hp
  refine ⟨b, off, ha, fun i hi => ?_⟩
  have := (hc i hi).2 0 (by decide)
  rw [(hZ i hi).1] at this
  simpa using this
end Go.Proofs.Yteaihgjjplgalaa
