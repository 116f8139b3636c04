/- Nil locks and boxes; every script of deeds on a box; rounds: walked. -/
import Derived.Test.YteaihgjjplgalaaBox
import Derived.Test.YteaihgjjplgalaaLockA
import Derived.Deep.RegionHeld3
namespace Go.Proofs.Yteaihgjjplgalaa
open Go.RowKit
set_option linter.unusedVariables false
set_option linter.unusedSimpArgs false

set_option maxHeartbeats 1000000 in
theorem lockNil_walk (id k t c n a i t2 c2 s2 : Int) (w : World) :
    Calls Try.prog 8 #[.int .i64 id, .agg #[.int .u8 k, .int .i64 t, .int .i64 c, .int .i64 n], .agg #[.int .u8 a, .int .u64 i, .int .i64 t2, .int .i64 c2, .int .i64 s2]] w fun e w' => e = .returned (.bool true) ∧ Upd (fun _ => False) w w' := by
  go_enter Try.func8, Try.ntmps8
  go_wp2_with fail
  refine (lock_awake _).mono ?_
  rintro e w1 ⟨rfl, u1⟩
  have b1 := (hp_alloc _ _ (.cells #[.int .u8 a, .int .u64 i, .int .i64 t2, .int .i64 c2, .int .i64 s2] 47) (by simp)).trans (Blk.new w #[.int .u8 k, .int .i64 t, .int .i64 c, .int .i64 n] 46)
  have b2 : Blk _ _ _ _ := Blk.new (w.alloc (.cells #[.int .u8 k, .int .i64 t, .int .i64 c, .int .i64 n] 46)) #[.int .u8 a, .int .u64 i, .int .i64 t2, .int .i64 c2, .int .i64 s2] 47
  rw [sz_alloc] at b2
  have c1 := Blk.upd b1 u1 (fun h => h)
  have c2 := b2.upd u1 (fun h => h)
  have u0 : Upd (fun _ => False) w w1 := (((Upd.refl _ w).alloc _).alloc _).trans u1
  clear b1 b2 u1
  go_wp2_with fail
  refine (nil_owner _).mono ?_
  rintro e w' ⟨rfl, rfl⟩
  go_wp2_with fail
  refine (nil_op _).mono ?_
  rintro e w2 ⟨rfl, u2⟩
  have d1 := c1.upd u2 (fun h => h)
  have d2 := c2.upd u2 (fun h => h)
  have u3 := u0.trans u2
  clear c1 c2 u2 u0
  go_wp2_with fail
  refine (nil_collect _).mono ?_
  rintro e w3 ⟨rfl, u4⟩
  have hl1 := d1.lt
  have hl2 := d2.lt
  have u5 := (u3.alloc _).trans u4
  have e1 := Blk.upd ((hp_alloc _ _ _ hl1).trans d1) u4 (fun h => h)
  have e2 := Blk.upd ((hp_alloc _ _ _ hl2).trans d2) u4 (fun h => h)
  clear u3 u4 d1 d2 hl1 hl2
  go_wp2_with fail
  refine (nil_try _ _).mono ?_
  rintro e w' ⟨rfl, rfl⟩
  go_wp2_with fail
  refine (nil_free _ _).mono ?_
  rintro e w' ⟨rfl, rfl⟩
  have hl1 := e1.lt
  have hl2 := e2.lt
  have hc1 := e1.cell
  have hc2 := e2.cell
  go_wp2_with fail
  refine (nil_post _ _ _ _ _).mono ?_
  rintro e w4 ⟨rfl, u6⟩
  have f2 := Blk.upd ((hp_alloc _ _ _ hl2).trans e2) u6 (fun h => h)
  have u7 := (u5.alloc _).trans u6
  clear hc1 hc2 hl1 hl2 e1 e2 u5 u6
  have hc2 := f2.cell
  go_wp2_with fail
  refine (nil_finish _ _ _ _ _ _).mono ?_
  rintro e w5 ⟨rfl, u8⟩
  have u9 := u7.trans u8
  clear hc2 f2 u7 u8
  go_wp2_with fail
  refine (nil_state _).mono ?_
  rintro e w' ⟨rfl, rfl⟩
  go_wp2_with fail
  go_ret
  exact ⟨rfl, u9⟩

section
variable {w : World} {D : Nat} {d k t c n a i t2 c2 s2 : Int}
/-- A deed in block D. -/
def DeedAt (w : World) (D : Nat) (d k t c n a i t2 c2 s2 : Int) : Prop :=
  Blk w D #[.int .u8 d, .int .u8 k, .int .i64 t, .int .i64 c, .int .i64 n, .int .u8 a, .int .u64 i, .int .i64 t2, .int .i64 c2, .int .i64 s2] 49
theorem deed_op (h : DeedAt w D d k t c n a i t2 c2 s2) : w.cell? ⟨D, 1, none⟩ = some (.int .u8 k) ∧ w.cell? ⟨D, 2, none⟩ = some (.int .i64 t) ∧ w.cell? ⟨D, 3, none⟩ = some (.int .i64 c) ∧ w.cell? ⟨D, 4, none⟩ = some (.int .i64 n) :=
  ⟨Blk.cell h 1, Blk.cell h 2, Blk.cell h 3, Blk.cell h 4⟩
theorem deed_res (h : DeedAt w D d k t c n a i t2 c2 s2) : w.cell? ⟨D, 5, none⟩ = some (.int .u8 a) ∧ w.cell? ⟨D, 6, none⟩ = some (.int .u64 i) ∧ w.cell? ⟨D, 7, none⟩ = some (.int .i64 t2) ∧ w.cell? ⟨D, 8, none⟩ = some (.int .i64 c2) ∧ w.cell? ⟨D, 9, none⟩ = some (.int .i64 s2) :=
  ⟨Blk.cell h 5, Blk.cell h 6, Blk.cell h 7, Blk.cell h 8, Blk.cell h 9⟩
end

set_option maxRecDepth 100000 in
set_option maxHeartbeats 2000000 in
theorem lockBoxes_walk (a : Option Addr) (len cap : Nat) (X : Nat → List Value) (w : World) (hm : len ≤ 9223372036854775807)
    (hX : ∀ i, i < len → ∃ d k t c n a' i' t2 c2 s2 : Int, X i = [.int .u8 d, .int .u8 k, .int .i64 t, .int .i64 c, .int .i64 n, .int .u8 a', .int .u64 i', .int .i64 t2, .int .i64 c2, .int .i64 s2] ∧ 0 ≤ d ∧ d ≤ 255)
    (hrow : RowAt w a len 10 X) :
    Calls Try.prog 4 #[.slice a len cap] w fun e w' => e = .returned (.bool true) ∧ Upd (fun _ => False) w w' := by
  go_enter Try.func4, Try.ntmps4
  go_wp2_with fail
  refine (lock_awake _).mono ?_
  rintro e w1 ⟨rfl, u1⟩
  go_wp2_with fail
  refine (newbox _).mono ?_
  rintro e w2 ⟨rfl, hw2⟩
  have b0 : BoxAt w2 w1.heap.size 0 0 0 0 0 0 0 0 0 0 := by rw [hw2]; exact Blk.new _ _ _
  have u2 : Upd (fun _ => False) w w2 := by rw [hw2]; exact u1.alloc _
  have hs2 : w2.heap.size = w1.heap.size + 1 := by rw [hw2, sz_alloc]
  clear hw2
  have hs1 := u1.size
  generalize hL : w1.heap.size = L at *
  have HL := Lib.hid hL
  clear hL
  have HS := Lib.hid hs2
  clear hs2
  go_wp2_with fail
  generalize hM : w2.heap.size = M at *
  have HM := Lib.hid hM
  clear hM
  generalize hW3 : w2.alloc _ = w3
  have b1 : RefAt w3 M 0 0 0 0 0 0 0 0 0 0 := by rw [← hW3]; exact hp_new' _ _ _ HM.out.symm
  have b0' : BoxAt w3 L 0 0 0 0 0 0 0 0 0 0 := by rw [← hW3]; exact (hp_alloc _ _ _ (Blk.lt b0)).trans b0
  have u3 : Upd (fun _ => False) w w3 := by rw [← hW3]; exact u2.alloc _
  have HW := Lib.hid (show w.heap.size ≤ L ∧ M = L + 1 from ⟨hs1, HS.out⟩)
  clear b0 u2 HS HM hW3 u1 hs1
  go_loopw [20] (fun i wr => ∃ (m : Nat) (s k t c n a i' t2 c2 s2 : Int), i = .int .i64 m ∧ m ≤ len ∧ BoxAt wr L s k t c n a i' t2 c2 s2 ∧ RefAt wr M s k t c n a i' t2 c2 s2 ∧ 0 ≤ s ∧ s ≤ 2 ∧ Upd (fun _ => False) w wr) (fun i _ => len - (intOf i).toNat)
  case atStart => exact ⟨0, 0, 0, 0, 0, 0, 0, 0, 0, 0, 0, rfl, Nat.zero_le _, b0', b1, by omega, by omega, u3⟩
  case round =>
    obtain ⟨m, s, k, t, c, n, a', i', t2, c2, s2, rfl, hk, c0, c1, hr0, hr1, u4⟩ := hrel
    clear b0' b1 u3
    by_cases hlt : m < len
    · obtain ⟨b, off, rfl, hc⟩ := hrow (by omega)
      obtain ⟨d, k', t', c', n', a2, i2, t3, c3, s3, hXm, hd0, hd1⟩ := hX m hlt
      have hbl : b < w.heap.size := by
        have := (hc m hlt).2 0 (by decide)
        rw [hXm] at this
        exact World.block_lt_of_cell? w _ this
      have hck : ∀ j, j < 10 → wr.cell? ⟨b, off + m * 10 + j, none⟩ = (X m)[j]? := fun j hj => by
        rw [World.cell?_of_block (u4.block b hbl (fun h => h))]
        exact (hc m hlt).2 j hj
      have g0 : wr.cell? ⟨b, off + m * 10, none⟩ = _ := hck 0 (by decide)
      have g1 := hck 1 (by decide)
      have g2 := hck 2 (by decide)
      have g3 := hck 3 (by decide)
      have g4 := hck 4 (by decide)
      have g5 := hck 5 (by decide)
      have g6 := hck 6 (by decide)
      have g7 := hck 7 (by decide)
      have g8 := hck 8 (by decide)
      have g9 := hck 9 (by decide)
      rw [hXm] at g0 g1 g2 g3 g4 g5 g6 g7 g8 g9
      simp only [List.getElem?_cons_zero, List.getElem?_cons_succ] at g0 g1 g2 g3 g4 g5 g6 g7 g8 g9
      clear hc hrow hX hck hXm
      go_wp2_with fail
      · go_ret
        exact ⟨rfl, u4.alloc _⟩
      · skip
        have hlL := Blk.lt c0
        have hlM := Blk.lt c1
        have hD : DeedAt (wr.alloc (.cells #[.int .u8 d, .int .u8 k', .int .i64 t', .int .i64 c', .int .i64 n', .int .u8 a2, .int .u64 i2, .int .i64 t3, .int .i64 c3, .int .i64 s3] 49)) wr.heap.size d k' t' c' n' a2 i2 t3 c3 s3 := Blk.new _ _ _
        generalize hDD : wr.heap.size = D at *
        have e0 : BoxAt _ _ _ _ _ _ _ _ _ _ _ _ := (hp_alloc wr L (.cells #[.int .u8 d, .int .u8 k', .int .i64 t', .int .i64 c', .int .i64 n', .int .u8 a2, .int .u64 i2, .int .i64 t3, .int .i64 c3, .int .i64 s3] 49) (by omega)).trans c0
        have e1 : RefAt _ _ _ _ _ _ _ _ _ _ _ _ := (hp_alloc wr M (.cells #[.int .u8 d, .int .u8 k', .int .i64 t', .int .i64 c', .int .i64 n', .int .u8 a2, .int .u64 i2, .int .i64 t3, .int .i64 c3, .int .i64 s3] 49) (by omega)).trans c1
        have u5 := u4.alloc (.cells #[.int .u8 d, .int .u8 k', .int .i64 t', .int .i64 c', .int .i64 n', .int .u8 a2, .int .u64 i2, .int .i64 t3, .int .i64 c3, .int .i64 s3] 49)
        have HD := Lib.hid hDD
        clear hDD c0 c1 u4 g0 g1 g2 g3 g4 g5 g6 g7 g8 g9
        generalize wr.alloc _ = w5 at *
        by_cases hs : s = 0
        · subst hs
          go_region_held3 (fun w' => w'.cell? ⟨D, 1, none⟩ = some (.int .u8 k') ∧ w'.cell? ⟨D, 2, none⟩ = some (.int .i64 t') ∧ w'.cell? ⟨D, 3, none⟩ = some (.int .i64 c') ∧ w'.cell? ⟨D, 4, none⟩ = some (.int .i64 n')) (first | exact deed_op hD | exact deed_op hD6 | exact deed_op hD7 | go_keep) (first | (go_at_call 19; refine (box_post _ k t c n a' i' t2 c2 s2 _ _ _ _ _ ?_).mono ?_; (focus exact e0); rintro e w6 ⟨rfl, f0, v6'⟩; have v6 := Upd.of_drew v6'; have hD6 : DeedAt w6 D d k' t' c' n' a2 i2 t3 c3 s3 := Blk.upd hD v6 (show ¬ D = L by omega)) | (go_at_call 20; refine (ref_post _ k t c n a' i' t2 c2 s2 _ _ _ _ _ ?_).mono ?_; (focus exact Blk.upd e1 v6 (show ¬ M = L by have := HW.out; omega)); rintro e w7 ⟨rfl, f1, v7⟩; have hD7 : DeedAt w7 D d k' t' c' n' a2 i2 t3 c3 s3 := Blk.upd hD6 v7 (show ¬ D = M by omega)))
          have x0 : BoxAt w7 L 1 k' t' c' n' a' i' t2 c2 s2 := Blk.upd f0 v7 (show ¬ L = M by have := HW.out; omega)
          have xu : Upd (fun _ => False) w w7 := (u5.then v6 (fun i hi e => by have := HW.out; omega)).then v7 (fun i hi e => by have := HW.out; omega)
          clear e0 e1 f0 v6 v6' v7 hD hD6 hD7 u5
          have hcM := Blk.cell f1
          go_wp2_with fail
          go_quiet ((go_at_call 26; exact Calls.quiet_rev (box_state _ 1 _ _ _ _ _ _ _ _ _ _ (by omega) (by omega) x0)))
          go_wp2
          go_roundw
          case rel => exact ⟨m + 1, 1, k', t', c', n', a', i', t2, c2, s2, by go_num, by omega, x0, f1, by omega, by omega, xu.drewN _⟩
          case measure => simp [intOf]; omega
        · have hs' : (s == 0) = false := by simpa using hs
          go_region_held3 (fun w' => w'.cell? ⟨D, 1, none⟩ = some (.int .u8 k') ∧ w'.cell? ⟨D, 2, none⟩ = some (.int .i64 t') ∧ w'.cell? ⟨D, 3, none⟩ = some (.int .i64 c') ∧ w'.cell? ⟨D, 4, none⟩ = some (.int .i64 n')) (first | exact deed_op hD | exact deed_op hD6 | exact deed_op hD7 | go_keep) (first | (go_at_call 19; refine (box_post_no _ s k t c n a' i' t2 c2 s2 _ _ _ _ _ hs ?_).mono ?_; (focus exact e0); rintro e w6 ⟨rfl, f0, v6'⟩; have v6 := Upd.of_drew v6'; have hD6 : DeedAt w6 D d k' t' c' n' a2 i2 t3 c3 s3 := Blk.upd hD v6 (fun h => h)) | (go_at_call 20; refine (ref_post_no _ s k t c n a' i' t2 c2 s2 _ _ _ _ _ hs ?_).mono ?_; (focus exact Blk.upd e1 v6 (fun h => h)); rintro e w7 ⟨rfl, f1, v7⟩; have hD7 : DeedAt w7 D d k' t' c' n' a2 i2 t3 c3 s3 := Blk.upd hD6 v7 (fun h => h)))
          have x0 : BoxAt w7 L s k t c n a' i' t2 c2 s2 := Blk.upd f0 v7 (fun h => h)
          have xu : Upd (fun _ => False) w w7 := (u5.trans v6).trans v7
          clear e0 e1 f0 v6 v6' v7 hD hD6 hD7 u5
          have hcM := Blk.cell f1
          go_wp2_with fail
          go_quiet ((go_at_call 26; exact Calls.quiet_rev (box_state _ s _ _ _ _ _ _ _ _ _ _ (by omega) (by omega) x0)))
          go_wp2
          go_roundw
          case rel => exact ⟨m + 1, s, k, t, c, n, a', i', t2, c2, s2, by go_num, by omega, x0, f1, by omega, by omega, xu.drewN _⟩
          case measure => simp [intOf]; omega
      · skip
        have hlL := Blk.lt c0
        have hlM := Blk.lt c1
        have hD : DeedAt (wr.alloc (.cells #[.int .u8 d, .int .u8 k', .int .i64 t', .int .i64 c', .int .i64 n', .int .u8 a2, .int .u64 i2, .int .i64 t3, .int .i64 c3, .int .i64 s3] 49)) wr.heap.size d k' t' c' n' a2 i2 t3 c3 s3 := Blk.new _ _ _
        generalize hDD : wr.heap.size = D at *
        have e0 : BoxAt _ _ _ _ _ _ _ _ _ _ _ _ := (hp_alloc wr L (.cells #[.int .u8 d, .int .u8 k', .int .i64 t', .int .i64 c', .int .i64 n', .int .u8 a2, .int .u64 i2, .int .i64 t3, .int .i64 c3, .int .i64 s3] 49) (by omega)).trans c0
        have e1 : RefAt _ _ _ _ _ _ _ _ _ _ _ _ := (hp_alloc wr M (.cells #[.int .u8 d, .int .u8 k', .int .i64 t', .int .i64 c', .int .i64 n', .int .u8 a2, .int .u64 i2, .int .i64 t3, .int .i64 c3, .int .i64 s3] 49) (by omega)).trans c1
        have u5 := u4.alloc (.cells #[.int .u8 d, .int .u8 k', .int .i64 t', .int .i64 c', .int .i64 n', .int .u8 a2, .int .u64 i2, .int .i64 t3, .int .i64 c3, .int .i64 s3] 49)
        have HD := Lib.hid hDD
        clear hDD c0 c1 u4 g0 g1 g2 g3 g4 g5 g6 g7 g8 g9
        generalize wr.alloc _ = w5 at *
        by_cases hs : s = 1
        · subst hs
          refine (box_op _ k t c n a' i' t2 c2 s2 _ e0).mono ?_
          rintro e w6 ⟨rfl, f0, v6⟩
          have f1 : RefAt w6 M 1 k t c n a' i' t2 c2 s2 := Blk.upd e1 v6 (fun h => h)
          have u6 := u5.trans v6
          clear e0 e1 v6 u5 hD
          have hl0 := Blk.lt f0
          have hl1 := Blk.lt f1
          have hcM' := Blk.cell f1
          go_wp2_with fail
          go_quiet (fail)
          have x0 : BoxAt _ L 1 k t c n a' i' t2 c2 s2 := (hp_alloc w6 L (.cells #[.int .u8 k, .int .i64 t, .int .i64 c, .int .i64 n] 46) hl0).trans f0
          have x1 : RefAt _ M 1 k t c n a' i' t2 c2 s2 := (hp_alloc w6 M (.cells #[.int .u8 k, .int .i64 t, .int .i64 c, .int .i64 n] 46) hl1).trans f1
          have xu := u6.alloc (.cells #[.int .u8 k, .int .i64 t, .int .i64 c, .int .i64 n] 46)
          clear f0 f1 u6 hcM' hl0 hl1
          obtain ⟨w8, hw8⟩ : ∃ w8, w8 = (w6.alloc (.cells #[.int .u8 k, .int .i64 t, .int .i64 c, .int .i64 n] 46)).drewN nq := ⟨_, rfl⟩
          have x0 : BoxAt w8 L 1 k t c n a' i' t2 c2 s2 := by rw [hw8]; exact x0
          have x1 : RefAt w8 M 1 k t c n a' i' t2 c2 s2 := by rw [hw8]; exact x1
          have xu : Upd (fun _ => False) w w8 := by rw [hw8]; exact xu.drewN _
          rw [← hw8]
          clear hw8
          have hcM := Blk.cell x1
          go_wp2_with fail
          go_quiet ((go_at_call 26; exact Calls.quiet_rev (box_state _ 1 _ _ _ _ _ _ _ _ _ _ (by omega) (by omega) x0)))
          go_wp2
          go_roundw
          case rel => exact ⟨m + 1, 1, k, t, c, n, a', i', t2, c2, s2, by go_num, by omega, x0, x1, by omega, by omega, xu.drewN _⟩
          case measure => simp [intOf]; omega
        · have hs' : (s == 1) = false := by simpa using hs
          refine (box_op_no _ s k t c n a' i' t2 c2 s2 _ hr0 hr1 hs e0).mono ?_
          rintro e w6 ⟨rfl, f0, v6⟩
          have f1 : RefAt w6 M s k t c n a' i' t2 c2 s2 := Blk.upd e1 v6 (fun h => h)
          have u6 := u5.trans v6
          clear e0 e1 v6 u5 hD
          have hl0 := Blk.lt f0
          have hl1 := Blk.lt f1
          have hcM' := Blk.cell f1
          go_wp2_with fail
          go_quiet (fail)
          have x0 : BoxAt _ L s k t c n a' i' t2 c2 s2 := (hp_alloc w6 L (.cells #[.int .u8 0, .int .i64 0, .int .i64 0, .int .i64 0] 46) hl0).trans f0
          have x1 : RefAt _ M s k t c n a' i' t2 c2 s2 := (hp_alloc w6 M (.cells #[.int .u8 0, .int .i64 0, .int .i64 0, .int .i64 0] 46) hl1).trans f1
          have xu := u6.alloc (.cells #[.int .u8 0, .int .i64 0, .int .i64 0, .int .i64 0] 46)
          clear f0 f1 u6 hcM' hl0 hl1
          obtain ⟨w8, hw8⟩ : ∃ w8, w8 = (w6.alloc (.cells #[.int .u8 0, .int .i64 0, .int .i64 0, .int .i64 0] 46)).drewN nq := ⟨_, rfl⟩
          have x0 : BoxAt w8 L s k t c n a' i' t2 c2 s2 := by rw [hw8]; exact x0
          have x1 : RefAt w8 M s k t c n a' i' t2 c2 s2 := by rw [hw8]; exact x1
          have xu : Upd (fun _ => False) w w8 := by rw [hw8]; exact xu.drewN _
          rw [← hw8]
          clear hw8
          have hcM := Blk.cell x1
          go_wp2_with fail
          go_quiet ((go_at_call 26; exact Calls.quiet_rev (box_state _ s _ _ _ _ _ _ _ _ _ _ (by omega) (by omega) x0)))
          go_wp2
          go_roundw
          case rel => exact ⟨m + 1, s, k, t, c, n, a', i', t2, c2, s2, by go_num, by omega, x0, x1, by omega, by omega, xu.drewN _⟩
          case measure => simp [intOf]; omega
      · skip
        have hlL := Blk.lt c0
        have hlM := Blk.lt c1
        have hD : DeedAt (wr.alloc (.cells #[.int .u8 d, .int .u8 k', .int .i64 t', .int .i64 c', .int .i64 n', .int .u8 a2, .int .u64 i2, .int .i64 t3, .int .i64 c3, .int .i64 s3] 49)) wr.heap.size d k' t' c' n' a2 i2 t3 c3 s3 := Blk.new _ _ _
        generalize hDD : wr.heap.size = D at *
        have e0 : BoxAt _ _ _ _ _ _ _ _ _ _ _ _ := (hp_alloc wr L (.cells #[.int .u8 d, .int .u8 k', .int .i64 t', .int .i64 c', .int .i64 n', .int .u8 a2, .int .u64 i2, .int .i64 t3, .int .i64 c3, .int .i64 s3] 49) (by omega)).trans c0
        have e1 : RefAt _ _ _ _ _ _ _ _ _ _ _ _ := (hp_alloc wr M (.cells #[.int .u8 d, .int .u8 k', .int .i64 t', .int .i64 c', .int .i64 n', .int .u8 a2, .int .u64 i2, .int .i64 t3, .int .i64 c3, .int .i64 s3] 49) (by omega)).trans c1
        have u5 := u4.alloc (.cells #[.int .u8 d, .int .u8 k', .int .i64 t', .int .i64 c', .int .i64 n', .int .u8 a2, .int .u64 i2, .int .i64 t3, .int .i64 c3, .int .i64 s3] 49)
        have HD := Lib.hid hDD
        clear hDD c0 c1 u4 g0 g1 g2 g3 g4 g5 g6 g7 g8 g9
        generalize wr.alloc _ = w5 at *
        by_cases hs : s = 1
        · subst hs
          go_region_held3 (fun w' => w'.cell? ⟨D, 5, none⟩ = some (.int .u8 a2) ∧ w'.cell? ⟨D, 6, none⟩ = some (.int .u64 i2) ∧ w'.cell? ⟨D, 7, none⟩ = some (.int .i64 t3) ∧ w'.cell? ⟨D, 8, none⟩ = some (.int .i64 c3) ∧ w'.cell? ⟨D, 9, none⟩ = some (.int .i64 s3)) (first | exact deed_res hD | exact deed_res hD6 | exact deed_res hD7 | go_keep) (first | (go_at_call 22; refine (box_finish _ k t c n a' i' t2 c2 s2 _ _ _ _ _ _ ?_).mono ?_; (focus exact e0); rintro e w6 ⟨rfl, f0, v6'⟩; have v6 := Upd.of_drew v6'; have hD6 : DeedAt w6 D d k' t' c' n' a2 i2 t3 c3 s3 := Blk.upd hD v6 (show ¬ D = L by omega)) | (go_at_call 23; refine (ref_finish _ k t c n a' i' t2 c2 s2 _ _ _ _ _ _ ?_).mono ?_; (focus exact Blk.upd e1 v6 (show ¬ M = L by have := HW.out; omega)); rintro e w7 ⟨rfl, f1, v7⟩; have hD7 : DeedAt w7 D d k' t' c' n' a2 i2 t3 c3 s3 := Blk.upd hD6 v7 (show ¬ D = M by omega)))
          have x0 : BoxAt w7 L 2 k t c n a2 i2 t3 c3 s3 := Blk.upd f0 v7 (show ¬ L = M by have := HW.out; omega)
          have xu : Upd (fun _ => False) w w7 := (u5.then v6 (fun i hi e => by have := HW.out; omega)).then v7 (fun i hi e => by have := HW.out; omega)
          clear e0 e1 f0 v6 v6' v7 hD hD6 hD7 u5
          have hcM := Blk.cell f1
          go_wp2_with fail
          go_quiet ((go_at_call 26; exact Calls.quiet_rev (box_state _ 2 _ _ _ _ _ _ _ _ _ _ (by omega) (by omega) x0)))
          go_wp2
          go_roundw
          case rel => exact ⟨m + 1, 2, k, t, c, n, a2, i2, t3, c3, s3, by go_num, by omega, x0, f1, by omega, by omega, xu.drewN _⟩
          case measure => simp [intOf]; omega
        · have hs' : (s == 1) = false := by simpa using hs
          go_region_held3 (fun w' => w'.cell? ⟨D, 5, none⟩ = some (.int .u8 a2) ∧ w'.cell? ⟨D, 6, none⟩ = some (.int .u64 i2) ∧ w'.cell? ⟨D, 7, none⟩ = some (.int .i64 t3) ∧ w'.cell? ⟨D, 8, none⟩ = some (.int .i64 c3) ∧ w'.cell? ⟨D, 9, none⟩ = some (.int .i64 s3)) (first | exact deed_res hD | exact deed_res hD6 | exact deed_res hD7 | go_keep) (first | (go_at_call 22; refine (box_finish_no _ s k t c n a' i' t2 c2 s2 _ _ _ _ _ _ hs ?_).mono ?_; (focus exact e0); rintro e w6 ⟨rfl, f0, v6'⟩; have v6 := Upd.of_drew v6'; have hD6 : DeedAt w6 D d k' t' c' n' a2 i2 t3 c3 s3 := Blk.upd hD v6 (fun h => h)) | (go_at_call 23; refine (ref_finish_no _ s k t c n a' i' t2 c2 s2 _ _ _ _ _ _ hs ?_).mono ?_; (focus exact Blk.upd e1 v6 (fun h => h)); rintro e w7 ⟨rfl, f1, v7⟩; have hD7 : DeedAt w7 D d k' t' c' n' a2 i2 t3 c3 s3 := Blk.upd hD6 v7 (fun h => h)))
          have x0 : BoxAt w7 L s k t c n a' i' t2 c2 s2 := Blk.upd f0 v7 (fun h => h)
          have xu : Upd (fun _ => False) w w7 := (u5.trans v6).trans v7
          clear e0 e1 f0 v6 v6' v7 hD hD6 hD7 u5
          have hcM := Blk.cell f1
          go_wp2_with fail
          go_quiet ((go_at_call 26; exact Calls.quiet_rev (box_state _ s _ _ _ _ _ _ _ _ _ _ (by omega) (by omega) x0)))
          go_wp2
          go_roundw
          case rel => exact ⟨m + 1, s, k, t, c, n, a', i', t2, c2, s2, by go_num, by omega, x0, f1, by omega, by omega, xu.drewN _⟩
          case measure => simp [intOf]; omega
      · skip
        have hlL := Blk.lt c0
        have hlM := Blk.lt c1
        have hD : DeedAt (wr.alloc (.cells #[.int .u8 d, .int .u8 k', .int .i64 t', .int .i64 c', .int .i64 n', .int .u8 a2, .int .u64 i2, .int .i64 t3, .int .i64 c3, .int .i64 s3] 49)) wr.heap.size d k' t' c' n' a2 i2 t3 c3 s3 := Blk.new _ _ _
        generalize hDD : wr.heap.size = D at *
        have e0 : BoxAt _ _ _ _ _ _ _ _ _ _ _ _ := (hp_alloc wr L (.cells #[.int .u8 d, .int .u8 k', .int .i64 t', .int .i64 c', .int .i64 n', .int .u8 a2, .int .u64 i2, .int .i64 t3, .int .i64 c3, .int .i64 s3] 49) (by omega)).trans c0
        have e1 : RefAt _ _ _ _ _ _ _ _ _ _ _ _ := (hp_alloc wr M (.cells #[.int .u8 d, .int .u8 k', .int .i64 t', .int .i64 c', .int .i64 n', .int .u8 a2, .int .u64 i2, .int .i64 t3, .int .i64 c3, .int .i64 s3] 49) (by omega)).trans c1
        have u5 := u4.alloc (.cells #[.int .u8 d, .int .u8 k', .int .i64 t', .int .i64 c', .int .i64 n', .int .u8 a2, .int .u64 i2, .int .i64 t3, .int .i64 c3, .int .i64 s3] 49)
        have HD := Lib.hid hDD
        clear hDD c0 c1 u4 g0 g1 g2 g3 g4 g5 g6 g7 g8 g9
        generalize wr.alloc _ = w5 at *
        by_cases hs : s = 2
        · subst hs
          refine (box_collect _ k t c n a' i' t2 c2 s2 _ e0).mono ?_
          rintro e w6 ⟨rfl, f0, v6⟩
          have f1 : RefAt w6 M 2 k t c n a' i' t2 c2 s2 := Blk.upd e1 v6 (show ¬ M = L by have := HW.out; omega)
          have u6' := (u5.then v6 (fun i hi e => by have := HW.out; omega))
          clear e0 e1 v6 u5 hD
          have hl0 := Blk.lt f0
          have hl1 := Blk.lt f1
          go_wp2_with fail
          have f0' : BoxAt _ L 0 k t c n a' i' t2 c2 s2 := (hp_alloc w6 L (.cells #[.int .u8 a', .int .u64 i', .int .i64 t2, .int .i64 c2, .int .i64 s2] 47) hl0).trans f0
          have f1' : RefAt _ M 2 k t c n a' i' t2 c2 s2 := (hp_alloc w6 M (.cells #[.int .u8 a', .int .u64 i', .int .i64 t2, .int .i64 c2, .int .i64 s2] 47) hl1).trans f1
          have u6 := u6'.alloc (.cells #[.int .u8 a', .int .u64 i', .int .i64 t2, .int .i64 c2, .int .i64 s2] 47)
          have nb : Blk _ _ _ _ := Blk.new w6 #[.int .u8 a', .int .u64 i', .int .i64 t2, .int .i64 c2, .int .i64 s2] 47
          generalize w6.heap.size = Z at *
          generalize w6.alloc _ = w6' at *
          clear f0 f1 u6'
          refine (ref_collect _ k t c n a' i' t2 c2 s2 _ f1').mono ?_
          rintro e w7 ⟨rfl, g1, v7⟩
          have nb7 := nb.upd v7 (show ¬ Z = M by omega)
          have g0 : BoxAt w7 L 0 k t c n a' i' t2 c2 s2 := Blk.upd f0' v7 (show ¬ L = M by have := HW.out; omega)
          have u7 := (u6.then v7 (fun i hi e => by have := HW.out; omega))
          clear f0' f1' u6 nb v7
          have hl2 := Blk.lt nb7
          have hl3 := Blk.lt g0
          have hl4 := Blk.lt g1
          have hc7 := Blk.cell nb7
          go_wp2_with fail
          have x0 : BoxAt _ L 0 k t c n a' i' t2 c2 s2 := (hp_alloc w7 L (.cells #[.int .u8 a', .int .u64 i', .int .i64 t2, .int .i64 c2, .int .i64 s2] 43) hl3).trans g0
          have x1 : RefAt _ M 0 k t c n a' i' t2 c2 s2 := (hp_alloc w7 M (.cells #[.int .u8 a', .int .u64 i', .int .i64 t2, .int .i64 c2, .int .i64 s2] 43) hl4).trans g1
          have xu := u7.alloc (.cells #[.int .u8 a', .int .u64 i', .int .i64 t2, .int .i64 c2, .int .i64 s2] 43)
          clear g0 g1 u7 nb7 hc7 hl2 hl3 hl4 hl0 hl1
          generalize w7.heap.size = Z7 at *
          generalize w7.alloc _ = w8 at *
          have hcM := Blk.cell x1
          go_wp2_with fail
          go_quiet ((go_at_call 26; exact Calls.quiet_rev (box_state _ 0 _ _ _ _ _ _ _ _ _ _ (by omega) (by omega) x0)))
          go_wp2
          go_roundw
          case rel => exact ⟨m + 1, 0, k, t, c, n, a', i', t2, c2, s2, by go_num, by omega, x0, x1, by omega, by omega, xu.drewN _⟩
          case measure => simp [intOf]; omega
        · have hs' : (s == 2) = false := by simpa using hs
          refine (box_collect_no _ s k t c n a' i' t2 c2 s2 _ hr0 hr1 hs e0).mono ?_
          rintro e w6 ⟨rfl, f0, v6⟩
          have f1 : RefAt w6 M s k t c n a' i' t2 c2 s2 := Blk.upd e1 v6 (fun h => h)
          have u6' := (u5.trans v6)
          clear e0 e1 v6 u5 hD
          have hl0 := Blk.lt f0
          have hl1 := Blk.lt f1
          go_wp2_with fail
          have f0' : BoxAt _ L s k t c n a' i' t2 c2 s2 := (hp_alloc w6 L (.cells #[.int .u8 0, .int .u64 0, .int .i64 0, .int .i64 0, .int .i64 0] 47) hl0).trans f0
          have f1' : RefAt _ M s k t c n a' i' t2 c2 s2 := (hp_alloc w6 M (.cells #[.int .u8 0, .int .u64 0, .int .i64 0, .int .i64 0, .int .i64 0] 47) hl1).trans f1
          have u6 := u6'.alloc (.cells #[.int .u8 0, .int .u64 0, .int .i64 0, .int .i64 0, .int .i64 0] 47)
          have nb : Blk _ _ _ _ := Blk.new w6 #[.int .u8 0, .int .u64 0, .int .i64 0, .int .i64 0, .int .i64 0] 47
          generalize w6.heap.size = Z at *
          generalize w6.alloc _ = w6' at *
          clear f0 f1 u6'
          refine (ref_collect_no _ s k t c n a' i' t2 c2 s2 _ hs f1').mono ?_
          rintro e w7 ⟨rfl, g1, v7⟩
          have nb7 := nb.upd v7 (fun h => h)
          have g0 : BoxAt w7 L s k t c n a' i' t2 c2 s2 := Blk.upd f0' v7 (fun h => h)
          have u7 := (u6.trans v7)
          clear f0' f1' u6 nb v7
          have hl2 := Blk.lt nb7
          have hl3 := Blk.lt g0
          have hl4 := Blk.lt g1
          have hc7 := Blk.cell nb7
          go_wp2_with fail
          have x0 : BoxAt _ L s k t c n a' i' t2 c2 s2 := (hp_alloc w7 L (.cells #[.int .u8 0, .int .u64 0, .int .i64 0, .int .i64 0, .int .i64 0] 43) hl3).trans g0
          have x1 : RefAt _ M s k t c n a' i' t2 c2 s2 := (hp_alloc w7 M (.cells #[.int .u8 0, .int .u64 0, .int .i64 0, .int .i64 0, .int .i64 0] 43) hl4).trans g1
          have xu := u7.alloc (.cells #[.int .u8 0, .int .u64 0, .int .i64 0, .int .i64 0, .int .i64 0] 43)
          clear g0 g1 u7 nb7 hc7 hl2 hl3 hl4 hl0 hl1
          generalize w7.heap.size = Z7 at *
          generalize w7.alloc _ = w8 at *
          have hcM := Blk.cell x1
          go_wp2_with fail
          go_quiet ((go_at_call 26; exact Calls.quiet_rev (box_state _ s _ _ _ _ _ _ _ _ _ _ (by omega) (by omega) x0)))
          go_wp2
          go_roundw
          case rel => exact ⟨m + 1, s, k, t, c, n, a', i', t2, c2, s2, by go_num, by omega, x0, x1, by omega, by omega, xu.drewN _⟩
          case measure => simp [intOf]; omega
    · go_wp2_with fail
      go_ret
      exact ⟨rfl, u4⟩
end Go.Proofs.Yteaihgjjplgalaa
