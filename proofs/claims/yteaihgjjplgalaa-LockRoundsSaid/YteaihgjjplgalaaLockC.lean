/- Every row of rounds on a box: walked. -/
import Derived.Test.YteaihgjjplgalaaLockB
namespace Go.Proofs.Yteaihgjjplgalaa
open Go.RowKit
set_option linter.unusedVariables false
set_option linter.unusedSimpArgs false

set_option maxRecDepth 100000 in
set_option maxHeartbeats 2000000 in
theorem lockRounds_walk (a : Option Addr) (len cap : Nat) (X : Nat → List Value) (ar : Option Addr) (lenr capr : Nat) (Y : Nat → List Value) (w : World) (hm : len ≤ 9223372036854775807) (hmr : lenr ≤ 9223372036854775807)
    (hX : ∀ i, i < len → ∃ k t c n : Int, X i = [.int .u8 k, .int .i64 t, .int .i64 c, .int .i64 n])
    (hY : ∀ i, i < lenr → ∃ a' i' t2 c2 s2 : Int, Y i = [.int .u8 a', .int .u64 i', .int .i64 t2, .int .i64 c2, .int .i64 s2])
    (hrow : RowAt w a len 4 X) (hrowr : RowAt w ar lenr 5 Y) :
    Calls Try.prog 5 #[.slice a len cap, .slice ar lenr capr] w fun e w' => e = .returned (.bool true) ∧ Upd (fun _ => False) w w' := by
  go_enter Try.func5, Try.ntmps5
  go_wp2_with fail
  refine (lock_awake _).mono ?_
  rintro e w1 ⟨rfl, u1⟩
  go_wp2_with fail
  refine (newbox _).mono ?_
  rintro e w2 ⟨rfl, hw2⟩
  have b0 : BoxAt w2 w1.heap.size 0 0 0 0 0 0 0 0 0 0 := by rw [hw2]; exact Blk.new _ _ _
  have u2 : Upd (fun _ => False) w w2 := by rw [hw2]; exact u1.alloc _
  clear hw2
  have hs1 := u1.size
  generalize hL : w1.heap.size = L at *
  clear hL u1
  go_wp2_with fail
  go_loopw [21] (fun i wr => ∃ (m : Nat) (k t c n a' i' t2 c2 s2 : Int), i = .int .i64 m ∧ m ≤ len ∧ BoxAt wr L 0 k t c n a' i' t2 c2 s2 ∧ Upd (fun _ => False) w wr) (fun i _ => len - (intOf i).toNat)
  case atStart => exact ⟨0, 0, 0, 0, 0, 0, 0, 0, 0, 0, rfl, Nat.zero_le _, b0, u2⟩
  case round =>
    obtain ⟨m, k, t, c, n, a', i', t2, c2, s2, rfl, hk, c0, u4⟩ := hrel
    clear b0 u2
    by_cases hlt : m < len
    · obtain ⟨b, off, rfl, hc⟩ := hrow (by omega)
      obtain ⟨k', t', c', n', hXm⟩ := hX m hlt
      have hbl : b < w.heap.size := by
        have := (hc m hlt).2 0 (by decide)
        rw [hXm] at this
        exact World.block_lt_of_cell? w _ this
      have hck : ∀ j, j < 4 → wr.cell? ⟨b, off + m * 4 + j, none⟩ = (X m)[j]? := fun j hj => by
        rw [World.cell?_of_block (u4.block b hbl (fun h => h))]
        exact (hc m hlt).2 j hj
      have g0 : wr.cell? ⟨b, off + m * 4, none⟩ = _ := hck 0 (by decide)
      have g1 := hck 1 (by decide)
      have g2 := hck 2 (by decide)
      have g3 := hck 3 (by decide)
      rw [hXm] at g0 g1 g2 g3
      simp only [List.getElem?_cons_zero, List.getElem?_cons_succ] at g0 g1 g2 g3
      clear hc hrow hX hck hXm
      by_cases h30 : m < 30 ∧ m < lenr
      · obtain ⟨h30a, h30b⟩ := h30
        obtain ⟨br, offr, rfl, hcr⟩ := hrowr (by omega)
        obtain ⟨a3, i3, t3, c3, s3, hYm⟩ := hY m h30b
        have hbr : br < w.heap.size := by
          have := (hcr m h30b).2 0 (by decide)
          rw [hYm] at this
          exact World.block_lt_of_cell? w _ this
        have hrc : ∀ (W : World), Upd (fun _ => False) w W → ∀ j, j < 5 → W.cell? ⟨br, offr + m * 5 + j, none⟩ = (Y m)[j]? := fun W hW j hj => by
          rw [World.cell?_of_block (hW.block br hbr (fun h => h))]
          exact (hcr m h30b).2 j hj
        have HR := Lib.hid hrc
        have HYm := Lib.hid hYm
        clear hrc hYm hcr hrowr hY
        have hd : decide ((30 : Int) ≤ (m : Int)) = false := by simp; omega
        have hlL := Blk.lt c0
        have hZ : Blk (wr.alloc (.cells #[.int .u8 k', .int .i64 t', .int .i64 c', .int .i64 n'] 46)) wr.heap.size #[.int .u8 k', .int .i64 t', .int .i64 c', .int .i64 n'] 46 := Blk.new _ _ _
        go_wp2_with fail
        have d0 : BoxAt _ L 0 k t c n a' i' t2 c2 s2 := (hp_alloc wr L (.cells #[.int .u8 k', .int .i64 t', .int .i64 c', .int .i64 n'] 46) hlL).trans c0
        have v0 := u4.alloc (.cells #[.int .u8 k', .int .i64 t', .int .i64 c', .int .i64 n'] 46)
        generalize wr.heap.size = Z at *
        generalize wr.alloc _ = x0 at *
        clear c0 u4 g0 g1 g2 g3
        refine (box_post _ k t c n a' i' t2 c2 s2 k' t' c' n' _ d0).mono ?_
        rintro e x1 ⟨rfl, d1, q⟩
        have v1 : Upd (fun _ => False) w x1 := v0.then q (fun i hi e => by omega)
        have z1 := hZ.upd q (show ¬ Z = L by omega)
        clear d0 v0 q hZ
        have hz1 := z1.cell
        go_wp2_with fail
        refine (box_post_no _ 1 k' t' c' n' a' i' t2 c2 s2 k' t' c' n' _ (by omega) d1).mono ?_
        rintro e x2 ⟨rfl, d2, q⟩
        have v2 : Upd (fun _ => False) w x2 := v1.trans q
        have z2 := z1.upd q (fun h => h)
        clear d1 v1 q z1 hz1
        go_wp2_with fail
        refine (box_op _ k' t' c' n' a' i' t2 c2 s2 _ d2).mono ?_
        rintro e x3 ⟨rfl, d3, q⟩
        have v3 : Upd (fun _ => False) w x3 := v2.trans q
        have z3 := z2.upd q (fun h => h)
        have l3 := Blk.lt d3
        have lz3 := Blk.lt z3
        clear d2 v2 q z2
        go_wp2_with fail
        have d4 : BoxAt _ L 1 k' t' c' n' a' i' t2 c2 s2 := (hp_alloc x3 L (.cells #[.int .u8 k', .int .i64 t', .int .i64 c', .int .i64 n'] 46) l3).trans d3
        have z4 : Blk _ Z _ _ := (hp_alloc x3 Z (.cells #[.int .u8 k', .int .i64 t', .int .i64 c', .int .i64 n'] 46) lz3).trans z3
        have y4 : Blk (x3.alloc (.cells #[.int .u8 k', .int .i64 t', .int .i64 c', .int .i64 n'] 46)) x3.heap.size #[.int .u8 k', .int .i64 t', .int .i64 c', .int .i64 n'] 46 := Blk.new _ _ _
        have v4 := v3.alloc (.cells #[.int .u8 k', .int .i64 t', .int .i64 c', .int .i64 n'] 46)
        clear d3 v3 z3
        generalize x3.heap.size = Y3 at *
        generalize x3.alloc _ = x4 at *
        refine (box_collect_no _ 1 k' t' c' n' a' i' t2 c2 s2 _ (by omega) (by omega) (by omega) d4).mono ?_
        rintro e x5 ⟨rfl, d5, q⟩
        have v5 : Upd (fun _ => False) w x5 := v4.trans q
        have z5 := z4.upd q (fun h => h)
        have y5 := y4.upd q (fun h => h)
        have l5 := Blk.lt d5
        have lz5 := Blk.lt z5
        have ly5 := Blk.lt y5
        clear d4 v4 q z4 y4 l3 lz3
        have hz5 := z5.cell
        have hy5 := y5.cell
        have hr := HR.out _ v5
        rw [HYm.out] at hr
        have r0 : x5.cell? ⟨br, offr + m * 5, none⟩ = _ := hr 0 (by decide)
        have r1 := hr 1 (by decide)
        have r2 := hr 2 (by decide)
        have r3 := hr 3 (by decide)
        have r4 := hr 4 (by decide)
        simp only [List.getElem?_cons_zero, List.getElem?_cons_succ] at r0 r1 r2 r3 r4
        have lbr := World.block_lt_of_cell? x5 _ r0
        simp only [] at lbr
        clear hr
        go_wp2_with fail
        have d6 : BoxAt _ L 1 k' t' c' n' a' i' t2 c2 s2 := (hp_alloc x5 L (.cells #[.int .u8 0, .int .u64 0, .int .i64 0, .int .i64 0, .int .i64 0] 47) l5).trans d5
        have v6 := v5.alloc (.cells #[.int .u8 0, .int .u64 0, .int .i64 0, .int .i64 0, .int .i64 0] 47)
        clear d5 v5 z5 y5 hz5 hy5 r0 r1 r2 r3 r4 l5 lz5 ly5
        generalize x5.alloc _ = x6 at *
        generalize x5.heap.size = Y5 at *
        clear lbr
        refine (box_finish _ k' t' c' n' a' i' t2 c2 s2 a3 i3 t3 c3 s3 _ d6).mono ?_
        rintro e x7 ⟨rfl, d7, q⟩
        have v7 : Upd (fun _ => False) w x7 := v6.then q (fun i hi e => by omega)
        clear d6 v6 q
        have hr := HR.out _ v7
        rw [HYm.out] at hr
        have r0 : x7.cell? ⟨br, offr + m * 5, none⟩ = _ := hr 0 (by decide)
        have r1 := hr 1 (by decide)
        have r2 := hr 2 (by decide)
        have r3 := hr 3 (by decide)
        have r4 := hr 4 (by decide)
        simp only [List.getElem?_cons_zero, List.getElem?_cons_succ] at r0 r1 r2 r3 r4
        clear hr
        go_wp2_with fail
        refine (box_finish_no _ 2 k' t' c' n' a3 i3 t3 c3 s3 a3 i3 t3 c3 s3 _ (by omega) d7).mono ?_
        rintro e x8 ⟨rfl, d8, q⟩
        have v8 : Upd (fun _ => False) w x8 := v7.trans q
        clear d7 v7 q r0 r1 r2 r3 r4
        go_wp2_with fail
        refine (box_collect _ k' t' c' n' a3 i3 t3 c3 s3 _ d8).mono ?_
        rintro e x9 ⟨rfl, d9, q⟩
        have v9 : Upd (fun _ => False) w x9 := v8.then q (fun i hi e => by omega)
        have l9 := Blk.lt d9
        clear d8 v8 q
        go_wp2_with fail
        have d10 : BoxAt _ L 0 k' t' c' n' a3 i3 t3 c3 s3 := (hp_alloc x9 L (.cells #[.int .u8 a3, .int .u64 i3, .int .i64 t3, .int .i64 c3, .int .i64 s3] 47) l9).trans d9
        have y10 : Blk (x9.alloc (.cells #[.int .u8 a3, .int .u64 i3, .int .i64 t3, .int .i64 c3, .int .i64 s3] 47)) x9.heap.size #[.int .u8 a3, .int .u64 i3, .int .i64 t3, .int .i64 c3, .int .i64 s3] 47 := Blk.new _ _ _
        have v10 := v9.alloc (.cells #[.int .u8 a3, .int .u64 i3, .int .i64 t3, .int .i64 c3, .int .i64 s3] 47)
        clear d9 v9
        generalize x9.heap.size = Y9 at *
        generalize x9.alloc _ = x10 at *
        refine (box_collect_no _ 0 k' t' c' n' a3 i3 t3 c3 s3 _ (by omega) (by omega) (by omega) d10).mono ?_
        rintro e x11 ⟨rfl, d11, q⟩
        have v11 : Upd (fun _ => False) w x11 := v10.trans q
        have y11 := y10.upd q (fun h => h)
        have l11 := Blk.lt d11
        have ly11 := Blk.lt y11
        clear d10 v10 q y10 l9
        have hy11 := y11.cell
        have hr := HR.out _ v11
        rw [HYm.out] at hr
        have r0 : x11.cell? ⟨br, offr + m * 5, none⟩ = _ := hr 0 (by decide)
        have r1 := hr 1 (by decide)
        have r2 := hr 2 (by decide)
        have r3 := hr 3 (by decide)
        have r4 := hr 4 (by decide)
        simp only [List.getElem?_cons_zero, List.getElem?_cons_succ] at r0 r1 r2 r3 r4
        have lbr := World.block_lt_of_cell? x11 _ r0
        simp only [] at lbr
        clear hr
        go_wp2_with fail
        go_quiet (fail)
        go_wp2
        go_roundw
        case rel => exact ⟨m + 1, k', t', c', n', a3, i3, t3, c3, s3, by go_num, by omega, (hp_alloc x11 L (.cells #[.int .u8 0, .int .u64 0, .int .i64 0, .int .i64 0, .int .i64 0] 47) l11).trans d11, (v11.alloc _).drewN _⟩
        case measure => simp [intOf]; omega
      · have hd : decide ((30 : Int) ≤ (m : Int)) = true ∨ (decide ((30 : Int) ≤ (m : Int)) = false ∧ lenr ≤ m) := by
          by_cases h : (30 : Int) ≤ (m : Int)
          · exact .inl (by simpa using h)
          · exact .inr ⟨by simp; omega, by omega⟩
        have hlL := Blk.lt c0
        rcases hd with hd | ⟨hd, hd2⟩
        all_goals
          go_wp2_with fail
          refine (box_state _ 0 k t c n a' i' t2 c2 s2 _ (by omega) (by omega) ((hp_alloc wr L (.cells #[.int .u8 k', .int .i64 t', .int .i64 c', .int .i64 n'] 46) hlL).trans c0)).mono ?_
          rintro e w' ⟨rfl, rfl⟩
          go_wp2_with fail
          go_ret
          exact ⟨rfl, u4.alloc _⟩
    · go_wp2_with fail
      refine (box_state _ 0 k t c n a' i' t2 c2 s2 _ (by omega) (by omega) c0).mono ?_
      rintro e w' ⟨rfl, rfl⟩
      go_wp2_with fail
      go_ret
      exact ⟨rfl, u4⟩

open Go.ChangeShapes Go.WideShapes Go.ChangeAt in
set_option maxRecDepth 100000 in
theorem lockNil_law {H : Type} (enc : TypeId × Value → H) (W : World) (base : Nat) (v0 : Value) (d0 : DataW H) (p0 : List MemPlace) (o0 : Value.okWide Try.prog W .any base 3 v0) (h0 : DataW.Trod enc Try.prog W 0 (fun _ => true) true 3 v0 d0 p0)
    (v1 : Value) (d1 : DataW H) (p1 : List MemPlace) (o1 : Value.okWide Try.prog W .any base 46 v1) (h1 : DataW.Trod enc Try.prog W 0 (fun _ => true) true 46 v1 d1 p1)
    (v2 : Value) (d2 : DataW H) (p2 : List MemPlace) (o2 : Value.okWide Try.prog W .any base 47 v2) (h2 : DataW.Trod enc Try.prog W 0 (fun _ => true) true 47 v2 d2 p2) :
    Calls Try.prog 8 #[v0, v1, v2] W fun e W' => e = .returned (.bool true) ∧ Below W.heap.size W W' := by
  obtain ⟨id, rfl, -, -, -⟩ := open_int Try.underlying3 o0 h0
  obtain ⟨cs1, rfl, q1⟩ := open_struct (ls := [.int .u8, .int .i64, .int .i64, .int .i64]) (n := 2) Try.underlying46 (by kernel_rfl) o1 h1
  obtain ⟨cs2, rfl, q2⟩ := open_struct (ls := [.int .u8, .int .u64, .int .i64, .int .i64, .int .i64]) (n := 2) Try.underlying47 (by kernel_rfl) o2 h2
  obtain ⟨_, _, rfl, ⟨k, rfl, w_k⟩, q1_0⟩ := All2.inv q1
  obtain ⟨_, _, rfl, ⟨t, rfl, w_t⟩, q1_1⟩ := All2.inv q1_0
  obtain ⟨_, _, rfl, ⟨c, rfl, w_c⟩, q1_2⟩ := All2.inv q1_1
  obtain ⟨_, _, rfl, ⟨n, rfl, w_n⟩, q1_3⟩ := All2.inv q1_2
  obtain rfl := All2.inv0 q1_3
  obtain ⟨_, _, rfl, ⟨a, rfl, w_a⟩, q2_0⟩ := All2.inv q2
  obtain ⟨_, _, rfl, ⟨i, rfl, w_i⟩, q2_1⟩ := All2.inv q2_0
  obtain ⟨_, _, rfl, ⟨t2, rfl, w_t2⟩, q2_2⟩ := All2.inv q2_1
  obtain ⟨_, _, rfl, ⟨c2, rfl, w_c2⟩, q2_3⟩ := All2.inv q2_2
  obtain ⟨_, _, rfl, ⟨s2, rfl, w_s2⟩, q2_4⟩ := All2.inv q2_3
  obtain rfl := All2.inv0 q2_4
  exact (lockNil_walk id k t c n a i t2 c2 s2 W).mono fun e W' ⟨he, hu⟩ => ⟨he, hu.below (fun _ _ h => h)⟩

open Go.ChangeShapes Go.WideShapes Go.ChangeAt in
set_option maxRecDepth 100000 in
theorem lockBoxes_law {H : Type} (enc : TypeId × Value → H) (W : World) (base : Nat) (v0 : Value) (d0 : DataW H) (p0 : List MemPlace) (o0 : Value.okWide Try.prog W .any base 35 v0) (h0 : DataW.Trod enc Try.prog W 0 (fun _ => true) true 35 v0 d0 p0) :
    Calls Try.prog 4 #[v0] W fun e W' => e = .returned (.bool true) ∧ Below W.heap.size W W' := by
  obtain ⟨a, len, cap, rfl⟩ := okWide_slice Try.underlying35 o0
  obtain ⟨fuel, hf⟩ := h0
  obtain ⟨h1, h2, X, hX, hL⟩ := open_row (ls := [.int .u8, .int .u8, .int .i64, .int .i64, .int .i64, .int .u8, .int .u64, .int .i64, .int .i64, .int .i64]) (n := 4) Try.underlying35 (by kernel_rfl) (by kernel_rfl) (by decide) hf
  refine (lockBoxes_walk a len cap X W (Nat.le_trans h1 h2) ?_ hX).mono fun e W' ⟨he, hu⟩ => ⟨he, hu.below (fun _ _ h => h)⟩
  intro i hi
  have q := hL i hi
  generalize X i = x at q
  obtain ⟨_, _, rfl, ⟨d, rfl, w_d⟩, q_0⟩ := All2.inv q
  obtain ⟨_, _, rfl, ⟨k, rfl, w_k⟩, q_1⟩ := All2.inv q_0
  obtain ⟨_, _, rfl, ⟨t, rfl, w_t⟩, q_2⟩ := All2.inv q_1
  obtain ⟨_, _, rfl, ⟨c, rfl, w_c⟩, q_3⟩ := All2.inv q_2
  obtain ⟨_, _, rfl, ⟨n, rfl, w_n⟩, q_4⟩ := All2.inv q_3
  obtain ⟨_, _, rfl, ⟨a', rfl, w_a'⟩, q_5⟩ := All2.inv q_4
  obtain ⟨_, _, rfl, ⟨i', rfl, w_i'⟩, q_6⟩ := All2.inv q_5
  obtain ⟨_, _, rfl, ⟨t2, rfl, w_t2⟩, q_7⟩ := All2.inv q_6
  obtain ⟨_, _, rfl, ⟨c2, rfl, w_c2⟩, q_8⟩ := All2.inv q_7
  obtain ⟨_, _, rfl, ⟨s2, rfl, w_s2⟩, q_9⟩ := All2.inv q_8
  obtain rfl := All2.inv0 q_9
  have := wf_bounds w_d
  exact ⟨d, k, t, c, n, a', i', t2, c2, s2, rfl, this.1, this.2⟩

open Go.ChangeShapes Go.WideShapes Go.ChangeAt in
set_option maxRecDepth 100000 in
theorem lockRounds_law {H : Type} (enc : TypeId × Value → H) (W : World) (base : Nat) (v0 : Value) (d0 : DataW H) (p0 : List MemPlace) (o0 : Value.okWide Try.prog W .any base 62 v0) (h0 : DataW.Trod enc Try.prog W 0 (fun _ => true) true 62 v0 d0 p0)
    (v1 : Value) (d1 : DataW H) (p1 : List MemPlace) (o1 : Value.okWide Try.prog W .any base 63 v1) (h1 : DataW.Trod enc Try.prog W 0 (fun _ => true) true 63 v1 d1 p1) :
    Calls Try.prog 5 #[v0, v1] W fun e W' => e = .returned (.bool true) ∧ Below W.heap.size W W' := by
  obtain ⟨a, len, cap, rfl⟩ := okWide_slice Try.underlying62 o0
  obtain ⟨ar, lenr, capr, rfl⟩ := okWide_slice Try.underlying63 o1
  obtain ⟨fuel, hf⟩ := h0
  obtain ⟨fuelr, hfr⟩ := h1
  obtain ⟨h1, h2, X, hX, hL⟩ := open_row (ls := [.int .u8, .int .i64, .int .i64, .int .i64]) (n := 2) Try.underlying62 (by kernel_rfl) (by kernel_rfl) (by decide) hf
  obtain ⟨h3, h4, Y, hY, hM⟩ := open_row (ls := [.int .u8, .int .u64, .int .i64, .int .i64, .int .i64]) (n := 2) Try.underlying63 (by kernel_rfl) (by kernel_rfl) (by decide) hfr
  refine (lockRounds_walk a len cap X ar lenr capr Y W (Nat.le_trans h1 h2) (Nat.le_trans h3 h4) ?_ ?_ hX hY).mono fun e W' ⟨he, hu⟩ => ⟨he, hu.below (fun _ _ h => h)⟩
  · intro i hi
    have q := hL i hi
    generalize X i = x at q
    obtain ⟨_, _, rfl, ⟨k, rfl, w_k⟩, q_0⟩ := All2.inv q
    obtain ⟨_, _, rfl, ⟨t, rfl, w_t⟩, q_1⟩ := All2.inv q_0
    obtain ⟨_, _, rfl, ⟨c, rfl, w_c⟩, q_2⟩ := All2.inv q_1
    obtain ⟨_, _, rfl, ⟨n, rfl, w_n⟩, q_3⟩ := All2.inv q_2
    obtain rfl := All2.inv0 q_3
    exact ⟨k, t, c, n, rfl⟩
  · intro i hi
    have q := hM i hi
    generalize Y i = x at q
    obtain ⟨_, _, rfl, ⟨a', rfl, w_a'⟩, q_0⟩ := All2.inv q
    obtain ⟨_, _, rfl, ⟨i', rfl, w_i'⟩, q_1⟩ := All2.inv q_0
    obtain ⟨_, _, rfl, ⟨t2, rfl, w_t2⟩, q_2⟩ := All2.inv q_1
    obtain ⟨_, _, rfl, ⟨c2, rfl, w_c2⟩, q_3⟩ := All2.inv q_2
    obtain ⟨_, _, rfl, ⟨s2, rfl, w_s2⟩, q_4⟩ := All2.inv q_3
    obtain rfl := All2.inv0 q_4
    exact ⟨a', i', t2, c2, s2, rfl⟩
end Go.Proofs.Yteaihgjjplgalaa
