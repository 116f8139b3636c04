/- The program's wide numbers and saturating products (layers 1, 2): contracts, walked. -/
import Derived.Test.YteaihgjjplgalaaNum4
import Derived.Shelf.Bits.Mul64
import Derived.Laws.Externs
import Derived.Deep.RegionHeld3
namespace Go.Proofs.Yteaihgjjplgalaa
open Go.RowKit Go.Lib
set_option linter.unusedVariables false
set_option linter.unusedSimpArgs false

set_option maxHeartbeats 1000000 in
theorem mul64_any (x y : Nat) (hx : x < 18446744073709551616) (hy : y < 18446744073709551616) (w : World) :
    Calls Try.prog 91 #[.int .u64 x, .int .u64 y] w fun e w' => e = .returned (.tuple #[.int .u64 ((x * y / 18446744073709551616 : Nat) : Int), .int .u64 ((x * y % 18446744073709551616 : Nat) : Int)]) ∧ w' = w := by
  obtain ⟨bd, bt, bw, hhi⟩ := Lib.mul64_hi x y hx hy
  have ba := Lib.half_mul_le (a := x / 4294967296) (b := y / 4294967296) (by omega) (by omega)
  have bb := Lib.half_mul_le (a := x / 4294967296) (b := y % 4294967296) (by omega) (by omega)
  have bc := Lib.half_mul_le (a := x % 4294967296) (b := y / 4294967296) (by omega) (by omega)
  have ba' : x / 4294967296 * (y / 4294967296) < 18446744073709551616 := by omega
  have bb' : x / 4294967296 * (y % 4294967296) < 18446744073709551616 := by omega
  have bc' : x % 4294967296 * (y / 4294967296) < 18446744073709551616 := by omega
  have bh1 : x / 4294967296 * (y / 4294967296) + (x / 4294967296 * (y % 4294967296) + x % 4294967296 * (y % 4294967296) / 4294967296) / 4294967296 < 18446744073709551616 := by omega
  have bh : x / 4294967296 * (y / 4294967296) + (x / 4294967296 * (y % 4294967296) + x % 4294967296 * (y % 4294967296) / 4294967296) / 4294967296 + ((x / 4294967296 * (y % 4294967296) + x % 4294967296 * (y % 4294967296) / 4294967296) % 4294967296 + x % 4294967296 * (y / 4294967296)) / 4294967296 < 18446744073709551616 := by omega
  go_enter Try.func91, Try.ntmps91
  go_wp2
  simp only [Mul64.maskN x hx, Mul64.maskN y hy, Mul64.divN, Mul64.mulN, Mul64.addN, Mul64.wrapN _ bd, Mul64.wrapN _ bb', Mul64.wrapN _ bt, Mul64.maskN _ bt, Mul64.wrapN _ bc', Mul64.wrapN _ bw, Mul64.wrapN _ ba', Mul64.wrapN _ bh1, Mul64.wrapN _ bh, Mul64.wrapM (x * y)]
  rw [hhi]
  go_ret2
  exact ⟨rfl, rfl⟩

set_option maxRecDepth 100000 in
theorem wideMul (a b : Int) (ha : 0 ≤ a ∧ a < 18446744073709551616) (hb : 0 ≤ b ∧ b < 18446744073709551616) (w : World) :
    Calls Try.prog 85 #[.int .u64 a, .int .u64 b] w fun e W' => e = .returned (numV (a * b)) ∧ Upd (fun _ => False) w W' := by
  obtain ⟨x, rfl⟩ := Int.eq_ofNat_of_zero_le ha.1
  obtain ⟨y, rfl⟩ := Int.eq_ofNat_of_zero_le hb.1
  have hm := mul64_any x y (by omega) (by omega)
  have hN : numV ((x : Int) * (y : Int)) = .agg #[.int .u64 ((x * y / 18446744073709551616 : Nat) : Int), .int .u64 ((x * y % 18446744073709551616 : Nat) : Int)] := by
    rw [← Int.natCast_mul]; unfold numV; congr 3 <;> omega
  rw [hN]
  clear hN
  generalize ((x * y / 18446744073709551616 : Nat) : Int) = h at *
  generalize ((x * y % 18446744073709551616 : Nat) : Int) = l at *
  go_enter Try.func85, Try.ntmps85
  go_wp2_with (go_at_call 91; refine (hm _).mono ?_; rintro e w1 ⟨rfl, rfl⟩)
  (try simp only [Exit.inBlock, Exit.then])
  refine bodyPost_ret (results_cell_row rfl _ _ _ 171 #[.int .u64 h, .int .u64 l] (0, 0) _ rfl (by show hp _ _ = _; simp (disch := first | omega | (simp only [sz_setCell, sz_alloc, sz_drew, sz_drewN]; done) | (simp only [sz_setCell, sz_alloc, sz_drew, sz_drewN]; omega)) [Blk, hp_same, hp_ne, hp_alloc, hp_new', hp_drew, hp_drewN, Obj.put]) Try.underlying171 rfl (by kernel_rfl)) rfl ?_
  exact ⟨rfl, (Upd.refl _ _).alloc _⟩

set_option maxRecDepth 100000 in
theorem wideOf (a : Int) (w : World) :
    Calls Try.prog 89 #[.int .u64 a] w fun e W' => e = .returned (.agg #[.int .u64 0, .int .u64 a]) ∧ Upd (fun _ => False) w W' := by
  go_enter Try.func89, Try.ntmps89
  go_wp2_with fail
  (try simp only [Exit.inBlock, Exit.then])
  refine bodyPost_ret (results_cell_row rfl _ _ _ 171 #[.int .u64 0, .int .u64 a] (0, 0) _ rfl (by show hp _ _ = _; simp (disch := first | omega | (simp only [sz_setCell, sz_alloc, sz_drew, sz_drewN]; done) | (simp only [sz_setCell, sz_alloc, sz_drew, sz_drewN]; omega)) [Blk, hp_same, hp_ne, hp_alloc, hp_new', hp_drew, hp_drewN, Obj.put]) Try.underlying171 rfl (by kernel_rfl)) rfl ?_
  exact ⟨rfl, (Upd.refl _ _).alloc _⟩

theorem fixSize (a : Int) (ha : I64 a) (w : World) :
    Calls Try.prog 86 #[.int .i64 a] w fun e W' => e = .returned (.int .u64 (mag a)) ∧ w = W' := by
  unfold I64 at ha
  by_cases h : a < 0
  · have HM := Lib.hid (show mag a = -a by unfold mag; rw [if_pos h])
    have hd : decide (a < 0) = true := decide_eq_true h
    go_enter Try.func86, Try.ntmps86
    go_wp2_with fail
    go_ret
    refine ⟨?_, rfl⟩
    rw [HM.out]
    first | rfl | (refine congrArg (fun z => Ending.returned (Value.int .u64 z)) ?_; simp [IntKind.wrap_u64]; omega)
  · have HM := Lib.hid (show mag a = a by unfold mag; rw [if_neg h])
    have hd : decide (a < 0) = false := decide_eq_false h
    go_enter Try.func86, Try.ntmps86
    go_wp2_with fail
    go_ret
    exact ⟨by rw [HM.out]; rfl, rfl⟩

theorem fixEnd (t : Bool) (w : World) :
    Calls Try.prog 87 #[.bool t] w fun e W' => e = .returned (.int .i64 (if t then -9223372036854775808 else 9223372036854775807)) ∧ w = W' := by
  cases t
  · go_enter Try.func87, Try.ntmps87
    go_wp2_with fail
    go_ret
    exact ⟨rfl, rfl⟩
  · go_enter Try.func87, Try.ntmps87
    go_wp2_with fail
    go_ret
    exact ⟨rfl, rfl⟩

theorem add64_nat (x y c : Nat) (hc : c ≤ 1) (w : World) :
    (callFunc 92 #[.int .u64 x, .int .u64 y, .int .u64 c]).run Try.prog w =
      .ok (.value (.tuple #[.int .u64 (((x + y + c) % 18446744073709551616 : Nat) : Int), .int .u64 (((x + y + c) / 18446744073709551616 : Nat) : Int)])) w := by
  rw [run_callFunc_extern Try.func92 (by kernel_rfl) (by kernel_rfl) (by kernel_rfl) (e := add64Entry) (by kernel_rfl), run_add64 x y c (by omega) (by omega) (by omega) (by omega)]
  simp only [Result.andThen]
  congr 5 <;> omega
theorem add64_run (x y c : Int) (hx : 0 ≤ x) (hy : 0 ≤ y) (hc : 0 ≤ c ∧ c ≤ 1) (w : World) :
    (callFunc 92 #[.int .u64 x, .int .u64 y, .int .u64 c]).run Try.prog w =
      .ok (.value (.tuple #[.int .u64 ((x + y + c) % 18446744073709551616), .int .u64 ((x + y + c) / 18446744073709551616)])) w := by
  obtain ⟨x, rfl⟩ := Int.eq_ofNat_of_zero_le hx
  obtain ⟨y, rfl⟩ := Int.eq_ofNat_of_zero_le hy
  obtain ⟨c, rfl⟩ := Int.eq_ofNat_of_zero_le hc.1
  rw [add64_nat x y c (by omega)]
  rfl

set_option maxRecDepth 100000 in
set_option maxHeartbeats 1000000 in
theorem wideAdd (a b : Int) (ha : N128 a) (hb : N128 b) (w : World) :
    Calls Try.prog 88 #[numV a, numV b] w fun e W' => e = .returned (.tuple #[numV ((a + b) % 340282366920938463463374607431768211456), .bool (decide (340282366920938463463374607431768211456 ≤ a + b))]) ∧ Upd (fun _ => False) w W' := by
  unfold N128 at ha hb
  obtain ⟨R, hR⟩ : ∃ R : Value, R = .tuple #[numV ((a + b) % 340282366920938463463374607431768211456), .bool (decide (340282366920938463463374607431768211456 ≤ a + b))] := ⟨_, rfl⟩
  rw [← hR]
  have hR2 : R = .tuple #[.agg #[.int .u64 ((a / 18446744073709551616 + b / 18446744073709551616 + (a % 18446744073709551616 + b % 18446744073709551616 + 0) / 18446744073709551616) % 18446744073709551616), .int .u64 ((a % 18446744073709551616 + b % 18446744073709551616 + 0) % 18446744073709551616)],
      .bool (!decide ((a / 18446744073709551616 + b / 18446744073709551616 + (a % 18446744073709551616 + b % 18446744073709551616 + 0) / 18446744073709551616) / 18446744073709551616 = 0))] := by
    rw [hR]
    have e1 : (a + b) % 340282366920938463463374607431768211456 / 18446744073709551616 = (a / 18446744073709551616 + b / 18446744073709551616 + (a % 18446744073709551616 + b % 18446744073709551616 + 0) / 18446744073709551616) % 18446744073709551616 := by omega
    have e2 : (a + b) % 340282366920938463463374607431768211456 % 18446744073709551616 = (a % 18446744073709551616 + b % 18446744073709551616 + 0) % 18446744073709551616 := by omega
    have e3 : decide (340282366920938463463374607431768211456 ≤ a + b) = !decide ((a / 18446744073709551616 + b / 18446744073709551616 + (a % 18446744073709551616 + b % 18446744073709551616 + 0) / 18446744073709551616) / 18446744073709551616 = 0) := by
      rw [← decide_not, decide_eq_decide]; omega
    unfold numV
    rw [e1, e2, e3]
  unfold numV
  have h1 : 0 ≤ a / 18446744073709551616 ∧ 0 ≤ a % 18446744073709551616 ∧ 0 ≤ b / 18446744073709551616 ∧ 0 ≤ b % 18446744073709551616 ∧ 0 ≤ (a % 18446744073709551616 + b % 18446744073709551616 + 0) / 18446744073709551616 ∧ (a % 18446744073709551616 + b % 18446744073709551616 + 0) / 18446744073709551616 ≤ 1 := by omega
  clear hR ha hb
  generalize a / 18446744073709551616 = ah at *
  generalize a % 18446744073709551616 = al at *
  generalize b / 18446744073709551616 = bh at *
  generalize b % 18446744073709551616 = bl at *
  have r1 := fun w => add64_run al bl 0 h1.2.1 h1.2.2.2.1 (by omega) w
  have r2 := fun w => add64_run ah bh ((al + bl + 0) / 18446744073709551616) h1.1 h1.2.2.1 h1.2.2.2.2 w
  generalize (al + bl + 0) % 18446744073709551616 = lo at *
  generalize (al + bl + 0) / 18446744073709551616 = c at *
  generalize (ah + bh + c) % 18446744073709551616 = hi at *
  generalize (ah + bh + c) / 18446744073709551616 = ov at *
  have HR := Lib.hid hR2
  clear hR2 h1
  go_enter Try.func88, Try.ntmps88
  go_wp2_with fail
  (try simp only [Exit.inBlock, Exit.then])
  refine bodyPost_ret (results_cell_tmp rfl _ _ (w.heap.size + 1 + 1) 171 #[.int .u64 hi, .int .u64 lo] (0, 0) _ rfl (by show hp _ (w.heap.size + 1 + 1) = _; simp (disch := first | omega | (simp only [sz_setCell, sz_alloc, sz_drew, sz_drewN]; done) | (simp only [sz_setCell, sz_alloc, sz_drew, sz_drewN]; omega)) [Blk, hp_same, hp_ne, hp_alloc, hp_new', hp_drew, hp_drewN, Obj.put]) Try.underlying171 rfl (by kernel_rfl)) rfl ?_
  exact ⟨by rw [HR.out]; rfl, (((Upd.refl _ _).alloc _).alloc _).alloc _⟩

/-- which one is more. -/
def cmpI (a b : Int) : Int := if a < b then -1 else if b < a then 1 else 0
set_option maxRecDepth 100000 in
theorem compareU (a b : Int) (w : World) :
    Calls Try.prog 94 #[.int .u64 a, .int .u64 b] w fun e W' => e = .returned (.int .i64 (cmpI a b)) ∧ w = W' := by
  have hnan : ∀ (x : Int) (w : World), Calls Try.prog 95 #[.int .u64 x] w fun e W' => e = .returned (.bool false) ∧ w = W' := by
    intro x w
    have hx : (x != x) = false := by simp
    go_enter Try.func95, Try.ntmps95
    go_wp2_with fail
    go_ret
    exact ⟨by first | rfl | simp, rfl⟩
  by_cases h1 : a < b
  · have HC := Lib.hid (show cmpI a b = -1 by unfold cmpI; rw [if_pos h1])
    have d1 : decide (a < b) = true := decide_eq_true h1
    go_enter Try.func94, Try.ntmps94
    go_wp2_with (go_at_call 95; refine (hnan _ _).mono ?_; rintro e w' ⟨rfl, rfl⟩)
    go_ret
    exact ⟨by rw [HC.out]; rfl, rfl⟩
  · have d1 : decide (a < b) = false := decide_eq_false h1
    by_cases h2 : b < a
    · have HC := Lib.hid (show cmpI a b = 1 by unfold cmpI; rw [if_neg h1, if_pos h2])
      have d2 : decide (b < a) = true := decide_eq_true h2
      go_enter Try.func94, Try.ntmps94
      go_wp2_with (go_at_call 95; refine (hnan _ _).mono ?_; rintro e w' ⟨rfl, rfl⟩)
      go_ret
      exact ⟨by rw [HC.out]; rfl, rfl⟩
    · have HC := Lib.hid (show cmpI a b = 0 by unfold cmpI; rw [if_neg h1, if_neg h2])
      have d2 : decide (b < a) = false := decide_eq_false h2
      go_enter Try.func94, Try.ntmps94
      go_wp2_with (go_at_call 95; refine (hnan _ _).mono ?_; rintro e w' ⟨rfl, rfl⟩)
      go_ret
      exact ⟨by rw [HC.out]; rfl, rfl⟩

def orI (p q : Int) : Int := if p = 0 then q else p
set_option maxRecDepth 100000 in
theorem or2 (b : Nat) (p q : Int) (w : World) (h0 : w.cell? ⟨b, 0, none⟩ = some (.int .i64 p)) (h1 : w.cell? ⟨b, 1, none⟩ = some (.int .i64 q)) :
    Calls Try.prog 93 #[.slice (some ⟨b, 0, none⟩) 2 2] w fun e W' => e = .returned (.int .i64 (orI p q)) ∧ w = W' := by
  go_enter Try.func93, Try.ntmps93
  go_wp2_with fail
  go_loop [8] (fun i => ∃ k : Nat, i = .int .i64 k ∧ k ≤ 2 ∧ (1 ≤ k → p = 0) ∧ (2 ≤ k → q = 0)) (fun i => 2 - (intOf i).toNat)
  case atStart => exact ⟨0, rfl, by omega, by omega, by omega⟩
  case round =>
    obtain ⟨k, rfl, hk, hp0, hq0⟩ := hrel
    obtain rfl | rfl | rfl : k = 0 ∨ k = 1 ∨ k = 2 := by omega
    · by_cases hp : p = 0
      · subst hp
        go_wp2_with fail
        go_round
        case rel => exact ⟨1, rfl, by omega, by simp, by omega⟩
        case measure => simp [intOf]
      · have hpn : (p != 0) = true := by simpa using hp
        go_wp2_with fail
        go_ret
        exact ⟨by unfold orI; rw [if_neg hp]; rfl, rfl⟩
    · obtain rfl := hp0 (Nat.le_refl _)
      by_cases hq : q = 0
      · subst hq
        go_wp2_with fail
        go_round
        case rel => exact ⟨2, rfl, by omega, by simp, by simp⟩
        case measure => simp [intOf]
      · have hqn : (q != 0) = true := by simpa using hq
        go_wp2_with fail
        go_ret
        exact ⟨by unfold orI; first | rfl | simp, rfl⟩
    · obtain rfl := hp0 (by omega)
      obtain rfl := hq0 (by omega)
      go_wp2_with fail
      go_ret
      exact ⟨by unfold orI; first | rfl | simp, rfl⟩

theorem orI_cmp (a b : Int) (ha : N128 a) (hb : N128 b) : orI (cmpI (a / 18446744073709551616) (b / 18446744073709551616)) (cmpI (a % 18446744073709551616) (b % 18446744073709551616)) = cmpI a b := by
  unfold N128 at ha hb
  unfold orI cmpI
  split <;> split <;> (try split) <;> (try split) <;> (try split) <;> (try split) <;> omega
set_option maxRecDepth 100000 in
set_option maxHeartbeats 1000000 in
theorem wideCmp (a b : Int) (ha : N128 a) (hb : N128 b) (w : World) :
    Calls Try.prog 90 #[numV a, numV b] w fun e W' => e = .returned (.int .i64 (cmpI a b)) ∧ Upd (fun _ => False) w W' := by
  rw [← orI_cmp a b ha hb]
  unfold numV
  generalize a / 18446744073709551616 = ah at *
  generalize a % 18446744073709551616 = al at *
  generalize b / 18446744073709551616 = bh at *
  generalize b % 18446744073709551616 = bl at *
  clear ha hb
  go_enter Try.func90, Try.ntmps90
  go_wp2_with fail
  have b0 : Blk ((w.alloc (.cells #[.int .u64 ah, .int .u64 al] 171)).alloc (.cells #[.int .u64 bh, .int .u64 bl] 171)) w.heap.size #[.int .u64 ah, .int .u64 al] 171 := by simp (disch := first | omega | (simp only [sz_setCell, sz_alloc, sz_drew, sz_drewN]; done) | (simp only [sz_setCell, sz_alloc, sz_drew, sz_drewN]; omega)) [Blk, hp_same, hp_ne, hp_alloc, hp_new', hp_drew, hp_drewN, Obj.put]
  have b1 : Blk ((w.alloc (.cells #[.int .u64 ah, .int .u64 al] 171)).alloc (.cells #[.int .u64 bh, .int .u64 bl] 171)) (w.heap.size + 1) #[.int .u64 bh, .int .u64 bl] 171 := by simp (disch := first | omega | (simp only [sz_setCell, sz_alloc, sz_drew, sz_drewN]; done) | (simp only [sz_setCell, sz_alloc, sz_drew, sz_drewN]; omega)) [Blk, hp_same, hp_ne, hp_alloc, hp_new', hp_drew, hp_drewN, Obj.put]
  have u1 : Upd (fun _ => False) w _ := ((Upd.refl _ w).alloc (.cells #[.int .u64 ah, .int .u64 al] 171)).alloc (.cells #[.int .u64 bh, .int .u64 bl] 171)
  generalize (w.alloc (.cells #[.int .u64 ah, .int .u64 al] 171)).alloc (.cells #[.int .u64 bh, .int .u64 bl] 171) = w1 at *
  generalize w.heap.size = B at *
  have k1 : ∀ o, (w1.alloc o).cell? ⟨B, 0, none⟩ = some (.int .u64 ah) ∧ (w1.alloc o).cell? ⟨B, 1, none⟩ = some (.int .u64 al) ∧ (w1.alloc o).cell? ⟨B + 1, 0, none⟩ = some (.int .u64 bh) ∧ (w1.alloc o).cell? ⟨B + 1, 1, none⟩ = some (.int .u64 bl) := fun o =>
    num_cells2 (b0.upd ((Upd.refl (fun _ => False) _).alloc o) (fun h => h)) (b1.upd ((Upd.refl (fun _ => False) _).alloc o) (fun h => h))
  go_region_held3 (fun w' => w'.cell? ⟨B, 0, none⟩ = some (.int .u64 ah) ∧ w'.cell? ⟨B, 1, none⟩ = some (.int .u64 al) ∧ w'.cell? ⟨B + 1, 0, none⟩ = some (.int .u64 bh) ∧ w'.cell? ⟨B + 1, 1, none⟩ = some (.int .u64 bl)) (first | exact num_cells2 b0 b1 | exact k1 _ | go_keep) (first | (go_at_call 94; refine (compareU _ _ _).mono ?_; rintro e w' ⟨rfl, rfl⟩) | (go_at_call 93; refine (or2 _ (cmpI ah bh) (cmpI al bl) (w1.alloc (.cells #[.int .i64 (cmpI ah bh), .int .i64 (cmpI al bl)] 3)).drew ((Blk.new w1 #[.int .i64 (cmpI ah bh), .int .i64 (cmpI al bl)] 3).cell 0) ((Blk.new w1 #[.int .i64 (cmpI ah bh), .int .i64 (cmpI al bl)] 3).cell 1)).mono ?_; rintro e w' ⟨rfl, rfl⟩))
  go_wp2_with fail
  go_ret
  exact ⟨rfl, (u1.alloc _).drew⟩

set_option maxRecDepth 100000 in
set_option maxHeartbeats 1000000 in
/-- a number of a size and a sign, where nothing is left of it that counts. -/
theorem fixSigned0 (N : Int) (t lf : Bool) (htl : (t && lf) = false) (hN : N128 N) (w : World) :
    Calls Try.prog 84 #[numV N, .bool t, .bool lf] w fun e W' => e = .returned (.int .i64 (sat (sgn t N))) ∧ Upd (fun _ => False) w W' := by
  have hN' := hN
  unfold N128 at hN'
  obtain ⟨nh, nl, hNv⟩ : ∃ ah al : Int, numV N = .agg #[.int .u64 ah, .int .u64 al] := ⟨_, _, rfl⟩
  rw [hNv]
  cases t
  · go_enter Try.func84, Try.ntmps84
    go_wp2_with fail
    have hb : Blk (w.alloc (.cells #[.int .u64 nh, .int .u64 nl] 171)) w.heap.size #[.int .u64 nh, .int .u64 nl] 171 := Blk.new _ _ _
    have U : Upd (fun _ => False) w (w.alloc (.cells #[.int .u64 nh, .int .u64 nl] 171)) := (Upd.refl _ _).alloc _
    generalize w.alloc (.cells #[.int .u64 nh, .int .u64 nl] 171) = w1 at *
    generalize w.heap.size = B at *
    have hC := wideCmp N 9223372036854775807 hN (by unfold N128; omega)
    rw [hNv, numV_small (show (0 : Int) ≤ 9223372036854775807 ∧ (9223372036854775807 : Int) < 18446744073709551616 by omega)] at hC
    by_cases hgt : 9223372036854775807 < N
    · have HS := Lib.hid (show sat (sgn false N) = 9223372036854775807 by unfold sat sgn; simp only [Bool.false_eq_true, if_true, if_false]; split <;> (try split) <;> omega)
      have hd : decide (0 < cmpI N 9223372036854775807) = true := decide_eq_true (by unfold cmpI; rw [if_neg (by omega), if_pos hgt]; decide)
      generalize cmpI N 9223372036854775807 = cv at *
      go_wp2_with fail
      go_region_held3 (fun w' => w'.cell? ⟨B, 0, none⟩ = some (.int .u64 nh) ∧ w'.cell? ⟨B, 1, none⟩ = some (.int .u64 nl)) (first | exact num_cells hb | exact num_cells hb2 | exact num_cells hb3 | go_keep) (first | (have _t := hb2; go_at_call 90; refine (hC _).mono ?_; rintro e w3 ⟨rfl, u3⟩; have hb3 := hb2.upd u3 (fun h => h)) | (go_at_call 89; refine (wideOf _ _).mono ?_; rintro e w2 ⟨rfl, u2'⟩; have u2 := Upd.of_drew u2'; have hb2 := hb.upd u2 (fun h => h)))
      go_wp2_with (go_at_call 87; refine (fixEnd _ _).mono ?_; rintro e w4 ⟨rfl, rfl⟩)
      go_ret
      exact ⟨by rw [HS.out]; rfl, (U.trans u2).trans u3⟩
    · have HS := Lib.hid (show sat (sgn false N) = N from sat_id (by unfold I64 sgn; simp only [Bool.false_eq_true, if_true, if_false]; omega))
      have hd : decide (0 < cmpI N 9223372036854775807) = false := decide_eq_false (by unfold cmpI; split <;> (try split) <;> omega)
      obtain ⟨rfl, rfl⟩ : nh = 0 ∧ nl = N := by
        rw [numV_small (show 0 ≤ N ∧ N < 18446744073709551616 by omega)] at hNv
        simp only [Value.agg.injEq, Array.mk.injEq, List.cons.injEq, Value.int.injEq, true_and, and_true] at hNv
        exact ⟨hNv.1.symm, hNv.2.symm⟩
      generalize cmpI nl 9223372036854775807 = cv at *
      go_wp2_with fail
      go_region_held3 (fun w' => w'.cell? ⟨B, 0, none⟩ = some (.int .u64 0) ∧ w'.cell? ⟨B, 1, none⟩ = some (.int .u64 nl)) (first | exact num_cells hb | exact num_cells hb2 | exact num_cells hb3 | go_keep) (first | (have _t := hb2; go_at_call 90; refine (hC _).mono ?_; rintro e w3 ⟨rfl, u3⟩; have hb3 := hb2.upd u3 (fun h => h)) | (go_at_call 89; refine (wideOf _ _).mono ?_; rintro e w2 ⟨rfl, u2'⟩; have u2 := Upd.of_drew u2'; have hb2 := hb.upd u2 (fun h => h)))
      have c1 := hb3.cell 1
      simp only [List.getElem?_toArray, List.getElem?_cons_zero, List.getElem?_cons_succ] at c1
      go_wp2_with fail
      go_ret
      refine ⟨?_, (U.trans u2).trans u3⟩
      first | (rw [HS.out]; rfl) | (refine congrArg (fun z => Ending.returned (Value.int .i64 z)) ?_; rw [HS.out]; simp [IntKind.wrap_u64, IntKind.wrap_i64, wrap64]; omega)
  · obtain rfl : lf = false := by simpa using htl
    go_enter Try.func84, Try.ntmps84
    go_wp2_with fail
    have hb : Blk (w.alloc (.cells #[.int .u64 nh, .int .u64 nl] 171)) w.heap.size #[.int .u64 nh, .int .u64 nl] 171 := Blk.new _ _ _
    have U : Upd (fun _ => False) w (w.alloc (.cells #[.int .u64 nh, .int .u64 nl] 171)) := (Upd.refl _ _).alloc _
    generalize w.alloc (.cells #[.int .u64 nh, .int .u64 nl] 171) = w1 at *
    generalize w.heap.size = B at *
    have hC := wideCmp N 9223372036854775808 hN (by unfold N128; omega)
    rw [hNv, numV_small (show (0 : Int) ≤ 9223372036854775808 ∧ (9223372036854775808 : Int) < 18446744073709551616 by omega)] at hC
    by_cases hgt : 9223372036854775808 < N
    · have HS := Lib.hid (show sat (sgn true N) = -9223372036854775808 by unfold sat sgn; simp only [Bool.false_eq_true, if_true, if_false]; split <;> (try split) <;> omega)
      have hd : decide (0 < cmpI N 9223372036854775808) = true := decide_eq_true (by unfold cmpI; rw [if_neg (by omega), if_pos hgt]; decide)
      generalize cmpI N 9223372036854775808 = cv at *
      go_wp2_with fail
      go_region_held3 (fun w' => w'.cell? ⟨B, 0, none⟩ = some (.int .u64 nh) ∧ w'.cell? ⟨B, 1, none⟩ = some (.int .u64 nl)) (first | exact num_cells hb | exact num_cells hb2 | exact num_cells hb3 | go_keep) (first | (have _t := hb2; go_at_call 90; refine (hC _).mono ?_; rintro e w3 ⟨rfl, u3⟩; have hb3 := hb2.upd u3 (fun h => h)) | (go_at_call 89; refine (wideOf _ _).mono ?_; rintro e w2 ⟨rfl, u2'⟩; have u2 := Upd.of_drew u2'; have hb2 := hb.upd u2 (fun h => h)))
      go_wp2_with (go_at_call 87; refine (fixEnd _ _).mono ?_; rintro e w4 ⟨rfl, rfl⟩)
      go_ret
      exact ⟨by rw [HS.out]; rfl, (U.trans u2).trans u3⟩
    · have HS := Lib.hid (show sat (sgn true N) = -N from sat_id (by unfold I64 sgn; simp only [Bool.false_eq_true, if_true, if_false]; omega))
      have hd : decide (0 < cmpI N 9223372036854775808) = false := decide_eq_false (by unfold cmpI; split <;> (try split) <;> omega)
      obtain ⟨rfl, rfl⟩ : nh = 0 ∧ nl = N := by
        rw [numV_small (show 0 ≤ N ∧ N < 18446744073709551616 by omega)] at hNv
        simp only [Value.agg.injEq, Array.mk.injEq, List.cons.injEq, Value.int.injEq, true_and, and_true] at hNv
        exact ⟨hNv.1.symm, hNv.2.symm⟩
      generalize cmpI nl 9223372036854775808 = cv at *
      go_wp2_with fail
      go_region_held3 (fun w' => w'.cell? ⟨B, 0, none⟩ = some (.int .u64 0) ∧ w'.cell? ⟨B, 1, none⟩ = some (.int .u64 nl)) (first | exact num_cells hb | exact num_cells hb2 | exact num_cells hb3 | go_keep) (first | (have _t := hb2; go_at_call 90; refine (hC _).mono ?_; rintro e w3 ⟨rfl, u3⟩; have hb3 := hb2.upd u3 (fun h => h)) | (go_at_call 89; refine (wideOf _ _).mono ?_; rintro e w2 ⟨rfl, u2'⟩; have u2 := Upd.of_drew u2'; have hb2 := hb.upd u2 (fun h => h)))
      have c1 := hb3.cell 1
      simp only [List.getElem?_toArray, List.getElem?_cons_zero, List.getElem?_cons_succ] at c1
      go_wp2_with fail
      go_ret
      refine ⟨?_, (U.trans u2).trans u3⟩
      first | (rw [HS.out]; rfl) | (refine congrArg (fun z => Ending.returned (Value.int .i64 z)) ?_; rw [HS.out]; simp [IntKind.wrap_u64, IntKind.wrap_i64, wrap64]; omega)

set_option maxRecDepth 100000 in
theorem fixMul (a b : Int) (w : World) (ha : I64 a) (hb : I64 b) :
    Calls Try.prog 67 #[.int .i64 a, .int .i64 b] w fun e W' => e = .returned (.int .i64 (sat (a * b))) ∧ Upd (fun _ => False) w W' := by
  have hA := mag_bound ha
  have hB := mag_bound hb
  have hsa := fixSize a ha
  have hsb := fixSize b hb
  have hp0 : 0 ≤ mag a * mag b := Int.mul_nonneg hA.1 hB.1
  have hp1 : mag a * mag b ≤ 9223372036854775808 * 9223372036854775808 := Int.mul_le_mul hA.2 hB.2 hB.1 (by omega)
  have hmul := wideMul (mag a) (mag b) (by omega) (by omega)
  have hback := fixSigned0 (mag a * mag b) (decide (a < 0) != decide (b < 0)) false (by simp) (by unfold N128; omega)
  have HV : sat (sgn (decide (a < 0) != decide (b < 0)) (mag a * mag b)) = sat (a * b) := by
    congr 1; unfold sgn mag
    by_cases h1 : a < 0 <;> by_cases h2 : b < 0 <;> simp [h1, h2, Int.neg_mul, Int.mul_neg]
  rw [HV] at hback
  obtain ⟨sh, sl, hSS⟩ : ∃ ah al : Int, numV (mag a * mag b) = .agg #[.int .u64 ah, .int .u64 al] := ⟨_, _, rfl⟩
  rw [hSS] at hmul hback
  clear hSS HV hp0 hp1
  generalize mag a = x at *
  generalize mag b = y at *
  have HS := Lib.hid (show decide (a < 0) = decide (a < 0) from rfl)
  generalize hs : decide (a < 0) = s at *
  generalize ht : decide (b < 0) = t at *
  clear hA hB
  go_enter Try.func67, Try.ntmps67
  go_wp2_with fail
  refine (hsa _).mono ?_
  rintro e w1 ⟨rfl, rfl⟩
  go_wp2_with fail
  refine (hsb _).mono ?_
  rintro e w2 ⟨rfl, rfl⟩
  go_wp2_with fail
  refine (hmul _).mono ?_
  rintro e w3 ⟨rfl, u3⟩
  go_wp2_with fail
  refine (hback _).mono ?_
  rintro e w4 ⟨rfl, u4⟩
  go_wp2_with fail
  go_ret
  exact ⟨rfl, u3.trans u4⟩
end Go.Proofs.Yteaihgjjplgalaa
