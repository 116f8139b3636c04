/- The config (layer 13): which may be; its parts: contracts, walked. -/
import Derived.Test.YteaihgjjplgalaaNum2
import Derived.Deep.RegionHeld3
namespace Go.Proofs.Yteaihgjjplgalaa
open Go.RowKit
set_option linter.unusedVariables false
set_option linter.unusedSimpArgs false

/-- A config's numbers. -/
structure ConfD where
  tiers : Int
  room : Int
  target : Int
  interval : Int
  high : Int
  low : Int
  dwell : Int
  horizon : Int
  sp : Int
  kp : Int
  ki : Int
  kd : Int
  limit : Int
  step : Int
  threads : Int
  ring : Int
  hb : I64 tiers ∧ I64 room ∧ I64 target ∧ I64 interval ∧ I64 high ∧ I64 low ∧ I64 dwell ∧ I64 horizon ∧ I64 sp ∧ I64 kp ∧ I64 ki ∧ I64 kd ∧ I64 limit ∧ I64 step ∧ I64 threads ∧ I64 ring
def ConfD.cells (c : ConfD) : Array Value := #[.int .i64 c.tiers, .int .i64 c.room, .int .i64 c.target, .int .i64 c.interval, .int .i64 c.high, .int .i64 c.low, .int .i64 c.dwell, .int .i64 c.horizon, .int .i64 c.sp, .int .i64 c.kp, .int .i64 c.ki, .int .i64 c.kd, .int .i64 c.limit, .int .i64 c.step, .int .i64 c.threads, .int .i64 c.ring]

set_option maxRecDepth 100000 in
theorem within_any (n l h : Int) (w : World) :
    Calls Try.prog 69 #[.int .i64 n, .int .i64 l, .int .i64 h] w fun e W' => e = .returned (.bool (decide (l ≤ n) && decide (n ≤ h))) ∧ w = W' := by
  by_cases h1 : l ≤ n
  · have d1 : decide (l ≤ n) = true := decide_eq_true h1
    go_enter Try.func69, Try.ntmps69
    go_wp2_with fail
    go_ret
    exact ⟨by first | rfl | (simp [d1]; done) | simp, rfl⟩
  · have d1 : decide (l ≤ n) = false := decide_eq_false h1
    go_enter Try.func69, Try.ntmps69
    go_wp2_with fail
    go_ret
    exact ⟨by first | rfl | (simp [d1]; done) | simp, rfl⟩
set_option maxRecDepth 100000 in
theorem most_any (c : ConfD) (ht : 1 ≤ c.tiers ∧ c.tiers ≤ 8) (w : World) :
    Calls Try.prog 52 #[.agg c.cells] w fun e W' => e = .returned (.int .i64 (c.tiers * 128)) ∧ Upd (fun _ => False) w W' := by
  unfold ConfD.cells
  go_enter Try.func52, Try.ntmps52
  go_wp2_with fail
  go_ret
  exact ⟨rfl, (Upd.refl _ _).alloc _⟩
set_option maxRecDepth 100000 in
theorem confMode_any (c : ConfD) (w : World) :
    Calls Try.prog 70 #[.agg c.cells] w fun e W' => e = .returned (.agg #[.int .i64 c.high, .int .i64 c.low, .int .i64 c.dwell]) ∧ Upd (fun _ => False) w W' := by
  unfold ConfD.cells
  go_enter Try.func70, Try.ntmps70
  go_wp2_with fail
  (try simp only [Exit.inBlock, Exit.then])
  refine bodyPost_ret (results_cell_row rfl _ _ (w.heap.size + 1) 153 #[.int .i64 c.high, .int .i64 c.low, .int .i64 c.dwell] (0, 0) _ rfl (by show hp _ _ = _; simp (disch := first | omega | (simp only [sz_setCell, sz_alloc, sz_drew, sz_drewN]; done) | (simp only [sz_setCell, sz_alloc, sz_drew, sz_drewN]; omega)) [Blk, hp_same, hp_ne, hp_alloc, hp_new', hp_drew, hp_drewN, Obj.put]) Try.underlying153 rfl (by kernel_rfl)) rfl ?_
  exact ⟨rfl, ((Upd.refl _ _).alloc _).alloc _⟩
set_option maxRecDepth 100000 in
theorem modeRight_any (h l d : Int) (w : World) :
    Calls Try.prog 71 #[.agg #[.int .i64 h, .int .i64 l, .int .i64 d]] w fun e W' => e = .returned (.bool (decide (0 ≤ l ∧ l ≤ h ∧ 0 ≤ d))) ∧ Upd (fun _ => False) w W' := by
  obtain ⟨R, hR⟩ : ∃ R : Bool, R = decide (0 ≤ l ∧ l ≤ h ∧ 0 ≤ d) := ⟨_, rfl⟩
  rw [← hR]
  by_cases c1 : 0 ≤ l
  · by_cases c2 : l ≤ h
    · have HR := Lib.hid (show R = decide (0 ≤ d) by rw [hR]; simp [c1, c2])
      have d1 : decide (0 ≤ l) = true := decide_eq_true c1
      have d2 : decide (l ≤ h) = true := decide_eq_true c2
      clear hR
      go_enter Try.func71, Try.ntmps71
      go_wp2_with fail
      go_ret
      exact ⟨by rw [HR.out]; rfl, (Upd.refl _ _).alloc _⟩
    · have HR := Lib.hid (show R = false by rw [hR]; simp [c1, c2])
      have d1 : decide (0 ≤ l) = true := decide_eq_true c1
      have d2 : decide (l ≤ h) = false := decide_eq_false c2
      clear hR
      go_enter Try.func71, Try.ntmps71
      go_wp2_with fail
      go_ret
      exact ⟨by rw [HR.out]; rfl, (Upd.refl _ _).alloc _⟩
  · have HR := Lib.hid (show R = false by rw [hR]; simp [c1])
    have d1 : decide (0 ≤ l) = false := decide_eq_false c1
    clear hR
    go_enter Try.func71, Try.ntmps71
    go_wp2_with fail
    go_ret
    exact ⟨by rw [HR.out]; rfl, (Upd.refl _ _).alloc _⟩
theorem conf_cells {w : World} {b : Nat} {c : ConfD} {T : TypeId} (h : Blk w b c.cells T) : w.cell? ⟨b, 0, none⟩ = some (.int .i64 c.tiers) ∧ w.cell? ⟨b, 1, none⟩ = some (.int .i64 c.room) ∧ w.cell? ⟨b, 2, none⟩ = some (.int .i64 c.target) ∧ w.cell? ⟨b, 3, none⟩ = some (.int .i64 c.interval) ∧ w.cell? ⟨b, 4, none⟩ = some (.int .i64 c.high) ∧ w.cell? ⟨b, 5, none⟩ = some (.int .i64 c.low) ∧ w.cell? ⟨b, 6, none⟩ = some (.int .i64 c.dwell) ∧ w.cell? ⟨b, 7, none⟩ = some (.int .i64 c.horizon) ∧ w.cell? ⟨b, 8, none⟩ = some (.int .i64 c.sp) ∧ w.cell? ⟨b, 9, none⟩ = some (.int .i64 c.kp) ∧ w.cell? ⟨b, 10, none⟩ = some (.int .i64 c.ki) ∧ w.cell? ⟨b, 11, none⟩ = some (.int .i64 c.kd) ∧ w.cell? ⟨b, 12, none⟩ = some (.int .i64 c.limit) ∧ w.cell? ⟨b, 13, none⟩ = some (.int .i64 c.step) ∧ w.cell? ⟨b, 14, none⟩ = some (.int .i64 c.threads) ∧ w.cell? ⟨b, 15, none⟩ = some (.int .i64 c.ring) :=
  ⟨h.cell 0, h.cell 1, h.cell 2, h.cell 3, h.cell 4, h.cell 5, h.cell 6, h.cell 7, h.cell 8, h.cell 9, h.cell 10, h.cell 11, h.cell 12, h.cell 13, h.cell 14, h.cell 15⟩
theorem seven {w : World} {b : Nat} {a0 a1 a2 a3 a4 a5 a6 : Value} {T : TypeId} (h : Blk w b #[a0, a1, a2, a3, a4, a5, a6] T) : (w.cell? ⟨b, 0, none⟩ = some a0 ∧ w.cell? ⟨b, 1, none⟩ = some a1 ∧ w.cell? ⟨b, 2, none⟩ = some a2 ∧ w.cell? ⟨b, 3, none⟩ = some a3 ∧ w.cell? ⟨b, 4, none⟩ = some a4 ∧ w.cell? ⟨b, 5, none⟩ = some a5 ∧ w.cell? ⟨b, 6, none⟩ = some a6) ∧
    w.frozen? ⟨b, 0, none⟩ = false ∧ w.frozen? ⟨b, 1, none⟩ = false ∧ w.frozen? ⟨b, 2, none⟩ = false ∧ w.frozen? ⟨b, 3, none⟩ = false ∧ w.frozen? ⟨b, 4, none⟩ = false ∧ w.frozen? ⟨b, 5, none⟩ = false ∧ w.frozen? ⟨b, 6, none⟩ = false :=
  ⟨⟨h.cell 0, h.cell 1, h.cell 2, h.cell 3, h.cell 4, h.cell 5, h.cell 6⟩, h.frozen 0, h.frozen 1, h.frozen 2, h.frozen 3, h.frozen 4, h.frozen 5, h.frozen 6⟩
def ConfD.pid (c : ConfD) : Value := .agg #[.int .i64 c.sp, .int .i64 c.kp, .int .i64 c.ki, .int .i64 c.kd, .int .i64 c.limit, .int .i64 c.step, .int .i64 (c.tiers * 128)]
set_option maxRecDepth 100000 in
set_option maxHeartbeats 1000000 in
theorem confPid_any (c : ConfD) (ht : 1 ≤ c.tiers ∧ c.tiers ≤ 8) (w : World) :
    Calls Try.prog 72 #[.agg c.cells] w fun e W' => e = .returned c.pid ∧ Upd (fun _ => False) w W' := by
  have hM := most_any c ht
  unfold ConfD.pid
  have b0 : Blk ((w.alloc (.cells c.cells 79)).alloc (.cells #[.int .i64 0, .int .i64 0, .int .i64 0, .int .i64 0, .int .i64 0, .int .i64 0, .int .i64 0] 156)) w.heap.size c.cells 79 := by simp (disch := first | omega | (simp only [sz_setCell, sz_alloc, sz_drew, sz_drewN]; done) | (simp only [sz_setCell, sz_alloc, sz_drew, sz_drewN]; omega)) [Blk, hp_same, hp_ne, hp_alloc, hp_new', hp_drew, hp_drewN, Obj.put]
  have b1 : Blk ((w.alloc (.cells c.cells 79)).alloc (.cells #[.int .i64 0, .int .i64 0, .int .i64 0, .int .i64 0, .int .i64 0, .int .i64 0, .int .i64 0] 156)) (w.heap.size + 1) #[.int .i64 0, .int .i64 0, .int .i64 0, .int .i64 0, .int .i64 0, .int .i64 0, .int .i64 0] 156 := by simp (disch := first | omega | (simp only [sz_setCell, sz_alloc, sz_drew, sz_drewN]; done) | (simp only [sz_setCell, sz_alloc, sz_drew, sz_drewN]; omega)) [Blk, hp_same, hp_ne, hp_alloc, hp_new', hp_drew, hp_drewN, Obj.put]
  have u1 : Upd (fun _ => False) w _ := ((Upd.refl _ w).alloc (.cells c.cells 79)).alloc (.cells #[.int .i64 0, .int .i64 0, .int .i64 0, .int .i64 0, .int .i64 0, .int .i64 0, .int .i64 0] 156)
  go_enter Try.func72, Try.ntmps72
  go_wp2_with fail
  generalize (w.alloc (.cells c.cells 79)).alloc (.cells #[.int .i64 0, .int .i64 0, .int .i64 0, .int .i64 0, .int .i64 0, .int .i64 0, .int .i64 0] 156) = w1 at *
  have HW := Lib.hid (show w.heap.size = w.heap.size from rfl)
  generalize hB : w.heap.size = B at *
  clear HW
  go_region_held3 (fun w' => w'.cell? ⟨B, 0, none⟩ = some (.int .i64 c.tiers) ∧ w'.cell? ⟨B, 1, none⟩ = some (.int .i64 c.room) ∧ w'.cell? ⟨B, 2, none⟩ = some (.int .i64 c.target) ∧ w'.cell? ⟨B, 3, none⟩ = some (.int .i64 c.interval) ∧ w'.cell? ⟨B, 4, none⟩ = some (.int .i64 c.high) ∧ w'.cell? ⟨B, 5, none⟩ = some (.int .i64 c.low) ∧ w'.cell? ⟨B, 6, none⟩ = some (.int .i64 c.dwell) ∧ w'.cell? ⟨B, 7, none⟩ = some (.int .i64 c.horizon) ∧ w'.cell? ⟨B, 8, none⟩ = some (.int .i64 c.sp) ∧ w'.cell? ⟨B, 9, none⟩ = some (.int .i64 c.kp) ∧ w'.cell? ⟨B, 10, none⟩ = some (.int .i64 c.ki) ∧ w'.cell? ⟨B, 11, none⟩ = some (.int .i64 c.kd) ∧ w'.cell? ⟨B, 12, none⟩ = some (.int .i64 c.limit) ∧ w'.cell? ⟨B, 13, none⟩ = some (.int .i64 c.step) ∧ w'.cell? ⟨B, 14, none⟩ = some (.int .i64 c.threads) ∧ w'.cell? ⟨B, 15, none⟩ = some (.int .i64 c.ring)) (first | (refine conf_cells (b := B) (T := 79) ?_; show hp _ B = _; simp (disch := first | omega | (simp only [sz_setCell, sz_alloc, sz_drew, sz_drewN]; done) | (simp only [sz_setCell, sz_alloc, sz_drew, sz_drewN]; omega)) [Blk, hp_same, hp_ne, hp_alloc, hp_new', hp_drew, hp_drewN, Obj.put, show hp w1 B = _ from b0]; done) | (refine conf_cells (b := B) (T := 79) ?_; show hp _ B = _; simp (disch := first | omega | (simp only [sz_setCell, sz_alloc, sz_drew, sz_drewN]; done) | (simp only [sz_setCell, sz_alloc, sz_drew, sz_drewN]; omega)) [Blk, hp_same, hp_ne, hp_alloc, hp_new', hp_drew, hp_drewN, Obj.put, show hp w2 B = _ from b0']; done)) (first | (go_at_call 52; refine (hM _).mono ?_; rintro e w2 ⟨rfl, u2'⟩; have u2 := Upd.of_drew u2'; have b0' := b0.upd u2 (fun h => h); have b1' := b1.upd u2 (fun h => h); obtain ⟨⟨y0, y1, y2, y3, y4, y5, y6⟩, z0, z1, z2, z3, z4, z5, z6⟩ := seven b1'))
  go_wp2_with fail
  (try simp only [Exit.inBlock, Exit.then])
  refine bodyPost_ret (results_cell_row rfl _ _ (B + 1) 156 #[.int .i64 c.sp, .int .i64 c.kp, .int .i64 c.ki, .int .i64 c.kd, .int .i64 c.limit, .int .i64 c.step, .int .i64 (c.tiers * 128)] (0, 0) _ rfl (by show hp _ (B + 1) = _; simp (disch := first | omega | (simp only [sz_setCell, sz_alloc, sz_drew, sz_drewN]; done) | (simp only [sz_setCell, sz_alloc, sz_drew, sz_drewN]; omega)) [Blk, hp_same, hp_ne, hp_alloc, hp_new', hp_drew, hp_drewN, Obj.put, show hp w2 (B + 1) = _ from b1']) Try.underlying156 rfl (by kernel_rfl)) rfl ?_
  refine ⟨rfl, ?_⟩
  repeat (refine Upd.setCell ?_ _ _ (.inr (by show w.heap.size ≤ B + 1; omega)))
  exact u1.trans u2
theorem run_min4 (ts : Array TypeId) (t : TypeId) (x y z u : Int) (P : Program) : ∃ m, (∀ w, (Builtin.min_ ts t #[.int .i64 x, .int .i64 y, .int .i64 z, .int .i64 u]).run P w = .ok (.int .i64 m) w) ∧ (0 ≤ m ↔ 0 ≤ x ∧ 0 ≤ y ∧ 0 ≤ z ∧ 0 ≤ u) := by
  refine ⟨if u < (if z < (if y < x then y else x) then z else (if y < x then y else x)) then u else (if z < (if y < x then y else x) then z else (if y < x then y else x)), ?_, ?_⟩
  · intro w
    simp only [Builtin.min_, List.foldlM, List.foldlM_cons, List.foldlM_nil, bind_pure]
    simp [Builtin.min2]
    repeat' split
    all_goals rfl
  · split <;> (try split) <;> (try split) <;> (try split) <;> omega
set_option maxRecDepth 100000 in
theorem pidRight_any (sp kp ki kd li st mo : Int) (w : World) :
    Calls Try.prog 73 #[.agg #[.int .i64 sp, .int .i64 kp, .int .i64 ki, .int .i64 kd, .int .i64 li, .int .i64 st, .int .i64 mo]] w fun e W' => e = .returned (.bool (decide ((0 ≤ kp ∧ 0 ≤ ki ∧ 0 ≤ kd ∧ 0 ≤ li) ∧ 1 ≤ st ∧ 0 ≤ mo))) ∧ Upd (fun _ => False) w W' := by
  obtain ⟨m, hm, hme⟩ := run_min4 #[77, 77, 77, 77] 77 kp ki kd li Try.prog
  obtain ⟨R, hR⟩ : ∃ R : Bool, R = decide ((0 ≤ kp ∧ 0 ≤ ki ∧ 0 ≤ kd ∧ 0 ≤ li) ∧ 1 ≤ st ∧ 0 ≤ mo) := ⟨_, rfl⟩
  rw [← hR]
  rw [show decide ((0 ≤ kp ∧ 0 ≤ ki ∧ 0 ≤ kd ∧ 0 ≤ li) ∧ 1 ≤ st ∧ 0 ≤ mo) = decide (0 ≤ m ∧ 1 ≤ st ∧ 0 ≤ mo) by rw [decide_eq_decide, hme]] at hR
  clear hme
  by_cases c1 : 0 ≤ m
  · by_cases c2 : 1 ≤ st
    · have HR := Lib.hid (show R = decide (0 ≤ mo) by rw [hR]; simp [c1, c2])
      have d1 : decide (0 ≤ m) = true := decide_eq_true c1
      have d2 : decide (1 ≤ st) = true := decide_eq_true c2
      clear hR
      go_enter Try.func73, Try.ntmps73
      go_wp2_with fail
      go_ret
      exact ⟨by rw [HR.out]; rfl, (Upd.refl _ _).alloc _⟩
    · have HR := Lib.hid (show R = false by rw [hR]; simp [c1, c2])
      have d1 : decide (0 ≤ m) = true := decide_eq_true c1
      have d2 : decide (1 ≤ st) = false := decide_eq_false c2
      clear hR
      go_enter Try.func73, Try.ntmps73
      go_wp2_with fail
      go_ret
      exact ⟨by rw [HR.out]; rfl, (Upd.refl _ _).alloc _⟩
  · have HR := Lib.hid (show R = false by rw [hR]; simp [c1])
    have d1 : decide (0 ≤ m) = false := decide_eq_false c1
    clear hR
    go_enter Try.func73, Try.ntmps73
    go_wp2_with fail
    go_ret
    exact ⟨by rw [HR.out]; rfl, (Upd.refl _ _).alloc _⟩
end Go.Proofs.Yteaihgjjplgalaa
