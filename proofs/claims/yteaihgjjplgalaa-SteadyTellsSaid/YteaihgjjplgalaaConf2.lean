/- Which configs may be: a contract, walked. -/
import Derived.Test.YteaihgjjplgalaaConf
namespace Go.Proofs.Yteaihgjjplgalaa
open Go.RowKit
set_option linter.unusedVariables false
set_option linter.unusedSimpArgs false

/-- a config that may be. -/
def ConfD.nine (c : ConfD) : Prop :=
  (1 ≤ c.tiers ∧ c.tiers ≤ 8) ∧ (1 ≤ c.room ∧ c.room ≤ 1024) ∧ (1 ≤ c.target ∧ c.target ≤ 1099511627776) ∧ (1 ≤ c.interval ∧ c.interval ≤ 1099511627776) ∧ (0 ≤ c.low ∧ c.low ≤ c.high ∧ 0 ≤ c.dwell) ∧ (c.target ≤ c.horizon ∧ c.horizon ≤ 1125899906842624) ∧ ((0 ≤ c.kp ∧ 0 ≤ c.ki ∧ 0 ≤ c.kd ∧ 0 ≤ c.limit) ∧ 1 ≤ c.step) ∧ (1 ≤ c.threads ∧ c.threads ≤ 16) ∧ (2 ≤ c.ring ∧ c.ring ≤ 64)
/-- a config that may be: its ring is a power of two, too. -/
def ConfD.ok (c : ConfD) : Prop :=
  (1 ≤ c.tiers ∧ c.tiers ≤ 8) ∧ (1 ≤ c.room ∧ c.room ≤ 1024) ∧ (1 ≤ c.target ∧ c.target ≤ 1099511627776) ∧ (1 ≤ c.interval ∧ c.interval ≤ 1099511627776) ∧ (0 ≤ c.low ∧ c.low ≤ c.high ∧ 0 ≤ c.dwell) ∧
  (c.target ≤ c.horizon ∧ c.horizon ≤ 1125899906842624) ∧ ((0 ≤ c.kp ∧ 0 ≤ c.ki ∧ 0 ≤ c.kd ∧ 0 ≤ c.limit) ∧ 1 ≤ c.step) ∧ (1 ≤ c.threads ∧ c.threads ≤ 16) ∧ (c.ring = 2 ∨ c.ring = 4 ∨ c.ring = 8 ∨ c.ring = 16 ∨ c.ring = 32 ∨ c.ring = 64)
instance (c : ConfD) : Decidable c.ok := by unfold ConfD.ok; exact inferInstance

theorem within_is (n l h : Int) (b : Bool) (hb : decide (l ≤ n ∧ n ≤ h) = b) (w : World) :
    Calls Try.prog 69 #[.int .i64 n, .int .i64 l, .int .i64 h] w fun e W' => e = .returned (.bool b) ∧ w = W' := by
  rw [← hb, Bool.decide_and]; exact within_any n l h w
theorem modeRight_is (h l d : Int) (b : Bool) (hb : decide (0 ≤ l ∧ l ≤ h ∧ 0 ≤ d) = b) (w : World) :
    Calls Try.prog 71 #[.agg #[.int .i64 h, .int .i64 l, .int .i64 d]] w fun e W' => e = .returned (.bool b) ∧ Upd (fun _ => False) w W' := by
  rw [← hb]; exact modeRight_any h l d w
theorem pidRight_is (c : ConfD) (b : Bool) (hb : decide ((0 ≤ c.kp ∧ 0 ≤ c.ki ∧ 0 ≤ c.kd ∧ 0 ≤ c.limit) ∧ 1 ≤ c.step ∧ 0 ≤ c.tiers * 128) = b) (w : World) :
    Calls Try.prog 73 #[c.pid] w fun e W' => e = .returned (.bool b) ∧ Upd (fun _ => False) w W' := by
  rw [← hb]; exact pidRight_any _ _ _ _ _ _ _ w

set_option maxRecDepth 100000 in
set_option maxHeartbeats 4000000 in
theorem valid_bad (c : ConfD) (hall : ¬ c.nine) (w : World) :
    Calls Try.prog 44 #[.agg c.cells] w fun e W' => e = .returned (.int .i64 1) ∧ Upd (fun _ => False) w W' := by
  have b0 : Blk (w.alloc (.cells c.cells 79)) w.heap.size c.cells 79 := Blk.new _ _ _
  have u1 : Upd (fun _ => False) w (w.alloc (.cells c.cells 79)) := (Upd.refl _ _).alloc _
  have hbd := c.hb
  unfold I64 at hbd
  by_cases h1 : 1 ≤ c.tiers ∧ c.tiers ≤ 8
  case neg =>
    clear hall
    unfold ConfD.cells
    go_enter Try.func44, Try.ntmps44
    go_wp2_with (first | (go_at_call 69; refine (within_is _ _ _ true (decide_eq_true ?_) _).mono ?_; (focus (omega)); rintro e w2 ⟨rfl, rfl⟩) | (go_at_call 69; refine (within_is _ _ _ false (decide_eq_false ?_) _).mono ?_; (focus (omega)); rintro e w2 ⟨rfl, rfl⟩) | (go_at_call 70; refine (confMode_any c _).mono ?_; rintro e w2 ⟨rfl, u2⟩; have b2 := b0.upd u2 (fun h => h)) | (go_at_call 71; refine (modeRight_is _ _ _ true (decide_eq_true ?_) _).mono ?_; (focus (omega)); rintro e w3 ⟨rfl, u3⟩; have b3 := b2.upd u3 (fun h => h); obtain ⟨q0, q1, q2, q3, q4, q5, q6, q7, q8, q9, q10, q11, q12, q13, q14, q15⟩ := conf_cells b3) | (go_at_call 71; refine (modeRight_is _ _ _ false (decide_eq_false ?_) _).mono ?_; (focus (omega)); rintro e w3 ⟨rfl, u3⟩) | (go_at_call 72; refine (confPid_any c (by omega) _).mono ?_; rintro e w4 ⟨rfl, u4⟩; have b4 := b3.upd u4 (fun h => h)) | (go_at_call 73; refine (pidRight_is c true (decide_eq_true ?_) _).mono ?_; (focus (omega)); rintro e w5 ⟨rfl, u5⟩; have b5 := b4.upd u5 (fun h => h); obtain ⟨r0, r1, r2, r3, r4, r5, r6, r7, r8, r9, r10, r11, r12, r13, r14, r15⟩ := conf_cells b5) | (go_at_call 73; refine (pidRight_is c false (decide_eq_false ?_) _).mono ?_; (focus (omega)); rintro e w5 ⟨rfl, u5⟩))
    go_ret
    exact ⟨rfl, u1⟩
  by_cases h2 : 1 ≤ c.room ∧ c.room ≤ 1024
  case neg =>
    clear hall
    unfold ConfD.cells
    go_enter Try.func44, Try.ntmps44
    go_wp2_with (first | (go_at_call 69; refine (within_is _ _ _ true (decide_eq_true ?_) _).mono ?_; (focus (omega)); rintro e w2 ⟨rfl, rfl⟩) | (go_at_call 69; refine (within_is _ _ _ false (decide_eq_false ?_) _).mono ?_; (focus (omega)); rintro e w2 ⟨rfl, rfl⟩) | (go_at_call 70; refine (confMode_any c _).mono ?_; rintro e w2 ⟨rfl, u2⟩; have b2 := b0.upd u2 (fun h => h)) | (go_at_call 71; refine (modeRight_is _ _ _ true (decide_eq_true ?_) _).mono ?_; (focus (omega)); rintro e w3 ⟨rfl, u3⟩; have b3 := b2.upd u3 (fun h => h); obtain ⟨q0, q1, q2, q3, q4, q5, q6, q7, q8, q9, q10, q11, q12, q13, q14, q15⟩ := conf_cells b3) | (go_at_call 71; refine (modeRight_is _ _ _ false (decide_eq_false ?_) _).mono ?_; (focus (omega)); rintro e w3 ⟨rfl, u3⟩) | (go_at_call 72; refine (confPid_any c (by omega) _).mono ?_; rintro e w4 ⟨rfl, u4⟩; have b4 := b3.upd u4 (fun h => h)) | (go_at_call 73; refine (pidRight_is c true (decide_eq_true ?_) _).mono ?_; (focus (omega)); rintro e w5 ⟨rfl, u5⟩; have b5 := b4.upd u5 (fun h => h); obtain ⟨r0, r1, r2, r3, r4, r5, r6, r7, r8, r9, r10, r11, r12, r13, r14, r15⟩ := conf_cells b5) | (go_at_call 73; refine (pidRight_is c false (decide_eq_false ?_) _).mono ?_; (focus (omega)); rintro e w5 ⟨rfl, u5⟩))
    go_ret
    exact ⟨rfl, u1⟩
  by_cases h3 : 1 ≤ c.target ∧ c.target ≤ 1099511627776
  case neg =>
    clear hall
    unfold ConfD.cells
    go_enter Try.func44, Try.ntmps44
    go_wp2_with (first | (go_at_call 69; refine (within_is _ _ _ true (decide_eq_true ?_) _).mono ?_; (focus (omega)); rintro e w2 ⟨rfl, rfl⟩) | (go_at_call 69; refine (within_is _ _ _ false (decide_eq_false ?_) _).mono ?_; (focus (omega)); rintro e w2 ⟨rfl, rfl⟩) | (go_at_call 70; refine (confMode_any c _).mono ?_; rintro e w2 ⟨rfl, u2⟩; have b2 := b0.upd u2 (fun h => h)) | (go_at_call 71; refine (modeRight_is _ _ _ true (decide_eq_true ?_) _).mono ?_; (focus (omega)); rintro e w3 ⟨rfl, u3⟩; have b3 := b2.upd u3 (fun h => h); obtain ⟨q0, q1, q2, q3, q4, q5, q6, q7, q8, q9, q10, q11, q12, q13, q14, q15⟩ := conf_cells b3) | (go_at_call 71; refine (modeRight_is _ _ _ false (decide_eq_false ?_) _).mono ?_; (focus (omega)); rintro e w3 ⟨rfl, u3⟩) | (go_at_call 72; refine (confPid_any c (by omega) _).mono ?_; rintro e w4 ⟨rfl, u4⟩; have b4 := b3.upd u4 (fun h => h)) | (go_at_call 73; refine (pidRight_is c true (decide_eq_true ?_) _).mono ?_; (focus (omega)); rintro e w5 ⟨rfl, u5⟩; have b5 := b4.upd u5 (fun h => h); obtain ⟨r0, r1, r2, r3, r4, r5, r6, r7, r8, r9, r10, r11, r12, r13, r14, r15⟩ := conf_cells b5) | (go_at_call 73; refine (pidRight_is c false (decide_eq_false ?_) _).mono ?_; (focus (omega)); rintro e w5 ⟨rfl, u5⟩))
    go_ret
    exact ⟨rfl, u1⟩
  by_cases h4 : 1 ≤ c.interval ∧ c.interval ≤ 1099511627776
  case neg =>
    clear hall
    unfold ConfD.cells
    go_enter Try.func44, Try.ntmps44
    go_wp2_with (first | (go_at_call 69; refine (within_is _ _ _ true (decide_eq_true ?_) _).mono ?_; (focus (omega)); rintro e w2 ⟨rfl, rfl⟩) | (go_at_call 69; refine (within_is _ _ _ false (decide_eq_false ?_) _).mono ?_; (focus (omega)); rintro e w2 ⟨rfl, rfl⟩) | (go_at_call 70; refine (confMode_any c _).mono ?_; rintro e w2 ⟨rfl, u2⟩; have b2 := b0.upd u2 (fun h => h)) | (go_at_call 71; refine (modeRight_is _ _ _ true (decide_eq_true ?_) _).mono ?_; (focus (omega)); rintro e w3 ⟨rfl, u3⟩; have b3 := b2.upd u3 (fun h => h); obtain ⟨q0, q1, q2, q3, q4, q5, q6, q7, q8, q9, q10, q11, q12, q13, q14, q15⟩ := conf_cells b3) | (go_at_call 71; refine (modeRight_is _ _ _ false (decide_eq_false ?_) _).mono ?_; (focus (omega)); rintro e w3 ⟨rfl, u3⟩) | (go_at_call 72; refine (confPid_any c (by omega) _).mono ?_; rintro e w4 ⟨rfl, u4⟩; have b4 := b3.upd u4 (fun h => h)) | (go_at_call 73; refine (pidRight_is c true (decide_eq_true ?_) _).mono ?_; (focus (omega)); rintro e w5 ⟨rfl, u5⟩; have b5 := b4.upd u5 (fun h => h); obtain ⟨r0, r1, r2, r3, r4, r5, r6, r7, r8, r9, r10, r11, r12, r13, r14, r15⟩ := conf_cells b5) | (go_at_call 73; refine (pidRight_is c false (decide_eq_false ?_) _).mono ?_; (focus (omega)); rintro e w5 ⟨rfl, u5⟩))
    go_ret
    exact ⟨rfl, u1⟩
  by_cases h5 : 0 ≤ c.low ∧ c.low ≤ c.high ∧ 0 ≤ c.dwell
  case neg =>
    clear hall
    unfold ConfD.cells
    go_enter Try.func44, Try.ntmps44
    go_wp2_with (first | (go_at_call 69; refine (within_is _ _ _ true (decide_eq_true ?_) _).mono ?_; (focus (omega)); rintro e w2 ⟨rfl, rfl⟩) | (go_at_call 69; refine (within_is _ _ _ false (decide_eq_false ?_) _).mono ?_; (focus (omega)); rintro e w2 ⟨rfl, rfl⟩) | (go_at_call 70; refine (confMode_any c _).mono ?_; rintro e w2 ⟨rfl, u2⟩; have b2 := b0.upd u2 (fun h => h)) | (go_at_call 71; refine (modeRight_is _ _ _ true (decide_eq_true ?_) _).mono ?_; (focus (omega)); rintro e w3 ⟨rfl, u3⟩; have b3 := b2.upd u3 (fun h => h); obtain ⟨q0, q1, q2, q3, q4, q5, q6, q7, q8, q9, q10, q11, q12, q13, q14, q15⟩ := conf_cells b3) | (go_at_call 71; refine (modeRight_is _ _ _ false (decide_eq_false ?_) _).mono ?_; (focus (omega)); rintro e w3 ⟨rfl, u3⟩) | (go_at_call 72; refine (confPid_any c (by omega) _).mono ?_; rintro e w4 ⟨rfl, u4⟩; have b4 := b3.upd u4 (fun h => h)) | (go_at_call 73; refine (pidRight_is c true (decide_eq_true ?_) _).mono ?_; (focus (omega)); rintro e w5 ⟨rfl, u5⟩; have b5 := b4.upd u5 (fun h => h); obtain ⟨r0, r1, r2, r3, r4, r5, r6, r7, r8, r9, r10, r11, r12, r13, r14, r15⟩ := conf_cells b5) | (go_at_call 73; refine (pidRight_is c false (decide_eq_false ?_) _).mono ?_; (focus (omega)); rintro e w5 ⟨rfl, u5⟩))
    go_ret
    exact ⟨rfl, ((u1.trans u2).trans u3)⟩
  by_cases h6 : c.target ≤ c.horizon ∧ c.horizon ≤ 1125899906842624
  case neg =>
    clear hall
    unfold ConfD.cells
    go_enter Try.func44, Try.ntmps44
    go_wp2_with (first | (go_at_call 69; refine (within_is _ _ _ true (decide_eq_true ?_) _).mono ?_; (focus (omega)); rintro e w2 ⟨rfl, rfl⟩) | (go_at_call 69; refine (within_is _ _ _ false (decide_eq_false ?_) _).mono ?_; (focus (omega)); rintro e w2 ⟨rfl, rfl⟩) | (go_at_call 70; refine (confMode_any c _).mono ?_; rintro e w2 ⟨rfl, u2⟩; have b2 := b0.upd u2 (fun h => h)) | (go_at_call 71; refine (modeRight_is _ _ _ true (decide_eq_true ?_) _).mono ?_; (focus (omega)); rintro e w3 ⟨rfl, u3⟩; have b3 := b2.upd u3 (fun h => h); obtain ⟨q0, q1, q2, q3, q4, q5, q6, q7, q8, q9, q10, q11, q12, q13, q14, q15⟩ := conf_cells b3) | (go_at_call 71; refine (modeRight_is _ _ _ false (decide_eq_false ?_) _).mono ?_; (focus (omega)); rintro e w3 ⟨rfl, u3⟩) | (go_at_call 72; refine (confPid_any c (by omega) _).mono ?_; rintro e w4 ⟨rfl, u4⟩; have b4 := b3.upd u4 (fun h => h)) | (go_at_call 73; refine (pidRight_is c true (decide_eq_true ?_) _).mono ?_; (focus (omega)); rintro e w5 ⟨rfl, u5⟩; have b5 := b4.upd u5 (fun h => h); obtain ⟨r0, r1, r2, r3, r4, r5, r6, r7, r8, r9, r10, r11, r12, r13, r14, r15⟩ := conf_cells b5) | (go_at_call 73; refine (pidRight_is c false (decide_eq_false ?_) _).mono ?_; (focus (omega)); rintro e w5 ⟨rfl, u5⟩))
    go_ret
    exact ⟨rfl, ((u1.trans u2).trans u3)⟩
  by_cases h7 : (0 ≤ c.kp ∧ 0 ≤ c.ki ∧ 0 ≤ c.kd ∧ 0 ≤ c.limit) ∧ 1 ≤ c.step
  case neg =>
    clear hall
    unfold ConfD.cells
    go_enter Try.func44, Try.ntmps44
    go_wp2_with (first | (go_at_call 69; refine (within_is _ _ _ true (decide_eq_true ?_) _).mono ?_; (focus (omega)); rintro e w2 ⟨rfl, rfl⟩) | (go_at_call 69; refine (within_is _ _ _ false (decide_eq_false ?_) _).mono ?_; (focus (omega)); rintro e w2 ⟨rfl, rfl⟩) | (go_at_call 70; refine (confMode_any c _).mono ?_; rintro e w2 ⟨rfl, u2⟩; have b2 := b0.upd u2 (fun h => h)) | (go_at_call 71; refine (modeRight_is _ _ _ true (decide_eq_true ?_) _).mono ?_; (focus (omega)); rintro e w3 ⟨rfl, u3⟩; have b3 := b2.upd u3 (fun h => h); obtain ⟨q0, q1, q2, q3, q4, q5, q6, q7, q8, q9, q10, q11, q12, q13, q14, q15⟩ := conf_cells b3) | (go_at_call 71; refine (modeRight_is _ _ _ false (decide_eq_false ?_) _).mono ?_; (focus (omega)); rintro e w3 ⟨rfl, u3⟩) | (go_at_call 72; refine (confPid_any c (by omega) _).mono ?_; rintro e w4 ⟨rfl, u4⟩; have b4 := b3.upd u4 (fun h => h)) | (go_at_call 73; refine (pidRight_is c true (decide_eq_true ?_) _).mono ?_; (focus (omega)); rintro e w5 ⟨rfl, u5⟩; have b5 := b4.upd u5 (fun h => h); obtain ⟨r0, r1, r2, r3, r4, r5, r6, r7, r8, r9, r10, r11, r12, r13, r14, r15⟩ := conf_cells b5) | (go_at_call 73; refine (pidRight_is c false (decide_eq_false ?_) _).mono ?_; (focus (omega)); rintro e w5 ⟨rfl, u5⟩))
    go_ret
    exact ⟨rfl, ((((u1.trans u2).trans u3).trans u4).trans u5)⟩
  by_cases h8 : 1 ≤ c.threads ∧ c.threads ≤ 16
  case neg =>
    clear hall
    unfold ConfD.cells
    go_enter Try.func44, Try.ntmps44
    go_wp2_with (first | (go_at_call 69; refine (within_is _ _ _ true (decide_eq_true ?_) _).mono ?_; (focus (omega)); rintro e w2 ⟨rfl, rfl⟩) | (go_at_call 69; refine (within_is _ _ _ false (decide_eq_false ?_) _).mono ?_; (focus (omega)); rintro e w2 ⟨rfl, rfl⟩) | (go_at_call 70; refine (confMode_any c _).mono ?_; rintro e w2 ⟨rfl, u2⟩; have b2 := b0.upd u2 (fun h => h)) | (go_at_call 71; refine (modeRight_is _ _ _ true (decide_eq_true ?_) _).mono ?_; (focus (omega)); rintro e w3 ⟨rfl, u3⟩; have b3 := b2.upd u3 (fun h => h); obtain ⟨q0, q1, q2, q3, q4, q5, q6, q7, q8, q9, q10, q11, q12, q13, q14, q15⟩ := conf_cells b3) | (go_at_call 71; refine (modeRight_is _ _ _ false (decide_eq_false ?_) _).mono ?_; (focus (omega)); rintro e w3 ⟨rfl, u3⟩) | (go_at_call 72; refine (confPid_any c (by omega) _).mono ?_; rintro e w4 ⟨rfl, u4⟩; have b4 := b3.upd u4 (fun h => h)) | (go_at_call 73; refine (pidRight_is c true (decide_eq_true ?_) _).mono ?_; (focus (omega)); rintro e w5 ⟨rfl, u5⟩; have b5 := b4.upd u5 (fun h => h); obtain ⟨r0, r1, r2, r3, r4, r5, r6, r7, r8, r9, r10, r11, r12, r13, r14, r15⟩ := conf_cells b5) | (go_at_call 73; refine (pidRight_is c false (decide_eq_false ?_) _).mono ?_; (focus (omega)); rintro e w5 ⟨rfl, u5⟩))
    go_ret
    exact ⟨rfl, ((((u1.trans u2).trans u3).trans u4).trans u5)⟩
  by_cases h9 : 2 ≤ c.ring ∧ c.ring ≤ 64
  case neg =>
    clear hall
    unfold ConfD.cells
    go_enter Try.func44, Try.ntmps44
    go_wp2_with (first | (go_at_call 69; refine (within_is _ _ _ true (decide_eq_true ?_) _).mono ?_; (focus (omega)); rintro e w2 ⟨rfl, rfl⟩) | (go_at_call 69; refine (within_is _ _ _ false (decide_eq_false ?_) _).mono ?_; (focus (omega)); rintro e w2 ⟨rfl, rfl⟩) | (go_at_call 70; refine (confMode_any c _).mono ?_; rintro e w2 ⟨rfl, u2⟩; have b2 := b0.upd u2 (fun h => h)) | (go_at_call 71; refine (modeRight_is _ _ _ true (decide_eq_true ?_) _).mono ?_; (focus (omega)); rintro e w3 ⟨rfl, u3⟩; have b3 := b2.upd u3 (fun h => h); obtain ⟨q0, q1, q2, q3, q4, q5, q6, q7, q8, q9, q10, q11, q12, q13, q14, q15⟩ := conf_cells b3) | (go_at_call 71; refine (modeRight_is _ _ _ false (decide_eq_false ?_) _).mono ?_; (focus (omega)); rintro e w3 ⟨rfl, u3⟩) | (go_at_call 72; refine (confPid_any c (by omega) _).mono ?_; rintro e w4 ⟨rfl, u4⟩; have b4 := b3.upd u4 (fun h => h)) | (go_at_call 73; refine (pidRight_is c true (decide_eq_true ?_) _).mono ?_; (focus (omega)); rintro e w5 ⟨rfl, u5⟩; have b5 := b4.upd u5 (fun h => h); obtain ⟨r0, r1, r2, r3, r4, r5, r6, r7, r8, r9, r10, r11, r12, r13, r14, r15⟩ := conf_cells b5) | (go_at_call 73; refine (pidRight_is c false (decide_eq_false ?_) _).mono ?_; (focus (omega)); rintro e w5 ⟨rfl, u5⟩))
    go_ret
    exact ⟨rfl, ((((u1.trans u2).trans u3).trans u4).trans u5)⟩
  exact absurd ⟨h1, h2, h3, h4, h5, h6, h7, h8, h9⟩ hall
end Go.Proofs.Yteaihgjjplgalaa
