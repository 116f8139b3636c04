/- Which configs may be: a contract, walked: the last test. -/
import Derived.Test.YteaihgjjplgalaaConf2
namespace Go.Proofs.Yteaihgjjplgalaa
open Go.RowKit
set_option linter.unusedVariables false
set_option linter.unusedSimpArgs false

theorem ring_law (r : Int) (h : 2 ≤ r ∧ r ≤ 64) : (bits .and .i64 r (r - 1) != 0) = !decide (r = 2 ∨ r = 4 ∨ r = 8 ∨ r = 16 ∨ r = 32 ∨ r = 64) := by
  obtain ⟨n, rfl⟩ := Int.eq_ofNat_of_zero_le (show 0 ≤ r by omega)
  have : ∀ n : Nat, n < 65 → 2 ≤ n → (bits .and .i64 (n : Int) ((n : Int) - 1) != 0) = !decide ((n : Int) = 2 ∨ (n : Int) = 4 ∨ (n : Int) = 8 ∨ (n : Int) = 16 ∨ (n : Int) = 32 ∨ (n : Int) = 64) := by decide +kernel
  exact this n (by omega) (by omega)
set_option maxRecDepth 100000 in
set_option maxHeartbeats 4000000 in
theorem valid_good (c : ConfD) (h9 : c.nine) (w : World) :
    Calls Try.prog 44 #[.agg c.cells] w fun e W' => e = .returned (.int .i64 (if c.ok then 0 else 1)) ∧ Upd (fun _ => False) w W' := by
  obtain ⟨h1, h2, h3, h4, h5, h6, h7, h8, h9⟩ := h9
  obtain ⟨R, hR⟩ : ∃ R : Int, R = (if c.ok then 0 else 1) := ⟨_, rfl⟩
  rw [← hR]
  have HR := Lib.hid hR
  clear hR
  have b0 : Blk (w.alloc (.cells c.cells 79)) w.heap.size c.cells 79 := Blk.new _ _ _
  have u1 : Upd (fun _ => False) w (w.alloc (.cells c.cells 79)) := (Upd.refl _ _).alloc _
  have hbd := c.hb
  unfold I64 at hbd
  have hq := ring_law c.ring h9
  by_cases h10 : c.ring = 2 ∨ c.ring = 4 ∨ c.ring = 8 ∨ c.ring = 16 ∨ c.ring = 32 ∨ c.ring = 64
  · rw [decide_eq_true h10, Bool.not_true] at hq
    have HV := Lib.hid (show R = 0 by rw [HR.out, if_pos ⟨h1, h2, h3, h4, h5, h6, h7, h8, h10⟩])
    clear HR h10
    unfold ConfD.cells
    go_enter Try.func44, Try.ntmps44
    go_wp2_with (first | (go_at_call 69; refine (within_is _ _ _ true (decide_eq_true ?_) _).mono ?_; (focus (omega)); rintro e w2 ⟨rfl, rfl⟩) | (go_at_call 69; refine (within_is _ _ _ false (decide_eq_false ?_) _).mono ?_; (focus (omega)); rintro e w2 ⟨rfl, rfl⟩) | (go_at_call 70; refine (confMode_any c _).mono ?_; rintro e w2 ⟨rfl, u2⟩; have b2 := b0.upd u2 (fun h => h)) | (go_at_call 71; refine (modeRight_is _ _ _ true (decide_eq_true ?_) _).mono ?_; (focus (omega)); rintro e w3 ⟨rfl, u3⟩; have b3 := b2.upd u3 (fun h => h); obtain ⟨q0, q1, q2, q3, q4, q5, q6, q7, q8, q9, q10, q11, q12, q13, q14, q15⟩ := conf_cells b3) | (go_at_call 71; refine (modeRight_is _ _ _ false (decide_eq_false ?_) _).mono ?_; (focus (omega)); rintro e w3 ⟨rfl, u3⟩) | (go_at_call 72; refine (confPid_any c (by omega) _).mono ?_; rintro e w4 ⟨rfl, u4⟩; have b4 := b3.upd u4 (fun h => h)) | (go_at_call 73; refine (pidRight_is c true (decide_eq_true ?_) _).mono ?_; (focus (omega)); rintro e w5 ⟨rfl, u5⟩; have b5 := b4.upd u5 (fun h => h); obtain ⟨r0, r1, r2, r3, r4, r5, r6, r7, r8, r9, r10, r11, r12, r13, r14, r15⟩ := conf_cells b5) | (go_at_call 73; refine (pidRight_is c false (decide_eq_false ?_) _).mono ?_; (focus (omega)); rintro e w5 ⟨rfl, u5⟩))
    go_ret
    exact ⟨by rw [HV.out]; rfl, ((((u1.trans u2).trans u3).trans u4).trans u5)⟩
  · rw [decide_eq_false h10, Bool.not_false] at hq
    have HV := Lib.hid (show R = 1 by rw [HR.out, if_neg (fun h => h10 h.2.2.2.2.2.2.2.2)])
    clear HR h10
    unfold ConfD.cells
    go_enter Try.func44, Try.ntmps44
    go_wp2_with (first | (go_at_call 69; refine (within_is _ _ _ true (decide_eq_true ?_) _).mono ?_; (focus (omega)); rintro e w2 ⟨rfl, rfl⟩) | (go_at_call 69; refine (within_is _ _ _ false (decide_eq_false ?_) _).mono ?_; (focus (omega)); rintro e w2 ⟨rfl, rfl⟩) | (go_at_call 70; refine (confMode_any c _).mono ?_; rintro e w2 ⟨rfl, u2⟩; have b2 := b0.upd u2 (fun h => h)) | (go_at_call 71; refine (modeRight_is _ _ _ true (decide_eq_true ?_) _).mono ?_; (focus (omega)); rintro e w3 ⟨rfl, u3⟩; have b3 := b2.upd u3 (fun h => h); obtain ⟨q0, q1, q2, q3, q4, q5, q6, q7, q8, q9, q10, q11, q12, q13, q14, q15⟩ := conf_cells b3) | (go_at_call 71; refine (modeRight_is _ _ _ false (decide_eq_false ?_) _).mono ?_; (focus (omega)); rintro e w3 ⟨rfl, u3⟩) | (go_at_call 72; refine (confPid_any c (by omega) _).mono ?_; rintro e w4 ⟨rfl, u4⟩; have b4 := b3.upd u4 (fun h => h)) | (go_at_call 73; refine (pidRight_is c true (decide_eq_true ?_) _).mono ?_; (focus (omega)); rintro e w5 ⟨rfl, u5⟩; have b5 := b4.upd u5 (fun h => h); obtain ⟨r0, r1, r2, r3, r4, r5, r6, r7, r8, r9, r10, r11, r12, r13, r14, r15⟩ := conf_cells b5) | (go_at_call 73; refine (pidRight_is c false (decide_eq_false ?_) _).mono ?_; (focus (omega)); rintro e w5 ⟨rfl, u5⟩))
    go_ret
    exact ⟨by rw [HV.out]; rfl, ((((u1.trans u2).trans u3).trans u4).trans u5)⟩
theorem ok_nine {c : ConfD} (h : c.ok) : c.nine := ⟨h.1, h.2.1, h.2.2.1, h.2.2.2.1, h.2.2.2.2.1, h.2.2.2.2.2.1, h.2.2.2.2.2.2.1, h.2.2.2.2.2.2.2.1, by have := h.2.2.2.2.2.2.2.2; omega⟩
/-- VALID. -/
theorem valid_any (c : ConfD) (w : World) :
    Calls Try.prog 44 #[.agg c.cells] w fun e W' => e = .returned (.int .i64 (if c.ok then 0 else 1)) ∧ Upd (fun _ => False) w W' := by
  by_cases h : c.nine
  · exact valid_good c h w
  · rw [if_neg (fun hk => h (ok_nine hk))]
    exact valid_bad c h w
end Go.Proofs.Yteaihgjjplgalaa
