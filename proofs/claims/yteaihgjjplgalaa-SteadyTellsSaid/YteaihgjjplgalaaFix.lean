/- Saturating sums and differences of layer 2, and the reference's: contracts, walked. -/
import Derived.Test.YteaihgjjplgalaaRows
import Derived.Test.YteaihgjjplgalaaBase
namespace Go.Proofs.Yteaihgjjplgalaa
open Go.RowKit
set_option linter.unusedVariables false
set_option linter.unusedSimpArgs false

/-- As far as numbers go. -/
def sat (x : Int) : Int := if x < -9223372036854775808 then -9223372036854775808 else if 9223372036854775807 < x then 9223372036854775807 else x
theorem sat_i64 (x : Int) : I64 (sat x) := by unfold I64 sat; split <;> (try split) <;> omega
theorem sat_id {x : Int} (h : I64 x) : sat x = x := by unfold I64 at h; unfold sat; rw [if_neg (by omega), if_neg (by omega)]

theorem fix_end (b : Bool) (w : World) : Calls Try.prog 87 #[.bool b] w fun e w' => e = .returned (.int .i64 (if b then -9223372036854775808 else 9223372036854775807)) ∧ w = w' := by
  cases b
  · go_enter Try.func87, Try.ntmps87
    go_wp2
    go_ret
    exact ⟨rfl, rfl⟩
  · go_enter Try.func87, Try.ntmps87
    go_wp2
    go_ret
    exact ⟨rfl, rfl⟩

theorem fix_sub (a b : Int) (w : World) (ha : I64 a) (hb : I64 b) : Calls Try.prog 83 #[.int .i64 a, .int .i64 b] w fun e w' => e = .returned (.int .i64 (sat (a - b))) ∧ w = w' := by
  unfold I64 at ha hb
  by_cases ho : I64 (a - b)
  · have hsat := Lib.hid (sat_id ho)
    unfold I64 at ho
    rcases Int.lt_or_le a 0 with h1 | h1
    · rcases Int.lt_or_le b 0 with h2 | h2
      · have d1 : decide (a < 0) = true := decide_eq_true (by omega)
        have d2 : decide (b < 0) = true := decide_eq_true (by omega)
        go_enter Try.func83, Try.ntmps83
        go_wp2_with fail
        go_ret
        exact ⟨by rw [hsat.out]; rfl, rfl⟩
      · have d1 : decide (a < 0) = true := decide_eq_true (by omega)
        have d2 : decide (b < 0) = false := decide_eq_false (by omega)
        have d3 : decide (a - b < 0) = true := decide_eq_true (by omega)
        go_enter Try.func83, Try.ntmps83
        go_wp2_with fail
        go_ret
        exact ⟨by rw [hsat.out]; rfl, rfl⟩
    · rcases Int.lt_or_le b 0 with h2 | h2
      · have d1 : decide (a < 0) = false := decide_eq_false (by omega)
        have d2 : decide (b < 0) = true := decide_eq_true (by omega)
        have d3 : decide (a - b < 0) = false := decide_eq_false (by omega)
        go_enter Try.func83, Try.ntmps83
        go_wp2_with fail
        go_ret
        exact ⟨by rw [hsat.out]; rfl, rfl⟩
      · have d1 : decide (a < 0) = false := decide_eq_false (by omega)
        have d2 : decide (b < 0) = false := decide_eq_false (by omega)
        go_enter Try.func83, Try.ntmps83
        go_wp2_with fail
        go_ret
        exact ⟨by rw [hsat.out]; rfl, rfl⟩
  · unfold I64 at ho
    rcases Int.lt_or_le a 0 with h1 | h1
    · have hsat := Lib.hid (show sat (a - b) = -9223372036854775808 by unfold sat; rw [if_pos (by omega)])
      have hw : 0 ≤ wrap64 (a - b) := by unfold wrap64; omega
      have d1 : decide (a < 0) = true := decide_eq_true (by omega)
      have d2 : decide (b < 0) = false := decide_eq_false (by omega)
      have d3 : decide (wrap64 (a - b) < 0) = false := decide_eq_false (by omega)
      go_enter Try.func83, Try.ntmps83
      go_wp2_with (go_at_call 87; refine (fix_end _ _).mono ?_; rintro e w' ⟨rfl, rfl⟩)
      go_ret
      exact ⟨by rw [hsat.out]; rfl, rfl⟩
    · have hsat := Lib.hid (show sat (a - b) = 9223372036854775807 by unfold sat; rw [if_neg (by omega), if_pos (by omega)])
      have hw : wrap64 (a - b) < 0 := by unfold wrap64; omega
      have d1 : decide (a < 0) = false := decide_eq_false (by omega)
      have d2 : decide (b < 0) = true := decide_eq_true (by omega)
      have d3 : decide (wrap64 (a - b) < 0) = true := decide_eq_true (by omega)
      go_enter Try.func83, Try.ntmps83
      go_wp2_with (go_at_call 87; refine (fix_end _ _).mono ?_; rintro e w' ⟨rfl, rfl⟩)
      go_ret
      exact ⟨by rw [hsat.out]; rfl, rfl⟩
theorem fix_add (a b : Int) (w : World) (ha : I64 a) (hb : I64 b) : Calls Try.prog 68 #[.int .i64 a, .int .i64 b] w fun e w' => e = .returned (.int .i64 (sat (a + b))) ∧ w = w' := by
  unfold I64 at ha hb
  by_cases ho : I64 (a + b)
  · have hsat := Lib.hid (sat_id ho)
    unfold I64 at ho
    rcases Int.lt_or_le a 0 with h1 | h1
    · rcases Int.lt_or_le b 0 with h2 | h2
      · have d1 : decide (a < 0) = true := decide_eq_true (by omega)
        have d2 : decide (b < 0) = true := decide_eq_true (by omega)
        have d3 : decide (a + b < 0) = true := decide_eq_true (by omega)
        go_enter Try.func68, Try.ntmps68
        go_wp2_with fail
        go_ret
        exact ⟨by rw [hsat.out]; rfl, rfl⟩
      · have d1 : decide (a < 0) = true := decide_eq_true (by omega)
        have d2 : decide (b < 0) = false := decide_eq_false (by omega)
        go_enter Try.func68, Try.ntmps68
        go_wp2_with fail
        go_ret
        exact ⟨by rw [hsat.out]; rfl, rfl⟩
    · rcases Int.lt_or_le b 0 with h2 | h2
      · have d1 : decide (a < 0) = false := decide_eq_false (by omega)
        have d2 : decide (b < 0) = true := decide_eq_true (by omega)
        go_enter Try.func68, Try.ntmps68
        go_wp2_with fail
        go_ret
        exact ⟨by rw [hsat.out]; rfl, rfl⟩
      · have d1 : decide (a < 0) = false := decide_eq_false (by omega)
        have d2 : decide (b < 0) = false := decide_eq_false (by omega)
        have d3 : decide (a + b < 0) = false := decide_eq_false (by omega)
        go_enter Try.func68, Try.ntmps68
        go_wp2_with fail
        go_ret
        exact ⟨by rw [hsat.out]; rfl, rfl⟩
  · unfold I64 at ho
    rcases Int.lt_or_le a 0 with h1 | h1
    · have hsat := Lib.hid (show sat (a + b) = -9223372036854775808 by unfold sat; rw [if_pos (by omega)])
      have hw : 0 ≤ wrap64 (a + b) := by unfold wrap64; omega
      have d1 : decide (a < 0) = true := decide_eq_true (by omega)
      have d2 : decide (b < 0) = true := decide_eq_true (by omega)
      have d3 : decide (wrap64 (a + b) < 0) = false := decide_eq_false (by omega)
      go_enter Try.func68, Try.ntmps68
      go_wp2_with (go_at_call 87; refine (fix_end _ _).mono ?_; rintro e w' ⟨rfl, rfl⟩)
      go_ret
      exact ⟨by rw [hsat.out]; rfl, rfl⟩
    · have hsat := Lib.hid (show sat (a + b) = 9223372036854775807 by unfold sat; rw [if_neg (by omega), if_pos (by omega)])
      have hw : wrap64 (a + b) < 0 := by unfold wrap64; omega
      have d1 : decide (a < 0) = false := decide_eq_false (by omega)
      have d2 : decide (b < 0) = false := decide_eq_false (by omega)
      have d3 : decide (wrap64 (a + b) < 0) = true := decide_eq_true (by omega)
      go_enter Try.func68, Try.ntmps68
      go_wp2_with (go_at_call 87; refine (fix_end _ _).mono ?_; rintro e w' ⟨rfl, rfl⟩)
      go_ret
      exact ⟨by rw [hsat.out]; rfl, rfl⟩
end Go.Proofs.Yteaihgjjplgalaa
