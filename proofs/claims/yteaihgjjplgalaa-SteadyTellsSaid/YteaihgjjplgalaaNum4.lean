/- The reference's saturating numbers (layer 2): contracts, walked. -/
import Derived.Test.YteaihgjjplgalaaNum3
namespace Go.Proofs.Yteaihgjjplgalaa
open Go.RowKit
set_option linter.unusedVariables false
set_option linter.unusedSimpArgs false

def sgn (t : Bool) (n : Int) : Int := if t then -n else n
/-- the size of a number. -/
def mag (a : Int) : Int := if a < 0 then -a else a
theorem mag_bound {a : Int} (h : I64 a) : 0 ≤ mag a ∧ mag a ≤ 9223372036854775808 := by unfold I64 at h; unfold mag; split <;> omega
theorem numV_small {a : Int} (h : 0 ≤ a ∧ a < 18446744073709551616) : numV a = .agg #[.int .u64 0, .int .u64 a] := by
  unfold numV; rw [show a / 18446744073709551616 = 0 by omega, show a % 18446744073709551616 = a by omega]

set_option maxRecDepth 100000 in
theorem size_any (a : Int) (ha : I64 a) (w : World) :
    Calls Try.prog 58 #[.int .i64 a] w fun e W' => e = .returned (.tuple #[numV (mag a), .bool (decide (a < 0))]) ∧ Upd (fun _ => False) w W' := by
  have hb := mag_bound ha
  rw [numV_small (by omega)]
  unfold I64 at ha
  by_cases h : 0 ≤ a
  · have HM := Lib.hid (show mag a = a by unfold mag; rw [if_neg (by omega)])
    have HD := Lib.hid (show decide (a < 0) = false from decide_eq_false (by omega))
    have hd : decide (0 ≤ a) = true := decide_eq_true h
    clear hb
    go_enter Try.func58, Try.ntmps58
    go_wp2_with fail
    (try simp only [Exit.inBlock, Exit.then])
    refine bodyPost_ret (results_cell_tmp rfl _ _ w.heap.size 137 #[.int .u64 0, .int .u64 a] (0, 0) _ rfl (by show hp _ _ = _; simp (disch := first | omega | (simp only [sz_setCell, sz_alloc, sz_drew, sz_drewN]; done) | (simp only [sz_setCell, sz_alloc, sz_drew, sz_drewN]; omega)) [Blk, hp_same, hp_ne, hp_alloc, hp_new', hp_drew, hp_drewN, Obj.put]) Try.underlying137 rfl (by kernel_rfl)) rfl ?_
    exact ⟨by rw [HM.out]; first | rfl | (rw [HD.out]; rfl), (Upd.refl _ w).alloc _⟩
  · have HM := Lib.hid (show mag a = -(a + 1) + 1 by unfold mag; rw [if_pos (by omega)]; omega)
    have HD := Lib.hid (show decide (a < 0) = true from decide_eq_true (by omega))
    have hd : decide (0 ≤ a) = false := decide_eq_false h
    clear hb
    go_enter Try.func58, Try.ntmps58
    go_wp2_with fail
    (try simp only [Exit.inBlock, Exit.then])
    refine bodyPost_ret (results_cell_tmp rfl _ _ w.heap.size 137 #[.int .u64 0, .int .u64 (-(a + 1) + 1)] (0, 0) _ rfl (by show hp _ _ = _; simp (disch := first | omega | (simp only [sz_setCell, sz_alloc, sz_drew, sz_drewN]; done) | (simp only [sz_setCell, sz_alloc, sz_drew, sz_drewN]; omega)) [Blk, hp_same, hp_ne, hp_alloc, hp_new', hp_drew, hp_drewN, Obj.put]) Try.underlying137 rfl (by kernel_rfl)) rfl ?_
    exact ⟨by rw [HM.out]; first | rfl | (rw [HD.out]; rfl), (Upd.refl _ w).alloc _⟩

set_option maxRecDepth 100000 in
theorem back_any (n : Int) (t : Bool) (hn : N128 n) (w : World) :
    Calls Try.prog 60 #[numV n, .bool t] w fun e W' => e = .returned (.int .i64 (sat (sgn t n))) ∧ Upd (fun _ => False) w W' := by
  unfold N128 at hn
  by_cases h1 : n / 18446744073709551616 > 0
  · have HS := Lib.hid (show sat (sgn t n) = (if t then -9223372036854775808 else 9223372036854775807) by unfold sat sgn; cases t <;> simp <;> omega)
    unfold numV
    have hl : 0 ≤ n % 18446744073709551616 ∧ n % 18446744073709551616 < 18446744073709551616 := by omega
    generalize n / 18446744073709551616 = nh at *
    generalize n % 18446744073709551616 = nl at *
    have hd : decide (0 < nh) = true := decide_eq_true h1
    cases t
    · go_enter Try.func60, Try.ntmps60
      go_wp2_with fail
      go_ret
      exact ⟨by rw [HS.out]; rfl, (Upd.refl _ w).alloc _⟩
    · go_enter Try.func60, Try.ntmps60
      go_wp2_with fail
      go_ret
      exact ⟨by rw [HS.out]; rfl, (Upd.refl _ w).alloc _⟩
  · have hlt : 0 ≤ n ∧ n < 18446744073709551616 := by omega
    rw [numV_small hlt]
    by_cases h2 : n ≥ 9223372036854775808
    · have HS := Lib.hid (show sat (sgn t n) = (if t then -9223372036854775808 else 9223372036854775807) by unfold sat sgn; cases t <;> simp <;> omega)
      have hd : decide (9223372036854775808 ≤ n) = true := decide_eq_true h2
      cases t
      · go_enter Try.func60, Try.ntmps60
        go_wp2_with fail
        go_ret
        exact ⟨by rw [HS.out]; rfl, (Upd.refl _ w).alloc _⟩
      · go_enter Try.func60, Try.ntmps60
        go_wp2_with fail
        go_ret
        exact ⟨by rw [HS.out]; rfl, (Upd.refl _ w).alloc _⟩
    · have HS := Lib.hid (show sat (sgn t n) = (if t then -n else n) from sat_id (by unfold I64 sgn; cases t <;> simp <;> omega))
      have hd : decide (9223372036854775808 ≤ n) = false := decide_eq_false h2
      cases t
      · go_enter Try.func60, Try.ntmps60
        go_wp2_with fail
        go_ret
        exact ⟨by rw [HS.out]; rfl, (Upd.refl _ w).alloc _⟩
      · go_enter Try.func60, Try.ntmps60
        go_wp2_with fail
        go_ret
        exact ⟨by rw [HS.out]; rfl, (Upd.refl _ w).alloc _⟩

set_option maxRecDepth 100000 in
theorem r2add (a b : Int) (w : World) (ha : I64 a) (hb : I64 b) :
    Calls Try.prog 31 #[.int .i64 a, .int .i64 b] w fun e W' => e = .returned (.int .i64 (sat (a + b))) ∧ Upd (fun _ => False) w W' := by
  have hA := mag_bound ha
  have hB := mag_bound hb
  have hNa : N128 (mag a) := by unfold N128; omega
  have hNb : N128 (mag b) := by unfold N128; omega
  have hsa := size_any a ha
  have hsb := size_any b hb
  have hadd := r1add_any (mag a) (mag b) hNa hNb
  have hless := r1less_any (mag a) (mag b) hNa hNb
  have hsub := r1sub_any (mag a) (mag b) hNa hNb
  have hsub2 := r1sub_any (mag b) (mag a) hNb hNa
  have hsum : (mag a + mag b) % 340282366920938463463374607431768211456 = mag a + mag b := by omega
  rw [hsum] at hadd
  have hNs : N128 (mag a + mag b) := by unfold N128; omega
  clear hsum
  obtain ⟨va, hva⟩ : ∃ v, v = numV (mag a) := ⟨_, rfl⟩
  obtain ⟨vb, hvb⟩ : ∃ v, v = numV (mag b) := ⟨_, rfl⟩
  obtain ⟨ah, al, hAA⟩ : ∃ ah al : Int, numV (mag a) = .agg #[.int .u64 ah, .int .u64 al] := ⟨_, _, rfl⟩
  obtain ⟨bh, bl, hBB⟩ : ∃ ah al : Int, numV (mag b) = .agg #[.int .u64 ah, .int .u64 al] := ⟨_, _, rfl⟩
  rw [hAA] at hsa hadd hless hsub hsub2
  rw [hBB] at hsb hadd hless hsub hsub2
  clear hva hvb hAA hBB
  have HS := Lib.hid (show sat (a + b) = sat (a + b) from rfl)
  by_cases hst : decide (a < 0) = decide (b < 0)
  · have HV : sat (sgn (decide (a < 0)) (mag a + mag b)) = sat (a + b) := by
      congr 1; unfold sgn mag
      by_cases h1 : a < 0 <;> by_cases h2 : b < 0 <;> simp [h1, h2] at hst ⊢ <;> omega
    have hback := back_any _ (decide (a < 0)) hNs
    obtain ⟨sh, sl, hSS⟩ : ∃ ah al : Int, numV (mag a + mag b) = .agg #[.int .u64 ah, .int .u64 al] := ⟨_, _, rfl⟩
    rw [hSS] at hadd hback
    rw [HV] at hback
    rw [← hst] at hsb
    clear hSS HV HS
    generalize decide (a < 0) = s at *
    generalize decide (340282366920938463463374607431768211456 ≤ mag a + mag b) = ov at *
    have hse : (s == s) = true := by simp
    clear hst hA hB
    go_enter Try.func31, Try.ntmps31
    go_wp2_with fail
    refine (hsa _).mono ?_
    rintro e w1 ⟨rfl, u1⟩
    go_wp2_with fail
    refine (hsb _).mono ?_
    rintro e w2 ⟨rfl, u2⟩
    have hx2 : Blk w2 w1.heap.size #[.int .u64 ah, .int .u64 al] 137 := (Blk.new w1 _ _).upd u2 (fun h => h)
    have hl2 := hx2.lt
    have a0 := hx2.cell 0
    have a1 := hx2.cell 1
    simp only [List.getElem?_toArray, List.getElem?_cons_zero, List.getElem?_cons_succ] at a0 a1
    go_wp2_with fail
    have hx3 : Blk (w2.alloc (.cells #[.int .u64 bh, .int .u64 bl] 137)) w1.heap.size #[.int .u64 ah, .int .u64 al] 137 := hx2.upd ((Upd.refl (fun _ => False) _).alloc _) (fun h => h)
    have hy3 : Blk (w2.alloc (.cells #[.int .u64 bh, .int .u64 bl] 137)) w2.heap.size #[.int .u64 bh, .int .u64 bl] 137 := Blk.new _ _ _
    have u3 : Upd (fun _ => False) w (w2.alloc (.cells #[.int .u64 bh, .int .u64 bl] 137)) := ((u1.alloc _).trans u2).alloc _
    generalize w2.alloc (.cells #[.int .u64 bh, .int .u64 bl] 137) = w3 at *
    generalize w1.heap.size = X at *
    generalize w2.heap.size = Y at *
    have c0 := hx3.cell 0
    have c1 := hx3.cell 1
    have c2 := hy3.cell 0
    have c3 := hy3.cell 1
    simp only [List.getElem?_toArray, List.getElem?_cons_zero, List.getElem?_cons_succ] at c0 c1 c2 c3
    clear u1 u2 hx2
    refine (hadd _).mono ?_
    rintro e w4 ⟨rfl, u4⟩
    go_wp2_with fail
    refine (hback _).mono ?_
    rintro e w5 ⟨rfl, u5⟩
    go_wp2_with fail
    go_ret
    exact ⟨rfl, (((u3.trans u4).alloc _).trans u5)⟩
  · have hneg : decide (b < 0) = !decide (a < 0) := by
      by_cases h1 : a < 0 <;> by_cases h2 : b < 0 <;> simp [h1, h2] at hst ⊢
    by_cases hl : mag a < mag b
    · have hNd : N128 (mag b - mag a) := by unfold N128; omega
      have HV : sat (sgn (!decide (a < 0)) (mag b - mag a)) = sat (a + b) := by
        congr 1; unfold sgn; unfold mag at hl ⊢
        by_cases h1 : a < 0 <;> by_cases h2 : b < 0 <;> simp [h1, h2] at hst hl ⊢ <;> omega
      have hback := back_any _ (!decide (a < 0)) hNd
      have hm : (mag b - mag a) % 340282366920938463463374607431768211456 = mag b - mag a := by omega
      rw [hm] at hsub2
      obtain ⟨sh, sl, hSS⟩ : ∃ ah al : Int, numV (mag b - mag a) = .agg #[.int .u64 ah, .int .u64 al] := ⟨_, _, rfl⟩
      rw [hSS] at hsub2 hback
      rw [HV] at hback
      rw [hneg] at hsb
      rw [show decide (mag a < mag b) = true from decide_eq_true hl] at hless
      clear hSS HV HS hadd hsub
      generalize decide (a < 0) = s at *
      generalize decide (mag b < mag a) = ov at *
      have hse : (s == !s) = false := by cases s <;> rfl
      clear hst hA hB hm hneg hl
      go_enter Try.func31, Try.ntmps31
      go_wp2_with fail
      refine (hsa _).mono ?_
      rintro e w1 ⟨rfl, u1⟩
      go_wp2_with fail
      refine (hsb _).mono ?_
      rintro e w2 ⟨rfl, u2⟩
      have hx2 : Blk w2 w1.heap.size #[.int .u64 ah, .int .u64 al] 137 := (Blk.new w1 _ _).upd u2 (fun h => h)
      have hl2 := hx2.lt
      have a0 := hx2.cell 0
      have a1 := hx2.cell 1
      simp only [List.getElem?_toArray, List.getElem?_cons_zero, List.getElem?_cons_succ] at a0 a1
      go_wp2_with fail
      have hx3 : Blk (w2.alloc (.cells #[.int .u64 bh, .int .u64 bl] 137)) w1.heap.size #[.int .u64 ah, .int .u64 al] 137 := hx2.upd ((Upd.refl (fun _ => False) _).alloc _) (fun h => h)
      have hy3 : Blk (w2.alloc (.cells #[.int .u64 bh, .int .u64 bl] 137)) w2.heap.size #[.int .u64 bh, .int .u64 bl] 137 := Blk.new _ _ _
      have u3 : Upd (fun _ => False) w (w2.alloc (.cells #[.int .u64 bh, .int .u64 bl] 137)) := ((u1.alloc _).trans u2).alloc _
      generalize w2.alloc (.cells #[.int .u64 bh, .int .u64 bl] 137) = w3 at *
      generalize w1.heap.size = X at *
      generalize w2.heap.size = Y at *
      have c0 := hx3.cell 0
      have c1 := hx3.cell 1
      have c2 := hy3.cell 0
      have c3 := hy3.cell 1
      simp only [List.getElem?_toArray, List.getElem?_cons_zero, List.getElem?_cons_succ] at c0 c1 c2 c3
      clear u1 u2 hx2
      refine (hless _).mono ?_
      rintro e w9 ⟨rfl, u9⟩
      have hx9 := hx3.upd u9 (fun h => h)
      have hy9 := hy3.upd u9 (fun h => h)
      have c4 := hx9.cell 0
      have c5 := hx9.cell 1
      have c6 := hy9.cell 0
      have c7 := hy9.cell 1
      simp only [List.getElem?_toArray, List.getElem?_cons_zero, List.getElem?_cons_succ] at c4 c5 c6 c7
      go_wp2_with fail
      refine (hsub2 _).mono ?_
      rintro e w4 ⟨rfl, u4⟩
      go_wp2_with fail
      refine (hback _).mono ?_
      rintro e w5 ⟨rfl, u5⟩
      go_wp2_with fail
      go_ret
      exact ⟨rfl, ((((u3.trans u9).trans u4).alloc _).trans u5)⟩
    · have hNd : N128 (mag a - mag b) := by unfold N128; omega
      have HV : sat (sgn (decide (a < 0)) (mag a - mag b)) = sat (a + b) := by
        congr 1; unfold sgn; unfold mag at hl ⊢
        by_cases h1 : a < 0 <;> by_cases h2 : b < 0 <;> simp [h1, h2] at hst hl ⊢ <;> omega
      have hback := back_any _ (decide (a < 0)) hNd
      have hm : (mag a - mag b) % 340282366920938463463374607431768211456 = mag a - mag b := by omega
      rw [hm] at hsub
      obtain ⟨sh, sl, hSS⟩ : ∃ ah al : Int, numV (mag a - mag b) = .agg #[.int .u64 ah, .int .u64 al] := ⟨_, _, rfl⟩
      rw [hSS] at hsub hback
      rw [HV] at hback
      rw [hneg] at hsb
      rw [show decide (mag a < mag b) = false from decide_eq_false hl] at hless hsub
      clear hSS HV HS hadd hsub2
      generalize decide (a < 0) = s at *
      have hse : (s == !s) = false := by cases s <;> rfl
      clear hst hA hB hm hneg hl
      go_enter Try.func31, Try.ntmps31
      go_wp2_with fail
      refine (hsa _).mono ?_
      rintro e w1 ⟨rfl, u1⟩
      go_wp2_with fail
      refine (hsb _).mono ?_
      rintro e w2 ⟨rfl, u2⟩
      have hx2 : Blk w2 w1.heap.size #[.int .u64 ah, .int .u64 al] 137 := (Blk.new w1 _ _).upd u2 (fun h => h)
      have hl2 := hx2.lt
      have a0 := hx2.cell 0
      have a1 := hx2.cell 1
      simp only [List.getElem?_toArray, List.getElem?_cons_zero, List.getElem?_cons_succ] at a0 a1
      go_wp2_with fail
      have hx3 : Blk (w2.alloc (.cells #[.int .u64 bh, .int .u64 bl] 137)) w1.heap.size #[.int .u64 ah, .int .u64 al] 137 := hx2.upd ((Upd.refl (fun _ => False) _).alloc _) (fun h => h)
      have hy3 : Blk (w2.alloc (.cells #[.int .u64 bh, .int .u64 bl] 137)) w2.heap.size #[.int .u64 bh, .int .u64 bl] 137 := Blk.new _ _ _
      have u3 : Upd (fun _ => False) w (w2.alloc (.cells #[.int .u64 bh, .int .u64 bl] 137)) := ((u1.alloc _).trans u2).alloc _
      generalize w2.alloc (.cells #[.int .u64 bh, .int .u64 bl] 137) = w3 at *
      generalize w1.heap.size = X at *
      generalize w2.heap.size = Y at *
      have c0 := hx3.cell 0
      have c1 := hx3.cell 1
      have c2 := hy3.cell 0
      have c3 := hy3.cell 1
      simp only [List.getElem?_toArray, List.getElem?_cons_zero, List.getElem?_cons_succ] at c0 c1 c2 c3
      clear u1 u2 hx2
      refine (hless _).mono ?_
      rintro e w9 ⟨rfl, u9⟩
      have hx9 := hx3.upd u9 (fun h => h)
      have hy9 := hy3.upd u9 (fun h => h)
      have c4 := hx9.cell 0
      have c5 := hx9.cell 1
      have c6 := hy9.cell 0
      have c7 := hy9.cell 1
      simp only [List.getElem?_toArray, List.getElem?_cons_zero, List.getElem?_cons_succ] at c4 c5 c6 c7
      go_wp2_with fail
      refine (hsub _).mono ?_
      rintro e w4 ⟨rfl, u4⟩
      go_wp2_with fail
      refine (hback _).mono ?_
      rintro e w5 ⟨rfl, u5⟩
      go_wp2_with fail
      go_ret
      exact ⟨rfl, ((((u3.trans u9).trans u4).alloc _).trans u5)⟩

set_option maxRecDepth 100000 in
theorem r2sub (a b : Int) (w : World) (ha : I64 a) (hb : I64 b) :
    Calls Try.prog 74 #[.int .i64 a, .int .i64 b] w fun e W' => e = .returned (.int .i64 (sat (a - b))) ∧ Upd (fun _ => False) w W' := by
  unfold I64 at ha hb
  by_cases h : b = -9223372036854775808
  · subst h
    by_cases h0 : 0 ≤ a
    · have HS := Lib.hid (show sat (a - -9223372036854775808) = 9223372036854775807 by unfold sat; split <;> (try split) <;> omega)
      have hd : decide (0 ≤ a) = true := decide_eq_true h0
      go_enter Try.func74, Try.ntmps74
      go_wp2_with fail
      go_ret
      exact ⟨by first | (rw [HS.out]; rfl) | (simp at HS ⊢; rw [HS.out]), Upd.refl _ _⟩
    · have HS := Lib.hid (sat_id (show I64 (a - -9223372036854775808) by unfold I64; omega))
      have hd : decide (0 ≤ a) = false := decide_eq_false h0
      go_enter Try.func74, Try.ntmps74
      go_wp2_with fail
      go_ret
      exact ⟨by first | (rw [HS.out]; rfl) | (simp at HS ⊢; rw [HS.out]), Upd.refl _ _⟩
  · have hd : (b == -9223372036854775808) = false := by simpa using h
    have HS := Lib.hid (show sat (a - b) = sat (a + -b) by rw [Int.sub_eq_add_neg])
    go_enter Try.func74, Try.ntmps74
    go_wp2_with fail
    refine (r2add a (-b) _ (by unfold I64; omega) (by unfold I64; omega)).mono ?_
    rintro e w1 ⟨rfl, u1⟩
    go_wp2_with fail
    go_ret
    exact ⟨by rw [HS.out]; rfl, u1⟩

set_option maxRecDepth 100000 in
theorem r2mul (a b : Int) (w : World) (ha : I64 a) (hb : I64 b) :
    Calls Try.prog 51 #[.int .i64 a, .int .i64 b] w fun e W' => e = .returned (.int .i64 (sat (a * b))) ∧ Upd (fun _ => False) w W' := by
  have hA := mag_bound ha
  have hB := mag_bound hb
  have hsa := size_any a ha
  have hsb := size_any b hb
  rw [numV_small (by omega)] at hsa hsb
  have hp0 : 0 ≤ mag a * mag b := Int.mul_nonneg hA.1 hB.1
  have hp1 : mag a * mag b ≤ 9223372036854775808 * 9223372036854775808 := Int.mul_le_mul hA.2 hB.2 hB.1 (by omega)
  have hmul := r1mul_any (mag a) (mag b) (by omega) (by omega)
  have hback := back_any (mag a * mag b) (decide (a < 0) != decide (b < 0)) (by unfold N128; omega)
  have HV : sat (sgn (decide (a < 0) != decide (b < 0)) (mag a * mag b)) = sat (a * b) := by
    congr 1; unfold sgn mag
    by_cases h1 : a < 0 <;> by_cases h2 : b < 0 <;> simp [h1, h2, Int.neg_mul, Int.mul_neg]
  rw [HV] at hback
  obtain ⟨sh, sl, hSS⟩ : ∃ ah al : Int, numV (mag a * mag b) = .agg #[.int .u64 ah, .int .u64 al] := ⟨_, _, rfl⟩
  rw [hSS] at hmul hback
  clear hSS HV hp0 hp1
  generalize mag a = x at *
  generalize mag b = y at *
  generalize decide (a < 0) = s at *
  generalize decide (b < 0) = t at *
  clear hA hB
  go_enter Try.func51, Try.ntmps51
  go_wp2_with fail
  refine (hsa _).mono ?_
  rintro e w1 ⟨rfl, u1⟩
  go_wp2_with fail
  refine (hsb _).mono ?_
  rintro e w2 ⟨rfl, u2⟩
  have hx2 : Blk w2 w1.heap.size #[.int .u64 0, .int .u64 x] 137 := (Blk.new w1 _ _).upd u2 (fun h => h)
  have hl2 := hx2.lt
  have a0 := hx2.cell 0
  have a1 := hx2.cell 1
  simp only [List.getElem?_toArray, List.getElem?_cons_zero, List.getElem?_cons_succ] at a0 a1
  go_wp2_with fail
  refine (hmul _).mono ?_
  rintro e w3 ⟨rfl, u3⟩
  go_wp2_with fail
  refine (hback _).mono ?_
  rintro e w4 ⟨rfl, u4⟩
  go_wp2_with fail
  go_ret
  exact ⟨rfl, ((((u1.alloc _).trans u2).alloc _).trans u3).trans u4⟩
end Go.Proofs.Yteaihgjjplgalaa
