/- The reference's products: contracts, walked. -/
import Derived.Test.YteaihgjjplgalaaNum2
namespace Go.Proofs.Yteaihgjjplgalaa
open Go.RowKit
set_option linter.unusedVariables false
set_option linter.unusedSimpArgs false

theorem pw_add (i k : Nat) : pw (i + k) = pw i * pw k := by unfold pw; rw [Int.pow_add]
theorem digs_hi (n : Int) (h : 0 ≤ n ∧ n < 18446744073709551616) : val ((digs n).take 4) = n := by
  simp only [digs, List.take_succ_cons, List.take_zero, val]
  omega
/-- behind i rounds of the product. -/
def MulSt (N : Nat) (wr : World) (g cap : Nat) (a b : Int) (i : Nat) : Prop :=
  ∃ zs, IOwn N wr (.slice (some ⟨g, 0, none⟩) 9 cap) zs ∧ zs.length = 9 ∧ Dig zs ∧ (∀ j d, i + 4 ≤ j → zs[j]? = some d → d = 0) ∧ val zs = val ((digs a).take i) * b
/-- behind k rounds within round i. -/
def MulIn (N : Nat) (wr : World) (g cap : Nat) (a b x : Int) (i k : Nat) (c : Int) : Prop :=
  ∃ zs, IOwn N wr (.slice (some ⟨g, 0, none⟩) 9 cap) zs ∧ zs.length = 9 ∧ Dig zs ∧ (∀ j d, i + 4 ≤ j → zs[j]? = some d → d = 0) ∧ 0 ≤ c ∧ c < 65536 ∧
    val zs + c * pw (i + k) = val ((digs a).take i) * b + x * val ((digs b).take k) * pw i
theorem mul_step {zs : List Int} {A b c x y z s : Int} {i k : Nat} (hd : Dig zs) (hx : 0 ≤ x ∧ x < 65536) (hc : 0 ≤ c ∧ c < 65536) (hv : val zs + c * pw (i + k) = A + x * val ((digs b).take k) * pw i) (hz : zs[i + k]? = some z) (hy : (digs b)[k]? = some y) (hs : s = z + x * y + c) :
    0 ≤ s ∧ s ≤ 4294967295 ∧ 0 ≤ s / 65536 ∧ s / 65536 < 65536 ∧ Dig (zs.set (i + k) (s % 65536)) ∧ val (zs.set (i + k) (s % 65536)) + s / 65536 * pw (i + (k + 1)) = A + x * val ((digs b).take (k + 1)) * pw i := by
  have h1 := hd.at hz
  have h2 := (digs_dig b).at hy
  have hp0 : 0 ≤ x * y := Int.mul_nonneg hx.1 h2.1
  have hp1 : x * y ≤ 65535 * 65535 := Int.mul_le_mul (by omega) (by omega) h2.1 (by omega)
  refine ⟨by omega, by omega, by omega, by omega, hd.set _ _ (by omega), ?_⟩
  rw [val_set _ _ _ _ hz, val_take _ _ _ hy, show i + (k + 1) = i + k + 1 from rfl, pw_succ, Int.mul_add, Int.add_mul, ← Int.add_assoc A, ← hv]
  have e : s % 65536 - z + 65536 * (s / 65536) = x * y + c := by omega
  have e1 : (s % 65536 - z) * pw (i + k) + 65536 * (s / 65536) * pw (i + k) = x * y * pw (i + k) + c * pw (i + k) := by rw [← Int.add_mul, e, Int.add_mul]
  have e2 : s / 65536 * (65536 * pw (i + k)) = 65536 * (s / 65536) * pw (i + k) := by rw [← Int.mul_assoc, Int.mul_comm (s / 65536)]
  have e3 : x * (y * pw k) * pw i = x * y * pw (i + k) := by rw [pw_add, Int.mul_comm (pw i), ← Int.mul_assoc, ← Int.mul_assoc]
  rw [e2, e3]
  omega

set_option maxRecDepth 100000 in
set_option maxHeartbeats 2000000 in
theorem r1mul_any (a b : Int) (ha : 0 ≤ a ∧ a < 18446744073709551616) (hb : 0 ≤ b ∧ b < 18446744073709551616) (w : World) :
    Calls Try.prog 75 #[.int .u64 a, .int .u64 b] w fun e W' => e = .returned (numV (a * b)) ∧ Upd (fun _ => False) w W' := by
  have hA : numV a = .agg #[.int .u64 0, .int .u64 a] := by unfold numV; rw [show a / 18446744073709551616 = 0 by omega, show a % 18446744073709551616 = a by omega]
  have hB : numV b = .agg #[.int .u64 0, .int .u64 b] := by unfold numV; rw [show b / 18446744073709551616 = 0 by omega, show b % 18446744073709551616 = b by omega]
  have hdA := digits_any a (by unfold N128; omega)
  have hdB := digits_any b (by unfold N128; omega)
  rw [hA] at hdA
  rw [hB] at hdB
  obtain ⟨R, hR⟩ : ∃ R : Value, R = numV (a * b) := ⟨_, rfl⟩
  rw [← hR]
  have HR := Lib.hid hR
  clear hR hA hB
  go_enter Try.func75, Try.ntmps75
  go_wp2_with fail
  refine (hdA _).mono ?_
  rintro e w2 ⟨v1, rfl, hO1, u1⟩
  go_wp2_with fail
  refine (hdB _).mono ?_
  rintro e w3 ⟨v2, rfl, hO2, u2⟩
  go_wp2_with fail
  have hmk : ∀ w, (Instr.makeSlice 91 (.int .i64 9) (.int .i64 9)).run Try.prog w = .ok (.slice (some ⟨w.heap.size, 0, none⟩) 9 9) (w.alloc (.cells #[.int .i64 0, .int .i64 0, .int .i64 0, .int .i64 0, .int .i64 0, .int .i64 0, .int .i64 0, .int .i64 0, .int .i64 0] 3)) := by intro w; kernel_rfl
  rw [hmk]
  clear hmk
  obtain ⟨gx, cx, rfl, hx1, hx2, hx3, hx4⟩ := IOwn.formp hO1 (by simp [digs_len])
  obtain ⟨gy, cy, rfl, hy1, hy2, hy3, hy4⟩ := IOwn.formp hO2 (by simp [digs_len])
  rw [show (digs a).length = 8 from rfl, show (digs b).length = 8 from rfl]
  rw [digs_len] at hx3 hy3
  unfold maxLen at hx4 hy4
  have b0 : Blk w3 w.heap.size #[.int .u64 0, .int .u64 0] 137 := ((Blk.new w _ _).upd u1 (fun h => h)).upd u2 (fun h => h)
  have hOx : IOwn (w.heap.size + 1) w3 (.slice (some ⟨gx, 0, none⟩) 8 cx) (digs a) := (OwnV.base hO1 (by simp)).uq u2 (fun h => h)
  have hOy : IOwn (w.heap.size + 1) w3 (.slice (some ⟨gy, 0, none⟩) 8 cy) (digs b) := OwnV.base hO2 (by have := u1.size; simp at this; omega)
  have hxg : w.heap.size < gx := by simp at hx1; omega
  have hU : Upd (fun b => w.heap.size ≤ b) w w3 := ((((Upd.refl _ w).alloc _).trans u1).trans u2).mono (fun _ _ h => h.elim)
  obtain ⟨B, hB⟩ : ∃ B, B = w.heap.size := ⟨_, rfl⟩
  have HB := Lib.hid hB
  rw [← hB] at b0 hOx hOy hxg hU ⊢
  have hBw : B < w3.heap.size := by rw [hB]; have := u2.size; omega
  clear hB
  obtain ⟨zz, hzz⟩ : ∃ zz : Array Value, zz = #[.int .i64 0, .int .i64 0, .int .i64 0, .int .i64 0, .int .i64 0, .int .i64 0, .int .i64 0, .int .i64 0, .int .i64 0] := ⟨_, rfl⟩
  rw [← hzz]
  have hz0 : MulSt (B + 1) (w3.alloc (.cells zz 3)) w3.heap.size 9 a b 0 := by
    refine ⟨[0, 0, 0, 0, 0, 0, 0, 0, 0], ?_, rfl, by intro d hd; simp at hd; omega, ?_, by simp [val]⟩
    · rw [hzz]
      exact World.ownsRow_lit w3 _ 9 (by omega) (by decide) rfl
    · intro j d _ hj
      have := List.mem_of_getElem? hj
      simpa using this
  have ua : Upd (fun _ => False) w3 (w3.alloc (.cells zz 3)) := (Upd.refl _ _).alloc _
  replace b0 := b0.upd ua (fun h => h)
  replace hOx := hOx.uq ua (fun h => h)
  replace hOy := hOy.uq ua (fun h => h)
  replace hU := hU.alloc (.cells zz 3)
  have hgx : gx < w3.heap.size := Nat.lt_of_lt_of_le hx2 u2.size
  generalize w3.alloc (.cells zz 3) = w4 at *
  generalize w3.heap.size = G at *
  have hxg' : ¬ gx = G := by omega
  have hyg' : ¬ gy = G := by omega
  have hBG := hBw
  clear hO1 hO2 u1 u2 ua hzz hx1 hy1 hdA hdB
  go_wp2_with fail
  go_loopw [8] (fun i wr => ∃ k : Nat, i = .int .i64 k ∧ k ≤ 4 ∧ MulSt (B + 1) wr G 9 a b k ∧ IOwn (B + 1) wr (.slice (some ⟨gx, 0, none⟩) 8 cx) (digs a) ∧ IOwn (B + 1) wr (.slice (some ⟨gy, 0, none⟩) 8 cy) (digs b) ∧ Blk wr B #[.int .u64 0, .int .u64 0] 137 ∧ Upd (fun b => B ≤ b) w wr) (fun i _ => 4 - (intOf i).toNat)
  case atStart => exact ⟨0, rfl, by omega, hz0, hOx, hOy, b0, hU⟩
  clear hz0 hOx hOy b0 hU
  case round =>
    obtain ⟨i, rfl, hi, hZ, hX, hY, hr, hU⟩ := hrel
    by_cases hlt : i < 4
    · obtain ⟨x, hxk⟩ : ∃ x, (digs a)[i]? = some x := ⟨_, List.getElem?_eq_getElem (show i < (digs a).length from by show i < 8; omega)⟩
      have dx := (digs_dig a).at hxk
      have HV := Lib.hid (val_take _ _ _ hxk)
      have hin : MulIn (B + 1) wr G 9 a b x i 0 0 := by
        obtain ⟨zs, h1, h2, h3, h4, h5⟩ := hZ
        exact ⟨zs, h1, h2, h3, h4, by omega, by omega, by simp [val, h5]⟩
      clear hZ
      obtain ⟨wo, rfl⟩ : ∃ wo : World, wo = wr := ⟨_, rfl⟩
      go_wp2_with fail
      go_loopw [9, 10] (fun c k wr => ∃ (j : Nat) (cc : Int), c = .int .i64 cc ∧ k = .int .i64 j ∧ j ≤ 4 ∧ MulIn (B + 1) wr G 9 a b x i j cc ∧ IOwn (B + 1) wr (.slice (some ⟨gx, 0, none⟩) 8 cx) (digs a) ∧ IOwn (B + 1) wr (.slice (some ⟨gy, 0, none⟩) 8 cy) (digs b) ∧ Blk wr B #[.int .u64 0, .int .u64 0] 137 ∧ Upd (fun b => B ≤ b) w wr) (fun _ k _ => 4 - (intOf k).toNat)
      case atStart => exact ⟨0, 0, rfl, rfl, by omega, hin, hX, hY, hr, hU⟩
      clear hin hX hY hr hU
      case round =>
        obtain ⟨j, cc, rfl, rfl, hj, ⟨zs, hZ, hzl, hzd, hz0, hc0, hc1, hv⟩, hX, hY, hr, hU⟩ := hrel
        by_cases hjlt : j < 4
        · obtain ⟨z, hzk⟩ : ∃ x, zs[i + j]? = some x := ⟨_, List.getElem?_eq_getElem (show i + j < zs.length from by omega)⟩
          obtain ⟨y, hyk⟩ : ∃ x, (digs b)[j]? = some x := ⟨_, List.getElem?_eq_getElem (show j < (digs b).length from by show j < 8; omega)⟩
          have g0 := hZ.cell hzl.symm (i + j) z hzk
          have g1 := hX.cell rfl i x hxk
          have g2 := hY.cell rfl j y hyk
          have f0 := hZ.frozen hzl.symm (i + j)
          have dz := hzd.at hzk
          have dy := (digs_dig b).at hyk
          have hms := mul_step hzd dx ⟨hc0, hc1⟩ hv hzk hyk rfl
          have hb1 := hms.1
          have hb2 := hms.2.1
          have HS := Lib.hid hms.2.2
          have HZ := Lib.hid (fun z => IOwn.set hZ hzl.symm (i + j) z)
          have HZ0 := Lib.hid hz0
          have hp0 : 0 ≤ x * y := Int.mul_nonneg dx.1 dy.1
          have hp1 : x * y ≤ 65535 * 65535 := Int.mul_le_mul (by omega) (by omega) dy.1 (by omega)
          clear hzk hyk hv hzd hZ hms hz0
          generalize hxy : x * y = p at *
          go_wp2_with fail
          go_quiet (fail)
          go_wp2_with fail
          go_roundw
          have us : Upd (· = G) wr ((wr.drewN nq).setCell ⟨G, i + j, none⟩ (.int .i64 ((z + p + cc) % 65536))) := ((Upd.refl _ wr).drewN nq).setCell _ _ (.inl rfl)
          case rel => exact ⟨j + 1, (z + p + cc) / 65536, rfl, by go_num, by omega, ⟨zs.set (i + j) ((z + p + cc) % 65536), (HZ.out _).drewN nq, by simp [hzl], HS.out.2.2.1, fun j' d hj' hd => by rw [List.getElem?_set_ne (by omega)] at hd; exact HZ0.out j' d hj' hd, HS.out.1, HS.out.2.1, HS.out.2.2.2⟩, hX.uq us hxg', hY.uq us hyg', hr.upd us (by omega), hU.then us (fun i hi e => by have := HB.out; omega)⟩
          case measure => simp [intOf]; omega
        · obtain rfl : j = 4 := by omega
          have hzk : zs[i + 4]? = some 0 := by
            obtain ⟨z, hzk⟩ : ∃ x, zs[i + 4]? = some x := ⟨_, List.getElem?_eq_getElem (show i + 4 < zs.length from by omega)⟩
            rw [hzk, hz0 _ _ (Nat.le_refl _) hzk]
          have g0 := hZ.cell hzl.symm (i + 4) 0 hzk
          have f0 := hZ.frozen hzl.symm (i + 4)
          have HZ := Lib.hid (IOwn.set hZ hzl.symm (i + 4) cc)
          have hnv : val (zs.set (i + 4) cc) = val ((digs a).take (i + 1)) * b := by
            rw [val_set _ _ _ _ hzk, HV.out, Int.add_mul, Int.sub_zero, hv, digs_hi b hb, Int.mul_assoc x, Int.mul_assoc x, Int.mul_comm b]
          have HN := Lib.hid hnv
          have HZ0 := Lib.hid hz0
          clear hzk hv hnv hZ hz0
          have hd4 : decide ((4 : Nat) < 4) = false := rfl
          go_wp2_with fail
          go_roundw
          have us : Upd (· = G) wr (wr.setCell ⟨G, i + 4, none⟩ (.int .i64 cc)) := (Upd.refl _ wr).setCell _ _ (.inl rfl)
          case rel => exact ⟨i + 1, by go_num, by omega, ⟨zs.set (i + 4) cc, HZ.out, by simp [hzl], hzd.set _ _ ⟨hc0, hc1⟩, fun j' d hj' hd => by rw [List.getElem?_set_ne (by omega)] at hd; exact HZ0.out j' d (by omega) hd, HN.out⟩, hX.uq us hxg', hY.uq us hyg', hr.upd us (by omega), hU.then us (fun i hi e => by have := HB.out; omega)⟩
          case measure => simp [intOf]; omega
    · obtain rfl : i = 4 := by omega
      obtain ⟨zs, hZ, hzl, hzd, hz0, hv⟩ := hZ
      rw [digs_hi a ha] at hv
      match zs, hzl with
      | [x0, x1, x2, x3, x4, x5, x6, x7, x8], _ =>
      obtain rfl : x8 = 0 := hz0 8 x8 (by omega) rfl
      have hv' : a * b = val [x0, x1, x2, x3, x4, x5, x6, x7] := by rw [← hv]; simp [val]
      have hgs : G < wr.heap.size := (OwnV.lt hZ G rfl).2
      have hS : SlAt 1 intEnc (· < wr.heap.size) wr (.slice (some ⟨G, 0, none⟩) 8 9) ([x0, x1, x2, x3, x4, x5, x6, x7] ++ []) := by
        refine ⟨_, _, rfl, by simp, by decide, by simp, fun _ => ⟨G, 0, rfl, hgs, fun i x hx j hj => ?_⟩⟩
        obtain rfl : j = 0 := by omega
        have hi8 : i < 8 := (List.getElem?_eq_some_iff.1 hx).1
        rw [show 0 + i * 1 + 0 = i by omega, show (intEnc x)[0]? = some (.int .i64 x) from rfl]
        refine hZ.cell rfl i x ?_
        rw [show ([x0, x1, x2, x3, x4, x5, x6, x7, 0] : List Int) = ([x0, x1, x2, x3, x4, x5, x6, x7] ++ []) ++ [0] from rfl, List.getElem?_append_left hi8]
        exact hx
      have hzd8 : Dig [x0, x1, x2, x3, x4, x5, x6, x7] := fun d hd => hzd d (by simp at hd ⊢; omega)
      have HR2 := Lib.hid (show R = numV (val [x0, x1, x2, x3, x4, x5, x6, x7]) by rw [HR.out, hv'])
      clear hv hv' hZ hz0 HR
      have hd : decide ((4 : Nat) < 4) = false := rfl
      go_wp2_with fail
      refine (value_any _ x0 x1 x2 x3 x4 x5 x6 x7 [] hzd8 _ hS).mono ?_
      rintro e w5 ⟨rfl, u5⟩
      generalize val [x0, x1, x2, x3, x4, x5, x6, x7] = V at *
      have hr5 := hr.upd u5 (fun h => h)
      obtain ⟨vh, vl, hV⟩ : ∃ ah al : Int, numV V = .agg #[.int .u64 ah, .int .u64 al] := ⟨_, _, rfl⟩
      rw [hV] at HR2 ⊢
      have m0 : w5.cell? ⟨B, 0, none⟩ = some (.int .u64 0) := hr5.cell 0
      have m1 : w5.cell? ⟨B, 1, none⟩ = some (.int .u64 0) := hr5.cell 1
      have z0 : w5.frozen? ⟨B, 0, none⟩ = false := hr5.frozen 0
      have z1 : w5.frozen? ⟨B, 1, none⟩ = false := hr5.frozen 1
      clear hV hS
      go_wp2_with fail
      (try simp only [Exit.inBlock, Exit.then])
      refine bodyPost_ret (results_cell_row rfl _ _ B 137 #[.int .u64 vh, .int .u64 vl] (0, 0) _ rfl (by show hp _ B = _; simp (disch := first | omega | (simp only [sz_setCell, sz_alloc, sz_drew, sz_drewN]; done) | (simp only [sz_setCell, sz_alloc, sz_drew, sz_drewN]; omega)) [Blk, hp_same, hp_ne, hp_alloc, hp_new', hp_drew, hp_drewN, Obj.put, show hp w5 B = _ from hr5]) Try.underlying137 rfl (by kernel_rfl)) rfl ?_
      exact ⟨by rw [HR2.out], (((hU.trans (u5.mono (fun _ _ h => h.elim))).setCell ⟨B, 0, none⟩ _ (.inl (Nat.le_refl _))).setCell ⟨B, 1, none⟩ _ (.inl (Nat.le_refl _))).mono (fun i hi h => by have := HB.out; omega)⟩
end Go.Proofs.Yteaihgjjplgalaa
