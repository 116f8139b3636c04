/- The reference's sums and differences of wide numbers: contracts, walked. -/
import Derived.Test.YteaihgjjplgalaaNum
namespace Go.Proofs.Yteaihgjjplgalaa
open Go.RowKit
set_option linter.unusedVariables false
set_option linter.unusedSimpArgs false

theorem results_cell_tmp {P : Program} {fn : Func} {p q : Tmp} {ty : TypeId} (h : fn.results = #[.cell p ty, .tmp q]) (tmps : Array Value) (w : World) (g : Nat) (t : TypeId) (cs : Array Value) (fr : Nat × Nat) (d : TypeDesc)
    (hp : tmps.getD p undef = .pointer (some ⟨g, 0, none⟩)) (hg : w.heap[g]? = some (.cells cs t fr))
    (hu : P.underlying ty = some d) (hd : (match d with | .struct _ | .array _ _ => true | _ => false) = true) (hi : (P.info? ty).map (·.size) = some cs.size) :
    (results fn tmps).run P w = .ok (.tuple #[.agg cs, tmps.getD q undef]) w := by
  have hp' : tmps[p]?.getD undef = .pointer (some ⟨g, 0, none⟩) := by simpa using hp
  simp [results, h, hp', asAddr, run_loadVar_row w g t ty cs fr d hg hu hd hi]
theorem num_cells {w : World} {b : Nat} {x y : Value} {T : TypeId} (h : Blk w b #[x, y] T) : w.cell? ⟨b, 0, none⟩ = some x ∧ w.cell? ⟨b, 1, none⟩ = some y := ⟨h.cell 0, h.cell 1⟩
theorem num_cells2 {w : World} {b c : Nat} {x y x' y' : Value} {T T' : TypeId} (h : Blk w b #[x, y] T) (h' : Blk w c #[x', y'] T') : w.cell? ⟨b, 0, none⟩ = some x ∧ w.cell? ⟨b, 1, none⟩ = some y ∧ w.cell? ⟨c, 0, none⟩ = some x' ∧ w.cell? ⟨c, 1, none⟩ = some y' := ⟨h.cell 0, h.cell 1, h'.cell 0, h'.cell 1⟩
theorem digs_len (n : Int) : (digs n).length = 8 := rfl
theorem OwnV.uq {α : Type} {e : TypeId} {sz : Nat} {enc : α → List Value} {base g n c : Nat} {w w' : World} {xs : List α} {S : Nat → Prop} (h : OwnV e sz enc base w (.slice (some ⟨g, 0, none⟩) n c) xs) (u : Upd S w w') (hs : ¬ S g) : OwnV e sz enc base w' (.slice (some ⟨g, 0, none⟩) n c) xs :=
  OwnV.upd h u (fun b hb => by cases hb; exact hs)
/-- behind k rounds of the sum. -/
def AddSt (N : Nat) (wr : World) (gx cx : Nat) (a b : Int) (k : Nat) (c : Int) : Prop :=
  ∃ zs, IOwn N wr (.slice (some ⟨gx, 0, none⟩) 8 cx) zs ∧ zs.length = 8 ∧ Dig zs ∧ 0 ≤ c ∧ c ≤ 1 ∧ val zs + c * pw k = a + val ((digs b).take k)
theorem add_step {zs : List Int} {a b c x y s : Int} {k : Nat} (hd : Dig zs) (hc : 0 ≤ c ∧ c ≤ 1) (hv : val zs + c * pw k = a + val ((digs b).take k)) (hx : zs[k]? = some x) (hy : (digs b)[k]? = some y) (hs : s = x + y + c) :
    0 ≤ s / 65536 ∧ s / 65536 ≤ 1 ∧ Dig (zs.set k (s % 65536)) ∧ val (zs.set k (s % 65536)) + s / 65536 * pw (k + 1) = a + val ((digs b).take (k + 1)) := by
  have h1 := hd.at hx
  have h2 := (digs_dig b).at hy
  refine ⟨by omega, by omega, hd.set _ _ (by omega), ?_⟩
  rw [val_set _ _ _ _ hx, val_take _ _ _ hy, ← Int.add_assoc, ← hv, pw_succ]
  have e : s % 65536 - x + 65536 * (s / 65536) = y + c := by omega
  have : (s % 65536 - x) * pw k + 65536 * (s / 65536) * pw k = y * pw k + c * pw k := by rw [← Int.add_mul, e, Int.add_mul]
  have h3 : s / 65536 * (65536 * pw k) = 65536 * (s / 65536) * pw k := by rw [← Int.mul_assoc, Int.mul_comm (s / 65536)]
  rw [h3]
  omega
/-- behind k rounds of the difference. -/
def SubSt (N : Nat) (wr : World) (gx cx : Nat) (a b : Int) (k : Nat) (c : Int) : Prop :=
  ∃ zs, IOwn N wr (.slice (some ⟨gx, 0, none⟩) 8 cx) zs ∧ zs.length = 8 ∧ Dig zs ∧ 0 ≤ c ∧ c ≤ 1 ∧ val zs - c * pw k = a - val ((digs b).take k)
theorem sub_step {zs : List Int} {a b c x y s d c' : Int} {k : Nat} (hd : Dig zs) (hc : 0 ≤ c ∧ c ≤ 1) (hv : val zs - c * pw k = a - val ((digs b).take k)) (hx : zs[k]? = some x) (hy : (digs b)[k]? = some y) (hs : s = x - y - c) (hq : (¬ s < 0 ∧ d = s ∧ c' = 0) ∨ (s < 0 ∧ d = s + 65536 ∧ c' = 1)) :
    Dig (zs.set k d) ∧ val (zs.set k d) - c' * pw (k + 1) = a - val ((digs b).take (k + 1)) := by
  have h1 := hd.at hx
  have h2 := (digs_dig b).at hy
  have e : d - x - 65536 * c' = - y - c := by omega
  refine ⟨hd.set _ _ (by omega), ?_⟩
  rw [val_set _ _ _ _ hx, val_take _ _ _ hy, pw_succ]
  have : (d - x) * pw k - 65536 * c' * pw k = - (y * pw k) - c * pw k := by rw [← Int.sub_mul, e, Int.sub_mul, Int.neg_mul]
  have h3 : c' * (65536 * pw k) = 65536 * c' * pw k := by rw [← Int.mul_assoc, Int.mul_comm c']
  rw [h3]
  omega
theorem list8 {α : Type} {l : List α} (h : l.length = 8) : ∃ a b c d e f g i, l = [a, b, c, d, e, f, g, i] := by
  match l, h with
  | [a, b, c, d, e, f, g, i], _ => exact ⟨a, b, c, d, e, f, g, i, rfl⟩

set_option maxRecDepth 100000 in
set_option maxHeartbeats 2000000 in
theorem r1add_any (a b : Int) (ha : N128 a) (hb : N128 b) (w : World) :
    Calls Try.prog 59 #[numV a, numV b] w fun e W' => e = .returned (.tuple #[numV ((a + b) % 340282366920938463463374607431768211456), .bool (decide (340282366920938463463374607431768211456 ≤ a + b))]) ∧ Upd (fun _ => False) w W' := by
  obtain ⟨R, hR⟩ : ∃ R : Value, R = .tuple #[numV ((a + b) % 340282366920938463463374607431768211456), .bool (decide (340282366920938463463374607431768211456 ≤ a + b))] := ⟨_, rfl⟩
  rw [← hR]
  have hdA := digits_any a ha
  have hdB := digits_any b hb
  obtain ⟨ah, al, hA⟩ : ∃ ah al : Int, numV a = .agg #[.int .u64 ah, .int .u64 al] := ⟨_, _, rfl⟩
  obtain ⟨bh, bl, hB⟩ : ∃ ah al : Int, numV b = .agg #[.int .u64 ah, .int .u64 al] := ⟨_, _, rfl⟩
  rw [hA] at hdA ⊢
  rw [hB] at hdB ⊢
  clear hA hB
  have HR := Lib.hid hR
  clear hR
  go_enter Try.func59, Try.ntmps59
  go_wp2_with fail
  have b0 : Blk (((w.alloc (.cells #[.int .u64 ah, .int .u64 al] 137)).alloc (.cells #[.int .u64 bh, .int .u64 bl] 137)).alloc (.cells #[.int .u64 0, .int .u64 0] 137)) w.heap.size #[.int .u64 ah, .int .u64 al] 137 := by simp (disch := first | omega | (simp only [sz_setCell, sz_alloc, sz_drew, sz_drewN]; done) | (simp only [sz_setCell, sz_alloc, sz_drew, sz_drewN]; omega)) [Blk, hp_same, hp_ne, hp_alloc, hp_new', hp_drew, hp_drewN, Obj.put]
  have b1 : Blk (((w.alloc (.cells #[.int .u64 ah, .int .u64 al] 137)).alloc (.cells #[.int .u64 bh, .int .u64 bl] 137)).alloc (.cells #[.int .u64 0, .int .u64 0] 137)) (w.heap.size + 1) #[.int .u64 bh, .int .u64 bl] 137 := by simp (disch := first | omega | (simp only [sz_setCell, sz_alloc, sz_drew, sz_drewN]; done) | (simp only [sz_setCell, sz_alloc, sz_drew, sz_drewN]; omega)) [Blk, hp_same, hp_ne, hp_alloc, hp_new', hp_drew, hp_drewN, Obj.put]
  have b2 : Blk (((w.alloc (.cells #[.int .u64 ah, .int .u64 al] 137)).alloc (.cells #[.int .u64 bh, .int .u64 bl] 137)).alloc (.cells #[.int .u64 0, .int .u64 0] 137)) (w.heap.size + 1 + 1) #[.int .u64 0, .int .u64 0] 137 := by simp (disch := first | omega | (simp only [sz_setCell, sz_alloc, sz_drew, sz_drewN]; done) | (simp only [sz_setCell, sz_alloc, sz_drew, sz_drewN]; omega)) [Blk, hp_same, hp_ne, hp_alloc, hp_new', hp_drew, hp_drewN, Obj.put]
  have u0 : Upd (fun _ => False) w _ := (((Upd.refl _ w).alloc (.cells #[.int .u64 ah, .int .u64 al] 137)).alloc (.cells #[.int .u64 bh, .int .u64 bl] 137)).alloc (.cells #[.int .u64 0, .int .u64 0] 137)
  generalize ((w.alloc (.cells #[.int .u64 ah, .int .u64 al] 137)).alloc (.cells #[.int .u64 bh, .int .u64 bl] 137)).alloc (.cells #[.int .u64 0, .int .u64 0] 137) = w1 at *
  obtain ⟨B, hB⟩ : ∃ B, B = w.heap.size := ⟨_, rfl⟩
  have HB := Lib.hid hB
  rw [← hB] at b0 b1 b2 ⊢
  clear hB
  have HU := Lib.hid u0
  clear u0
  have hs1 := b2.lt
  go_region_held3 (fun w' => w'.cell? ⟨B, 0, none⟩ = some (.int .u64 ah) ∧ w'.cell? ⟨B, 1, none⟩ = some (.int .u64 al) ∧ w'.cell? ⟨B + 1, 0, none⟩ = some (.int .u64 bh) ∧ w'.cell? ⟨B + 1, 1, none⟩ = some (.int .u64 bl)) (first | exact num_cells2 b0 b1 | exact num_cells2 b0' b1' | exact num_cells2 b0'' b1'' | go_keep) (first | (have _t := b0'; go_at_call 81; refine (hdB _).mono ?_; rintro e w3 ⟨v2, rfl, hO2, v3⟩; have b0'' := b0'.upd v3 (fun h => h); have b1'' := b1'.upd v3 (fun h => h)) | (go_at_call 81; refine (hdA _).mono ?_; rintro e w2 ⟨v1, rfl, hO1, v2'⟩; have v2 := Upd.of_drew v2'; have b0' := b0.upd v2 (fun h => h); have b1' := b1.upd v2 (fun h => h)))
  obtain ⟨gx, cx, rfl, hx1, hx2, hx3, hx4⟩ := IOwn.formp hO1 (by simp [digs_len])
  obtain ⟨gy, cy, rfl, hy1, hy2, hy3, hy4⟩ := IOwn.formp hO2 (by simp [digs_len])
  have hx1' : B + 1 + 1 < gx := Nat.lt_of_lt_of_le hs1 hx1
  have hOx : AddSt w1.heap.size w3 gx cx a b 0 0 := ⟨digs a, hO1.uq v3 (fun h => h), rfl, digs_dig a, by omega, by omega, by simp [val, digs_val a ha]⟩
  have hOy : IOwn w2.heap.size w3 (.slice (some ⟨gy, 0, none⟩) 8 cy) (digs b) := hO2
  have hr0 : Blk w3 (B + 1 + 1) #[.int .u64 0, .int .u64 0] 137 := (b2.upd (Upd.of_drew v2') (fun h => h)).upd v3 (fun h => h)
  have hU3 : Upd (fun b => B ≤ b) w w3 := (((HU.out.trans (Upd.of_drew v2')).trans v3)).mono (fun _ _ h => h.elim)
  rw [show (digs a).length = 8 from rfl, show (digs b).length = 8 from rfl]
  rw [digs_len] at hx3 hy3
  have hxy : ¬ gy = gx := by omega
  unfold maxLen at hx4 hy4
  clear hO1 hO2 v3 b0 b1 b2 b0' b1' b0'' b1'' _t hx1 hdA hdB HU hs1
  go_wp2_with fail
  go_loopw [8, 9] (fun c i wr => ∃ (k : Nat) (cc : Int), c = .int .i64 cc ∧ i = .int .i64 k ∧ k ≤ 8 ∧ AddSt w1.heap.size wr gx cx a b k cc ∧ IOwn w2.heap.size wr (.slice (some ⟨gy, 0, none⟩) 8 cy) (digs b) ∧ Blk wr (B + 1 + 1) #[.int .u64 0, .int .u64 0] 137 ∧ Upd (fun b => B ≤ b) w wr) (fun _ i _ => 8 - (intOf i).toNat)
  case atStart => exact ⟨0, 0, rfl, rfl, by omega, hOx, hOy, hr0, hU3⟩
  clear hOx hOy hr0 hU3
  case round =>
    obtain ⟨k, cc, rfl, rfl, hk, ⟨zs, hZ, hzl, hzd, hc0, hc1, hv⟩, hY, hr, hU⟩ := hrel
    by_cases hlt : k < 8
    · have hxk : zs[k]? = some zs[k] := List.getElem?_eq_getElem (by omega)
      have hyk : (digs b)[k]? = some (digs b)[k] := List.getElem?_eq_getElem hlt
      generalize zs[k] = x at hxk
      generalize (digs b)[k] = y at hyk
      have g0 := hZ.cell hzl.symm k x hxk
      have g1 := hY.cell rfl k y hyk
      have f0 := hZ.frozen hzl.symm k
      have dx := hzd.at hxk
      have dy := (digs_dig b).at hyk
      have HS := Lib.hid (add_step hzd ⟨hc0, hc1⟩ hv hxk hyk rfl)
      have hZs := fun z => IOwn.set hZ hzl.symm k z
      have HZ := Lib.hid hZs
      clear hZs hxk hyk hv hzd hZ
      go_wp2_with fail
      go_quiet (fail)
      go_wp2_with fail
      go_roundw
      have us : Upd (· = gx) wr ((wr.drewN nq).setCell ⟨gx, k, none⟩ (.int .i64 ((x + y + cc) % 65536))) := ((Upd.refl _ wr).drewN nq).setCell _ _ (.inl rfl)
      case rel => exact ⟨k + 1, (x + y + cc) / 65536, rfl, by go_num, by omega, ⟨zs.set k ((x + y + cc) % 65536), (HZ.out _).drewN nq, by simp [hzl], HS.out.2.2.1, HS.out.1, HS.out.2.1, HS.out.2.2.2⟩, hY.uq us hxy, hr.upd us (by omega), hU.then us (fun i hi e => by have := HB.out; omega)⟩
      case measure => simp [intOf]; omega
    · obtain rfl : k = 8 := by omega
      have hv8 : val zs + cc * 340282366920938463463374607431768211456 = a + b := by
        rw [show (digs b).take 8 = digs b from rfl, digs_val b hb, show pw 8 = 340282366920938463463374607431768211456 by unfold pw; decide] at hv
        exact hv
      have hvb := val_bound zs hzd
      rw [hzl, show pw 8 = 340282366920938463463374607431768211456 by unfold pw; decide] at hvb
      have hR2 : R = .tuple #[numV (val zs), .bool (decide (0 < cc))] := by
        have hdd : decide (340282366920938463463374607431768211456 ≤ a + b) = decide (0 < cc) := by
          rw [decide_eq_decide]
          exact ⟨fun h => by omega, fun h => by omega⟩
        rw [HR.out, show (a + b) % 340282366920938463463374607431768211456 = val zs by omega, hdd]
      obtain ⟨x0, x1, x2, x3, x4, x5, x6, x7, rfl⟩ := list8 hzl
      have hS : SlAt 1 intEnc (· < wr.heap.size) wr (.slice (some ⟨gx, 0, none⟩) 8 cx) ([x0, x1, x2, x3, x4, x5, x6, x7] ++ []) := (OwnV.sl (xs := [x0, x1, x2, x3, x4, x5, x6, x7]) hZ intEnc_len).mono (fun b hb => hb.2)
      have HR2 := Lib.hid hR2
      clear hv hv8 hvb hR2 hZ hzl
      have hd : decide ((8 : Nat) < 8) = false := rfl
      go_wp2_with fail
      refine (value_any _ x0 x1 x2 x3 x4 x5 x6 x7 [] hzd _ hS).mono ?_
      rintro e w5 ⟨rfl, u5⟩
      generalize val [x0, x1, x2, x3, x4, x5, x6, x7] = V at *
      have hr5 := hr.upd u5 (fun h => h)
      obtain ⟨vh, vl, hV⟩ : ∃ ah al : Int, numV V = .agg #[.int .u64 ah, .int .u64 al] := ⟨_, _, rfl⟩
      rw [hV] at HR2 ⊢
      have m0 : w5.cell? ⟨B + 1 + 1, 0, none⟩ = some (.int .u64 0) := hr5.cell 0
      have m1 : w5.cell? ⟨B + 1 + 1, 1, none⟩ = some (.int .u64 0) := hr5.cell 1
      have z0 : w5.frozen? ⟨B + 1 + 1, 0, none⟩ = false := hr5.frozen 0
      have z1 : w5.frozen? ⟨B + 1 + 1, 1, none⟩ = false := hr5.frozen 1
      clear hV hS
      go_wp2_with fail
      (try simp only [Exit.inBlock, Exit.then])
      refine bodyPost_ret (results_cell_tmp rfl _ _ (B + 1 + 1) 137 #[.int .u64 vh, .int .u64 vl] (0, 0) _ rfl (by show hp _ (B + 1 + 1) = _; simp (disch := first | omega | (simp only [sz_setCell, sz_alloc, sz_drew, sz_drewN]; done) | (simp only [sz_setCell, sz_alloc, sz_drew, sz_drewN]; omega)) [Blk, hp_same, hp_ne, hp_alloc, hp_new', hp_drew, hp_drewN, Obj.put, show hp w5 (B + 1 + 1) = _ from hr5]) Try.underlying137 rfl (by kernel_rfl)) rfl ?_
      exact ⟨by rw [HR2.out]; rfl, (((hU.trans (u5.mono (fun _ _ h => h.elim))).setCell ⟨B + 1 + 1, 0, none⟩ _ (.inl (by show B ≤ B + 1 + 1; omega))).setCell ⟨B + 1 + 1, 1, none⟩ _ (.inl (by show B ≤ B + 1 + 1; omega))).mono (fun i hi h => by have := HB.out; omega)⟩
set_option maxRecDepth 100000 in
set_option maxHeartbeats 2000000 in
theorem r1sub_any (a b : Int) (ha : N128 a) (hb : N128 b) (w : World) :
    Calls Try.prog 62 #[numV a, numV b] w fun e W' => e = .returned (.tuple #[numV ((a - b) % 340282366920938463463374607431768211456), .bool (decide (a < b))]) ∧ Upd (fun _ => False) w W' := by
  obtain ⟨R, hR⟩ : ∃ R : Value, R = .tuple #[numV ((a - b) % 340282366920938463463374607431768211456), .bool (decide (a < b))] := ⟨_, rfl⟩
  rw [← hR]
  have hdA := digits_any a ha
  have hdB := digits_any b hb
  obtain ⟨ah, al, hA⟩ : ∃ ah al : Int, numV a = .agg #[.int .u64 ah, .int .u64 al] := ⟨_, _, rfl⟩
  obtain ⟨bh, bl, hB⟩ : ∃ ah al : Int, numV b = .agg #[.int .u64 ah, .int .u64 al] := ⟨_, _, rfl⟩
  rw [hA] at hdA ⊢
  rw [hB] at hdB ⊢
  clear hA hB
  have HR := Lib.hid hR
  clear hR
  go_enter Try.func62, Try.ntmps62
  go_wp2_with fail
  have b0 : Blk (((w.alloc (.cells #[.int .u64 ah, .int .u64 al] 137)).alloc (.cells #[.int .u64 bh, .int .u64 bl] 137)).alloc (.cells #[.int .u64 0, .int .u64 0] 137)) w.heap.size #[.int .u64 ah, .int .u64 al] 137 := by simp (disch := first | omega | (simp only [sz_setCell, sz_alloc, sz_drew, sz_drewN]; done) | (simp only [sz_setCell, sz_alloc, sz_drew, sz_drewN]; omega)) [Blk, hp_same, hp_ne, hp_alloc, hp_new', hp_drew, hp_drewN, Obj.put]
  have b1 : Blk (((w.alloc (.cells #[.int .u64 ah, .int .u64 al] 137)).alloc (.cells #[.int .u64 bh, .int .u64 bl] 137)).alloc (.cells #[.int .u64 0, .int .u64 0] 137)) (w.heap.size + 1) #[.int .u64 bh, .int .u64 bl] 137 := by simp (disch := first | omega | (simp only [sz_setCell, sz_alloc, sz_drew, sz_drewN]; done) | (simp only [sz_setCell, sz_alloc, sz_drew, sz_drewN]; omega)) [Blk, hp_same, hp_ne, hp_alloc, hp_new', hp_drew, hp_drewN, Obj.put]
  have b2 : Blk (((w.alloc (.cells #[.int .u64 ah, .int .u64 al] 137)).alloc (.cells #[.int .u64 bh, .int .u64 bl] 137)).alloc (.cells #[.int .u64 0, .int .u64 0] 137)) (w.heap.size + 1 + 1) #[.int .u64 0, .int .u64 0] 137 := by simp (disch := first | omega | (simp only [sz_setCell, sz_alloc, sz_drew, sz_drewN]; done) | (simp only [sz_setCell, sz_alloc, sz_drew, sz_drewN]; omega)) [Blk, hp_same, hp_ne, hp_alloc, hp_new', hp_drew, hp_drewN, Obj.put]
  have u0 : Upd (fun _ => False) w _ := (((Upd.refl _ w).alloc (.cells #[.int .u64 ah, .int .u64 al] 137)).alloc (.cells #[.int .u64 bh, .int .u64 bl] 137)).alloc (.cells #[.int .u64 0, .int .u64 0] 137)
  generalize ((w.alloc (.cells #[.int .u64 ah, .int .u64 al] 137)).alloc (.cells #[.int .u64 bh, .int .u64 bl] 137)).alloc (.cells #[.int .u64 0, .int .u64 0] 137) = w1 at *
  obtain ⟨B, hB⟩ : ∃ B, B = w.heap.size := ⟨_, rfl⟩
  have HB := Lib.hid hB
  rw [← hB] at b0 b1 b2 ⊢
  clear hB
  have HU := Lib.hid u0
  clear u0
  have hs1 := b2.lt
  go_region_held3 (fun w' => w'.cell? ⟨B, 0, none⟩ = some (.int .u64 ah) ∧ w'.cell? ⟨B, 1, none⟩ = some (.int .u64 al) ∧ w'.cell? ⟨B + 1, 0, none⟩ = some (.int .u64 bh) ∧ w'.cell? ⟨B + 1, 1, none⟩ = some (.int .u64 bl)) (first | exact num_cells2 b0 b1 | exact num_cells2 b0' b1' | exact num_cells2 b0'' b1'' | go_keep) (first | (have _t := b0'; go_at_call 81; refine (hdB _).mono ?_; rintro e w3 ⟨v2, rfl, hO2, v3⟩; have b0'' := b0'.upd v3 (fun h => h); have b1'' := b1'.upd v3 (fun h => h)) | (go_at_call 81; refine (hdA _).mono ?_; rintro e w2 ⟨v1, rfl, hO1, v2'⟩; have v2 := Upd.of_drew v2'; have b0' := b0.upd v2 (fun h => h); have b1' := b1.upd v2 (fun h => h)))
  obtain ⟨gx, cx, rfl, hx1, hx2, hx3, hx4⟩ := IOwn.formp hO1 (by simp [digs_len])
  obtain ⟨gy, cy, rfl, hy1, hy2, hy3, hy4⟩ := IOwn.formp hO2 (by simp [digs_len])
  have hx1' : B + 1 + 1 < gx := Nat.lt_of_lt_of_le hs1 hx1
  have hOx : SubSt w1.heap.size w3 gx cx a b 0 0 := ⟨digs a, hO1.uq v3 (fun h => h), rfl, digs_dig a, by omega, by omega, by simp [val, digs_val a ha]⟩
  have hOy : IOwn w2.heap.size w3 (.slice (some ⟨gy, 0, none⟩) 8 cy) (digs b) := hO2
  have hr0 : Blk w3 (B + 1 + 1) #[.int .u64 0, .int .u64 0] 137 := (b2.upd (Upd.of_drew v2') (fun h => h)).upd v3 (fun h => h)
  have hU3 : Upd (fun b => B ≤ b) w w3 := (((HU.out.trans (Upd.of_drew v2')).trans v3)).mono (fun _ _ h => h.elim)
  rw [show (digs a).length = 8 from rfl, show (digs b).length = 8 from rfl]
  rw [digs_len] at hx3 hy3
  have hxy : ¬ gy = gx := by omega
  unfold maxLen at hx4 hy4
  clear hO1 hO2 v3 b0 b1 b2 b0' b1' b0'' b1'' _t hx1 hdA hdB HU hs1
  go_wp2_with fail
  go_loopw [8, 9] (fun c i wr => ∃ (k : Nat) (cc : Int), c = .int .i64 cc ∧ i = .int .i64 k ∧ k ≤ 8 ∧ SubSt w1.heap.size wr gx cx a b k cc ∧ IOwn w2.heap.size wr (.slice (some ⟨gy, 0, none⟩) 8 cy) (digs b) ∧ Blk wr (B + 1 + 1) #[.int .u64 0, .int .u64 0] 137 ∧ Upd (fun b => B ≤ b) w wr) (fun _ i _ => 8 - (intOf i).toNat)
  case atStart => exact ⟨0, 0, rfl, rfl, by omega, hOx, hOy, hr0, hU3⟩
  clear hOx hOy hr0 hU3
  case round =>
    obtain ⟨k, cc, rfl, rfl, hk, ⟨zs, hZ, hzl, hzd, hc0, hc1, hv⟩, hY, hr, hU⟩ := hrel
    by_cases hlt : k < 8
    · have hxk : zs[k]? = some zs[k] := List.getElem?_eq_getElem (by omega)
      have hyk : (digs b)[k]? = some (digs b)[k] := List.getElem?_eq_getElem hlt
      generalize zs[k] = x at hxk
      generalize (digs b)[k] = y at hyk
      have g0 := hZ.cell hzl.symm k x hxk
      have g1 := hY.cell rfl k y hyk
      have f0 := hZ.frozen hzl.symm k
      have dx := hzd.at hxk
      have dy := (digs_dig b).at hyk
      have HZ := Lib.hid (fun z => IOwn.set hZ hzl.symm k z)
      by_cases hneg : x - y - cc < 0
      · have HS := Lib.hid (sub_step hzd ⟨hc0, hc1⟩ hv hxk hyk rfl (.inr ⟨hneg, rfl, rfl⟩))
        have hdn : decide (x - y - cc < 0) = true := decide_eq_true hneg
        clear hxk hyk hv hzd hZ
        go_wp2_with fail
        go_quiet (fail)
        go_wp2_with fail
        go_roundw
        have us : Upd (· = gx) wr ((wr.drewN nq).setCell ⟨gx, k, none⟩ (.int .i64 (x - y - cc + 65536))) := ((Upd.refl _ wr).drewN nq).setCell _ _ (.inl rfl)
        case rel => exact ⟨k + 1, 1, rfl, by go_num, by omega, ⟨zs.set k (x - y - cc + 65536), (HZ.out _).drewN nq, by simp [hzl], HS.out.1, by omega, by omega, HS.out.2⟩, hY.uq us hxy, hr.upd us (by omega), hU.then us (fun i hi e => by have := HB.out; omega)⟩
        case measure => simp [intOf]; omega
      · have HS := Lib.hid (sub_step hzd ⟨hc0, hc1⟩ hv hxk hyk rfl (.inl ⟨hneg, rfl, rfl⟩))
        have hdn : decide (x - y - cc < 0) = false := decide_eq_false hneg
        clear hxk hyk hv hzd hZ
        go_wp2_with fail
        go_quiet (fail)
        go_wp2_with fail
        go_roundw
        have us : Upd (· = gx) wr ((wr.drewN nq).setCell ⟨gx, k, none⟩ (.int .i64 (x - y - cc))) := ((Upd.refl _ wr).drewN nq).setCell _ _ (.inl rfl)
        case rel => exact ⟨k + 1, 0, rfl, by go_num, by omega, ⟨zs.set k (x - y - cc), (HZ.out _).drewN nq, by simp [hzl], HS.out.1, by omega, by omega, HS.out.2⟩, hY.uq us hxy, hr.upd us (by omega), hU.then us (fun i hi e => by have := HB.out; omega)⟩
        case measure => simp [intOf]; omega
    · obtain rfl : k = 8 := by omega
      have hv8 : val zs - cc * 340282366920938463463374607431768211456 = a - b := by
        rw [show (digs b).take 8 = digs b from rfl, digs_val b hb, show pw 8 = 340282366920938463463374607431768211456 by unfold pw; decide] at hv
        exact hv
      have hvb := val_bound zs hzd
      rw [hzl, show pw 8 = 340282366920938463463374607431768211456 by unfold pw; decide] at hvb
      have hR2 : R = .tuple #[numV (val zs), .bool (decide (0 < cc))] := by
        have hdd : decide (a < b) = decide (0 < cc) := by
          rw [decide_eq_decide]
          exact ⟨fun h => by omega, fun h => by omega⟩
        rw [HR.out, show (a - b) % 340282366920938463463374607431768211456 = val zs by omega, hdd]
      obtain ⟨x0, x1, x2, x3, x4, x5, x6, x7, rfl⟩ := list8 hzl
      have hS : SlAt 1 intEnc (· < wr.heap.size) wr (.slice (some ⟨gx, 0, none⟩) 8 cx) ([x0, x1, x2, x3, x4, x5, x6, x7] ++ []) := (OwnV.sl (xs := [x0, x1, x2, x3, x4, x5, x6, x7]) hZ intEnc_len).mono (fun b hb => hb.2)
      have HR2 := Lib.hid hR2
      clear hv hv8 hvb hR2 hZ hzl
      have hd : decide ((8 : Nat) < 8) = false := rfl
      go_wp2_with fail
      refine (value_any _ x0 x1 x2 x3 x4 x5 x6 x7 [] hzd _ hS).mono ?_
      rintro e w5 ⟨rfl, u5⟩
      generalize val [x0, x1, x2, x3, x4, x5, x6, x7] = V at *
      have hr5 := hr.upd u5 (fun h => h)
      obtain ⟨vh, vl, hV⟩ : ∃ ah al : Int, numV V = .agg #[.int .u64 ah, .int .u64 al] := ⟨_, _, rfl⟩
      rw [hV] at HR2 ⊢
      have m0 : w5.cell? ⟨B + 1 + 1, 0, none⟩ = some (.int .u64 0) := hr5.cell 0
      have m1 : w5.cell? ⟨B + 1 + 1, 1, none⟩ = some (.int .u64 0) := hr5.cell 1
      have z0 : w5.frozen? ⟨B + 1 + 1, 0, none⟩ = false := hr5.frozen 0
      have z1 : w5.frozen? ⟨B + 1 + 1, 1, none⟩ = false := hr5.frozen 1
      clear hV hS
      go_wp2_with fail
      (try simp only [Exit.inBlock, Exit.then])
      refine bodyPost_ret (results_cell_tmp rfl _ _ (B + 1 + 1) 137 #[.int .u64 vh, .int .u64 vl] (0, 0) _ rfl (by show hp _ (B + 1 + 1) = _; simp (disch := first | omega | (simp only [sz_setCell, sz_alloc, sz_drew, sz_drewN]; done) | (simp only [sz_setCell, sz_alloc, sz_drew, sz_drewN]; omega)) [Blk, hp_same, hp_ne, hp_alloc, hp_new', hp_drew, hp_drewN, Obj.put, show hp w5 (B + 1 + 1) = _ from hr5]) Try.underlying137 rfl (by kernel_rfl)) rfl ?_
      exact ⟨by rw [HR2.out]; rfl, (((hU.trans (u5.mono (fun _ _ h => h.elim))).setCell ⟨B + 1 + 1, 0, none⟩ _ (.inl (by show B ≤ B + 1 + 1; omega))).setCell ⟨B + 1 + 1, 1, none⟩ _ (.inl (by show B ≤ B + 1 + 1; omega))).mono (fun i hi h => by have := HB.out; omega)⟩

set_option maxRecDepth 100000 in
set_option maxHeartbeats 1000000 in
theorem r1less_any (a b : Int) (ha : N128 a) (hb : N128 b) (w : World) :
    Calls Try.prog 61 #[numV a, numV b] w fun e W' => e = .returned (.bool (decide (a < b))) ∧ Upd (fun _ => False) w W' := by
  unfold N128 at ha hb
  unfold numV
  obtain ⟨R, hR⟩ : ∃ R : Value, R = .bool (decide (a < b)) := ⟨_, rfl⟩
  rw [← hR]
  have h1 : 0 ≤ a % 18446744073709551616 ∧ a % 18446744073709551616 < 18446744073709551616 := by omega
  have h2 : 0 ≤ b % 18446744073709551616 ∧ b % 18446744073709551616 < 18446744073709551616 := by omega
  have hab : (a < b) ↔ (a / 18446744073709551616 < b / 18446744073709551616 ∨ a / 18446744073709551616 = b / 18446744073709551616 ∧ a % 18446744073709551616 < b % 18446744073709551616) := by omega
  generalize a / 18446744073709551616 = ah at *
  generalize a % 18446744073709551616 = al at *
  generalize b / 18446744073709551616 = bh at *
  generalize b % 18446744073709551616 = bl at *
  have hR' : R = .bool (decide (ah < bh ∨ ah = bh ∧ al < bl)) := by rw [hR]; congr 1; rw [decide_eq_decide]; exact hab
  have HR := Lib.hid hR'
  clear hR hR' hab h1 h2 ha hb
  by_cases c1 : ah < bh
  · have d1 : decide (ah < bh) = true := decide_eq_true c1
    go_enter Try.func61, Try.ntmps61
    go_wp2_with fail
    go_ret
    exact ⟨by rw [HR.out]; simp [c1], ((Upd.refl _ w).alloc _).alloc _⟩
  · have d1 : decide (ah < bh) = false := decide_eq_false c1
    by_cases c2 : ah = bh
    · subst c2
      have d2 : (ah == ah) = true := by simp
      go_enter Try.func61, Try.ntmps61
      go_wp2_with fail
      go_ret
      exact ⟨by rw [HR.out]; simp, ((Upd.refl _ w).alloc _).alloc _⟩
    · have d2 : (ah == bh) = false := by simpa using c2
      go_enter Try.func61, Try.ntmps61
      go_wp2_with fail
      go_ret
      exact ⟨by rw [HR.out]; simp [c1, c2], ((Upd.refl _ w).alloc _).alloc _⟩
end Go.Proofs.Yteaihgjjplgalaa
