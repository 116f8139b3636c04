/- steady.gap over the iterator: a contract, walked. -/
import Derived.Test.YteaihgjjplgalaaBurstR
import Derived.Test.YteaihgjjplgalaaFix
import Derived.Deep.RegionHeld3
namespace Go.Proofs.Yteaihgjjplgalaa.Rd
open Go.RowKit Go.Shelf
set_option linter.unusedVariables false
set_option linter.unusedSimpArgs false
attribute [local go_sem] Oper.semAt_some

theorem KeepsFrom.drw {B : Nat} {A W : World} (h : KeepsFrom B A W) : KeepsFrom B A W.drew := ⟨h.size, h.same⟩
theorem ret_pair {a b : Int} {t : Bool} (h : a = b) : Ending.returned (.tuple #[.int .i64 a, .bool t]) = .returned (.tuple #[.int .i64 b, .bool t]) := by rw [h]
/-- most, some, last, end. -/
structure GapS where
  most : Int
  some : Bool
  last : Int
  ende : Int
def gstep (kind : Int) (p : GapS) (s : StepD) : GapS :=
  if s.k = kind then ⟨max p.most (sat (s.now - p.last)), true, s.now, s.now⟩ else ⟨p.most, p.some, p.last, s.now⟩
def gfold (kind from_ : Int) (xs : List StepD) : GapS := xs.foldl (gstep kind) ⟨0, false, from_, from_⟩
theorem gfold_snoc (kind from_ : Int) (xs : List StepD) (x : StepD) : gfold kind from_ (xs ++ [x]) = gstep kind (gfold kind from_ xs) x := by simp [gfold]
theorem gfold_i64' (kind : Int) : ∀ (xs : List StepD) (p : GapS), I64 p.most → I64 p.last → I64 p.ende → I64 (xs.foldl (gstep kind) p).most ∧ I64 (xs.foldl (gstep kind) p).last ∧ I64 (xs.foldl (gstep kind) p).ende
  | [], p, h1, h2, h3 => ⟨h1, h2, h3⟩
  | x :: xs, p, h1, h2, h3 => by
    have hx := x.hb.1
    have hs := sat_i64 (x.now - p.last)
    refine gfold_i64' kind xs (gstep kind p x) ?_ ?_ ?_
    all_goals
      unfold gstep
      split
      all_goals
        dsimp only
        first | exact hx | exact h1 | exact h2 | (simp only [I64] at *; omega)
theorem gfold_i64 (kind from_ : Int) (xs : List StepD) (hf : I64 from_) : I64 (gfold kind from_ xs).most ∧ I64 (gfold kind from_ xs).last ∧ I64 (gfold kind from_ xs).ende :=
  gfold_i64' kind xs ⟨0, false, from_, from_⟩ (by show I64 0; unfold I64; omega) hf hf

/-- what gap answers. -/
def gapV (kind from_ : Int) (xs : List StepD) : Int × Bool :=
  let p := gfold kind from_ (later from_ xs)
  if p.some then (max p.most (sat (p.ende - p.last)), true) else (0, false)

set_option maxRecDepth 100000 in
set_option maxHeartbeats 2000000 in
theorem gap_any (sv : Value) (xs : List StepD) (from_ kind : Int) (hf : I64 from_) (w : World) (hI : StepsAt (· < w.heap.size) w sv xs) :
    Calls Try.prog 63 #[sv, .int .i64 from_, .int .u8 kind] w fun e W' => e = .returned (.tuple #[.int .i64 (gapV kind from_ xs).1, .bool (gapV kind from_ xs).2]) ∧ Upd (fun _ => False) w W' := by
  obtain ⟨a, cap, rfl, -⟩ := id hI
  refine (callsIn_wide (n := 3)).1 ?_
  refine callsIn_of_wp_marks Try.func63 rfl trivial ?_ rfl
  simp only [Try.ntmps63, List.size_toArray, List.length_cons, List.length_nil, Nat.reduceAdd, Nat.reduceSub, Array.replicate_succ, Array.replicate_zero, List.push_toArray, List.append_toArray, List.nil_append, List.cons_append]
  gi_wp2_with (refine ⟨trivial, ?_⟩; gi_at_call 57; refine (since_in Fence.wide _ trivial rfl _ _ _ _ _).mono ?_; rintro e w' ⟨rfl, rfl⟩)
  obtain ⟨M, hM⟩ : ∃ M, w.heap.size = M := ⟨_, rfl⟩
  obtain ⟨w4, hw4⟩ : ∃ w4, w4 = (((((((w.alloc (Obj.cells #[Value.int IntKind.u8 kind] 5)).alloc (Obj.cells #[Value.int IntKind.i64 0] 2)).alloc (Obj.cells #[Value.bool false] 4)).alloc (Obj.cells #[Value.int IntKind.i64 from_] 2)).alloc (Obj.cells #[Value.int IntKind.i64 from_] 2)).alloc (Obj.cells #[Value.slice a xs.length cap] 66)).alloc (Obj.cells #[Value.int IntKind.i64 from_] 2)) := ⟨_, rfl⟩
  rw [← hw4]
  have hsz : w4.heap.size = M + 7 := by rw [hw4]; simp [hM]
  have b0 : Blk w4 (M + 0) #[.int .u8 kind] 5 := by rw [hw4, ← hM]; simp (disch := first | omega | (simp only [sz_setCell, sz_alloc, sz_drew, sz_drewN]; done) | (simp only [sz_setCell, sz_alloc, sz_drew, sz_drewN]; omega)) [Blk, hp_same, hp_ne, hp_alloc, hp_new', hp_drew, hp_drewN, Obj.put]
  have b1 : Blk w4 (M + 1) #[.int .i64 0] 2 := by rw [hw4, ← hM]; simp (disch := first | omega | (simp only [sz_setCell, sz_alloc, sz_drew, sz_drewN]; done) | (simp only [sz_setCell, sz_alloc, sz_drew, sz_drewN]; omega)) [Blk, hp_same, hp_ne, hp_alloc, hp_new', hp_drew, hp_drewN, Obj.put]
  have b2 : Blk w4 (M + 2) #[.bool false] 4 := by rw [hw4, ← hM]; simp (disch := first | omega | (simp only [sz_setCell, sz_alloc, sz_drew, sz_drewN]; done) | (simp only [sz_setCell, sz_alloc, sz_drew, sz_drewN]; omega)) [Blk, hp_same, hp_ne, hp_alloc, hp_new', hp_drew, hp_drewN, Obj.put]
  have b3 : Blk w4 (M + 3) #[.int .i64 from_] 2 := by rw [hw4, ← hM]; simp (disch := first | omega | (simp only [sz_setCell, sz_alloc, sz_drew, sz_drewN]; done) | (simp only [sz_setCell, sz_alloc, sz_drew, sz_drewN]; omega)) [Blk, hp_same, hp_ne, hp_alloc, hp_new', hp_drew, hp_drewN, Obj.put]
  have b4 : Blk w4 (M + 4) #[.int .i64 from_] 2 := by rw [hw4, ← hM]; simp (disch := first | omega | (simp only [sz_setCell, sz_alloc, sz_drew, sz_drewN]; done) | (simp only [sz_setCell, sz_alloc, sz_drew, sz_drewN]; omega)) [Blk, hp_same, hp_ne, hp_alloc, hp_new', hp_drew, hp_drewN, Obj.put]
  have b5 : Blk w4 (M + 5) #[.slice a xs.length cap] 66 := by rw [hw4, ← hM]; simp (disch := first | omega | (simp only [sz_setCell, sz_alloc, sz_drew, sz_drewN]; done) | (simp only [sz_setCell, sz_alloc, sz_drew, sz_drewN]; omega)) [Blk, hp_same, hp_ne, hp_alloc, hp_new', hp_drew, hp_drewN, Obj.put]
  have b6 : Blk w4 (M + 6) #[.int .i64 from_] 2 := by rw [hw4, ← hM]; simp (disch := first | omega | (simp only [sz_setCell, sz_alloc, sz_drew, sz_drewN]; done) | (simp only [sz_setCell, sz_alloc, sz_drew, sz_drewN]; omega)) [Blk, hp_same, hp_ne, hp_alloc, hp_new', hp_drew, hp_drewN, Obj.put]
  have u4 : Upd (fun _ => False) w w4 := by rw [hw4]; exact (((((((Upd.refl _ w).alloc _).alloc _).alloc _).alloc _).alloc _).alloc _).alloc _
  clear hw4
  rw [hM] at hI ⊢
  refine wpIn_rangeFunc_ownH (Kp := Keep (M + 7) (fun k => M + 1 ≤ k ∧ k ≤ M + 4)) rfl (by omega) (gf := 80) (lb := #[.pointer (some ⟨M + 5, 0, none⟩), .pointer (some ⟨M + 6, 0, none⟩)]) rfl trivial (enters_of Try.func80 (by kernel_rfl) rfl)
    (since_stops Fence.wide 2 trivial rfl (by omega) (M + 5) (M + 6) (fun b => b < M ∨ b = M + 5 ∨ b = M + 6) _ xs from_ (Keep (M + 7) (fun k => M + 1 ≤ k ∧ k ≤ M + 4)) (fun A B hk b hb => hk.block b (by omega) (by omega)) (fun A B hk => hk.size) w4 (fun b hb => by omega) (by omega) (b5.cell 0) (b6.cell 0) (by omega)
      ((SlR.kept hI (fun b hb => u4.block b (by omega) (fun h => h))).mono (fun b hb => .inl hb)))
    (fun h k => h.trans k) (keepK_b (by omega)) (Below.refl _ _) (fun _ => rfl)
    (fun pre W => (Blk W M #[.int .u8 kind] 5 ∧ Blk W (M + 1) #[.int .i64 (gfold kind from_ pre).most] 2 ∧ Blk W (M + 2) #[.bool (gfold kind from_ pre).some] 4 ∧ Blk W (M + 3) #[.int .i64 (gfold kind from_ pre).last] 2 ∧ Blk W (M + 4) #[.int .i64 (gfold kind from_ pre).ende] 2) ∧ (Keep M (fun _ => False) w W ∧ M + 7 ≤ W.heap.size))
    (fun _ _ _ => False)
    (OwnFrom.and (OwnFrom.and ((own_blk (fun _ => M) _ _).from _) (OwnFrom.and ((own_blk (fun _ => M + 1) _ _).from _) (OwnFrom.and ((own_blk (fun _ => M + 2) _ _).from _) (OwnFrom.and ((own_blk (fun _ => M + 3) _ _).from _) ((own_blk (fun _ => M + 4) _ _).from _))))) (OwnFrom.and (ownFrom_keep (by omega) (by omega)) (ownFrom_size _ _)))
    (fun _ _ _ _ _ hs _ _ => hs)
    ⟨⟨b0, b1, b2, b3, b4⟩, ⟨u4.os, u4.tape, u4.output, u4.size, fun k hk hs => u4.block k (by omega) hs⟩, by omega⟩
    (fun x a' W => ∃ Bx, M + 7 ≤ Bx ∧ Blk W Bx x.cells.toArray 69 ∧ a' = { tmps := #[.slice a xs.length cap, .int .i64 from_, .int .u8 kind, undef, undef, .pointer (some ⟨M, 0, none⟩), .int .i64 0, .bool false, .pointer (some ⟨M + 1, 0, none⟩), .pointer (some ⟨M + 2, 0, none⟩), .pointer (some ⟨M + 3, 0, none⟩), .pointer (some ⟨M + 4, 0, none⟩), .pointer (some ⟨Bx, 0, none⟩), .int .i64 from_, .int .i64 from_, .slice a xs.length cap, .int .i64 from_, .func (.func 80) #[] #[.pointer (some ⟨M + 5, 0, none⟩), .pointer (some ⟨M + 6, 0, none⟩)], .agg x.cells.toArray, undef, undef, undef, undef, undef, undef, undef, undef, undef, undef, undef, undef, undef, undef, undef, undef, undef, undef, undef, undef, undef, undef], defers := [] })
    (fun x a' s W W' row hs hg hr => by
      obtain ⟨Bx, hBx, hb, e⟩ := hs
      exact ⟨Bx, hBx, own_blk (β := Unit) (fun _ => Bx) (fun _ => x.cells.toArray) _ () W W' row hb hg (fun r e => (hr r e).2), e⟩)
    ?assign ?body ?done ?stop
  case assign =>
    rintro l pre x W K ⟨⟨i0, i1, i2, i3, i4⟩, ik, isz⟩ hK
    have hl0 := i0.lt
    have hl1 := i1.lt
    have hl2 := i2.lt
    have hl3 := i3.lt
    have hl4 := i4.lt
    obtain ⟨now, kk, t, c, nn, aa, ii, t2, c2, s2, ga, gl, gc, hbd⟩ := x
    have HK := Lib.hid hK
    clear hK
    simp only [StepD.cells]
    gi_wp2
    exact HK.out _ _ ((KeepsOthers.alloc _ _).from _) ((Keep.refl _ _ W).alloc isz _) ⟨⟨(hp_alloc _ _ _ hl0).trans i0, (hp_alloc _ _ _ hl1).trans i1, (hp_alloc _ _ _ hl2).trans i2, (hp_alloc _ _ _ hl3).trans i3, (hp_alloc _ _ _ hl4).trans i4⟩, ik.alloc (by omega) _, by simp; omega⟩ ⟨W.heap.size, isz, Blk.new _ _ _, rfl⟩
  case body =>
    rintro l pre x a' W hl ⟨r, hr⟩ ⟨⟨i0, i1, i2, i3, i4⟩, ik, isz⟩ ⟨Bx, hBx, bX, rfl⟩ hlt
    have hl0 := i0.lt
    have hl1 := i1.lt
    have hl2 := i2.lt
    have hl3 := i3.lt
    have hl4 := i4.lt
    have hlX := bX.lt
    have hfb := gfold_i64 kind from_ pre hf
    have HB' := gfold_snoc kind from_ pre x
    generalize pre ++ [x] = ys at HB' ⊢
    have HB := Lib.hid HB'
    clear HB'
    generalize gfold kind from_ pre = q at i1 i2 i3 i4 hfb HB
    obtain ⟨q1, q2, q3, q4⟩ := q
    obtain ⟨now, kk, t, c, nn, aa, ii, t2, c2, s2, ga, gl, gc, hbd⟩ := x
    simp only [StepD.cells] at bX ⊢
    simp only [] at i1 i2 i3 i4 hfb hbd
    have cc0 := i0.cell
    have cc1 := i1.cell
    have cc2 := i2.cell
    have cc3 := i3.cell
    have cc4 := i4.cell
    have cX := bX.cell
    have f1 := i1.frozen
    have f2 := i2.frozen
    have f3 := i3.frozen
    have f4 := i4.frozen
    have H3 := Lib.hid hfb
    have H1 := Lib.hid hbd.1
    clear hr hfb
    by_cases k0 : kk = kind
    · subst k0
      have hmo : Try.prog.follows Departure.mixedOrders = true := by kernel_rfl
      gi_wp2
      gi_region_with_o (refine ⟨trivial, ?_⟩; gi_at_call 83; refine (CallsIn.inRound l (callsIn_wide.2 (fix_sub _ _ _ H1.out H3.out.2.1))).mono ?_; rintro e w' ⟨rfl, rfl⟩)
      all_goals gi_wp2
      all_goals
        refine ⟨?_, ?_, ⟨?_, ?_, ?_, ?_, ?_⟩, ?_, ?_⟩
        · repeat (first | with_reducible exact KeepsFrom.refl _ _ | with_reducible refine KeepsFrom.set ?_ _ _ | with_reducible refine KeepsFrom.drw ?_)
        · repeat (first | with_reducible exact Keep.refl _ _ _ | with_reducible refine Keep.drew ?_ | with_reducible refine Keep.setCell ?_ _ _ (.inl (by simp)))
        · simp (disch := first | omega | (simp only [sz_setCell, sz_alloc, sz_drew, sz_drewN]; done) | (simp only [sz_setCell, sz_alloc, sz_drew, sz_drewN]; omega)) [Blk, hp_same, hp_ne, hp_alloc, hp_new', hp_drew, hp_drewN, Obj.put, show hp W M = _ from i0]
        · rw [HB.out]
          simp (disch := first | omega | (simp only [sz_setCell, sz_alloc, sz_drew, sz_drewN]; done) | (simp only [sz_setCell, sz_alloc, sz_drew, sz_drewN]; omega)) [Blk, hp_same, hp_ne, hp_alloc, hp_new', hp_drew, hp_drewN, Obj.put, show hp W (M + 1) = _ from i1, gstep] <;> omega
        · rw [HB.out]
          simp (disch := first | omega | (simp only [sz_setCell, sz_alloc, sz_drew, sz_drewN]; done) | (simp only [sz_setCell, sz_alloc, sz_drew, sz_drewN]; omega)) [Blk, hp_same, hp_ne, hp_alloc, hp_new', hp_drew, hp_drewN, Obj.put, show hp W (M + 2) = _ from i2, gstep]
        · rw [HB.out]
          simp (disch := first | omega | (simp only [sz_setCell, sz_alloc, sz_drew, sz_drewN]; done) | (simp only [sz_setCell, sz_alloc, sz_drew, sz_drewN]; omega)) [Blk, hp_same, hp_ne, hp_alloc, hp_new', hp_drew, hp_drewN, Obj.put, show hp W (M + 3) = _ from i3, gstep]
        · rw [HB.out]
          simp (disch := first | omega | (simp only [sz_setCell, sz_alloc, sz_drew, sz_drewN]; done) | (simp only [sz_setCell, sz_alloc, sz_drew, sz_drewN]; omega)) [Blk, hp_same, hp_ne, hp_alloc, hp_new', hp_drew, hp_drewN, Obj.put, show hp W (M + 4) = _ from i4, gstep]
        · repeat (first | with_reducible exact ik | with_reducible refine Keep.drew ?_ | with_reducible refine Keep.setCell ?_ _ _ (.inr (by simp)))
        · simpa [sz_setCell] using isz
    · have k0' : (kk != kind) = true := by simpa using k0
      gi_wp2
      all_goals
        refine ⟨?_, ?_, ⟨?_, ?_, ?_, ?_, ?_⟩, ?_, ?_⟩
        · repeat (first | with_reducible exact KeepsFrom.refl _ _ | with_reducible refine KeepsFrom.set ?_ _ _ | with_reducible refine KeepsFrom.drw ?_)
        · repeat (first | with_reducible exact Keep.refl _ _ _ | with_reducible refine Keep.drew ?_ | with_reducible refine Keep.setCell ?_ _ _ (.inl (by simp)))
        · simp (disch := first | omega | (simp only [sz_setCell, sz_alloc, sz_drew, sz_drewN]; done) | (simp only [sz_setCell, sz_alloc, sz_drew, sz_drewN]; omega)) [Blk, hp_same, hp_ne, hp_alloc, hp_new', hp_drew, hp_drewN, Obj.put, show hp W M = _ from i0]
        · rw [HB.out]
          simp (disch := first | omega | (simp only [sz_setCell, sz_alloc, sz_drew, sz_drewN]; done) | (simp only [sz_setCell, sz_alloc, sz_drew, sz_drewN]; omega)) [Blk, hp_same, hp_ne, hp_alloc, hp_new', hp_drew, hp_drewN, Obj.put, show hp W (M + 1) = _ from i1, gstep, k0]
        · rw [HB.out]
          simp (disch := first | omega | (simp only [sz_setCell, sz_alloc, sz_drew, sz_drewN]; done) | (simp only [sz_setCell, sz_alloc, sz_drew, sz_drewN]; omega)) [Blk, hp_same, hp_ne, hp_alloc, hp_new', hp_drew, hp_drewN, Obj.put, show hp W (M + 2) = _ from i2, gstep, k0]
        · rw [HB.out]
          simp (disch := first | omega | (simp only [sz_setCell, sz_alloc, sz_drew, sz_drewN]; done) | (simp only [sz_setCell, sz_alloc, sz_drew, sz_drewN]; omega)) [Blk, hp_same, hp_ne, hp_alloc, hp_new', hp_drew, hp_drewN, Obj.put, show hp W (M + 3) = _ from i3, gstep, k0]
        · rw [HB.out]
          simp (disch := first | omega | (simp only [sz_setCell, sz_alloc, sz_drew, sz_drewN]; done) | (simp only [sz_setCell, sz_alloc, sz_drew, sz_drewN]; omega)) [Blk, hp_same, hp_ne, hp_alloc, hp_new', hp_drew, hp_drewN, Obj.put, show hp W (M + 4) = _ from i4, gstep, k0]
        · repeat (first | with_reducible exact ik | with_reducible refine Keep.drew ?_ | with_reducible refine Keep.setCell ?_ _ _ (.inr (by simp)))
        · simpa [sz_setCell] using isz
  case done =>
    rintro D ys W hD rfl ⟨⟨i0, i1, i2, i3, i4⟩, ik, isz⟩ hK
    have hfb := gfold_i64 kind from_ (later from_ xs) hf
    have hq : gapV kind from_ xs = (if (gfold kind from_ (later from_ xs)).some then (max (gfold kind from_ (later from_ xs)).most (sat ((gfold kind from_ (later from_ xs)).ende - (gfold kind from_ (later from_ xs)).last)), true) else (0, false)) := rfl
    generalize gfold kind from_ (later from_ xs) = q at i1 i2 i3 i4 hfb hq
    obtain ⟨q1, q2, q3, q4⟩ := q
    simp only [] at i1 i2 i3 i4 hfb hq
    have cc1 := i1.cell
    have cc2 := i2.cell
    have cc3 := i3.cell
    have cc4 := i4.cell
    have HQ := Lib.hid hq
    have H3 := Lib.hid hfb
    clear hq hfb
    have hmo : Try.prog.follows Departure.mixedOrders = true := by kernel_rfl
    have hG : Upd (fun _ => False) w (W.putObj D (.deferred none)) := Keep.upd (by rw [hM]; exact ik.grown (by omega) (grownBy_putObj' _ D (.deferred none)) (fun k e => by cases e; omega))
    cases q2
    · gi_wp2
      rw [HQ.out]
      refine ⟨by simp, .inl ⟨_, _, rfl, run_takeDeferred hK, ?_⟩⟩
      exact ⟨_, results_tmp2 rfl _ _ _, rfl, hG⟩
    · have hGd : Upd (fun _ => False) w (W.drew.putObj D (.deferred none)) := Keep.upd (by rw [hM]; exact ik.drew.grown (by show M ≤ W.heap.size; omega) (grownBy_putObj' _ D (.deferred none)) (fun k e => by cases e; omega))
      have hKd : W.drew.heap[D]? = some (.deferred (some [])) := hK
      gi_wp2
      refine Code.wpIn_mono NoPanic.imp ?_
      gi_region_with_o (refine ⟨trivial, ?_⟩; gi_at_call 83; refine (callsIn_wide.2 (fix_sub _ _ _ H3.out.2.2 H3.out.2.1)).mono ?_; rintro e w' ⟨rfl, rfl⟩)
      all_goals
        refine NoPanic.normal ?_
        gi_wp2
      all_goals
        rw [HQ.out]
        refine ⟨by simp, .inl ⟨_, _, rfl, run_takeDeferred hKd, ?_⟩⟩
        refine ⟨_, results_tmp2 rfl _ _ _, ?_, hGd⟩
        refine ret_pair ?_
        (try dsimp only)
        (try rw [if_pos trivial])
        (try dsimp only)
        omega
  case stop =>
    rintro D c pre W _ _ hf _
    exact hf.elim

/-- steady.Gap. -/
theorem gap_poll (sv : Value) (xs : List StepD) (from_ : Int) (hf : I64 from_) (w : World) (hI : StepsAt (· < w.heap.size) w sv xs) :
    Calls Try.prog 32 #[sv, .int .i64 from_] w fun e W' => e = .returned (.tuple #[.int .i64 (gapV 1 from_ xs).1, .bool (gapV 1 from_ xs).2]) ∧ Upd (fun _ => False) w W' := by
  go_enter Try.func32, Try.ntmps32
  go_wp2_with fail
  refine (gap_any sv xs from_ 1 hf w hI).mono ?_
  rintro e w' ⟨rfl, hu⟩
  go_wp2_with fail
  go_ret2
  exact ⟨rfl, hu⟩
end Go.Proofs.Yteaihgjjplgalaa.Rd
