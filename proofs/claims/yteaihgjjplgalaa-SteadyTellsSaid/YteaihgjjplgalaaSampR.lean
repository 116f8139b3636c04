/- steady.Samples: a contract, walked. -/
import Derived.Test.YteaihgjjplgalaaGapR
import Derived.Test.YteaihgjjplgalaaConf
namespace Go.Proofs.Yteaihgjjplgalaa.Rd
open Go.RowKit Go.Shelf
set_option linter.unusedVariables false
set_option linter.unusedSimpArgs false

attribute [local go_sem] Oper.semAt_some

def busyS (set : Int) (s : StepD) : Bool := s.k == 2 && decide (set < s.n)
def busyAny (set : Int) (l : List StepD) : Bool := l.any (busyS set)
def sampV (set from_ : Int) (xs : List StepD) : Int × Bool := if busyAny set (later from_ xs) then (0, false) else gapV 2 from_ xs
theorem results_cell2 {P : Program} {fn : Func} {p p' : Tmp} {ty ty' : TypeId} (h : fn.results = #[.cell p ty, .cell p' ty']) (tmps : Array Value) (w : World) (g g' : Nat) (t t' : TypeId) (v v' : Value)
    (hp : tmps.getD p undef = .pointer (some ⟨g, 0, none⟩)) (hg : Blk w g #[v] t) (hu : ∀ w, (isAgg ty).run P w = .ok false w)
    (hp' : tmps.getD p' undef = .pointer (some ⟨g', 0, none⟩)) (hg' : Blk w g' #[v'] t') (hu' : ∀ w, (isAgg ty').run P w = .ok false w) :
    (results fn tmps).run P w = .ok (.tuple #[v, v']) w := by
  have h1 : tmps[p]?.getD undef = .pointer (some ⟨g, 0, none⟩) := by simpa using hp
  have h2 : tmps[p']?.getD undef = .pointer (some ⟨g', 0, none⟩) := by simpa using hp'
  have c1 : w.cell? ⟨g, 0, none⟩ = some v := hg.cell 0
  have c2 : w.cell? ⟨g', 0, none⟩ = some v' := hg'.cell 0
  simp [results, h, h1, h2, asAddr, go_sem, hu, hu', c1, c2]
theorem isAgg64 (w : World) : (isAgg 2).run Try.prog w = .ok false w := by kernel_rfl
theorem isAggB (w : World) : (isAgg 4).run Try.prog w = .ok false w := by kernel_rfl
set_option maxRecDepth 100000 in
set_option maxHeartbeats 4000000 in
theorem samp_any (c : ConfD) (sv : Value) (xs : List StepD) (from_ : Int) (hf : I64 from_) (w : World) (hI : StepsAt (· < w.heap.size) w sv xs) :
    Calls Try.prog 48 #[.agg c.cells, sv, .int .i64 from_] w fun e W' => e = .returned (.tuple #[.int .i64 (sampV c.sp from_ xs).1, .bool (sampV c.sp from_ xs).2]) ∧ Upd (fun _ => False) w W' := by
  obtain ⟨a, cap, rfl, -⟩ := id hI
  refine (callsIn_wide (n := 3)).1 ?_
  refine callsIn_of_wp_marks Try.func48 rfl trivial ?_ rfl
  simp only [Try.ntmps48, List.size_toArray, List.length_cons, List.length_nil, Nat.reduceAdd, Nat.reduceSub, Array.replicate_succ, Array.replicate_zero, List.push_toArray, List.append_toArray, List.nil_append, List.cons_append]
  gi_wp2_with (refine ⟨trivial, ?_⟩; gi_at_call 57; refine (since_in Fence.wide _ trivial rfl _ _ _ _ _).mono ?_; rintro e w' ⟨rfl, rfl⟩)
  obtain ⟨M, hM⟩ : ∃ M, w.heap.size = M := ⟨_, rfl⟩
  obtain ⟨w4, hw4⟩ : ∃ w4, w4 = (((((w.alloc (Obj.cells c.cells 79)).alloc (Obj.cells #[Value.int IntKind.i64 0] 2)).alloc (Obj.cells #[Value.bool false] 4)).alloc (Obj.cells #[Value.slice a xs.length cap] 66)).alloc (Obj.cells #[Value.int IntKind.i64 from_] 2)) := ⟨_, rfl⟩
  rw [← hw4]
  have hsz : w4.heap.size = M + 5 := by rw [hw4]; simp [hM]
  have b0 : Blk w4 (M + 0) c.cells 79 := by rw [hw4, ← hM]; simp (disch := first | omega | (simp only [sz_setCell, sz_alloc, sz_drew, sz_drewN]; done) | (simp only [sz_setCell, sz_alloc, sz_drew, sz_drewN]; omega)) [Blk, hp_same, hp_ne, hp_alloc, hp_new', hp_drew, hp_drewN, Obj.put]
  have b1 : Blk w4 (M + 1) #[.int .i64 0] 2 := by rw [hw4, ← hM]; simp (disch := first | omega | (simp only [sz_setCell, sz_alloc, sz_drew, sz_drewN]; done) | (simp only [sz_setCell, sz_alloc, sz_drew, sz_drewN]; omega)) [Blk, hp_same, hp_ne, hp_alloc, hp_new', hp_drew, hp_drewN, Obj.put]
  have b2 : Blk w4 (M + 2) #[.bool false] 4 := by rw [hw4, ← hM]; simp (disch := first | omega | (simp only [sz_setCell, sz_alloc, sz_drew, sz_drewN]; done) | (simp only [sz_setCell, sz_alloc, sz_drew, sz_drewN]; omega)) [Blk, hp_same, hp_ne, hp_alloc, hp_new', hp_drew, hp_drewN, Obj.put]
  have b5 : Blk w4 (M + 3) #[.slice a xs.length cap] 66 := by rw [hw4, ← hM]; simp (disch := first | omega | (simp only [sz_setCell, sz_alloc, sz_drew, sz_drewN]; done) | (simp only [sz_setCell, sz_alloc, sz_drew, sz_drewN]; omega)) [Blk, hp_same, hp_ne, hp_alloc, hp_new', hp_drew, hp_drewN, Obj.put]
  have b6 : Blk w4 (M + 4) #[.int .i64 from_] 2 := by rw [hw4, ← hM]; simp (disch := first | omega | (simp only [sz_setCell, sz_alloc, sz_drew, sz_drewN]; done) | (simp only [sz_setCell, sz_alloc, sz_drew, sz_drewN]; omega)) [Blk, hp_same, hp_ne, hp_alloc, hp_new', hp_drew, hp_drewN, Obj.put]
  have u4 : Upd (fun _ => False) w w4 := by rw [hw4]; exact (((((Upd.refl _ w).alloc _).alloc _).alloc _).alloc _).alloc _
  clear hw4
  rw [hM] at hI ⊢
  refine wpIn_rangeFunc_ownH (Kp := Keep (M + 5) (fun k => M + 1 ≤ k ∧ k ≤ M + 2)) rfl (by omega) (gf := 80) (lb := #[.pointer (some ⟨M + 3, 0, none⟩), .pointer (some ⟨M + 4, 0, none⟩)]) rfl trivial (enters_of Try.func80 (by kernel_rfl) rfl)
    (since_stops Fence.wide 2 trivial rfl (by omega) (M + 3) (M + 4) (fun b => b < M ∨ b = M + 3 ∨ b = M + 4) _ xs from_ (Keep (M + 5) (fun k => M + 1 ≤ k ∧ k ≤ M + 2)) (fun A B hk b hb => hk.block b (by omega) (by omega)) (fun A B hk => hk.size) w4 (fun b hb => by omega) (by omega) (b5.cell 0) (b6.cell 0) (by omega)
      ((SlR.kept hI (fun b hb => u4.block b (by omega) (fun h => h))).mono (fun b hb => .inl hb)))
    (fun h k => h.trans k) (keepK_b (by omega)) (Below.refl _ _) (fun _ => rfl)
    (fun pre W => ((Blk W M c.cells 79 ∧ Blk W (M + 1) #[.int .i64 0] 2 ∧ Blk W (M + 2) #[.bool false] 4) ∧ (Keep M (fun _ => False) w W ∧ M + 5 ≤ W.heap.size)) ∧ busyAny c.sp pre = false)
    (fun cd pre W => ((Blk W (M + 1) #[.int .i64 0] 2 ∧ Blk W (M + 2) #[.bool false] 4) ∧ (Keep M (fun _ => False) w W ∧ M + 5 ≤ W.heap.size)) ∧ (cd = .ret ∧ busyAny c.sp pre = true))
    (OwnFrom.and (OwnFrom.and (OwnFrom.and ((own_blk (fun _ => M) _ _).from _) (OwnFrom.and ((own_blk (fun _ => M + 1) _ _).from _) ((own_blk (fun _ => M + 2) _ _).from _))) (OwnFrom.and (ownFrom_keep (by omega) (by omega)) (ownFrom_size _ _))) (Own.from (fun s A B row hs hg hr => hs) _))
    (fun cd => OwnFrom.and (OwnFrom.and (OwnFrom.and ((own_blk (fun _ => M + 1) _ _).from _) ((own_blk (fun _ => M + 2) _ _).from _)) (OwnFrom.and (ownFrom_keep (by omega) (by omega)) (ownFrom_size _ _))) (Own.from (fun s A B row hs hg hr => hs) _))
    ⟨⟨⟨b0, b1, b2⟩, ⟨u4.os, u4.tape, u4.output, u4.size, fun k hk hs => u4.block k (by omega) hs⟩, by omega⟩, rfl⟩
    (fun x a' W => ∃ Bx, M + 5 ≤ Bx ∧ Blk W Bx x.cells.toArray 69 ∧ a' = { tmps := #[.agg c.cells, .slice a xs.length cap, .int .i64 from_, .pointer (some ⟨M, 0, none⟩), undef, undef, .pointer (some ⟨M + 1, 0, none⟩), .pointer (some ⟨M + 2, 0, none⟩), .pointer (some ⟨Bx, 0, none⟩), .slice a xs.length cap, .int .i64 from_, .func (.func 80) #[] #[.pointer (some ⟨M + 3, 0, none⟩), .pointer (some ⟨M + 4, 0, none⟩)], .agg x.cells.toArray, undef, undef, undef, undef, undef, undef, undef, undef, undef, undef, undef, undef, undef, undef, undef, undef, undef], defers := [] })
    (fun x a' s W W' row hs hg hr => by
      obtain ⟨Bx, hBx, hb, e⟩ := hs
      exact ⟨Bx, hBx, own_blk (β := Unit) (fun _ => Bx) (fun _ => x.cells.toArray) _ () W W' row hb hg (fun r e => (hr r e).2), e⟩)
    ?assign ?body ?done ?stop
  case assign =>
    rintro l pre x W K ⟨⟨⟨i0, i1, i2⟩, ik, isz⟩, ip⟩ hK
    have hl0 := i0.lt
    have hl1 := i1.lt
    have hl2 := i2.lt
    obtain ⟨now, kk, t, c', n, aa, ii, t2, c2, s2, ga, gl, gc, hbd⟩ := x
    have HK := Lib.hid hK
    have HP := Lib.hid ip
    clear hK ip
    simp only [StepD.cells]
    gi_wp2
    exact HK.out _ _ ((KeepsOthers.alloc _ _).from _) ((Keep.refl _ _ W).alloc isz _) ⟨⟨⟨(hp_alloc _ _ _ hl0).trans i0, (hp_alloc _ _ _ hl1).trans i1, (hp_alloc _ _ _ hl2).trans i2⟩, ik.alloc (by omega) _, by simp; omega⟩, HP.out⟩ ⟨W.heap.size, isz, Blk.new _ _ _, rfl⟩
  case body =>
    rintro l pre x a' W hl ⟨r, hr⟩ ⟨⟨⟨i0, i1, i2⟩, ik, isz⟩, ip⟩ ⟨Bx, hBx, bX, rfl⟩ hlt
    have hl0 := i0.lt
    have hl1 := i1.lt
    have hl2 := i2.lt
    have hlX := bX.lt
    have HB := Lib.hid (show busyAny c.sp (pre ++ [x]) = busyS c.sp x by unfold busyAny at *; rw [List.any_append, ip]; simp)
    generalize pre ++ [x] = ys at HB ⊢
    have HX := Lib.hid (show busyS c.sp x = (x.k == 2 && decide (c.sp < x.n)) from rfl)
    obtain ⟨now, kk, t, c', n, aa, ii, t2, c2, s2, ga, gl, gc, hbd⟩ := x
    simp only [StepD.cells] at bX ⊢
    simp only [] at HX
    have cX := bX.cell
    have q8 : W.cell? ⟨M, 8, none⟩ = some (.int .i64 c.sp) := i0.cell 8
    have f1 := i1.frozen
    have f2 := i2.frozen
    have c1 := i1.cell
    have c2' := i2.cell
    clear hr ip
    by_cases k0 : kk = 2
    · subst k0
      by_cases k1 : c.sp < n
      · have d1 : decide (c.sp < n) = true := decide_eq_true k1
        gi_wp2
        refine ⟨?_, ⟨⟨?_, ?_⟩, ?_, ?_⟩, rfl, ?_⟩
        · repeat (first | with_reducible exact KeepsFrom.refl _ _ | with_reducible refine KeepsFrom.set ?_ _ _)
        · simp (disch := first | omega | (simp only [sz_setCell, sz_alloc, sz_drew, sz_drewN]; done) | (simp only [sz_setCell, sz_alloc, sz_drew, sz_drewN]; omega)) [Blk, hp_same, hp_ne, hp_alloc, hp_new', hp_drew, hp_drewN, Obj.put, show hp W (M + 1) = _ from i1]
        · simp (disch := first | omega | (simp only [sz_setCell, sz_alloc, sz_drew, sz_drewN]; done) | (simp only [sz_setCell, sz_alloc, sz_drew, sz_drewN]; omega)) [Blk, hp_same, hp_ne, hp_alloc, hp_new', hp_drew, hp_drewN, Obj.put, show hp W (M + 2) = _ from i2]
        · repeat (first | with_reducible exact ik | with_reducible refine Keep.setCell ?_ _ _ (.inr (by simp)))
        · simpa [sz_setCell] using isz
        · rw [HB.out, HX.out, d1]; rfl
      · have d1 : decide (c.sp < n) = false := decide_eq_false k1
        gi_wp2
        refine ⟨?_, ?_, ⟨⟨?_, ?_, ?_⟩, ?_, ?_⟩, ?_⟩
        · repeat (first | with_reducible exact KeepsFrom.refl _ _ | with_reducible refine KeepsFrom.set ?_ _ _)
        · repeat (first | with_reducible exact Keep.refl _ _ _ | with_reducible refine Keep.setCell ?_ _ _ (.inl (by simp)))
        · exact i0
        · exact i1
        · exact i2
        · exact ik
        · exact isz
        · rw [HB.out, HX.out, d1]; rfl
    · have k0' : (kk == 2) = false := by simpa using k0
      gi_wp2
      refine ⟨?_, ?_, ⟨⟨?_, ?_, ?_⟩, ?_, ?_⟩, ?_⟩
      · repeat (first | with_reducible exact KeepsFrom.refl _ _ | with_reducible refine KeepsFrom.set ?_ _ _)
      · repeat (first | with_reducible exact Keep.refl _ _ _ | with_reducible refine Keep.setCell ?_ _ _ (.inl (by simp)))
      · exact i0
      · exact i1
      · exact i2
      · exact ik
      · exact isz
      · rw [HB.out, HX.out, k0']; rfl
  case done =>
    rintro D ys W hD rfl ⟨⟨⟨i0, i1, i2⟩, ik, isz⟩, ip⟩ hK
    have HV := Lib.hid (show sampV c.sp from_ xs = gapV 2 from_ xs by unfold sampV; rw [ip]; rfl)
    have HG := Lib.hid (fun wx hx => gap_any (.slice a xs.length cap) xs from_ 2 hf wx hx)
    clear ip
    have hIW : StepsAt (· < W.heap.size) W (.slice a xs.length cap) xs := (SlR.kept hI (fun b hb => ik.block b hb (fun h => h))).mono (fun b hb => by show b < W.heap.size; omega)
    have hDl : W.heap[D]? = some (.deferred (some [])) := hK
    gi_wp2_with (refine ⟨trivial, ?_⟩; gi_at_call 63; refine (callsIn_wide.2 (HG.out _ hIW)).mono ?_; rintro e w5 ⟨rfl, u5⟩; have j1 := i1.upd u5 (fun h => h); have j2 := i2.upd u5 (fun h => h); have c1 := j1.cell; have c2 := j2.cell; have f1 := j1.frozen; have f2 := j2.frozen)
    have hDlt : D < W.heap.size := (Array.getElem?_eq_some_iff.1 hDl).1
    have hD5 : w5.heap[D]? = some (.deferred (some [])) := (u5.block D hDlt (fun h => h)).trans hDl
    have UW : Upd (fun _ => False) w W := Keep.upd (by rw [hM]; exact ik)
    rw [HV.out]
    generalize gapV 2 from_ xs = gv at *
    obtain ⟨g1, g2⟩ := gv
    dsimp only
    have U6 : Upd (fun _ => False) w ((w5.setCell ⟨M + 1, 0, none⟩ (.int .i64 g1)).setCell ⟨M + 2, 0, none⟩ (.bool g2)) := ((UW.trans u5).setCell _ _ (.inr (by show w.heap.size ≤ M + 1; omega))).setCell _ _ (.inr (by show w.heap.size ≤ M + 2; omega))
    have hK6 : ((w5.setCell ⟨M + 1, 0, none⟩ (.int .i64 g1)).setCell ⟨M + 2, 0, none⟩ (.bool g2)).heap[D]? = some (.deferred (some [])) := by
      rw [Below.heap_setCell _ _ _ _ (by show ¬ D = M + 2; omega), Below.heap_setCell _ _ _ _ (by show ¬ D = M + 1; omega)]
      exact hD5
    have k1 : Blk ((w5.setCell ⟨M + 1, 0, none⟩ (.int .i64 g1)).setCell ⟨M + 2, 0, none⟩ (.bool g2)) (M + 1) #[.int .i64 g1] 2 := by simp (disch := first | omega | (simp only [sz_setCell, sz_alloc, sz_drew, sz_drewN]; done) | (simp only [sz_setCell, sz_alloc, sz_drew, sz_drewN]; omega)) [Blk, hp_same, hp_ne, hp_alloc, hp_new', hp_drew, hp_drewN, Obj.put, show hp w5 (M + 1) = _ from j1]
    have k2 : Blk ((w5.setCell ⟨M + 1, 0, none⟩ (.int .i64 g1)).setCell ⟨M + 2, 0, none⟩ (.bool g2)) (M + 2) #[.bool g2] 4 := by simp (disch := first | omega | (simp only [sz_setCell, sz_alloc, sz_drew, sz_drewN]; done) | (simp only [sz_setCell, sz_alloc, sz_drew, sz_drewN]; omega)) [Blk, hp_same, hp_ne, hp_alloc, hp_new', hp_drew, hp_drewN, Obj.put, show hp w5 (M + 2) = _ from j2]
    generalize (w5.setCell ⟨M + 1, 0, none⟩ (.int .i64 g1)).setCell ⟨M + 2, 0, none⟩ (.bool g2) = w6 at *
    have g := grownBy_putObj' w6 D (.deferred none)
    have hG : Upd (fun _ => False) w (w6.putObj D (.deferred none)) := ⟨g.os.trans U6.os, g.tape.trans U6.tape, g.output.trans U6.output, Nat.le_trans U6.size g.size, fun k hk hs => (g.block k (Nat.lt_of_lt_of_le hk U6.size) (fun e => by cases e; omega)).trans (U6.block k hk hs)⟩
    refine ⟨by simp, .inl ⟨_, _, rfl, run_takeDeferred hK6, ?_⟩⟩
    have q1 := g.block (M + 1) k1.lt (fun e => by cases e; omega)
    have q2 := g.block (M + 2) k2.lt (fun e => by cases e; omega)
    exact ⟨_, results_cell2 rfl _ _ (M + 1) (M + 2) _ _ _ _ rfl (q1.trans k1) isAgg64 rfl (q2.trans k2) isAggB, rfl, hG⟩
  case stop =>
    rintro D cd pre W hD ⟨kq, rfl⟩ ⟨⟨⟨i1, i2⟩, ik, isz⟩, rfl, ip⟩ hK
    have HV := Lib.hid (show sampV c.sp from_ xs = (0, false) by
      unfold sampV
      rw [if_pos]
      unfold busyAny at *
      obtain ⟨x, hx, hb⟩ := List.any_eq_true.1 ip
      refine List.any_eq_true.2 ⟨x, ?_, hb⟩
      unfold later at *
      rw [List.mem_filter] at *
      exact ⟨List.mem_of_mem_take hx.1, hx.2⟩)
    have hG : Upd (fun _ => False) w (W.putObj D (.deferred none)) := Keep.upd (by rw [hM]; exact ik.grown (by omega) (grownBy_putObj' _ D (.deferred none)) (fun k e => by cases e; omega))
    gi_wp2
    refine ⟨by simp, .inl ⟨_, _, rfl, run_takeDeferred hK, ?_⟩⟩
    rw [HV.out]
    have g1 := (grownBy_putObj' W D (.deferred none)).block (M + 1) i1.lt (fun e => by cases e; omega)
    have g2 := (grownBy_putObj' W D (.deferred none)).block (M + 2) i2.lt (fun e => by cases e; omega)
    exact ⟨_, results_cell2 rfl _ _ (M + 1) (M + 2) _ _ _ _ rfl (g1.trans i1) isAgg64 rfl (g2.trans i2) isAggB, rfl, hG⟩
end Go.Proofs.Yteaihgjjplgalaa.Rd
