/- steady.Burst over the iterator: a contract, walked. -/
import Derived.Test.YteaihgjjplgalaaSinceR
namespace Go.Proofs.Yteaihgjjplgalaa.Rd
open Go.RowKit Go.Shelf
set_option linter.unusedVariables false
set_option linter.unusedSimpArgs false
attribute [local go_sem] Oper.semAt_some

/-- Below N all lies as it lay, but for what is of S. -/
structure Keep (N : Nat) (S : Nat → Prop) (w w' : World) : Prop where
  os : w'.os = w.os
  tape : w'.tape = w.tape
  output : w'.output = w.output
  size : w.heap.size ≤ w'.heap.size
  block : ∀ k, k < N → ¬ S k → w'.heap[k]? = w.heap[k]?
theorem Keep.refl (N : Nat) (S : Nat → Prop) (w : World) : Keep N S w w := ⟨rfl, rfl, rfl, Nat.le_refl _, fun _ _ _ => rfl⟩
theorem Keep.trans {N : Nat} {S : Nat → Prop} {a b c : World} (h : Keep N S a b) (k : Keep N S b c) : Keep N S a c :=
  ⟨k.os.trans h.os, k.tape.trans h.tape, k.output.trans h.output, Nat.le_trans h.size k.size, fun i hi hs => (k.block i hi hs).trans (h.block i hi hs)⟩
theorem Keep.alloc {N : Nat} {S : Nat → Prop} {a b : World} (h : Keep N S a b) (hN : N ≤ b.heap.size) (o : Obj) : Keep N S a (b.alloc o) :=
  ⟨h.os, h.tape, h.output, by have := h.size; simp; omega, fun i hi hs => by rw [Below.heap_alloc b o i (Nat.lt_of_lt_of_le hi hN)]; exact h.block i hi hs⟩
theorem Keep.drew {N : Nat} {S : Nat → Prop} {a b : World} (h : Keep N S a b) : Keep N S a b.drew := ⟨h.os, h.tape, h.output, h.size, h.block⟩
theorem Keep.drewN {N : Nat} {S : Nat → Prop} {a b : World} (h : Keep N S a b) (n : Nat) : Keep N S a (b.drewN n) := ⟨h.os, h.tape, h.output, h.size, h.block⟩
theorem Keep.setCell {N : Nat} {S : Nat → Prop} {a b : World} (h : Keep N S a b) (p : Addr) (v : Value) (hp : S p.block ∨ N ≤ p.block) : Keep N S a (b.setCell p v) :=
  ⟨h.os, h.tape, h.output, by have := h.size; simp [World.setCell]; omega, fun i hi hs => by
    rw [Below.heap_setCell b p v i (fun e => by subst e; rcases hp with hp | hp; exact hs hp; omega)]; exact h.block i hi hs⟩
theorem Keep.grown {N : Nat} {S : Nat → Prop} {a b c : World} (h : Keep N S a b) (hN : N ≤ b.heap.size) {row : Option Nat} (hg : b.grownBy c row) (hr : ∀ k, row = some k → N ≤ k) : Keep N S a c :=
  ⟨hg.os.trans h.os, hg.tape.trans h.tape, hg.output.trans h.output, Nat.le_trans h.size hg.size, fun i hi hs =>
    (hg.block i (Nat.lt_of_lt_of_le hi hN) (fun e => by have := hr i e.symm; omega)).trans (h.block i hi hs)⟩
theorem Keep.upd {S : Nat → Prop} {a b : World} (h : Keep a.heap.size S a b) : Upd S a b := ⟨h.os, h.tape, h.output, h.size, h.block⟩
theorem ownFrom_keep {β : Type} {N B : Nat} {S : Nat → Prop} {w₀ : World} (hN : N ≤ w₀.heap.size) (hB : N ≤ B) : OwnFrom B (fun (_ : β) W => Keep N S w₀ W) :=
  fun s W W' row hs hg hr => hs.grown (Nat.le_trans hN hs.size) hg (fun k e => Nat.le_trans hB (hr k e).1)
theorem keepK_b {N : Nat} {S : Nat → Prop} {w : World} (hN : N ≤ w.heap.size) (W : World) (l : Nat) (o o' : Obj) (hl : w.heap.size ≤ l) (h : W.heap[l]? = some o) (_ : o.isCells = false) (_ : o.isWalk = false) : Keep N S W (W.putObj l o') :=
  (Keep.refl N S W).grown (by have := (Array.getElem?_eq_some_iff.1 h).1; omega) (grownBy_putObj' W l o') (fun k e => by cases e; omega)
theorem own_blk {β : Type} (b : β → Nat) (cs : β → Array Value) (T : TypeId) : Own (fun s W => Blk W (b s) (cs s) T) :=
  fun s W W' row hs hg hr => (hg.block (b s) hs.lt (fun e => by obtain ⟨o, ho, hc⟩ := hr _ e.symm; have h : W.heap[b s]? = _ := hs; rw [h] at ho; cases ho; cases hc)).trans hs
theorem ownFrom_blk {β : Type} {B b : Nat} (cs : β → Array Value) (T : TypeId) (hb : b < B) : OwnFrom B (fun s W => Blk W b (cs s) T) :=
  fun s W W' row hs hg hr => (hg.block b hs.lt (fun e => by have := (hr b e.symm).1; omega)).trans hs

theorem KeepsFrom.set {B : Nat} {A W : World} (h : KeepsFrom B A W) (p : Addr) (v : Value) : KeepsFrom B A (W.setCell p v) := h.trans ((KeepsOthers.setCell _ _ _).from _)
theorem ownFrom_size {β : Type} (B N : Nat) : OwnFrom B (fun (_ : β) W => N ≤ W.heap.size) := fun s W W' row hs hg hr => Nat.le_trans hs hg.size

def bstep (p : Int × Int) (k : Int) : Int × Int :=
  (max (p.1 + (if k = 0 then 2 else if k = 1 then -1 else 0)) 0, max p.2 (max (p.1 + (if k = 0 then 2 else if k = 1 then -1 else 0)) 0))
def bfold (ks : List Int) : Int × Int := ks.foldl bstep (0, 0)
theorem bfold_snoc (ks : List Int) (k : Int) : bfold (ks ++ [k]) = bstep (bfold ks) k := by simp [bfold]
theorem bfold_bound' : ∀ (ks : List Int) (p : Int × Int) (N : Int), 0 ≤ p.1 → p.1 ≤ N → 0 ≤ p.2 → p.2 ≤ N →
    0 ≤ (ks.foldl bstep p).1 ∧ (ks.foldl bstep p).1 ≤ N + 2 * ks.length ∧ 0 ≤ (ks.foldl bstep p).2 ∧ (ks.foldl bstep p).2 ≤ N + 2 * ks.length
  | [], p, N, h1, h2, h3, h4 => by simp; omega
  | k :: ks, p, N, h1, h2, h3, h4 => by
    have hs : 0 ≤ (bstep p k).1 ∧ (bstep p k).1 ≤ N + 2 ∧ 0 ≤ (bstep p k).2 ∧ (bstep p k).2 ≤ N + 2 := by
      unfold bstep
      simp only
      split
      · omega
      · split <;> omega
    have := bfold_bound' ks (bstep p k) (N + 2) hs.1 hs.2.1 hs.2.2.1 hs.2.2.2
    simp only [List.foldl_cons, List.length_cons]
    omega
theorem bfold_bound (ks : List Int) : 0 ≤ (bfold ks).1 ∧ (bfold ks).1 ≤ 2 * ks.length ∧ 0 ≤ (bfold ks).2 ∧ (bfold ks).2 ≤ 2 * ks.length := by
  have := bfold_bound' ks (0, 0) 0 (by simp) (by simp) (by simp) (by simp)
  unfold bfold
  omega

/-- what Burst answers. -/
def burst (from_ : Int) (xs : List StepD) : Int := ((bfold ((later from_ xs).map (·.k))).2 + 1) / 2

set_option maxRecDepth 100000 in
set_option maxHeartbeats 2000000 in
theorem burst_in (F : Fence) (n : Nat) (h : F.fn 28) (h57 : F.fn 57) (h80 : F.fn 80) (hro : F.round = none) (hn : 3 ≤ n) (sv : Value) (xs : List StepD) (hlen : xs.length ≤ 1000000) (from_ : Int) (w : World) (hI : StepsAt (· < w.heap.size) w sv xs) :
    CallsIn F n Try.prog 28 #[sv, .int .i64 from_] w fun e W' => e = .returned (.int .i64 (burst from_ xs)) ∧ Upd (fun _ => False) w W' := by
  have h1 : 1 ≤ n := by omega
  obtain ⟨a, cap, rfl, -⟩ := id hI
  refine callsIn_of_wp_marks Try.func28 rfl h ?_ hro
  simp only [Try.ntmps28, List.size_toArray, List.length_cons, List.length_nil, Nat.reduceAdd, Nat.reduceSub, Array.replicate_succ, Array.replicate_zero, List.push_toArray, List.append_toArray, List.nil_append, List.cons_append]
  gi_wp2_with (gi_at_call 57; refine (since_in F (n - 1) h57 hro _ _ _ _ _).mono ?_; rintro e w' ⟨rfl, rfl⟩)
  obtain ⟨M, hM⟩ : ∃ M, w.heap.size = M := ⟨_, rfl⟩
  obtain ⟨w4, hw4⟩ : ∃ w4, w4 = ((((w.alloc (Obj.cells #[Value.int IntKind.i64 0] 3)).alloc (Obj.cells #[Value.int IntKind.i64 0] 3)).alloc (Obj.cells #[Value.slice a xs.length cap] 66)).alloc (Obj.cells #[Value.int IntKind.i64 from_] 2)) := ⟨_, rfl⟩
  rw [← hw4]
  have hsz : w4.heap.size = M + 4 := by rw [hw4]; simp [hM]
  have bM : Blk w4 M #[.int .i64 0] 3 := by rw [hw4, ← hM]; simp (disch := first | omega | (simp only [sz_setCell, sz_alloc, sz_drew, sz_drewN]; done) | (simp only [sz_setCell, sz_alloc, sz_drew, sz_drewN]; omega)) [Blk, hp_same, hp_ne, hp_alloc, hp_new', hp_drew, hp_drewN, Obj.put]
  have bH : Blk w4 (M + 1) #[.int .i64 0] 3 := by rw [hw4, ← hM]; simp (disch := first | omega | (simp only [sz_setCell, sz_alloc, sz_drew, sz_drewN]; done) | (simp only [sz_setCell, sz_alloc, sz_drew, sz_drewN]; omega)) [Blk, hp_same, hp_ne, hp_alloc, hp_new', hp_drew, hp_drewN, Obj.put]
  have b1 : Blk w4 (M + 2) #[.slice a xs.length cap] 66 := by rw [hw4, ← hM]; simp (disch := first | omega | (simp only [sz_setCell, sz_alloc, sz_drew, sz_drewN]; done) | (simp only [sz_setCell, sz_alloc, sz_drew, sz_drewN]; omega)) [Blk, hp_same, hp_ne, hp_alloc, hp_new', hp_drew, hp_drewN, Obj.put]
  have b2 : Blk w4 (M + 3) #[.int .i64 from_] 2 := by rw [hw4, ← hM]; simp (disch := first | omega | (simp only [sz_setCell, sz_alloc, sz_drew, sz_drewN]; done) | (simp only [sz_setCell, sz_alloc, sz_drew, sz_drewN]; omega)) [Blk, hp_same, hp_ne, hp_alloc, hp_new', hp_drew, hp_drewN, Obj.put]
  have u4 : Upd (fun _ => False) w w4 := by rw [hw4]; exact ((((Upd.refl _ w).alloc _).alloc _).alloc _).alloc _
  clear hw4
  rw [hM] at hI ⊢
  refine wpIn_rangeFunc_ownH (Kp := Keep (M + 4) (fun k => k = M ∨ k = M + 1)) hro h1 (gf := 80) (lb := #[.pointer (some ⟨M + 2, 0, none⟩), .pointer (some ⟨M + 3, 0, none⟩)]) rfl h80 (enters_of Try.func80 (by kernel_rfl) rfl)
    (since_stops F (n - 1) h80 hro (by omega) (M + 2) (M + 3) (fun b => b < M ∨ b = M + 2 ∨ b = M + 3) _ xs from_ (Keep (M + 4) (fun k => k = M ∨ k = M + 1)) (fun A B hk b hb => hk.block b (by omega) (by omega)) (fun A B hk => hk.size) w4 (fun b hb => by omega) (by omega) (b1.cell 0) (b2.cell 0) (by omega)
      ((SlR.kept hI (fun b hb => u4.block b (by omega) (fun h => h))).mono (fun b hb => .inl hb)))
    (fun h k => h.trans k) (keepK_b (by omega)) (Below.refl _ _) (fun _ => rfl)
    (fun pre W => (Blk W M #[.int .i64 (bfold (pre.map (·.k))).2] 3 ∧ Blk W (M + 1) #[.int .i64 (bfold (pre.map (·.k))).1] 3) ∧ (Keep M (fun _ => False) w W ∧ M + 4 ≤ W.heap.size))
    (fun _ _ _ => False)
    (OwnFrom.and (OwnFrom.and ((own_blk (fun _ => M) _ _).from _) ((own_blk (fun _ => M + 1) _ _).from _)) (OwnFrom.and (ownFrom_keep (by omega) (by omega)) (ownFrom_size _ _)))
    (fun _ _ _ _ _ hs _ _ => hs)
    ⟨⟨bM, bH⟩, ⟨u4.os, u4.tape, u4.output, u4.size, fun k hk hs => u4.block k (by omega) hs⟩, by omega⟩
    (fun x a' W => ∃ Bx, M + 4 ≤ Bx ∧ Blk W Bx x.cells.toArray 69 ∧ a' = { tmps := #[.slice a xs.length cap, .int .i64 from_, undef, undef, .int .i64 0, .pointer (some ⟨M, 0, none⟩), .pointer (some ⟨M + 1, 0, none⟩), .pointer (some ⟨Bx, 0, none⟩), .slice a xs.length cap, .int .i64 from_, .func (.func 80) #[] #[.pointer (some ⟨M + 2, 0, none⟩), .pointer (some ⟨M + 3, 0, none⟩)], .agg x.cells.toArray, undef, undef, undef, undef, undef, undef, undef, undef, undef, undef, undef, undef, undef, undef, undef, undef, undef, undef, undef], defers := [] })
    (fun x a' s W W' row hs hg hr => by
      obtain ⟨Bx, hBx, hb, e⟩ := hs
      exact ⟨Bx, hBx, own_blk (β := Unit) (fun _ => Bx) (fun _ => x.cells.toArray) _ () W W' row hb hg (fun r e => (hr r e).2), e⟩)
    ?assign ?body ?done ?stop
  case assign =>
    rintro l pre x W K ⟨⟨i1, i2⟩, i3, i4⟩ hK
    have hl1 := i1.lt
    have hl2 := i2.lt
    obtain ⟨now, kk, t, c, nn, aa, ii, t2, c2, s2, ga, gl, gc, hbd⟩ := x
    have HK := Lib.hid hK
    clear hK
    simp only [StepD.cells]
    gi_wp2
    exact HK.out _ _ ((KeepsOthers.alloc _ _).from _) ((Keep.refl _ _ W).alloc i4 _) ⟨⟨(hp_alloc _ _ _ hl1).trans i1, (hp_alloc _ _ _ hl2).trans i2⟩, i3.alloc (by omega) _, by simp; omega⟩ ⟨W.heap.size, i4, Blk.new _ _ _, rfl⟩
  case body =>
    rintro l pre x a' W hl ⟨r, hr⟩ ⟨⟨i1, i2⟩, i3, i4⟩ ⟨Bx, hBx, bX, rfl⟩ hlt
    have hl1 := i1.lt
    have hl2 := i2.lt
    have hlX := bX.lt
    have hfb := bfold_bound (pre.map (·.k))
    rw [List.length_map] at hfb
    have HB := Lib.hid (show bfold ((pre ++ [x]).map (·.k)) = bstep (bfold (pre.map (·.k))) x.k by rw [List.map_append]; exact bfold_snoc _ _)
    generalize bfold (pre.map (·.k)) = q at i1 i2 hfb HB
    obtain ⟨q1, q2⟩ := q
    obtain ⟨now, kk, t, c, nn, aa, ii, t2, c2, s2, ga, gl, gc, hbd⟩ := x
    simp only [StepD.cells] at bX ⊢
    simp only [] at i1 i2 hfb
    have c1 := i1.cell
    have c2' := i2.cell
    have cX := bX.cell
    have f1 := i1.frozen
    have f2 := i2.frozen
    clear hr
    by_cases k0 : kk = 0
    · subst k0
      gi_wp2
      all_goals
        refine ⟨?_, ?_, ⟨?_, ?_⟩, ?_, ?_⟩
        · repeat (first | with_reducible exact KeepsFrom.refl _ _ | with_reducible refine KeepsFrom.set ?_ _ _)
        · repeat (first | with_reducible exact Keep.refl _ _ _ | with_reducible refine Keep.setCell ?_ _ _ (.inl (by simp)))
        · rw [HB.out]
          simp (disch := first | omega | (simp only [sz_setCell, sz_alloc, sz_drew, sz_drewN]; done) | (simp only [sz_setCell, sz_alloc, sz_drew, sz_drewN]; omega)) [Blk, hp_same, hp_ne, hp_alloc, hp_new', hp_drew, hp_drewN, Obj.put, show hp W M = _ from i1, bstep] <;> omega
        · rw [HB.out]
          simp (disch := first | omega | (simp only [sz_setCell, sz_alloc, sz_drew, sz_drewN]; done) | (simp only [sz_setCell, sz_alloc, sz_drew, sz_drewN]; omega)) [Blk, hp_same, hp_ne, hp_alloc, hp_new', hp_drew, hp_drewN, Obj.put, show hp W (M + 1) = _ from i2, bstep] <;> omega
        · repeat (first | with_reducible exact i3 | with_reducible refine Keep.setCell ?_ _ _ (.inr (by simp)))
        · simpa [sz_setCell] using i4
    · have k0' : (kk == 0) = false := by simpa using k0
      by_cases k1 : kk = 1
      · subst k1
        gi_wp2
        all_goals
          refine ⟨?_, ?_, ⟨?_, ?_⟩, ?_, ?_⟩
          · repeat (first | with_reducible exact KeepsFrom.refl _ _ | with_reducible refine KeepsFrom.set ?_ _ _)
          · repeat (first | with_reducible exact Keep.refl _ _ _ | with_reducible refine Keep.setCell ?_ _ _ (.inl (by simp)))
          · rw [HB.out]
            simp (disch := first | omega | (simp only [sz_setCell, sz_alloc, sz_drew, sz_drewN]; done) | (simp only [sz_setCell, sz_alloc, sz_drew, sz_drewN]; omega)) [Blk, hp_same, hp_ne, hp_alloc, hp_new', hp_drew, hp_drewN, Obj.put, show hp W M = _ from i1, bstep] <;> omega
          · rw [HB.out]
            simp (disch := first | omega | (simp only [sz_setCell, sz_alloc, sz_drew, sz_drewN]; done) | (simp only [sz_setCell, sz_alloc, sz_drew, sz_drewN]; omega)) [Blk, hp_same, hp_ne, hp_alloc, hp_new', hp_drew, hp_drewN, Obj.put, show hp W (M + 1) = _ from i2, bstep] <;> omega
          · repeat (first | with_reducible exact i3 | with_reducible refine Keep.setCell ?_ _ _ (.inr (by simp)))
          · simpa [sz_setCell] using i4
      · have k1' : (kk == 1) = false := by simpa using k1
        gi_wp2
        all_goals
          refine ⟨?_, ?_, ⟨?_, ?_⟩, ?_, ?_⟩
          · repeat (first | with_reducible exact KeepsFrom.refl _ _ | with_reducible refine KeepsFrom.set ?_ _ _)
          · repeat (first | with_reducible exact Keep.refl _ _ _ | with_reducible refine Keep.setCell ?_ _ _ (.inl (by simp)))
          · rw [HB.out]
            simp (disch := first | omega | (simp only [sz_setCell, sz_alloc, sz_drew, sz_drewN]; done) | (simp only [sz_setCell, sz_alloc, sz_drew, sz_drewN]; omega)) [Blk, hp_same, hp_ne, hp_alloc, hp_new', hp_drew, hp_drewN, Obj.put, show hp W M = _ from i1, bstep, k0, k1] <;> omega
          · rw [HB.out]
            simp (disch := first | omega | (simp only [sz_setCell, sz_alloc, sz_drew, sz_drewN]; done) | (simp only [sz_setCell, sz_alloc, sz_drew, sz_drewN]; omega)) [Blk, hp_same, hp_ne, hp_alloc, hp_new', hp_drew, hp_drewN, Obj.put, show hp W (M + 1) = _ from i2, bstep, k0, k1] <;> omega
          · repeat (first | with_reducible exact i3 | with_reducible refine Keep.setCell ?_ _ _ (.inr (by simp)))
          · simpa [sz_setCell] using i4
  case done =>
    rintro D ys W hD rfl ⟨⟨i1, i2⟩, i3, i4⟩ hK
    have hfb := bfold_bound ((later from_ xs).map (·.k))
    rw [List.length_map] at hfb
    have hl := List.length_filter_le (fun s : StepD => decide (from_ ≤ s.now)) xs
    have hl' : (later from_ xs).length ≤ 1000000 := Nat.le_trans hl hlen
    have hq : burst from_ xs = ((bfold ((later from_ xs).map (·.k))).2 + 1) / 2 := rfl
    generalize bfold ((later from_ xs).map (·.k)) = q at *
    obtain ⟨q1, q2⟩ := q
    have c1 := i1.cell
    have HQ := Lib.hid hq
    clear hq hl
    simp only [] at c1 hfb
    gi_wp2
    rw [HQ.out]
    refine ⟨by simp, .inl ⟨_, _, rfl, run_takeDeferred hK, ?_⟩⟩
    exact ⟨_, results_tmp rfl _ _ _, rfl, Keep.upd (by rw [hM]; exact i3.grown (by omega) (grownBy_putObj' _ D (.deferred none)) (fun k e => by cases e; omega))⟩
  case stop =>
    rintro D c pre W _ _ hf _
    exact hf.elim

/-- steady.Burst. -/
theorem burst_any (sv : Value) (xs : List StepD) (hlen : xs.length ≤ 1000000) (from_ : Int) (w : World) (hI : StepsAt (· < w.heap.size) w sv xs) :
    Calls Try.prog 28 #[sv, .int .i64 from_] w fun e W' => e = .returned (.int .i64 (burst from_ xs)) ∧ Upd (fun _ => False) w W' :=
  (callsIn_wide (n := 3)).1 (burst_in Fence.wide 3 trivial trivial trivial rfl (by omega) sv xs hlen from_ w hI)
end Go.Proofs.Yteaihgjjplgalaa.Rd
