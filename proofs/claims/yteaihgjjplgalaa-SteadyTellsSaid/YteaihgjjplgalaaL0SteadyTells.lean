/- The walk of SteadyTells. -/
import Derived.Test.YteaihgjjplgalaaQSteadyTells
namespace Go.Proofs.Yteaihgjjplgalaa.PSteadyTells
open Go.RowKit Go.Proofs.YteaihgjjplgalaaW.PrintWords Go.Proofs.YteaihgjjplgalaaW.PrintLast Go.Proofs.YteaihgjjplgalaaW.PrintMore
open Go.Proofs.Yteaihgjjplgalaa.Rd
attribute [local go_sem] max2_int min2_int max_two min_two max_three min_three max_four min_four
set_option linter.unusedVariables false
set_option linter.unusedSimpArgs false

abbrev CT := S82
theorem gapV_i64 (kind f : Int) (xs : List StepD) (hf : I64 f) : I64 (gapV kind f xs).1 := by
  have h := gfold_i64 kind f (later f xs) hf
  unfold gapV
  generalize gfold kind f (later f xs) = p at *
  simp only []
  split
  · have := sat_i64 (p.ende - p.last)
    unfold I64 at *
    simp only []
    omega
  · show I64 0
    unfold I64; omega
theorem sampV_i64 (set f : Int) (xs : List StepD) (hf : I64 f) : I64 (sampV set f xs).1 := by
  unfold sampV
  split
  · show I64 0
    unfold I64; omega
  · exact gapV_i64 2 f xs hf
theorem burst_bound (f : Int) (xs : List StepD) (h : xs.length ≤ 1000000) : 0 ≤ burst f xs ∧ burst f xs ≤ 1000001 := by
  have hb := bfold_bound ((later f xs).map (·.k))
  have hl : (later f xs).length ≤ xs.length := List.length_filter_le _ _
  rw [List.length_map] at hb
  unfold burst
  omega
theorem valid_ex (b0 b1 b2 b3 b4 b5 b6 b7 b8 b9 b10 b11 b12 b13 b14 b15 : Int) (hc : I64 b0 ∧ I64 b1 ∧ I64 b2 ∧ I64 b3 ∧ I64 b4 ∧ I64 b5 ∧ I64 b6 ∧ I64 b7 ∧ I64 b8 ∧ I64 b9 ∧ I64 b10 ∧ I64 b11 ∧ I64 b12 ∧ I64 b13 ∧ I64 b14 ∧ I64 b15) :
    conf_Config_Valid.f b0 b1 b2 b3 b4 b5 b6 b7 b8 b9 b10 b11 b12 b13 b14 b15 = some 1 ∨ (conf_Config_Valid.f b0 b1 b2 b3 b4 b5 b6 b7 b8 b9 b10 b11 b12 b13 b14 b15 = some 0 ∧ (0 ≤ b0 ∧ b0 ≤ 8) ∧ (0 ≤ b1 ∧ b1 ≤ 1024)) := by
  unfold conf_Config_Valid.f
  rw [dif_pos hc]
  split
  · rename_i h
    refine .inr ⟨rfl, ?_, ?_⟩
    · have h1 := h.1; simp only [] at h1; omega
    · have h1 := h.2.1; simp only [] at h1; omega
  · exact .inl rfl
theorem facts (b0 b1 b2 b3 b4 b5 b6 b7 b8 b9 b10 b11 b12 b13 b14 b15 : Int) (hc : I64 b0 ∧ I64 b1 ∧ I64 b2 ∧ I64 b3 ∧ I64 b4 ∧ I64 b5 ∧ I64 b6 ∧ I64 b7 ∧ I64 b8 ∧ I64 b9 ∧ I64 b10 ∧ I64 b11 ∧ I64 b12 ∧ I64 b13 ∧ I64 b14 ∧ I64 b15) (h0 : 0 ≤ b0 ∧ b0 ≤ 8) (h1 : 0 ≤ b1 ∧ b1 ≤ 1024) (fr : Int) (hf : I64 fr) (l : List ST) (hok : ∀ s ∈ l, okS s = true) (hm : l.length ≤ 60) :
    ∃ (k : Nat) (g1 q1 s1 o1 b : Int) (g2 q2 s2 o2 : Bool), overfalllaw24_own.f k l = some (l.map toR) ∧ steady_Gap.f l fr = some (g1, g2) ∧ overfallref24_Gap.f k (l.map toR) fr 1 = some (g1, g2) ∧
      steady_Quiet.f k b0 b1 b2 b3 b4 b5 b6 b7 b8 b9 b10 b11 b12 b13 b14 b15 l fr = some (q1, q2) ∧ overfallref24_Quiet.f k b1 b2 (l.map toR) fr = some (q1, q2) ∧ steady_Samples.f b0 b1 b2 b3 b4 b5 b6 b7 b8 b9 b10 b11 b12 b13 b14 b15 l fr = some (s1, s2) ∧ overfallref24_Samples.f k b8 (l.map toR) fr = some (s1, s2) ∧
      steady_Open.f k b0 b1 b2 b3 b4 b5 b6 b7 b8 b9 b10 b11 b12 b13 b14 b15 l fr = some (o1, o2) ∧ steady_Burst.f l fr = some b ∧ overfallref24_Burst.f (l.map toR) fr = some b ∧ I64 s1 ∧
      ((q2 = true ∧ s2 = true ∧ o2 = true ∧ o1 = mx q1 (sat (fr + sat (s1 * sat (b0 * 128 + 1))))) ∨ ((q2 = false ∨ s2 = false) ∧ o2 = false ∧ o1 = 0)) := by
  have hL : okL l = true := by
    unfold okL
    rw [Bool.and_eq_true, List.all_eq_true]
    exact ⟨hok, decide_eq_true (by omega)⟩
  have hg1 := gapV_i64 1 fr (l.map dOf) hf
  have hs := burst_bound fr (l.map dOf) (by rw [List.length_map]; omega)
  have hsv := sampV_i64 b8 fr (l.map dOf) hf
  have hlR : ∀ s ∈ l.map toR, I64 s.f0 := by
    intro s hs
    obtain ⟨x, hx, rfl⟩ := List.mem_map.1 hs
    exact (okS_hb (hok x hx)).1
  have hmR : (l.map toR).length ≤ 1000000 := by rw [List.length_map]; omega
  have eR := toR_map hok
  have eG : ∀ kind, rgapV fr kind (l.map toR) = gapV kind fr (l.map dOf) := fun kind => by rw [eR, rgap_eq]
  have eB : rburst fr ((l.map toR).map rOf) = burst fr (l.map dOf) := by rw [rOf_toR hok, burst_eq]
  have eS : (if (l.map toR).any (rbusy b8 fr) then ((0 : Int), false) else rgapV fr 2 (l.map toR)) = sampV b8 fr (l.map dOf) := by rw [eR, samp_eq]
  have K1 := (⟨l.length + 1, own_l0 l (by omega) l.length 0 _ (by omega) (by omega) (by omega)⟩ : ∃ k, overfalllaw24_own.f k l = some (l.map toR))
  obtain ⟨k1, hk1⟩ := K1
  have hge : ∀ {k k' : Nat}, k ≤ k' → overfalllaw24_own.f k l = some (l.map toR) → overfalllaw24_own.f k' l = some (l.map toR) := by
    intro k k' hk h
    induction hk with
    | refl => exact h
    | step _ ih => exact overfalllaw24_own.mono _ _ _ ih
  refine ⟨k1 + 400 + 1, (gapV 1 fr (l.map dOf)).1, (quietV b1 b2 fr (gapV 1 fr (l.map dOf)) (burst fr (l.map dOf))).1, (sampV b8 fr (l.map dOf)).1, (openV (b0 * 128) fr (quietV b1 b2 fr (gapV 1 fr (l.map dOf)) (burst fr (l.map dOf))) (sampV b8 fr (l.map dOf))).1, burst fr (l.map dOf),
    (gapV 1 fr (l.map dOf)).2, (quietV b1 b2 fr (gapV 1 fr (l.map dOf)) (burst fr (l.map dOf))).2, (sampV b8 fr (l.map dOf)).2, (openV (b0 * 128) fr (quietV b1 b2 fr (gapV 1 fr (l.map dOf)) (burst fr (l.map dOf))) (sampV b8 fr (l.map dOf))).2, hge (by omega) hk1, ?_, ?_, ?_, ?_, ?_, ?_, ?_, ?_, ?_, hsv, ?_⟩
  · unfold steady_Gap.f; rw [if_pos (show (okL l && i64b fr) = true by rw [hL, i64b_of hf]; rfl)]
  · rw [rgap_ex fr 1 hf _ hlR hmR _ (by rw [List.length_map]; omega), eG]
  · rw [quiet_ex b0 b1 b2 b3 b4 b5 b6 b7 b8 b9 b10 b11 b12 b13 b14 b15 l fr hf hL h1 hg1 hs]
  · rw [rquiet_ex b1 b2 _ fr hf hlR hmR h1 (by rw [eG]; exact hg1) (by rw [eB]; exact hs) _ (by rw [List.length_map]; omega), eG, eB]
  · unfold steady_Samples.f; rw [dif_pos hc, if_pos (show (okL l && i64b fr) = true by rw [hL, i64b_of hf]; rfl)]
  · rw [rsamp_ex b8 fr hf _ hlR hmR _ (by rw [List.length_map]; omega), eS]
  · rw [open_ex b0 b1 b2 b3 b4 b5 b6 b7 b8 b9 b10 b11 b12 b13 b14 b15 hc l fr hf hL h0 h1 hg1 hsv hs]
  · unfold steady_Burst.f; rw [if_pos hL]
  · unfold overfallref24_Burst.f; rw [if_pos hmR, eB]
  · generalize quietV b1 b2 fr (gapV 1 fr (l.map dOf)) (burst fr (l.map dOf)) = q
    generalize sampV b8 fr (l.map dOf) = s
    unfold openV
    by_cases e1 : q.2 = true
    · by_cases e2 : s.2 = true
      · left; rw [if_pos e1, if_pos e2]; exact ⟨e1, e2, rfl, (mx_max _ _).symm⟩
      · right; rw [if_pos e1, if_neg e2]; exact ⟨.inr (by simpa using e2), rfl, rfl⟩
    · right; rw [if_neg e1]; exact ⟨.inl (by simpa using e1), rfl, rfl⟩
/-! ### the contracts, with a length of its own -/
theorem rgap_n (k : Nat) (A : Option Addr) (c n : Nat) (l : List RT) (hn : l.length = n) (a1 a2 : Int) (r1 : Int) (r2 : Bool) (w : World) (hr : Kd.C k75 w A n l) (hc : n ≤ c) (h : overfallref24_Gap.f k l a1 a2 = some (r1, r2)) :
    Calls Try.prog 45 #[.slice A n c, .int .i64 a1, .int .u8 a2] w fun e w' => e = .returned (.tuple #[.int .i64 r1, .bool r2]) ∧ Below w.heap.size w w' := by
  subst hn; exact overfallref24_Gap.calls k A c l a1 a2 r1 r2 w hr hc h
theorem rquiet_n (k : Nat) (a0 a1 : Int) (A : Option Addr) (c n : Nat) (l : List RT) (hn : l.length = n) (a3 : Int) (r1 : Int) (r2 : Bool) (w : World) (hr : Kd.C k75 w A n l) (hc : n ≤ c) (h : overfallref24_Quiet.f k a0 a1 l a3 = some (r1, r2)) :
    Calls Try.prog 47 #[.int .i64 a0, .int .i64 a1, .slice A n c, .int .i64 a3] w fun e w' => e = .returned (.tuple #[.int .i64 r1, .bool r2]) ∧ Below w.heap.size w w' := by
  subst hn; exact overfallref24_Quiet.calls k a0 a1 A c l a3 r1 r2 w hr hc h
theorem rsamp_n (k : Nat) (a0 : Int) (A : Option Addr) (c n : Nat) (l : List RT) (hn : l.length = n) (a2 : Int) (r1 : Int) (r2 : Bool) (w : World) (hr : Kd.C k75 w A n l) (hc : n ≤ c) (h : overfallref24_Samples.f k a0 l a2 = some (r1, r2)) :
    Calls Try.prog 49 #[.int .i64 a0, .slice A n c, .int .i64 a2] w fun e w' => e = .returned (.tuple #[.int .i64 r1, .bool r2]) ∧ Below w.heap.size w w' := by
  subst hn; exact overfallref24_Samples.calls k a0 A c l a2 r1 r2 w hr hc h
theorem rburst_n (A : Option Addr) (c n : Nat) (l : List RT) (hn : l.length = n) (a1 r : Int) (w : World) (hr : Kd.C k75 w A n l) (hc : n ≤ c) (h : overfallref24_Burst.f l a1 = some r) :
    Calls Try.prog 30 #[.slice A n c, .int .i64 a1] w fun e w' => e = .returned (.int .i64 r) ∧ Below w.heap.size w w' := by
  subst hn; exact overfallref24_Burst.calls A c l a1 r w hr hc h
theorem radd_any (x y : Int) (hx : I64 x) (hy : I64 y) (w : World) : Calls Try.prog 31 #[.int .i64 x, .int .i64 y] w fun e w' => e = .returned (.int .i64 (sat (x + y))) ∧ Below w.heap.size w w' :=
  overfallref02_Add.calls x y _ w (radd_i64 x y hx hy)
theorem rmul_any (x y : Int) (hx : I64 x) (hy : I64 y) (w : World) : Calls Try.prog 51 #[.int .i64 x, .int .i64 y] w fun e w' => e = .returned (.int .i64 (sat (x * y))) ∧ Below w.heap.size w w' :=
  overfallref02_Mul.calls x y _ w (rmul_i64 x y hx hy)
theorem rd82 {l : List CT} {i : Nat} (h : i < l.length) : rd_T82 l (i : Int) = l[i] := by simp [rd_T82, List.getD_eq_getElem?_getD, List.getElem?_eq_getElem h]
theorem mx0_i64 {x : Int} (h : I64 x) : I64 (mx x 0) := by unfold mx I64 at *; split <;> omega

end Go.Proofs.Yteaihgjjplgalaa.PSteadyTells
