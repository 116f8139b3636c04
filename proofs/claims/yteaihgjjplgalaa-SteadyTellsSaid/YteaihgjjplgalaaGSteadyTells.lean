/- What steady.Burst, Gap, Samples, the reference's Burst, conf.Valid and the sums and products do: contracts, in the print's form. -/
import Derived.Test.YteaihgjjplgalaaPSteadyTellsx0
import Derived.Test.YteaihgjjplgalaaSampR
import Derived.Test.YteaihgjjplgalaaRefR
import Derived.Test.YteaihgjjplgalaaConf3
import Derived.Test.YteaihgjjplgalaaWide
import Derived.Test.YteaihgjjplgalaaNum4
namespace Go.Proofs.Yteaihgjjplgalaa.PSteadyTells
open Go.RowKit Go.Proofs.YteaihgjjplgalaaW.PrintWords Go.Proofs.YteaihgjjplgalaaW.PrintLast Go.Proofs.YteaihgjjplgalaaW.PrintMore
open Go.Proofs.Yteaihgjjplgalaa.Rd
set_option linter.unusedVariables false
set_option linter.unusedSimpArgs false

abbrev ST := S69
abbrev RT := S75
theorem Below.ofUpd {w w' : World} (h : Upd (fun _ => False) w w') : Below w.heap.size w w' := h.below (fun _ _ h => h)
def i64b (x : Int) : Bool := decide (-9223372036854775808 ≤ x) && decide (x ≤ 9223372036854775807)
theorem i64b_iff {x : Int} : i64b x = true ↔ I64 x := by simp [i64b, I64]
theorem drawn_eq {w w' : World} (h : w = w') : Drawn0 w w' := ⟨0, h.symm⟩

/-! ### steps -/
def okS (s : ST) : Bool := i64b s.f0 && (decide (0 ≤ s.f1.f0) && decide (s.f1.f0 ≤ 255)) && i64b s.f1.f3
theorem okS_hb {s : ST} (h : okS s = true) : I64 s.f0 ∧ (0 ≤ s.f1.f0 ∧ s.f1.f0 ≤ 255) ∧ I64 s.f1.f3 := by
  simp only [okS, Bool.and_eq_true, i64b_iff, decide_eq_true_eq] at h
  exact ⟨h.1.1, h.1.2, h.2⟩
def dOf (s : ST) : StepD := if h : okS s = true then ⟨s.f0, s.f1.f0, s.f1.f1, s.f1.f2, s.f1.f3, s.f2.f0, s.f2.f1, s.f2.f2, s.f2.f3, s.f2.f4, none, 0, 0, okS_hb h⟩ else ⟨0, 0, 0, 0, 0, 0, 0, 0, 0, 0, none, 0, 0, by unfold I64; omega⟩
def keyD (s : StepD) : Int × Int × Int := (s.now, s.k, s.n)
theorem dOf_key {s : ST} (h : okS s = true) : keyD (dOf s) = (s.f0, s.f1.f0, s.f1.f3) := by unfold dOf; rw [dif_pos h]; rfl
theorem key_later (f : Int) : ∀ (xs ys : List StepD), xs.map keyD = ys.map keyD → (later f xs).map keyD = (later f ys).map keyD
  | [], [], _ => rfl
  | [], _ :: _, h => by simp at h
  | _ :: _, [], h => by simp at h
  | x :: xs, y :: ys, h => by
    simp only [List.map_cons, List.cons.injEq] at h
    have ih := key_later f xs ys h.2
    have hn : x.now = y.now := by have := congrArg Prod.fst h.1; exact this
    unfold later at *
    rw [List.filter_cons, List.filter_cons, hn]
    split
    · simp only [List.map_cons, h.1, ih]
    · exact ih
theorem key_gfold (kind : Int) : ∀ (xs ys : List StepD) (p : GapS), xs.map keyD = ys.map keyD → xs.foldl (gstep kind) p = ys.foldl (gstep kind) p
  | [], [], _, _ => rfl
  | [], _ :: _, _, h => by simp at h
  | _ :: _, [], _, h => by simp at h
  | x :: xs, y :: ys, p, h => by
    simp only [List.map_cons, List.cons.injEq] at h
    have hn : x.now = y.now := by have := congrArg Prod.fst h.1; exact this
    have hk : x.k = y.k := by have := congrArg (fun t => t.2.1) h.1; exact this
    simp only [List.foldl_cons]
    have : gstep kind p x = gstep kind p y := by unfold gstep; rw [hn, hk]
    rw [this]
    exact key_gfold kind xs ys _ h.2
theorem key_gap (kind f : Int) {xs ys : List StepD} (h : xs.map keyD = ys.map keyD) : gapV kind f xs = gapV kind f ys := by
  unfold gapV gfold
  rw [key_gfold kind _ _ _ (key_later f xs ys h)]
theorem key_burst (f : Int) {xs ys : List StepD} (h : xs.map keyD = ys.map keyD) : burst f xs = burst f ys := by
  unfold burst
  have := congrArg (List.map (fun t : Int × Int × Int => t.2.1)) (key_later f xs ys h)
  rw [List.map_map, List.map_map] at this
  have e : ((fun t : Int × Int × Int => t.2.1) ∘ keyD) = (fun s : StepD => s.k) := rfl
  rw [e] at this
  rw [this]
theorem key_samp (set f : Int) {xs ys : List StepD} (h : xs.map keyD = ys.map keyD) : sampV set f xs = sampV set f ys := by
  unfold sampV busyAny
  rw [key_gap 2 f h]
  have := congrArg (List.map (fun t : Int × Int × Int => t.2.1 == 2 && decide (set < t.2.2))) (key_later f xs ys h)
  rw [List.map_map, List.map_map] at this
  have e : ((fun t : Int × Int × Int => t.2.1 == 2 && decide (set < t.2.2)) ∘ keyD) = busyS set := rfl
  rw [e] at this
  have h2 : ∀ (l : List StepD), l.any (busyS set) = (l.map (busyS set)).any id := by intro l; rw [List.any_map]; rfl
  rw [h2, h2, this]
/-- The records' steps out of a reading. -/
theorem steps_of {w : World} {A : Option Addr} {c : Nat} {l : List ST} (hr : Kd.C k69 w A l.length l) (hc : l.length ≤ c) (hok : ∀ s ∈ l, okS s = true) (hA : ∀ a, A = some a → 0 < l.length → a.spot = none ∧ a.block < w.heap.size) :
    ∃ xs : List StepD, xs.length = l.length ∧ xs.map keyD = (l.map dOf).map keyD ∧ StepsAt (· < w.heap.size) w (.slice A l.length c) xs := by
  have hm := Kd.C_max hr
  rcases Nat.eq_zero_or_pos l.length with h0 | h0
  · have : l = [] := List.eq_nil_of_length_eq_zero h0
    subst this
    exact ⟨[], rfl, rfl, A, c, rfl, hc, by unfold maxLen; simp, trivial, fun h => absurd h (Nat.lt_irrefl _)⟩
  · obtain ⟨ad, rfl, hcell⟩ := hr.2.2 h0
    obtain ⟨hs, hb⟩ := hA ad rfl h0
    have hi : ∀ i, i < l.length → ∃ z : StepD, keyD z = keyD (dOf (l.getD i z69)) ∧ ∀ j, j < 11 → w.cell? (ad.add (i * 11 + j)) = z.cells[j]? := fun i hi => by
      have hx : l[i]? = some l[i] := List.getElem?_eq_getElem hi
      obtain ⟨cs, hl, hK, hcs⟩ := hcell i _ hx
      obtain ⟨A10, c10, rfl, -, -⟩ := k69_open hK
      have ho := hok _ (List.getElem_mem hi)
      refine ⟨⟨l[i].f0, l[i].f1.f0, l[i].f1.f1, l[i].f1.f2, l[i].f1.f3, l[i].f2.f0, l[i].f2.f1, l[i].f2.f2, l[i].f2.f3, l[i].f2.f4, A10, l[i].f3.length, c10, okS_hb ho⟩, ?_, fun j hj => ?_⟩
      · rw [List.getD_eq_getElem?_getD, hx, Option.getD_some, dOf_key ho]; rfl
      · have hj' : j < 11 := hj
        obtain ⟨u, hu⟩ : ∃ u, (StepD.cells ⟨l[i].f0, l[i].f1.f0, l[i].f1.f1, l[i].f1.f2, l[i].f1.f3, l[i].f2.f0, l[i].f2.f1, l[i].f2.f2, l[i].f2.f3, l[i].f2.f4, A10, l[i].f3.length, c10, okS_hb ho⟩)[j]? = some u := ⟨_, List.getElem?_eq_getElem (show j < 11 from hj')⟩
        rw [hu]
        exact hcs j u hu
    haveI : Inhabited StepD := ⟨dOf z69⟩
    obtain ⟨Z, hZ⟩ := Deep.choose_lt hi
    refine ⟨(List.range l.length).map Z, by simp, ?_, some ad, c, by simp, by simpa using hc, by simpa [maxLen] using hm, trivial, fun _ => ?_⟩
    · apply List.ext_getElem
      · simp
      · intro i h1 h2
        have hi' : i < l.length := by simpa using h1
        simp only [List.getElem_map, List.getElem_range]
        rw [(hZ i hi').1, List.getD_eq_getElem?_getD, List.getElem?_eq_getElem hi', Option.getD_some]
    · obtain ⟨b, off, spot⟩ := ad
      simp only at hs hb
      subst hs
      refine ⟨b, off, rfl, hb, fun i x hx j hj => ?_⟩
      have hi' : i < l.length := by
        have := (List.getElem?_eq_some_iff.1 hx).1
        simpa using this
      rw [List.getElem?_map, List.getElem?_range hi'] at hx
      have hxz : Z i = x := by simpa using hx
      subst hxz
      rw [← (hZ i hi').2 j hj, WideShapes.add_plain, Nat.add_assoc]
/-- a row with elements lies somewhere. -/
theorem row_at {α : Type} {d : Kd α} {w : World} {A : Option Addr} {l : List α} (h : d.C w A l.length l) (hsz : 0 < d.sz) : ∀ a, A = some a → 0 < l.length → a.spot = none ∧ a.block < w.heap.size := by
  intro a e hp
  subst e
  obtain ⟨ad, e, hc⟩ := h.2.2 hp
  cases e
  obtain ⟨c, hl, -, hcell⟩ := hc 0 _ (List.getElem?_eq_getElem hp)
  have h0 := hcell 0 _ (List.getElem?_eq_getElem (by rw [hl]; exact hsz))
  have hs := World.cell?_spot h0
  have hb := World.block_lt_of_cell? w _ h0
  exact ⟨by simpa [Addr.add] using hs, by simpa [Addr.add] using hb⟩
def fix_Mul.f (a0 a1 : Int) : Option Int := if (i64b a0 && i64b a1) = true then some (sat (a0 * a1)) else none
theorem fix_Mul.calls (a0 : Int) (a1 : Int) (r : Int) (w : World) (h : fix_Mul.f a0 a1 = some r) :
    Calls Try.prog 67 #[.int .i64 a0, .int .i64 a1] w fun e w' => e = .returned (.int .i64 r) ∧ Below w.heap.size w w' := by
  unfold fix_Mul.f at h
  split at h
  · rename_i hb; cases h
    simp only [Bool.and_eq_true, i64b_iff] at hb
    exact (fixMul a0 a1 w hb.1 hb.2).mono fun e w' ⟨he, hu⟩ => ⟨he, Below.ofUpd hu⟩
  · cases h
def fix_Add.f (a0 a1 : Int) : Option Int := if (i64b a0 && i64b a1) = true then some (sat (a0 + a1)) else none
theorem fix_Add.calls (a0 : Int) (a1 : Int) (r : Int) (w : World) (h : fix_Add.f a0 a1 = some r) :
    Calls Try.prog 68 #[.int .i64 a0, .int .i64 a1] w fun e w' => e = .returned (.int .i64 r) ∧ Drawn0 w w' := by
  unfold fix_Add.f at h
  split at h
  · rename_i hb; cases h
    simp only [Bool.and_eq_true, i64b_iff] at hb
    exact (fix_add a0 a1 w hb.1 hb.2).mono fun e w' ⟨he, hu⟩ => ⟨he, drawn_eq hu⟩
  · cases h
def overfallref02_Mul.f (a0 a1 : Int) : Option Int := if (i64b a0 && i64b a1) = true then some (sat (a0 * a1)) else none
theorem overfallref02_Mul.calls (a0 : Int) (a1 : Int) (r : Int) (w : World) (h : overfallref02_Mul.f a0 a1 = some r) :
    Calls Try.prog 51 #[.int .i64 a0, .int .i64 a1] w fun e w' => e = .returned (.int .i64 r) ∧ Below w.heap.size w w' := by
  unfold overfallref02_Mul.f at h
  split at h
  · rename_i hb; cases h
    simp only [Bool.and_eq_true, i64b_iff] at hb
    exact (r2mul a0 a1 w hb.1 hb.2).mono fun e w' ⟨he, hu⟩ => ⟨he, Below.ofUpd hu⟩
  · cases h
def overfallref02_Add.f (a0 a1 : Int) : Option Int := if (i64b a0 && i64b a1) = true then some (sat (a0 + a1)) else none
theorem overfallref02_Add.calls (a0 : Int) (a1 : Int) (r : Int) (w : World) (h : overfallref02_Add.f a0 a1 = some r) :
    Calls Try.prog 31 #[.int .i64 a0, .int .i64 a1] w fun e w' => e = .returned (.int .i64 r) ∧ Below w.heap.size w w' := by
  unfold overfallref02_Add.f at h
  split at h
  · rename_i hb; cases h
    simp only [Bool.and_eq_true, i64b_iff] at hb
    exact (r2add a0 a1 w hb.1 hb.2).mono fun e w' ⟨he, hu⟩ => ⟨he, Below.ofUpd hu⟩
  · cases h
def overfallref02_Sub.f (a0 a1 : Int) : Option Int := if (i64b a0 && i64b a1) = true then some (sat (a0 - a1)) else none
theorem overfallref02_Sub.calls (a0 : Int) (a1 : Int) (r : Int) (w : World) (h : overfallref02_Sub.f a0 a1 = some r) :
    Calls Try.prog 74 #[.int .i64 a0, .int .i64 a1] w fun e w' => e = .returned (.int .i64 r) ∧ Below w.heap.size w w' := by
  unfold overfallref02_Sub.f at h
  split at h
  · rename_i hb; cases h
    simp only [Bool.and_eq_true, i64b_iff] at hb
    exact (r2sub a0 a1 w hb.1 hb.2).mono fun e w' ⟨he, hu⟩ => ⟨he, Below.ofUpd hu⟩
  · cases h
def okL (l : List ST) : Bool := l.all okS && decide (l.length ≤ 1000000)
theorem okL_iff {l : List ST} (h : okL l = true) : (∀ s ∈ l, okS s = true) ∧ l.length ≤ 1000000 := by
  simp only [okL, Bool.and_eq_true, List.all_eq_true, decide_eq_true_eq] at h
  exact h
def steady_Burst.f (l0 : List ST) (a1 : Int) : Option Int := if okL l0 = true then some (burst a1 (l0.map dOf)) else none
theorem steady_Burst.calls (A0 : Option Addr) (c0 : Nat) (l0 : List ST) (a1 : Int) (r : Int) (w : World) (hr0 : Kd.C k69 w A0 l0.length l0) (hc0 : l0.length ≤ c0) (h : steady_Burst.f l0 a1 = some r) :
    Calls Try.prog 28 #[.slice A0 l0.length c0, .int .i64 a1] w fun e w' => e = .returned (.int .i64 r) ∧ Below w.heap.size w w' := by
  unfold steady_Burst.f at h
  split at h
  · rename_i hb; cases h
    obtain ⟨hok, hl⟩ := okL_iff hb
    obtain ⟨xs, hxl, hk, hS⟩ := steps_of hr0 hc0 hok (row_at hr0 (by decide))
    rw [← key_burst a1 hk]
    exact (burst_any _ xs (by omega) a1 w hS).mono fun e w' ⟨he, hu⟩ => ⟨he, Below.ofUpd hu⟩
  · cases h
def steady_Gap.f (l0 : List ST) (a1 : Int) : Option (Int × Bool) := if (okL l0 && i64b a1) = true then some (gapV 1 a1 (l0.map dOf)) else none
theorem steady_Gap.calls (A0 : Option Addr) (c0 : Nat) (l0 : List ST) (a1 : Int) (r1 : Int) (r2 : Bool) (w : World) (hr0 : Kd.C k69 w A0 l0.length l0) (hc0 : l0.length ≤ c0) (h : steady_Gap.f l0 a1 = some (r1, r2)) :
    Calls Try.prog 32 #[.slice A0 l0.length c0, .int .i64 a1] w fun e w' => e = .returned (.tuple #[.int .i64 r1, .bool r2]) ∧ Below w.heap.size w w' := by
  unfold steady_Gap.f at h
  split at h
  · rename_i hb
    simp only [Bool.and_eq_true, i64b_iff] at hb
    obtain ⟨hok, hl⟩ := okL_iff hb.1
    obtain ⟨xs, hxl, hk, hS⟩ := steps_of hr0 hc0 hok (row_at hr0 (by decide))
    have h' := Option.some.inj h
    rw [← key_gap 1 a1 hk] at h'
    have := gap_poll _ xs a1 hb.2 w hS
    rw [h'] at this
    exact this.mono fun e w' ⟨he, hu⟩ => ⟨he, Below.ofUpd hu⟩
  · cases h
def rOf (s : RT) : RStep := ⟨s.f0, s.f1, s.f2⟩
theorem rsteps_of {w : World} {A : Option Addr} {c : Nat} {l : List RT} (hr : Kd.C k75 w A l.length l) (hc : l.length ≤ c) :
    SlR 3 RStep.cells (· < w.heap.size) w (.slice A l.length c) (l.map rOf) := by
  have hm := Kd.C_max hr
  refine ⟨A, c, by rw [List.length_map], by rw [List.length_map]; exact hc, by rw [List.length_map]; simpa [maxLen] using hm, trivial, fun hp => ?_⟩
  rw [List.length_map] at hp
  obtain ⟨ad, rfl, hcell⟩ := hr.2.2 hp
  obtain ⟨hs, hb⟩ := row_at hr (by decide) ad rfl hp
  obtain ⟨b, off, spot⟩ := ad
  simp only at hs hb
  subst hs
  refine ⟨b, off, rfl, hb, fun i x hx j hj => ?_⟩
  rw [List.getElem?_map] at hx
  obtain ⟨s, hs, rfl⟩ := Option.map_eq_some_iff.1 hx
  obtain ⟨cs, hl, hK, hcs⟩ := hcell i s hs
  obtain rfl := k75_open hK
  obtain ⟨u, hu⟩ : ∃ u, (RStep.cells (rOf s))[j]? = some u := ⟨_, List.getElem?_eq_getElem (show j < 3 from hj)⟩
  rw [hu]
  have := hcs j u hu
  rwa [WideShapes.add_plain, ← Nat.add_assoc] at this
def overfallref24_Burst.f (l0 : List RT) (a1 : Int) : Option Int := if l0.length ≤ 1000000 then some (rburst a1 (l0.map rOf)) else none
theorem overfallref24_Burst.calls (A0 : Option Addr) (c0 : Nat) (l0 : List RT) (a1 : Int) (r : Int) (w : World) (hr0 : Kd.C k75 w A0 l0.length l0) (hc0 : l0.length ≤ c0) (h : overfallref24_Burst.f l0 a1 = some r) :
    Calls Try.prog 30 #[.slice A0 l0.length c0, .int .i64 a1] w fun e w' => e = .returned (.int .i64 r) ∧ Below w.heap.size w w' := by
  unfold overfallref24_Burst.f at h
  split at h
  · rename_i hb; cases h
    exact (rburst_any _ (l0.map rOf) (by rw [List.length_map]; exact hb) a1 w (rsteps_of hr0 hc0)).mono fun e w' ⟨he, hu⟩ => ⟨he, Below.ofUpd hu⟩
  · cases h
instance (x : Int) : Decidable (I64 x) := by unfold I64; exact inferInstance
def conf_Config_Valid.f (a0_0 : Int) (a0_1 : Int) (a0_2 : Int) (a0_3 : Int) (a0_4 : Int) (a0_5 : Int) (a0_6 : Int) (a0_7 : Int) (a0_8 : Int) (a0_9 : Int) (a0_10 : Int) (a0_11 : Int) (a0_12 : Int) (a0_13 : Int) (a0_14 : Int) (a0_15 : Int) : Option Int := if h : I64 a0_0 ∧ I64 a0_1 ∧ I64 a0_2 ∧ I64 a0_3 ∧ I64 a0_4 ∧ I64 a0_5 ∧ I64 a0_6 ∧ I64 a0_7 ∧ I64 a0_8 ∧ I64 a0_9 ∧ I64 a0_10 ∧ I64 a0_11 ∧ I64 a0_12 ∧ I64 a0_13 ∧ I64 a0_14 ∧ I64 a0_15 then some (if (⟨a0_0, a0_1, a0_2, a0_3, a0_4, a0_5, a0_6, a0_7, a0_8, a0_9, a0_10, a0_11, a0_12, a0_13, a0_14, a0_15, h⟩ : ConfD).ok then 0 else 1) else none
theorem conf_Config_Valid.calls (a0_0 : Int) (a0_1 : Int) (a0_2 : Int) (a0_3 : Int) (a0_4 : Int) (a0_5 : Int) (a0_6 : Int) (a0_7 : Int) (a0_8 : Int) (a0_9 : Int) (a0_10 : Int) (a0_11 : Int) (a0_12 : Int) (a0_13 : Int) (a0_14 : Int) (a0_15 : Int) (r : Int) (w : World) (h : conf_Config_Valid.f a0_0 a0_1 a0_2 a0_3 a0_4 a0_5 a0_6 a0_7 a0_8 a0_9 a0_10 a0_11 a0_12 a0_13 a0_14 a0_15 = some r) :
    Calls Try.prog 44 #[.agg #[.int .i64 a0_0, .int .i64 a0_1, .int .i64 a0_2, .int .i64 a0_3, .int .i64 a0_4, .int .i64 a0_5, .int .i64 a0_6, .int .i64 a0_7, .int .i64 a0_8, .int .i64 a0_9, .int .i64 a0_10, .int .i64 a0_11, .int .i64 a0_12, .int .i64 a0_13, .int .i64 a0_14, .int .i64 a0_15]] w fun e w' => e = .returned (.int .i64 r) ∧ Below w.heap.size w w' := by
  unfold conf_Config_Valid.f at h
  split at h
  · rename_i hb; cases h
    exact (valid_any ⟨a0_0, a0_1, a0_2, a0_3, a0_4, a0_5, a0_6, a0_7, a0_8, a0_9, a0_10, a0_11, a0_12, a0_13, a0_14, a0_15, hb⟩ w).mono fun e w' ⟨he, hu⟩ => ⟨he, Below.ofUpd hu⟩
  · cases h
def steady_Samples.f (a0_0 : Int) (a0_1 : Int) (a0_2 : Int) (a0_3 : Int) (a0_4 : Int) (a0_5 : Int) (a0_6 : Int) (a0_7 : Int) (a0_8 : Int) (a0_9 : Int) (a0_10 : Int) (a0_11 : Int) (a0_12 : Int) (a0_13 : Int) (a0_14 : Int) (a0_15 : Int) (l1 : List ST) (a2 : Int) : Option (Int × Bool) := if h : I64 a0_0 ∧ I64 a0_1 ∧ I64 a0_2 ∧ I64 a0_3 ∧ I64 a0_4 ∧ I64 a0_5 ∧ I64 a0_6 ∧ I64 a0_7 ∧ I64 a0_8 ∧ I64 a0_9 ∧ I64 a0_10 ∧ I64 a0_11 ∧ I64 a0_12 ∧ I64 a0_13 ∧ I64 a0_14 ∧ I64 a0_15 then (if (okL l1 && i64b a2) = true then some (sampV a0_8 a2 (l1.map dOf)) else none) else none
theorem steady_Samples.calls (a0_0 : Int) (a0_1 : Int) (a0_2 : Int) (a0_3 : Int) (a0_4 : Int) (a0_5 : Int) (a0_6 : Int) (a0_7 : Int) (a0_8 : Int) (a0_9 : Int) (a0_10 : Int) (a0_11 : Int) (a0_12 : Int) (a0_13 : Int) (a0_14 : Int) (a0_15 : Int) (A1 : Option Addr) (c1 : Nat) (l1 : List ST) (a2 : Int) (r1 : Int) (r2 : Bool) (w : World) (hr1 : Kd.C k69 w A1 l1.length l1) (hc1 : l1.length ≤ c1) (h : steady_Samples.f a0_0 a0_1 a0_2 a0_3 a0_4 a0_5 a0_6 a0_7 a0_8 a0_9 a0_10 a0_11 a0_12 a0_13 a0_14 a0_15 l1 a2 = some (r1, r2)) :
    Calls Try.prog 48 #[.agg #[.int .i64 a0_0, .int .i64 a0_1, .int .i64 a0_2, .int .i64 a0_3, .int .i64 a0_4, .int .i64 a0_5, .int .i64 a0_6, .int .i64 a0_7, .int .i64 a0_8, .int .i64 a0_9, .int .i64 a0_10, .int .i64 a0_11, .int .i64 a0_12, .int .i64 a0_13, .int .i64 a0_14, .int .i64 a0_15], .slice A1 l1.length c1, .int .i64 a2] w fun e w' => e = .returned (.tuple #[.int .i64 r1, .bool r2]) ∧ Below w.heap.size w w' := by
  unfold steady_Samples.f at h
  split at h
  · rename_i hc
    split at h
    · rename_i hb
      simp only [Bool.and_eq_true, i64b_iff] at hb
      obtain ⟨hok, hl⟩ := okL_iff hb.1
      obtain ⟨xs, hxl, hk, hS⟩ := steps_of hr1 hc1 hok (row_at hr1 (by decide))
      have h' := Option.some.inj h
      rw [← key_samp a0_8 a2 hk] at h'
      have := samp_any ⟨a0_0, a0_1, a0_2, a0_3, a0_4, a0_5, a0_6, a0_7, a0_8, a0_9, a0_10, a0_11, a0_12, a0_13, a0_14, a0_15, hc⟩ _ xs a2 hb.2 w hS
      rw [show (ConfD.mk a0_0 a0_1 a0_2 a0_3 a0_4 a0_5 a0_6 a0_7 a0_8 a0_9 a0_10 a0_11 a0_12 a0_13 a0_14 a0_15 hc).sp = a0_8 from rfl, h'] at this
      exact this.mono fun e w' ⟨he, hu⟩ => ⟨he, Below.ofUpd hu⟩
    · cases h
  · cases h
end Go.Proofs.Yteaihgjjplgalaa.PSteadyTells
