/- What the printed functions of SteadyTells compute: plain laws on lists and numbers. -/
import Derived.Test.YteaihgjjplgalaaPSteadyTellsx1
import Derived.Test.YteaihgjjplgalaaPSteadyTellsx2
import Derived.Test.YteaihgjjplgalaaPSteadyTellsx3
import Derived.Test.YteaihgjjplgalaaPlainR
namespace Go.Proofs.Yteaihgjjplgalaa.PSteadyTells
open Go.RowKit Go.Proofs.YteaihgjjplgalaaW.PrintWords Go.Proofs.YteaihgjjplgalaaW.PrintLast Go.Proofs.YteaihgjjplgalaaW.PrintMore
open Go.Proofs.Yteaihgjjplgalaa.Rd
set_option linter.unusedVariables false
set_option linter.unusedSimpArgs false

theorem w64 {x : Int} (h : -9223372036854775808 ≤ x ∧ x ≤ 9223372036854775807) : wrap64 x = x := by unfold wrap64; omega
theorem mx_max (a b : Int) : mx a b = max a b := by unfold mx; omega
theorem rdS {l : List ST} {i : Nat} (h : i < l.length) : rd_T69 l (i : Int) = l[i] := by simp [rd_T69, List.getD_eq_getElem?_getD, List.getElem?_eq_getElem h]
theorem rdR {l : List RT} {i : Nat} (h : i < l.length) : rd_T75 l (i : Int) = l[i] := by simp [rd_T75, List.getD_eq_getElem?_getD, List.getElem?_eq_getElem h]
/-! ### the example -/
theorem awake_ev : ∃ k, overfalllaw24_awake.f k = some true := ⟨40, by decide +kernel⟩
/-! ### own -/
def toR (s : ST) : RT := ⟨s.f0, s.f1.f0, s.f1.f3⟩
theorem own_l0 (l : List ST) (hm : l.length ≤ 1000000) : ∀ (d i k : Nat), l.length - i = d → i ≤ l.length → d < k →
    overfalllaw24_own.l0 k ((l.take i).map toR) l (l.length : Int) (i : Int) = some (l.map toR) := by
  intro d
  induction d with
  | zero =>
    intro i k hd hi hk
    obtain ⟨k, rfl⟩ : ∃ m, k = m + 1 := ⟨k - 1, by omega⟩
    simp only [overfalllaw24_own.l0]
    rw [if_neg (by omega), List.take_of_length_le (by omega)]
  | succ d ih =>
    intro i k hd hi hk
    obtain ⟨k, rfl⟩ : ∃ m, k = m + 1 := ⟨k - 1, by omega⟩
    simp only [overfalllaw24_own.l0]
    have hia : i < l.length := by omega
    rw [if_pos (by omega), if_pos (by omega), if_pos (by omega), if_pos (by rw [List.length_map, List.length_take]; omega), w64 (by omega)]
    have := ih (i + 1) k (by omega) (by omega) (by omega)
    rw [show ((i : Int) + 1) = ((i + 1 : Nat) : Int) by omega, ← this, List.take_succ_eq_append_getElem hia, List.map_append, rdS hia]
    rfl
theorem own_ex (l : List ST) (hm : l.length ≤ 1000000) : ∃ k, overfalllaw24_own.f k l = some (l.map toR) :=
  ⟨l.length + 1, own_l0 l hm l.length 0 _ (by omega) (by omega) (by omega)⟩
theorem rOf_toR {l : List ST} (hok : ∀ s ∈ l, okS s = true) : (l.map toR).map rOf = (l.map dOf).map StepD.toR := by
  rw [List.map_map, List.map_map]
  apply List.map_congr_left
  intro s hs
  have := dOf_key (hok s hs)
  unfold keyD at this
  simp only [Prod.mk.injEq] at this
  simp [Function.comp, toR, rOf, StepD.toR, this]
theorem burst_eq (from_ : Int) (xs : List StepD) : rburst from_ (xs.map StepD.toR) = burst from_ xs := by
  unfold rburst burst
  have e : rlater from_ (xs.map StepD.toR) = (later from_ xs).map StepD.toR := by
    unfold rlater later
    rw [List.filter_map]; rfl
  rw [e, List.map_map]
  have := router_eq ((later from_ xs).map (fun x => x.k))
  rw [List.length_map] at this ⊢
  exact this
/-! ### the reference's Gap -/
/-- times of the calls of a kind, the last time. -/
structure TimesS where
  ts : List Int
  ende : Int
def tstep (from_ kind : Int) (p : TimesS) (s : RT) : TimesS := if s.f0 < from_ then p else if s.f1 = kind then ⟨p.ts ++ [s.f0], s.f0⟩ else ⟨p.ts, s.f0⟩
def tfold (from_ kind : Int) (l : List RT) : TimesS := l.foldl (tstep from_ kind) ⟨[from_], from_⟩
/-- the greatest of the differences. -/
def diffs : List Int → Int → Int
  | a :: b :: r, m => diffs (b :: r) (max m (sat (b - a)))
  | _, m => m
theorem gap_l1 (x : List Int) (hb : ∀ t ∈ x, I64 t) (hm : x.length ≤ 2000000) : ∀ (d i k : Nat) (m : Int), x.length - i = d → 1 ≤ i → d < k → overfallref24_Gap.l1 k x m (i : Int) = some (diffs (x.drop (i - 1)) m, true) := by
  intro d
  induction d with
  | zero =>
    intro i k m hd hi hk
    obtain ⟨k, rfl⟩ : ∃ m, k = m + 1 := ⟨k - 1, by omega⟩
    simp only [overfallref24_Gap.l1]
    rw [if_neg (by omega)]
    have : (x.drop (i - 1)).length ≤ 1 := by rw [List.length_drop]; omega
    match h : x.drop (i - 1) with
    | [] => simp [diffs]
    | [a] => simp [diffs]
    | a :: b :: r => rw [h] at this; simp at this
  | succ d ih =>
    intro i k m hd hi hk
    obtain ⟨k, rfl⟩ : ∃ m, k = m + 1 := ⟨k - 1, by omega⟩
    obtain ⟨j, hj⟩ : ∃ j, i = j + 1 := ⟨i - 1, by omega⟩
    simp only [overfallref24_Gap.l1]
    have h1 : i < x.length := by omega
    have h2 : j < x.length := by omega
    have hw : wrap64 ((i : Int) - 1) = (j : Int) := by rw [w64 ⟨by omega, by omega⟩]; omega
    have hw2 : wrap64 ((i : Int) + 1) = ((i + 1 : Nat) : Int) := by rw [w64 ⟨by omega, by omega⟩]; omega
    have c1 : (i : Int) < (x.length : Int) := by omega
    have c2 : (0 : Int) ≤ (i : Int) := by omega
    have c3 : (0 : Int) ≤ (j : Int) := by omega
    have c4 : (j : Int) < (x.length : Int) := by omega
    have hnext := fun m => ih (i + 1) k m (by omega) (by omega) (by omega)
    have e1 : rd x (i : Int) = x[i] := by simp only [rd, Int.toNat_natCast, List.getD_eq_getElem?_getD, List.getElem?_eq_getElem h1, Option.getD_some]
    have e2 : rd x (j : Int) = x[j] := by simp only [rd, Int.toNat_natCast, List.getD_eq_getElem?_getD, List.getElem?_eq_getElem h2, Option.getD_some]
    have b1 := hb _ (List.getElem_mem h1)
    have b2 := hb _ (List.getElem_mem h2)
    replace hnext := hnext (max m (sat (x[i] - x[j])))
    have hd1 : x.drop (i - 1) = x[j] :: x[i] :: x.drop (i + 1) := by
      subst hj
      rw [show j + 1 - 1 = j by omega, List.drop_eq_getElem_cons h2, List.drop_eq_getElem_cons h1]
    have hd2 : x.drop (i + 1 - 1) = x[i] :: x.drop (i + 1) := by rw [show i + 1 - 1 = i by omega, List.drop_eq_getElem_cons h1]
    rw [hd2] at hnext
    rw [hd1]
    rw [if_pos c1, if_pos c2, hw, if_pos c3, if_pos c4, e1, e2, hw2]
    unfold overfallref02_Sub.f
    rw [if_pos (show (i64b x[i] && i64b x[j]) = true by rw [i64b_iff.2 b1, i64b_iff.2 b2, Bool.and_self]), Option.bind_some, mx_max]
    exact hnext
theorem tfold_bounds (from_ kind : Int) (hf : I64 from_) (l : List RT) (hl : ∀ s ∈ l, I64 s.f0) : ∀ i, (∀ t ∈ (tfold from_ kind (l.take i)).ts, I64 t) ∧ I64 (tfold from_ kind (l.take i)).ende ∧ (tfold from_ kind (l.take i)).ts.length ≤ i + 1 := by
  intro i
  induction i with
  | zero => exact ⟨fun t ht => by simp [tfold] at ht; subst ht; exact hf, hf, by simp [tfold]⟩
  | succ i ih =>
    rcases Nat.lt_or_ge i l.length with h | h
    · have hs := hl _ (List.getElem_mem h)
      rw [List.take_succ_eq_append_getElem h]
      unfold tfold at *
      rw [List.foldl_append]
      simp only [List.foldl_cons, List.foldl_nil]
      generalize List.foldl (tstep from_ kind) ⟨[from_], from_⟩ (l.take i) = p at *
      unfold tstep
      split
      · exact ⟨ih.1, ih.2.1, by omega⟩
      · split
        · refine ⟨fun t ht => ?_, hs, by simp; omega⟩
          rcases List.mem_append.1 ht with h | h
          · exact ih.1 t h
          · simp at h; subst h; exact hs
        · exact ⟨ih.1, hs, by simp; omega⟩
    · rw [List.take_of_length_le (by omega)]
      rw [List.take_of_length_le (by omega)] at ih
      exact ⟨ih.1, ih.2.1, by omega⟩
def rgapV (from_ kind : Int) (l : List RT) : Int × Bool := if (tfold from_ kind l).ts.length = 1 then (0, false) else (diffs ((tfold from_ kind l).ts ++ [(tfold from_ kind l).ende]) 0, true)
theorem gap_l0 (from_ kind : Int) (hf : I64 from_) (l : List RT) (hl : ∀ s ∈ l, I64 s.f0) (hm : l.length ≤ 1000000) : ∀ (d i k : Nat), l.length - i = d → i ≤ l.length → d + l.length + 5 < k →
    overfallref24_Gap.l0 k from_ kind (tfold from_ kind (l.take i)).ts (tfold from_ kind (l.take i)).ende l (l.length : Int) (i : Int) = some (rgapV from_ kind l) := by
  intro d
  induction d with
  | zero =>
    intro i k hd hi hk
    obtain ⟨k, rfl⟩ : ∃ m, k = m + 1 := ⟨k - 1, by omega⟩
    simp only [overfallref24_Gap.l0]
    have hb := tfold_bounds from_ kind hf l hl l.length
    rw [if_neg (by omega), List.take_of_length_le (by omega)]
    rw [List.take_length] at hb
    unfold rgapV
    generalize tfold from_ kind l = p at *
    by_cases h1 : p.ts.length = 1
    · rw [if_pos (show (p.ts.length : Int) = 1 by omega), if_pos h1]
    · rw [if_neg (show ¬ (p.ts.length : Int) = 1 by omega), if_neg h1, if_pos (show p.ts.length < 17592186044416 by omega)]
      have := gap_l1 (p.ts ++ [p.ende]) (fun t ht => by
        rcases List.mem_append.1 ht with h | h
        · exact hb.1 t h
        · simp at h; subst h; exact hb.2.1) (by simp; omega) _ 1 k 0 rfl (Nat.le_refl _) (by simp; omega)
      simpa using this
  | succ d ih =>
    intro i k hd hi hk
    obtain ⟨k, rfl⟩ : ∃ m, k = m + 1 := ⟨k - 1, by omega⟩
    simp only [overfallref24_Gap.l0]
    have hia : i < l.length := by omega
    have hb := tfold_bounds from_ kind hf l hl i
    have hnext := ih (i + 1) k (by omega) (by omega) (by omega)
    rw [List.take_succ_eq_append_getElem hia] at hnext
    unfold tfold at *
    rw [List.foldl_append] at hnext
    simp only [List.foldl_cons, List.foldl_nil] at hnext
    generalize List.foldl (tstep from_ kind) ⟨[from_], from_⟩ (l.take i) = p at *
    have hw : wrap64 ((i : Int) + 1) = ((i + 1 : Nat) : Int) := by rw [w64 ⟨by omega, by omega⟩]; omega
    rw [if_pos (show (i : Int) < (l.length : Int) by omega), if_pos (show (0 : Int) ≤ (i : Int) by omega), if_pos (show (i : Int) < (l.length : Int) by omega), rdR hia, hw]
    unfold tstep at hnext
    by_cases h1 : l[i].f0 < from_
    · rw [if_pos h1]; rw [if_pos h1] at hnext; exact hnext
    · rw [if_neg h1]; rw [if_neg h1] at hnext
      by_cases h2 : l[i].f1 = kind
      · rw [if_pos h2, if_pos (show p.ts.length < 17592186044416 by omega)]; rw [if_pos h2] at hnext; exact hnext
      · rw [if_neg h2]; rw [if_neg h2] at hnext; exact hnext
theorem rgap_ex (from_ kind : Int) (hf : I64 from_) (l : List RT) (hl : ∀ s ∈ l, I64 s.f0) (hm : l.length ≤ 1000000) : ∀ k, 2 * l.length + 6 ≤ k → overfallref24_Gap.f k l from_ kind = some (rgapV from_ kind l) :=
  fun k hk => gap_l0 from_ kind hf l hl hm l.length 0 k (by omega) (by omega) (by omega)

/-! ### the reference's Gap is Gap -/
def lastOf (from_ : Int) (ts : List Int) : Int := ts.getLast?.getD from_
theorem diffs_snoc (from_ : Int) : ∀ (ts : List Int) (m e : Int), ts ≠ [] → diffs (ts ++ [e]) m = max (diffs ts m) (sat (e - lastOf from_ ts))
  | [], _, _, h => absurd rfl h
  | [a], m, e, _ => by simp [diffs, lastOf]
  | a :: b :: r, m, e, _ => by
    have := diffs_snoc from_ (b :: r) (max m (sat (b - a))) e (by simp)
    simp only [List.cons_append, diffs] at this ⊢
    rw [this]
    simp [lastOf]
theorem gap_inv (from_ kind : Int) : ∀ (l : List RT) (xs : List StepD), l = xs.map (fun x => (⟨x.now, x.k, x.n⟩ : RT)) →
    (tfold from_ kind l).ts ≠ [] ∧ ((gfold kind from_ (later from_ xs)).some = true ↔ (tfold from_ kind l).ts.length ≠ 1) ∧ (gfold kind from_ (later from_ xs)).most = diffs (tfold from_ kind l).ts 0 ∧ (gfold kind from_ (later from_ xs)).last = lastOf from_ (tfold from_ kind l).ts ∧ (gfold kind from_ (later from_ xs)).ende = (tfold from_ kind l).ende := by
  intro l xs
  induction xs using snoc_ind generalizing l with
  | h0 => rintro rfl; simp [tfold, gfold, later, diffs, lastOf]
  | hs xs x ih =>
    rintro rfl
    obtain ⟨h1, h2, h3, h4, h5⟩ := ih _ rfl
    rw [List.map_append]
    have e1 : tfold from_ kind (xs.map (fun x => (⟨x.now, x.k, x.n⟩ : RT)) ++ [x].map (fun x => (⟨x.now, x.k, x.n⟩ : RT))) = tstep from_ kind (tfold from_ kind (xs.map (fun x => (⟨x.now, x.k, x.n⟩ : RT)))) ⟨x.now, x.k, x.n⟩ := by
      unfold tfold; rw [List.foldl_append]; rfl
    have e2 : later from_ (xs ++ [x]) = later from_ xs ++ (if from_ ≤ x.now then [x] else []) := by
      unfold later; rw [List.filter_append]; simp [List.filter_cons]
    rw [e1, e2]
    generalize tfold from_ kind (xs.map (fun x => (⟨x.now, x.k, x.n⟩ : RT))) = p at *
    unfold tstep
    simp only []
    by_cases hx : x.now < from_
    · rw [if_pos hx, if_neg (show ¬ from_ ≤ x.now by omega), List.append_nil]; exact ⟨h1, h2, h3, h4, h5⟩
    · rw [if_neg hx, if_pos (show from_ ≤ x.now by omega), gfold_snoc]
      generalize gfold kind from_ (later from_ xs) = q at *
      unfold gstep
      by_cases hk : x.k = kind
      · rw [if_pos hk, if_pos hk]
        refine ⟨by simp, ?_, ?_, ?_, rfl⟩
        · have : 0 < p.ts.length := List.length_pos_iff.2 h1
          simp; omega
        · rw [diffs_snoc from_ _ _ _ h1, h3, h4]
        · simp [lastOf]
      · rw [if_neg hk, if_neg hk]
        exact ⟨h1, h2, h3, h4, rfl⟩
theorem rgap_eq (from_ kind : Int) (xs : List StepD) : rgapV from_ kind (xs.map (fun x => (⟨x.now, x.k, x.n⟩ : RT))) = gapV kind from_ xs := by
  obtain ⟨h1, h2, h3, h4, h5⟩ := gap_inv from_ kind _ xs rfl
  unfold rgapV gapV
  generalize tfold from_ kind (xs.map (fun x => (⟨x.now, x.k, x.n⟩ : RT))) = p at *
  generalize gfold kind from_ (later from_ xs) = q at *
  simp only []
  by_cases h : p.ts.length = 1
  · rw [if_pos h, if_neg (by intro e; exact h2.1 e h)]
  · rw [if_neg h, if_pos (h2.2 h), diffs_snoc from_ _ _ _ h1, h3, h4, h5]
theorem toR_map {l : List ST} (hok : ∀ s ∈ l, okS s = true) : l.map toR = (l.map dOf).map (fun x => (⟨x.now, x.k, x.n⟩ : RT)) := by
  rw [List.map_map]
  apply List.map_congr_left
  intro s hs
  have := dOf_key (hok s hs)
  unfold keyD at this
  simp only [Prod.mk.injEq] at this
  simp [Function.comp, toR, this]

/-! ### Samples -/
def rbusy (set from_ : Int) (s : RT) : Bool := decide (from_ ≤ s.f0) && (s.f1 == 2 && decide (set < s.f2))
theorem samp_l0 (set from_ : Int) (hf : I64 from_) (l : List RT) (hl : ∀ s ∈ l, I64 s.f0) (hm : l.length ≤ 1000000) : ∀ (d i k : Nat), l.length - i = d → i ≤ l.length → d + 2 * l.length + 8 < k →
    overfallref24_Samples.l0 k set l from_ l (l.length : Int) (i : Int) = some (if (l.drop i).any (rbusy set from_) then (0, false) else rgapV from_ 2 l) := by
  intro d
  induction d with
  | zero =>
    intro i k hd hi hk
    obtain ⟨k, rfl⟩ : ∃ m, k = m + 1 := ⟨k - 1, by omega⟩
    simp only [overfallref24_Samples.l0]
    rw [if_neg (by omega), List.drop_of_length_le (by omega), rgap_ex from_ 2 hf l hl hm k (by omega)]
    simp
  | succ d ih =>
    intro i k hd hi hk
    obtain ⟨k, rfl⟩ : ∃ m, k = m + 1 := ⟨k - 1, by omega⟩
    simp only [overfallref24_Samples.l0]
    have hia : i < l.length := by omega
    have hnext := ih (i + 1) k (by omega) (by omega) (by omega)
    have hw : wrap64 ((i : Int) + 1) = ((i + 1 : Nat) : Int) := by rw [w64 ⟨by omega, by omega⟩]; omega
    rw [if_pos (show (i : Int) < (l.length : Int) by omega), if_pos (show (0 : Int) ≤ (i : Int) by omega), if_pos (show (i : Int) < (l.length : Int) by omega), rdR hia, hw, hnext]
    rw [List.drop_eq_getElem_cons hia, List.any_cons]
    generalize l[i] = s
    generalize (l.drop (i + 1)).any (rbusy set from_) = b
    unfold rbusy
    by_cases h1 : s.f0 ≥ from_
    · rw [if_pos h1, decide_eq_true (show from_ ≤ s.f0 from h1), Bool.true_and]
      by_cases h2 : s.f1 = 2
      · rw [if_pos h2]
        by_cases h3 : s.f2 > set
        · rw [if_pos h3, decide_eq_true (show set < s.f2 from h3)]; simp [h2]
        · rw [if_neg h3, decide_eq_false (show ¬ set < s.f2 from h3)]; simp
      · rw [if_neg h2]; simp [h2]
    · rw [if_neg h1, decide_eq_false (show ¬ from_ ≤ s.f0 from h1)]; simp
theorem samp_eq (set from_ : Int) (xs : List StepD) : (if (xs.map (fun x => (⟨x.now, x.k, x.n⟩ : RT))).any (rbusy set from_) then ((0 : Int), false) else rgapV from_ 2 (xs.map (fun x => (⟨x.now, x.k, x.n⟩ : RT)))) = sampV set from_ xs := by
  unfold sampV busyAny
  rw [rgap_eq]
  have : (xs.map (fun x => (⟨x.now, x.k, x.n⟩ : RT))).any (rbusy set from_) = (later from_ xs).any (busyS set) := by
    unfold later
    rw [List.any_filter, List.any_map]
    rfl
  rw [this]
theorem rsamp_ex (set from_ : Int) (hf : I64 from_) (l : List RT) (hl : ∀ s ∈ l, I64 s.f0) (hm : l.length ≤ 1000000) : ∀ k, 3 * l.length + 10 ≤ k → overfallref24_Samples.f k set l from_ = some (if l.any (rbusy set from_) then (0, false) else rgapV from_ 2 l) :=
  fun k hk => samp_l0 set from_ hf l hl hm l.length 0 k (by omega) (by omega) (by omega)
/-! ### Quiet, Open -/
def quietV (room target from_ : Int) (gp : Int × Bool) (s : Int) : Int × Bool :=
  if gp.2 = true then (if s > room then (0, false) else if sat ((2 * s + 1) * gp.1) ≥ target then (0, false) else (sat (from_ + sat ((2 * (room + s) + 1) * gp.1)), true)) else (0, false)
def openV (most from_ : Int) (q s : Int × Bool) : Int × Bool := if q.2 = true then (if s.2 = true then (max q.1 (sat (from_ + sat (s.1 * sat (most + 1)))), true) else (0, false)) else (0, false)
theorem i64b_of {x : Int} (h : I64 x) : i64b x = true := i64b_iff.2 h
theorem mul_i64 (a g : Int) (ha : I64 a) (hg : I64 g) : fix_Mul.f a g = some (sat (a * g)) := by unfold fix_Mul.f; rw [i64b_of ha, i64b_of hg]; rfl
theorem add_i64 (a g : Int) (ha : I64 a) (hg : I64 g) : fix_Add.f a g = some (sat (a + g)) := by unfold fix_Add.f; rw [i64b_of ha, i64b_of hg]; rfl
theorem rmul_i64 (a g : Int) (ha : I64 a) (hg : I64 g) : overfallref02_Mul.f a g = some (sat (a * g)) := by unfold overfallref02_Mul.f; rw [i64b_of ha, i64b_of hg]; rfl
theorem radd_i64 (a g : Int) (ha : I64 a) (hg : I64 g) : overfallref02_Add.f a g = some (sat (a + g)) := by unfold overfallref02_Add.f; rw [i64b_of ha, i64b_of hg]; rfl
theorem quiet_ex (a0 a1 a2 a3 a4 a5 a6 a7 a8 a9 a10 a11 a12 a13 a14 a15 : Int) (l : List ST) (from_ : Int) (hf : I64 from_) (hok : okL l = true) (hr : 0 ≤ a1 ∧ a1 ≤ 1024) (hg : I64 (gapV 1 from_ (l.map dOf)).1) (hs : 0 ≤ burst from_ (l.map dOf) ∧ burst from_ (l.map dOf) ≤ 1000001) (k : Nat) :
    steady_Quiet.f (k + 1) a0 a1 a2 a3 a4 a5 a6 a7 a8 a9 a10 a11 a12 a13 a14 a15 l from_ = some (quietV a1 a2 from_ (gapV 1 from_ (l.map dOf)) (burst from_ (l.map dOf))) := by
  unfold steady_Quiet.f steady_Gap.f steady_Burst.f
  rw [if_pos (show (okL l && i64b from_) = true by rw [hok, i64b_of hf]; rfl), if_pos hok]
  simp only [Option.bind_some]
  generalize gapV 1 from_ (l.map dOf) = g at *
  generalize burst from_ (l.map dOf) = s at *
  unfold quietV
  by_cases h1 : g.2 = true
  · rw [if_pos h1, if_pos h1]
    by_cases h2 : s > a1
    · rw [if_pos h2, if_pos h2]; simp only [steady_Quiet.j0]; rw [if_pos trivial]
    · rw [if_neg h2, if_neg h2, w64 (x := 2 * s) ⟨by omega, by omega⟩, w64 (x := 2 * s + 1) ⟨by omega, by omega⟩, mul_i64 _ _ (by unfold I64; omega) hg, Option.bind_some]
      simp only [steady_Quiet.j0]
      by_cases h3 : sat ((2 * s + 1) * g.1) ≥ a2
      · rw [if_pos h3, if_pos (decide_eq_true h3)]
      · rw [if_neg h3, if_neg (by simpa using h3), w64 (x := a1 + s) ⟨by omega, by omega⟩, w64 (x := 2 * (a1 + s)) ⟨by omega, by omega⟩, w64 (x := 2 * (a1 + s) + 1) ⟨by omega, by omega⟩, mul_i64 _ _ (by unfold I64; omega) hg, Option.bind_some, add_i64 _ _ hf (sat_i64 _), Option.bind_some]
  · rw [if_neg h1, if_neg h1]; simp only [steady_Quiet.j0]; rw [if_pos trivial]
theorem rquiet_ex (room target : Int) (l : List RT) (from_ : Int) (hf : I64 from_) (hl : ∀ s ∈ l, I64 s.f0) (hm : l.length ≤ 1000000) (hr : 0 ≤ room ∧ room ≤ 1024) (hg : I64 (rgapV from_ 1 l).1) (hs : 0 ≤ rburst from_ (l.map rOf) ∧ rburst from_ (l.map rOf) ≤ 1000001) (k : Nat) (hk : 2 * l.length + 6 ≤ k) :
    overfallref24_Quiet.f (k + 1) room target l from_ = some (quietV room target from_ (rgapV from_ 1 l) (rburst from_ (l.map rOf))) := by
  unfold overfallref24_Quiet.f overfallref24_Burst.f
  rw [rgap_ex from_ 1 hf l hl hm (k + 1) (by omega), if_pos hm]
  simp only [Option.bind_some]
  generalize rgapV from_ 1 l = g at *
  generalize rburst from_ (l.map rOf) = s at *
  unfold quietV
  by_cases h1 : g.2 = true
  · rw [if_pos h1, if_pos h1]
    by_cases h2 : s > room
    · rw [if_pos h2, if_pos h2]; simp only [overfallref24_Quiet.j0]; rw [if_pos trivial]
    · rw [if_neg h2, if_neg h2, w64 (x := 2 * s) ⟨by omega, by omega⟩, w64 (x := 2 * s + 1) ⟨by omega, by omega⟩, rmul_i64 _ _ (by unfold I64; omega) hg, Option.bind_some]
      simp only [overfallref24_Quiet.j0]
      by_cases h3 : sat ((2 * s + 1) * g.1) ≥ target
      · rw [if_pos h3, if_pos (decide_eq_true h3)]
      · rw [if_neg h3, if_neg (by simpa using h3), w64 (x := room + s) ⟨by omega, by omega⟩, w64 (x := 2 * (room + s)) ⟨by omega, by omega⟩, w64 (x := 2 * (room + s) + 1) ⟨by omega, by omega⟩, rmul_i64 _ _ (by unfold I64; omega) hg, Option.bind_some, radd_i64 _ _ hf (sat_i64 _), Option.bind_some]
  · rw [if_neg h1, if_neg h1]; simp only [overfallref24_Quiet.j0]; rw [if_pos trivial]
theorem open_ex (a0 a1 a2 a3 a4 a5 a6 a7 a8 a9 a10 a11 a12 a13 a14 a15 : Int) (hc : I64 a0 ∧ I64 a1 ∧ I64 a2 ∧ I64 a3 ∧ I64 a4 ∧ I64 a5 ∧ I64 a6 ∧ I64 a7 ∧ I64 a8 ∧ I64 a9 ∧ I64 a10 ∧ I64 a11 ∧ I64 a12 ∧ I64 a13 ∧ I64 a14 ∧ I64 a15) (l : List ST) (from_ : Int) (hf : I64 from_) (hok : okL l = true) (ht : 0 ≤ a0 ∧ a0 ≤ 8) (hr : 0 ≤ a1 ∧ a1 ≤ 1024) (hg : I64 (gapV 1 from_ (l.map dOf)).1) (hg2 : I64 (sampV a8 from_ (l.map dOf)).1) (hs : 0 ≤ burst from_ (l.map dOf) ∧ burst from_ (l.map dOf) ≤ 1000001) (k : Nat) :
    steady_Open.f (k + 1) a0 a1 a2 a3 a4 a5 a6 a7 a8 a9 a10 a11 a12 a13 a14 a15 l from_ = some (openV (a0 * 128) from_ (quietV a1 a2 from_ (gapV 1 from_ (l.map dOf)) (burst from_ (l.map dOf))) (sampV a8 from_ (l.map dOf))) := by
  unfold steady_Open.f steady_Samples.f
  rw [quiet_ex a0 a1 a2 a3 a4 a5 a6 a7 a8 a9 a10 a11 a12 a13 a14 a15 l from_ hf hok hr hg hs k, dif_pos hc, if_pos (show (okL l && i64b from_) = true by rw [hok, i64b_of hf]; rfl)]
  simp only [Option.bind_some]
  generalize quietV a1 a2 from_ (gapV 1 from_ (l.map dOf)) (burst from_ (l.map dOf)) = q at *
  generalize sampV a8 from_ (l.map dOf) = s at *
  unfold openV
  by_cases h1 : q.2 = true
  · rw [if_pos h1, if_pos h1]
    simp only [steady_Open.j0, conf_Config_Most.f]
    by_cases h2 : s.2 = true
    · rw [if_pos h2, if_neg (by rw [h2]; simp), w64 (x := a0 * 128) ⟨by omega, by omega⟩, Option.bind_some, add_i64 _ _ (by unfold I64; omega) (by unfold I64; omega), Option.bind_some, mul_i64 _ _ hg2 (sat_i64 _), Option.bind_some, add_i64 _ _ hf (sat_i64 _), Option.bind_some, mx_max]
    · rw [if_neg h2, if_pos (by simpa using h2)]
  · rw [if_neg h1, if_neg h1]; simp only [steady_Open.j0]; rw [if_pos trivial]
end Go.Proofs.Yteaihgjjplgalaa.PSteadyTells
