/- What the printed functions of PaceTells compute: plain laws on lists and numbers. -/
import Derived.Test.YteaihgjjplgalaaGPaceTells
import Derived.Test.YteaihgjjplgalaaPPaceTellsx1
import Derived.Test.YteaihgjjplgalaaPPaceTellsx2
import Derived.Test.YteaihgjjplgalaaPPaceTellsx3
namespace Go.Proofs.Yteaihgjjplgalaa.PPaceTells
open Go.RowKit Go.Proofs.YteaihgjjplgalaaW.PrintWords Go.Proofs.YteaihgjjplgalaaW.PrintLast Go.Proofs.YteaihgjjplgalaaW.PrintMore
set_option linter.unusedVariables false
set_option linter.unusedSimpArgs false

abbrev IT := S145
abbrev RI := S147
abbrev CL := S99
abbrev RC := S104
theorem w64 {x : Int} (h : -9223372036854775808 ≤ x ∧ x ≤ 9223372036854775807) : wrap64 x = x := by unfold wrap64; omega

/-! ### slices.Equal -/
theorem equal_l0 (a b : List Int) (hl : a.length = b.length) (hm : a.length ≤ 1000000000) : ∀ (d i k : Nat), a.length - i = d → i ≤ a.length → d < k →
    slices_Equal_int_int.l0 k a b (a.length : Int) (i : Int) = some (decide (a.drop i = b.drop i)) := by
  intro d
  induction d with
  | zero =>
    intro i k hd hi hk
    obtain ⟨k, rfl⟩ : ∃ m, k = m + 1 := ⟨k - 1, by omega⟩
    simp only [slices_Equal_int_int.l0]
    rw [if_neg (by omega), List.drop_of_length_le (by omega), List.drop_of_length_le (by omega)]
    simp
  | succ d ih =>
    intro i k hd hi hk
    obtain ⟨k, rfl⟩ : ∃ m, k = m + 1 := ⟨k - 1, by omega⟩
    simp only [slices_Equal_int_int.l0]
    have hia : i < a.length := by omega
    have hib : i < b.length := by omega
    rw [if_pos (by omega), if_pos (by omega), if_pos (by omega), if_pos (by omega), w64 (by omega)]
    have := ih (i + 1) k (by omega) (by omega) (by omega)
    rw [show ((i : Int) + 1) = ((i + 1 : Nat) : Int) by omega, this]
    have ea : rd a (i : Int) = a[i] := by simp [rd, List.getD_eq_getElem?_getD, List.getElem?_eq_getElem hia]
    have eb : rd b (i : Int) = b[i] := by simp [rd, List.getD_eq_getElem?_getD, List.getElem?_eq_getElem hib]
    rw [ea, eb, List.drop_eq_getElem_cons hia, List.drop_eq_getElem_cons hib]
    by_cases e : a[i] = b[i]
    · rw [if_pos e, e]; simp only [List.cons.injEq, true_and]
    · rw [if_neg e]; simp only [List.cons.injEq, e, false_and, decide_false]
theorem equal_ev (a b : List Int) (hm : a.length ≤ 1000000000) : Ev (fun k => slices_Equal_int_int.f k a b) (decide (a = b)) := by
  refine ⟨a.length + 1, fun k hk => ?_⟩
  show slices_Equal_int_int.f k a b = _
  unfold slices_Equal_int_int.f
  by_cases hl : (a.length : Int) = b.length
  · rw [if_pos hl]
    have := equal_l0 a b (by omega) hm a.length 0 k (by omega) (by omega) (by omega)
    simpa using this
  · rw [if_neg hl]
    have : ¬ a = b := fun e => hl (by rw [e])
    simp [this]

/-! ### own -/
def convI (x : IT) : RI := ⟨x.f0, x.f1, x.f2, ⟨x.f3.f0, x.f3.f1, x.f3.f2, x.f3.f3⟩⟩
def convC (c : CL) : RC := ⟨c.f0, ⟨0, 0, 0, 0⟩, c.f2, c.f3, 0, 0, 0, ⟨0, 0, 0, 0, 0⟩⟩
theorem rdI {l : List IT} {i : Nat} (h : i < l.length) : rd_T145 l (i : Int) = l[i] := by simp [rd_T145, List.getD_eq_getElem?_getD, List.getElem?_eq_getElem h]
theorem rdC {l : List CL} {i : Nat} (h : i < l.length) : rd_T99 l (i : Int) = l[i] := by simp [rd_T99, List.getD_eq_getElem?_getD, List.getElem?_eq_getElem h]
theorem rdRI {l : List RI} {i : Nat} (h : i < l.length) : rd_T147 l (i : Int) = l[i] := by simp [rd_T147, List.getD_eq_getElem?_getD, List.getElem?_eq_getElem h]
theorem rdRC {l : List RC} {i : Nat} (h : i < l.length) : rd_T104 l (i : Int) = l[i] := by simp [rd_T104, List.getD_eq_getElem?_getD, List.getElem?_eq_getElem h]
theorem own_l1 (x6 : List RI) (cs : List CL) (hm : cs.length ≤ 1000000) : ∀ (d i k : Nat), cs.length - i = d → i ≤ cs.length → d < k →
    overfalllaw23_own.l1 k x6 ((cs.take i).map convC) cs (cs.length : Int) (i : Int) = some (x6, cs.map convC) := by
  intro d
  induction d with
  | zero =>
    intro i k hd hi hk
    obtain ⟨k, rfl⟩ : ∃ m, k = m + 1 := ⟨k - 1, by omega⟩
    simp only [overfalllaw23_own.l1]
    rw [if_neg (by omega), List.take_of_length_le (by omega)]
  | succ d ih =>
    intro i k hd hi hk
    obtain ⟨k, rfl⟩ : ∃ m, k = m + 1 := ⟨k - 1, by omega⟩
    simp only [overfalllaw23_own.l1]
    have hia : i < cs.length := by omega
    rw [if_pos (by omega), if_pos (by omega), if_pos (by omega), if_pos (by rw [List.length_map, List.length_take]; omega), w64 (by omega)]
    have := ih (i + 1) k (by omega) (by omega) (by omega)
    rw [show ((i : Int) + 1) = ((i + 1 : Nat) : Int) by omega, ← this, List.take_succ_eq_append_getElem hia, List.map_append, rdC hia]
    rfl
theorem own_l0 (l : List IT) (cs : List CL) (hm : l.length ≤ 1000000) (hc : cs.length ≤ 1000000) : ∀ (d i k : Nat), l.length - i = d → i ≤ l.length → d + cs.length + 1 < k →
    overfalllaw23_own.l0 k cs ((l.take i).map convI) l (l.length : Int) (i : Int) = some (l.map convI, cs.map convC) := by
  intro d
  induction d with
  | zero =>
    intro i k hd hi hk
    obtain ⟨k, rfl⟩ : ∃ m, k = m + 1 := ⟨k - 1, by omega⟩
    simp only [overfalllaw23_own.l0]
    rw [if_neg (by omega), List.take_of_length_le (by omega)]
    exact own_l1 _ cs hc cs.length 0 k (by omega) (by omega) (by omega)
  | succ d ih =>
    intro i k hd hi hk
    obtain ⟨k, rfl⟩ : ∃ m, k = m + 1 := ⟨k - 1, by omega⟩
    simp only [overfalllaw23_own.l0]
    have hia : i < l.length := by omega
    rw [if_pos (by omega), if_pos (by omega), if_pos (by omega), if_pos (by rw [List.length_map, List.length_take]; omega), w64 (by omega)]
    have := ih (i + 1) k (by omega) (by omega) (by omega)
    rw [show ((i : Int) + 1) = ((i + 1 : Nat) : Int) by omega, ← this, List.take_succ_eq_append_getElem hia, List.map_append, rdI hia]
    rfl
theorem own_ev (l : List IT) (cs : List CL) (hm : l.length ≤ 1000000) (hc : cs.length ≤ 1000000) : Ev (fun k => overfalllaw23_own.f k l cs) (l.map convI, cs.map convC) :=
  ⟨l.length + cs.length + 2, fun k hk => own_l0 l cs hm hc l.length 0 k (by omega) (by omega) (by omega)⟩

/-! ### the reference's -/
/-- Is a place in a call's window, and a pick? -/
def inB (n : Nat) (c : CL) (l : List IT) (at_ : Nat) : Bool := decide (0 ≤ c.f2 ∧ c.f2 < n ∧ c.f2 < at_ ∧ (c.f3 < 0 ∨ (at_ : Int) ≤ c.f3)) && (rd_T145 l (at_ : Int)).f0 == 0
theorem rdmap (l : List IT) (i : Nat) (h : i < l.length) : rd_T147 (l.map convI) (i : Int) = convI l[i] := by
  rw [rdRI (by simpa using h)]; simp
theorem in_is (l : List IT) (c : CL) (i : Nat) (h : i < l.length) (z0 z1 z2 z3 z4 z5 z6 z7 z8 z9 z10 z11 : Int) :
    overfallref23_in.f (l.map convI) c.f0 z0 z1 z2 z3 c.f2 c.f3 z4 z5 z6 z7 z8 z9 z10 z11 (i : Int) = some (inB l.length c l i) := by
  unfold overfallref23_in.f inB
  rw [rdmap l i h, rdI h]
  simp only [List.length_map, convI]
  by_cases h1 : c.f2 ≥ 0
  · rw [if_pos h1]
    by_cases h2 : c.f2 < (l.length : Int)
    · rw [if_pos h2]
      by_cases h3 : (i : Int) > c.f2
      · rw [if_pos h3]
        by_cases h4 : c.f3 < 0
        · rw [if_pos h4, if_pos (by omega), if_pos (by omega), decide_eq_true (by omega), Bool.true_and]
        · rw [if_neg h4]
          by_cases h5 : (i : Int) ≤ c.f3
          · rw [if_pos h5, if_pos (by omega), if_pos (by omega), decide_eq_true (by omega), Bool.true_and]
          · rw [if_neg h5, decide_eq_false (by omega), Bool.false_and]
      · rw [if_neg h3, decide_eq_false (by omega), Bool.false_and]
    · rw [if_neg h2, decide_eq_false (by omega), Bool.false_and]
  · rw [if_neg h1, decide_eq_false (by omega), Bool.false_and]

/-- Fold over the places of a window. -/
def wf {σ : Type} (f : σ → IT → σ) (s0 : σ) (l : List IT) (lo en : Nat) : Nat → σ
  | 0 => s0
  | i + 1 => if lo ≤ i ∧ i < en then f (wf f s0 l lo en i) (rd_T145 l (i : Int)) else wf f s0 l lo en i
theorem wf_is {σ : Type} (f : σ → IT → σ) (s0 : σ) (l : List IT) (lo en : Nat) (hen : en ≤ l.length) : ∀ i, i ≤ l.length → wf f s0 l lo en i = ((l.take (min i en)).drop lo).foldl f s0 := by
  intro i
  induction i with
  | zero => intro _; simp [wf]
  | succ i ih =>
    intro hi
    have ih' := ih (by omega)
    unfold wf
    by_cases h : lo ≤ i ∧ i < en
    · rw [if_pos h, ih', rdI (by omega), show min (i + 1) en = i + 1 by omega, show min i en = i by omega, List.take_succ_eq_append_getElem (by omega), List.drop_append_of_le_length (by rw [List.length_take]; omega), List.foldl_append]
      rfl
    · rw [if_neg h, ih']
      rcases Nat.lt_or_ge i en with h1 | h1
      · rw [List.drop_of_length_le (by rw [List.length_take]; omega), List.drop_of_length_le (by rw [List.length_take]; omega)]
      · rw [show min (i + 1) en = en by omega, show min i en = en by omega]
theorem endW_toNat {e : Int} {n : Nat} (h : 0 < n) : ((endW e n).toNat : Int) = endW e n := by have := endW_bounds (e := e) h; omega
theorem wf_pick {σ : Type} (f : σ → IT → σ) (s0 : σ) (l : List IT) (b e : Int) (hb : 0 ≤ b ∧ b < l.length) : wf f s0 l (b + 1).toNat (endW e l.length).toNat l.length = (pickW b e l).foldl f s0 := by
  have h0 := endW_bounds (e := e) (n := l.length) (by omega)
  rw [wf_is f s0 l _ _ (by omega) _ (Nat.le_refl _)]
  unfold pickW
  rw [if_neg (by omega), show min l.length (endW e l.length).toNat = (endW e l.length).toNat by omega]
  by_cases h : b + 1 ≤ endW e l.length
  · rw [show (min (b + 1) (endW e l.length)).toNat = (b + 1).toNat by omega]
  · rw [List.drop_of_length_le (by rw [List.length_take]; omega), List.drop_of_length_le (by rw [List.length_take]; omega)]
/-- inB by the window's bounds. -/
theorem inB_win (c : CL) (l : List IT) (i : Nat) (hi : i < l.length) (hb : 0 ≤ c.f2 ∧ c.f2 < l.length) : inB l.length c l i = (decide ((c.f2 + 1).toNat ≤ i ∧ i < (endW c.f3 l.length).toNat) && (rd_T145 l (i : Int)).f0 == 0) := by
  unfold inB
  have h0 := endW_bounds (e := c.f3) (n := l.length) (by omega)
  congr 1
  rw [decide_eq_decide]
  unfold endW at *
  split at h0 <;> rename_i h
  · rw [if_pos h]; omega
  · rw [if_neg h]; omega
theorem inB_no (c : CL) (l : List IT) (i : Nat) (hb : c.f2 < 0 ∨ (l.length : Int) ≤ c.f2) : inB l.length c l i = false := by
  unfold inB
  rw [decide_eq_false (by omega), Bool.false_and]

def ws (t b e : Int) (l : List IT) (i : Nat) : List Int × Int := if b < 0 ∨ (l.length : Int) ≤ b then ([], 0) else wf (waitsStep t) ([], 0) l (b + 1).toNat (endW e l.length).toNat i
def outOf (s : List Int × Int) : List Int := s.1 ++ [s.2]
theorem ws_zero (t b e : Int) (l : List IT) : ws t b e l 0 = ([], 0) := by unfold ws wf; split <;> rfl
theorem wf_bounds (t : Int) (l : List IT) (lo en : Nat) : ∀ i, 0 ≤ (wf (waitsStep t) ([], 0) l lo en i).2 ∧ (wf (waitsStep t) ([], 0) l lo en i).2 ≤ i ∧ (wf (waitsStep t) ([], 0) l lo en i).1.length ≤ i := by
  intro i
  induction i with
  | zero => simp [wf]
  | succ i ih =>
    unfold wf
    generalize wf (waitsStep t) ([], 0) l lo en i = s at *
    split
    · unfold waitsStep
      split
      · split
        · simp; omega
        · simp; omega
      · omega
    · omega
theorem ws_bounds (t b e : Int) (l : List IT) (i : Nat) : 0 ≤ (ws t b e l i).2 ∧ (ws t b e l i).2 ≤ i ∧ (ws t b e l i).1.length ≤ i := by
  unfold ws
  split
  · simp
  · exact wf_bounds t l _ _ i
/-- One place more. -/
theorem ws_succ (c : CL) (l : List IT) (i : Nat) (hi : i < l.length) :
    ws c.f0 c.f2 c.f3 l (i + 1) = if inB l.length c l i = true then (if (rd_T145 l (i : Int)).f1 = c.f0 then ((ws c.f0 c.f2 c.f3 l i).1 ++ [(ws c.f0 c.f2 c.f3 l i).2], 0) else ((ws c.f0 c.f2 c.f3 l i).1, (ws c.f0 c.f2 c.f3 l i).2 + 1)) else ws c.f0 c.f2 c.f3 l i := by
  by_cases hb : c.f2 < 0 ∨ (l.length : Int) ≤ c.f2
  · rw [inB_no c l i hb]
    unfold ws
    rw [if_pos hb, if_pos hb]; rfl
  · rw [inB_win c l i hi (by omega)]
    unfold ws
    rw [if_neg hb, if_neg hb]
    conv => lhs; unfold wf
    by_cases h : (c.f2 + 1).toNat ≤ i ∧ i < (endW c.f3 l.length).toNat
    · rw [if_pos h, decide_eq_true h, Bool.true_and]
      generalize wf (waitsStep c.f0) ([], 0) l (c.f2 + 1).toNat (endW c.f3 l.length).toNat i = s
      unfold waitsStep
      by_cases h2 : (rd_T145 l (i : Int)).f0 = 0
      · rw [if_pos h2, if_pos (show ((rd_T145 l (i : Int)).f0 == 0) = true by simpa using h2)]
      · rw [if_neg h2, if_neg (show ¬ ((rd_T145 l (i : Int)).f0 == 0) = true by simpa using h2)]
    · rw [if_neg h, decide_eq_false h, Bool.false_and]; rfl
theorem ws_end (t b e : Int) (l : List IT) : waitsV t b e l = if b < 0 ∨ (l.length : Int) ≤ b then [] else if e ≥ 0 then (ws t b e l l.length).1 else outOf (ws t b e l l.length) := by
  unfold waitsV ws outOf
  by_cases hb : b < 0 ∨ (l.length : Int) ≤ b
  · rw [if_pos hb, if_pos hb]
  · rw [if_neg hb, if_neg hb, if_neg hb, wf_pick _ _ l b e (by omega)]
    simp only []
    by_cases he : e < 0
    · rw [if_pos he, if_neg (show ¬ e ≥ 0 by omega)]
    · rw [if_neg he, if_pos (show e ≥ 0 by omega)]
theorem last_set (a : List Int) (x y : Int) : (a ++ [x]).set a.length y = a ++ [y] := by simp
theorem last_rd (a : List Int) (x : Int) (h : a.length ≤ 1000000) : rd (a ++ [x]) (a.length : Int) = x := by simp [rd, List.getD_eq_getElem?_getD]
theorem out_len (s : List Int × Int) : (outOf s).length = s.1.length + 1 := by simp [outOf]
theorem out_last (s : List Int × Int) (h : s.1.length ≤ 1000000) : wrap64 (((outOf s).length : Int) - 1) = (s.1.length : Int) := by
  rw [out_len, w64 ⟨by omega, by omega⟩]; omega
theorem ref_l0 (l : List IT) (c : CL) (hm : l.length ≤ 1000000) (z0 z1 z2 z3 z4 z5 z6 z7 z8 z9 z10 z11 : Int) : ∀ (d i k : Nat), l.length - i = d → i ≤ l.length → d + 1 < k →
    overfallref23_Waits.l0 k (l.map convI) (outOf (ws c.f0 c.f2 c.f3 l i)) (l.length : Int) (i : Int) c.f0 z0 z1 z2 z3 c.f2 c.f3 z4 z5 z6 z7 z8 z9 z10 z11 = some (waitsV c.f0 c.f2 c.f3 l) := by
  intro d
  induction d with
  | zero =>
    intro i k hd hi hk
    obtain ⟨k, rfl⟩ : ∃ m, k = m + 2 := ⟨k - 2, by omega⟩
    obtain rfl : i = l.length := by omega
    simp only [overfallref23_Waits.l0]
    rw [if_neg (by omega), ws_end]
    have hwb := ws_bounds c.f0 c.f2 c.f3 l l.length
    by_cases h1 : c.f2 < 0
    · rw [if_pos h1, if_pos (show c.f2 < 0 ∨ (l.length : Int) ≤ c.f2 from .inl h1)]
      simp only [overfallref23_Waits.j1]; rw [if_pos trivial]
    · rw [if_neg h1]
      simp only [overfallref23_Waits.j1, List.length_map]
      by_cases h2 : c.f2 ≥ (l.length : Int)
      · rw [if_pos (show decide (c.f2 ≥ (l.length : Int)) = true by simpa using h2), if_pos (show c.f2 < 0 ∨ (l.length : Int) ≤ c.f2 from .inr h2)]
      · rw [if_neg (show ¬ decide (c.f2 ≥ (l.length : Int)) = true by simpa using h2), if_neg (show ¬ (c.f2 < 0 ∨ (l.length : Int) ≤ c.f2) by omega)]
        by_cases h3 : c.f3 ≥ 0
        · rw [if_pos h3, if_pos h3]
          generalize ws c.f0 c.f2 c.f3 l l.length = s at *
          rw [out_last s (by omega), if_pos (show (0 : Int) ≤ (s.1.length : Int) by omega), if_pos (show (s.1.length : Int) ≤ ((outOf s).length : Int) by rw [out_len]; omega)]
          simp [outOf]
        · rw [if_neg h3, if_neg h3]
  | succ d ih =>
    intro i k hd hi hk
    obtain ⟨k, rfl⟩ : ∃ m, k = m + 1 := ⟨k - 1, by omega⟩
    simp only [overfallref23_Waits.l0]
    have hia : i < l.length := by omega
    have hnext := ih (i + 1) k (by omega) (by omega) (by omega)
    rw [ws_succ c l i hia] at hnext
    have hwb := ws_bounds c.f0 c.f2 c.f3 l i
    generalize ws c.f0 c.f2 c.f3 l i = s at *
    have hw : wrap64 ((i : Int) + 1) = ((i + 1 : Nat) : Int) := by rw [w64 ⟨by omega, by omega⟩]; omega
    rw [if_pos (show (i : Int) < (l.length : Int) by omega), in_is l c i hia, Option.bind_some]
    by_cases hB : inB l.length c l i = true
    · rw [if_pos hB, if_pos (show (0 : Int) ≤ (i : Int) by omega), if_pos (show (i : Int) < ((l.map convI).length : Int) by simp; omega), rdmap l i hia]
      rw [if_pos hB, rdI hia] at hnext
      show (if l[i].f1 = c.f0 then _ else _) = _
      by_cases h1 : l[i].f1 = c.f0
      · rw [if_pos h1, if_pos (show (outOf s).length < 17592186044416 by rw [out_len]; omega), hw]
        rw [if_pos h1] at hnext
        exact hnext
      · rw [if_neg h1, out_last s (by omega), if_pos (show (0 : Int) ≤ (s.1.length : Int) by omega), if_pos (show (s.1.length : Int) < ((outOf s).length : Int) by rw [out_len]; omega), hw]
        rw [if_neg h1] at hnext
        unfold outOf at *
        rw [last_rd _ _ (by omega), w64 ⟨by omega, by omega⟩, Int.toNat_natCast, last_set]
        exact hnext
    · rw [if_neg hB, hw]
      rw [if_neg hB] at hnext
      exact hnext
theorem ref_ev (l : List IT) (c : CL) (hm : l.length ≤ 1000000) (z0 z1 z2 z3 z4 z5 z6 z7 z8 z9 z10 z11 : Int) : Ev (fun k => overfallref23_Waits.f k (l.map convI) c.f0 z0 z1 z2 z3 c.f2 c.f3 z4 z5 z6 z7 z8 z9 z10 z11) (waitsV c.f0 c.f2 c.f3 l) :=
  ⟨l.length + 2, fun k hk => by
    have := ref_l0 l c hm z0 z1 z2 z3 z4 z5 z6 z7 z8 z9 z10 z11 l.length 0 k (by omega) (by omega) (by omega)
    rw [ws_zero] at this
    show overfallref23_Waits.f k _ _ _ _ _ _ _ _ _ _ _ _ _ _ _ _ = _
    unfold overfallref23_Waits.f
    rw [List.length_map]
    exact this⟩

/-! ### Fair -/
theorem mx_max (a b : Int) : mx a b = max a b := by unfold mx; omega
theorem foldmax_ge (W : List Int) : ∀ m, m ≤ W.foldl max m := by
  induction W with
  | nil => intro m; exact Int.le_refl _
  | cons x W ih => intro m; exact Int.le_trans (by omega) (ih (max m x))
theorem foldmax_pull (W : List Int) : ∀ m x, W.foldl max (max m x) = max m (W.foldl max x) := by
  induction W with
  | nil => intro m x; rfl
  | cons y W ih => intro m x; simp only [List.foldl_cons]; rw [show max (max m x) y = max m (max x y) by omega, ih]
theorem maxUp_all (W : List Int) (M : Int) (hM : 0 ≤ M) : max M (maxUp (W ++ [0]) (W ++ [0]).length) = W.foldl max M := by
  unfold maxUp
  rw [List.take_length]
  cases W with
  | nil => simp [rd]; omega
  | cons x W =>
    have : rd (x :: W ++ [0]) 0 = x := by simp [rd]
    rw [this]
    simp only [List.cons_append, List.tail_cons, List.foldl_append, List.foldl_cons, List.foldl_nil]
    rw [foldmax_pull]
    have := foldmax_ge W x
    omega
def wl (l : List IT) (c : CL) : List Int := waitsV c.f0 c.f2 c.f3 l
def fairS (l : List IT) (cs : List CL) : Int := cs.foldl (fun m c => (wl l c).foldl max m) 0
theorem fairS_pos (l : List IT) (cs : List CL) : 0 ≤ fairS l cs := by
  unfold fairS
  have : ∀ (cs : List CL) (m : Int), 0 ≤ m → 0 ≤ cs.foldl (fun m c => (wl l c).foldl max m) m := by
    intro cs
    induction cs with
    | nil => intro m h; exact h
    | cons c cs ih => intro m h; exact ih _ (Int.le_trans h (foldmax_ge _ _))
  exact this cs 0 (Int.le_refl _)
theorem fairS_succ (l : List IT) (cs : List CL) (i : Nat) (h : i < cs.length) : fairS l (cs.take (i + 1)) = (wl l cs[i]).foldl max (fairS l (cs.take i)) := by
  unfold fairS
  rw [List.take_succ_eq_append_getElem h, List.foldl_append]
  rfl
theorem wl_len (l : List IT) (c : CL) : (wl l c).length ≤ l.length + 1 := by
  unfold wl
  rw [ws_end]
  have := ws_bounds c.f0 c.f2 c.f3 l l.length
  split
  · simp
  · split
    · omega
    · rw [out_len]; omega
theorem fair_l0 (l : List IT) (cs : List CL) (hm : l.length ≤ 1000000) (hc : cs.length ≤ 1000000) (hI : ∀ c ∈ cs, I64 c.f2 ∧ I64 c.f3) : ∀ (d i k : Nat), cs.length - i = d → i ≤ cs.length → d < k →
    pace_Fair.l0 k l (fairS l (cs.take i)) cs (cs.length : Int) (i : Int) = some (wrap64 (fairS l cs + 1)) := by
  intro d
  induction d with
  | zero =>
    intro i k hd hi hk
    obtain ⟨k, rfl⟩ : ∃ m, k = m + 1 := ⟨k - 1, by omega⟩
    simp only [pace_Fair.l0]
    rw [if_neg (by omega), List.take_of_length_le (by omega)]
  | succ d ih =>
    intro i k hd hi hk
    obtain ⟨k, rfl⟩ : ∃ m, k = m + 1 := ⟨k - 1, by omega⟩
    simp only [pace_Fair.l0]
    have hia : i < cs.length := by omega
    have hnext := ih (i + 1) k (by omega) (by omega) (by omega)
    have hw : wrap64 ((i : Int) + 1) = ((i + 1 : Nat) : Int) := by rw [w64 ⟨by omega, by omega⟩]; omega
    have hIc := hI cs[i] (List.getElem_mem hia)
    rw [fairS_succ l cs i hia] at hnext
    have hpos := fairS_pos l (cs.take i)
    have hl := wl_len l cs[i]
    rw [if_pos (show (i : Int) < (cs.length : Int) by omega), if_pos (show (0 : Int) ≤ (i : Int) by omega), if_pos (show (i : Int) < (cs.length : Int) by omega), rdC hia, hw]
    unfold pace_Waits.f
    rw [if_pos (by rw [i64b_iff.2 hIc.1, i64b_iff.2 hIc.2, decide_eq_true hm]; rfl), Option.bind_some]
    rw [show waitsV cs[i].f0 cs[i].f2 cs[i].f3 l = wl l cs[i] from rfl]
    rw [if_pos (show (wl l cs[i]).length < 17592186044416 by omega)]
    unfold slices_Max_int_int.f
    rw [if_pos (show 0 < (wl l cs[i] ++ [(0 : Int)]).length by simp), Option.bind_some, mx_max, maxUp_all _ _ hpos]
    exact hnext
theorem fair_ev (l : List IT) (cs : List CL) (hm : l.length ≤ 1000000) (hc : cs.length ≤ 1000000) (hI : ∀ c ∈ cs, I64 c.f2 ∧ I64 c.f3) (x y) : Ev (fun k => pace_Fair.f k l cs x y) (wrap64 (fairS l cs + 1)) :=
  ⟨cs.length + 1, fun k hk => fair_l0 l cs hm hc hI cs.length 0 k (by omega) (by omega) (by omega)⟩
/-! the reference's -/
theorem rdmapC (cs : List CL) (i : Nat) (h : i < cs.length) : rd_T104 (cs.map convC) (i : Int) = convC cs[i] := by
  rw [rdRC (by simpa using h)]; simp
theorem rfair_l1 (l : List IT) (cs : List CL) (W : List Int) (i : Nat) (R : Int) (hm : W.length ≤ 2000000) : ∀ (d j : Nat) (M : Int), W.length - j = d → j ≤ W.length → Ev (fun k => overfallref23_Fair.l0 k (l.map convI) ((W.drop j).foldl max M) (cs.map convC) (cs.length : Int) (wrap64 ((i : Int) + 1))) R →
    Ev (fun k => overfallref23_Fair.l1 k (l.map convI) M (cs.map convC) (cs.length : Int) (i : Int) W (W.length : Int) (j : Int)) R := by
  intro d
  induction d with
  | zero =>
    intro j M hd hj h
    refine Ev.step (f := fun k => overfallref23_Fair.l0 k (l.map convI) ((W.drop j).foldl max M) (cs.map convC) (cs.length : Int) (wrap64 ((i : Int) + 1))) (fun k => ?_) h
    simp only [overfallref23_Fair.l1]
    rw [if_neg (by omega), List.drop_of_length_le (by omega)]
    rfl
  | succ d ih =>
    intro j M hd hj h
    have hja : j < W.length := by omega
    refine Ev.step (f := fun k => overfallref23_Fair.l1 k (l.map convI) (max M W[j]) (cs.map convC) (cs.length : Int) (i : Int) W (W.length : Int) ((j + 1 : Nat) : Int)) (fun k => ?_) (ih (j + 1) _ (by omega) (by omega) ?_)
    · simp only [overfallref23_Fair.l1]
      rw [if_pos (show (j : Int) < (W.length : Int) by omega), if_pos (show (0 : Int) ≤ (j : Int) by omega), if_pos (show (j : Int) < (W.length : Int) by omega), mx_max, w64 ⟨by omega, by omega⟩, show ((j : Int) + 1) = ((j + 1 : Nat) : Int) by omega,
        show rd W (j : Int) = W[j] by simp [rd, List.getD_eq_getElem?_getD, List.getElem?_eq_getElem hja]]
    · rw [List.drop_eq_getElem_cons hja] at h
      exact h
theorem rfair_l0 (l : List IT) (cs : List CL) (hm : l.length ≤ 1000000) (hc : cs.length ≤ 1000000) : ∀ (d i : Nat), cs.length - i = d → i ≤ cs.length →
    Ev (fun k => overfallref23_Fair.l0 k (l.map convI) (fairS l (cs.take i)) (cs.map convC) (cs.length : Int) (i : Int)) (wrap64 (fairS l cs + 1)) := by
  intro d
  induction d with
  | zero =>
    intro i hd hi
    refine Ev.step (f := fun k => some (wrap64 (fairS l cs + 1))) (fun k => ?_) (Ev.now _)
    simp only [overfallref23_Fair.l0]
    rw [if_neg (by omega), List.take_of_length_le (by omega)]
  | succ d ih =>
    intro i hd hi
    have hia : i < cs.length := by omega
    have hw : wrap64 ((i : Int) + 1) = ((i + 1 : Nat) : Int) := by rw [w64 ⟨by omega, by omega⟩]; omega
    have hnext := ih (i + 1) (by omega) (by omega)
    rw [fairS_succ l cs i hia] at hnext
    have hl := wl_len l cs[i]
    refine Ev.step (f := fun k => (overfallref23_Waits.f k (l.map convI) cs[i].f0 0 0 0 0 cs[i].f2 cs[i].f3 0 0 0 0 0 0 0 0).bind fun t => overfallref23_Fair.l1 k (l.map convI) (fairS l (cs.take i)) (cs.map convC) (cs.length : Int) (i : Int) t (t.length : Int) 0) (fun k => ?_) ?_
    · simp only [overfallref23_Fair.l0]
      rw [if_pos (show (i : Int) < (cs.length : Int) by omega), if_pos (show (0 : Int) ≤ (i : Int) by omega), if_pos (show (i : Int) < ((cs.map convC).length : Int) by simp; omega), rdmapC cs i hia]
      rfl
    · refine Ev.bind (f := fun k t => overfallref23_Fair.l1 k (l.map convI) (fairS l (cs.take i)) (cs.map convC) (cs.length : Int) (i : Int) t (t.length : Int) 0) (ref_ev l cs[i] hm _ _ _ _ _ _ _ _ _ _ _ _) ?_
      refine rfair_l1 l cs (wl l cs[i]) i _ (by omega) (wl l cs[i]).length 0 _ (by omega) (by omega) ?_
      rw [hw, List.drop_zero]
      exact hnext
theorem rfair_ev (l : List IT) (cs : List CL) (hm : l.length ≤ 1000000) (hc : cs.length ≤ 1000000) : Ev (fun k => overfallref23_Fair.f k (l.map convI) (cs.map convC)) (wrap64 (fairS l cs + 1)) := by
  have := rfair_l0 l cs hm hc cs.length 0 (by omega) (by omega)
  refine Ev.congr (fun k => ?_) this
  unfold overfallref23_Fair.f
  rw [List.length_map]
  rfl

/-! ### Longest -/
def cnt (n : Int) (x : IT) : Int := if x.f0 = 0 then n + 1 else n
theorem cnt_fold (X : List IT) : ∀ m, X.foldl cnt m = m + picks X := by
  induction X with
  | nil => intro m; simp [picks]
  | cons x X ih =>
    intro m
    simp only [List.foldl_cons]
    rw [ih]
    unfold picks cnt
    by_cases h : x.f0 = 0
    · simp [List.filter_cons, h]; omega
    · simp [List.filter_cons, h]
def cs_ (c : CL) (l : List IT) (i : Nat) : Int := if c.f2 < 0 ∨ (l.length : Int) ≤ c.f2 then 0 else wf cnt 0 l (c.f2 + 1).toNat (endW c.f3 l.length).toNat i
theorem cs_bounds (c : CL) (l : List IT) (i : Nat) : 0 ≤ cs_ c l i ∧ cs_ c l i ≤ i := by
  unfold cs_
  split
  · omega
  · induction i with
    | zero => simp [wf]
    | succ i ih =>
      unfold wf
      generalize wf cnt 0 l (c.f2 + 1).toNat (endW c.f3 l.length).toNat i = s at *
      unfold cnt
      split
      · split <;> omega
      · omega
theorem cs_end (c : CL) (l : List IT) : cs_ c l l.length = picks (pickW c.f2 c.f3 l) := by
  unfold cs_
  by_cases hb : c.f2 < 0 ∨ (l.length : Int) ≤ c.f2
  · rw [if_pos hb]; unfold pickW; rw [if_pos hb]; rfl
  · rw [if_neg hb, wf_pick cnt 0 l c.f2 c.f3 (by omega), cnt_fold]; omega
theorem cs_succ (c : CL) (l : List IT) (i : Nat) (hi : i < l.length) : cs_ c l (i + 1) = if inB l.length c l i = true then cs_ c l i + 1 else cs_ c l i := by
  by_cases hb : c.f2 < 0 ∨ (l.length : Int) ≤ c.f2
  · rw [inB_no c l i hb]
    unfold cs_
    rw [if_pos hb, if_pos hb]; rfl
  · rw [inB_win c l i hi (by omega)]
    unfold cs_
    rw [if_neg hb, if_neg hb]
    conv => lhs; unfold wf
    by_cases h : (c.f2 + 1).toNat ≤ i ∧ i < (endW c.f3 l.length).toNat
    · rw [if_pos h, decide_eq_true h, Bool.true_and]
      generalize wf cnt 0 l (c.f2 + 1).toNat (endW c.f3 l.length).toNat i = s
      unfold cnt
      by_cases h2 : (rd_T145 l (i : Int)).f0 = 0
      · rw [if_pos h2, if_pos (show ((rd_T145 l (i : Int)).f0 == 0) = true by simpa using h2)]
      · rw [if_neg h2, if_neg (show ¬ ((rd_T145 l (i : Int)).f0 == 0) = true by simpa using h2)]
    · rw [if_neg h, decide_eq_false h, Bool.false_and]; rfl
theorem rlong_l1 (l : List IT) (cs : List CL) (c : CL) (i : Nat) (R M : Int) (hm : l.length ≤ 1000000) : ∀ (d j : Nat), l.length - j = d → j ≤ l.length → Ev (fun k => overfallref23_Longest.l0 k (l.map convI) (max M (picks (pickW c.f2 c.f3 l))) (cs.map convC) (cs.length : Int) (wrap64 ((i : Int) + 1))) R →
    Ev (fun k => overfallref23_Longest.l1 k (l.map convI) M (cs_ c l j) (cs.map convC) (cs.length : Int) (i : Int) (l.length : Int) (j : Int) c.f0 0 0 0 0 c.f2 c.f3 0 0 0 0 0 0 0 0) R := by
  intro d
  induction d with
  | zero =>
    intro j hd hj h
    obtain rfl : j = l.length := by omega
    refine Ev.step (f := fun k => overfallref23_Longest.l0 k (l.map convI) (max M (picks (pickW c.f2 c.f3 l))) (cs.map convC) (cs.length : Int) (wrap64 ((i : Int) + 1))) (fun k => ?_) h
    simp only [overfallref23_Longest.l1]
    rw [if_neg (by omega), mx_max, cs_end]
  | succ d ih =>
    intro j hd hj h
    have hja : j < l.length := by omega
    have hb := cs_bounds c l j
    have hw : wrap64 ((j : Int) + 1) = ((j + 1 : Nat) : Int) := by rw [w64 ⟨by omega, by omega⟩]; omega
    refine Ev.step (f := fun k => overfallref23_Longest.l1 k (l.map convI) M (cs_ c l (j + 1)) (cs.map convC) (cs.length : Int) (i : Int) (l.length : Int) ((j + 1 : Nat) : Int) c.f0 0 0 0 0 c.f2 c.f3 0 0 0 0 0 0 0 0) (fun k => ?_) (ih (j + 1) (by omega) (by omega) h)
    simp only [overfallref23_Longest.l1]
    rw [if_pos (show (j : Int) < (l.length : Int) by omega), in_is l c j hja, Option.bind_some, hw, cs_succ c l j hja]
    by_cases hB : inB l.length c l j = true
    · rw [if_pos hB, if_pos hB, w64 ⟨by omega, by omega⟩]
    · rw [if_neg hB, if_neg hB]
theorem rlong_l0 (l : List IT) (cs : List CL) (hm : l.length ≤ 1000000) (hc : cs.length ≤ 1000000) : ∀ (d i : Nat), cs.length - i = d → i ≤ cs.length →
    Ev (fun k => overfallref23_Longest.l0 k (l.map convI) (longestV l (cs.take i)) (cs.map convC) (cs.length : Int) (i : Int)) (longestV l cs) := by
  intro d
  induction d with
  | zero =>
    intro i hd hi
    refine Ev.step (f := fun k => some (longestV l cs)) (fun k => ?_) (Ev.now _)
    simp only [overfallref23_Longest.l0]
    rw [if_neg (by omega), List.take_of_length_le (by omega)]
  | succ d ih =>
    intro i hd hi
    have hia : i < cs.length := by omega
    have hw : wrap64 ((i : Int) + 1) = ((i + 1 : Nat) : Int) := by rw [w64 ⟨by omega, by omega⟩]; omega
    have hnext := ih (i + 1) (by omega) (by omega)
    rw [longest_succ l cs i hia, rdC hia] at hnext
    refine Ev.step (f := fun k => overfallref23_Longest.l1 k (l.map convI) (longestV l (cs.take i)) (cs_ cs[i] l 0) (cs.map convC) (cs.length : Int) (i : Int) (l.length : Int) ((0 : Nat) : Int) cs[i].f0 0 0 0 0 cs[i].f2 cs[i].f3 0 0 0 0 0 0 0 0) (fun k => ?_) (rlong_l1 l cs cs[i] i _ _ hm l.length 0 (by omega) (by omega) (by rw [hw]; exact hnext))
    simp only [overfallref23_Longest.l0]
    rw [if_pos (show (i : Int) < (cs.length : Int) by omega), if_pos (show (0 : Int) ≤ (i : Int) by omega), if_pos (show (i : Int) < ((cs.map convC).length : Int) by simp; omega), rdmapC cs i hia, List.length_map]
    have : cs_ cs[i] l 0 = 0 := by have := cs_bounds cs[i] l 0; omega
    rw [this]
    rfl
theorem rlong_ev (l : List IT) (cs : List CL) (hm : l.length ≤ 1000000) (hc : cs.length ≤ 1000000) : Ev (fun k => overfallref23_Longest.f k (l.map convI) (cs.map convC)) (longestV l cs) := by
  have := rlong_l0 l cs hm hc cs.length 0 (by omega) (by omega)
  refine Ev.congr (fun k => ?_) this
  unfold overfallref23_Longest.f
  rw [List.length_map]
  rfl
/-! ### the example -/
theorem awake_ev : Ev (fun k => overfalllaw23_awake.f k) true := Ev.of (k := 60) (overfalllaw23_awake.mono) (by decide +kernel)
end Go.Proofs.Yteaihgjjplgalaa.PPaceTells
