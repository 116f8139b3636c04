/- conf.Valid: a code for each row of numbers, as a test; what conf.Parse answers. -/
import Derived.Test.YteaihgjjplgalaaDoorDoorParse
import Derived.Test.YteaihgjjplgalaaDoorPConfValidx1
namespace Go.Proofs.YteaihgjjplgalaaDoor
open Go.RowKit Go.Proofs.YteaihgjjplgalaaDoorW.PrintWords Go.Proofs.YteaihgjjplgalaaDoorW.PrintLast Go.Proofs.YteaihgjjplgalaaDoorW.PrintMore
open Go.Proofs.YteaihgjjplgalaaDoor.PConfValid
set_option linter.unusedVariables false
set_option linter.unusedSimpArgs false

theorem within_f (a l h : Int) : conf_within.f a l h = some (decide (l ≤ a ∧ a ≤ h)) := by
  unfold conf_within.f
  by_cases h1 : a ≥ l
  · rw [if_pos h1]; congr 1; rw [Bool.eq_iff_iff]; simp; omega
  · rw [if_neg h1]; congr 1; symm; rw [decide_eq_false_iff_not]; omega
theorem moderight_f (a b c : Int) : mode_Params_Right.f a b c = some (decide (0 ≤ b ∧ b ≤ a ∧ 0 ≤ c)) := by
  unfold mode_Params_Right.f
  repeat' split
  all_goals (congr 1; first | (rw [Bool.eq_iff_iff]; simp; omega) | (symm; rw [decide_eq_false_iff_not]; omega))
theorem pidright_f (a b c d e f g : Int) : pid_Params_Right.f a b c d e f g = some (decide ((0 ≤ b ∧ 0 ≤ c ∧ 0 ≤ d ∧ 0 ≤ e) ∧ 1 ≤ f ∧ 0 ≤ g)) := by
  unfold pid_Params_Right.f
  by_cases h1 : mn (mn (mn b c) d) e ≥ 0
  · have h1' : 0 ≤ b ∧ 0 ≤ c ∧ 0 ≤ d ∧ 0 ≤ e := by simp only [mn] at h1; repeat' split at h1 <;> omega
    rw [if_pos h1]
    by_cases h2 : f ≥ 1
    · rw [if_pos h2]; congr 1; rw [Bool.eq_iff_iff]; simp only [decide_eq_true_eq]; omega
    · rw [if_neg h2]; congr 1; symm; rw [decide_eq_false_iff_not]; omega
  · have h1' : ¬ (0 ≤ b ∧ 0 ≤ c ∧ 0 ≤ d ∧ 0 ≤ e) := by intro h; apply h1; simp only [mn]; repeat' split <;> omega
    rw [if_neg h1]; congr 1; symm; rw [decide_eq_false_iff_not]; exact fun h => h1' h.1
/-- May a config of these numbers be? -/
def validB : List Int → Bool
  | [a0, a1, a2, a3, a4, a5, a6, a7, a8, a9, a10, a11, a12, a13, a14, a15] => decide (conf_Config_Valid.f a0 a1 a2 a3 a4 a5 a6 a7 a8 a9 a10 a11 a12 a13 a14 a15 = some 0)
  | _ => false
set_option maxRecDepth 100000 in
theorem valid_or (a0 a1 a2 a3 a4 a5 a6 a7 a8 a9 a10 a11 a12 a13 a14 a15 : Int) : conf_Config_Valid.f a0 a1 a2 a3 a4 a5 a6 a7 a8 a9 a10 a11 a12 a13 a14 a15 = some 0 ∨ conf_Config_Valid.f a0 a1 a2 a3 a4 a5 a6 a7 a8 a9 a10 a11 a12 a13 a14 a15 = some 1 := by
  unfold conf_Config_Valid.f conf_Config_Mode.f conf_Config_Pid.f conf_Config_Most.f
  simp only [within_f, moderight_f, pidright_f, Option.bind_some]
  repeat' split
  all_goals first | exact .inl rfl | exact .inr rfl
theorem len16 (l : List Int) (h : l.length = 16) : ∃ a0 a1 a2 a3 a4 a5 a6 a7 a8 a9 a10 a11 a12 a13 a14 a15 : Int, l = [a0, a1, a2, a3, a4, a5, a6, a7, a8, a9, a10, a11, a12, a13, a14, a15] := by
  match l, h with
  | [a0, a1, a2, a3, a4, a5, a6, a7, a8, a9, a10, a11, a12, a13, a14, a15], _ => exact ⟨a0, a1, a2, a3, a4, a5, a6, a7, a8, a9, a10, a11, a12, a13, a14, a15, rfl⟩
theorem valid_any (a0 a1 a2 a3 a4 a5 a6 a7 a8 a9 a10 a11 a12 a13 a14 a15 : Int) (w : World) : Calls Tryd.prog 12 #[.agg #[.int .i64 a0, .int .i64 a1, .int .i64 a2, .int .i64 a3, .int .i64 a4, .int .i64 a5, .int .i64 a6, .int .i64 a7, .int .i64 a8, .int .i64 a9, .int .i64 a10, .int .i64 a11, .int .i64 a12, .int .i64 a13, .int .i64 a14, .int .i64 a15]] w fun e w' => e = .returned (.int .i64 (if validB [a0, a1, a2, a3, a4, a5, a6, a7, a8, a9, a10, a11, a12, a13, a14, a15] = true then 0 else 1)) ∧ Below w.heap.size w w' := by
  have h : conf_Config_Valid.f a0 a1 a2 a3 a4 a5 a6 a7 a8 a9 a10 a11 a12 a13 a14 a15 = some (if validB [a0, a1, a2, a3, a4, a5, a6, a7, a8, a9, a10, a11, a12, a13, a14, a15] = true then 0 else 1) := by
    unfold validB
    rcases valid_or a0 a1 a2 a3 a4 a5 a6 a7 a8 a9 a10 a11 a12 a13 a14 a15 with h | h
    · rw [if_pos (by simp [h])]; exact h
    · rw [if_neg (by simp [h])]; exact h
  exact conf_Config_Valid.calls a0 a1 a2 a3 a4 a5 a6 a7 a8 a9 a10 a11 a12 a13 a14 a15 _ w h
def zero16 : List Int := List.replicate 16 0
/-- The answer out of what the lines say. -/
def endR : Except Int PS → List Int × Int
  | .error e => (zero16, e)
  | .ok q => if validB q.vs = true then (q.vs, 0) else (zero16, 1)
/-- What conf.Parse answers. -/
def parseR (l : List UInt8) : List Int × Int := if 20000 < l.length then (zero16, 7) else endR (linesGo (l.length + 1) told0 l)
def cfgV (vs : List Int) : Value := .agg (vs.map (Value.int .i64)).toArray
theorem cut_shorter {l : List UInt8} (h : (Lib.cut l [10]).2.2 = true) : (Lib.cut l [10]).2.1.length < l.length ∨ l = [] := by
  unfold Lib.cut at *
  split at h
  · rename_i hi
    rw [if_pos hi]
    simp only [List.length_drop, List.length_cons, List.length_nil]
    cases l with
    | nil => right; rfl
    | cons a l => left; simp only [List.length_cons]; omega
  · cases h
theorem cut_lens (l : List UInt8) : (Lib.cut l [10]).1.length ≤ l.length ∧ (Lib.cut l [10]).2.1.length ≤ l.length ∧ ((Lib.cut l [10]).2.2 = true → (Lib.cut l [10]).2.1.length < l.length) := by
  refine ⟨?_, ?_, fun h => ?_⟩
  · unfold Lib.cut
    split
    · simp only [List.length_take]; omega
    · simp
  · unfold Lib.cut
    split
    · simp only [List.length_drop]; omega
    · simp
  · rcases cut_shorter h with h' | h'
    · exact h'
    · subst h'; exact absurd h (by decide)
theorem lines_fuel : ∀ (k k' : Nat) (p : PS) (l : List UInt8), l.length < k → l.length < k' → linesGo k p l = linesGo k' p l
  | 0, _, _, _, h, _ => absurd h (Nat.not_lt_zero _)
  | _, 0, _, _, _, h => absurd h (Nat.not_lt_zero _)
  | k + 1, k' + 1, p, l, h, h' => by
    unfold linesGo
    cases lineStep p (Lib.cut l [10]).1 with
    | error e => rfl
    | ok q =>
      simp only []
      split
      · rename_i hc
        exact lines_fuel k k' q _ (by have := (cut_lens l).2.2 hc; omega) (by have := (cut_lens l).2.2 hc; omega)
      · rfl
/-- What holds at the label. -/
structure JP (w0 : World) (R : List Int × Int) (r : ByteArray) (p : PS) (B b bs : Nat) (w : World) : Prop where
  rsz : r.size ≤ 20000
  vl : p.vs.length = 16
  sl : p.sn.length = 16
  vi : ∀ v ∈ p.vs, -9223372036854775808 ≤ v ∧ v ≤ 9223372036854775807
  hB : w.heap[B]? = some (.cells #[.int .i64 0, .int .i64 0, .int .i64 0, .int .i64 0, .int .i64 0, .int .i64 0, .int .i64 0, .int .i64 0, .int .i64 0, .int .i64 0, .int .i64 0, .int .i64 0, .int .i64 0, .int .i64 0, .int .i64 0, .int .i64 0] 24 (0, 0))
  hb : w.heap[b]? = some (.cells (p.vs.map (Value.int .i64)).toArray 2 (0, 0))
  hs : w.heap[bs]? = some (.cells (p.sn.map Value.bool).toArray 4 (0, 0))
  lB : w0.heap.size ≤ B
  lb : w0.heap.size ≤ b
  ls : w0.heap.size ≤ bs
  lib0 : LibAt w0
  bel : Below w0.heap.size w0 w
  same : endR (linesGo (r.size + 1) p r.data.toList) = R
theorem JP.lib {w0 R r p B b bs w} (h : JP w0 R r p B b bs w) : LibAt w := h.lib0.below h.bel
theorem JP.below {w0 R r p B b bs w w'} (h : JP w0 R r p B b bs w) (hb : Below w.heap.size w w') : JP w0 R r p B b bs w' :=
  { h with hB := (hb.block B (blk_lt h.hB)).trans h.hB, hb := (hb.block b (blk_lt h.hb)).trans h.hb, hs := (hb.block bs (blk_lt h.hs)).trans h.hs, bel := h.bel.trans (hb.mono h.bel.size) }
theorem JP.drew {w0 R r p B b bs w} (h : JP w0 R r p B b bs w) : JP w0 R r p B b bs w.drew := { h with bel := h.bel.drew }
theorem JP.ne1 {w0 R r p B b bs w} (h : JP w0 R r p B b bs w) : B ≠ b := fun e => by
  have h1 := h.hB; rw [e, h.hb] at h1; injection h1 with h1; injection h1 with _ h1; exact absurd h1 (by decide)
theorem JP.ne2 {w0 R r p B b bs w} (h : JP w0 R r p B b bs w) : B ≠ bs := fun e => by
  have h1 := h.hB; rw [e, h.hs] at h1; injection h1 with h1; injection h1 with _ h1; exact absurd h1 (by decide)
theorem JP.ne3 {w0 R r p B b bs w} (h : JP w0 R r p B b bs w) : b ≠ bs := fun e => by
  have h1 := h.hb; rw [e, h.hs] at h1; injection h1 with h1; injection h1 with _ h1; exact absurd h1 (by decide)
/-- The text's rest, once its line was taken. -/
theorem JP.go {w0 R r p B b bs w} (h : JP w0 R r p B b bs w) {ln rest : List UInt8} {more : Bool} (hc : Lib.cut r.data.toList [10] = (ln, rest, more)) : endR (match lineStep p ln with | .error e => .error e | .ok q => if more = true then linesGo (rest.length + 1) q rest else .ok q) = R := by
  have hl := cut_lens r.data.toList
  have hrs : r.data.toList.length = r.size := by rw [Array.length_toList]; rfl
  rw [← h.same]
  conv => rhs; unfold linesGo
  rw [hc] at hl ⊢
  simp only [] at hl ⊢
  cases lineStep p ln with
  | error e => rfl
  | ok q =>
    simp only []
    split
    · rename_i hm
      congr 1
      exact lines_fuel _ _ _ _ (by omega) (by have := hl.2.2 hm; omega)
    · rfl
theorem JP.next {w0 R R' r p q B b bs w w'} (h : JP w0 R r p B b bs w) (h2 : JP w0 R' r q B b bs w') {ln : List UInt8} {rest : ByteArray} {more : Bool} (hc : Lib.cut r.data.toList [10] = (ln, rest.data.toList, more)) (hm : more = true) (hq : lineStep p ln = .ok q) : JP w0 R rest q B b bs w' := by
  have hg := h.go hc
  have hl := cut_lens r.data.toList
  have hrs : r.data.toList.length = r.size := by rw [Array.length_toList]; rfl
  have hrs' : rest.data.toList.length = rest.size := by rw [Array.length_toList]; rfl
  rw [hc] at hl
  simp only [] at hl
  rw [hq] at hg
  simp only [] at hg
  rw [if_pos hm, hrs'] at hg
  exact { h2 with rsz := by have := h.rsz; omega, same := hg }
theorem JP.last {w0 R r p B b bs w} (h : JP w0 R r p B b bs w) {q : PS} {ln rest : List UInt8} (hc : Lib.cut r.data.toList [10] = (ln, rest, false)) (hq : lineStep p ln = .ok q) : R = endR (.ok q) := by
  have hg := h.go hc
  rw [hq] at hg
  exact hg.symm
theorem JP.fail {w0 R r p B b bs w} (h : JP w0 R r p B b bs w) {e : Int} {ln rest : List UInt8} {more : Bool} (hc : Lib.cut r.data.toList [10] = (ln, rest, more)) (hq : lineStep p ln = .error e) : R = (zero16, e) := by
  have hg := h.go hc
  rw [hq] at hg
  exact hg.symm
theorem JP.store {w0 R r p B b bs w} (h : JP w0 R r p B b bs w) (i : Nat) (n : Int) (hn : -9223372036854775808 ≤ n ∧ n ≤ 9223372036854775807) : JP w0 (endR (linesGo (r.size + 1) ⟨p.vs.set i n, p.sn.set i true⟩ r.data.toList)) r ⟨p.vs.set i n, p.sn.set i true⟩ B b bs ((w.setCell ⟨b, i, none⟩ (.int .i64 n)).setCell ⟨bs, i, none⟩ (.bool true)) := by
  have n1 := h.ne1
  have n2 := h.ne2
  have n3 := h.ne3
  refine { h with vl := by simp [h.vl], sl := by simp [h.sl], vi := ?_, hB := ?_, hb := ?_, hs := ?_, bel := ?_, same := rfl }
  · intro v hv
    rcases List.mem_or_eq_of_mem_set hv with hv | rfl
    · exact h.vi v hv
    · exact hn
  · exact (Below.heap_setCell _ _ _ B n2).trans ((Below.heap_setCell _ _ _ B n1).trans h.hB)
  · refine (Below.heap_setCell _ _ _ b n3).trans ((blk_set h.hb i (.int .i64 n)).trans ?_)
    congr 2
    apply Array.ext'
    simp
  · refine (blk_set ((Below.heap_setCell _ _ _ bs (Ne.symm n3)).trans h.hs) i (.bool true)).trans ?_
    congr 2
    apply Array.ext'
    simp
  · exact (h.bel.setCell (p := ⟨b, i, none⟩) h.lb _).setCell (p := ⟨bs, i, none⟩) h.ls _
theorem JP.seen {w0 R r p B b bs w} (h : JP w0 R r p B b bs w) (i : Nat) (hi : i < 16) : w.cell? ⟨bs, i, none⟩ = some (.bool (p.sn.getD i false)) := by
  rw [blk_cell h.hs i]
  have : i < p.sn.length := by have := h.sl; omega
  simp [List.getElem?_map, List.getD_eq_getElem?_getD, List.getElem?_eq_getElem this]
theorem JP.val {w0 R r p B b bs w} (h : JP w0 R r p B b bs w) (i : Nat) (hi : i < 16) : w.cell? ⟨b, i, none⟩ = some (.int .i64 (p.vs.getD i 0)) := by
  rw [blk_cell h.hb i]
  have : i < p.vs.length := by have := h.vl; omega
  simp [List.getElem?_map, List.getD_eq_getElem?_getD, List.getElem?_eq_getElem this]
theorem idx_lt : ∀ (zs : List ByteArray) (x : ByteArray) (i : Nat), Lib.idxFromS zs x i < ((i + zs.length : Nat) : Int) ∨ Lib.idxFromS zs x i = -1
  | [], _, _ => .inr rfl
  | z :: zs, x, i => by
    unfold Lib.idxFromS
    split
    · left; simp only [List.length_cons]; omega
    · rcases idx_lt zs x (i + 1) with h | h
      · left; simp only [List.length_cons]; omega
      · exact .inr h
theorem toldI_lt (l : List UInt8) : toldI l < 16 := by
  have hl : nameB.length = 16 := by unfold nameB; rw [List.length_map]; exact names_len
  rcases idx_lt nameB ⟨(cutL l).1.toArray⟩ 0 with h | h
  · rw [hl] at h; unfold toldI Lib.idxOfS; omega
  · unfold toldI Lib.idxOfS; omega
theorem tell_cases (p : PS) (l : List UInt8) (h1 : l ≠ []) (h2 : l.head? ≠ some 35) : (toldB l = false ∧ lineStep p l = .error 9) ∨ (toldB l = true ∧ ∃ (i : Nat) (n : Int), i < 16 ∧ toldI l = (i : Int) ∧ toldN (cutL l).2.1 = n ∧ (-9223372036854775808 ≤ n ∧ n ≤ 9223372036854775807) ∧ lineStep p l = if p.sn.getD i false = true then .error 2 else .ok ⟨p.vs.set i n, p.sn.set i true⟩) := by
  unfold lineStep
  rw [if_pos ⟨h1, h2⟩]
  cases hB : toldB l with
  | false => exact .inl ⟨rfl, rfl⟩
  | true =>
    have hB' := hB
    unfold toldB at hB'
    rw [Bool.and_eq_true, decide_eq_true_eq] at hB'
    obtain ⟨h0, hD⟩ := hB'
    have hlt := toldI_lt l
    refine .inr ⟨rfl, (toldI l).toNat, _, by omega, by omega, rfl, ?_, by rw [if_pos rfl]⟩
    unfold toldD at hD
    unfold toldN
    rcases hp : Lib.parseIntB 64 (cutL l).2.1 with v | _ | _
    · exact parseIntB_i64 hp
    · rw [hp] at hD; cases hD
    · rw [hp] at hD; cases hD
theorem head_get (lb : ByteArray) (h0 : 0 < lb.size) : lb.data.toList.head? = some lb[0] := by
  rw [List.head?_eq_getElem?, List.getElem?_eq_getElem (by rw [Array.length_toList]; exact h0)]
  rfl
theorem step_hash (p : PS) {lb : ByteArray} (h0 : 0 < lb.size) (h : ((lb[0].toNat : Int) != 35) = false) : lineStep p lb.data.toList = .ok p := by
  have h3 : (lb[0].toNat : Int) = 35 := by simpa using h
  have h4 : lb[0].toNat = 35 := by omega
  have h5 : lb[0] = 35 := UInt8.toNat_inj.1 h4
  have key : lb.data.toList.head? = some 35 := (head_get lb h0).trans (by rw [h5])
  unfold lineStep
  exact if_neg (fun hh => hh.2 key)
theorem not_hash {lb : ByteArray} (h0 : 0 < lb.size) (h : ((lb[0].toNat : Int) != 35) = true) : lb.data.toList.head? ≠ some 35 := by
  rw [head_get lb h0]
  intro hh
  injection hh with hh
  rw [hh] at h
  exact absurd h (by decide)
theorem step_empty (p : PS) {lb : ByteArray} (h : lb.toList = []) : lineStep p lb.data.toList = .ok p := by
  rw [ByteArray.toList_eq] at h
  unfold lineStep
  rw [if_neg (fun hh => hh.1 h)]
end Go.Proofs.YteaihgjjplgalaaDoor
