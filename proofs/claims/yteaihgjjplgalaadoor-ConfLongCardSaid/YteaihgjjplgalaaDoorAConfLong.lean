/- QNum, QPar, QNum2, L0ConfLong, L1ConfLong, L2ConfLong, RConfLong, in one text (catpl.py). -/
import Derived.Test.YteaihgjjplgalaaDoorQText
import Derived.Test.YteaihgjjplgalaaDoorQLines
import Derived.Test.YteaihgjjplgalaaDoorPConfLongx3
import Derived.Test.YteaihgjjplgalaaDoorQValid
import Derived.Test.YteaihgjjplgalaaDoorDoorAwake2
import Derived.Lib.SlBytesRow
import Derived.Deep.OwnRows
import Derived.Test.YteaihgjjplgalaaDoorOpen
import Derived.Test.YteaihgjjplgalaaDoorDoorLaid
import Derived.ChangeMaps5
import Derived.OpenShut
/- The reference's Number, as the print has it, takes just what conf.told takes: plain laws. -/

namespace Go.Proofs.YteaihgjjplgalaaDoor
open Go.RowKit Go.Proofs.YteaihgjjplgalaaDoorW.PrintWords Go.Proofs.YteaihgjjplgalaaDoorW.PrintLast Go.Proofs.YteaihgjjplgalaaDoorW.PrintMore
set_option linter.unusedVariables false
set_option linter.unusedSimpArgs false

/-- digits, behind what was read -/
def numAcc : List UInt8 → Nat → Option Nat
  | [], a => some a
  | c :: r, a => if 48 ≤ c.toNat ∧ c.toNat ≤ 57 then numAcc r (10 * a + (c.toNat - 48)) else none
theorem numAcc_app : ∀ (l r : List UInt8) (a : Nat), numAcc (l ++ r) a = (numAcc l a).bind fun b => numAcc r b
  | [], r, a => rfl
  | c :: l, r, a => by
    show (if 48 ≤ c.toNat ∧ c.toNat ≤ 57 then numAcc (l ++ r) (10 * a + (c.toNat - 48)) else none) = (if 48 ≤ c.toNat ∧ c.toNat ≤ 57 then numAcc l (10 * a + (c.toNat - 48)) else none).bind fun b => numAcc r b
    split
    · exact numAcc_app l r _
    · rfl
theorem numAcc_dec (u : Nat) : numAcc (Lib.decDigits u) 0 = some u := by
  induction u using Nat.strongRecOn with
  | _ u ih =>
    unfold Lib.decDigits
    by_cases h : u < 10
    · rw [dif_pos h]
      unfold numAcc
      rw [ofNat_lt _ (by omega), if_pos (by omega)]
      unfold numAcc
      congr 1
      omega
    · rw [dif_neg h, numAcc_app, ih (u / 10) (by omega), Option.bind_some]
      unfold numAcc
      rw [ofNat_lt _ (by omega), if_pos (by omega)]
      unfold numAcc
      congr 1
      omega
theorem numAcc_lt : ∀ (l : List UInt8) (a n : Nat), numAcc l a = some n → a * 10 ^ l.length ≤ n ∧ n < (a + 1) * 10 ^ l.length
  | [], a, n, h => by
    unfold numAcc at h
    injection h with h
    subst h
    simp
  | c :: l, a, n, h => by
    unfold numAcc at h
    split at h
    · rename_i hc
      obtain ⟨h1, h2⟩ := numAcc_lt l _ n h
      rw [List.length_cons, Nat.pow_succ]
      generalize 10 ^ l.length = P at h1 h2
      generalize hd : c.toNat - 48 = d at h1 h2
      have hd9 : d ≤ 9 := by omega
      have e1 : (10 * a + d) * P = 10 * (a * P) + d * P := by rw [Nat.add_mul, Nat.mul_assoc]
      have e2 : (10 * a + d + 1) * P = 10 * (a * P) + d * P + P := by rw [Nat.add_mul, e1, Nat.one_mul]
      have e3 : a * (P * 10) = 10 * (a * P) := by rw [← Nat.mul_assoc, Nat.mul_comm]
      have e4 : (a + 1) * (P * 10) = 10 * (a * P) + 10 * P := by rw [Nat.add_mul, e3, Nat.one_mul, Nat.mul_comm P 10]
      have e5 : d * P ≤ 9 * P := Nat.mul_le_mul_right _ hd9
      rw [e1] at h1
      rw [e2] at h2
      rw [e3, e4]
      omega
    · cases h
/-- Digits without a zero ahead are the number's own. -/
theorem dec_of_acc : ∀ (k : Nat) (l : List UInt8), l.length = k → ∀ (n : Nat), l ≠ [] → (l.head? = some 48 → l.length = 1) → numAcc l 0 = some n → Lib.decDigits n = l := by
  intro k
  induction k with
  | zero => intro l hk n h; exact absurd (List.eq_nil_of_length_eq_zero hk) h
  | succ k ih0 =>
    intro l0 hk n hne0 hz hn
    rcases List.eq_nil_or_concat l0 with rfl | ⟨l, c, hlc⟩
    · exact absurd rfl hne0
    have hlc' : l0 = l ++ [c] := by rw [hlc, List.concat_eq_append]
    clear hlc
    subst hlc'
    have ih := ih0 l (by rw [List.length_append, List.length_singleton] at hk; omega)
    rw [numAcc_app] at hn
    cases hm : numAcc l 0 with
    | none => rw [hm] at hn; cases hn
    | some m =>
      rw [hm, Option.bind_some] at hn
      unfold numAcc at hn
      split at hn
      · rename_i hc
        unfold numAcc at hn
        injection hn with hn
        have hcc : UInt8.ofNat (48 + (c.toNat - 48)) = c := by
          apply UInt8.toNat_inj.1
          rw [ofNat_lt _ (by omega)]
          omega
        cases hl : l with
        | nil =>
          subst hl
          unfold numAcc at hm
          injection hm with hm
          subst hm
          unfold Lib.decDigits
          rw [dif_pos (by omega), ← hn]
          rw [show 10 * 0 + (c.toNat - 48) = c.toNat - 48 by omega, hcc]
          rfl
        | cons a r =>
          have hne : l ≠ [] := by rw [hl]; simp
          have hz' : l.head? = some 48 → l.length = 1 := by
            intro hh
            have h2 := hz (by rw [hl] at hh ⊢; exact hh)
            rw [List.length_append, List.length_singleton] at h2
            rw [hl] at h2
            simp at h2
          have hm1 : 1 ≤ m := by
            rcases Nat.eq_zero_or_pos m with h0 | h0
            · subst h0
              exfalso
              rw [hl] at hm
              unfold numAcc at hm
              split at hm
              · rename_i ha
                have h3 := (numAcc_lt r _ 0 hm).1
                have hp : 1 ≤ 10 ^ r.length := Nat.one_le_pow _ _ (by decide)
                have ha0 : a.toNat = 48 := by
                  rcases Nat.lt_or_ge 48 a.toNat with h | h
                  · exfalso
                    have : 1 * 1 ≤ (10 * 0 + (a.toNat - 48)) * 10 ^ r.length := Nat.mul_le_mul (by omega) hp
                    omega
                  · omega
                have ha' : a = 48 := UInt8.toNat_inj.1 ha0
                have h2 := hz (by rw [hl, ha']; rfl)
                rw [hl] at h2
                simp at h2
              · cases hm
            · exact h0
          have := ih m hne hz' hm
          rw [← hl]
          unfold Lib.decDigits
          rw [dif_neg (by omega)]
          have e1 : n / 10 = m := by omega
          have e2 : 48 + n % 10 = 48 + (c.toNat - 48) := by omega
          rw [e1, e2, hcc, this]
      · cases hn
theorem dec_len' : ∀ (n u : Nat), u < 10 ^ (n + 1) → (Lib.decDigits u).length ≤ n + 1
  | 0, u, h => by
    unfold Lib.decDigits
    rw [dif_pos (by simpa using h)]
    simp
  | n + 1, u, h => by
    unfold Lib.decDigits
    by_cases hu : u < 10
    · rw [dif_pos hu]; simp
    · rw [dif_neg hu, List.length_append, List.length_singleton]
      have := dec_len' n (u / 10) (by rw [Nat.pow_succ] at h; omega)
      omega
theorem dec_head (u : Nat) (h : (Lib.decDigits u).head? = some 48) : (Lib.decDigits u).length = 1 := by
  induction u using Nat.strongRecOn with
  | _ u ih =>
    by_cases hu : u < 10
    · unfold Lib.decDigits; rw [dif_pos hu]; rfl
    · exfalso
      unfold Lib.decDigits at h
      rw [dif_neg hu] at h
      have hne := (dec_digits (u / 10)).2
      have hh : (Lib.decDigits (u / 10)).head? = some 48 := by
        cases hq : Lib.decDigits (u / 10) with
        | nil => exact absurd hq hne
        | cons a l => rw [hq] at h; exact h
      have h1 := ih (u / 10) (by omega) hh
      have ha := numAcc_dec (u / 10)
      cases hq : Lib.decDigits (u / 10) with
      | nil => exact absurd hq hne
      | cons a l =>
        rw [hq] at h1 hh ha
        have hl : l = [] := List.eq_nil_of_length_eq_zero (by simpa using h1)
        subst hl
        have ha48 : a = 48 := by simpa using hh
        subst ha48
        have : u / 10 = 0 := by
          have e : numAcc [48] 0 = some 0 := rfl
          rw [e] at ha
          injection ha with ha
          exact ha.symm
        omega
/-- What Number says: of digits behind the sign. -/
def numU (neg : Bool) (l : List UInt8) : Int × Bool :=
  if l.length < 1 ∨ 19 < l.length ∨ (l.head? = some 48 ∧ (1 < l.length ∨ neg = true)) then (0, false) else
  match numAcc l 0 with
  | none => (0, false)
  | some N => if neg = true then (if (N : Int) > 9223372036854775808 then (0, false) else (-(N : Int), true)) else (wrap64 (N : Int), decide ((N : Int) ≤ 9223372036854775807))
def numR (d : List UInt8) : Int × Bool := if d.head? = some 45 then numU true d.tail else numU false d
theorem itoa_cases (v : Int) : (v < 0 ∧ Lib.itoa v = 45 :: Lib.decDigits v.natAbs) ∨ (0 ≤ v ∧ Lib.itoa v = Lib.decDigits v.toNat) := by
  unfold Lib.itoa
  by_cases h : v < 0
  · rw [if_pos h]; exact .inl ⟨h, rfl⟩
  · rw [if_neg h]; exact .inr ⟨by omega, rfl⟩
theorem dec_no45 (u : Nat) : (Lib.decDigits u).head? ≠ some 45 := by
  intro h
  have := (dec_digits u).1 45 (by
    cases hq : Lib.decDigits u with
    | nil => rw [hq] at h; cases h
    | cons a l => rw [hq] at h; simp at h; rw [h]; exact List.mem_cons_self)
  exact absurd this.1 (by decide)
theorem dec_len19 (u : Nat) (h : u ≤ 9223372036854775808) : 1 ≤ (Lib.decDigits u).length ∧ (Lib.decDigits u).length ≤ 19 := by
  have h1 := dec_len' 18 u (by omega)
  have h2 := (dec_digits u).2
  refine ⟨?_, by omega⟩
  rcases Nat.eq_zero_or_pos (Lib.decDigits u).length with h0 | h0
  · exact absurd (List.eq_nil_of_length_eq_zero h0) h2
  · exact h0
theorem numR_itoa (v : Int) (h0 : -9223372036854775808 ≤ v) (h1 : v ≤ 9223372036854775807) : numR (Lib.itoa v) = (v, true) := by
  rcases itoa_cases v with ⟨hv, e⟩ | ⟨hv, e⟩
  · obtain ⟨l1, l2⟩ := dec_len19 v.natAbs (by omega)
    unfold numR
    rw [e, if_pos (show (45 :: Lib.decDigits v.natAbs).head? = some 45 from rfl)]
    show numU true (Lib.decDigits v.natAbs) = _
    unfold numU
    have hz : ¬ (Lib.decDigits v.natAbs).head? = some 48 := by
      intro hh
      have hl := dec_head _ hh
      have ha := numAcc_dec v.natAbs
      cases hq : Lib.decDigits v.natAbs with
      | nil => rw [hq] at hh; cases hh
      | cons a l =>
        rw [hq] at hl hh ha
        have hl' : l = [] := List.eq_nil_of_length_eq_zero (by simpa using hl)
        subst hl'
        have ha48 : a = 48 := by simpa using hh
        subst ha48
        have e0 : numAcc [48] 0 = some 0 := rfl
        rw [e0] at ha
        injection ha with ha
        omega
    rw [if_neg (by intro h; rcases h with h | h | h; omega; omega; exact hz h.1), numAcc_dec]
    simp only [if_true]
    rw [if_neg (by omega)]
    congr 1
    omega
  · obtain ⟨l1, l2⟩ := dec_len19 v.toNat (by omega)
    unfold numR
    rw [e, if_neg (dec_no45 _)]
    unfold numU
    rw [if_neg (by
      intro h
      rcases h with h | h | ⟨hh, h | h⟩
      · omega
      · omega
      · have := dec_head _ hh; omega
      · cases h), numAcc_dec]
    simp only []
    rw [if_neg (by decide), decide_eq_true (by omega)]
    congr 1
    simp only [wrap64]
    omega
theorem numR_ok (d : List UInt8) (h : (numR d).2 = true) : d = Lib.itoa (numR d).1 ∧ -9223372036854775808 ≤ (numR d).1 ∧ (numR d).1 ≤ 9223372036854775807 := by
  have key : ∀ (neg : Bool) (l : List UInt8), (numU neg l).2 = true → ∃ N : Nat, Lib.decDigits N = l ∧ (neg = true → N ≤ 9223372036854775808 ∧ 1 ≤ N ∧ (numU neg l).1 = -(N : Int)) ∧ (neg = false → N ≤ 9223372036854775807 ∧ (numU neg l).1 = (N : Int)) := by
    intro neg l hl
    unfold numU at hl ⊢
    split at hl
    · cases hl
    · rename_i hc
      rw [if_neg hc]
      have hne : l ≠ [] := by
        intro e
        subst e
        exact hc (.inl (by decide))
      have hz : l.head? = some 48 → l.length = 1 := by
        intro hh
        rcases Nat.lt_or_ge 1 l.length with h1 | h1
        · exact absurd (.inr (.inr ⟨hh, .inl h1⟩)) hc
        · cases l with
          | nil => exact absurd rfl hne
          | cons a l => simp at h1 ⊢; omega
      cases hm : numAcc l 0 with
      | none => rw [hm] at hl; cases hl
      | some N =>
        rw [hm] at hl
        simp only [] at hl ⊢
        have hd := dec_of_acc _ l rfl N hne hz hm
        refine ⟨N, hd, ?_, ?_⟩
        · intro hn
          subst hn
          rw [if_pos rfl] at hl ⊢
          by_cases hb : (N : Int) > 9223372036854775808
          · rw [if_pos hb] at hl; cases hl
          · rw [if_neg hb]
            refine ⟨by omega, ?_, rfl⟩
            rcases Nat.eq_zero_or_pos N with h0 | h0
            · subst h0
              exfalso
              have e0 : Lib.decDigits 0 = [48] := by unfold Lib.decDigits; rw [dif_pos (by decide)]; rfl
              rw [e0] at hd
              subst hd
              exact hc (.inr (.inr ⟨rfl, .inr rfl⟩))
            · exact h0
        · intro hn
          subst hn
          rw [if_neg (by decide)] at hl ⊢
          have hb : (N : Int) ≤ 9223372036854775807 := by simpa using hl
          refine ⟨by omega, ?_⟩
          simp only [wrap64]
          omega
  unfold numR at h ⊢
  by_cases h45 : d.head? = some 45
  · rw [if_pos h45] at h ⊢
    obtain ⟨N, hN, h1, _⟩ := key true d.tail h
    obtain ⟨a1, a2, a3⟩ := h1 rfl
    rw [a3]
    refine ⟨?_, by omega, by omega⟩
    unfold Lib.itoa
    rw [if_pos (by omega), show (-(N : Int)).natAbs = N by omega, hN]
    cases d with
    | nil => cases h45
    | cons a l => simp at h45; rw [h45]; rfl
  · rw [if_neg h45] at h ⊢
    obtain ⟨N, hN, _, h2⟩ := key false d h
    obtain ⟨a1, a3⟩ := h2 rfl
    rw [a3]
    refine ⟨?_, by omega, by omega⟩
    unfold Lib.itoa
    rw [if_neg (by omega), show ((N : Int)).toNat = N by omega, hN]
/-- Number takes just what told takes. -/
theorem numR_told (d : List UInt8) : ((numR d).2 = true → toldD d = true ∧ toldN d = (numR d).1) ∧ ((numR d).2 = false → toldD d = false) := by
  refine ⟨fun h => ?_, fun h => ?_⟩
  · obtain ⟨e, h0, h1⟩ := numR_ok d h
    have hp := parse_itoa _ h0 h1
    rw [← e] at hp
    unfold toldD toldN
    rw [hp]
    refine ⟨?_, rfl⟩
    simp only [decide_eq_true_eq]
    exact e.symm
  · cases hT : toldD d with
    | false => rfl
    | true =>
      unfold toldD at hT
      rcases hp : Lib.parseIntB 64 d with v | _ | _
      · rw [hp] at hT
        have e : Lib.itoa v = d := by simpa using hT
        obtain ⟨h0, h1⟩ := parseIntB_i64 hp
        have := numR_itoa v h0 h1
        rw [e] at this
        rw [this] at h
        cases h
      · rw [hp] at hT; cases hT
      · rw [hp] at hT; cases hT
end Go.Proofs.YteaihgjjplgalaaDoor

/- conf.Parse's answer, line by line as the reference goes: plain laws. -/
namespace Go.Proofs.YteaihgjjplgalaaDoor
open Go.RowKit Go.Proofs.YteaihgjjplgalaaDoorW.PrintWords Go.Proofs.YteaihgjjplgalaaDoorW.PrintLast Go.Proofs.YteaihgjjplgalaaDoorW.PrintMore
set_option linter.unusedVariables false
set_option linter.unusedSimpArgs false

theorem first_at (c : UInt8) : ∀ l : List UInt8, (∃ a b, l = a ++ c :: b ∧ c ∉ a) ∨ c ∉ l
  | [] => .inr (by simp)
  | x :: l => by
    by_cases e : x = c
    · exact .inl ⟨[], l, by rw [e]; rfl, by simp⟩
    · rcases first_at c l with ⟨a, b, h, ha⟩ | h
      · refine .inl ⟨x :: a, b, by rw [h]; rfl, fun hm => ?_⟩
        rcases List.mem_cons.1 hm with h1 | h1
        · exact e h1.symm
        · exact ha h1
      · refine .inr fun hm => ?_
        rcases List.mem_cons.1 hm with h1 | h1
        · exact e h1.symm
        · exact h h1
theorem goLines_prev : ∀ (r : List UInt8) (prev : List (List UInt8)) (cur : List UInt8), goLines prev cur r = prev ++ goLines [] cur r
  | [], prev, cur => by unfold goLines; simp
  | b :: r, prev, cur => by
    unfold goLines
    split
    · rw [goLines_prev r (prev ++ [cur]) [], goLines_prev r ([] ++ [cur]) []]
      simp
    · exact goLines_prev r prev (cur ++ [b])
theorem goLines_cut (a b : List UInt8) (h : (10 : UInt8) ∉ a) : goLines [] [] (a ++ 10 :: b) = a :: goLines [] [] b := by
  rw [goLines_line a [] [] _ h, List.nil_append]
  conv => lhs; unfold goLines
  rw [if_pos rfl, goLines_prev]
  rfl
theorem goLines_last (a : List UInt8) (h : (10 : UInt8) ∉ a) : goLines [] [] a = [a] := by
  have := goLines_line a [] [] [] h
  rw [List.append_nil] at this
  rw [this]
  unfold goLines
  rfl
theorem linesGo_lines : ∀ (k : Nat) (p : PS) (l : List UInt8), l.length < k → linesGo k p l = stepAll p (goLines [] [] l)
  | 0, _, _, h => absurd h (Nat.not_lt_zero _)
  | k + 1, p, l, hk => by
    unfold linesGo
    rcases first_at 10 l with ⟨a, b, rfl, ha⟩ | h
    · rw [cut_at 10 a b ha, goLines_cut a b ha]
      conv => rhs; unfold stepAll
      cases lineStep p a with
      | error e => rfl
      | ok q =>
        simp only [if_true]
        exact linesGo_lines k q b (by rw [List.length_append, List.length_cons] at hk; omega)
    · rw [cut_no 10 l h, goLines_last l h]
      conv => rhs; unfold stepAll
      cases lineStep p l with
      | error e => rfl
      | ok q =>
        simp only [Bool.false_eq_true, if_false]
        rfl
theorem parseR_lines (l : List UInt8) (h : l.length ≤ 20000) : parseR l = endR (stepAll told0 (goLines [] [] l)) := by
  unfold parseR
  rw [if_neg (by omega), linesGo_lines _ _ _ (by omega)]
/-! ### one line, as the reference goes -/
/-- Where the first blank stands, or the line's end. -/
theorem cutL_at (line : List UInt8) : ((cutL line).1.length < line.length → (cutL line).2.1 = line.drop ((cutL line).1.length + 1)) ∧ (cutL line).1 = line.take (cutL line).1.length ∧ (∀ j, j < (cutL line).1.length → line[j]? ≠ some 32) ∧ ((cutL line).1.length = line.length ∨ line[(cutL line).1.length]? = some 32) ∧ (cutL line).1.length ≤ line.length ∧ ((cutL line).1.length = line.length → (cutL line).2.1 = []) := by
  rcases first_at 32 line with ⟨a, b, rfl, ha⟩ | h
  · have e : cutL (a ++ 32 :: b) = (a, b, true) := cut_at 32 a b ha
    rw [e]
    simp only []
    refine ⟨fun _ => by simp, by simp, fun j hj hh => ?_, .inr (by simp), by simp, fun hh => ?_⟩
    · rw [List.getElem?_append_left hj] at hh
      exact ha (List.mem_of_getElem? hh)
    · rw [List.length_append, List.length_cons] at hh
      omega
  · have e : cutL line = (line, [], false) := cut_no 32 line h
    rw [e]
    simp only []
    exact ⟨fun hh => absurd hh (Nat.lt_irrefl _), by simp, fun j hj hh => h (List.mem_of_getElem? hh), by simp, Nat.le_refl _, by simp⟩
/-- The names are looked through to the end: the last that fits is the first. -/
def lastName (x : List UInt8) : Nat → Int
  | 0 => -1
  | i + 1 => if namesL.getD i [] = x then (i : Int) else lastName x i
theorem names_apart : ∀ i j : Fin 16, namesL.getD i [] = namesL.getD j [] → i = j := by decide +kernel
theorem lastName_idx (x : List UInt8) : lastName x 16 = Lib.idxOfS nameB ⟨x.toArray⟩ := by
  by_cases h : ∃ i : Fin 16, namesL.getD i [] = x
  · obtain ⟨i, hi⟩ := h
    have f5 := (names_facts i).2.2.2.2
    rw [hi] at f5
    rw [f5]
    have key : ∀ n, n ≤ 16 → i.val < n → lastName x n = (i.val : Int) := by
      intro n
      induction n with
      | zero => intro _ h; omega
      | succ n ih =>
        intro hn hlt
        unfold lastName
        split
        · rename_i hx
          have := names_apart ⟨n, by omega⟩ i (hx.trans hi.symm)
          rw [← this]
        · rename_i hx
          refine ih (by omega) ?_
          rcases Nat.lt_or_ge i.val n with h | h
          · exact h
          · have : i.val = n := by omega
            exact absurd (by rw [← this]; exact hi) hx
    exact key 16 (Nat.le_refl _) i.isLt
  · have key : ∀ n, n ≤ 16 → lastName x n = -1 := by
      intro n
      induction n with
      | zero => intro _; rfl
      | succ n ih =>
        intro hn
        unfold lastName
        rw [if_neg (fun hx => h ⟨⟨n, by omega⟩, hx⟩)]
        exact ih (by omega)
    rw [key 16 (Nat.le_refl _)]
    have h0 := Lib.idxOfS_nonneg_iff nameB ⟨x.toArray⟩
    have hn : ¬ (⟨x.toArray⟩ : ByteArray) ∈ nameB := by
      intro hm
      unfold nameB at hm
      obtain ⟨l, hl, he⟩ := List.mem_map.1 hm
      obtain ⟨i, hi, hx⟩ := List.getElem_of_mem hl
      rw [names_len] at hi
      refine h ⟨⟨i, hi⟩, ?_⟩
      have hlx : l = x := by
        have := congrArg (fun b : ByteArray => b.data.toList) he
        simpa using this
      show namesL.getD i [] = x
      rw [List.getD_eq_getElem?_getD, List.getElem?_eq_getElem (by rw [names_len]; exact hi), hx]
      exact hlx
    have hge : -1 ≤ Lib.idxOfS nameB ⟨x.toArray⟩ := by
      rcases idx_lt nameB ⟨x.toArray⟩ 0 with h1 | h1
      · rcases Nat.lt_or_ge 0 1 with _ | h2
        · have : ∀ (zs : List ByteArray) (y : ByteArray) (i : Nat), -1 ≤ Lib.idxFromS zs y i := by
            intro zs
            induction zs with
            | nil => intro y i; unfold Lib.idxFromS; decide
            | cons z zs ih =>
              intro y i
              unfold Lib.idxFromS
              split
              · omega
              · exact ih y (i + 1)
          exact this nameB _ 0
        · omega
      · unfold Lib.idxOfS; omega
    have : ¬ 0 ≤ Lib.idxOfS nameB ⟨x.toArray⟩ := fun h => hn (h0.1 h)
    omega
/-- A line's step, by the place of the blank, the last name that fits, Number. -/
theorem lineStep_ref (p : PS) (line : List UInt8) (h1 : line ≠ []) (h2 : line.head? ≠ some 35) :
    lineStep p line = if lastName (cutL line).1 16 < 0 ∨ (cutL line).1.length = line.length ∨ (numR (cutL line).2.1).2 = false then .error 9 else
      if p.sn.getD (lastName (cutL line).1 16).toNat false = true then .error 2 else .ok ⟨p.vs.set (lastName (cutL line).1 16).toNat (numR (cutL line).2.1).1, p.sn.set (lastName (cutL line).1 16).toNat true⟩ := by
  rw [lastName_idx, show Lib.idxOfS nameB ⟨(cutL line).1.toArray⟩ = toldI line from rfl]
  obtain ⟨n1, n2⟩ := numR_told (cutL line).2.1
  unfold lineStep
  rw [if_pos ⟨h1, h2⟩]
  by_cases hI : toldI line < 0
  · have hB : toldB line = false := by unfold toldB; rw [decide_eq_false (by omega)]; rfl
    rw [hB, if_neg (by decide), if_pos (show toldI line < 0 ∨ (cutL line).1.length = line.length ∨ (numR (cutL line).2.1).2 = false from .inl hI)]
  by_cases hE : (cutL line).1.length = line.length
  · have he := (cutL_at line).2.2.2.2.2 hE
    have hB : toldB line = false := by
      unfold toldB
      rw [he, show toldD [] = false from rfl, Bool.and_false]
    rw [hB, if_neg (by decide), if_pos (show toldI line < 0 ∨ (cutL line).1.length = line.length ∨ (numR (cutL line).2.1).2 = false from .inr (.inl hE))]
  cases hN : (numR (cutL line).2.1).2 with
  | false =>
    have hB : toldB line = false := by unfold toldB; rw [n2 hN, Bool.and_false]
    rw [hB, if_neg (by decide), if_pos (show toldI line < 0 ∨ (cutL line).1.length = line.length ∨ false = false from .inr (.inr rfl))]
  | true =>
    obtain ⟨t1, t2⟩ := n1 hN
    have hB : toldB line = true := by unfold toldB; rw [t1, decide_eq_true (by omega)]; rfl
    rw [hB, if_pos rfl, if_neg (show ¬ (toldI line < 0 ∨ (cutL line).1.length = line.length ∨ true = false) by rintro (h | h | h); exact hI h; exact hE h; cases h), t2]
end Go.Proofs.YteaihgjjplgalaaDoor

/- The reference's Number, as the print has it, is numR. -/
namespace Go.Proofs.YteaihgjjplgalaaDoor
open Go.RowKit Go.Proofs.YteaihgjjplgalaaDoorW.PrintWords Go.Proofs.YteaihgjjplgalaaDoorW.PrintLast Go.Proofs.YteaihgjjplgalaaDoorW.PrintMore
open Go.Proofs.YteaihgjjplgalaaDoor.PConfLong
set_option linter.unusedVariables false
set_option linter.unusedSimpArgs false

def numEnd (neg : Bool) (x : Option Nat) : Int × Bool := match x with
  | none => (0, false)
  | some N => if neg = true then (if (N : Int) > 9223372036854775808 then (0, false) else (-(N : Int), true)) else (wrap64 (N : Int), decide ((N : Int) ≤ 9223372036854775807))
theorem pow_le18 (i : Nat) (h : i ≤ 19) : 10 ^ i ≤ 10000000000000000000 := Nat.le_trans (Nat.pow_le_pow_right (by decide) h) (by decide)
theorem num_loop (neg : Bool) (ex : ByteArray) : ∀ (rest pre : List UInt8) (n : Nat), ex = BA (pre ++ rest) → (pre ++ rest).length ≤ 19 → n < 10 ^ pre.length → Ev (fun k => overfallref13_Number.l0 k neg ex (n : Int) (pre.length : Int)) (numEnd neg (numAcc rest n))
  | [], pre, n, hex, hl, hn => by
    refine ⟨1, fun k hk => ?_⟩
    obtain ⟨k, rfl⟩ : ∃ j, k = j + 1 := ⟨k - 1, by omega⟩
    show overfallref13_Number.l0 (k + 1) _ _ _ _ = _
    unfold overfallref13_Number.l0
    rw [List.append_nil] at hl
    have hp := pow_le18 pre.length hl
    rw [if_neg (by rw [hex, BA_size, List.append_nil]; omega)]
    unfold numAcc numEnd
    simp only []
    cases neg with
    | true =>
      rw [if_pos rfl, if_pos rfl]
      split
      · rfl
      · congr 2
        rw [u64_w]
        simp only [wrap64]
        omega
    | false =>
      rw [if_neg (by decide), if_neg (by decide)]
  | b :: rest, pre, n, hex, hl, hn => by
    have hlen : (pre ++ b :: rest).length = pre.length + rest.length + 1 := by rw [List.length_append, List.length_cons]; omega
    have hb : bt ex (pre.length : Int) = (b.toNat : Int) := by rw [hex]; exact bt_app pre rest b
    have hw : wrap64 ((pre.length : Int) + 1) = ((pre.length + 1 : Nat) : Int) := by simp only [wrap64]; omega
    have hp := pow_le18 (pre.length + 1) (by omega)
    by_cases hd : 48 ≤ b.toNat ∧ b.toNat ≤ 57
    · have hn' : 10 * n + (b.toNat - 48) < 10 ^ (pre.length + 1) := by rw [Nat.pow_succ]; omega
      obtain ⟨K, hK⟩ := num_loop neg ex rest (pre ++ [b]) (10 * n + (b.toNat - 48)) (by rw [hex, List.append_assoc]; rfl) (by rw [List.append_assoc]; exact hl) (by rw [List.length_append, List.length_singleton]; exact hn')
      refine ⟨K + 1, fun k hk => ?_⟩
      obtain ⟨k, rfl⟩ : ∃ j, k = j + 1 := ⟨k - 1, by omega⟩
      have h1 := hK k (by omega)
      show overfallref13_Number.l0 (k + 1) _ _ _ _ = _
      unfold overfallref13_Number.l0
      have hu : IntKind.u64.wrap ((IntKind.u64.wrap (10 * (n : Int))) + (((b.toNat : Int) - 48) % 256)) = ((10 * n + (b.toNat - 48) : Nat) : Int) := by rw [u64_w, u64_w]; omega
      rw [if_pos (by rw [hex, BA_size, hlen]; omega), if_pos (by omega), hb, if_neg (by omega), if_neg (by omega), hw, hu]
      rw [List.length_append, List.length_singleton] at h1
      have e : numAcc (b :: rest) n = numAcc rest (10 * n + (b.toNat - 48)) := by
        conv => lhs; unfold numAcc
        rw [if_pos hd]
      rw [e]
      exact h1
    · refine ⟨1, fun k hk => ?_⟩
      obtain ⟨k, rfl⟩ : ∃ j, k = j + 1 := ⟨k - 1, by omega⟩
      show overfallref13_Number.l0 (k + 1) _ _ _ _ = _
      unfold overfallref13_Number.l0
      have e : numAcc (b :: rest) n = none := by
        unfold numAcc
        rw [if_neg hd]
      rw [if_pos (by rw [hex, BA_size, hlen]; omega), if_pos (by omega), hb, e]
      by_cases h48 : (b.toNat : Int) < 48
      · rw [if_pos h48]; rfl
      · rw [if_neg h48, if_pos (by omega)]; rfl
theorem numU_end (neg : Bool) (l : List UInt8) : numU neg l = if l.length < 1 ∨ 19 < l.length ∨ (l.head? = some 48 ∧ (1 < l.length ∨ neg = true)) then (0, false) else numEnd neg (numAcc l 0) := rfl
theorem num_j1 (neg : Bool) (l : List UInt8) : Ev (fun k => overfallref13_Number.j1 k neg (BA l)) (numU neg l) := by
  rw [numU_end]
  have jt : ∀ k x, overfallref13_Number.j2 (k + 1) neg x true = some (0, false) := fun k x => by unfold overfallref13_Number.j2; dsimp only; rw [if_pos rfl]
  by_cases h1 : l.length < 1
  · rw [if_pos (.inl h1)]
    refine ⟨2, fun k hk => ?_⟩
    obtain ⟨k, rfl⟩ : ∃ j, k = j + 2 := ⟨k - 2, by omega⟩
    show overfallref13_Number.j1 (k + 1 + 1) _ _ = _
    unfold overfallref13_Number.j1
    dsimp only
    rw [if_pos (by rw [BA_size]; omega), jt]
  by_cases h19 : 19 < l.length
  · rw [if_pos (.inr (.inl h19))]
    refine ⟨2, fun k hk => ?_⟩
    obtain ⟨k, rfl⟩ : ∃ j, k = j + 2 := ⟨k - 2, by omega⟩
    show overfallref13_Number.j1 (k + 1 + 1) _ _ = _
    unfold overfallref13_Number.j1
    dsimp only
    rw [if_neg (by rw [BA_size]; omega), if_pos (by rw [BA_size]; omega), jt]
  obtain ⟨c, r, rfl⟩ : ∃ c r, l = c :: r := by
    cases l with
    | nil => exact absurd (by decide) h1
    | cons c r => exact ⟨c, r, rfl⟩
  have hb : bt (BA (c :: r)) 0 = (c.toNat : Int) := bt_app [] r c
  obtain ⟨K, hK⟩ := num_loop neg (BA (c :: r)) (c :: r) [] 0 rfl (by simp only [List.nil_append]; omega) (by decide)
  have loop : ∀ k, K ≤ k → overfallref13_Number.j2 (k + 1) neg (BA (c :: r)) false = some (numEnd neg (numAcc (c :: r) 0)) := fun k hk => by
    unfold overfallref13_Number.j2
    dsimp only
    rw [if_neg (by decide)]
    exact hK k hk
  refine ⟨K + 2, fun k hk => ?_⟩
  obtain ⟨k, rfl⟩ : ∃ j, k = j + 2 := ⟨k - 2, by omega⟩
  show overfallref13_Number.j1 (k + 1 + 1) _ _ = _
  unfold overfallref13_Number.j1
  dsimp only
  rw [if_neg (by rw [BA_size]; omega), if_neg (by rw [BA_size]; omega), if_pos (by rw [BA_size]; simp only [List.length_cons]; omega), hb]
  by_cases h48 : (c.toNat : Int) = 48
  · have hc : c = 48 := UInt8.toNat_inj.1 (by show c.toNat = 48; omega)
    rw [if_pos h48]
    by_cases hl : ((BA (c :: r)).size : Int) > 1
    · rw [if_pos hl, jt, if_pos (.inr (.inr ⟨by rw [hc]; rfl, .inl (by rw [BA_size] at hl; omega)⟩))]
    · rw [if_neg hl]
      cases neg with
      | true => rw [jt, if_pos (.inr (.inr ⟨by rw [hc]; rfl, .inr rfl⟩))]
      | false =>
        rw [loop k (by omega), if_neg]
        rintro (h | h | ⟨_, h | h⟩)
        · exact h1 h
        · exact h19 h
        · rw [BA_size] at hl; omega
        · cases h
  · rw [if_neg h48, loop k (by omega), if_neg]
    rintro (h | h | ⟨h, _⟩)
    · exact h1 h
    · exact h19 h
    · have : c = 48 := by simpa using h
      rw [this] at h48
      exact h48 rfl
theorem number_ev (d : List UInt8) : Ev (fun k => overfallref13_Number.f k (BA d)) (numR d) := by
  unfold numR
  cases d with
  | nil =>
    rw [if_neg (by simp)]
    obtain ⟨K, hK⟩ := num_j1 false []
    refine ⟨K + 1, fun k hk => ?_⟩
    obtain ⟨k, rfl⟩ : ∃ j, k = j + 1 := ⟨k - 1, by omega⟩
    show overfallref13_Number.f (k + 1) _ = _
    unfold overfallref13_Number.f
    rw [if_neg (by rw [BA_size]; simp)]
    unfold overfallref13_Number.j0
    dsimp only
    rw [if_neg (by decide)]
    exact hK k (by omega)
  | cons c r =>
    have hb : bt (BA (c :: r)) 0 = (c.toNat : Int) := bt_app [] r c
    by_cases h45 : c = 45
    · subst h45
      rw [if_pos (show (45 :: r).head? = some (45 : UInt8) from rfl)]
      show Ev _ (numU true r)
      obtain ⟨K, hK⟩ := num_j1 true r
      refine ⟨K + 1, fun k hk => ?_⟩
      obtain ⟨k, rfl⟩ : ∃ j, k = j + 1 := ⟨k - 1, by omega⟩
      show overfallref13_Number.f (k + 1) _ = _
      unfold overfallref13_Number.f
      rw [if_pos (by rw [BA_size]; simp only [List.length_cons]; omega), if_pos (by rw [BA_size]; simp only [List.length_cons]; omega), hb]
      unfold overfallref13_Number.j0
      dsimp only
      rw [if_pos (by rfl), if_pos (by rw [BA_size]; simp only [List.length_cons]; omega)]
      have e : (BA (45 :: r)).extract 1 (BA (45 :: r)).size = BA r := by
        apply ByteArray.ext
        rw [ByteArray.data_extract, BA_size]
        apply Array.ext'
        simp [BA]
      rw [e]
      exact hK k (by omega)
    · rw [if_neg (by simpa using h45)]
      obtain ⟨K, hK⟩ := num_j1 false (c :: r)
      refine ⟨K + 1, fun k hk => ?_⟩
      obtain ⟨k, rfl⟩ : ∃ j, k = j + 1 := ⟨k - 1, by omega⟩
      show overfallref13_Number.f (k + 1) _ = _
      unfold overfallref13_Number.f
      have hne : ((c.toNat : Int) == 45) = false := by
        rw [beq_eq_false_iff_ne]
        intro e
        exact h45 (UInt8.toNat_inj.1 (by show c.toNat = 45; omega))
      rw [if_pos (by rw [BA_size]; simp only [List.length_cons]; omega), if_pos (by rw [BA_size]; simp only [List.length_cons]; omega), hb, hne]
      unfold overfallref13_Number.j0
      dsimp only
      rw [if_neg (by decide)]
      exact hK k (by omega)
end Go.Proofs.YteaihgjjplgalaaDoor

/- What ref13.Parse calls: contracts, in block facts. -/
namespace Go.Proofs.YteaihgjjplgalaaDoor
open Go.RowKit Go.Proofs.YteaihgjjplgalaaDoorW.PrintWords Go.Proofs.YteaihgjjplgalaaDoorW.PrintLast Go.Proofs.YteaihgjjplgalaaDoorW.PrintMore
set_option linter.unusedVariables false
set_option linter.unusedSimpArgs false

/-- A row of the call's own whose first n cells say f. -/
def RowV (w : World) (g n : Nat) (T : TypeId) (f : Nat → Value) : Prop := ∃ cur : Array Value, w.heap[g]? = some (.cells cur T (0, 0)) ∧ ∀ j, j < n → cur[j]? = some (f j)
section
variable {w w' : World} {g n : Nat} {T : TypeId} {f : Nat → Value}
theorem RowV.cell (h : RowV w g n T f) {j : Nat} (hj : j < n) : w.cell? ⟨g, j, none⟩ = some (f j) := by
  obtain ⟨cur, hb, hc⟩ := h
  exact (blk_cell hb j).trans (hc j hj)
theorem RowV.frozen (h : RowV w g n T f) (j : Nat) : w.frozen? ⟨g, j, none⟩ = false := by
  obtain ⟨cur, hb, hc⟩ := h
  exact blk_frozen hb j
theorem RowV.lt (h : RowV w g n T f) : g < w.heap.size := by
  obtain ⟨cur, hb, hc⟩ := h
  exact blk_lt hb
theorem RowV.below (h : RowV w g n T f) (hb : Below w.heap.size w w') : RowV w' g n T f := by
  obtain ⟨cur, hk, hc⟩ := h
  exact ⟨cur, (hb.block g (blk_lt hk)).trans hk, hc⟩
theorem RowV.other (h : RowV w g n T f) {b : Nat} (i : Nat) (u : Value) (hne : g ≠ b) : RowV (w.setCell ⟨b, i, none⟩ u) g n T f := by
  obtain ⟨cur, hk, hc⟩ := h
  exact ⟨cur, (Below.heap_setCell _ _ _ _ hne).trans hk, hc⟩
theorem RowV.set (h : RowV w g n T f) {i : Nat} (hi : i < n) (u : Value) : RowV (w.setCell ⟨g, i, none⟩ u) g n T (fun j => if j = i then u else f j) := by
  obtain ⟨cur, hk, hc⟩ := h
  refine ⟨_, blk_set hk i u, fun j hj => ?_⟩
  have hsz : i < cur.size := by
    have := hc i hi
    rcases Nat.lt_or_ge i cur.size with h | h
    · exact h
    · rw [Array.getElem?_eq_none h] at this; cases this
  show _ = some (if j = i then u else f j)
  by_cases e : j = i
  · subst e
    rw [if_pos rfl, Array.getElem?_setIfInBounds_self_of_lt hsz]
  · rw [if_neg e, Array.getElem?_setIfInBounds_ne (fun h => e h.symm)]
    exact hc j hj
theorem RowV.ne {g' n' : Nat} {T' : TypeId} {f' : Nat → Value} (h : RowV w g n T f) (h' : RowV w g' n' T' f') (hT : T ≠ T') : g ≠ g' := by
  intro e
  subst e
  obtain ⟨cur, hb, _⟩ := h
  obtain ⟨cur', hb', _⟩ := h'
  rw [hb] at hb'
  injection hb' with hb'
  injection hb' with _ h3
  exact hT h3
theorem RowV.congr {f' : Nat → Value} (h : RowV w g n T f) (e : ∀ j, j < n → f j = f' j) : RowV w g n T f' := by
  obtain ⟨cur, hk, hc⟩ := h
  exact ⟨cur, hk, fun j hj => (hc j hj).trans (by rw [e j hj])⟩
end
/-- A slice of the call's own, not nil, as a row. -/
theorem row_of_own {w : World} {base n : Nat} {T : TypeId} {v : Value} {xs : List Value} (h : w.ownsRow base T 1 v n xs) (hn : 0 < n) (hx : xs.length = n) : ∃ g cap, v = .slice (some ⟨g, 0, none⟩) n cap ∧ n ≤ cap ∧ cap ≤ maxLen ∧ base ≤ g ∧ RowV w g n T (fun j => xs.getD j undef) := by
  rcases h.2 with ⟨_, h0⟩ | ⟨g, cap, cur, rfl, hbase, hcell, h1, h2, h3, h4⟩
  · omega
  · refine ⟨g, cap, rfl, h1, h2, hbase, cur, hcell, fun j hj => ?_⟩
    have e : (cur.toList.take (n * 1))[j]? = xs[j]? := by rw [h4]
    rw [Nat.mul_one, List.getElem?_take_of_lt hj] at e
    rw [← Array.getElem?_toList, e]
    show xs[j]? = some (xs.getD j undef)
    rw [List.getD_eq_getElem?_getD, List.getElem?_eq_getElem (by omega)]
    rfl
theorem encs_getD {α : Type} (enc : α → Value) (xs : List α) (d : α) (j : Nat) (hj : j < xs.length) : (encs enc xs).getD j undef = enc (xs.getD j d) := by
  unfold encs
  simp [List.getD_eq_getElem?_getD, List.getElem?_eq_getElem hj]
theorem refdefault_any (w : World) :
    Calls Tryd.prog 23 #[] w fun e w' => ∃ g cap, e = .returned (.slice (some ⟨g, 0, none⟩) 16 cap) ∧ 16 ≤ cap ∧ cap ≤ maxLen ∧ w.heap.size ≤ g ∧ RowV w' g 16 2 (fun j => .int .i64 (defaultV.getD j 0)) ∧ Below w.heap.size w w' := by
  refine (PConfLong.overfallref13_Default.calls defaultV w rfl).mono ?_
  rintro e w' ⟨v, rfl, hR, hb⟩
  obtain ⟨g, cap, rfl, h1, h2, h3, h4⟩ := row_of_own (Kd.own_of_R hR) (by decide) (by rw [encs_length])
  exact ⟨g, cap, rfl, h1, h2, h3, h4.congr (fun j hj => encs_getD _ _ 0 j hj), hb⟩
theorem refnames_any (w : World) :
    Calls Tryd.prog 25 #[] w fun e w' => ∃ g cap, e = .returned (.slice (some ⟨g, 0, none⟩) 16 cap) ∧ 16 ≤ cap ∧ cap ≤ maxLen ∧ w.heap.size ≤ g ∧ RowV w' g 16 9 (fun j => .string (BA (namesL.getD j []))) ∧ Below w.heap.size w w' := by
  have hN : PConfLong.overfallref13_Names.f = some (namesL.map BA) := names_is
  have hl : (namesL.map BA).length = 16 := by rw [List.length_map]; exact names_len
  refine (PConfLong.overfallref13_Names.calls _ w hN).mono ?_
  rintro e w' ⟨v, rfl, hR, hb⟩
  have ho := Kd.own_of_R hR
  rw [hl] at ho
  obtain ⟨g, cap, rfl, h1, h2, h3, h4⟩ := row_of_own ho (by decide) (by rw [encs_length, hl])
  refine ⟨g, cap, rfl, h1, h2, h3, h4.congr (fun j hj => ?_), hb⟩
  rw [encs_getD _ _ (BA []) j (by rw [hl]; exact hj)]
  have : j < namesL.length := by rw [names_len]; exact hj
  simp [List.getD_eq_getElem?_getD, List.getElem?_eq_getElem this]
theorem goLines_pos (l : List UInt8) : 0 < (goLines [] [] l).length := by
  have : ∀ (r : List UInt8) (prev : List (List UInt8)) (cur : List UInt8), 0 < (goLines prev cur r).length := by
    intro r
    induction r with
    | nil => intro prev cur; unfold goLines; simp
    | cons b r ih =>
      intro prev cur
      unfold goLines
      split
      · exact ih _ _
      · exact ih _ _
  exact this _ _ _
theorem reflines_gen (l : List UInt8) (hlen : l.length ≤ 100000) (w : World) :
    Calls Tryd.prog 8 #[.string (BA l)] w fun e w' => ∃ g cap, e = .returned (.slice (some ⟨g, 0, none⟩) (goLines [] [] l).length cap) ∧ (goLines [] [] l).length ≤ cap ∧ cap ≤ maxLen ∧ w.heap.size ≤ g ∧ RowV w' g (goLines [] [] l).length 9 (fun j => .string (BA ((goLines [] [] l).getD j []))) ∧ Below w.heap.size w w' := by
  obtain ⟨K, hK⟩ := lines_ev l hlen
  refine (PConfOrders.overfallref13_Lines.calls K (BA l) _ w (hK K (Nat.le_refl _))).mono ?_
  rintro e w' ⟨v, rfl, hR, hb⟩
  have ho := Kd.own_of_R hR
  rw [List.length_map] at ho
  obtain ⟨g, cap, rfl, h1, h2, h3, h4⟩ := row_of_own ho (goLines_pos l) (by rw [encs_length, List.length_map])
  refine ⟨g, cap, rfl, h1, h2, h3, h4.congr (fun j hj => ?_), hb⟩
  rw [encs_getD _ _ (BA []) j (by rw [List.length_map]; exact hj)]
  simp [List.getD_eq_getElem?_getD, List.getElem?_eq_getElem hj]
theorem refnumber_any (d : List UInt8) (w : World) :
    Calls Tryd.prog 32 #[.string (BA d)] w fun e w' => e = .returned (.tuple #[.int .i64 (numR d).1, .bool (numR d).2]) ∧ Drawn0 w w' := by
  obtain ⟨K, hK⟩ := number_ev d
  exact PConfLong.overfallref13_Number.calls K (BA d) _ _ w (hK K (Nat.le_refl _))
set_option maxRecDepth 100000 in
theorem refvalid_any (vs : List Int) (hl : vs.length = 16) (A : Option Addr) (c : Nat) (w : World) (hC : Kd.C (Kd.int .i64) w A 16 vs) (hc : 16 ≤ c) :
    Calls Tryd.prog 20 #[.slice A 16 c] w fun e w' => e = .returned (.bool (validB vs)) ∧ Below w.heap.size w w' := by
  have hex : ∃ K, PConfLong.overfallref13_Valid.f K vs = some (validB vs) := by
    obtain ⟨a0, a1, a2, a3, a4, a5, a6, a7, a8, a9, a10, a11, a12, a13, a14, a15, rfl⟩ := len16 vs hl
    obtain ⟨K, hK⟩ := valid13_ev a0 a1 a2 a3 a4 a5 a6 a7 a8 a9 a10 a11 a12 a13 a14 a15
    exact ⟨K, hK K (Nat.le_refl _)⟩
  obtain ⟨K, hK⟩ := hex
  rw [← hl] at hC hc ⊢
  exact PConfLong.overfallref13_Valid.calls K A c vs _ w hC hc hK
end Go.Proofs.YteaihgjjplgalaaDoor

/- ref13.Parse, walked: its error is conf.Parse's. -/
namespace Go.Proofs.YteaihgjjplgalaaDoor
open Go.RowKit Go.Proofs.YteaihgjjplgalaaDoorW.PrintWords Go.Proofs.YteaihgjjplgalaaDoorW.PrintLast Go.Proofs.YteaihgjjplgalaaDoorW.PrintMore
set_option linter.unusedVariables false
set_option linter.unusedSimpArgs false

/-- What holds ahead of line i. -/
structure RP (w0 : World) (L : List (List UInt8)) (code : Int) (b sb g : Nat) (i : Nat) (p : PS) (w : World) : Prop where
  vl : p.vs.length = 16
  sl : p.sn.length = 16
  vi : ∀ v ∈ p.vs, -9223372036854775808 ≤ v ∧ v ≤ 9223372036854775807
  hv : RowV w b 16 2 (fun j => .int .i64 (p.vs.getD j 0))
  hs : RowV w sb 16 65 (fun j => .bool (p.sn.getD j false))
  hg : RowV w g L.length 9 (fun j => .string (BA (L.getD j [])))
  lb : w0.heap.size ≤ b
  ls : w0.heap.size ≤ sb
  lg : w0.heap.size ≤ g
  bel : Below w0.heap.size w0 w
  same : (endR (stepAll p (L.drop i))).2 = code
theorem sixteen_false : ∀ j, j < 16 → (#[.bool false, .bool false, .bool false, .bool false, .bool false, .bool false, .bool false, .bool false, .bool false, .bool false, .bool false, .bool false, .bool false, .bool false, .bool false, .bool false] : Array Value)[j]? = some (Value.bool (told0.sn.getD j false)) := by
  intro j hj
  have hj' : j = 0 ∨ j = 1 ∨ j = 2 ∨ j = 3 ∨ j = 4 ∨ j = 5 ∨ j = 6 ∨ j = 7 ∨ j = 8 ∨ j = 9 ∨ j = 10 ∨ j = 11 ∨ j = 12 ∨ j = 13 ∨ j = 14 ∨ j = 15 := by omega
  rcases hj' with rfl | rfl | rfl | rfl | rfl | rfl | rfl | rfl | rfl | rfl | rfl | rfl | rfl | rfl | rfl | rfl <;> rfl
theorem drop_step (L : List (List UInt8)) (k : Nat) (hk : k < L.length) : L.drop k = L.getD k [] :: L.drop (k + 1) := by
  rw [List.drop_eq_getElem_cons hk, List.getD_eq_getElem?_getD, List.getElem?_eq_getElem hk]
  rfl
/-- One line on. -/
theorem RP.next {w0 : World} {L : List (List UInt8)} {code code' : Int} {b sb g k : Nat} {p q : PS} {w w' : World} {line : List UInt8} (h : RP w0 L code b sb g k p w) (h2 : RP w0 L code' b sb g k q w') (hd : L.drop k = line :: L.drop (k + 1)) (hs : lineStep p line = .ok q) : RP w0 L code b sb g (k + 1) q w' :=
  have hsame : (endR (stepAll q (L.drop (k + 1)))).2 = code := by
    have h3 := h.same
    rw [hd] at h3
    unfold stepAll at h3
    rw [hs] at h3
    exact h3
  { h2 with same := hsame }
theorem RP.last {w0 : World} {L : List (List UInt8)} {code : Int} {b sb g : Nat} {p : PS} {w : World} (h : RP w0 L code b sb g L.length p w) : code = if validB p.vs = true then 0 else 1 := by
  have h3 := h.same
  rw [List.drop_length] at h3
  unfold stepAll endR at h3
  simp only [] at h3
  rw [← h3]
  split <;> rfl
theorem RP.reads {w0 : World} {L : List (List UInt8)} {code : Int} {b sb g k : Nat} {p : PS} {w : World} (h : RP w0 L code b sb g k p w) : Kd.C (Kd.int .i64) w (some ⟨b, 0, none⟩) 16 p.vs := by
  refine Kd.C_of_reads (d := 0) ⟨h.vl, by decide, fun _ => ⟨⟨b, 0, none⟩, rfl, fun j hj => ?_⟩⟩
  rw [show (⟨b, 0, none⟩ : Addr).add j = ⟨b, 0 + j, none⟩ from WideShapes.add_plain .., Nat.zero_add]
  exact h.hv.cell hj
theorem RP.skip {w0 : World} {L : List (List UInt8)} {code : Int} {b sb g k : Nat} {p : PS} {w : World} {line : List UInt8} (h : RP w0 L code b sb g k p w) (hlt : k < L.length) (hd : L.drop k = line :: L.drop (k + 1)) (hs : lineStep p line = .ok p) : RP w0 L code b sb g (k + 1) p w := h.next h hd hs
theorem RP.fail {w0 : World} {L : List (List UInt8)} {code : Int} {b sb g k : Nat} {p : PS} {w : World} {line : List UInt8} {e : Int} (h : RP w0 L code b sb g k p w) (hd : L.drop k = line :: L.drop (k + 1)) (hs : lineStep p line = .error e) : code = e := by
  have := h.same
  rw [hd] at this
  unfold stepAll at this
  rw [hs] at this
  exact this.symm
theorem RP.below {w0 : World} {L : List (List UInt8)} {code : Int} {b sb g k : Nat} {p : PS} {w w' : World} (h : RP w0 L code b sb g k p w) (hb : Below w.heap.size w w') : RP w0 L code b sb g k p w' :=
  { h with hv := h.hv.below hb, hs := h.hs.below hb, hg := h.hg.below hb, bel := h.bel.trans (hb.mono h.bel.size) }
theorem BA_get (l : List UInt8) (j : Nat) (h : j < (BA l).size) (h' : j < l.length) : (BA l)[j]'h = l[j]'h' := rfl
theorem getD_mem (L : List (List UInt8)) (k : Nat) (h : k < L.length) : L.getD k [] ∈ L := by
  rw [List.getD_eq_getElem?_getD, List.getElem?_eq_getElem h]
  exact List.getElem_mem _
theorem lines_le : ∀ (r : List UInt8) (prev : List (List UInt8)) (cur : List UInt8) (N : Nat), cur.length + r.length ≤ N → (∀ y ∈ prev, y.length ≤ N) → ∀ x ∈ goLines prev cur r, x.length ≤ N
  | [], prev, cur, N, h, hp, x, hx => by
    unfold goLines at hx
    rcases List.mem_append.1 hx with hx | hx
    · exact hp x hx
    · rw [List.mem_singleton] at hx
      subst hx
      simp at h
      exact h
  | b :: r, prev, cur, N, h, hp, x, hx => by
    unfold goLines at hx
    rw [List.length_cons] at h
    split at hx
    · refine lines_le r (prev ++ [cur]) [] N (by simp only [List.length_nil]; omega) (fun y hy => ?_) x hx
      rcases List.mem_append.1 hy with hy | hy
      · exact hp y hy
      · rw [List.mem_singleton] at hy
        subst hy
        omega
    · exact lines_le r prev (cur ++ [b]) N (by rw [List.length_append, List.length_singleton]; omega) hp x hx
theorem rest_ext (line : List UInt8) (j : Nat) (h : j < line.length) (h1 : (cutL line).2.1 = line.drop (j + 1)) : (BA line).extract (j + 1) line.length = BA (cutL line).2.1 := by
  rw [h1]
  apply ByteArray.ext
  rw [ByteArray.data_extract]
  apply Array.ext'
  simp only [BA, Array.toList_extract, List.extract_eq_take_drop]
  exact List.take_of_length_le (by rw [List.length_drop]; exact Nat.le_refl _)
theorem lastName_lt (x : List UInt8) : ∀ n : Nat, lastName x n < (n : Int)
  | 0 => by unfold lastName; decide
  | n + 1 => by
    have := lastName_lt x n
    unfold lastName
    split <;> omega
theorem getD_set_any {α : Type} (l : List α) (i k : Nat) (v d : α) (hi : i < l.length) : (l.set i v).getD k d = if k = i then v else l.getD k d := by
  rw [List.getD_eq_getElem?_getD, List.getElem?_set]
  by_cases e : k = i
  · subst e
    rw [if_pos rfl, if_pos rfl, if_pos hi]
    rfl
  · rw [if_neg (fun h => e h.symm), if_neg e, List.getD_eq_getElem?_getD]
theorem RP.put {w0 : World} {L : List (List UInt8)} {code : Int} {b sb g k : Nat} {p : PS} {w : World} {line : List UInt8} {q : Nat} {n : Int} (h : RP w0 L code b sb g k p w) (hd : L.drop k = line :: L.drop (k + 1)) (hs : lineStep p line = .ok ⟨p.vs.set q n, p.sn.set q true⟩) (hq : q < 16) (hn : -9223372036854775808 ≤ n ∧ n ≤ 9223372036854775807) :
    RP w0 L code b sb g (k + 1) ⟨p.vs.set q n, p.sn.set q true⟩ ((w.setCell ⟨b, q, none⟩ (.int .i64 n)).setCell ⟨sb, q, none⟩ (.bool true)) := by
  have e1 : b ≠ sb := h.hv.ne h.hs (by decide)
  have e2 : g ≠ b := h.hg.ne h.hv (by decide)
  have e3 : g ≠ sb := h.hg.ne h.hs (by decide)
  refine { vl := ?_, sl := ?_, vi := ?_, hv := ?_, hs := ?_, hg := ?_, lb := h.lb, ls := h.ls, lg := h.lg, bel := ?_, same := ?_ }
  · rw [List.length_set]; exact h.vl
  · rw [List.length_set]; exact h.sl
  · intro v hv
    rcases List.mem_or_eq_of_mem_set hv with h1 | h1
    · exact h.vi v h1
    · rw [h1]; exact hn
  · refine ((h.hv.set hq _).other q _ e1).congr fun j hj => ?_
    show (if j = q then Value.int .i64 n else .int .i64 (p.vs.getD j 0)) = .int .i64 ((p.vs.set q n).getD j 0)
    rw [getD_set_any _ _ _ _ _ (by rw [h.vl]; exact hq)]
    split <;> rfl
  · refine ((h.hs.other q _ (Ne.symm e1)).set hq _).congr fun j hj => ?_
    show (if j = q then Value.bool true else .bool (p.sn.getD j false)) = .bool ((p.sn.set q true).getD j false)
    rw [getD_set_any _ _ _ _ _ (by rw [h.sl]; exact hq)]
    split <;> rfl
  · exact (h.hg.other q _ e2).other q _ e3
  · exact (h.bel.setCell (p := ⟨b, q, none⟩) h.lb _).setCell (p := ⟨sb, q, none⟩) h.ls _
  · have h3 := h.same
    rw [hd] at h3
    unfold stepAll at h3
    rw [hs] at h3
    exact h3
def intOf' : Value → Int | .int _ q => q | _ => 0
set_option maxRecDepth 100000 in
set_option maxHeartbeats 8000000 in
theorem refParse_any (l : List UInt8) (hl : l.length ≤ 20000) (w : World) :
    Calls Tryd.prog 13 #[.string (BA l)] w fun e w' => ∃ v, e = .returned (.tuple #[v, .int .i64 (parseR l).2]) ∧ Below w.heap.size w w' := by
  have HP := Aside0.mk (parseR_lines l hl)
  obtain ⟨code, hcode⟩ : ∃ c, c = (parseR l).2 := ⟨_, rfl⟩
  rw [← hcode]
  have HC := Aside0.mk hcode
  clear hcode
  have hsz : (BA l).size ≤ 20000 := by rw [BA_size]; exact hl
  have hLn := fun w' => reflines_gen l (by omega) w'
  obtain ⟨L, hL⟩ : ∃ L, L = goLines [] [] l := ⟨_, rfl⟩
  rw [← hL] at hLn HP
  have HLL : Aside0 (∀ x ∈ L, x.length ≤ 20000) := ⟨fun x hx => by rw [hL] at hx; exact Nat.le_trans (lines_le l [] [] l.length (by simp) (by intro y hy; cases hy) x hx) hl⟩
  have HL := Aside0.mk hL
  clear hL
  generalize BA l = s at *
  go_enter Tryd.func13, Tryd.ntmps13
  go_wp2_with fail
  refine (refdefault_any _).mono ?_
  rintro e w1 ⟨b, cb, rfl, hcb, hcm, hbb, hrow, hb1⟩
  have HV1 := Aside0.mk hrow
  have HB1 := Aside0.mk hb1
  clear hrow hb1
  have hcm' : cb ≤ 9223372036854775807 := by unfold maxLen at hcm; omega
  clear hcm
  go_wp2_with fail
  have HSB := Aside0.mk (heap_alloc_new w1 (.cells #[.bool false, .bool false, .bool false, .bool false, .bool false, .bool false, .bool false, .bool false, .bool false, .bool false, .bool false, .bool false, .bool false, .bool false, .bool false, .bool false] 65))
  have HV2 := Aside0.mk (HV1.out.below ((Below.refl _ _).alloc (Nat.le_refl _) (.cells #[.bool false, .bool false, .bool false, .bool false, .bool false, .bool false, .bool false, .bool false, .bool false, .bool false, .bool false, .bool false, .bool false, .bool false, .bool false, .bool false] 65)))
  have HB2 := Aside0.mk (HB1.out.alloc HB1.out.size (.cells #[.bool false, .bool false, .bool false, .bool false, .bool false, .bool false, .bool false, .bool false, .bool false, .bool false, .bool false, .bool false, .bool false, .bool false, .bool false, .bool false] 65))
  have hls : w.heap.size ≤ w1.heap.size := HB1.out.size
  have hlt2 : w1.heap.size < (w1.alloc (.cells #[.bool false, .bool false, .bool false, .bool false, .bool false, .bool false, .bool false, .bool false, .bool false, .bool false, .bool false, .bool false, .bool false, .bool false, .bool false, .bool false] 65)).heap.size := by simp
  generalize w1.alloc (.cells #[.bool false, .bool false, .bool false, .bool false, .bool false, .bool false, .bool false, .bool false, .bool false, .bool false, .bool false, .bool false, .bool false, .bool false, .bool false, .bool false] 65) = w2 at *
  generalize w1.heap.size = sb at *
  clear HV1 HB1
  refine (hLn w2).mono ?_
  rintro e w3 ⟨g, cg, rfl, hcg, hcgm, hgg, hlrow, hb3⟩
  have HR : Aside0 (RP w L code b sb g 0 told0 w3) := ⟨{ vl := by decide, sl := by decide, vi := by decide, hv := HV2.out.below hb3, hs := ⟨_, (hb3.block sb hlt2).trans HSB.out, sixteen_false⟩, hg := hlrow, lb := hbb, ls := hls, lg := Nat.le_trans HB2.out.size hgg, bel := HB2.out.trans (hb3.mono HB2.out.size), same := by rw [List.drop_zero, ← HP.out, HC.out] }⟩
  have hcg' : cg ≤ 9223372036854775807 := by unfold maxLen at hcgm; omega
  clear hcgm hlrow hb3 hgg HSB HV2 HB2 hlt2 hLn HP HC HL
  go_wp2_with fail
  go_loopw [21] (fun i wr => ∃ (k : Nat) (p : PS), i = .int .i64 k ∧ k ≤ L.length ∧ Aside0 (RP w L code b sb g k p wr)) (fun i _ => L.length - (intOf' i).toNat)
  case atStart => exact ⟨0, told0, rfl, Nat.zero_le _, HR⟩
  case round =>
    obtain ⟨k, p, rfl, hk, HR⟩ := hrel
    by_cases hlt : k < L.length
    · have c1 := HR.out.hg.cell hlt
      have HST := Aside0.mk (drop_step L k hlt)
      generalize hline : L.getD k [] = line at *
      have HLN := Aside0.mk hline
      clear hline
      have hlb : (BA line).toList = line := BA_list line
      by_cases hemp : line = []
      · subst hemp
        have HR2 := Aside0.mk (HR.out.skip hlt HST.out (by unfold lineStep; rw [if_neg (fun h => h.1 rfl)]))
        have d1 : ((BA []).toList == []) = true := by rw [BA_list]; rfl
        go_wp2_with fail
        go_roundw
        case rel => exact ⟨k + 1, p, by go_num, by omega, HR2⟩
        case measure => simp [intOf']; omega
      · have d1 : ((BA line).toList == []) = false := by rw [hlb]; simpa using hemp
        have h0 : 0 < (BA line).size := by rw [BA_size]; cases line with | nil => exact absurd rfl hemp | cons a l => simp
        by_cases hh : ((((BA line)[0]'h0).toNat : Int) == 35) = true
        · have HR2 := Aside0.mk (HR.out.skip hlt HST.out (by have h3 := step_hash p h0 (by simpa using hh); rw [BA_data] at h3; exact h3))
          go_wp2_with fail
          go_roundw
          case rel => exact ⟨k + 1, p, by go_num, by omega, HR2⟩
          case measure => simp [intOf']; omega
        · have hh' : ((((BA line)[0]'h0).toNat : Int) == 35) = false := by simpa using hh
          have HLS := Aside0.mk (lineStep_ref p line hemp (by have h3 := not_hash h0 (by simpa using hh); rw [BA_data] at h3; exact h3))
          clear hh
          obtain ⟨at1, at2, at3, at4, at5, at6⟩ := cutL_at line
          obtain ⟨A, hA⟩ : ∃ A, A = (cutL line).1.length := ⟨_, rfl⟩
          rw [← hA] at at1 at2 at3 at4 at5 at6
          have HLS2 := HLS
          rw [← hA] at HLS2
          have HCA := Aside0.mk hA
          clear HLS hA
          have hbz : (BA line).size = line.length := BA_size line
          have hbx : ∀ j (hj : j < line.length), ((BA line)[j]'(by rw [hbz]; exact hj)) = line[j]'hj := fun j hj => BA_get line j _ hj
          have hlz : line.length ≤ 20000 := HLL.out line (by rw [← HLN.out]; exact getD_mem L k hlt)
          have H3 := Aside0.mk at3
          have H4 := Aside0.mk at4
          have HBX := Aside0.mk hbx
          have H1 := Aside0.mk at1
          have H2 := Aside0.mk at2
          have H6 := Aside0.mk at6
          clear at1 at2 at3 at4 at6 hbx hemp hlb
          go_wp2_with fail
          go_loopw [8] (fun i w' => ∃ j : Nat, i = .int .i64 j ∧ j ≤ A ∧ w' = wr) (fun i _ => A - (intOf' i).toNat)
          case atStart => exact ⟨0, rfl, Nat.zero_le _, rfl⟩
          case round =>
            obtain ⟨j, rfl, hj, rfl⟩ := hrel
            by_cases hjA : j < A
            · have hjl : j < line.length := by omega
              have hjb : j < (BA line).size := by rw [hbz]; exact hjl
              have hx : ((((BA line)[j]'hjb).toNat : Int) != 32) = true := by
                rw [HBX.out j hjl]
                have h5 := H3.out j hjA
                rw [List.getElem?_eq_getElem hjl] at h5
                rw [bne_iff_ne]
                intro e
                apply h5
                congr 1
                exact UInt8.toNat_inj.1 (by show (line[j]).toNat = 32; omega)
              go_wp2_with fail
              go_roundw
              case rel => exact ⟨j + 1, by go_num, by omega, trivial⟩
              case measure => simp [intOf']; omega
            · obtain rfl : j = A := by omega
              rcases H4.out with hE | hE
              case' inl =>
                have hnl : ¬ j < line.length := by omega
                clear hE
                go_wp2_with fail
                clear hnl
              case' inr =>
                have hjl : j < line.length := (List.getElem?_eq_some_iff.1 hE).1
                have hjb : j < (BA line).size := by rw [hbz]; exact hjl
                have hx : ((((BA line)[j]'hjb).toNat : Int) != 32) = false := by
                  rw [HBX.out j hjl, bne_eq_false_iff_eq]
                  rw [List.getElem?_eq_getElem hjl] at hE
                  injection hE with hE
                  rw [hE]
                  rfl
                clear hE
                go_wp2_with fail
                clear hx
              all_goals
                refine (refnames_any _).mono ?_
                rintro e w5 ⟨gn, cn, rfl, hcn, hcnm, hgn, hnrow, hb5⟩
                have HR5 := Aside0.mk (HR.out.below hb5)
                have HNR := Aside0.mk hnrow
                have hcn' : cn ≤ 9223372036854775807 := by unfold maxLen at hcnm; omega
                clear hcnm hnrow hb5 hgn HR
                go_wp2_with fail
                go_loopw [9, 46] (fun q i w' => ∃ m : Nat, i = .int .i64 m ∧ m ≤ 16 ∧ q = .int .i64 (lastName (cutL line).1 m) ∧ w' = w5) (fun _ i _ => 16 - (intOf' i).toNat)
                case atStart => exact ⟨0, rfl, Nat.zero_le _, rfl, rfl⟩
                case round =>
                  obtain ⟨m, rfl, hm, rfl, rfl⟩ := hrel
                  by_cases hm16 : m < 16
                  · have cn1 := HNR.out.cell hm16
                    have hext : (BA line).extract 0 j = BA (cutL line).1 := by
                      rw [H2.out]
                      apply ByteArray.ext
                      rw [ByteArray.data_extract]
                      apply Array.ext'
                      simp [BA]
                    have HLSm : Aside0 (lastName (cutL line).1 (m + 1) = if namesL.getD m [] = (cutL line).1 then (m : Int) else lastName (cutL line).1 m) := ⟨rfl⟩
                    generalize namesL.getD m [] = nm at *
                    by_cases hnm : nm = (cutL line).1
                    · have he1 : ((BA nm).toList == (BA (cutL line).1).toList) = true := by rw [hnm]; simp
                      have HQ := Aside0.mk (show lastName (cutL line).1 (m + 1) = (m : Int) by rw [HLSm.out, if_pos hnm])
                      clear hnm
                      go_wp2_with fail
                      go_roundw
                      case rel => exact ⟨m + 1, by go_num, by omega, by rw [HQ.out], trivial⟩
                      case measure => simp [intOf']; omega
                    · have he1 : ((BA nm).toList == (BA (cutL line).1).toList) = false := by rw [BA_list, BA_list]; simpa using hnm
                      have HQ := Aside0.mk (show lastName (cutL line).1 (m + 1) = lastName (cutL line).1 m by rw [HLSm.out, if_neg hnm])
                      clear hnm
                      go_wp2_with fail
                      go_roundw
                      case rel => exact ⟨m + 1, by go_num, by omega, by rw [HQ.out], trivial⟩
                      case measure => simp [intOf']; omega
                  · obtain rfl : m = 16 := by omega
                    have HLS3 := HLS2
                    generalize hW : lastName (cutL line).1 16 = W at *
                    have HW := Lib.hid hW
                    clear hW
                    by_cases hW0 : W < 0
                    · have HF := Lib.hid (HR5.out.fail HST.out (HLS3.out.trans (if_pos (.inl hW0))))
                      go_wp2_with fail
                      go_ret2
                      (first | exact ⟨_, by rw [HF.out]; rfl, HR5.out.bel⟩ | exact ⟨⟨_, by rw [HF.out]; rfl⟩, HR5.out.bel⟩)
                    · by_cases hjl2 : j = line.length
                      · have HF := Lib.hid (HR5.out.fail HST.out (HLS3.out.trans (if_pos (.inr (.inl hjl2)))))
                        have hje : ((j : Int) == (line.length : Int)) = true := by rw [beq_iff_eq, hjl2]
                        clear hjl2
                        go_wp2_with fail
                        go_ret2
                        (first | exact ⟨_, by rw [HF.out]; rfl, HR5.out.bel⟩ | exact ⟨⟨_, by rw [HF.out]; rfl⟩, HR5.out.bel⟩)
                      · have HRE := Lib.hid (rest_ext line j (by omega) (H1.out (by omega)))
                        have hWl : W < 16 := by rw [← HW.out]; exact lastName_lt _ 16
                        obtain ⟨q, rfl⟩ : ∃ q : Nat, W = (q : Int) := ⟨W.toNat, by omega⟩
                        have hq : q < 16 := by omega
                        have hje : ((j : Int) == (line.length : Int)) = false := by rw [beq_eq_false_iff_ne]; omega
                        have hjl3 : j + 1 ≤ line.length := by omega
                        clear hWl hW0 hjl2
                        go_wp2_with fail
                        rw [HRE.out]
                        clear HRE HW H1 H2 H3 H4 H6 HBX HNR
                        generalize (cutL line).2.1 = d at *
                        refine (refnumber_any d _).mono ?_
                        rintro e w6 ⟨rfl, hd6⟩
                        have HR6 := Aside0.mk (HR5.out.below hd6.below)
                        clear hd6 HR5
                        have HNR2 := Aside0.mk (numR_ok d)
                        have htn : ((q : Int)).toNat = q := by omega
                        rw [htn] at HLS3
                        cases hN : (numR d).2 with
                        | false =>
                          have HF := Lib.hid (HR6.out.fail HST.out (HLS3.out.trans (if_pos (.inr (.inr hN)))))
                          clear hN
                          go_wp2_with fail
                          go_ret2
                          exact ⟨_, by rw [HF.out]; rfl, HR6.out.bel⟩
                        | true =>
                          have hrange := (HNR2.out hN).2
                          generalize (numR d).1 = nv at *
                          have HS1 := HLS3.out.trans (if_neg (by rw [hN]; rintro (h | h | h); omega; omega; cases h))
                          have HS1A := Aside0.mk HS1
                          clear HS1 HLS3 HLS2 HNR2
                          have c2 := HR6.out.hs.cell hq
                          cases hS : p.sn.getD q false with
                          | true =>
                            rw [hS] at c2
                            have HF := Lib.hid (HR6.out.fail HST.out (HS1A.out.trans (if_pos hS)))
                            clear hS hN
                            go_wp2_with fail
                            go_ret2
                            exact ⟨_, by rw [HF.out]; rfl, HR6.out.bel⟩
                          | false =>
                            rw [hS] at c2
                            have HP := Aside0.mk (HR6.out.put HST.out (HS1A.out.trans (if_neg (by rw [hS]; decide))) hq hrange)
                            have HO := HR6.out.hs.other q (.int .i64 nv) (HR6.out.hv.ne HR6.out.hs (by decide)).symm
                            have c3 := HO.cell hq
                            have f3 := HO.frozen q
                            rw [hS] at c3
                            clear hS hN HO
                            have c1 := HR6.out.hv.cell hq
                            have f1 := HR6.out.hv.frozen q
                            have f2 := HR6.out.hs.frozen q
                            go_wp2_with fail
                            go_roundw
                            case rel => exact ⟨k + 1, _, by go_num, by omega, HP⟩
                            case measure => simp [intOf']; omega
    · obtain rfl : k = L.length := by omega
      have HE := Lib.hid HR.out.last
      go_wp2_with fail
      refine (refvalid_any p.vs HR.out.vl _ cb wr HR.out.reads hcb).mono ?_
      rintro e w6 ⟨rfl, hb6⟩
      have HB6 := Aside0.mk (HR.out.bel.trans (hb6.mono HR.out.bel.size))
      clear hb6
      cases hV : validB p.vs with
      | true =>
        go_wp2_with fail
        go_ret2
        exact ⟨_, by rw [HE.out, hV]; rfl, HB6.out⟩
      | false =>
        go_wp2_with fail
        go_ret2
        exact ⟨_, by rw [HE.out, hV]; rfl, HB6.out⟩
end Go.Proofs.YteaihgjjplgalaaDoor

/- The law ConfLong, walked. -/
namespace Go.Proofs.YteaihgjjplgalaaDoor
open Go.RowKit Go.Proofs.YteaihgjjplgalaaDoorW.PrintWords Go.Proofs.YteaihgjjplgalaaDoorW.PrintLast Go.Proofs.YteaihgjjplgalaaDoorW.PrintMore
set_option linter.unusedVariables false
set_option linter.unusedSimpArgs false

theorem lineStep_len {p q : PS} {l : List UInt8} (h : lineStep p l = .ok q) : q.vs.length = p.vs.length := by
  unfold lineStep at h
  split at h
  · split at h
    · split at h
      · cases h
      · injection h with h
        subst h
        simp
    · cases h
  · injection h with h
    subst h
    rfl
theorem stepAll_len : ∀ (ls : List (List UInt8)) (p q : PS), stepAll p ls = .ok q → q.vs.length = p.vs.length
  | [], p, q, h => by
    unfold stepAll at h
    injection h with h
    rw [h]
  | l :: ls, p, q, h => by
    unfold stepAll at h
    split at h
    · cases h
    · rename_i e
      rw [stepAll_len ls _ _ h, lineStep_len e]
theorem parseR_len (l : List UInt8) : (parseR l).1.length = 16 := by
  by_cases h : 20000 < l.length
  · unfold parseR
    rw [if_pos h]
    rfl
  · rw [parseR_lines l (by omega)]
    unfold endR
    split
    · rfl
    · rename_i q e
      split
      · exact (stepAll_len _ _ _ e).trans (by decide)
      · rfl
theorem parseR_long (l : List UInt8) (h : 20000 < l.length) : parseR l = (zero16, 7) := by unfold parseR; rw [if_pos h]
def fillV (k : Nat) (j : Nat) : Value := .int .u8 (if j < k then 35 else 0)
theorem bytes_of_row {w : World} {g m : Nat} {T : TypeId} (h : RowV w g m T (fillV m)) : Lib.Bytes w g 0 (BA (List.replicate m 35)) := by
  intro i hi
  have hi' : i < m := by rw [BA_size, List.length_replicate] at hi; exact hi
  rw [Nat.zero_add, h.cell hi', BA_get _ _ hi (by rw [List.length_replicate]; exact hi')]
  show some (Value.int .u8 (if i < m then 35 else 0)) = _
  rw [if_pos hi', List.getElem_replicate]
  rfl
theorem row_made (w : World) (m : Nat) (T : TypeId) : RowV (w.alloc (.cells (madeCells #[.int .u8 0] m) T)) w.heap.size m T (fillV 0) := by
  refine ⟨_, heap_alloc_new w _, fun j hj => ?_⟩
  have hl : (madeCells #[Value.int .u8 0] m).toList = encs (Value.int .u8) (List.replicate m 0) := by
    apply List.ext_getElem
    · simp [encs, madeCells]
    · intro i h1 h2
      simp [encs, madeCells, Nat.mod_one]
  rw [← Array.getElem?_toList, hl]
  unfold encs fillV
  simp [List.getElem?_map, List.getElem?_replicate, hj]
theorem bytesOf_len (a : ByteArray) (l : List UInt8) (h : a = BA l) : a.data.toList = l := by subst h; rfl
theorem bytes_below {w w' : World} {g o : Nat} {t : ByteArray} (h : Lib.Bytes w g o t) (hb : Below w.heap.size w w') : Lib.Bytes w' g o t := fun i hi => (hb.cell (World.block_lt_of_cell? w _ (h i hi))).trans (h i hi)
/-- What holds while the row is being filled. -/
structure FL (w0 : World) (m g k : Nat) (w : World) : Prop where
  row : RowV w g m 5 (fillV k)
  lg : w0.heap.size ≤ g
  bel : Below w0.heap.size w0 w
theorem FL.next {w0 : World} {m g k : Nat} {w : World} (h : FL w0 m g k w) (hk : k < m) : FL w0 m g (k + 1) (w.setCell ⟨g, k, none⟩ (.int .u8 35)) := by
  refine ⟨(h.row.set hk _).congr fun j hj => ?_, h.lg, h.bel.setCell (p := ⟨g, k, none⟩) h.lg _⟩
  unfold fillV
  by_cases e : j = k
  · subst e
    rw [if_pos rfl, if_pos (by omega)]
  · rw [if_neg e]
    by_cases e2 : j < k
    · rw [if_pos e2, if_pos (by omega)]
    · rw [if_neg e2, if_neg (by omega)]
set_option maxRecDepth 100000 in
set_option maxHeartbeats 8000000 in
theorem confLong_any (s : ByteArray) (hs : s.size ≤ maxLen) (more : Int) (hmo : 0 ≤ more ∧ more ≤ 65535) (w0 : World) (hL : LibAt w0) :
    Calls Tryd.prog 4 #[.string s, .int .u16 more] w0 fun e w' => e = .returned (.bool true) ∧ Below w0.heap.size w0 w' := by
  have HL := Aside0.mk hL
  clear hL
  have hs' : s.size ≤ 9223372036854775807 := by unfold maxLen at hs; omega
  clear hs
  go_enter Tryd.func4, Tryd.ntmps4
  go_wp2_with fail
  refine (awake_any _ HL.out).mono ?_
  rintro e w1 ⟨rfl, hb1⟩
  have HB1 := Aside0.mk hb1
  clear hb1
  by_cases h100 : 100 < s.size
  case' pos =>
    obtain ⟨u, hu⟩ : ∃ u, u = s.extract 0 100 := ⟨_, rfl⟩
    have hul : u.size ≤ 100 := by rw [hu, ByteArray.size_extract]; omega
    have HU := Aside0.mk hu
    clear hu
    go_upto_region 5 with fail
    rw [← HU.out]
    clear HU h100
  case' neg =>
    obtain ⟨u, hu⟩ : ∃ u, u = s := ⟨_, rfl⟩
    rw [← hu] at h100 hs' ⊢
    have hul : u.size ≤ 100 := by omega
    clear hu h100
    go_upto_region 5 with fail
  all_goals
    clear hs'
    go_upto_region 6 with fail
    obtain ⟨m, hm⟩ : ∃ m : Nat, 20000 - (u.size : Int) + more % 3 = (m : Int) := ⟨(20000 - (u.size : Int) + more % 3).toNat, by omega⟩
    rw [hm]
    have HM := Lib.hid hm
    have hm1 : m ≤ 20002 := by omega
    clear hm
    have hmk := print_make (P := Tryd.prog) 25 5 .u8 1 Tryd.underlying25 (by kernel_rfl) (by decide) m (by omega)
    have HF0 := Aside0.mk (row_made w1 m 5)
    have HB2 := Aside0.mk (HB1.out.alloc HB1.out.size (.cells (madeCells #[.int .u8 0] m) 5))
    have hlg : w0.heap.size ≤ w1.heap.size := HB1.out.size
    go_upto_region 7 with fail
    generalize w1.alloc (.cells (madeCells #[.int .u8 0] m) 5) = w2 at *
    generalize w1.heap.size = g at *
    clear hmk HB1
    have HFL : Aside0 (FL w0 m g 0 w2) := ⟨⟨HF0.out, hlg, HB2.out⟩⟩
    clear HF0 HB2 hlg
    go_wp2_with fail
    go_loopw [30] (fun i wr => ∃ k : Nat, i = .int .i64 k ∧ k ≤ m ∧ Aside0 (FL w0 m g k wr)) (fun i _ => m - (intOf' i).toNat)
    case atStart => exact ⟨0, rfl, Nat.zero_le _, HFL⟩
    case round =>
      obtain ⟨k, rfl, hk, HFL⟩ := hrel
      by_cases hlt : k < m
      · have c1 := HFL.out.row.cell hlt
        have f1 := HFL.out.row.frozen k
        have HN := Aside0.mk (HFL.out.next hlt)
        go_wp2_with fail
        go_roundw
        case rel => exact ⟨k + 1, by go_num, by omega, HN⟩
        case measure => simp [intOf']; omega
      · obtain rfl : k = m := by omega
        have HBY := bytes_of_row HFL.out.row
        have HBB := Aside0.mk HFL.out.bel
        have HRW := Aside0.mk HFL.out.row
        clear HFL
        have ht : (BA (List.replicate k 35)).size = k := by rw [BA_size, List.length_replicate]
        generalize BA (List.replicate k 35) = t at *
        have HT := Aside0.mk HBY
        have hconv := Lib.run_convert_whole (P := Tryd.prog) wr 25 5 9 Tryd.underlying25 Tryd.underlying5 Tryd.underlying9 g 0 t HBY k
        rw [ht] at hconv
        clear HBY
        obtain ⟨X, hX⟩ : ∃ X, t ++ u = BA X := ⟨(t ++ u).data.toList, rfl⟩
        have hXl : X.length = k + u.size := by
          have := congrArg ByteArray.size hX
          rw [BA_size, ByteArray.size_append] at this
          omega
        have HX := Lib.hid hX
        clear hX
        by_cases h3 : 0 < more % 3
        · have HP := parse_any (BA X) wr (HL.out.below HBB.out)
          rw [show (BA X).data.toList = X from rfl, parseR_long X (by have := HM.out; omega)] at HP
          have HPA := Aside0.mk HP
          clear HP HT
          go_wp2_with fail
          rw [HX.out]
          have HP := HPA.out
          clear HPA
          simp only [cfgV, zero16, List.replicate, List.map_cons, List.map_nil] at HP
          refine HP.mono ?_
          rintro e w6 ⟨rfl, hb6⟩
          clear HP
          have HB6 := Aside0.mk (HBB.out.trans (hb6.mono HBB.out.size))
          clear hb6
          have HB7 := Aside0.mk (HB6.out.alloc HB6.out.size (.cells #[.int .i64 0, .int .i64 0, .int .i64 0, .int .i64 0, .int .i64 0, .int .i64 0, .int .i64 0, .int .i64 0, .int .i64 0, .int .i64 0, .int .i64 0, .int .i64 0, .int .i64 0, .int .i64 0, .int .i64 0, .int .i64 0] 24))
          go_upto_region 13 with fail
          generalize w6.alloc (.cells #[.int .i64 0, .int .i64 0, .int .i64 0, .int .i64 0, .int .i64 0, .int .i64 0, .int .i64 0, .int .i64 0, .int .i64 0, .int .i64 0, .int .i64 0, .int .i64 0, .int .i64 0, .int .i64 0, .int .i64 0, .int .i64 0] 24) = w7 at *
          generalize w6.heap.size = g5 at *
          go_wp2_with fail
          go_ret
          exact ⟨by simp, HB7.out⟩
        · have HP := parse_any (BA X) wr (HL.out.below HBB.out)
          rw [show (BA X).data.toList = X from rfl] at HP
          have hX2 : X.length ≤ 20000 := by have := HM.out; omega
          have HRP := Aside0.mk (refParse_any X hX2)
          obtain ⟨x0, x1, x2, x3, x4, x5, x6, x7, x8, x9, x10, x11, x12, x13, x14, x15, hxs⟩ := len16 _ (parseR_len X)
          obtain ⟨E, hE⟩ : ∃ E, (parseR X).2 = E := ⟨_, rfl⟩
          rw [hxs, hE] at HP
          rw [hE] at HRP
          have HPA := Aside0.mk HP
          clear HP hxs hE
          go_wp2_with fail
          rw [HX.out]
          have HP := HPA.out
          clear HPA
          simp only [cfgV, List.map_cons, List.map_nil] at HP
          refine HP.mono ?_
          rintro e w6 ⟨rfl, hb6⟩
          clear HP hconv
          have HB6 := Aside0.mk (HBB.out.trans (hb6.mono HBB.out.size))
          have HR6 := Aside0.mk (bytes_below HT.out hb6)
          clear hb6
          have HB7 := Aside0.mk (HB6.out.alloc HB6.out.size (.cells #[.int .i64 x0, .int .i64 x1, .int .i64 x2, .int .i64 x3, .int .i64 x4, .int .i64 x5, .int .i64 x6, .int .i64 x7, .int .i64 x8, .int .i64 x9, .int .i64 x10, .int .i64 x11, .int .i64 x12, .int .i64 x13, .int .i64 x14, .int .i64 x15] 24))
          have HR7 := Aside0.mk (bytes_below HR6.out ((Below.refl _ _).alloc (Nat.le_refl _) (.cells #[.int .i64 x0, .int .i64 x1, .int .i64 x2, .int .i64 x3, .int .i64 x4, .int .i64 x5, .int .i64 x6, .int .i64 x7, .int .i64 x8, .int .i64 x9, .int .i64 x10, .int .i64 x11, .int .i64 x12, .int .i64 x13, .int .i64 x14, .int .i64 x15] 24)))
          go_upto_region 13 with fail
          generalize w6.alloc (.cells #[.int .i64 x0, .int .i64 x1, .int .i64 x2, .int .i64 x3, .int .i64 x4, .int .i64 x5, .int .i64 x6, .int .i64 x7, .int .i64 x8, .int .i64 x9, .int .i64 x10, .int .i64 x11, .int .i64 x12, .int .i64 x13, .int .i64 x14, .int .i64 x15] 24) = w7 at *
          generalize w6.heap.size = g5 at *
          clear HB6 HR6
          have hconv := Lib.run_convert_whole (P := Tryd.prog) w7 25 5 9 Tryd.underlying25 Tryd.underlying5 Tryd.underlying9 g 0 t HR7.out k
          rw [ht] at hconv
          go_wp2_with fail
          rw [HX.out]
          refine (HRP.out w7).mono ?_
          rintro e w8 ⟨v8, rfl, hb8⟩
          have HB8 := Aside0.mk (HB7.out.trans (hb8.mono HB7.out.size))
          clear hb8 hconv HR7
          go_wp2_with fail
          go_ret
          exact ⟨by simp, HB8.out⟩
end Go.Proofs.YteaihgjjplgalaaDoor

/- ConfLong over readings of its arguments. -/
namespace Go.Proofs.YteaihgjjplgalaaDoor
open Go.RowKit Go.Proofs.YteaihgjjplgalaaDoorW.PrintWords Go.Proofs.YteaihgjjplgalaaDoorW.PrintLast Go.Proofs.YteaihgjjplgalaaDoorW.PrintMore
set_option linter.unusedVariables false
set_option linter.unusedSimpArgs false

theorem u16_of_wf {z : Int} (h : (Lit.int .u16 z).wf = true) : 0 ≤ z ∧ z ≤ 65535 := by
  have := wf_bounds h
  simpa [IntKind.min, IntKind.max, IntKind.signed, IntKind.bits] using this
open Go.ChangeShapes Go.WideShapes Go.ChangeAt Go.ChangeMaps in
set_option maxRecDepth 100000 in
theorem confLong_law {H : Type} (enc : TypeId × Value → H) (W : World) (hL : LibAt W) (base : Nat) (v0 : Value) (d0 : DataW H) (p0 : List MemPlace) (o0 : Value.okWide Tryd.prog W .any base 9 v0) (h0 : DataW.Trod enc Tryd.prog W 0 (fun _ => true) true 9 v0 d0 p0)
    (v1 : Value) (d1 : DataW H) (p1 : List MemPlace) (o1 : Value.okWide Tryd.prog W .any base 37 v1) (h1 : DataW.Trod enc Tryd.prog W 0 (fun _ => true) true 37 v1 d1 p1) :
    Calls Tryd.prog 4 #[v0, v1] W fun e W' => e = .returned (.bool true) ∧ Below W.heap.size W W' := by
  obtain ⟨s, rfl, -, -, hs⟩ := open_string Tryd.underlying9 o0 h0
  obtain ⟨m, rfl, -, -, hf⟩ := open_int Tryd.underlying37 o1 h1
  exact confLong_any s hs m (u16_of_wf hf) W hL
end Go.Proofs.YteaihgjjplgalaaDoor
