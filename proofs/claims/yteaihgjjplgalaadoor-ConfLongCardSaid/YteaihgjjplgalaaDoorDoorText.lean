/- The lines of a config, read again: plain laws; no program in sight. -/
import Derived.Test.YteaihgjjplgalaaDoorDoorValid
import Derived.Lib.ItoaLen
namespace Go.Proofs.YteaihgjjplgalaaDoor
set_option linter.unusedVariables false
set_option linter.unusedSimpArgs false

theorem index_single (c : UInt8) (b : List UInt8) : ∀ (a : List UInt8), c ∉ a → Lib.index (a ++ c :: b) [c] = (a.length : Int)
  | [], _ => by
    rw [List.nil_append]
    unfold Lib.index
    rw [if_pos (by simp)]
    rfl
  | x :: a, h => by
    have hx : c ≠ x := fun e => h (by subst e; exact List.mem_cons_self)
    have ih := index_single c b a (fun hm => h (List.mem_cons_of_mem _ hm))
    rw [List.cons_append]
    unfold Lib.index
    rw [if_neg (by simp [hx]), ih]
    have e : ((a.length : Int) == -1) = false := by rw [beq_eq_false_iff_ne]; omega
    simp [e]
theorem index_no (c : UInt8) : ∀ (a : List UInt8), c ∉ a → Lib.index a [c] = -1
  | [], _ => rfl
  | x :: a, h => by
    have hx : c ≠ x := fun e => h (by subst e; exact List.mem_cons_self)
    have ih := index_no c a (fun hm => h (List.mem_cons_of_mem _ hm))
    unfold Lib.index
    rw [if_neg (by simp [hx]), ih]
    rfl
theorem cut_at (c : UInt8) (a b : List UInt8) (h : c ∉ a) : Lib.cut (a ++ c :: b) [c] = (a, b, true) := by
  unfold Lib.cut
  rw [index_single c b a h, if_pos (by omega)]
  have e : ((a.length : Int)).toNat = a.length := by omega
  rw [e]
  simp
theorem cut_no (c : UInt8) (a : List UInt8) (h : c ∉ a) : Lib.cut a [c] = (a, [], false) := by
  unfold Lib.cut
  rw [index_no c a h, if_neg (by omega)]
/-! ### digits -/
theorem ofNat_lt (k : Nat) (h : k < 256) : (UInt8.ofNat k).toNat = k := by
  rw [UInt8.toNat_ofNat']; exact Nat.mod_eq_of_lt h
theorem dec_digits (u : Nat) : (∀ b ∈ Lib.decDigits u, 48 ≤ b.toNat ∧ b.toNat ≤ 57) ∧ Lib.decDigits u ≠ [] := by
  induction u using Nat.strongRecOn with
  | _ u ih =>
    unfold Lib.decDigits
    by_cases h : u < 10
    · rw [dif_pos h]
      refine ⟨fun b hb => ?_, by simp⟩
      rw [List.mem_singleton] at hb
      subst hb
      rw [ofNat_lt _ (by omega)]
      omega
    · rw [dif_neg h]
      refine ⟨fun b hb => ?_, by simp⟩
      rcases List.mem_append.1 hb with hb | hb
      · exact (ih (u / 10) (by omega)).1 b hb
      · rw [List.mem_singleton] at hb
        subst hb
        rw [ofNat_lt _ (by omega)]
        omega
theorem parse_append (M : Nat) : ∀ (l r : List UInt8) (acc a : Nat), Lib.parseUintM M acc l = .ok a → Lib.parseUintM M acc (l ++ r) = Lib.parseUintM M a r
  | [], r, acc, a, h => by
    unfold Lib.parseUintM at h
    cases h
    rfl
  | c :: l, r, acc, a, h => by
    rw [List.cons_append]
    unfold Lib.parseUintM at h
    conv => lhs; unfold Lib.parseUintM
    split at h
    · rename_i h1
      rw [if_pos h1]
      split at h
      · cases h
      · rename_i h2
        rw [if_neg h2]
        split at h
        · cases h
        · rename_i h3
          rw [if_neg h3]
          exact parse_append M l r _ a h
    · cases h
theorem parse_dec (u : Nat) (hu : u ≤ 18446744073709551615) : Lib.parseUintM (2 ^ 64 - 1) 0 (Lib.decDigits u) = .ok u := by
  induction u using Nat.strongRecOn with
  | _ u ih =>
    unfold Lib.decDigits
    by_cases h : u < 10
    · rw [dif_pos h]
      have e : (UInt8.ofNat (48 + u)).toNat = 48 + u := ofNat_lt _ (by omega)
      unfold Lib.parseUintM
      rw [e, if_pos (by omega), if_neg (by omega), if_neg (by omega)]
      unfold Lib.parseUintM
      congr 1
      omega
    · rw [dif_neg h, parse_append _ _ _ _ _ (ih (u / 10) (by omega) (by omega))]
      have e : (UInt8.ofNat (48 + u % 10)).toNat = 48 + u % 10 := ofNat_lt _ (by omega)
      unfold Lib.parseUintM
      rw [e, if_pos (by omega), if_neg (by omega), if_neg (by omega)]
      unfold Lib.parseUintM
      congr 1
      omega
theorem parse_itoa (n : Int) (h0 : -9223372036854775808 ≤ n) (h1 : n ≤ 9223372036854775807) : Lib.parseIntB 64 (Lib.itoa n) = .ok n := by
  unfold Lib.itoa
  by_cases hn : n < 0
  · rw [if_pos hn]
    have hd := dec_digits n.natAbs
    have hp := parse_dec n.natAbs (by omega)
    unfold Lib.parseIntB Lib.parseUintB
    simp only []
    have e : (45 : UInt8).toNat = 45 := rfl
    rw [e, if_pos (show (45 : Nat) = 43 ∨ (45 : Nat) = 45 from Or.inr rfl), if_neg hd.2, hp]
    simp only []
    rw [if_neg (fun h => h.1 trivial), if_neg (by omega), if_pos trivial]
    congr 1
    omega
  · rw [if_neg hn]
    have hd := dec_digits n.toNat
    have hp := parse_dec n.toNat (by omega)
    generalize Lib.decDigits n.toNat = l at hd hp
    cases l with
    | nil => exact absurd rfl hd.2
    | cons c r =>
      have hc := hd.1 c List.mem_cons_self
      unfold Lib.parseIntB Lib.parseUintB
      simp only []
      rw [if_neg (show ¬ (c.toNat = 43 ∨ c.toNat = 45) by omega), if_neg (by simp), hp]
      simp only []
      rw [if_neg (by omega), if_neg (by omega), if_neg (show ¬ c.toNat = 45 by omega)]
      congr 1
      omega
theorem itoa_no (n : Int) (c : UInt8) (h1 : c.toNat < 48) (h2 : c.toNat ≠ 45) : c ∉ Lib.itoa n := by
  unfold Lib.itoa
  intro hm
  split at hm
  · rcases List.mem_cons.1 hm with e | hm
    · subst e; exact h2 rfl
    · have := (dec_digits _).1 c hm; omega
  · have := (dec_digits _).1 c hm; omega
/-! ### a config's lines -/
def lineOf (ns : List Int) (i : Nat) : List UInt8 := namesL.getD i [] ++ 32 :: Lib.itoa (ns.getD i 0)
theorem names_facts : ∀ i : Fin 16, (10 : UInt8) ∉ namesL.getD i [] ∧ (32 : UInt8) ∉ namesL.getD i [] ∧ (namesL.getD i []).head? ≠ some 35 ∧ namesL.getD i [] ≠ [] ∧ Lib.idxOfS nameB ⟨(namesL.getD i []).toArray⟩ = (i.val : Int) := by decide +kernel
theorem line_no10 (ns : List Int) (i : Nat) (hi : i < 16) : (10 : UInt8) ∉ lineOf ns i := by
  unfold lineOf
  intro hm
  rcases List.mem_append.1 hm with hm | hm
  · exact (names_facts ⟨i, hi⟩).1 hm
  · rcases List.mem_cons.1 hm with hm | hm
    · exact absurd hm (by decide)
    · exact itoa_no _ 10 (by decide) (by decide) hm
theorem line_step (ns : List Int) (hn : ∀ v ∈ ns, -9223372036854775808 ≤ v ∧ v ≤ 9223372036854775807) (i : Nat) (hi : i < 16) (p : PS) :
    lineStep p (lineOf ns i) = if p.sn.getD i false = true then .error 2 else .ok ⟨p.vs.set i (ns.getD i 0), p.sn.set i true⟩ := by
  obtain ⟨f1, f2, f3, f4, f5⟩ := names_facts ⟨i, hi⟩
  simp only [] at f1 f2 f3 f4 f5
  have hb : -9223372036854775808 ≤ ns.getD i 0 ∧ ns.getD i 0 ≤ 9223372036854775807 := by
    rw [List.getD_eq_getElem?_getD]
    cases h : ns[i]? with
    | none => simp
    | some v => exact hn v (List.mem_of_getElem? h)
  have hc : cutL (lineOf ns i) = (namesL.getD i [], Lib.itoa (ns.getD i 0), true) := cut_at 32 _ _ f2
  have hI : toldI (lineOf ns i) = (i : Int) := by unfold toldI; rw [hc]; exact f5
  have hp := parse_itoa _ hb.1 hb.2
  have hD : toldD (Lib.itoa (ns.getD i 0)) = true := by unfold toldD; rw [hp]; simp
  have hN : toldN (Lib.itoa (ns.getD i 0)) = ns.getD i 0 := by unfold toldN; rw [hp]
  have hB : toldB (lineOf ns i) = true := by unfold toldB; rw [hI, hc, hD]; simp
  have h1 : lineOf ns i ≠ [] := by unfold lineOf; simp
  have h2 : (lineOf ns i).head? ≠ some 35 := by
    unfold lineOf
    cases hq : namesL.getD i [] with
    | nil => exact absurd hq f4
    | cons a l => rw [hq] at f3; exact f3
  unfold lineStep
  rw [if_pos ⟨h1, h2⟩, if_pos hB, hI, hc, hN]
  simp
def flat (ls : List (List UInt8)) : List UInt8 := ls.flatMap (· ++ [10])
def stepAll : PS → List (List UInt8) → Except Int PS
  | p, [] => .ok p
  | p, l :: ls => match lineStep p l with
    | .error e => .error e
    | .ok q => stepAll q ls
theorem lines_flat : ∀ (ls : List (List UInt8)) (k : Nat) (p : PS), (∀ l ∈ ls, (10 : UInt8) ∉ l) → (flat ls).length < k → linesGo k p (flat ls) = stepAll p ls
  | _, 0, _, _, h => absurd h (Nat.not_lt_zero _)
  | [], k + 1, p, _, _ => by
    unfold linesGo flat stepAll
    rfl
  | l :: ls, k + 1, p, h, hk => by
    have e : flat (l :: ls) = l ++ 10 :: flat ls := by unfold flat; rw [List.flatMap_cons, List.append_assoc]; rfl
    rw [e] at hk ⊢
    unfold linesGo stepAll
    rw [cut_at 10 l (flat ls) (h l List.mem_cons_self)]
    simp only []
    cases lineStep p l with
    | error e => rfl
    | ok q =>
      simp only [if_pos]
      refine lines_flat ls k q (fun x hx => h x (List.mem_cons_of_mem _ hx)) ?_
      rw [List.length_append, List.length_cons] at hk
      omega
theorem steps_seen (ns : List Int) (hn : ∀ v ∈ ns, -9223372036854775808 ≤ v ∧ v ≤ 9223372036854775807) : ∀ (is : List Nat) (p : PS), p.sn.length = 16 → (∀ i ∈ is, i < 16) → (∃ i ∈ is, p.sn.getD i false = true) → stepAll p (is.map (lineOf ns)) = .error 2
  | [], p, _, _, h => by obtain ⟨i, hi, _⟩ := h; cases hi
  | i :: is, p, hl, h16, h => by
    rw [List.map_cons]
    unfold stepAll
    rw [line_step ns hn i (h16 i List.mem_cons_self) p]
    by_cases hs : p.sn.getD i false = true
    · rw [if_pos hs]
    · rw [if_neg hs]
      simp only []
      refine steps_seen ns hn is _ (by simp [hl]) (fun j hj => h16 j (List.mem_cons_of_mem _ hj)) ?_
      obtain ⟨j, hj, hjs⟩ := h
      rcases List.mem_cons.1 hj with rfl | hj
      · exact absurd hjs hs
      · refine ⟨j, hj, ?_⟩
        rw [List.getD_eq_getElem?_getD] at hjs ⊢
        rw [List.getElem?_set]
        split
        · rename_i e; subst e; exact absurd hjs (by rw [← List.getD_eq_getElem?_getD]; exact hs)
        · exact hjs
theorem steps_dup (ns : List Int) (hn : ∀ v ∈ ns, -9223372036854775808 ≤ v ∧ v ≤ 9223372036854775807) : ∀ (is : List Nat) (p : PS), p.sn.length = 16 → (∀ i ∈ is, i < 16) → ¬ is.Nodup → stepAll p (is.map (lineOf ns)) = .error 2
  | [], p, _, _, h => absurd List.nodup_nil h
  | i :: is, p, hl, h16, h => by
    rw [List.map_cons]
    unfold stepAll
    have hi := h16 i List.mem_cons_self
    rw [line_step ns hn i hi p]
    by_cases hs : p.sn.getD i false = true
    · rw [if_pos hs]
    · rw [if_neg hs]
      simp only []
      by_cases hm : i ∈ is
      · refine steps_seen ns hn is _ (by simp [hl]) (fun j hj => h16 j (List.mem_cons_of_mem _ hj)) ⟨i, hm, ?_⟩
        rw [List.getD_eq_getElem?_getD, List.getElem?_set_self (by omega)]
        rfl
      · exact steps_dup ns hn is _ (by simp [hl]) (fun j hj => h16 j (List.mem_cons_of_mem _ hj)) (fun hd => h (List.nodup_cons.2 ⟨hm, hd⟩))
theorem steps_nodup (ns : List Int) (hn : ∀ v ∈ ns, -9223372036854775808 ≤ v ∧ v ≤ 9223372036854775807) : ∀ (is : List Nat) (p : PS), p.sn.length = 16 → p.vs.length = 16 → (∀ i ∈ is, i < 16 ∧ p.sn.getD i false = false) → is.Nodup → ∃ q, stepAll p (is.map (lineOf ns)) = .ok q ∧ q.vs.length = 16 ∧ ∀ j, j < 16 → q.vs.getD j 0 = if j ∈ is then ns.getD j 0 else p.vs.getD j 0
  | [], p, _, hv, _, _ => ⟨p, rfl, hv, fun j _ => by simp⟩
  | i :: is, p, hl, hv, h16, hd => by
    obtain ⟨hm, hd⟩ := List.nodup_cons.1 hd
    obtain ⟨hi, hs⟩ := h16 i List.mem_cons_self
    rw [List.map_cons]
    unfold stepAll
    rw [line_step ns hn i hi p, if_neg (by rw [hs]; decide)]
    simp only []
    obtain ⟨q, hq, hqv, hqj⟩ := steps_nodup ns hn is ⟨p.vs.set i (ns.getD i 0), p.sn.set i true⟩ (by simp [hl]) (by simp [hv]) (fun j hj => by
      obtain ⟨a, b⟩ := h16 j (List.mem_cons_of_mem _ hj)
      refine ⟨a, ?_⟩
      have hne : i ≠ j := fun e => hm (e ▸ hj)
      rw [List.getD_eq_getElem?_getD] at b ⊢
      rw [List.getElem?_set_ne hne]
      exact b) hd
    refine ⟨q, hq, hqv, fun j hj => ?_⟩
    rw [hqj j hj]
    by_cases hji : j ∈ is
    · rw [if_pos hji, if_pos (List.mem_cons_of_mem _ hji)]
    · rw [if_neg hji]
      by_cases e : j = i
      · subst e
        rw [if_pos List.mem_cons_self]
        show (p.vs.set j (ns.getD j 0)).getD j 0 = _
        rw [List.getD_eq_getElem?_getD, List.getElem?_set_self (by omega)]
        rfl
      · rw [if_neg (fun h => by rcases List.mem_cons.1 h with h | h; exact e h; exact hji h)]
        show (p.vs.set i (ns.getD i 0)).getD j 0 = _
        rw [List.getD_eq_getElem?_getD, List.getElem?_set_ne (fun h => e h.symm), ← List.getD_eq_getElem?_getD]
/-- All sixteen lines, each once, in whatever order. -/
theorem steps_all (ns : List Int) (hl : ns.length = 16) (hn : ∀ v ∈ ns, -9223372036854775808 ≤ v ∧ v ≤ 9223372036854775807) (is : List Nat) (hp : is.Perm (List.range 16)) : ∃ q, stepAll told0 (is.map (lineOf ns)) = .ok q ∧ q.vs = ns := by
  have hmem : ∀ j, j ∈ is ↔ j < 16 := fun j => by rw [hp.mem_iff, List.mem_range]
  obtain ⟨q, hq, hqv, hqj⟩ := steps_nodup ns hn is told0 (by decide) (by decide) (fun i hi => ⟨(hmem i).1 hi, by
    have := (hmem i).1 hi
    have h : ∀ i : Fin 16, told0.sn.getD i false = false := by decide
    exact h ⟨i, this⟩⟩) (hp.nodup_iff.2 List.nodup_range)
  refine ⟨q, hq, List.ext_getElem (by omega) fun j h1 h2 => ?_⟩
  have := hqj j (by omega)
  rw [if_pos ((hmem j).2 (by omega)), List.getD_eq_getElem?_getD, List.getD_eq_getElem?_getD, List.getElem?_eq_getElem h1, List.getElem?_eq_getElem h2] at this
  exact this
theorem line_len (ns : List Int) (hn : ∀ v ∈ ns, -9223372036854775808 ≤ v ∧ v ≤ 9223372036854775807) (i : Nat) (hi : i < 16) : (lineOf ns i).length ≤ 40 := by
  have h : ∀ i : Fin 16, (namesL.getD i []).length ≤ 18 := by decide +kernel
  have h1 := h ⟨i, hi⟩
  simp only [] at h1
  have hb : -9223372036854775808 ≤ ns.getD i 0 ∧ ns.getD i 0 ≤ 9223372036854775807 := by
    rw [List.getD_eq_getElem?_getD]
    cases h : ns[i]? with
    | none => simp
    | some v => exact hn v (List.mem_of_getElem? h)
  have h2 := Lib.itoa_length_le _ hb.1 hb.2
  unfold lineOf
  rw [List.length_append, List.length_cons]
  omega
theorem flat_len : ∀ (ls : List (List UInt8)), (∀ l ∈ ls, l.length ≤ 40) → (flat ls).length ≤ 41 * ls.length
  | [], _ => by simp [flat]
  | l :: ls, h => by
    have e : flat (l :: ls) = l ++ 10 :: flat ls := by unfold flat; rw [List.flatMap_cons, List.append_assoc]; rfl
    have h1 := h l List.mem_cons_self
    have h2 := flat_len ls (fun x hx => h x (List.mem_cons_of_mem _ hx))
    rw [e, List.length_append, List.length_cons, List.length_cons]
    omega
def confText (ns : List Int) : List UInt8 := flat ((List.range 16).map (lineOf ns))
theorem parse_text (ns : List Int) (hl : ns.length = 16) (hn : ∀ v ∈ ns, -9223372036854775808 ≤ v ∧ v ≤ 9223372036854775807) : parseR (confText ns) = if validB ns = true then (ns, 0) else (zero16, 1) := by
  have hlen : (confText ns).length ≤ 41 * 16 := by
    have := flat_len ((List.range 16).map (lineOf ns)) (fun l hl => by
      obtain ⟨i, hi, rfl⟩ := List.mem_map.1 hl
      exact line_len ns hn i (List.mem_range.1 hi))
    simpa [confText] using this
  unfold parseR
  rw [if_neg (by omega)]
  have := lines_flat ((List.range 16).map (lineOf ns)) ((confText ns).length + 1) told0 (fun l hl => by
    obtain ⟨i, hi, rfl⟩ := List.mem_map.1 hl
    exact line_no10 ns i (List.mem_range.1 hi)) (by show (confText ns).length < _; omega)
  obtain ⟨q, hq, hqv⟩ := steps_all ns hl hn (List.range 16) (List.Perm.refl _)
  rw [hq] at this
  show endR (linesGo _ told0 (flat _)) = _
  rw [this]
  unfold endR
  simp only [hqv]
end Go.Proofs.YteaihgjjplgalaaDoor
