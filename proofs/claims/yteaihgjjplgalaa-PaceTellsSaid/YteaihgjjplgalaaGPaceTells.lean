/- What the functions of package pace that hand on a part of a row do, and the sums and products of layer 2: contracts, in the form in which the printed functions ask for them. -/
import Derived.Test.YteaihgjjplgalaaPPaceTellsx0
import Derived.Test.YteaihgjjplgalaaWide
import Derived.Test.YteaihgjjplgalaaNum4
namespace Go.Proofs.Yteaihgjjplgalaa.PPaceTells
open Go.RowKit Go.Proofs.YteaihgjjplgalaaW.PrintWords Go.Proofs.YteaihgjjplgalaaW.PrintLast Go.Proofs.YteaihgjjplgalaaW.PrintMore
attribute [local go_sem] max2_int min2_int max_two min_two max_three min_three max_four min_four
set_option linter.unusedVariables false
set_option linter.unusedSimpArgs false

theorem Below.ofUpd {w w' : World} (h : Upd (fun _ => False) w w') : Below w.heap.size w w' := h.below (fun _ _ h => h)

/-- The end of a call's window. -/
def endW (e : Int) (n : Nat) : Int := if 0 ≤ e then min e ((n : Int) - 1) + 1 else n
def pickW {α : Type} (b e : Int) (l : List α) : List α :=
  if b < 0 ∨ (l.length : Int) ≤ b then [] else (l.take (endW e l.length).toNat).drop (min (b + 1) (endW e l.length)).toNat
theorem endW_bounds {e : Int} {n : Nat} (h : 0 < n) : 0 ≤ endW e n ∧ endW e n ≤ n := by unfold endW; split <;> omega

theorem win_part {A0 : Option Addr} {c : Nat} {l0 : List S145} {w : World} (hr0 : Kd.C k145 w A0 l0.length l0) (hc0 : l0.length ≤ c) (b e : Int) (lo hi : Nat) (hb : 0 ≤ b ∧ b < l0.length) (hlo : (lo : Int) = min (b + 1) (endW e l0.length)) (hhi : (hi : Int) = endW e l0.length) (hle : lo ≤ hi) :
    (pickW b e l0).length = hi - lo ∧ ∀ w', Below w.heap.size w w' → Kd.C k145 w' (if c = lo then A0 else A0.map (·.add (lo * 7))) (hi - lo) (pickW b e l0) := by
  have h0 := endW_bounds (e := e) (n := l0.length) (by omega)
  have hp : pickW b e l0 = (l0.take hi).drop lo := by
    unfold pickW
    rw [if_neg (by omega), ← hlo, ← hhi]; simp
  have hl : (pickW b e l0).length = hi - lo := by rw [hp, List.length_drop, List.length_take]; omega
  refine ⟨hl, fun w' hw => ?_⟩
  have := Kd.C_mid (c := c) hr0 hle (by omega) hc0
  rw [← hp, hl] at this
  exact Kd.C_below this hw

set_option maxRecDepth 100000 in
set_option maxHeartbeats 1000000 in
theorem window_any (A0 : Option Addr) (c0 : Nat) (l0 : List S145) (t k0 k1 k2 k3 b e f g p r0 r1 r2 r3 r4 : Int) (w : World) (hr0 : Kd.C k145 w A0 l0.length l0) (hc0 : l0.length ≤ c0) (hb : I64 b) (he : I64 e) :
    Calls Try.prog 64 #[.slice A0 l0.length c0, .agg #[.int .i64 t, .int .u8 k0, .int .i64 k1, .int .i64 k2, .int .i64 k3, .int .i64 b, .int .i64 e, .int .i64 f, .int .i64 g, .int .i64 p, .int .u8 r0, .int .u64 r1, .int .i64 r2, .int .i64 r3, .int .i64 r4]] w fun e' w' =>
      ∃ A c, e' = .returned (.slice A (pickW b e l0).length c) ∧ (pickW b e l0).length ≤ c ∧ Kd.C k145 w A (pickW b e l0).length (pickW b e l0) ∧ Below w.heap.size w w' := by
  unfold I64 at hb he
  have hm := Kd.C_max hr0
  have HR := Aside0.mk hr0
  have HC := Aside0.mk hc0
  clear hr0
  by_cases h1 : b < 0
  · have d1 : decide (b < 0) = true := decide_eq_true h1
    have HP := Lib.hid (show pickW b e l0 = [] by unfold pickW; rw [if_pos (.inl h1)])
    go_enter Try.func64, Try.ntmps64
    go_wp2
    go_ret
    rw [HP.out]
    exact ⟨none, 0, rfl, Nat.le_refl _, Kd.C_nil _ _, (Below.refl _ _).alloc (Nat.le_refl _) _⟩
  · by_cases h2 : (l0.length : Int) ≤ b
    · have d1 : decide (b < 0) = false := decide_eq_false h1
      have d2 : decide ((l0.length : Int) ≤ b) = true := decide_eq_true h2
      have HP := Lib.hid (show pickW b e l0 = [] by unfold pickW; rw [if_pos (.inr h2)])
      go_enter Try.func64, Try.ntmps64
      go_wp2
      go_ret
      rw [HP.out]
      exact ⟨none, 0, rfl, Nat.le_refl _, Kd.C_nil _ _, (Below.refl _ _).alloc (Nat.le_refl _) _⟩
    · have d1 : decide (b < 0) = false := decide_eq_false h1
      have d2 : decide ((l0.length : Int) ≤ b) = false := decide_eq_false h2
      by_cases h3 : 0 ≤ e
      · have d3 : decide (0 ≤ e) = true := decide_eq_true h3
        by_cases h4 : (l0.length : Int) - 1 < e
        · by_cases h6 : c0 = (b + 1).toNat
          · have HP := Lib.hid (win_part (c := c0) HR.out HC.out b e (b + 1).toNat l0.length (by omega) (by unfold endW; omega) (by unfold endW; omega) (by omega))
            go_enter Try.func64, Try.ntmps64
            go_wp2
            go_ret
            rw [HP.out.1]
            exact ⟨_, _, rfl, by omega, by have z := HP.out.2 _ (Below.refl _ _); rw [if_pos h6] at z; exact z, (Below.refl _ _).alloc (Nat.le_refl _) _⟩
          · have HP := Lib.hid (win_part (c := c0) HR.out HC.out b e (b + 1).toNat l0.length (by omega) (by unfold endW; omega) (by unfold endW; omega) (by omega))
            go_enter Try.func64, Try.ntmps64
            go_wp2
            go_ret
            rw [HP.out.1]
            exact ⟨_, _, rfl, by omega, by have z := HP.out.2 _ (Below.refl _ _); rw [if_neg h6] at z; exact z, (Below.refl _ _).alloc (Nat.le_refl _) _⟩
        · by_cases h5 : e < b
          · by_cases h6 : c0 = (e + 1).toNat
            · omega
            · have HP := Lib.hid (win_part (c := c0) HR.out HC.out b e (e + 1).toNat (e + 1).toNat (by omega) (by unfold endW; omega) (by unfold endW; omega) (by omega))
              go_enter Try.func64, Try.ntmps64
              go_wp2
              go_ret
              rw [HP.out.1, Nat.sub_self]
              exact ⟨_, _, rfl, by omega, by have z := HP.out.2 _ (Below.refl _ _); rw [if_neg h6, Nat.sub_self] at z; exact z, (Below.refl _ _).alloc (Nat.le_refl _) _⟩
          · by_cases h6 : c0 = (b + 1).toNat
            · have HP := Lib.hid (win_part (c := c0) HR.out HC.out b e (b + 1).toNat (e + 1).toNat (by omega) (by unfold endW; omega) (by unfold endW; omega) (by omega))
              go_enter Try.func64, Try.ntmps64
              go_wp2
              go_ret
              rw [HP.out.1]
              exact ⟨_, _, rfl, by omega, by have z := HP.out.2 _ (Below.refl _ _); rw [if_pos h6] at z; exact z, (Below.refl _ _).alloc (Nat.le_refl _) _⟩
            · have HP := Lib.hid (win_part (c := c0) HR.out HC.out b e (b + 1).toNat (e + 1).toNat (by omega) (by unfold endW; omega) (by unfold endW; omega) (by omega))
              go_enter Try.func64, Try.ntmps64
              go_wp2
              go_ret
              rw [HP.out.1]
              exact ⟨_, _, rfl, by omega, by have z := HP.out.2 _ (Below.refl _ _); rw [if_neg h6] at z; exact z, (Below.refl _ _).alloc (Nat.le_refl _) _⟩
      · have d3 : decide (0 ≤ e) = false := decide_eq_false h3
        by_cases h6 : c0 = (b + 1).toNat
        · have HP := Lib.hid (win_part (c := c0) HR.out HC.out b e (b + 1).toNat l0.length (by omega) (by unfold endW; omega) (by unfold endW; omega) (by omega))
          go_enter Try.func64, Try.ntmps64
          go_wp2
          go_ret
          rw [HP.out.1]
          exact ⟨_, _, rfl, by omega, by have z := HP.out.2 _ (Below.refl _ _); rw [if_pos h6] at z; exact z, (Below.refl _ _).alloc (Nat.le_refl _) _⟩
        · have HP := Lib.hid (win_part (c := c0) HR.out HC.out b e (b + 1).toNat l0.length (by omega) (by unfold endW; omega) (by unfold endW; omega) (by omega))
          go_enter Try.func64, Try.ntmps64
          go_wp2
          go_ret
          rw [HP.out.1]
          exact ⟨_, _, rfl, by omega, by have z := HP.out.2 _ (Below.refl _ _); rw [if_neg h6] at z; exact z, (Below.refl _ _).alloc (Nat.le_refl _) _⟩

/-! ### Waits -/
def waitsStep (t : Int) (s : List Int × Int) (x : S145) : List Int × Int := if x.f0 = 0 then (if x.f1 = t then (s.1 ++ [s.2], 0) else (s.1, s.2 + 1)) else s
def waitsV (t b e : Int) (l : List S145) : List Int :=
  if b < 0 ∨ (l.length : Int) ≤ b then [] else
    let s := (pickW b e l).foldl (waitsStep t) ([], 0)
    if e < 0 then s.1 ++ [s.2] else s.1
theorem pickW_length {α : Type} (b e : Int) (l : List α) : (pickW b e l).length ≤ l.length := by
  unfold pickW; split
  · simp
  · rw [List.length_drop, List.length_take]; omega
theorem waits_bounds (t : Int) (l : List S145) : ∀ k, 0 ≤ ((l.take k).foldl (waitsStep t) ([], 0)).2 ∧ ((l.take k).foldl (waitsStep t) ([], 0)).2 ≤ k ∧ ((l.take k).foldl (waitsStep t) ([], 0)).1.length ≤ k := by
  intro k
  induction k with
  | zero => simp
  | succ k ih =>
    rcases Nat.lt_or_ge k l.length with h | h
    · rw [List.take_succ_eq_append_getElem h, List.foldl_append]
      simp only [List.foldl_cons, List.foldl_nil]
      generalize (l.take k).foldl (waitsStep t) ([], 0) = s at *
      unfold waitsStep
      split
      · split
        · simp; omega
        · simp; omega
      · omega
    · rw [List.take_of_length_le (by omega)]
      rw [List.take_of_length_le (by omega)] at ih
      omega
theorem waits_succ (t : Int) (l : List S145) (k : Nat) (h : k < l.length) : (l.take (k + 1)).foldl (waitsStep t) ([], 0) = waitsStep t ((l.take k).foldl (waitsStep t) ([], 0)) (rd_T145 l (k : Int)) := by
  rw [List.take_succ_eq_append_getElem h, List.foldl_append]
  simp [rd_T145, List.getD_eq_getElem?_getD, List.getElem?_eq_getElem h]

set_option maxRecDepth 100000 in
set_option maxHeartbeats 4000000 in
theorem waits_any (A0 : Option Addr) (c0 : Nat) (l0 : List S145) (t k0 k1 k2 k3 b e f g p r0 r1 r2 r3 r4 : Int) (w : World) (hr0 : Kd.C k145 w A0 l0.length l0) (hc0 : l0.length ≤ c0) (hb : I64 b) (he : I64 e) (hlen : l0.length ≤ 1000000) :
    Calls Try.prog 36 #[.slice A0 l0.length c0, .agg #[.int .i64 t, .int .u8 k0, .int .i64 k1, .int .i64 k2, .int .i64 k3, .int .i64 b, .int .i64 e, .int .i64 f, .int .i64 g, .int .i64 p, .int .u8 r0, .int .u64 r1, .int .i64 r2, .int .i64 r3, .int .i64 r4]] w fun e' w' =>
      ∃ v, e' = .returned v ∧ Kd.R (Kd.int .i64) 3 w' w.heap.size (fun _ => True) v (waitsV t b e l0) ∧ Below w.heap.size w w' := by
  have hm := Kd.C_max hr0
  have HR := Aside0.mk hr0
  have HC := Aside0.mk hc0
  clear hr0
  by_cases h1 : b < 0
  · have d1 : decide (b < 0) = true := decide_eq_true h1
    have HP := Lib.hid (show waitsV t b e l0 = [] by unfold waitsV; rw [if_pos (.inl h1)])
    go_enter Try.func36, Try.ntmps36
    go_wp2
    go_ret
    rw [HP.out]
    exact ⟨_, rfl, Kd.R_nil _ _ _ _ _, (Below.refl _ _).alloc (Nat.le_refl _) _⟩
  · by_cases h2 : (l0.length : Int) ≤ b
    · have d1 : decide (b < 0) = false := decide_eq_false h1
      have d2 : decide ((l0.length : Int) ≤ b) = true := decide_eq_true h2
      have HP := Lib.hid (show waitsV t b e l0 = [] by unfold waitsV; rw [if_pos (.inr h2)])
      go_enter Try.func36, Try.ntmps36
      go_wp2
      go_ret
      rw [HP.out]
      exact ⟨_, rfl, Kd.R_nil _ _ _ _ _, (Below.refl _ _).alloc (Nat.le_refl _) _⟩
    · have d1 : decide (b < 0) = false := decide_eq_false h1
      have d2 : decide ((l0.length : Int) ≤ b) = false := decide_eq_false h2
      have HP := Lib.hid (show waitsV t b e l0 = if e < 0 then ((pickW b e l0).foldl (waitsStep t) ([], 0)).1 ++ [((pickW b e l0).foldl (waitsStep t) ([], 0)).2] else ((pickW b e l0).foldl (waitsStep t) ([], 0)).1 by unfold waitsV; rw [if_neg (by omega)])
      have hpl := pickW_length b e l0
      have HW := Lib.hid (fun wx hx => window_any A0 c0 l0 t k0 k1 k2 k3 b e f g p r0 r1 r2 r3 r4 wx hx hc0 hb he)
      generalize pickW b e l0 = X at *
      go_enter Try.func36, Try.ntmps36
      go_wp2_with fail
      have HR0 := Aside0.mk (Kd.C_alloc HR.out (.cells #[.int .i64 t, .int .u8 k0, .int .i64 k1, .int .i64 k2, .int .i64 k3, .int .i64 b, .int .i64 e, .int .i64 f, .int .i64 g, .int .i64 p, .int .u8 r0, .int .u64 r1, .int .i64 r2, .int .i64 r3, .int .i64 r4] 99))
      have HB0 := Aside0.mk ((Below.refl w.heap.size w).alloc (Nat.le_refl _) (.cells #[.int .i64 t, .int .u8 k0, .int .i64 k1, .int .i64 k2, .int .i64 k3, .int .i64 b, .int .i64 e, .int .i64 f, .int .i64 g, .int .i64 p, .int .u8 r0, .int .u64 r1, .int .i64 r2, .int .i64 r3, .int .i64 r4] 99))
      have BK0 := Aside0.mk (heap_alloc_new w (.cells #[.int .i64 t, .int .u8 k0, .int .i64 k1, .int .i64 k2, .int .i64 k3, .int .i64 b, .int .i64 e, .int .i64 f, .int .i64 g, .int .i64 p, .int .u8 r0, .int .u64 r1, .int .i64 r2, .int .i64 r3, .int .i64 r4] 99))
      have hs0 : w.heap.size + 1 = (w.alloc (.cells #[.int .i64 t, .int .u8 k0, .int .i64 k1, .int .i64 k2, .int .i64 k3, .int .i64 b, .int .i64 e, .int .i64 f, .int .i64 g, .int .i64 p, .int .u8 r0, .int .u64 r1, .int .i64 r2, .int .i64 r3, .int .i64 r4] 99)).heap.size := by simp
      generalize w.alloc (.cells #[.int .i64 t, .int .u8 k0, .int .i64 k1, .int .i64 k2, .int .i64 k3, .int .i64 b, .int .i64 e, .int .i64 f, .int .i64 g, .int .i64 p, .int .u8 r0, .int .u64 r1, .int .i64 r2, .int .i64 r3, .int .i64 r4] 99) = W0 at *
      have HSZ := Lib.hid hs0
      clear hs0
      refine (HW.out _ HR0.out).mono ?_
      rintro e1 w1 ⟨A, c, rfl, hc1, hX, hb1⟩
      have BK := Aside0.mk ((hb1.block w.heap.size (by rw [← HSZ.out]; omega)).trans BK0.out)
      have HB := Aside0.mk hb1
      have HX := Aside0.mk hX
      have HC1 := Aside0.mk hc1
      clear hX hc1 hb1 HW
      generalize hG : w.heap.size = G at *
      have HG := Lib.hid hG
      clear hG
      go_wp2_with fail
      go_loopw [5, 6, 23] (fun o n i wr => ∃ k : Nat, k ≤ X.length ∧ i = .int .i64 k ∧ n = .int .i64 ((X.take k).foldl (waitsStep t) ([], 0)).2 ∧ Aside0 (Kd.R (Kd.int .i64) 3 wr W0.heap.size (fun _ => True) o ((X.take k).foldl (waitsStep t) ([], 0)).1) ∧ Aside0 (wr.heap[G]? = some (.cells #[.int .i64 t, .int .u8 k0, .int .i64 k1, .int .i64 k2, .int .i64 k3, .int .i64 b, .int .i64 e, .int .i64 f, .int .i64 g, .int .i64 p, .int .u8 r0, .int .u64 r1, .int .i64 r2, .int .i64 r3, .int .i64 r4] 99)) ∧ Aside0 (Below W0.heap.size W0 wr))
        (fun _ _ i _ => X.length - (intOf i).toNat)
      case atStart => exact ⟨0, Nat.zero_le _, rfl, rfl, ⟨Kd.R_nil _ _ _ _ _⟩, BK, HB⟩
      case round =>
        clear BK HB
        obtain ⟨k, hk, rfl, rfl, HO, BK, HB⟩ := hrel
        have hbd := waits_bounds t X k
        have hGlt : G < wr.heap.size := blk_lt BK.out
        have BKc := Aside0.mk (blk_cell BK.out 3)
        by_cases hlt : k < X.length
        · have HS := Lib.hid (waits_succ t X k hlt)
          generalize (X.take k).foldl (waitsStep t) ([], 0) = s at *
          have h0 : (0:Int) ≤ (k : Int) := by omega
          have h1' : (k : Int) < X.length := by omega
          have HXr := Kd.C_below HX.out HB.out
          have hWr : W0.heap.size ≤ wr.heap.size := HB.out.size
          obtain ⟨ad, rfl, x0, x1, x2, x3, x4, x5, x6⟩ := at_T145 HXr (k : Int) h0 h1'
          clear HXr
          generalize rd_T145 X (k : Int) = x at *
          simp only [Int.toNat_natCast] at x0 x1 x2 x3 x4 x5 x6
          have hc0' : wr.cell? ⟨G, 0, none⟩ = some (.int .i64 t) := (blk_cell BK.out 0).trans rfl
          have Lk := Lib.hid hlt
          by_cases p0 : x.f0 = 0
          · have e0 : (x.f0 != 0) = false := by simpa using p0
            by_cases p1 : x.f1 = t
            · have e1 : (x.f1 != t) = false := by simpa using p1
              have HV := Lib.hid (show waitsStep t s x = (s.1 ++ [s.2], 0) by unfold waitsStep; rw [if_pos p0, if_pos p1])
              clear p0 p1
              go_wp2_with (at_builtin; refine Kd.R_append (Kd.int .i64) (w0 := W0) W0.heap.size rfl (.tmp 27) (.tmp 29) 91 3 (.int .i64 0) 8 rfl Try.underlying91 info3 rfl (by decide) (by omega) u5 s.1 s.2 [.int .i64 s.2] (fun _ => True) (fun _ => False) rfl ?aX ?aP (fun _ hk => hk.elim) ?aF ?aO ?aB ?aS ?aL ?_; (case aX => (show Value.slice (some ⟨wr.heap.size + 1, 0, none⟩) 1 1 = _; simp)); (case aP => exact rfl); (case aF => exact fun _ _ => trivial); (case aO => exact Kd.R_alloc HO.out _); (case aB => exact HB.out.alloc hWr _); (case aS => first | omega | (simp; omega)); (case aL => have := hbd.2.2; omega); intro v1 w2 ho hb2 hg hat; have HO9 := Aside0.mk ho; have HB9 := Aside0.mk hb2; have BK9 := Aside0.mk (blk_grown (blk_alloc BK.out _) hg (Kd.R_ne HO.out BK.out (by decide))); clear ho hb2 hg hat)
              go_roundw
              case rel => exact ⟨k + 1, by have := Lk.out; omega, by go_num, by rw [HS.out, HV.out], ⟨by rw [HS.out, HV.out]; exact HO9.out⟩, BK9, HB9⟩
              case measure => have := Lk.out; simp [intOf]; omega
            · have e1 : (x.f1 != t) = true := by simpa using p1
              have HV := Lib.hid (show waitsStep t s x = (s.1, s.2 + 1) by unfold waitsStep; rw [if_pos p0, if_neg p1])
              clear p0 p1
              go_wp2_with fail
              go_roundw
              case rel => exact ⟨k + 1, by have := Lk.out; omega, by go_num, by rw [HS.out, HV.out], ⟨by rw [HS.out, HV.out]; exact Kd.R_alloc HO.out _⟩, ⟨blk_alloc BK.out _⟩, ⟨HB.out.alloc hWr _⟩⟩
              case measure => have := Lk.out; simp [intOf]; omega
          · have e0 : (x.f0 != 0) = true := by simpa using p0
            have HV := Lib.hid (show waitsStep t s x = s by unfold waitsStep; rw [if_neg p0])
            clear p0
            go_wp2_with fail
            go_roundw
            case rel => exact ⟨k + 1, by have := Lk.out; omega, by go_num, by rw [HS.out, HV.out], ⟨by rw [HS.out, HV.out]; exact Kd.R_alloc HO.out _⟩, ⟨blk_alloc BK.out _⟩, ⟨HB.out.alloc hWr _⟩⟩
            case measure => have := Lk.out; simp [intOf]; omega
        · obtain rfl : k = X.length := by omega
          rw [List.take_length] at HO hbd ⊢
          have hc3' : wr.cell? ⟨G, 6, none⟩ = some (.int .i64 e) := (blk_cell BK.out 6).trans rfl
          generalize X.foldl (waitsStep t) ([], 0) = s at *
          have hWr : W0.heap.size ≤ wr.heap.size := HB.out.size
          have HG' := HG.out
          subst HG'
          by_cases h3 : e < 0
          · have d3 : decide (e < 0) = true := decide_eq_true h3
            rw [if_pos h3] at HP
            go_wp2_with (at_builtin; refine Kd.R_append (Kd.int .i64) (w0 := W0) W0.heap.size rfl (.tmp 47) (.tmp 49) 91 3 (.int .i64 0) 8 rfl Try.underlying91 info3 rfl (by decide) (by omega) u5 s.1 s.2 [.int .i64 s.2] (fun _ => True) (fun _ => False) rfl ?aX ?aP (fun _ hk => hk.elim) ?aF ?aO ?aB ?aS ?aL ?_; (case aX => rfl); (case aP => exact rfl); (case aF => exact fun _ _ => trivial); (case aO => exact HO.out); (case aB => exact HB.out); (case aS => first | omega | (simp; omega)); (case aL => have := hbd.2.2; omega); intro v1 w2 ho hb2 hg hat; have HO9 := Aside0.mk ho; have HB9 := Aside0.mk hb2; clear ho hb2 hg hat)
            go_ret
            exact ⟨_, rfl, by rw [HP.out]; exact Kd.R_lower HO9.out HB0.out.size, HB0.out.trans (HB9.out.mono HB0.out.size)⟩
          · have d3 : decide (e < 0) = false := decide_eq_false h3
            rw [if_neg h3] at HP
            go_wp2_with fail
            go_ret
            exact ⟨_, rfl, by rw [HP.out]; exact Kd.R_lower HO.out HB0.out.size, HB0.out.trans (HB.out.mono HB0.out.size)⟩

/-! ### Longest -/
def picks (l : List S145) : Int := (l.filter fun x => x.f0 == 0).length
def longestV (l : List S145) (cs : List S99) : Int := cs.foldl (fun m c => max m (picks (pickW c.f2 c.f3 l))) 0
theorem picks_bound (l : List S145) : 0 ≤ picks l ∧ picks l ≤ l.length := by
  unfold picks
  have := List.length_filter_le (fun x : S145 => x.f0 == 0) l
  omega
theorem picks_succ (l : List S145) (k : Nat) (h : k < l.length) : picks (l.take (k + 1)) = picks (l.take k) + if (rd_T145 l (k : Int)).f0 = 0 then 1 else 0 := by
  unfold picks
  rw [List.take_succ_eq_append_getElem h, List.filter_append]
  simp [rd_T145, List.getD_eq_getElem?_getD, List.getElem?_eq_getElem h, List.filter_cons]
  split <;> simp_all
theorem longest_bound (l : List S145) (cs : List S99) : 0 ≤ longestV l cs ∧ longestV l cs ≤ l.length := by
  unfold longestV
  have key : ∀ (cs : List S99) (m : Int), 0 ≤ m ∧ m ≤ l.length → 0 ≤ cs.foldl (fun m c => max m (picks (pickW c.f2 c.f3 l))) m ∧ cs.foldl (fun m c => max m (picks (pickW c.f2 c.f3 l))) m ≤ l.length := by
    intro cs
    induction cs with
    | nil => intro m h; exact h
    | cons c cs ih =>
      intro m h
      have h1 := picks_bound (pickW c.f2 c.f3 l)
      have h2 := pickW_length c.f2 c.f3 l
      simp only [List.foldl_cons]
      exact ih _ (by omega)
  exact key cs 0 (by omega)
theorem longest_succ (l : List S145) (cs : List S99) (k : Nat) (h : k < cs.length) : longestV l (cs.take (k + 1)) = max (longestV l (cs.take k)) (picks (pickW (rd_T99 cs (k : Int)).f2 (rd_T99 cs (k : Int)).f3 l)) := by
  unfold longestV
  rw [List.take_succ_eq_append_getElem h, List.foldl_append]
  simp [rd_T99, List.getD_eq_getElem?_getD, List.getElem?_eq_getElem h]

set_option maxRecDepth 100000 in
set_option maxHeartbeats 4000000 in
theorem longest_any (A0 : Option Addr) (c0 : Nat) (l0 : List S145) (A1 : Option Addr) (c1 : Nat) (l1 : List S99) (v2 v3 : Value) (w : World) (hr0 : Kd.C k145 w A0 l0.length l0) (hc0 : l0.length ≤ c0)
    (hr1 : Kd.C k99 w A1 l1.length l1) (hlen : l0.length ≤ 1000000) (hI : ∀ c ∈ l1, I64 c.f2 ∧ I64 c.f3) (A2 A3 : Option Addr) (n2 c2 n3 c3 : Nat) (hv2 : v2 = .slice A2 n2 c2) (hv3 : v3 = .slice A3 n3 c3) :
    Calls Try.prog 40 #[.slice A0 l0.length c0, .agg #[.slice A1 l1.length c1, v2, v3]] w fun e' w' =>
      e' = .returned (.int .i64 (longestV l0 l1)) ∧ Below w.heap.size w w' := by
  subst hv2 hv3
  have hm := Kd.C_max hr0
  have hm1 := Kd.C_max hr1
  have HR := Aside0.mk hr0
  have HR1 := Aside0.mk hr1
  have HC := Aside0.mk hc0
  have HI := Aside0.mk hI
  clear hr0 hr1 hc0 hI
  go_enter Try.func40, Try.ntmps40
  go_wp2_with fail
  have HB0 := Aside0.mk ((Below.refl w.heap.size w).alloc (Nat.le_refl _) (.cells #[.slice A1 l1.length c1, .slice A2 n2 c2, .slice A3 n3 c3] 93))
  generalize w.alloc (.cells #[.slice A1 l1.length c1, .slice A2 n2 c2, .slice A3 n3 c3] 93) = W0 at *
  generalize hG : w.heap.size = G at *
  have HG := Lib.hid hG
  clear hG
  go_loopw [5, 14] (fun m i wr => ∃ k : Nat, k ≤ l1.length ∧ i = .int .i64 k ∧ m = .int .i64 (longestV l0 (l1.take k)) ∧ Aside0 (Below G w wr))
    (fun _ i _ => l1.length - (intOf i).toNat)
  case atStart => exact ⟨0, Nat.zero_le _, rfl, rfl, HB0⟩
  case round =>
    clear HB0
    obtain ⟨k, hk, rfl, rfl, HB⟩ := hrel
    have hbd := longest_bound l0 (l1.take k)
    by_cases hlt : k < l1.length
    · have HS := Lib.hid (longest_succ l0 l1 k hlt)
      generalize longestV l0 (l1.take k) = M at *
      have h0 : (0:Int) ≤ (k : Int) := by omega
      have h1' : (k : Int) < l1.length := by omega
      have hmem : rd_T99 l1 (k : Int) ∈ l1 := by simp [rd_T99, List.getD_eq_getElem?_getD, List.getElem?_eq_getElem hlt]
      have hIc := HI.out _ hmem
      obtain ⟨ad, rfl, x0, x1, x2, x3, x4, x5, x6, x7, x8, x9, x10, x11, x12, x13, x14⟩ := at_T99 (Kd.C_below HR1.out (by rw [HG.out]; exact HB.out)) (k : Int) h0 h1'
      clear hmem
      generalize rd_T99 l1 (k : Int) = C at *
      simp only [Int.toNat_natCast] at x0 x1 x2 x3 x4 x5 x6 x7 x8 x9 x10 x11 x12 x13 x14
      have Lk := Lib.hid hlt
      have HRr := Aside0.mk (Kd.C_alloc (Kd.C_below HR.out (by rw [HG.out]; exact HB.out)) (.cells #[.int .i64 C.f0, .int .u8 C.f1.f0, .int .i64 C.f1.f1, .int .i64 C.f1.f2, .int .i64 C.f1.f3, .int .i64 C.f2, .int .i64 C.f3, .int .i64 C.f4, .int .i64 C.f5, .int .i64 C.f6, .int .u8 C.f7.f0, .int .u64 C.f7.f1, .int .i64 C.f7.f2, .int .i64 C.f7.f3, .int .i64 C.f7.f4] 99))
      have HBr := Aside0.mk (HB.out.alloc (by have := HB.out.size; rw [HG.out] at this; exact this) (.cells #[.int .i64 C.f0, .int .u8 C.f1.f0, .int .i64 C.f1.f1, .int .i64 C.f1.f2, .int .i64 C.f1.f3, .int .i64 C.f2, .int .i64 C.f3, .int .i64 C.f4, .int .i64 C.f5, .int .i64 C.f6, .int .u8 C.f7.f0, .int .u64 C.f7.f1, .int .i64 C.f7.f2, .int .i64 C.f7.f3, .int .i64 C.f7.f4] 99))
      go_wp2_with fail
      clear x0 x1 x2 x3 x4 x5 x6 x7 x8 x9 x10 x11 x12 x13 x14 HB
      generalize wr.alloc (.cells #[.int .i64 C.f0, .int .u8 C.f1.f0, .int .i64 C.f1.f1, .int .i64 C.f1.f2, .int .i64 C.f1.f3, .int .i64 C.f2, .int .i64 C.f3, .int .i64 C.f4, .int .i64 C.f5, .int .i64 C.f6, .int .u8 C.f7.f0, .int .u64 C.f7.f1, .int .i64 C.f7.f2, .int .i64 C.f7.f3, .int .i64 C.f7.f4] 99) = W2 at *
      have hpl := pickW_length C.f2 C.f3 l0
      refine (window_any A0 c0 l0 _ _ _ _ _ C.f2 C.f3 _ _ _ _ _ _ _ _ W2 HRr.out HC.out hIc.1 hIc.2).mono ?_
      rintro e1 w1 ⟨A, c, rfl, hcX, hX, hb1⟩
      generalize pickW C.f2 C.f3 l0 = X at *
      have HX := Aside0.mk hX
      have HB1 := Aside0.mk hb1
      clear hcX hX hb1
      go_wp2_with fail
      obtain ⟨wo, rfl⟩ : ∃ wo : World, wo = w1 := ⟨_, rfl⟩
      go_loopw [8, 22] (fun n j wi => ∃ q : Nat, q ≤ X.length ∧ j = .int .i64 q ∧ n = .int .i64 (picks (X.take q)) ∧ Aside0 (Below W2.heap.size W2 wi))
        (fun _ j _ => X.length - (intOf j).toNat)
      case atStart => exact ⟨0, Nat.zero_le _, rfl, rfl, HB1⟩
      case round =>
        clear HB1
        obtain ⟨q, hq, rfl, rfl, HBi⟩ := hrel
        have hpb := picks_bound (X.take q)
        have hpq : ((X.take q).length : Int) ≤ q := by have := List.length_take_le q X; omega
        by_cases hlq : q < X.length
        · have HSq := Lib.hid (picks_succ X q hlq)
          generalize picks (X.take q) = N at *
          have g0 : (0:Int) ≤ (q : Int) := by omega
          have g1 : (q : Int) < X.length := by omega
          obtain ⟨ad, rfl, y0, y1, y2, y3, y4, y5, y6⟩ := at_T145 (Kd.C_below HX.out HBi.out) (q : Int) g0 g1
          generalize rd_T145 X (q : Int) = x at *
          simp only [Int.toNat_natCast] at y0 y1 y2 y3 y4 y5 y6
          have Lq := Lib.hid hlq
          have hWi : W2.heap.size ≤ wr.heap.size := HBi.out.size
          by_cases p0 : x.f0 = 0
          · have e0 : (x.f0 == 0) = true := by simpa using p0
            have HV := Lib.hid p0
            clear p0
            go_wp2_with fail
            go_roundw
            case rel => exact ⟨q + 1, by have := Lq.out; omega, by go_num, by rw [HSq.out, if_pos HV.out], ⟨HBi.out.alloc hWi _⟩⟩
            case measure => have := Lq.out; simp [intOf]; omega
          · have e0 : (x.f0 == 0) = false := by simpa using p0
            have HV := Lib.hid p0
            clear p0
            go_wp2_with fail
            go_roundw
            case rel => exact ⟨q + 1, by have := Lq.out; omega, by go_num, by rw [HSq.out, if_neg HV.out, Int.add_zero], ⟨HBi.out.alloc hWi _⟩⟩
            case measure => have := Lq.out; simp [intOf]; omega
        · obtain rfl : q = X.length := by omega
          rw [List.take_length] at hpb ⊢
          go_wp2_with fail
          all_goals
            go_roundw
            case rel => exact ⟨k + 1, by have := Lk.out; omega, by go_num, by rw [HS.out]; congr 1; omega, ⟨by have z := HBr.out.size; rw [HG.out] at z; exact HBr.out.trans (HBi.out.mono z)⟩⟩
            case measure => have := Lk.out; simp [intOf]; omega
    · obtain rfl : k = l1.length := by omega
      rw [List.take_length] at hbd ⊢
      go_wp2_with fail
      go_ret
      exact ⟨rfl, by rw [HG.out]; exact HB.out⟩

/-! ### slices.Max -/
def maxUp (l : List Int) (k : Nat) : Int := ((l.take k).tail).foldl max (rd l 0)
theorem maxUp_one (l : List Int) : maxUp l 1 = rd l 0 := by
  unfold maxUp
  cases l <;> simp
theorem maxUp_succ (l : List Int) (k : Nat) (h0 : 1 ≤ k) (h : k < l.length) : maxUp l (k + 1) = max (maxUp l k) (rd l (k : Int)) := by
  unfold maxUp
  rw [List.take_succ_eq_append_getElem h]
  have hne : l.take k ≠ [] := by
    intro e
    have := congrArg List.length e
    rw [List.length_take, List.length_nil] at this
    omega
  rw [List.tail_append_of_ne_nil hne, List.foldl_append]
  simp [rd, List.getD_eq_getElem?_getD, List.getElem?_eq_getElem h]
set_option maxRecDepth 100000 in
theorem max_any (A0 : Option Addr) (c0 : Nat) (l0 : List Int) (w : World) (hr0 : Kd.C (Kd.int .i64) w A0 l0.length l0) (hpos : 0 < l0.length) :
    Calls Try.prog 66 #[.slice A0 l0.length c0] w fun e w' => e = .returned (.int .i64 (maxUp l0 l0.length)) ∧ w = w' := by
  have hm := Kd.C_max hr0
  obtain ⟨ad, rfl, z0⟩ := Kd.at_int hr0 0 (by omega) (by omega)
  have HR := Aside0.mk hr0
  clear hr0
  have z0' : w.cell? ad = some (.int .i64 (rd l0 0)) := by simpa [Addr.add] using z0
  have d0 : decide (l0.length < 1) = false := decide_eq_false (by omega)
  go_enter Try.func66, Try.ntmps66
  go_wp2_with fail
  go_loop [3, 4] (fun m i => ∃ k : Nat, 1 ≤ k ∧ k ≤ l0.length ∧ i = .int .i64 k ∧ m = .int .i64 (maxUp l0 k)) (fun _ i => l0.length - (intOf i).toNat)
  case atStart => exact ⟨1, Nat.le_refl _, hpos, rfl, by rw [maxUp_one]⟩
  case round =>
    obtain ⟨k, hk1, hk, rfl, rfl⟩ := hrel
    by_cases hlt : k < l0.length
    · have HS := Lib.hid (maxUp_succ l0 k hk1 hlt)
      obtain ⟨ad', e', z⟩ := Kd.at_int HR.out (k : Int) (by omega) (by omega)
      cases e'
      generalize maxUp l0 k = M at *
      generalize rd l0 (k : Int) = x at *
      simp only [Int.toNat_natCast] at z
      have Lk := Lib.hid hlt
      go_wp2_with fail
      all_goals
        go_round
        case rel => exact ⟨k + 1, by omega, by have := Lk.out; omega, by go_num, by rw [HS.out]; congr 1; omega⟩
        case measure => have := Lk.out; simp [intOf]; omega
    · obtain rfl : k = l0.length := by omega
      go_wp2_with fail
      go_ret
      exact ⟨rfl, rfl⟩

/-! ### in the print's form -/
def i64b (x : Int) : Bool := decide (-9223372036854775808 ≤ x) && decide (x ≤ 9223372036854775807)
theorem i64b_iff {x : Int} : i64b x = true ↔ I64 x := by simp [i64b, I64]
theorem drawn_eq {w w' : World} (h : w = w') : Drawn0 w w' := ⟨0, h.symm⟩
theorem below_eq {w w' : World} (h : w = w') : Below w.heap.size w w' := by subst h; exact Below.refl _ _
def fix_Mul.f (a0 a1 : Int) : Option Int := if (i64b a0 && i64b a1) = true then some (sat (a0 * a1)) else none
theorem fix_Mul.calls (a0 : Int) (a1 : Int) (r : Int) (w : World) (h : fix_Mul.f a0 a1 = some r) :
    Calls Try.prog 67 #[.int .i64 a0, .int .i64 a1] w fun e w' => e = .returned (.int .i64 r) ∧ Below w.heap.size w w' := by
  unfold fix_Mul.f at h
  split at h
  · rename_i hb; cases h
    simp only [Bool.and_eq_true, i64b_iff] at hb
    exact (fixMul a0 a1 w hb.1 hb.2).mono fun e w' ⟨he, hu⟩ => ⟨he, Below.ofUpd hu⟩
  · cases h
def fix_Add.f (a0 a1 : Int) : Option Int := if (i64b a0 && i64b a1) = true then some (sat (a0 + a1)) else none
theorem fix_Add.calls (a0 : Int) (a1 : Int) (r : Int) (w : World) (h : fix_Add.f a0 a1 = some r) :
    Calls Try.prog 68 #[.int .i64 a0, .int .i64 a1] w fun e w' => e = .returned (.int .i64 r) ∧ Drawn0 w w' := by
  unfold fix_Add.f at h
  split at h
  · rename_i hb; cases h
    simp only [Bool.and_eq_true, i64b_iff] at hb
    exact (fix_add a0 a1 w hb.1 hb.2).mono fun e w' ⟨he, hu⟩ => ⟨he, drawn_eq hu⟩
  · cases h
def overfallref02_Mul.f (a0 a1 : Int) : Option Int := if (i64b a0 && i64b a1) = true then some (sat (a0 * a1)) else none
theorem overfallref02_Mul.calls (a0 : Int) (a1 : Int) (r : Int) (w : World) (h : overfallref02_Mul.f a0 a1 = some r) :
    Calls Try.prog 51 #[.int .i64 a0, .int .i64 a1] w fun e w' => e = .returned (.int .i64 r) ∧ Below w.heap.size w w' := by
  unfold overfallref02_Mul.f at h
  split at h
  · rename_i hb; cases h
    simp only [Bool.and_eq_true, i64b_iff] at hb
    exact (r2mul a0 a1 w hb.1 hb.2).mono fun e w' ⟨he, hu⟩ => ⟨he, Below.ofUpd hu⟩
  · cases h
def overfallref02_Add.f (a0 a1 : Int) : Option Int := if (i64b a0 && i64b a1) = true then some (sat (a0 + a1)) else none
theorem overfallref02_Add.calls (a0 : Int) (a1 : Int) (r : Int) (w : World) (h : overfallref02_Add.f a0 a1 = some r) :
    Calls Try.prog 31 #[.int .i64 a0, .int .i64 a1] w fun e w' => e = .returned (.int .i64 r) ∧ Below w.heap.size w w' := by
  unfold overfallref02_Add.f at h
  split at h
  · rename_i hb; cases h
    simp only [Bool.and_eq_true, i64b_iff] at hb
    exact (r2add a0 a1 w hb.1 hb.2).mono fun e w' ⟨he, hu⟩ => ⟨he, Below.ofUpd hu⟩
  · cases h
def pace_Waits.f (l0 : List S145) (a1_0 : Int) (a1_1 : Int) (a1_2 : Int) (a1_3 : Int) (a1_4 : Int) (a1_5 : Int) (a1_6 : Int) (a1_7 : Int) (a1_8 : Int) (a1_9 : Int) (a1_10 : Int) (a1_11 : Int) (a1_12 : Int) (a1_13 : Int) (a1_14 : Int) : Option (List Int) :=
  if (i64b a1_5 && i64b a1_6 && decide (l0.length ≤ 1000000)) = true then some (waitsV a1_0 a1_5 a1_6 l0) else none
theorem pace_Waits.calls (A0 : Option Addr) (c0 : Nat) (l0 : List S145) (a1_0 : Int) (a1_1 : Int) (a1_2 : Int) (a1_3 : Int) (a1_4 : Int) (a1_5 : Int) (a1_6 : Int) (a1_7 : Int) (a1_8 : Int) (a1_9 : Int) (a1_10 : Int) (a1_11 : Int) (a1_12 : Int) (a1_13 : Int) (a1_14 : Int) (r : List Int) (w : World) (hr0 : Kd.C k145 w A0 l0.length l0) (hc0 : l0.length ≤ c0) (h : pace_Waits.f l0 a1_0 a1_1 a1_2 a1_3 a1_4 a1_5 a1_6 a1_7 a1_8 a1_9 a1_10 a1_11 a1_12 a1_13 a1_14 = some r) :
    Calls Try.prog 36 #[.slice A0 l0.length c0, .agg #[.int .i64 a1_0, .int .u8 a1_1, .int .i64 a1_2, .int .i64 a1_3, .int .i64 a1_4, .int .i64 a1_5, .int .i64 a1_6, .int .i64 a1_7, .int .i64 a1_8, .int .i64 a1_9, .int .u8 a1_10, .int .u64 a1_11, .int .i64 a1_12, .int .i64 a1_13, .int .i64 a1_14]] w fun e w' => ∃ v0_ : Value, e = .returned (v0_) ∧ Kd.R (Kd.int .i64) 3 w' w.heap.size (fun _ => True) v0_ r ∧ Below w.heap.size w w' := by
  unfold pace_Waits.f at h
  split at h
  · rename_i hb; cases h
    simp only [Bool.and_eq_true, i64b_iff, decide_eq_true_eq] at hb
    exact waits_any A0 c0 l0 _ _ _ _ _ _ _ _ _ _ _ _ _ _ _ w hr0 hc0 hb.1.1 hb.1.2 hb.2
  · cases h
def pace_Longest.f (l0 : List S145) (l1_0 : List S99) (l1_1 : List S204) (l1_2 : List Int) : Option Int :=
  if (decide (l0.length ≤ 1000000) && l1_0.all fun c => i64b c.f2 && i64b c.f3) = true then some (longestV l0 l1_0) else none
theorem pace_Longest.calls (A0 : Option Addr) (c0 : Nat) (l0 : List S145) (A1_0 : Option Addr) (c1_0 : Nat) (l1_0 : List S99) (A1_1 : Option Addr) (c1_1 : Nat) (l1_1 : List S204) (A1_2 : Option Addr) (c1_2 : Nat) (l1_2 : List Int) (r : Int) (w : World) (hr0 : Kd.C k145 w A0 l0.length l0) (hc0 : l0.length ≤ c0) (hr1_0 : Kd.C k99 w A1_0 l1_0.length l1_0) (hc1_0 : l1_0.length ≤ c1_0) (hr1_1 : Kd.C k204 w A1_1 l1_1.length l1_1) (hc1_1 : l1_1.length ≤ c1_1) (hr1_2 : Kd.C (Kd.int .i64) w A1_2 l1_2.length l1_2) (hc1_2 : l1_2.length ≤ c1_2) (h : pace_Longest.f l0 l1_0 l1_1 l1_2 = some r) :
    Calls Try.prog 40 #[.slice A0 l0.length c0, .agg #[.slice A1_0 l1_0.length c1_0, .slice A1_1 l1_1.length c1_1, .slice A1_2 l1_2.length c1_2]] w fun e w' => e = .returned (.int .i64 r) ∧ Below w.heap.size w w' := by
  unfold pace_Longest.f at h
  split at h
  · rename_i hb; cases h
    simp only [Bool.and_eq_true, List.all_eq_true, i64b_iff, decide_eq_true_eq] at hb
    exact longest_any A0 c0 l0 A1_0 c1_0 l1_0 _ _ w hr0 hc0 hr1_0 hb.1 hb.2 _ _ _ _ _ _ rfl rfl
  · cases h
def slices_Max_int_int.f (l0 : List Int) : Option Int := if 0 < l0.length then some (maxUp l0 l0.length) else none
theorem slices_Max_int_int.calls (A0 : Option Addr) (c0 : Nat) (l0 : List Int) (r : Int) (w : World) (hr0 : Kd.C (Kd.int .i64) w A0 l0.length l0) (hc0 : l0.length ≤ c0) (h : slices_Max_int_int.f l0 = some r) :
    Calls Try.prog 66 #[.slice A0 l0.length c0] w fun e w' => e = .returned (.int .i64 r) ∧ Drawn0 w w' := by
  unfold slices_Max_int_int.f at h
  split at h
  · rename_i hb; cases h
    exact (max_any A0 c0 l0 w hr0 hb).mono fun e w' ⟨he, hu⟩ => ⟨he, drawn_eq hu⟩
  · cases h
end Go.Proofs.Yteaihgjjplgalaa.PPaceTells
