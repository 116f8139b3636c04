-- Printed for ConfValid of this claim, with some functions given by hand (wip/gprint.py).
import Derived.Test.YteaihgjjplgalaaDoorPConfValidx0
import Derived.Test.YteaihgjjplgalaaDoorPConfValidx1
import Derived.Test.YteaihgjjplgalaaDoorPConfValidx2
namespace Go.Proofs.YteaihgjjplgalaaDoor.PConfValid
open Go.RowKit Go.Proofs.YteaihgjjplgalaaDoorW.PrintWords Go.Proofs.YteaihgjjplgalaaDoorW.PrintLast Go.Proofs.YteaihgjjplgalaaDoorW.PrintMore
attribute [local go_sem] max2_int min2_int max_two min_two max_three min_three max_four min_four   -- for this text's walks alone
set_option linter.unusedVariables false
set_option linter.unusedSimpArgs false

/-! ### overfallref13_Valid: function 20 -/
mutual
def overfallref13_Valid.j0 : Nat → List Int → Bool → Option (Bool)
  | 0, _, _ => none
  | k + 1, x0, x28 => if x28 = true then (some false) else (if 5 < (x0.length : Int) then (if (rd x0 5) < 0 then (overfallref13_Valid.j1 k x0 true) else (if 4 < (x0.length : Int) then (if (rd x0 4) < (rd x0 5) then (overfallref13_Valid.j1 k x0 true) else (if 6 < (x0.length : Int) then (if (rd x0 6) < 0 then (overfallref13_Valid.j1 k x0 true) else (if 7 < (x0.length : Int) then (if 2 < (x0.length : Int) then ((overfallref13_within.f (rd x0 7) (rd x0 2) 1125899906842624).bind fun t158 => (overfallref13_Valid.j1 k x0 (!t158))) else (none)) else (none))) else (none))) else (none))) else (none))
def overfallref13_Valid.j1 : Nat → List Int → Bool → Option (Bool)
  | 0, _, _ => none
  | k + 1, x0, x57 => if x57 = true then (some false) else ((overfallref13_Pid.f x0).bind fun bt159 => ((overfallref11_Right.f bt159.1 bt159.2.1 bt159.2.2.1 bt159.2.2.2.1 bt159.2.2.2.2.1 bt159.2.2.2.2.2.1 bt159.2.2.2.2.2.2).bind fun t166 => (if t166 = true then (if 14 < (x0.length : Int) then ((overfallref13_within.f (rd x0 14) 1 16).bind fun t168 => (if t168 = true then (if 15 < (x0.length : Int) then ((overfallref13_within.f (rd x0 15) 2 64).bind fun t170 => (if t170 = true then ((overfallref04_Right.f k (rd x0 15)).bind fun t172 => (some t172)) else (some false))) else (none)) else (some false))) else (none)) else (some false))))
end
def overfallref13_Valid.f (k : Nat) (l0 : List Int) : Option (Bool) := if 0 < (l0.length : Int) then ((overfallref13_within.f (rd l0 0) 1 8).bind fun t145 => (if t145 = true then (if 1 < (l0.length : Int) then ((overfallref13_within.f (rd l0 1) 1 1024).bind fun t147 => (if t147 = true then (if 2 < (l0.length : Int) then ((overfallref13_within.f (rd l0 2) 1 1099511627776).bind fun t149 => (if t149 = true then (if 3 < (l0.length : Int) then ((overfallref13_within.f (rd l0 3) 1 1099511627776).bind fun t151 => (overfallref13_Valid.j0 k l0 (!t151))) else (none)) else (overfallref13_Valid.j0 k l0 true))) else (none)) else (overfallref13_Valid.j0 k l0 true))) else (none)) else (overfallref13_Valid.j0 k l0 true))) else (none)
theorem overfallref13_Valid.mono_l : ∀ k, (∀ y0 y1, LeO (overfallref13_Valid.j0 k y0 y1) (overfallref13_Valid.j0 (k + 1) y0 y1)) ∧ (∀ y0 y1, LeO (overfallref13_Valid.j1 k y0 y1) (overfallref13_Valid.j1 (k + 1) y0 y1))
  | 0 => ⟨fun _ _ r h => by simp [overfallref13_Valid.j0] at h, fun _ _ r h => by simp [overfallref13_Valid.j1] at h⟩
  | k + 1 => by
    obtain ⟨ih0, ih1⟩ := overfallref13_Valid.mono_l k
    refine ⟨?_, ?_⟩
    · intro y0 y1
      unfold overfallref13_Valid.j0
      repeat' first
      | (with_reducible exact ih0 _ _)
      | (with_reducible exact ih1 _ _)
      | (with_reducible exact overfallref04_Right.mono _ _)
      | (with_reducible exact LeO.refl _)
      | (with_reducible exact LeO.none _)
      | (with_reducible refine LeO.ite ?_ ?_)
      | (with_reducible refine LeO.bind ?_ (fun _ => ?_))
      | exact ih0 _ _
      | exact ih1 _ _
      | exact overfallref04_Right.mono _ _
      | exact LeO.none _
      | refine LeO.ite ?_ ?_
      | refine LeO.bind ?_ (fun _ => ?_)
    · intro y0 y1
      unfold overfallref13_Valid.j1
      repeat' first
      | (with_reducible exact ih0 _ _)
      | (with_reducible exact ih1 _ _)
      | (with_reducible exact overfallref04_Right.mono _ _)
      | (with_reducible exact LeO.refl _)
      | (with_reducible exact LeO.none _)
      | (with_reducible refine LeO.ite ?_ ?_)
      | (with_reducible refine LeO.bind ?_ (fun _ => ?_))
      | exact ih0 _ _
      | exact ih1 _ _
      | exact overfallref04_Right.mono _ _
      | exact LeO.none _
      | refine LeO.ite ?_ ?_
      | refine LeO.bind ?_ (fun _ => ?_)
theorem overfallref13_Valid.mono : ∀ a0 k, LeO (overfallref13_Valid.f k a0) (overfallref13_Valid.f (k + 1) a0) := by
  intro a0 k
  obtain ⟨ih0, ih1⟩ := overfallref13_Valid.mono_l k
  unfold overfallref13_Valid.f
  repeat' first
      | (with_reducible exact ih0 _ _)
      | (with_reducible exact ih1 _ _)
      | (with_reducible exact overfallref04_Right.mono _ _)
      | (with_reducible exact LeO.refl _)
      | (with_reducible exact LeO.none _)
      | (with_reducible refine LeO.ite ?_ ?_)
      | (with_reducible refine LeO.bind ?_ (fun _ => ?_))
      | exact ih0 _ _
      | exact ih1 _ _
      | exact overfallref04_Right.mono _ _
      | exact LeO.none _
      | refine LeO.ite ?_ ?_
      | refine LeO.bind ?_ (fun _ => ?_)
set_option maxHeartbeats 8000000 in
set_option maxRecDepth 100000 in
theorem overfallref13_Valid.calls (k : Nat) (A0 : Option Addr) (c0 : Nat) (l0 : List Int) (r : Bool) (w : World) (hr0 : Kd.C (Kd.int .i64) w A0 l0.length l0) (hc0 : l0.length ≤ c0) (h : overfallref13_Valid.f k l0 = some r) :
    Calls Tryd.prog 20 #[.slice A0 l0.length c0] w fun e w' => e = .returned (.bool r) ∧ Below w.heap.size w w' := by
  have HR0 := Aside0.mk hr0
  have HC0 := Aside0.mk hc0
  clear hr0 hc0
  have HB := Aside0.mk (Below.refl w.heap.size w)
  have H : (if 0 < (l0.length : Int) then ((overfallref13_within.f (rd l0 0) 1 8).bind fun t145 => (if t145 = true then (if 1 < (l0.length : Int) then ((overfallref13_within.f (rd l0 1) 1 1024).bind fun t147 => (if t147 = true then (if 2 < (l0.length : Int) then ((overfallref13_within.f (rd l0 2) 1 1099511627776).bind fun t149 => (if t149 = true then (if 3 < (l0.length : Int) then ((overfallref13_within.f (rd l0 3) 1 1099511627776).bind fun t151 => (overfallref13_Valid.j0 k l0 (!t151))) else (none)) else (overfallref13_Valid.j0 k l0 true))) else (none)) else (overfallref13_Valid.j0 k l0 true))) else (none)) else (overfallref13_Valid.j0 k l0 true))) else (none)) = some r := h
  clear h
  have HC2 := Aside0.mk H
  clear H
  go_enter Tryd.func20, Tryd.ntmps20
  go_upto_region 1 with (fail)
  repeat (go_quiet (fail); go_upto_region 1 with (fail))
  go_cut [28] (fun v28 wc => ∃ (kq : Nat) (x28_1 : Bool), v28 = .bool x28_1 ∧ Aside0 (overfallref13_Valid.j0 kq l0 x28_1 = some r) ∧ Aside0 (kq ≤ k) ∧ Aside0 (Below w.heap.size w wc))
  case first =>
    have H := HC2.out
    clear HC2
    by_cases c3 : 0 < (l0.length : Int)
    · rw [if_pos c3] at H
      have c3b0 : decide (0 < (l0.length : Int)) = true := decide_eq_true c3
      have c3b1 : decide (0 < l0.length) = true := decide_eq_true (by omega)
      clear c3
      (first | rw [c3b0] | (simp only [i64_w, i32_w]; rw [c3b0]) | skip)
      replace H := Option.bind_eq_some_iff.mp H
      obtain ⟨t145, A40, H⟩ := H
      replace H : (if t145 = true then (if 1 < (l0.length : Int) then ((overfallref13_within.f (rd l0 1) 1 1024).bind fun t147 => (if t147 = true then (if 2 < (l0.length : Int) then ((overfallref13_within.f (rd l0 2) 1 1099511627776).bind fun t149 => (if t149 = true then (if 3 < (l0.length : Int) then ((overfallref13_within.f (rd l0 3) 1 1099511627776).bind fun t151 => (overfallref13_Valid.j0 k l0 (!t151))) else (none)) else (overfallref13_Valid.j0 k l0 true))) else (none)) else (overfallref13_Valid.j0 k l0 true))) else (none)) else (overfallref13_Valid.j0 k l0 true)) = some r := H
      have A4 := Aside0.mk A40
      clear A40
      by_cases c5 : t145 = true
      · subst c5
        have H1 : (if 1 < (l0.length : Int) then ((overfallref13_within.f (rd l0 1) 1 1024).bind fun t147 => (if t147 = true then (if 2 < (l0.length : Int) then ((overfallref13_within.f (rd l0 2) 1 1099511627776).bind fun t149 => (if t149 = true then (if 3 < (l0.length : Int) then ((overfallref13_within.f (rd l0 3) 1 1099511627776).bind fun t151 => (overfallref13_Valid.j0 k l0 (!t151))) else (none)) else (overfallref13_Valid.j0 k l0 true))) else (none)) else (overfallref13_Valid.j0 k l0 true))) else (none)) = some r := by rw [if_pos rfl] at H; exact H
        clear H
        have H := H1
        clear H1
        by_cases c6 : 1 < (l0.length : Int)
        · rw [if_pos c6] at H
          have c6b0 : decide (1 < (l0.length : Int)) = true := decide_eq_true c6
          have c6b1 : decide (1 < l0.length) = true := decide_eq_true (by omega)
          clear c6
          replace H := Option.bind_eq_some_iff.mp H
          obtain ⟨t147, A70, H⟩ := H
          replace H : (if t147 = true then (if 2 < (l0.length : Int) then ((overfallref13_within.f (rd l0 2) 1 1099511627776).bind fun t149 => (if t149 = true then (if 3 < (l0.length : Int) then ((overfallref13_within.f (rd l0 3) 1 1099511627776).bind fun t151 => (overfallref13_Valid.j0 k l0 (!t151))) else (none)) else (overfallref13_Valid.j0 k l0 true))) else (none)) else (overfallref13_Valid.j0 k l0 true)) = some r := H
          have A7 := Aside0.mk A70
          clear A70
          by_cases c8 : t147 = true
          · subst c8
            have H1 : (if 2 < (l0.length : Int) then ((overfallref13_within.f (rd l0 2) 1 1099511627776).bind fun t149 => (if t149 = true then (if 3 < (l0.length : Int) then ((overfallref13_within.f (rd l0 3) 1 1099511627776).bind fun t151 => (overfallref13_Valid.j0 k l0 (!t151))) else (none)) else (overfallref13_Valid.j0 k l0 true))) else (none)) = some r := by rw [if_pos rfl] at H; exact H
            clear H
            have H := H1
            clear H1
            by_cases c9 : 2 < (l0.length : Int)
            · rw [if_pos c9] at H
              have c9b0 : decide (2 < (l0.length : Int)) = true := decide_eq_true c9
              have c9b1 : decide (2 < l0.length) = true := decide_eq_true (by omega)
              clear c9
              replace H := Option.bind_eq_some_iff.mp H
              obtain ⟨t149, A100, H⟩ := H
              replace H : (if t149 = true then (if 3 < (l0.length : Int) then ((overfallref13_within.f (rd l0 3) 1 1099511627776).bind fun t151 => (overfallref13_Valid.j0 k l0 (!t151))) else (none)) else (overfallref13_Valid.j0 k l0 true)) = some r := H
              have A10 := Aside0.mk A100
              clear A100
              by_cases c11 : t149 = true
              · subst c11
                have H1 : (if 3 < (l0.length : Int) then ((overfallref13_within.f (rd l0 3) 1 1099511627776).bind fun t151 => (overfallref13_Valid.j0 k l0 (!t151))) else (none)) = some r := by rw [if_pos rfl] at H; exact H
                clear H
                have H := H1
                clear H1
                by_cases c12 : 3 < (l0.length : Int)
                · rw [if_pos c12] at H
                  have c12b0 : decide (3 < (l0.length : Int)) = true := decide_eq_true c12
                  have c12b1 : decide (3 < l0.length) = true := decide_eq_true (by omega)
                  clear c12
                  replace H := Option.bind_eq_some_iff.mp H
                  obtain ⟨t151, A130, H⟩ := H
                  replace H : (overfallref13_Valid.j0 k l0 (!t151)) = some r := H
                  have A13 := Aside0.mk A130
                  clear A130
                  have H' := Aside0.mk H
                  clear H
                  have p144 : 0 ≤ (0 : Int) := (by omega)
                  have q144 : 0 < (l0.length : Int) := of_decide_eq_true (by first | (with_reducible assumption) | assumption)
                  obtain ⟨ad144, e144, hx144_0⟩ := Kd.at_int HR0.out 0 p144 q144
                  cases e144
                  have qi144 : (0 < l0.length) = True := eq_true (by omega)
                  (try rw [show ((0 : Int)).toNat = 0 from rfl] at hx144_0)
                  (try rw [Addr.add_zero'] at hx144_0)
                  replace hx144_0 := (HB.out.cell (World.block_lt_of_cell? w _ hx144_0)).trans hx144_0
                  replace p144 := eq_true p144
                  replace q144 := eq_true q144
                  go_wp2_with (first | (go_at_call 33; (with_reducible refine (overfallref13_within.calls (rd l0 0) 1 8 true _ A4.out).mono ?_); rintro e w' ⟨rfl, ⟨nd, rfl⟩⟩; (try first | exact ⟨rfl, _, World.drewN_drewN _ _ _⟩ | exact ⟨rfl, _, Eq.trans (World.drewN_drewN _ _ _) (congrArg (World.drewN _) (Nat.add_assoc _ _ _))⟩); have p146 : 0 ≤ (1 : Int) := (by omega); have q146 : 1 < (l0.length : Int) := of_decide_eq_true (by first | (with_reducible assumption) | assumption); obtain ⟨ad146, e146, hx146_0⟩ := Kd.at_int HR0.out 1 p146 q146; obtain rfl : ad144 = ad146 := (by injection e146); (try simp only [show (1 : Int).toNat = 1 from rfl, Nat.reduceMul, Nat.reduceEqDiff, Go.Addr.add, ↓reduceIte] at hx146_0); have qi146 : (1 < l0.length) = True := eq_true (by omega); (try rw [show ((1 : Int)).toNat = 1 from rfl] at hx146_0); replace hx146_0 := (HB.out.cell (World.block_lt_of_cell? w _ hx146_0)).trans hx146_0; replace p146 := eq_true p146; replace q146 := eq_true q146) | (go_at_call 33; (with_reducible refine (overfallref13_within.calls (rd l0 1) 1 1024 true _ A7.out).mono ?_); rintro e w' ⟨rfl, ⟨nd, rfl⟩⟩; (try first | exact ⟨rfl, _, World.drewN_drewN _ _ _⟩ | exact ⟨rfl, _, Eq.trans (World.drewN_drewN _ _ _) (congrArg (World.drewN _) (Nat.add_assoc _ _ _))⟩); have p148 : 0 ≤ (2 : Int) := (by omega); have q148 : 2 < (l0.length : Int) := of_decide_eq_true (by first | (with_reducible assumption) | assumption); obtain ⟨ad148, e148, hx148_0⟩ := Kd.at_int HR0.out 2 p148 q148; obtain rfl : ad144 = ad148 := (by injection e148); (try simp only [show (2 : Int).toNat = 2 from rfl, Nat.reduceMul, Nat.reduceEqDiff, Go.Addr.add, ↓reduceIte] at hx148_0); have qi148 : (2 < l0.length) = True := eq_true (by omega); (try rw [show ((2 : Int)).toNat = 2 from rfl] at hx148_0); replace hx148_0 := (HB.out.cell (World.block_lt_of_cell? w _ hx148_0)).trans hx148_0; replace p148 := eq_true p148; replace q148 := eq_true q148) | (go_at_call 33; (with_reducible refine (overfallref13_within.calls (rd l0 2) 1 1099511627776 true _ A10.out).mono ?_); rintro e w' ⟨rfl, ⟨nd, rfl⟩⟩; (try first | exact ⟨rfl, _, World.drewN_drewN _ _ _⟩ | exact ⟨rfl, _, Eq.trans (World.drewN_drewN _ _ _) (congrArg (World.drewN _) (Nat.add_assoc _ _ _))⟩); have p150 : 0 ≤ (3 : Int) := (by omega); have q150 : 3 < (l0.length : Int) := of_decide_eq_true (by first | (with_reducible assumption) | assumption); obtain ⟨ad150, e150, hx150_0⟩ := Kd.at_int HR0.out 3 p150 q150; obtain rfl : ad144 = ad150 := (by injection e150); (try simp only [show (3 : Int).toNat = 3 from rfl, Nat.reduceMul, Nat.reduceEqDiff, Go.Addr.add, ↓reduceIte] at hx150_0); have qi150 : (3 < l0.length) = True := eq_true (by omega); (try rw [show ((3 : Int)).toNat = 3 from rfl] at hx150_0); replace hx150_0 := (HB.out.cell (World.block_lt_of_cell? w _ hx150_0)).trans hx150_0; replace p150 := eq_true p150; replace q150 := eq_true q150) | (go_at_call 33; (with_reducible refine (overfallref13_within.calls (rd l0 3) 1 1099511627776 t151 _ A13.out).mono ?_); rintro e w' ⟨rfl, ⟨nd, rfl⟩⟩; (try first | exact ⟨rfl, _, World.drewN_drewN _ _ _⟩ | exact ⟨rfl, _, Eq.trans (World.drewN_drewN _ _ _) (congrArg (World.drewN _) (Nat.add_assoc _ _ _))⟩)))
                  repeat (go_quiet (first | (go_at_call 33; (with_reducible refine (overfallref13_within.calls (rd l0 0) 1 8 true _ A4.out).mono ?_); rintro e w' ⟨rfl, ⟨nd, rfl⟩⟩; (try first | exact ⟨rfl, _, World.drewN_drewN _ _ _⟩ | exact ⟨rfl, _, Eq.trans (World.drewN_drewN _ _ _) (congrArg (World.drewN _) (Nat.add_assoc _ _ _))⟩); have p146 : 0 ≤ (1 : Int) := (by omega); have q146 : 1 < (l0.length : Int) := of_decide_eq_true (by first | (with_reducible assumption) | assumption); obtain ⟨ad146, e146, hx146_0⟩ := Kd.at_int HR0.out 1 p146 q146; obtain rfl : ad144 = ad146 := (by injection e146); (try simp only [show (1 : Int).toNat = 1 from rfl, Nat.reduceMul, Nat.reduceEqDiff, Go.Addr.add, ↓reduceIte] at hx146_0); have qi146 : (1 < l0.length) = True := eq_true (by omega); (try rw [show ((1 : Int)).toNat = 1 from rfl] at hx146_0); replace hx146_0 := (HB.out.cell (World.block_lt_of_cell? w _ hx146_0)).trans hx146_0; replace p146 := eq_true p146; replace q146 := eq_true q146) | (go_at_call 33; (with_reducible refine (overfallref13_within.calls (rd l0 1) 1 1024 true _ A7.out).mono ?_); rintro e w' ⟨rfl, ⟨nd, rfl⟩⟩; (try first | exact ⟨rfl, _, World.drewN_drewN _ _ _⟩ | exact ⟨rfl, _, Eq.trans (World.drewN_drewN _ _ _) (congrArg (World.drewN _) (Nat.add_assoc _ _ _))⟩); have p148 : 0 ≤ (2 : Int) := (by omega); have q148 : 2 < (l0.length : Int) := of_decide_eq_true (by first | (with_reducible assumption) | assumption); obtain ⟨ad148, e148, hx148_0⟩ := Kd.at_int HR0.out 2 p148 q148; obtain rfl : ad144 = ad148 := (by injection e148); (try simp only [show (2 : Int).toNat = 2 from rfl, Nat.reduceMul, Nat.reduceEqDiff, Go.Addr.add, ↓reduceIte] at hx148_0); have qi148 : (2 < l0.length) = True := eq_true (by omega); (try rw [show ((2 : Int)).toNat = 2 from rfl] at hx148_0); replace hx148_0 := (HB.out.cell (World.block_lt_of_cell? w _ hx148_0)).trans hx148_0; replace p148 := eq_true p148; replace q148 := eq_true q148) | (go_at_call 33; (with_reducible refine (overfallref13_within.calls (rd l0 2) 1 1099511627776 true _ A10.out).mono ?_); rintro e w' ⟨rfl, ⟨nd, rfl⟩⟩; (try first | exact ⟨rfl, _, World.drewN_drewN _ _ _⟩ | exact ⟨rfl, _, Eq.trans (World.drewN_drewN _ _ _) (congrArg (World.drewN _) (Nat.add_assoc _ _ _))⟩); have p150 : 0 ≤ (3 : Int) := (by omega); have q150 : 3 < (l0.length : Int) := of_decide_eq_true (by first | (with_reducible assumption) | assumption); obtain ⟨ad150, e150, hx150_0⟩ := Kd.at_int HR0.out 3 p150 q150; obtain rfl : ad144 = ad150 := (by injection e150); (try simp only [show (3 : Int).toNat = 3 from rfl, Nat.reduceMul, Nat.reduceEqDiff, Go.Addr.add, ↓reduceIte] at hx150_0); have qi150 : (3 < l0.length) = True := eq_true (by omega); (try rw [show ((3 : Int)).toNat = 3 from rfl] at hx150_0); replace hx150_0 := (HB.out.cell (World.block_lt_of_cell? w _ hx150_0)).trans hx150_0; replace p150 := eq_true p150; replace q150 := eq_true q150) | (go_at_call 33; (with_reducible refine (overfallref13_within.calls (rd l0 3) 1 1099511627776 t151 _ A13.out).mono ?_); rintro e w' ⟨rfl, ⟨nd, rfl⟩⟩; (try first | exact ⟨rfl, _, World.drewN_drewN _ _ _⟩ | exact ⟨rfl, _, Eq.trans (World.drewN_drewN _ _ _) (congrArg (World.drewN _) (Nat.add_assoc _ _ _))⟩))); try go_wp2_with (first | (go_at_call 33; (with_reducible refine (overfallref13_within.calls (rd l0 0) 1 8 true _ A4.out).mono ?_); rintro e w' ⟨rfl, ⟨nd, rfl⟩⟩; (try first | exact ⟨rfl, _, World.drewN_drewN _ _ _⟩ | exact ⟨rfl, _, Eq.trans (World.drewN_drewN _ _ _) (congrArg (World.drewN _) (Nat.add_assoc _ _ _))⟩); have p146 : 0 ≤ (1 : Int) := (by omega); have q146 : 1 < (l0.length : Int) := of_decide_eq_true (by first | (with_reducible assumption) | assumption); obtain ⟨ad146, e146, hx146_0⟩ := Kd.at_int HR0.out 1 p146 q146; obtain rfl : ad144 = ad146 := (by injection e146); (try simp only [show (1 : Int).toNat = 1 from rfl, Nat.reduceMul, Nat.reduceEqDiff, Go.Addr.add, ↓reduceIte] at hx146_0); have qi146 : (1 < l0.length) = True := eq_true (by omega); (try rw [show ((1 : Int)).toNat = 1 from rfl] at hx146_0); replace hx146_0 := (HB.out.cell (World.block_lt_of_cell? w _ hx146_0)).trans hx146_0; replace p146 := eq_true p146; replace q146 := eq_true q146) | (go_at_call 33; (with_reducible refine (overfallref13_within.calls (rd l0 1) 1 1024 true _ A7.out).mono ?_); rintro e w' ⟨rfl, ⟨nd, rfl⟩⟩; (try first | exact ⟨rfl, _, World.drewN_drewN _ _ _⟩ | exact ⟨rfl, _, Eq.trans (World.drewN_drewN _ _ _) (congrArg (World.drewN _) (Nat.add_assoc _ _ _))⟩); have p148 : 0 ≤ (2 : Int) := (by omega); have q148 : 2 < (l0.length : Int) := of_decide_eq_true (by first | (with_reducible assumption) | assumption); obtain ⟨ad148, e148, hx148_0⟩ := Kd.at_int HR0.out 2 p148 q148; obtain rfl : ad144 = ad148 := (by injection e148); (try simp only [show (2 : Int).toNat = 2 from rfl, Nat.reduceMul, Nat.reduceEqDiff, Go.Addr.add, ↓reduceIte] at hx148_0); have qi148 : (2 < l0.length) = True := eq_true (by omega); (try rw [show ((2 : Int)).toNat = 2 from rfl] at hx148_0); replace hx148_0 := (HB.out.cell (World.block_lt_of_cell? w _ hx148_0)).trans hx148_0; replace p148 := eq_true p148; replace q148 := eq_true q148) | (go_at_call 33; (with_reducible refine (overfallref13_within.calls (rd l0 2) 1 1099511627776 true _ A10.out).mono ?_); rintro e w' ⟨rfl, ⟨nd, rfl⟩⟩; (try first | exact ⟨rfl, _, World.drewN_drewN _ _ _⟩ | exact ⟨rfl, _, Eq.trans (World.drewN_drewN _ _ _) (congrArg (World.drewN _) (Nat.add_assoc _ _ _))⟩); have p150 : 0 ≤ (3 : Int) := (by omega); have q150 : 3 < (l0.length : Int) := of_decide_eq_true (by first | (with_reducible assumption) | assumption); obtain ⟨ad150, e150, hx150_0⟩ := Kd.at_int HR0.out 3 p150 q150; obtain rfl : ad144 = ad150 := (by injection e150); (try simp only [show (3 : Int).toNat = 3 from rfl, Nat.reduceMul, Nat.reduceEqDiff, Go.Addr.add, ↓reduceIte] at hx150_0); have qi150 : (3 < l0.length) = True := eq_true (by omega); (try rw [show ((3 : Int)).toNat = 3 from rfl] at hx150_0); replace hx150_0 := (HB.out.cell (World.block_lt_of_cell? w _ hx150_0)).trans hx150_0; replace p150 := eq_true p150; replace q150 := eq_true q150) | (go_at_call 33; (with_reducible refine (overfallref13_within.calls (rd l0 3) 1 1099511627776 t151 _ A13.out).mono ?_); rintro e w' ⟨rfl, ⟨nd, rfl⟩⟩; (try first | exact ⟨rfl, _, World.drewN_drewN _ _ _⟩ | exact ⟨rfl, _, Eq.trans (World.drewN_drewN _ _ _) (congrArg (World.drewN _) (Nat.add_assoc _ _ _))⟩))))
                  go_meet
                  case rel => exact ⟨_, (!t151), (by first | rfl | (simp; done) | (simp [*]; done)), H', ⟨by first | omega | exact Nat.le_refl _⟩, ⟨by repeat (first | (with_reducible first | exact HB.out | apply below_alloc | apply pw_below_drewN | apply below_drew1) | exact HB.out)⟩⟩
                · rw [if_neg c12] at H
                  exact absurd H (by simp)
              · replace c11 := Bool.eq_false_iff.mpr c11
                subst c11
                have H1 : (overfallref13_Valid.j0 k l0 true) = some r := by rw [if_neg (show ¬ (false = true) by decide)] at H; exact H
                clear H
                have H := H1
                clear H1
                have H' := Aside0.mk H
                clear H
                have p144 : 0 ≤ (0 : Int) := (by omega)
                have q144 : 0 < (l0.length : Int) := of_decide_eq_true (by first | (with_reducible assumption) | assumption)
                obtain ⟨ad144, e144, hx144_0⟩ := Kd.at_int HR0.out 0 p144 q144
                cases e144
                have qi144 : (0 < l0.length) = True := eq_true (by omega)
                (try rw [show ((0 : Int)).toNat = 0 from rfl] at hx144_0)
                (try rw [Addr.add_zero'] at hx144_0)
                replace hx144_0 := (HB.out.cell (World.block_lt_of_cell? w _ hx144_0)).trans hx144_0
                replace p144 := eq_true p144
                replace q144 := eq_true q144
                go_wp2_with (first | (go_at_call 33; (with_reducible refine (overfallref13_within.calls (rd l0 0) 1 8 true _ A4.out).mono ?_); rintro e w' ⟨rfl, ⟨nd, rfl⟩⟩; (try first | exact ⟨rfl, _, World.drewN_drewN _ _ _⟩ | exact ⟨rfl, _, Eq.trans (World.drewN_drewN _ _ _) (congrArg (World.drewN _) (Nat.add_assoc _ _ _))⟩); have p146 : 0 ≤ (1 : Int) := (by omega); have q146 : 1 < (l0.length : Int) := of_decide_eq_true (by first | (with_reducible assumption) | assumption); obtain ⟨ad146, e146, hx146_0⟩ := Kd.at_int HR0.out 1 p146 q146; obtain rfl : ad144 = ad146 := (by injection e146); (try simp only [show (1 : Int).toNat = 1 from rfl, Nat.reduceMul, Nat.reduceEqDiff, Go.Addr.add, ↓reduceIte] at hx146_0); have qi146 : (1 < l0.length) = True := eq_true (by omega); (try rw [show ((1 : Int)).toNat = 1 from rfl] at hx146_0); replace hx146_0 := (HB.out.cell (World.block_lt_of_cell? w _ hx146_0)).trans hx146_0; replace p146 := eq_true p146; replace q146 := eq_true q146) | (go_at_call 33; (with_reducible refine (overfallref13_within.calls (rd l0 1) 1 1024 true _ A7.out).mono ?_); rintro e w' ⟨rfl, ⟨nd, rfl⟩⟩; (try first | exact ⟨rfl, _, World.drewN_drewN _ _ _⟩ | exact ⟨rfl, _, Eq.trans (World.drewN_drewN _ _ _) (congrArg (World.drewN _) (Nat.add_assoc _ _ _))⟩); have p148 : 0 ≤ (2 : Int) := (by omega); have q148 : 2 < (l0.length : Int) := of_decide_eq_true (by first | (with_reducible assumption) | assumption); obtain ⟨ad148, e148, hx148_0⟩ := Kd.at_int HR0.out 2 p148 q148; obtain rfl : ad144 = ad148 := (by injection e148); (try simp only [show (2 : Int).toNat = 2 from rfl, Nat.reduceMul, Nat.reduceEqDiff, Go.Addr.add, ↓reduceIte] at hx148_0); have qi148 : (2 < l0.length) = True := eq_true (by omega); (try rw [show ((2 : Int)).toNat = 2 from rfl] at hx148_0); replace hx148_0 := (HB.out.cell (World.block_lt_of_cell? w _ hx148_0)).trans hx148_0; replace p148 := eq_true p148; replace q148 := eq_true q148) | (go_at_call 33; (with_reducible refine (overfallref13_within.calls (rd l0 2) 1 1099511627776 false _ A10.out).mono ?_); rintro e w' ⟨rfl, ⟨nd, rfl⟩⟩; (try first | exact ⟨rfl, _, World.drewN_drewN _ _ _⟩ | exact ⟨rfl, _, Eq.trans (World.drewN_drewN _ _ _) (congrArg (World.drewN _) (Nat.add_assoc _ _ _))⟩)))
                repeat (go_quiet (first | (go_at_call 33; (with_reducible refine (overfallref13_within.calls (rd l0 0) 1 8 true _ A4.out).mono ?_); rintro e w' ⟨rfl, ⟨nd, rfl⟩⟩; (try first | exact ⟨rfl, _, World.drewN_drewN _ _ _⟩ | exact ⟨rfl, _, Eq.trans (World.drewN_drewN _ _ _) (congrArg (World.drewN _) (Nat.add_assoc _ _ _))⟩); have p146 : 0 ≤ (1 : Int) := (by omega); have q146 : 1 < (l0.length : Int) := of_decide_eq_true (by first | (with_reducible assumption) | assumption); obtain ⟨ad146, e146, hx146_0⟩ := Kd.at_int HR0.out 1 p146 q146; obtain rfl : ad144 = ad146 := (by injection e146); (try simp only [show (1 : Int).toNat = 1 from rfl, Nat.reduceMul, Nat.reduceEqDiff, Go.Addr.add, ↓reduceIte] at hx146_0); have qi146 : (1 < l0.length) = True := eq_true (by omega); (try rw [show ((1 : Int)).toNat = 1 from rfl] at hx146_0); replace hx146_0 := (HB.out.cell (World.block_lt_of_cell? w _ hx146_0)).trans hx146_0; replace p146 := eq_true p146; replace q146 := eq_true q146) | (go_at_call 33; (with_reducible refine (overfallref13_within.calls (rd l0 1) 1 1024 true _ A7.out).mono ?_); rintro e w' ⟨rfl, ⟨nd, rfl⟩⟩; (try first | exact ⟨rfl, _, World.drewN_drewN _ _ _⟩ | exact ⟨rfl, _, Eq.trans (World.drewN_drewN _ _ _) (congrArg (World.drewN _) (Nat.add_assoc _ _ _))⟩); have p148 : 0 ≤ (2 : Int) := (by omega); have q148 : 2 < (l0.length : Int) := of_decide_eq_true (by first | (with_reducible assumption) | assumption); obtain ⟨ad148, e148, hx148_0⟩ := Kd.at_int HR0.out 2 p148 q148; obtain rfl : ad144 = ad148 := (by injection e148); (try simp only [show (2 : Int).toNat = 2 from rfl, Nat.reduceMul, Nat.reduceEqDiff, Go.Addr.add, ↓reduceIte] at hx148_0); have qi148 : (2 < l0.length) = True := eq_true (by omega); (try rw [show ((2 : Int)).toNat = 2 from rfl] at hx148_0); replace hx148_0 := (HB.out.cell (World.block_lt_of_cell? w _ hx148_0)).trans hx148_0; replace p148 := eq_true p148; replace q148 := eq_true q148) | (go_at_call 33; (with_reducible refine (overfallref13_within.calls (rd l0 2) 1 1099511627776 false _ A10.out).mono ?_); rintro e w' ⟨rfl, ⟨nd, rfl⟩⟩; (try first | exact ⟨rfl, _, World.drewN_drewN _ _ _⟩ | exact ⟨rfl, _, Eq.trans (World.drewN_drewN _ _ _) (congrArg (World.drewN _) (Nat.add_assoc _ _ _))⟩))); try go_wp2_with (first | (go_at_call 33; (with_reducible refine (overfallref13_within.calls (rd l0 0) 1 8 true _ A4.out).mono ?_); rintro e w' ⟨rfl, ⟨nd, rfl⟩⟩; (try first | exact ⟨rfl, _, World.drewN_drewN _ _ _⟩ | exact ⟨rfl, _, Eq.trans (World.drewN_drewN _ _ _) (congrArg (World.drewN _) (Nat.add_assoc _ _ _))⟩); have p146 : 0 ≤ (1 : Int) := (by omega); have q146 : 1 < (l0.length : Int) := of_decide_eq_true (by first | (with_reducible assumption) | assumption); obtain ⟨ad146, e146, hx146_0⟩ := Kd.at_int HR0.out 1 p146 q146; obtain rfl : ad144 = ad146 := (by injection e146); (try simp only [show (1 : Int).toNat = 1 from rfl, Nat.reduceMul, Nat.reduceEqDiff, Go.Addr.add, ↓reduceIte] at hx146_0); have qi146 : (1 < l0.length) = True := eq_true (by omega); (try rw [show ((1 : Int)).toNat = 1 from rfl] at hx146_0); replace hx146_0 := (HB.out.cell (World.block_lt_of_cell? w _ hx146_0)).trans hx146_0; replace p146 := eq_true p146; replace q146 := eq_true q146) | (go_at_call 33; (with_reducible refine (overfallref13_within.calls (rd l0 1) 1 1024 true _ A7.out).mono ?_); rintro e w' ⟨rfl, ⟨nd, rfl⟩⟩; (try first | exact ⟨rfl, _, World.drewN_drewN _ _ _⟩ | exact ⟨rfl, _, Eq.trans (World.drewN_drewN _ _ _) (congrArg (World.drewN _) (Nat.add_assoc _ _ _))⟩); have p148 : 0 ≤ (2 : Int) := (by omega); have q148 : 2 < (l0.length : Int) := of_decide_eq_true (by first | (with_reducible assumption) | assumption); obtain ⟨ad148, e148, hx148_0⟩ := Kd.at_int HR0.out 2 p148 q148; obtain rfl : ad144 = ad148 := (by injection e148); (try simp only [show (2 : Int).toNat = 2 from rfl, Nat.reduceMul, Nat.reduceEqDiff, Go.Addr.add, ↓reduceIte] at hx148_0); have qi148 : (2 < l0.length) = True := eq_true (by omega); (try rw [show ((2 : Int)).toNat = 2 from rfl] at hx148_0); replace hx148_0 := (HB.out.cell (World.block_lt_of_cell? w _ hx148_0)).trans hx148_0; replace p148 := eq_true p148; replace q148 := eq_true q148) | (go_at_call 33; (with_reducible refine (overfallref13_within.calls (rd l0 2) 1 1099511627776 false _ A10.out).mono ?_); rintro e w' ⟨rfl, ⟨nd, rfl⟩⟩; (try first | exact ⟨rfl, _, World.drewN_drewN _ _ _⟩ | exact ⟨rfl, _, Eq.trans (World.drewN_drewN _ _ _) (congrArg (World.drewN _) (Nat.add_assoc _ _ _))⟩))))
                go_meet
                case rel => exact ⟨_, (true), (by first | rfl | (simp; done) | (simp [*]; done)), H', ⟨by first | omega | exact Nat.le_refl _⟩, ⟨by repeat (first | (with_reducible first | exact HB.out | apply below_alloc | apply pw_below_drewN | apply below_drew1) | exact HB.out)⟩⟩
            · rw [if_neg c9] at H
              exact absurd H (by simp)
          · replace c8 := Bool.eq_false_iff.mpr c8
            subst c8
            have H1 : (overfallref13_Valid.j0 k l0 true) = some r := by rw [if_neg (show ¬ (false = true) by decide)] at H; exact H
            clear H
            have H := H1
            clear H1
            have H' := Aside0.mk H
            clear H
            have p144 : 0 ≤ (0 : Int) := (by omega)
            have q144 : 0 < (l0.length : Int) := of_decide_eq_true (by first | (with_reducible assumption) | assumption)
            obtain ⟨ad144, e144, hx144_0⟩ := Kd.at_int HR0.out 0 p144 q144
            cases e144
            have qi144 : (0 < l0.length) = True := eq_true (by omega)
            (try rw [show ((0 : Int)).toNat = 0 from rfl] at hx144_0)
            (try rw [Addr.add_zero'] at hx144_0)
            replace hx144_0 := (HB.out.cell (World.block_lt_of_cell? w _ hx144_0)).trans hx144_0
            replace p144 := eq_true p144
            replace q144 := eq_true q144
            go_wp2_with (first | (go_at_call 33; (with_reducible refine (overfallref13_within.calls (rd l0 0) 1 8 true _ A4.out).mono ?_); rintro e w' ⟨rfl, ⟨nd, rfl⟩⟩; (try first | exact ⟨rfl, _, World.drewN_drewN _ _ _⟩ | exact ⟨rfl, _, Eq.trans (World.drewN_drewN _ _ _) (congrArg (World.drewN _) (Nat.add_assoc _ _ _))⟩); have p146 : 0 ≤ (1 : Int) := (by omega); have q146 : 1 < (l0.length : Int) := of_decide_eq_true (by first | (with_reducible assumption) | assumption); obtain ⟨ad146, e146, hx146_0⟩ := Kd.at_int HR0.out 1 p146 q146; obtain rfl : ad144 = ad146 := (by injection e146); (try simp only [show (1 : Int).toNat = 1 from rfl, Nat.reduceMul, Nat.reduceEqDiff, Go.Addr.add, ↓reduceIte] at hx146_0); have qi146 : (1 < l0.length) = True := eq_true (by omega); (try rw [show ((1 : Int)).toNat = 1 from rfl] at hx146_0); replace hx146_0 := (HB.out.cell (World.block_lt_of_cell? w _ hx146_0)).trans hx146_0; replace p146 := eq_true p146; replace q146 := eq_true q146) | (go_at_call 33; (with_reducible refine (overfallref13_within.calls (rd l0 1) 1 1024 false _ A7.out).mono ?_); rintro e w' ⟨rfl, ⟨nd, rfl⟩⟩; (try first | exact ⟨rfl, _, World.drewN_drewN _ _ _⟩ | exact ⟨rfl, _, Eq.trans (World.drewN_drewN _ _ _) (congrArg (World.drewN _) (Nat.add_assoc _ _ _))⟩)))
            repeat (go_quiet (first | (go_at_call 33; (with_reducible refine (overfallref13_within.calls (rd l0 0) 1 8 true _ A4.out).mono ?_); rintro e w' ⟨rfl, ⟨nd, rfl⟩⟩; (try first | exact ⟨rfl, _, World.drewN_drewN _ _ _⟩ | exact ⟨rfl, _, Eq.trans (World.drewN_drewN _ _ _) (congrArg (World.drewN _) (Nat.add_assoc _ _ _))⟩); have p146 : 0 ≤ (1 : Int) := (by omega); have q146 : 1 < (l0.length : Int) := of_decide_eq_true (by first | (with_reducible assumption) | assumption); obtain ⟨ad146, e146, hx146_0⟩ := Kd.at_int HR0.out 1 p146 q146; obtain rfl : ad144 = ad146 := (by injection e146); (try simp only [show (1 : Int).toNat = 1 from rfl, Nat.reduceMul, Nat.reduceEqDiff, Go.Addr.add, ↓reduceIte] at hx146_0); have qi146 : (1 < l0.length) = True := eq_true (by omega); (try rw [show ((1 : Int)).toNat = 1 from rfl] at hx146_0); replace hx146_0 := (HB.out.cell (World.block_lt_of_cell? w _ hx146_0)).trans hx146_0; replace p146 := eq_true p146; replace q146 := eq_true q146) | (go_at_call 33; (with_reducible refine (overfallref13_within.calls (rd l0 1) 1 1024 false _ A7.out).mono ?_); rintro e w' ⟨rfl, ⟨nd, rfl⟩⟩; (try first | exact ⟨rfl, _, World.drewN_drewN _ _ _⟩ | exact ⟨rfl, _, Eq.trans (World.drewN_drewN _ _ _) (congrArg (World.drewN _) (Nat.add_assoc _ _ _))⟩))); try go_wp2_with (first | (go_at_call 33; (with_reducible refine (overfallref13_within.calls (rd l0 0) 1 8 true _ A4.out).mono ?_); rintro e w' ⟨rfl, ⟨nd, rfl⟩⟩; (try first | exact ⟨rfl, _, World.drewN_drewN _ _ _⟩ | exact ⟨rfl, _, Eq.trans (World.drewN_drewN _ _ _) (congrArg (World.drewN _) (Nat.add_assoc _ _ _))⟩); have p146 : 0 ≤ (1 : Int) := (by omega); have q146 : 1 < (l0.length : Int) := of_decide_eq_true (by first | (with_reducible assumption) | assumption); obtain ⟨ad146, e146, hx146_0⟩ := Kd.at_int HR0.out 1 p146 q146; obtain rfl : ad144 = ad146 := (by injection e146); (try simp only [show (1 : Int).toNat = 1 from rfl, Nat.reduceMul, Nat.reduceEqDiff, Go.Addr.add, ↓reduceIte] at hx146_0); have qi146 : (1 < l0.length) = True := eq_true (by omega); (try rw [show ((1 : Int)).toNat = 1 from rfl] at hx146_0); replace hx146_0 := (HB.out.cell (World.block_lt_of_cell? w _ hx146_0)).trans hx146_0; replace p146 := eq_true p146; replace q146 := eq_true q146) | (go_at_call 33; (with_reducible refine (overfallref13_within.calls (rd l0 1) 1 1024 false _ A7.out).mono ?_); rintro e w' ⟨rfl, ⟨nd, rfl⟩⟩; (try first | exact ⟨rfl, _, World.drewN_drewN _ _ _⟩ | exact ⟨rfl, _, Eq.trans (World.drewN_drewN _ _ _) (congrArg (World.drewN _) (Nat.add_assoc _ _ _))⟩))))
            go_meet
            case rel => exact ⟨_, (true), (by first | rfl | (simp; done) | (simp [*]; done)), H', ⟨by first | omega | exact Nat.le_refl _⟩, ⟨by repeat (first | (with_reducible first | exact HB.out | apply below_alloc | apply pw_below_drewN | apply below_drew1) | exact HB.out)⟩⟩
        · rw [if_neg c6] at H
          exact absurd H (by simp)
      · replace c5 := Bool.eq_false_iff.mpr c5
        subst c5
        have H1 : (overfallref13_Valid.j0 k l0 true) = some r := by rw [if_neg (show ¬ (false = true) by decide)] at H; exact H
        clear H
        have H := H1
        clear H1
        have H' := Aside0.mk H
        clear H
        have p144 : 0 ≤ (0 : Int) := (by omega)
        have q144 : 0 < (l0.length : Int) := of_decide_eq_true (by first | (with_reducible assumption) | assumption)
        obtain ⟨ad144, e144, hx144_0⟩ := Kd.at_int HR0.out 0 p144 q144
        cases e144
        have qi144 : (0 < l0.length) = True := eq_true (by omega)
        (try rw [show ((0 : Int)).toNat = 0 from rfl] at hx144_0)
        (try rw [Addr.add_zero'] at hx144_0)
        replace hx144_0 := (HB.out.cell (World.block_lt_of_cell? w _ hx144_0)).trans hx144_0
        replace p144 := eq_true p144
        replace q144 := eq_true q144
        go_wp2_with (first | (go_at_call 33; (with_reducible refine (overfallref13_within.calls (rd l0 0) 1 8 false _ A4.out).mono ?_); rintro e w' ⟨rfl, ⟨nd, rfl⟩⟩; (try first | exact ⟨rfl, _, World.drewN_drewN _ _ _⟩ | exact ⟨rfl, _, Eq.trans (World.drewN_drewN _ _ _) (congrArg (World.drewN _) (Nat.add_assoc _ _ _))⟩)))
        repeat (go_quiet (first | (go_at_call 33; (with_reducible refine (overfallref13_within.calls (rd l0 0) 1 8 false _ A4.out).mono ?_); rintro e w' ⟨rfl, ⟨nd, rfl⟩⟩; (try first | exact ⟨rfl, _, World.drewN_drewN _ _ _⟩ | exact ⟨rfl, _, Eq.trans (World.drewN_drewN _ _ _) (congrArg (World.drewN _) (Nat.add_assoc _ _ _))⟩))); try go_wp2_with (first | (go_at_call 33; (with_reducible refine (overfallref13_within.calls (rd l0 0) 1 8 false _ A4.out).mono ?_); rintro e w' ⟨rfl, ⟨nd, rfl⟩⟩; (try first | exact ⟨rfl, _, World.drewN_drewN _ _ _⟩ | exact ⟨rfl, _, Eq.trans (World.drewN_drewN _ _ _) (congrArg (World.drewN _) (Nat.add_assoc _ _ _))⟩))))
        go_meet
        case rel => exact ⟨_, (true), (by first | rfl | (simp; done) | (simp [*]; done)), H', ⟨by first | omega | exact Nat.le_refl _⟩, ⟨by repeat (first | (with_reducible first | exact HB.out | apply below_alloc | apply pw_below_drewN | apply below_drew1) | exact HB.out)⟩⟩
    · rw [if_neg c3] at H
      exact absurd H (by simp)
  case rest =>
    clear HC2
    try clear c1
    try clear p1
    try clear q1
    try clear hx1
    try clear qi1
    try clear c2
    try clear p2
    try clear c3
    try clear c3b0
    try clear c3b1
    try clear c5
    try clear c6
    try clear c6b0
    try clear c6b1
    try clear c8
    try clear c9
    try clear c9b0
    try clear c9b1
    try clear c11
    try clear c12
    try clear c12b0
    try clear c12b1
    try clear hx144_0
    try clear hx146_0
    try clear hx148_0
    try clear hx150_0
    try clear p144
    try clear p146
    try clear p148
    try clear p150
    try clear q144
    try clear q146
    try clear q148
    try clear q150
    obtain ⟨kq, x28_1, rfl, HA, HJ1, HB⟩ := hcut
    cases kq with
    | zero => exact absurd HA.out (by simp [overfallref13_Valid.j0])
    | succ kj1 =>
      have H := HA.out
      clear HA
      simp only [overfallref13_Valid.j0] at H
      by_cases c14 : x28_1 = true
      · subst c14
        have H1 : (some false) = some r := by rw [if_pos rfl] at H; exact H
        clear H
        have H := H1
        clear H1
        obtain rfl := Option.some.inj H
        go_wp2
        repeat (go_quiet (fail); try go_wp2)
        go_ret
        exact ⟨by first | rfl | (simp [errW_none, errW_some] <;> rfl) | (simp [*, errW_none, errW_some] <;> rfl), by repeat (first | (with_reducible first | exact HB.out | apply below_alloc | apply pw_below_drewN | apply below_drew1) | exact HB.out)⟩
      · replace c14 := Bool.eq_false_iff.mpr c14
        subst c14
        have H1 : (if 5 < (l0.length : Int) then (if (rd l0 5) < 0 then (overfallref13_Valid.j1 kj1 l0 true) else (if 4 < (l0.length : Int) then (if (rd l0 4) < (rd l0 5) then (overfallref13_Valid.j1 kj1 l0 true) else (if 6 < (l0.length : Int) then (if (rd l0 6) < 0 then (overfallref13_Valid.j1 kj1 l0 true) else (if 7 < (l0.length : Int) then (if 2 < (l0.length : Int) then ((overfallref13_within.f (rd l0 7) (rd l0 2) 1125899906842624).bind fun t158 => (overfallref13_Valid.j1 kj1 l0 (!t158))) else (none)) else (none))) else (none))) else (none))) else (none)) = some r := by rw [if_neg (show ¬ (false = true) by decide)] at H; exact H
        clear H
        have H := H1
        clear H1
        have HC15 := Aside0.mk H
        clear H
        go_upto_region 3 with (fail)
        repeat (go_quiet (fail); go_upto_region 3 with (fail))
        go_cut [57] (fun v57 wc => ∃ (kq : Nat) (x57_14 : Bool), v57 = .bool x57_14 ∧ Aside0 (overfallref13_Valid.j1 kq l0 x57_14 = some r) ∧ Aside0 (kq ≤ kj1) ∧ Aside0 (Below w.heap.size w wc))
        case first =>
          have H := HC15.out
          clear HC15
          by_cases c16 : 5 < (l0.length : Int)
          · rw [if_pos c16] at H
            have c16b0 : decide (5 < (l0.length : Int)) = true := decide_eq_true c16
            have c16b1 : decide (5 < l0.length) = true := decide_eq_true (by omega)
            clear c16
            (first | rw [c16b0] | (simp only [i64_w, i32_w]; rw [c16b0]) | skip)
            by_cases c17 : (rd l0 5) < 0
            · rw [if_pos c17] at H
              have c17b0 : decide ((rd l0 5) < 0) = true := decide_eq_true c17
              clear c17
              have H' := Aside0.mk H
              clear H
              have p152 : 0 ≤ (5 : Int) := (by omega)
              have q152 : 5 < (l0.length : Int) := of_decide_eq_true (by first | (with_reducible assumption) | assumption)
              obtain ⟨ad152, e152, hx152_0⟩ := Kd.at_int HR0.out 5 p152 q152
              cases e152
              (try simp only [show (5 : Int).toNat = 5 from rfl, Nat.reduceMul, Nat.reduceEqDiff, Go.Addr.add, ↓reduceIte] at hx152_0)
              have qi152 : (5 < l0.length) = True := eq_true (by omega)
              (try rw [show ((5 : Int)).toNat = 5 from rfl] at hx152_0)
              replace hx152_0 := (HB.out.cell (World.block_lt_of_cell? w _ hx152_0)).trans hx152_0
              replace p152 := eq_true p152
              replace q152 := eq_true q152
              go_wp2
              repeat (go_quiet (fail); try go_wp2)
              go_meet
              case rel => exact ⟨_, (true), (by first | rfl | (simp; done) | (simp [*]; done)), H', ⟨by have := HJ1.out; first | omega | exact Nat.le_refl _⟩, ⟨by repeat (first | (with_reducible first | exact HB.out | apply below_alloc | apply pw_below_drewN | apply below_drew1) | exact HB.out)⟩⟩
            · rw [if_neg c17] at H
              have c17b0 : decide ((rd l0 5) < 0) = false := decide_eq_false c17
              clear c17
              by_cases c18 : 4 < (l0.length : Int)
              · rw [if_pos c18] at H
                have c18b0 : decide (4 < (l0.length : Int)) = true := decide_eq_true c18
                have c18b1 : decide (4 < l0.length) = true := decide_eq_true (by omega)
                clear c18
                by_cases c19 : (rd l0 4) < (rd l0 5)
                · rw [if_pos c19] at H
                  have c19b0 : decide ((rd l0 4) < (rd l0 5)) = true := decide_eq_true c19
                  clear c19
                  have H' := Aside0.mk H
                  clear H
                  have p152 : 0 ≤ (5 : Int) := (by omega)
                  have q152 : 5 < (l0.length : Int) := of_decide_eq_true (by first | (with_reducible assumption) | assumption)
                  obtain ⟨ad152, e152, hx152_0⟩ := Kd.at_int HR0.out 5 p152 q152
                  cases e152
                  (try simp only [show (5 : Int).toNat = 5 from rfl, Nat.reduceMul, Nat.reduceEqDiff, Go.Addr.add, ↓reduceIte] at hx152_0)
                  have qi152 : (5 < l0.length) = True := eq_true (by omega)
                  (try rw [show ((5 : Int)).toNat = 5 from rfl] at hx152_0)
                  replace hx152_0 := (HB.out.cell (World.block_lt_of_cell? w _ hx152_0)).trans hx152_0
                  replace p152 := eq_true p152
                  replace q152 := eq_true q152
                  have p153 : 0 ≤ (4 : Int) := (by omega)
                  have q153 : 4 < (l0.length : Int) := of_decide_eq_true (by first | (with_reducible assumption) | assumption)
                  obtain ⟨ad153, e153, hx153_0⟩ := Kd.at_int HR0.out 4 p153 q153
                  obtain rfl : ad152 = ad153 := (by injection e153)
                  (try simp only [show (4 : Int).toNat = 4 from rfl, Nat.reduceMul, Nat.reduceEqDiff, Go.Addr.add, ↓reduceIte] at hx153_0)
                  have qi153 : (4 < l0.length) = True := eq_true (by omega)
                  (try rw [show ((4 : Int)).toNat = 4 from rfl] at hx153_0)
                  replace hx153_0 := (HB.out.cell (World.block_lt_of_cell? w _ hx153_0)).trans hx153_0
                  replace p153 := eq_true p153
                  replace q153 := eq_true q153
                  have p154 : 0 ≤ (5 : Int) := (by omega)
                  have q154 : 5 < (l0.length : Int) := of_decide_eq_true (by first | (with_reducible assumption) | assumption)
                  obtain ⟨ad154, e154, hx154_0⟩ := Kd.at_int HR0.out 5 p154 q154
                  obtain rfl : ad152 = ad154 := (by injection e154)
                  (try simp only [show (5 : Int).toNat = 5 from rfl, Nat.reduceMul, Nat.reduceEqDiff, Go.Addr.add, ↓reduceIte] at hx154_0)
                  have qi154 : (5 < l0.length) = True := eq_true (by omega)
                  (try rw [show ((5 : Int)).toNat = 5 from rfl] at hx154_0)
                  replace hx154_0 := (HB.out.cell (World.block_lt_of_cell? w _ hx154_0)).trans hx154_0
                  replace p154 := eq_true p154
                  replace q154 := eq_true q154
                  go_wp2
                  repeat (go_quiet (fail); try go_wp2)
                  go_meet
                  case rel => exact ⟨_, (true), (by first | rfl | (simp; done) | (simp [*]; done)), H', ⟨by have := HJ1.out; first | omega | exact Nat.le_refl _⟩, ⟨by repeat (first | (with_reducible first | exact HB.out | apply below_alloc | apply pw_below_drewN | apply below_drew1) | exact HB.out)⟩⟩
                · rw [if_neg c19] at H
                  have c19b0 : decide ((rd l0 4) < (rd l0 5)) = false := decide_eq_false c19
                  clear c19
                  by_cases c20 : 6 < (l0.length : Int)
                  · rw [if_pos c20] at H
                    have c20b0 : decide (6 < (l0.length : Int)) = true := decide_eq_true c20
                    have c20b1 : decide (6 < l0.length) = true := decide_eq_true (by omega)
                    clear c20
                    by_cases c21 : (rd l0 6) < 0
                    · rw [if_pos c21] at H
                      have c21b0 : decide ((rd l0 6) < 0) = true := decide_eq_true c21
                      clear c21
                      have H' := Aside0.mk H
                      clear H
                      have p152 : 0 ≤ (5 : Int) := (by omega)
                      have q152 : 5 < (l0.length : Int) := of_decide_eq_true (by first | (with_reducible assumption) | assumption)
                      obtain ⟨ad152, e152, hx152_0⟩ := Kd.at_int HR0.out 5 p152 q152
                      cases e152
                      (try simp only [show (5 : Int).toNat = 5 from rfl, Nat.reduceMul, Nat.reduceEqDiff, Go.Addr.add, ↓reduceIte] at hx152_0)
                      have qi152 : (5 < l0.length) = True := eq_true (by omega)
                      (try rw [show ((5 : Int)).toNat = 5 from rfl] at hx152_0)
                      replace hx152_0 := (HB.out.cell (World.block_lt_of_cell? w _ hx152_0)).trans hx152_0
                      replace p152 := eq_true p152
                      replace q152 := eq_true q152
                      have p153 : 0 ≤ (4 : Int) := (by omega)
                      have q153 : 4 < (l0.length : Int) := of_decide_eq_true (by first | (with_reducible assumption) | assumption)
                      obtain ⟨ad153, e153, hx153_0⟩ := Kd.at_int HR0.out 4 p153 q153
                      obtain rfl : ad152 = ad153 := (by injection e153)
                      (try simp only [show (4 : Int).toNat = 4 from rfl, Nat.reduceMul, Nat.reduceEqDiff, Go.Addr.add, ↓reduceIte] at hx153_0)
                      have qi153 : (4 < l0.length) = True := eq_true (by omega)
                      (try rw [show ((4 : Int)).toNat = 4 from rfl] at hx153_0)
                      replace hx153_0 := (HB.out.cell (World.block_lt_of_cell? w _ hx153_0)).trans hx153_0
                      replace p153 := eq_true p153
                      replace q153 := eq_true q153
                      have p154 : 0 ≤ (5 : Int) := (by omega)
                      have q154 : 5 < (l0.length : Int) := of_decide_eq_true (by first | (with_reducible assumption) | assumption)
                      obtain ⟨ad154, e154, hx154_0⟩ := Kd.at_int HR0.out 5 p154 q154
                      obtain rfl : ad152 = ad154 := (by injection e154)
                      (try simp only [show (5 : Int).toNat = 5 from rfl, Nat.reduceMul, Nat.reduceEqDiff, Go.Addr.add, ↓reduceIte] at hx154_0)
                      have qi154 : (5 < l0.length) = True := eq_true (by omega)
                      (try rw [show ((5 : Int)).toNat = 5 from rfl] at hx154_0)
                      replace hx154_0 := (HB.out.cell (World.block_lt_of_cell? w _ hx154_0)).trans hx154_0
                      replace p154 := eq_true p154
                      replace q154 := eq_true q154
                      have p155 : 0 ≤ (6 : Int) := (by omega)
                      have q155 : 6 < (l0.length : Int) := of_decide_eq_true (by first | (with_reducible assumption) | assumption)
                      obtain ⟨ad155, e155, hx155_0⟩ := Kd.at_int HR0.out 6 p155 q155
                      obtain rfl : ad152 = ad155 := (by injection e155)
                      (try simp only [show (6 : Int).toNat = 6 from rfl, Nat.reduceMul, Nat.reduceEqDiff, Go.Addr.add, ↓reduceIte] at hx155_0)
                      have qi155 : (6 < l0.length) = True := eq_true (by omega)
                      (try rw [show ((6 : Int)).toNat = 6 from rfl] at hx155_0)
                      replace hx155_0 := (HB.out.cell (World.block_lt_of_cell? w _ hx155_0)).trans hx155_0
                      replace p155 := eq_true p155
                      replace q155 := eq_true q155
                      go_wp2
                      repeat (go_quiet (fail); try go_wp2)
                      go_meet
                      case rel => exact ⟨_, (true), (by first | rfl | (simp; done) | (simp [*]; done)), H', ⟨by have := HJ1.out; first | omega | exact Nat.le_refl _⟩, ⟨by repeat (first | (with_reducible first | exact HB.out | apply below_alloc | apply pw_below_drewN | apply below_drew1) | exact HB.out)⟩⟩
                    · rw [if_neg c21] at H
                      have c21b0 : decide ((rd l0 6) < 0) = false := decide_eq_false c21
                      clear c21
                      by_cases c22 : 7 < (l0.length : Int)
                      · rw [if_pos c22] at H
                        have c22b0 : decide (7 < (l0.length : Int)) = true := decide_eq_true c22
                        have c22b1 : decide (7 < l0.length) = true := decide_eq_true (by omega)
                        clear c22
                        by_cases c23 : 2 < (l0.length : Int)
                        · rw [if_pos c23] at H
                          have c23b0 : decide (2 < (l0.length : Int)) = true := decide_eq_true c23
                          have c23b1 : decide (2 < l0.length) = true := decide_eq_true (by omega)
                          clear c23
                          replace H := Option.bind_eq_some_iff.mp H
                          obtain ⟨t158, A240, H⟩ := H
                          replace H : (overfallref13_Valid.j1 kj1 l0 (!t158)) = some r := H
                          have A24 := Aside0.mk A240
                          clear A240
                          have H' := Aside0.mk H
                          clear H
                          have p152 : 0 ≤ (5 : Int) := (by omega)
                          have q152 : 5 < (l0.length : Int) := of_decide_eq_true (by first | (with_reducible assumption) | assumption)
                          obtain ⟨ad152, e152, hx152_0⟩ := Kd.at_int HR0.out 5 p152 q152
                          cases e152
                          (try simp only [show (5 : Int).toNat = 5 from rfl, Nat.reduceMul, Nat.reduceEqDiff, Go.Addr.add, ↓reduceIte] at hx152_0)
                          have qi152 : (5 < l0.length) = True := eq_true (by omega)
                          (try rw [show ((5 : Int)).toNat = 5 from rfl] at hx152_0)
                          replace hx152_0 := (HB.out.cell (World.block_lt_of_cell? w _ hx152_0)).trans hx152_0
                          replace p152 := eq_true p152
                          replace q152 := eq_true q152
                          have p153 : 0 ≤ (4 : Int) := (by omega)
                          have q153 : 4 < (l0.length : Int) := of_decide_eq_true (by first | (with_reducible assumption) | assumption)
                          obtain ⟨ad153, e153, hx153_0⟩ := Kd.at_int HR0.out 4 p153 q153
                          obtain rfl : ad152 = ad153 := (by injection e153)
                          (try simp only [show (4 : Int).toNat = 4 from rfl, Nat.reduceMul, Nat.reduceEqDiff, Go.Addr.add, ↓reduceIte] at hx153_0)
                          have qi153 : (4 < l0.length) = True := eq_true (by omega)
                          (try rw [show ((4 : Int)).toNat = 4 from rfl] at hx153_0)
                          replace hx153_0 := (HB.out.cell (World.block_lt_of_cell? w _ hx153_0)).trans hx153_0
                          replace p153 := eq_true p153
                          replace q153 := eq_true q153
                          have p154 : 0 ≤ (5 : Int) := (by omega)
                          have q154 : 5 < (l0.length : Int) := of_decide_eq_true (by first | (with_reducible assumption) | assumption)
                          obtain ⟨ad154, e154, hx154_0⟩ := Kd.at_int HR0.out 5 p154 q154
                          obtain rfl : ad152 = ad154 := (by injection e154)
                          (try simp only [show (5 : Int).toNat = 5 from rfl, Nat.reduceMul, Nat.reduceEqDiff, Go.Addr.add, ↓reduceIte] at hx154_0)
                          have qi154 : (5 < l0.length) = True := eq_true (by omega)
                          (try rw [show ((5 : Int)).toNat = 5 from rfl] at hx154_0)
                          replace hx154_0 := (HB.out.cell (World.block_lt_of_cell? w _ hx154_0)).trans hx154_0
                          replace p154 := eq_true p154
                          replace q154 := eq_true q154
                          have p155 : 0 ≤ (6 : Int) := (by omega)
                          have q155 : 6 < (l0.length : Int) := of_decide_eq_true (by first | (with_reducible assumption) | assumption)
                          obtain ⟨ad155, e155, hx155_0⟩ := Kd.at_int HR0.out 6 p155 q155
                          obtain rfl : ad152 = ad155 := (by injection e155)
                          (try simp only [show (6 : Int).toNat = 6 from rfl, Nat.reduceMul, Nat.reduceEqDiff, Go.Addr.add, ↓reduceIte] at hx155_0)
                          have qi155 : (6 < l0.length) = True := eq_true (by omega)
                          (try rw [show ((6 : Int)).toNat = 6 from rfl] at hx155_0)
                          replace hx155_0 := (HB.out.cell (World.block_lt_of_cell? w _ hx155_0)).trans hx155_0
                          replace p155 := eq_true p155
                          replace q155 := eq_true q155
                          have p156 : 0 ≤ (7 : Int) := (by omega)
                          have q156 : 7 < (l0.length : Int) := of_decide_eq_true (by first | (with_reducible assumption) | assumption)
                          obtain ⟨ad156, e156, hx156_0⟩ := Kd.at_int HR0.out 7 p156 q156
                          obtain rfl : ad152 = ad156 := (by injection e156)
                          (try simp only [show (7 : Int).toNat = 7 from rfl, Nat.reduceMul, Nat.reduceEqDiff, Go.Addr.add, ↓reduceIte] at hx156_0)
                          have qi156 : (7 < l0.length) = True := eq_true (by omega)
                          (try rw [show ((7 : Int)).toNat = 7 from rfl] at hx156_0)
                          replace hx156_0 := (HB.out.cell (World.block_lt_of_cell? w _ hx156_0)).trans hx156_0
                          replace p156 := eq_true p156
                          replace q156 := eq_true q156
                          have p157 : 0 ≤ (2 : Int) := (by omega)
                          have q157 : 2 < (l0.length : Int) := of_decide_eq_true (by first | (with_reducible assumption) | assumption)
                          obtain ⟨ad157, e157, hx157_0⟩ := Kd.at_int HR0.out 2 p157 q157
                          obtain rfl : ad152 = ad157 := (by injection e157)
                          (try simp only [show (2 : Int).toNat = 2 from rfl, Nat.reduceMul, Nat.reduceEqDiff, Go.Addr.add, ↓reduceIte] at hx157_0)
                          have qi157 : (2 < l0.length) = True := eq_true (by omega)
                          (try rw [show ((2 : Int)).toNat = 2 from rfl] at hx157_0)
                          replace hx157_0 := (HB.out.cell (World.block_lt_of_cell? w _ hx157_0)).trans hx157_0
                          replace p157 := eq_true p157
                          replace q157 := eq_true q157
                          go_wp2_with (first | (go_at_call 33; (with_reducible refine (overfallref13_within.calls (rd l0 7) (rd l0 2) 1125899906842624 t158 _ A24.out).mono ?_); rintro e w' ⟨rfl, ⟨nd, rfl⟩⟩; (try first | exact ⟨rfl, _, World.drewN_drewN _ _ _⟩ | exact ⟨rfl, _, Eq.trans (World.drewN_drewN _ _ _) (congrArg (World.drewN _) (Nat.add_assoc _ _ _))⟩)))
                          repeat (go_quiet (first | (go_at_call 33; (with_reducible refine (overfallref13_within.calls (rd l0 7) (rd l0 2) 1125899906842624 t158 _ A24.out).mono ?_); rintro e w' ⟨rfl, ⟨nd, rfl⟩⟩; (try first | exact ⟨rfl, _, World.drewN_drewN _ _ _⟩ | exact ⟨rfl, _, Eq.trans (World.drewN_drewN _ _ _) (congrArg (World.drewN _) (Nat.add_assoc _ _ _))⟩))); try go_wp2_with (first | (go_at_call 33; (with_reducible refine (overfallref13_within.calls (rd l0 7) (rd l0 2) 1125899906842624 t158 _ A24.out).mono ?_); rintro e w' ⟨rfl, ⟨nd, rfl⟩⟩; (try first | exact ⟨rfl, _, World.drewN_drewN _ _ _⟩ | exact ⟨rfl, _, Eq.trans (World.drewN_drewN _ _ _) (congrArg (World.drewN _) (Nat.add_assoc _ _ _))⟩))))
                          go_meet
                          case rel => exact ⟨_, (!t158), (by first | rfl | (simp; done) | (simp [*]; done)), H', ⟨by have := HJ1.out; first | omega | exact Nat.le_refl _⟩, ⟨by repeat (first | (with_reducible first | exact HB.out | apply below_alloc | apply pw_below_drewN | apply below_drew1) | exact HB.out)⟩⟩
                        · rw [if_neg c23] at H
                          exact absurd H (by simp)
                      · rw [if_neg c22] at H
                        exact absurd H (by simp)
                  · rw [if_neg c20] at H
                    exact absurd H (by simp)
              · rw [if_neg c18] at H
                exact absurd H (by simp)
          · rw [if_neg c16] at H
            exact absurd H (by simp)
        case rest =>
          clear HC15
          try clear c1
          try clear p1
          try clear q1
          try clear hx1
          try clear qi1
          try clear c2
          try clear p2
          try clear c3
          try clear c3b0
          try clear c3b1
          try clear c5
          try clear c6
          try clear c6b0
          try clear c6b1
          try clear c8
          try clear c9
          try clear c9b0
          try clear c9b1
          try clear c11
          try clear c12
          try clear c12b0
          try clear c12b1
          try clear c14
          try clear p14
          try clear q14
          try clear hx14
          try clear qi14
          try clear p15
          try clear q15
          try clear hx15
          try clear qi15
          try clear c16
          try clear c16b0
          try clear c16b1
          try clear c17
          try clear c17b0
          try clear c18
          try clear c18b0
          try clear c18b1
          try clear c19
          try clear c19b0
          try clear c20
          try clear c20b0
          try clear c20b1
          try clear c21
          try clear c21b0
          try clear c22
          try clear c22b0
          try clear c22b1
          try clear c23
          try clear c23b0
          try clear c23b1
          try clear hx144_0
          try clear hx146_0
          try clear hx148_0
          try clear hx150_0
          try clear hx152_0
          try clear hx153_0
          try clear hx154_0
          try clear hx155_0
          try clear hx156_0
          try clear hx157_0
          try clear p1
          try clear p144
          try clear p146
          try clear p148
          try clear p150
          try clear p152
          try clear p153
          try clear p154
          try clear p155
          try clear p156
          try clear p157
          try clear p2
          try clear q1
          try clear q144
          try clear q146
          try clear q148
          try clear q150
          try clear q152
          try clear q153
          try clear q154
          try clear q155
          try clear q156
          try clear q157
          obtain ⟨kq, x57_14, rfl, HA, HJ14, HB⟩ := hcut
          cases kq with
          | zero => exact absurd HA.out (by simp [overfallref13_Valid.j1])
          | succ kj14 =>
            have H := HA.out
            clear HA
            simp only [overfallref13_Valid.j1] at H
            by_cases c25 : x57_14 = true
            · subst c25
              have H1 : (some false) = some r := by rw [if_pos rfl] at H; exact H
              clear H
              have H := H1
              clear H1
              obtain rfl := Option.some.inj H
              go_wp2
              repeat (go_quiet (fail); try go_wp2)
              go_ret
              exact ⟨by first | rfl | (simp [errW_none, errW_some] <;> rfl) | (simp [*, errW_none, errW_some] <;> rfl), by repeat (first | (with_reducible first | exact HB.out | apply below_alloc | apply pw_below_drewN | apply below_drew1) | exact HB.out)⟩
            · replace c25 := Bool.eq_false_iff.mpr c25
              subst c25
              have H1 : ((overfallref13_Pid.f l0).bind fun bt159 => ((overfallref11_Right.f bt159.1 bt159.2.1 bt159.2.2.1 bt159.2.2.2.1 bt159.2.2.2.2.1 bt159.2.2.2.2.2.1 bt159.2.2.2.2.2.2).bind fun t166 => (if t166 = true then (if 14 < (l0.length : Int) then ((overfallref13_within.f (rd l0 14) 1 16).bind fun t168 => (if t168 = true then (if 15 < (l0.length : Int) then ((overfallref13_within.f (rd l0 15) 2 64).bind fun t170 => (if t170 = true then ((overfallref04_Right.f kj14 (rd l0 15)).bind fun t172 => (some t172)) else (some false))) else (none)) else (some false))) else (none)) else (some false)))) = some r := by rw [if_neg (show ¬ (false = true) by decide)] at H; exact H
              clear H
              have H := H1
              clear H1
              replace H := Option.bind_eq_some_iff.mp H
              obtain ⟨⟨t159, t160, t161, t162, t163, t164, t165⟩, A260, H⟩ := H
              replace H : ((overfallref11_Right.f t159 t160 t161 t162 t163 t164 t165).bind fun t166 => (if t166 = true then (if 14 < (l0.length : Int) then ((overfallref13_within.f (rd l0 14) 1 16).bind fun t168 => (if t168 = true then (if 15 < (l0.length : Int) then ((overfallref13_within.f (rd l0 15) 2 64).bind fun t170 => (if t170 = true then ((overfallref04_Right.f kj14 (rd l0 15)).bind fun t172 => (some t172)) else (some false))) else (none)) else (some false))) else (none)) else (some false))) = some r := H
              have A26 := Aside0.mk A260
              clear A260
              replace H := Option.bind_eq_some_iff.mp H
              obtain ⟨t166, A270, H⟩ := H
              replace H : (if t166 = true then (if 14 < (l0.length : Int) then ((overfallref13_within.f (rd l0 14) 1 16).bind fun t168 => (if t168 = true then (if 15 < (l0.length : Int) then ((overfallref13_within.f (rd l0 15) 2 64).bind fun t170 => (if t170 = true then ((overfallref04_Right.f kj14 (rd l0 15)).bind fun t172 => (some t172)) else (some false))) else (none)) else (some false))) else (none)) else (some false)) = some r := H
              have A27 := Aside0.mk A270
              clear A270
              by_cases c28 : t166 = true
              · subst c28
                have H1 : (if 14 < (l0.length : Int) then ((overfallref13_within.f (rd l0 14) 1 16).bind fun t168 => (if t168 = true then (if 15 < (l0.length : Int) then ((overfallref13_within.f (rd l0 15) 2 64).bind fun t170 => (if t170 = true then ((overfallref04_Right.f kj14 (rd l0 15)).bind fun t172 => (some t172)) else (some false))) else (none)) else (some false))) else (none)) = some r := by rw [if_pos rfl] at H; exact H
                clear H
                have H := H1
                clear H1
                by_cases c29 : 14 < (l0.length : Int)
                · rw [if_pos c29] at H
                  have c29b0 : decide (14 < (l0.length : Int)) = true := decide_eq_true c29
                  have c29b1 : decide (14 < l0.length) = true := decide_eq_true (by omega)
                  clear c29
                  replace H := Option.bind_eq_some_iff.mp H
                  obtain ⟨t168, A300, H⟩ := H
                  replace H : (if t168 = true then (if 15 < (l0.length : Int) then ((overfallref13_within.f (rd l0 15) 2 64).bind fun t170 => (if t170 = true then ((overfallref04_Right.f kj14 (rd l0 15)).bind fun t172 => (some t172)) else (some false))) else (none)) else (some false)) = some r := H
                  have A30 := Aside0.mk A300
                  clear A300
                  by_cases c31 : t168 = true
                  · subst c31
                    have H1 : (if 15 < (l0.length : Int) then ((overfallref13_within.f (rd l0 15) 2 64).bind fun t170 => (if t170 = true then ((overfallref04_Right.f kj14 (rd l0 15)).bind fun t172 => (some t172)) else (some false))) else (none)) = some r := by rw [if_pos rfl] at H; exact H
                    clear H
                    have H := H1
                    clear H1
                    by_cases c32 : 15 < (l0.length : Int)
                    · rw [if_pos c32] at H
                      have c32b0 : decide (15 < (l0.length : Int)) = true := decide_eq_true c32
                      have c32b1 : decide (15 < l0.length) = true := decide_eq_true (by omega)
                      clear c32
                      replace H := Option.bind_eq_some_iff.mp H
                      obtain ⟨t170, A330, H⟩ := H
                      replace H : (if t170 = true then ((overfallref04_Right.f kj14 (rd l0 15)).bind fun t172 => (some t172)) else (some false)) = some r := H
                      have A33 := Aside0.mk A330
                      clear A330
                      by_cases c34 : t170 = true
                      · subst c34
                        have H1 : ((overfallref04_Right.f kj14 (rd l0 15)).bind fun t172 => (some t172)) = some r := by rw [if_pos rfl] at H; exact H
                        clear H
                        have H := H1
                        clear H1
                        replace H := Option.bind_eq_some_iff.mp H
                        obtain ⟨t172, A350, H⟩ := H
                        replace H : (some t172) = some r := H
                        have A35 := Aside0.mk A350
                        clear A350
                        obtain rfl := Option.some.inj H
                        go_wp2_with (first | (go_at_call 35; (with_reducible refine (overfallref13_Pid.calls _ _ l0 t159 t160 t161 t162 t163 t164 t165 _ ?side1 ?side2 A26.out).mono ?_); (case side1 => repeat (first | exact (Kd.C_below HR0.out HB.out) | (with_reducible refine Kd.C_alloc ?_ _) | (with_reducible refine Kd.C_drewN ?_ _) | (with_reducible refine Kd.C_drew ?_))); (case side2 => exact HC0.out); rintro e w36 ⟨rfl, hb⟩; have n0_ := Aside0.mk (below_step (by repeat (first | (with_reducible first | exact HB.out | apply below_alloc | apply pw_below_drewN | apply below_drew1) | exact HB.out)) hb); clear HB; have HB := n0_; clear n0_; (try clear hb); (try clear hb2); (try clear hk); (try clear hi)) | (go_at_call 34; (with_reducible refine (overfallref11_Right.calls t159 t160 t161 t162 t163 t164 t165 true _ A27.out).mono ?_); rintro e w37 ⟨rfl, hb⟩; have n0_ := Aside0.mk (below_step (by repeat (first | (with_reducible first | exact HB.out | apply below_alloc | apply pw_below_drewN | apply below_drew1) | exact HB.out)) hb); clear HB; have HB := n0_; clear n0_; (try clear hb); (try clear hb2); (try clear hk); (try clear hi); have p167 : 0 ≤ (14 : Int) := (by omega); have q167 : 14 < (l0.length : Int) := of_decide_eq_true (by first | (with_reducible assumption) | assumption); obtain ⟨ad167, e167, hx167_0⟩ := Kd.at_int HR0.out 14 p167 q167; cases e167; (try simp only [show (14 : Int).toNat = 14 from rfl, Nat.reduceMul, Nat.reduceEqDiff, Go.Addr.add, ↓reduceIte] at hx167_0); have qi167 : (14 < l0.length) = True := eq_true (by omega); (try rw [show ((14 : Int)).toNat = 14 from rfl] at hx167_0); replace hx167_0 := (HB.out.cell (World.block_lt_of_cell? w _ hx167_0)).trans hx167_0; replace p167 := eq_true p167; replace q167 := eq_true q167) | (go_at_call 33; (with_reducible refine (overfallref13_within.calls (rd l0 14) 1 16 true _ A30.out).mono ?_); rintro e w' ⟨rfl, ⟨nd, rfl⟩⟩; (try first | exact ⟨rfl, _, World.drewN_drewN _ _ _⟩ | exact ⟨rfl, _, Eq.trans (World.drewN_drewN _ _ _) (congrArg (World.drewN _) (Nat.add_assoc _ _ _))⟩); have p169 : 0 ≤ (15 : Int) := (by omega); have q169 : 15 < (l0.length : Int) := of_decide_eq_true (by first | (with_reducible assumption) | assumption); obtain ⟨ad169, e169, hx169_0⟩ := Kd.at_int HR0.out 15 p169 q169; obtain rfl : ad167 = ad169 := (by injection e169); (try simp only [show (15 : Int).toNat = 15 from rfl, Nat.reduceMul, Nat.reduceEqDiff, Go.Addr.add, ↓reduceIte] at hx169_0); have qi169 : (15 < l0.length) = True := eq_true (by omega); (try rw [show ((15 : Int)).toNat = 15 from rfl] at hx169_0); replace hx169_0 := (HB.out.cell (World.block_lt_of_cell? w _ hx169_0)).trans hx169_0; replace p169 := eq_true p169; replace q169 := eq_true q169) | (go_at_call 33; (with_reducible refine (overfallref13_within.calls (rd l0 15) 2 64 true _ A33.out).mono ?_); rintro e w' ⟨rfl, ⟨nd, rfl⟩⟩; (try first | exact ⟨rfl, _, World.drewN_drewN _ _ _⟩ | exact ⟨rfl, _, Eq.trans (World.drewN_drewN _ _ _) (congrArg (World.drewN _) (Nat.add_assoc _ _ _))⟩); have p171 : 0 ≤ (15 : Int) := (by omega); have q171 : 15 < (l0.length : Int) := of_decide_eq_true (by first | (with_reducible assumption) | assumption); obtain ⟨ad171, e171, hx171_0⟩ := Kd.at_int HR0.out 15 p171 q171; obtain rfl : ad167 = ad171 := (by injection e171); (try simp only [show (15 : Int).toNat = 15 from rfl, Nat.reduceMul, Nat.reduceEqDiff, Go.Addr.add, ↓reduceIte] at hx171_0); have qi171 : (15 < l0.length) = True := eq_true (by omega); (try rw [show ((15 : Int)).toNat = 15 from rfl] at hx171_0); replace hx171_0 := (HB.out.cell (World.block_lt_of_cell? w _ hx171_0)).trans hx171_0; replace p171 := eq_true p171; replace q171 := eq_true q171) | (go_at_call 36; (with_reducible refine (overfallref04_Right.calls kj14 (rd l0 15) t172 _ A35.out).mono ?_); rintro e w' ⟨rfl, ⟨nd, rfl⟩⟩; (try first | exact ⟨rfl, _, World.drewN_drewN _ _ _⟩ | exact ⟨rfl, _, Eq.trans (World.drewN_drewN _ _ _) (congrArg (World.drewN _) (Nat.add_assoc _ _ _))⟩)))
                        repeat (go_quiet (first | (go_at_call 35; (with_reducible refine (overfallref13_Pid.calls _ _ l0 t159 t160 t161 t162 t163 t164 t165 _ ?side1 ?side2 A26.out).mono ?_); (case side1 => repeat (first | exact (Kd.C_below HR0.out HB.out) | (with_reducible refine Kd.C_alloc ?_ _) | (with_reducible refine Kd.C_drewN ?_ _) | (with_reducible refine Kd.C_drew ?_))); (case side2 => exact HC0.out); rintro e w36 ⟨rfl, hb⟩; have n0_ := Aside0.mk (below_step (by repeat (first | (with_reducible first | exact HB.out | apply below_alloc | apply pw_below_drewN | apply below_drew1) | exact HB.out)) hb); clear HB; have HB := n0_; clear n0_; (try clear hb); (try clear hb2); (try clear hk); (try clear hi)) | (go_at_call 34; (with_reducible refine (overfallref11_Right.calls t159 t160 t161 t162 t163 t164 t165 true _ A27.out).mono ?_); rintro e w37 ⟨rfl, hb⟩; have n0_ := Aside0.mk (below_step (by repeat (first | (with_reducible first | exact HB.out | apply below_alloc | apply pw_below_drewN | apply below_drew1) | exact HB.out)) hb); clear HB; have HB := n0_; clear n0_; (try clear hb); (try clear hb2); (try clear hk); (try clear hi); have p167 : 0 ≤ (14 : Int) := (by omega); have q167 : 14 < (l0.length : Int) := of_decide_eq_true (by first | (with_reducible assumption) | assumption); obtain ⟨ad167, e167, hx167_0⟩ := Kd.at_int HR0.out 14 p167 q167; cases e167; (try simp only [show (14 : Int).toNat = 14 from rfl, Nat.reduceMul, Nat.reduceEqDiff, Go.Addr.add, ↓reduceIte] at hx167_0); have qi167 : (14 < l0.length) = True := eq_true (by omega); (try rw [show ((14 : Int)).toNat = 14 from rfl] at hx167_0); replace hx167_0 := (HB.out.cell (World.block_lt_of_cell? w _ hx167_0)).trans hx167_0; replace p167 := eq_true p167; replace q167 := eq_true q167) | (go_at_call 33; (with_reducible refine (overfallref13_within.calls (rd l0 14) 1 16 true _ A30.out).mono ?_); rintro e w' ⟨rfl, ⟨nd, rfl⟩⟩; (try first | exact ⟨rfl, _, World.drewN_drewN _ _ _⟩ | exact ⟨rfl, _, Eq.trans (World.drewN_drewN _ _ _) (congrArg (World.drewN _) (Nat.add_assoc _ _ _))⟩); have p169 : 0 ≤ (15 : Int) := (by omega); have q169 : 15 < (l0.length : Int) := of_decide_eq_true (by first | (with_reducible assumption) | assumption); obtain ⟨ad169, e169, hx169_0⟩ := Kd.at_int HR0.out 15 p169 q169; obtain rfl : ad167 = ad169 := (by injection e169); (try simp only [show (15 : Int).toNat = 15 from rfl, Nat.reduceMul, Nat.reduceEqDiff, Go.Addr.add, ↓reduceIte] at hx169_0); have qi169 : (15 < l0.length) = True := eq_true (by omega); (try rw [show ((15 : Int)).toNat = 15 from rfl] at hx169_0); replace hx169_0 := (HB.out.cell (World.block_lt_of_cell? w _ hx169_0)).trans hx169_0; replace p169 := eq_true p169; replace q169 := eq_true q169) | (go_at_call 33; (with_reducible refine (overfallref13_within.calls (rd l0 15) 2 64 true _ A33.out).mono ?_); rintro e w' ⟨rfl, ⟨nd, rfl⟩⟩; (try first | exact ⟨rfl, _, World.drewN_drewN _ _ _⟩ | exact ⟨rfl, _, Eq.trans (World.drewN_drewN _ _ _) (congrArg (World.drewN _) (Nat.add_assoc _ _ _))⟩); have p171 : 0 ≤ (15 : Int) := (by omega); have q171 : 15 < (l0.length : Int) := of_decide_eq_true (by first | (with_reducible assumption) | assumption); obtain ⟨ad171, e171, hx171_0⟩ := Kd.at_int HR0.out 15 p171 q171; obtain rfl : ad167 = ad171 := (by injection e171); (try simp only [show (15 : Int).toNat = 15 from rfl, Nat.reduceMul, Nat.reduceEqDiff, Go.Addr.add, ↓reduceIte] at hx171_0); have qi171 : (15 < l0.length) = True := eq_true (by omega); (try rw [show ((15 : Int)).toNat = 15 from rfl] at hx171_0); replace hx171_0 := (HB.out.cell (World.block_lt_of_cell? w _ hx171_0)).trans hx171_0; replace p171 := eq_true p171; replace q171 := eq_true q171) | (go_at_call 36; (with_reducible refine (overfallref04_Right.calls kj14 (rd l0 15) t172 _ A35.out).mono ?_); rintro e w' ⟨rfl, ⟨nd, rfl⟩⟩; (try first | exact ⟨rfl, _, World.drewN_drewN _ _ _⟩ | exact ⟨rfl, _, Eq.trans (World.drewN_drewN _ _ _) (congrArg (World.drewN _) (Nat.add_assoc _ _ _))⟩))); try go_wp2_with (first | (go_at_call 35; (with_reducible refine (overfallref13_Pid.calls _ _ l0 t159 t160 t161 t162 t163 t164 t165 _ ?side1 ?side2 A26.out).mono ?_); (case side1 => repeat (first | exact (Kd.C_below HR0.out HB.out) | (with_reducible refine Kd.C_alloc ?_ _) | (with_reducible refine Kd.C_drewN ?_ _) | (with_reducible refine Kd.C_drew ?_))); (case side2 => exact HC0.out); rintro e w36 ⟨rfl, hb⟩; have n0_ := Aside0.mk (below_step (by repeat (first | (with_reducible first | exact HB.out | apply below_alloc | apply pw_below_drewN | apply below_drew1) | exact HB.out)) hb); clear HB; have HB := n0_; clear n0_; (try clear hb); (try clear hb2); (try clear hk); (try clear hi)) | (go_at_call 34; (with_reducible refine (overfallref11_Right.calls t159 t160 t161 t162 t163 t164 t165 true _ A27.out).mono ?_); rintro e w37 ⟨rfl, hb⟩; have n0_ := Aside0.mk (below_step (by repeat (first | (with_reducible first | exact HB.out | apply below_alloc | apply pw_below_drewN | apply below_drew1) | exact HB.out)) hb); clear HB; have HB := n0_; clear n0_; (try clear hb); (try clear hb2); (try clear hk); (try clear hi); have p167 : 0 ≤ (14 : Int) := (by omega); have q167 : 14 < (l0.length : Int) := of_decide_eq_true (by first | (with_reducible assumption) | assumption); obtain ⟨ad167, e167, hx167_0⟩ := Kd.at_int HR0.out 14 p167 q167; cases e167; (try simp only [show (14 : Int).toNat = 14 from rfl, Nat.reduceMul, Nat.reduceEqDiff, Go.Addr.add, ↓reduceIte] at hx167_0); have qi167 : (14 < l0.length) = True := eq_true (by omega); (try rw [show ((14 : Int)).toNat = 14 from rfl] at hx167_0); replace hx167_0 := (HB.out.cell (World.block_lt_of_cell? w _ hx167_0)).trans hx167_0; replace p167 := eq_true p167; replace q167 := eq_true q167) | (go_at_call 33; (with_reducible refine (overfallref13_within.calls (rd l0 14) 1 16 true _ A30.out).mono ?_); rintro e w' ⟨rfl, ⟨nd, rfl⟩⟩; (try first | exact ⟨rfl, _, World.drewN_drewN _ _ _⟩ | exact ⟨rfl, _, Eq.trans (World.drewN_drewN _ _ _) (congrArg (World.drewN _) (Nat.add_assoc _ _ _))⟩); have p169 : 0 ≤ (15 : Int) := (by omega); have q169 : 15 < (l0.length : Int) := of_decide_eq_true (by first | (with_reducible assumption) | assumption); obtain ⟨ad169, e169, hx169_0⟩ := Kd.at_int HR0.out 15 p169 q169; obtain rfl : ad167 = ad169 := (by injection e169); (try simp only [show (15 : Int).toNat = 15 from rfl, Nat.reduceMul, Nat.reduceEqDiff, Go.Addr.add, ↓reduceIte] at hx169_0); have qi169 : (15 < l0.length) = True := eq_true (by omega); (try rw [show ((15 : Int)).toNat = 15 from rfl] at hx169_0); replace hx169_0 := (HB.out.cell (World.block_lt_of_cell? w _ hx169_0)).trans hx169_0; replace p169 := eq_true p169; replace q169 := eq_true q169) | (go_at_call 33; (with_reducible refine (overfallref13_within.calls (rd l0 15) 2 64 true _ A33.out).mono ?_); rintro e w' ⟨rfl, ⟨nd, rfl⟩⟩; (try first | exact ⟨rfl, _, World.drewN_drewN _ _ _⟩ | exact ⟨rfl, _, Eq.trans (World.drewN_drewN _ _ _) (congrArg (World.drewN _) (Nat.add_assoc _ _ _))⟩); have p171 : 0 ≤ (15 : Int) := (by omega); have q171 : 15 < (l0.length : Int) := of_decide_eq_true (by first | (with_reducible assumption) | assumption); obtain ⟨ad171, e171, hx171_0⟩ := Kd.at_int HR0.out 15 p171 q171; obtain rfl : ad167 = ad171 := (by injection e171); (try simp only [show (15 : Int).toNat = 15 from rfl, Nat.reduceMul, Nat.reduceEqDiff, Go.Addr.add, ↓reduceIte] at hx171_0); have qi171 : (15 < l0.length) = True := eq_true (by omega); (try rw [show ((15 : Int)).toNat = 15 from rfl] at hx171_0); replace hx171_0 := (HB.out.cell (World.block_lt_of_cell? w _ hx171_0)).trans hx171_0; replace p171 := eq_true p171; replace q171 := eq_true q171) | (go_at_call 36; (with_reducible refine (overfallref04_Right.calls kj14 (rd l0 15) t172 _ A35.out).mono ?_); rintro e w' ⟨rfl, ⟨nd, rfl⟩⟩; (try first | exact ⟨rfl, _, World.drewN_drewN _ _ _⟩ | exact ⟨rfl, _, Eq.trans (World.drewN_drewN _ _ _) (congrArg (World.drewN _) (Nat.add_assoc _ _ _))⟩))))
                        go_ret
                        exact ⟨by first | rfl | (simp [errW_none, errW_some] <;> rfl) | (simp [*, errW_none, errW_some] <;> rfl), by repeat (first | (with_reducible first | exact HB.out | apply below_alloc | apply pw_below_drewN | apply below_drew1) | exact HB.out)⟩
                      · replace c34 := Bool.eq_false_iff.mpr c34
                        subst c34
                        have H1 : (some false) = some r := by rw [if_neg (show ¬ (false = true) by decide)] at H; exact H
                        clear H
                        have H := H1
                        clear H1
                        obtain rfl := Option.some.inj H
                        go_wp2_with (first | (go_at_call 35; (with_reducible refine (overfallref13_Pid.calls _ _ l0 t159 t160 t161 t162 t163 t164 t165 _ ?side1 ?side2 A26.out).mono ?_); (case side1 => repeat (first | exact (Kd.C_below HR0.out HB.out) | (with_reducible refine Kd.C_alloc ?_ _) | (with_reducible refine Kd.C_drewN ?_ _) | (with_reducible refine Kd.C_drew ?_))); (case side2 => exact HC0.out); rintro e w38 ⟨rfl, hb⟩; have n0_ := Aside0.mk (below_step (by repeat (first | (with_reducible first | exact HB.out | apply below_alloc | apply pw_below_drewN | apply below_drew1) | exact HB.out)) hb); clear HB; have HB := n0_; clear n0_; (try clear hb); (try clear hb2); (try clear hk); (try clear hi)) | (go_at_call 34; (with_reducible refine (overfallref11_Right.calls t159 t160 t161 t162 t163 t164 t165 true _ A27.out).mono ?_); rintro e w39 ⟨rfl, hb⟩; have n0_ := Aside0.mk (below_step (by repeat (first | (with_reducible first | exact HB.out | apply below_alloc | apply pw_below_drewN | apply below_drew1) | exact HB.out)) hb); clear HB; have HB := n0_; clear n0_; (try clear hb); (try clear hb2); (try clear hk); (try clear hi); have p167 : 0 ≤ (14 : Int) := (by omega); have q167 : 14 < (l0.length : Int) := of_decide_eq_true (by first | (with_reducible assumption) | assumption); obtain ⟨ad167, e167, hx167_0⟩ := Kd.at_int HR0.out 14 p167 q167; cases e167; (try simp only [show (14 : Int).toNat = 14 from rfl, Nat.reduceMul, Nat.reduceEqDiff, Go.Addr.add, ↓reduceIte] at hx167_0); have qi167 : (14 < l0.length) = True := eq_true (by omega); (try rw [show ((14 : Int)).toNat = 14 from rfl] at hx167_0); replace hx167_0 := (HB.out.cell (World.block_lt_of_cell? w _ hx167_0)).trans hx167_0; replace p167 := eq_true p167; replace q167 := eq_true q167) | (go_at_call 33; (with_reducible refine (overfallref13_within.calls (rd l0 14) 1 16 true _ A30.out).mono ?_); rintro e w' ⟨rfl, ⟨nd, rfl⟩⟩; (try first | exact ⟨rfl, _, World.drewN_drewN _ _ _⟩ | exact ⟨rfl, _, Eq.trans (World.drewN_drewN _ _ _) (congrArg (World.drewN _) (Nat.add_assoc _ _ _))⟩); have p169 : 0 ≤ (15 : Int) := (by omega); have q169 : 15 < (l0.length : Int) := of_decide_eq_true (by first | (with_reducible assumption) | assumption); obtain ⟨ad169, e169, hx169_0⟩ := Kd.at_int HR0.out 15 p169 q169; obtain rfl : ad167 = ad169 := (by injection e169); (try simp only [show (15 : Int).toNat = 15 from rfl, Nat.reduceMul, Nat.reduceEqDiff, Go.Addr.add, ↓reduceIte] at hx169_0); have qi169 : (15 < l0.length) = True := eq_true (by omega); (try rw [show ((15 : Int)).toNat = 15 from rfl] at hx169_0); replace hx169_0 := (HB.out.cell (World.block_lt_of_cell? w _ hx169_0)).trans hx169_0; replace p169 := eq_true p169; replace q169 := eq_true q169) | (go_at_call 33; (with_reducible refine (overfallref13_within.calls (rd l0 15) 2 64 false _ A33.out).mono ?_); rintro e w' ⟨rfl, ⟨nd, rfl⟩⟩; (try first | exact ⟨rfl, _, World.drewN_drewN _ _ _⟩ | exact ⟨rfl, _, Eq.trans (World.drewN_drewN _ _ _) (congrArg (World.drewN _) (Nat.add_assoc _ _ _))⟩)))
                        repeat (go_quiet (first | (go_at_call 35; (with_reducible refine (overfallref13_Pid.calls _ _ l0 t159 t160 t161 t162 t163 t164 t165 _ ?side1 ?side2 A26.out).mono ?_); (case side1 => repeat (first | exact (Kd.C_below HR0.out HB.out) | (with_reducible refine Kd.C_alloc ?_ _) | (with_reducible refine Kd.C_drewN ?_ _) | (with_reducible refine Kd.C_drew ?_))); (case side2 => exact HC0.out); rintro e w38 ⟨rfl, hb⟩; have n0_ := Aside0.mk (below_step (by repeat (first | (with_reducible first | exact HB.out | apply below_alloc | apply pw_below_drewN | apply below_drew1) | exact HB.out)) hb); clear HB; have HB := n0_; clear n0_; (try clear hb); (try clear hb2); (try clear hk); (try clear hi)) | (go_at_call 34; (with_reducible refine (overfallref11_Right.calls t159 t160 t161 t162 t163 t164 t165 true _ A27.out).mono ?_); rintro e w39 ⟨rfl, hb⟩; have n0_ := Aside0.mk (below_step (by repeat (first | (with_reducible first | exact HB.out | apply below_alloc | apply pw_below_drewN | apply below_drew1) | exact HB.out)) hb); clear HB; have HB := n0_; clear n0_; (try clear hb); (try clear hb2); (try clear hk); (try clear hi); have p167 : 0 ≤ (14 : Int) := (by omega); have q167 : 14 < (l0.length : Int) := of_decide_eq_true (by first | (with_reducible assumption) | assumption); obtain ⟨ad167, e167, hx167_0⟩ := Kd.at_int HR0.out 14 p167 q167; cases e167; (try simp only [show (14 : Int).toNat = 14 from rfl, Nat.reduceMul, Nat.reduceEqDiff, Go.Addr.add, ↓reduceIte] at hx167_0); have qi167 : (14 < l0.length) = True := eq_true (by omega); (try rw [show ((14 : Int)).toNat = 14 from rfl] at hx167_0); replace hx167_0 := (HB.out.cell (World.block_lt_of_cell? w _ hx167_0)).trans hx167_0; replace p167 := eq_true p167; replace q167 := eq_true q167) | (go_at_call 33; (with_reducible refine (overfallref13_within.calls (rd l0 14) 1 16 true _ A30.out).mono ?_); rintro e w' ⟨rfl, ⟨nd, rfl⟩⟩; (try first | exact ⟨rfl, _, World.drewN_drewN _ _ _⟩ | exact ⟨rfl, _, Eq.trans (World.drewN_drewN _ _ _) (congrArg (World.drewN _) (Nat.add_assoc _ _ _))⟩); have p169 : 0 ≤ (15 : Int) := (by omega); have q169 : 15 < (l0.length : Int) := of_decide_eq_true (by first | (with_reducible assumption) | assumption); obtain ⟨ad169, e169, hx169_0⟩ := Kd.at_int HR0.out 15 p169 q169; obtain rfl : ad167 = ad169 := (by injection e169); (try simp only [show (15 : Int).toNat = 15 from rfl, Nat.reduceMul, Nat.reduceEqDiff, Go.Addr.add, ↓reduceIte] at hx169_0); have qi169 : (15 < l0.length) = True := eq_true (by omega); (try rw [show ((15 : Int)).toNat = 15 from rfl] at hx169_0); replace hx169_0 := (HB.out.cell (World.block_lt_of_cell? w _ hx169_0)).trans hx169_0; replace p169 := eq_true p169; replace q169 := eq_true q169) | (go_at_call 33; (with_reducible refine (overfallref13_within.calls (rd l0 15) 2 64 false _ A33.out).mono ?_); rintro e w' ⟨rfl, ⟨nd, rfl⟩⟩; (try first | exact ⟨rfl, _, World.drewN_drewN _ _ _⟩ | exact ⟨rfl, _, Eq.trans (World.drewN_drewN _ _ _) (congrArg (World.drewN _) (Nat.add_assoc _ _ _))⟩))); try go_wp2_with (first | (go_at_call 35; (with_reducible refine (overfallref13_Pid.calls _ _ l0 t159 t160 t161 t162 t163 t164 t165 _ ?side1 ?side2 A26.out).mono ?_); (case side1 => repeat (first | exact (Kd.C_below HR0.out HB.out) | (with_reducible refine Kd.C_alloc ?_ _) | (with_reducible refine Kd.C_drewN ?_ _) | (with_reducible refine Kd.C_drew ?_))); (case side2 => exact HC0.out); rintro e w38 ⟨rfl, hb⟩; have n0_ := Aside0.mk (below_step (by repeat (first | (with_reducible first | exact HB.out | apply below_alloc | apply pw_below_drewN | apply below_drew1) | exact HB.out)) hb); clear HB; have HB := n0_; clear n0_; (try clear hb); (try clear hb2); (try clear hk); (try clear hi)) | (go_at_call 34; (with_reducible refine (overfallref11_Right.calls t159 t160 t161 t162 t163 t164 t165 true _ A27.out).mono ?_); rintro e w39 ⟨rfl, hb⟩; have n0_ := Aside0.mk (below_step (by repeat (first | (with_reducible first | exact HB.out | apply below_alloc | apply pw_below_drewN | apply below_drew1) | exact HB.out)) hb); clear HB; have HB := n0_; clear n0_; (try clear hb); (try clear hb2); (try clear hk); (try clear hi); have p167 : 0 ≤ (14 : Int) := (by omega); have q167 : 14 < (l0.length : Int) := of_decide_eq_true (by first | (with_reducible assumption) | assumption); obtain ⟨ad167, e167, hx167_0⟩ := Kd.at_int HR0.out 14 p167 q167; cases e167; (try simp only [show (14 : Int).toNat = 14 from rfl, Nat.reduceMul, Nat.reduceEqDiff, Go.Addr.add, ↓reduceIte] at hx167_0); have qi167 : (14 < l0.length) = True := eq_true (by omega); (try rw [show ((14 : Int)).toNat = 14 from rfl] at hx167_0); replace hx167_0 := (HB.out.cell (World.block_lt_of_cell? w _ hx167_0)).trans hx167_0; replace p167 := eq_true p167; replace q167 := eq_true q167) | (go_at_call 33; (with_reducible refine (overfallref13_within.calls (rd l0 14) 1 16 true _ A30.out).mono ?_); rintro e w' ⟨rfl, ⟨nd, rfl⟩⟩; (try first | exact ⟨rfl, _, World.drewN_drewN _ _ _⟩ | exact ⟨rfl, _, Eq.trans (World.drewN_drewN _ _ _) (congrArg (World.drewN _) (Nat.add_assoc _ _ _))⟩); have p169 : 0 ≤ (15 : Int) := (by omega); have q169 : 15 < (l0.length : Int) := of_decide_eq_true (by first | (with_reducible assumption) | assumption); obtain ⟨ad169, e169, hx169_0⟩ := Kd.at_int HR0.out 15 p169 q169; obtain rfl : ad167 = ad169 := (by injection e169); (try simp only [show (15 : Int).toNat = 15 from rfl, Nat.reduceMul, Nat.reduceEqDiff, Go.Addr.add, ↓reduceIte] at hx169_0); have qi169 : (15 < l0.length) = True := eq_true (by omega); (try rw [show ((15 : Int)).toNat = 15 from rfl] at hx169_0); replace hx169_0 := (HB.out.cell (World.block_lt_of_cell? w _ hx169_0)).trans hx169_0; replace p169 := eq_true p169; replace q169 := eq_true q169) | (go_at_call 33; (with_reducible refine (overfallref13_within.calls (rd l0 15) 2 64 false _ A33.out).mono ?_); rintro e w' ⟨rfl, ⟨nd, rfl⟩⟩; (try first | exact ⟨rfl, _, World.drewN_drewN _ _ _⟩ | exact ⟨rfl, _, Eq.trans (World.drewN_drewN _ _ _) (congrArg (World.drewN _) (Nat.add_assoc _ _ _))⟩))))
                        go_ret
                        exact ⟨by first | rfl | (simp [errW_none, errW_some] <;> rfl) | (simp [*, errW_none, errW_some] <;> rfl), by repeat (first | (with_reducible first | exact HB.out | apply below_alloc | apply pw_below_drewN | apply below_drew1) | exact HB.out)⟩
                    · rw [if_neg c32] at H
                      exact absurd H (by simp)
                  · replace c31 := Bool.eq_false_iff.mpr c31
                    subst c31
                    have H1 : (some false) = some r := by rw [if_neg (show ¬ (false = true) by decide)] at H; exact H
                    clear H
                    have H := H1
                    clear H1
                    obtain rfl := Option.some.inj H
                    go_wp2_with (first | (go_at_call 35; (with_reducible refine (overfallref13_Pid.calls _ _ l0 t159 t160 t161 t162 t163 t164 t165 _ ?side1 ?side2 A26.out).mono ?_); (case side1 => repeat (first | exact (Kd.C_below HR0.out HB.out) | (with_reducible refine Kd.C_alloc ?_ _) | (with_reducible refine Kd.C_drewN ?_ _) | (with_reducible refine Kd.C_drew ?_))); (case side2 => exact HC0.out); rintro e w40 ⟨rfl, hb⟩; have n0_ := Aside0.mk (below_step (by repeat (first | (with_reducible first | exact HB.out | apply below_alloc | apply pw_below_drewN | apply below_drew1) | exact HB.out)) hb); clear HB; have HB := n0_; clear n0_; (try clear hb); (try clear hb2); (try clear hk); (try clear hi)) | (go_at_call 34; (with_reducible refine (overfallref11_Right.calls t159 t160 t161 t162 t163 t164 t165 true _ A27.out).mono ?_); rintro e w41 ⟨rfl, hb⟩; have n0_ := Aside0.mk (below_step (by repeat (first | (with_reducible first | exact HB.out | apply below_alloc | apply pw_below_drewN | apply below_drew1) | exact HB.out)) hb); clear HB; have HB := n0_; clear n0_; (try clear hb); (try clear hb2); (try clear hk); (try clear hi); have p167 : 0 ≤ (14 : Int) := (by omega); have q167 : 14 < (l0.length : Int) := of_decide_eq_true (by first | (with_reducible assumption) | assumption); obtain ⟨ad167, e167, hx167_0⟩ := Kd.at_int HR0.out 14 p167 q167; cases e167; (try simp only [show (14 : Int).toNat = 14 from rfl, Nat.reduceMul, Nat.reduceEqDiff, Go.Addr.add, ↓reduceIte] at hx167_0); have qi167 : (14 < l0.length) = True := eq_true (by omega); (try rw [show ((14 : Int)).toNat = 14 from rfl] at hx167_0); replace hx167_0 := (HB.out.cell (World.block_lt_of_cell? w _ hx167_0)).trans hx167_0; replace p167 := eq_true p167; replace q167 := eq_true q167) | (go_at_call 33; (with_reducible refine (overfallref13_within.calls (rd l0 14) 1 16 false _ A30.out).mono ?_); rintro e w' ⟨rfl, ⟨nd, rfl⟩⟩; (try first | exact ⟨rfl, _, World.drewN_drewN _ _ _⟩ | exact ⟨rfl, _, Eq.trans (World.drewN_drewN _ _ _) (congrArg (World.drewN _) (Nat.add_assoc _ _ _))⟩)))
                    repeat (go_quiet (first | (go_at_call 35; (with_reducible refine (overfallref13_Pid.calls _ _ l0 t159 t160 t161 t162 t163 t164 t165 _ ?side1 ?side2 A26.out).mono ?_); (case side1 => repeat (first | exact (Kd.C_below HR0.out HB.out) | (with_reducible refine Kd.C_alloc ?_ _) | (with_reducible refine Kd.C_drewN ?_ _) | (with_reducible refine Kd.C_drew ?_))); (case side2 => exact HC0.out); rintro e w40 ⟨rfl, hb⟩; have n0_ := Aside0.mk (below_step (by repeat (first | (with_reducible first | exact HB.out | apply below_alloc | apply pw_below_drewN | apply below_drew1) | exact HB.out)) hb); clear HB; have HB := n0_; clear n0_; (try clear hb); (try clear hb2); (try clear hk); (try clear hi)) | (go_at_call 34; (with_reducible refine (overfallref11_Right.calls t159 t160 t161 t162 t163 t164 t165 true _ A27.out).mono ?_); rintro e w41 ⟨rfl, hb⟩; have n0_ := Aside0.mk (below_step (by repeat (first | (with_reducible first | exact HB.out | apply below_alloc | apply pw_below_drewN | apply below_drew1) | exact HB.out)) hb); clear HB; have HB := n0_; clear n0_; (try clear hb); (try clear hb2); (try clear hk); (try clear hi); have p167 : 0 ≤ (14 : Int) := (by omega); have q167 : 14 < (l0.length : Int) := of_decide_eq_true (by first | (with_reducible assumption) | assumption); obtain ⟨ad167, e167, hx167_0⟩ := Kd.at_int HR0.out 14 p167 q167; cases e167; (try simp only [show (14 : Int).toNat = 14 from rfl, Nat.reduceMul, Nat.reduceEqDiff, Go.Addr.add, ↓reduceIte] at hx167_0); have qi167 : (14 < l0.length) = True := eq_true (by omega); (try rw [show ((14 : Int)).toNat = 14 from rfl] at hx167_0); replace hx167_0 := (HB.out.cell (World.block_lt_of_cell? w _ hx167_0)).trans hx167_0; replace p167 := eq_true p167; replace q167 := eq_true q167) | (go_at_call 33; (with_reducible refine (overfallref13_within.calls (rd l0 14) 1 16 false _ A30.out).mono ?_); rintro e w' ⟨rfl, ⟨nd, rfl⟩⟩; (try first | exact ⟨rfl, _, World.drewN_drewN _ _ _⟩ | exact ⟨rfl, _, Eq.trans (World.drewN_drewN _ _ _) (congrArg (World.drewN _) (Nat.add_assoc _ _ _))⟩))); try go_wp2_with (first | (go_at_call 35; (with_reducible refine (overfallref13_Pid.calls _ _ l0 t159 t160 t161 t162 t163 t164 t165 _ ?side1 ?side2 A26.out).mono ?_); (case side1 => repeat (first | exact (Kd.C_below HR0.out HB.out) | (with_reducible refine Kd.C_alloc ?_ _) | (with_reducible refine Kd.C_drewN ?_ _) | (with_reducible refine Kd.C_drew ?_))); (case side2 => exact HC0.out); rintro e w40 ⟨rfl, hb⟩; have n0_ := Aside0.mk (below_step (by repeat (first | (with_reducible first | exact HB.out | apply below_alloc | apply pw_below_drewN | apply below_drew1) | exact HB.out)) hb); clear HB; have HB := n0_; clear n0_; (try clear hb); (try clear hb2); (try clear hk); (try clear hi)) | (go_at_call 34; (with_reducible refine (overfallref11_Right.calls t159 t160 t161 t162 t163 t164 t165 true _ A27.out).mono ?_); rintro e w41 ⟨rfl, hb⟩; have n0_ := Aside0.mk (below_step (by repeat (first | (with_reducible first | exact HB.out | apply below_alloc | apply pw_below_drewN | apply below_drew1) | exact HB.out)) hb); clear HB; have HB := n0_; clear n0_; (try clear hb); (try clear hb2); (try clear hk); (try clear hi); have p167 : 0 ≤ (14 : Int) := (by omega); have q167 : 14 < (l0.length : Int) := of_decide_eq_true (by first | (with_reducible assumption) | assumption); obtain ⟨ad167, e167, hx167_0⟩ := Kd.at_int HR0.out 14 p167 q167; cases e167; (try simp only [show (14 : Int).toNat = 14 from rfl, Nat.reduceMul, Nat.reduceEqDiff, Go.Addr.add, ↓reduceIte] at hx167_0); have qi167 : (14 < l0.length) = True := eq_true (by omega); (try rw [show ((14 : Int)).toNat = 14 from rfl] at hx167_0); replace hx167_0 := (HB.out.cell (World.block_lt_of_cell? w _ hx167_0)).trans hx167_0; replace p167 := eq_true p167; replace q167 := eq_true q167) | (go_at_call 33; (with_reducible refine (overfallref13_within.calls (rd l0 14) 1 16 false _ A30.out).mono ?_); rintro e w' ⟨rfl, ⟨nd, rfl⟩⟩; (try first | exact ⟨rfl, _, World.drewN_drewN _ _ _⟩ | exact ⟨rfl, _, Eq.trans (World.drewN_drewN _ _ _) (congrArg (World.drewN _) (Nat.add_assoc _ _ _))⟩))))
                    go_ret
                    exact ⟨by first | rfl | (simp [errW_none, errW_some] <;> rfl) | (simp [*, errW_none, errW_some] <;> rfl), by repeat (first | (with_reducible first | exact HB.out | apply below_alloc | apply pw_below_drewN | apply below_drew1) | exact HB.out)⟩
                · rw [if_neg c29] at H
                  exact absurd H (by simp)
              · replace c28 := Bool.eq_false_iff.mpr c28
                subst c28
                have H1 : (some false) = some r := by rw [if_neg (show ¬ (false = true) by decide)] at H; exact H
                clear H
                have H := H1
                clear H1
                obtain rfl := Option.some.inj H
                go_wp2_with (first | (go_at_call 35; (with_reducible refine (overfallref13_Pid.calls _ _ l0 t159 t160 t161 t162 t163 t164 t165 _ ?side1 ?side2 A26.out).mono ?_); (case side1 => repeat (first | exact (Kd.C_below HR0.out HB.out) | (with_reducible refine Kd.C_alloc ?_ _) | (with_reducible refine Kd.C_drewN ?_ _) | (with_reducible refine Kd.C_drew ?_))); (case side2 => exact HC0.out); rintro e w42 ⟨rfl, hb⟩; have n0_ := Aside0.mk (below_step (by repeat (first | (with_reducible first | exact HB.out | apply below_alloc | apply pw_below_drewN | apply below_drew1) | exact HB.out)) hb); clear HB; have HB := n0_; clear n0_; (try clear hb); (try clear hb2); (try clear hk); (try clear hi)) | (go_at_call 34; (with_reducible refine (overfallref11_Right.calls t159 t160 t161 t162 t163 t164 t165 false _ A27.out).mono ?_); rintro e w43 ⟨rfl, hb⟩; have n0_ := Aside0.mk (below_step (by repeat (first | (with_reducible first | exact HB.out | apply below_alloc | apply pw_below_drewN | apply below_drew1) | exact HB.out)) hb); clear HB; have HB := n0_; clear n0_; (try clear hb); (try clear hb2); (try clear hk); (try clear hi)))
                repeat (go_quiet (first | (go_at_call 35; (with_reducible refine (overfallref13_Pid.calls _ _ l0 t159 t160 t161 t162 t163 t164 t165 _ ?side1 ?side2 A26.out).mono ?_); (case side1 => repeat (first | exact (Kd.C_below HR0.out HB.out) | (with_reducible refine Kd.C_alloc ?_ _) | (with_reducible refine Kd.C_drewN ?_ _) | (with_reducible refine Kd.C_drew ?_))); (case side2 => exact HC0.out); rintro e w42 ⟨rfl, hb⟩; have n0_ := Aside0.mk (below_step (by repeat (first | (with_reducible first | exact HB.out | apply below_alloc | apply pw_below_drewN | apply below_drew1) | exact HB.out)) hb); clear HB; have HB := n0_; clear n0_; (try clear hb); (try clear hb2); (try clear hk); (try clear hi)) | (go_at_call 34; (with_reducible refine (overfallref11_Right.calls t159 t160 t161 t162 t163 t164 t165 false _ A27.out).mono ?_); rintro e w43 ⟨rfl, hb⟩; have n0_ := Aside0.mk (below_step (by repeat (first | (with_reducible first | exact HB.out | apply below_alloc | apply pw_below_drewN | apply below_drew1) | exact HB.out)) hb); clear HB; have HB := n0_; clear n0_; (try clear hb); (try clear hb2); (try clear hk); (try clear hi))); try go_wp2_with (first | (go_at_call 35; (with_reducible refine (overfallref13_Pid.calls _ _ l0 t159 t160 t161 t162 t163 t164 t165 _ ?side1 ?side2 A26.out).mono ?_); (case side1 => repeat (first | exact (Kd.C_below HR0.out HB.out) | (with_reducible refine Kd.C_alloc ?_ _) | (with_reducible refine Kd.C_drewN ?_ _) | (with_reducible refine Kd.C_drew ?_))); (case side2 => exact HC0.out); rintro e w42 ⟨rfl, hb⟩; have n0_ := Aside0.mk (below_step (by repeat (first | (with_reducible first | exact HB.out | apply below_alloc | apply pw_below_drewN | apply below_drew1) | exact HB.out)) hb); clear HB; have HB := n0_; clear n0_; (try clear hb); (try clear hb2); (try clear hk); (try clear hi)) | (go_at_call 34; (with_reducible refine (overfallref11_Right.calls t159 t160 t161 t162 t163 t164 t165 false _ A27.out).mono ?_); rintro e w43 ⟨rfl, hb⟩; have n0_ := Aside0.mk (below_step (by repeat (first | (with_reducible first | exact HB.out | apply below_alloc | apply pw_below_drewN | apply below_drew1) | exact HB.out)) hb); clear HB; have HB := n0_; clear n0_; (try clear hb); (try clear hb2); (try clear hk); (try clear hi))))
                go_ret
                exact ⟨by first | rfl | (simp [errW_none, errW_some] <;> rfl) | (simp [*, errW_none, errW_some] <;> rfl), by repeat (first | (with_reducible first | exact HB.out | apply below_alloc | apply pw_below_drewN | apply below_drew1) | exact HB.out)⟩

/-! ### conf_Default: function 21 -/
def conf_Default.f  : Option (Int × Int × Int × Int × Int × Int × Int × Int × Int × Int × Int × Int × Int × Int × Int × Int) := some (4, 64, 5, 100, 50, 10, 20, 1000, 2147483648, 4294967296, 1073741824, 0, 1099511627776, 64, 4, 4)
set_option maxHeartbeats 8000000 in
set_option maxRecDepth 100000 in
theorem conf_Default.calls  (r1 : Int) (r2 : Int) (r3 : Int) (r4 : Int) (r5 : Int) (r6 : Int) (r7 : Int) (r8 : Int) (r9 : Int) (r10 : Int) (r11 : Int) (r12 : Int) (r13 : Int) (r14 : Int) (r15 : Int) (r16 : Int) (w : World) (h : conf_Default.f  = some (r1, r2, r3, r4, r5, r6, r7, r8, r9, r10, r11, r12, r13, r14, r15, r16)) :
    Calls Tryd.prog 21 #[] w fun e w' => e = .returned (.agg #[.int .i64 r1, .int .i64 r2, .int .i64 r3, .int .i64 r4, .int .i64 r5, .int .i64 r6, .int .i64 r7, .int .i64 r8, .int .i64 r9, .int .i64 r10, .int .i64 r11, .int .i64 r12, .int .i64 r13, .int .i64 r14, .int .i64 r15, .int .i64 r16]) ∧ Below w.heap.size w w' := by
  have hu24 := Tryd.underlying24
  have HB := Aside0.mk (Below.refl w.heap.size w)
  have H : (some (4, 64, 5, 100, 50, 10, 20, 1000, 2147483648, 4294967296, 1073741824, 0, 1099511627776, 64, 4, 4)) = some (r1, r2, r3, r4, r5, r6, r7, r8, r9, r10, r11, r12, r13, r14, r15, r16) := h
  clear h
  simp only [Option.some.injEq, Prod.mk.injEq] at H
  obtain ⟨rfl, rfl, rfl, rfl, rfl, rfl, rfl, rfl, rfl, rfl, rfl, rfl, rfl, rfl, rfl, rfl⟩ := H
  go_enter Tryd.func21, Tryd.ntmps21
  go_wp2_with (first | ((with_reducible refine gate_dst (N := 0) rfl ?_); refine box_event ?hg (N := 0) ?hd (cs := #[.int .i64 0, .int .i64 0, .int .i64 0, .int .i64 0, .int .i64 0, .int .i64 0, .int .i64 0, .int .i64 0, .int .i64 0, .int .i64 0, .int .i64 0, .int .i64 0, .int .i64 0, .int .i64 0, .int .i64 0, .int .i64 0]) (t := 24) ?hr ?_; (case hd => rfl); (case hg => rfl); (case hr => first | (go_simp; done) | (go_simp; rfl)); intro gb173 hg w1 hbox hb; have n0_ := Aside0.mk (below_step (by repeat (first | (with_reducible first | exact HB.out | apply below_alloc | apply pw_below_drewN | apply below_drew1) | exact HB.out)) hb); have n1_ := Aside0.mk (hbox); have n2_ := Aside0.mk ((by rw [hg]; exact (below_size (by repeat (first | (with_reducible first | exact HB.out | apply below_alloc | apply pw_below_drewN | apply below_drew1) | exact HB.out))) : w.heap.size ≤ gb173)); have n3_ := Aside0.mk ((by rw [hg]; exact (below_size (by repeat (first | (with_reducible first | exact HB.out | apply below_alloc | apply pw_below_drewN | apply below_drew1) | exact HB.out))) : w.heap.size ≤ gb173)); clear HB; have HB := n0_; have BK173 := n1_; have GW173 := n2_; have GE173 := n3_; clear n0_ n1_ n2_ n3_; clear hb hbox hg; have hcz2_0 : w1.cell? ⟨gb173, 0, none⟩ = some (.int .i64 0) := (blk_cell BK173.out 0).trans rfl; have hcz2_1 : w1.cell? ⟨gb173, 1, none⟩ = some (.int .i64 0) := (blk_cell BK173.out 1).trans rfl; have hcz2_2 : w1.cell? ⟨gb173, 2, none⟩ = some (.int .i64 0) := (blk_cell BK173.out 2).trans rfl; have hcz2_3 : w1.cell? ⟨gb173, 3, none⟩ = some (.int .i64 0) := (blk_cell BK173.out 3).trans rfl; have hcz2_4 : w1.cell? ⟨gb173, 4, none⟩ = some (.int .i64 0) := (blk_cell BK173.out 4).trans rfl; have hcz2_5 : w1.cell? ⟨gb173, 5, none⟩ = some (.int .i64 0) := (blk_cell BK173.out 5).trans rfl; have hcz2_6 : w1.cell? ⟨gb173, 6, none⟩ = some (.int .i64 0) := (blk_cell BK173.out 6).trans rfl; have hcz2_7 : w1.cell? ⟨gb173, 7, none⟩ = some (.int .i64 0) := (blk_cell BK173.out 7).trans rfl; have hcz2_8 : w1.cell? ⟨gb173, 8, none⟩ = some (.int .i64 0) := (blk_cell BK173.out 8).trans rfl; have hcz2_9 : w1.cell? ⟨gb173, 9, none⟩ = some (.int .i64 0) := (blk_cell BK173.out 9).trans rfl; have hcz2_10 : w1.cell? ⟨gb173, 10, none⟩ = some (.int .i64 0) := (blk_cell BK173.out 10).trans rfl; have hcz2_11 : w1.cell? ⟨gb173, 11, none⟩ = some (.int .i64 0) := (blk_cell BK173.out 11).trans rfl; have hcz2_12 : w1.cell? ⟨gb173, 12, none⟩ = some (.int .i64 0) := (blk_cell BK173.out 12).trans rfl; have hcz2_13 : w1.cell? ⟨gb173, 13, none⟩ = some (.int .i64 0) := (blk_cell BK173.out 13).trans rfl; have hcz2_14 : w1.cell? ⟨gb173, 14, none⟩ = some (.int .i64 0) := (blk_cell BK173.out 14).trans rfl; have hcz2_15 : w1.cell? ⟨gb173, 15, none⟩ = some (.int .i64 0) := (blk_cell BK173.out 15).trans rfl; have hfz2_0 := blk_frozen BK173.out 0; have hfz2_1 := blk_frozen BK173.out 1; have hfz2_2 := blk_frozen BK173.out 2; have hfz2_3 := blk_frozen BK173.out 3; have hfz2_4 := blk_frozen BK173.out 4; have hfz2_5 := blk_frozen BK173.out 5; have hfz2_6 := blk_frozen BK173.out 6; have hfz2_7 := blk_frozen BK173.out 7; have hfz2_8 := blk_frozen BK173.out 8; have hfz2_9 := blk_frozen BK173.out 9; have hfz2_10 := blk_frozen BK173.out 10; have hfz2_11 := blk_frozen BK173.out 11; have hfz2_12 := blk_frozen BK173.out 12; have hfz2_13 := blk_frozen BK173.out 13; have hfz2_14 := blk_frozen BK173.out 14; have hfz2_15 := blk_frozen BK173.out 15))
  refine bodyPost_ret (results_cell_row rfl _ _ gb173 24 #[.int .i64 4, .int .i64 64, .int .i64 5, .int .i64 100, .int .i64 50, .int .i64 10, .int .i64 20, .int .i64 1000, .int .i64 2147483648, .int .i64 4294967296, .int .i64 1073741824, .int .i64 0, .int .i64 1099511627776, .int .i64 64, .int .i64 4, .int .i64 4] (0, 0) _ rfl (by (with_reducible repeat (first | refine blk_drewN ?_ _ | refine blk_drew ?_ | refine blk_alloc ?_ _)); refine blk_put (cs := #[.int .i64 4, .int .i64 64, .int .i64 5, .int .i64 100, .int .i64 50, .int .i64 10, .int .i64 20, .int .i64 1000, .int .i64 2147483648, .int .i64 4294967296, .int .i64 1073741824, .int .i64 0, .int .i64 1099511627776, .int .i64 64, .int .i64 4, .int .i64 0]) ?_ 15 _ rfl; (with_reducible repeat (first | refine blk_drewN ?_ _ | refine blk_drew ?_ | refine blk_alloc ?_ _)); refine blk_put (cs := #[.int .i64 4, .int .i64 64, .int .i64 5, .int .i64 100, .int .i64 50, .int .i64 10, .int .i64 20, .int .i64 1000, .int .i64 2147483648, .int .i64 4294967296, .int .i64 1073741824, .int .i64 0, .int .i64 1099511627776, .int .i64 64, .int .i64 0, .int .i64 0]) ?_ 14 _ rfl; (with_reducible repeat (first | refine blk_drewN ?_ _ | refine blk_drew ?_ | refine blk_alloc ?_ _)); refine blk_put (cs := #[.int .i64 4, .int .i64 64, .int .i64 5, .int .i64 100, .int .i64 50, .int .i64 10, .int .i64 20, .int .i64 1000, .int .i64 2147483648, .int .i64 4294967296, .int .i64 1073741824, .int .i64 0, .int .i64 1099511627776, .int .i64 0, .int .i64 0, .int .i64 0]) ?_ 13 _ rfl; (with_reducible repeat (first | refine blk_drewN ?_ _ | refine blk_drew ?_ | refine blk_alloc ?_ _)); refine blk_put (cs := #[.int .i64 4, .int .i64 64, .int .i64 5, .int .i64 100, .int .i64 50, .int .i64 10, .int .i64 20, .int .i64 1000, .int .i64 2147483648, .int .i64 4294967296, .int .i64 1073741824, .int .i64 0, .int .i64 0, .int .i64 0, .int .i64 0, .int .i64 0]) ?_ 12 _ rfl; (with_reducible repeat (first | refine blk_drewN ?_ _ | refine blk_drew ?_ | refine blk_alloc ?_ _)); refine blk_put (cs := #[.int .i64 4, .int .i64 64, .int .i64 5, .int .i64 100, .int .i64 50, .int .i64 10, .int .i64 20, .int .i64 1000, .int .i64 2147483648, .int .i64 4294967296, .int .i64 1073741824, .int .i64 0, .int .i64 0, .int .i64 0, .int .i64 0, .int .i64 0]) ?_ 11 _ rfl; (with_reducible repeat (first | refine blk_drewN ?_ _ | refine blk_drew ?_ | refine blk_alloc ?_ _)); refine blk_put (cs := #[.int .i64 4, .int .i64 64, .int .i64 5, .int .i64 100, .int .i64 50, .int .i64 10, .int .i64 20, .int .i64 1000, .int .i64 2147483648, .int .i64 4294967296, .int .i64 0, .int .i64 0, .int .i64 0, .int .i64 0, .int .i64 0, .int .i64 0]) ?_ 10 _ rfl; (with_reducible repeat (first | refine blk_drewN ?_ _ | refine blk_drew ?_ | refine blk_alloc ?_ _)); refine blk_put (cs := #[.int .i64 4, .int .i64 64, .int .i64 5, .int .i64 100, .int .i64 50, .int .i64 10, .int .i64 20, .int .i64 1000, .int .i64 2147483648, .int .i64 0, .int .i64 0, .int .i64 0, .int .i64 0, .int .i64 0, .int .i64 0, .int .i64 0]) ?_ 9 _ rfl; (with_reducible repeat (first | refine blk_drewN ?_ _ | refine blk_drew ?_ | refine blk_alloc ?_ _)); refine blk_put (cs := #[.int .i64 4, .int .i64 64, .int .i64 5, .int .i64 100, .int .i64 50, .int .i64 10, .int .i64 20, .int .i64 1000, .int .i64 0, .int .i64 0, .int .i64 0, .int .i64 0, .int .i64 0, .int .i64 0, .int .i64 0, .int .i64 0]) ?_ 8 _ rfl; (with_reducible repeat (first | refine blk_drewN ?_ _ | refine blk_drew ?_ | refine blk_alloc ?_ _)); refine blk_put (cs := #[.int .i64 4, .int .i64 64, .int .i64 5, .int .i64 100, .int .i64 50, .int .i64 10, .int .i64 20, .int .i64 0, .int .i64 0, .int .i64 0, .int .i64 0, .int .i64 0, .int .i64 0, .int .i64 0, .int .i64 0, .int .i64 0]) ?_ 7 _ rfl; (with_reducible repeat (first | refine blk_drewN ?_ _ | refine blk_drew ?_ | refine blk_alloc ?_ _)); refine blk_put (cs := #[.int .i64 4, .int .i64 64, .int .i64 5, .int .i64 100, .int .i64 50, .int .i64 10, .int .i64 0, .int .i64 0, .int .i64 0, .int .i64 0, .int .i64 0, .int .i64 0, .int .i64 0, .int .i64 0, .int .i64 0, .int .i64 0]) ?_ 6 _ rfl; (with_reducible repeat (first | refine blk_drewN ?_ _ | refine blk_drew ?_ | refine blk_alloc ?_ _)); refine blk_put (cs := #[.int .i64 4, .int .i64 64, .int .i64 5, .int .i64 100, .int .i64 50, .int .i64 0, .int .i64 0, .int .i64 0, .int .i64 0, .int .i64 0, .int .i64 0, .int .i64 0, .int .i64 0, .int .i64 0, .int .i64 0, .int .i64 0]) ?_ 5 _ rfl; (with_reducible repeat (first | refine blk_drewN ?_ _ | refine blk_drew ?_ | refine blk_alloc ?_ _)); refine blk_put (cs := #[.int .i64 4, .int .i64 64, .int .i64 5, .int .i64 100, .int .i64 0, .int .i64 0, .int .i64 0, .int .i64 0, .int .i64 0, .int .i64 0, .int .i64 0, .int .i64 0, .int .i64 0, .int .i64 0, .int .i64 0, .int .i64 0]) ?_ 4 _ rfl; (with_reducible repeat (first | refine blk_drewN ?_ _ | refine blk_drew ?_ | refine blk_alloc ?_ _)); refine blk_put (cs := #[.int .i64 4, .int .i64 64, .int .i64 5, .int .i64 0, .int .i64 0, .int .i64 0, .int .i64 0, .int .i64 0, .int .i64 0, .int .i64 0, .int .i64 0, .int .i64 0, .int .i64 0, .int .i64 0, .int .i64 0, .int .i64 0]) ?_ 3 _ rfl; (with_reducible repeat (first | refine blk_drewN ?_ _ | refine blk_drew ?_ | refine blk_alloc ?_ _)); refine blk_put (cs := #[.int .i64 4, .int .i64 64, .int .i64 0, .int .i64 0, .int .i64 0, .int .i64 0, .int .i64 0, .int .i64 0, .int .i64 0, .int .i64 0, .int .i64 0, .int .i64 0, .int .i64 0, .int .i64 0, .int .i64 0, .int .i64 0]) ?_ 2 _ rfl; (with_reducible repeat (first | refine blk_drewN ?_ _ | refine blk_drew ?_ | refine blk_alloc ?_ _)); refine blk_put (cs := #[.int .i64 4, .int .i64 0, .int .i64 0, .int .i64 0, .int .i64 0, .int .i64 0, .int .i64 0, .int .i64 0, .int .i64 0, .int .i64 0, .int .i64 0, .int .i64 0, .int .i64 0, .int .i64 0, .int .i64 0, .int .i64 0]) ?_ 1 _ rfl; (with_reducible repeat (first | refine blk_drewN ?_ _ | refine blk_drew ?_ | refine blk_alloc ?_ _)); refine blk_put (cs := #[.int .i64 0, .int .i64 0, .int .i64 0, .int .i64 0, .int .i64 0, .int .i64 0, .int .i64 0, .int .i64 0, .int .i64 0, .int .i64 0, .int .i64 0, .int .i64 0, .int .i64 0, .int .i64 0, .int .i64 0, .int .i64 0]) ?_ 0 _ rfl; (with_reducible repeat (first | refine blk_drewN ?_ _ | refine blk_drew ?_ | refine blk_alloc ?_ _)); exact BK173.out) Tryd.underlying24 rfl (by kernel_rfl)) rfl ?_
  exact ⟨by first | rfl | (simp [errW_none, errW_some] <;> rfl) | (simp [*, errW_none, errW_some] <;> rfl), by repeat (first | (with_reducible first | exact HB.out | apply below_alloc | apply pw_below_drewN | apply below_drew1 | refine below_set ?_ GE173.out) | exact HB.out)⟩

end Go.Proofs.YteaihgjjplgalaaDoor.PConfValid
