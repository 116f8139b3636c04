/- SteadyBursts: walked. -/
import Derived.Test.YteaihgjjplgalaaSteadyC
import Derived.Test.YteaihgjjplgalaaSliceLaw
namespace Go.Proofs.Yteaihgjjplgalaa
open Go.RowKit
set_option linter.unusedVariables false
set_option linter.unusedSimpArgs false

def bareB (b : Bool) : StepD := if b then bare 0 1 ⟨i64_0, by omega, i64_0⟩ else bare 0 0 ⟨i64_0, by omega, i64_0⟩
/-- the steps that are made of the calls. -/
def made (X : Nat → Bool) (n : Nat) : List StepD := (List.range n).map fun i => bareB (X i)
theorem made_len (X : Nat → Bool) (n : Nat) : (made X n).length = n := by simp [made]
theorem made_succ (X : Nat → Bool) (n : Nat) : made X (n + 1) = made X n ++ [bareB (X n)] := by simp [made, List.range_succ]


theorem rlater_map (from_ : Int) (xs : List StepD) : rlater from_ (xs.map StepD.toR) = (later from_ xs).map StepD.toR := by
  unfold rlater later
  rw [List.filter_map]
  rfl
/-- what Burst answers, the reference answers. -/
theorem burst_eq (from_ : Int) (xs : List StepD) : rburst from_ (xs.map StepD.toR) = burst from_ xs := by
  unfold rburst burst
  rw [rlater_map, List.map_map, List.length_map]
  have h : ((later from_ xs).map ((fun x : RStep => x.k) ∘ StepD.toR)) = (later from_ xs).map (fun x => x.k) := rfl
  rw [h]
  have := router_eq ((later from_ xs).map (fun x => x.k))
  rw [List.length_map] at this
  exact this
theorem made_now (X : Nat → Bool) (n : Nat) : ∀ s ∈ made X n, s.now = 0 ∧ (s.k = 0 ∨ s.k = 1) := by
  intro s hs
  obtain ⟨i, _, rfl⟩ := List.mem_map.1 hs
  unfold bareB
  split
  · exact ⟨rfl, .inr rfl⟩
  · exact ⟨rfl, .inl rfl⟩
theorem later_all (xs : List StepD) (h : ∀ s ∈ xs, s.now = 0) : later 0 xs = xs := by
  unfold later
  rw [List.filter_eq_self]
  intro s hs
  rw [h s hs]; decide
theorem pol_all : ∀ (ks : List Int), (∀ k ∈ ks, k = 0 ∨ k = 1) → sub ks + pol ks = ks.length
  | [], _ => by simp [sub, pol]
  | k :: ks, h => by
    have h1 : sub (k :: ks) = sub [k] + sub ks := sub_app [k] ks
    have h2 : pol (k :: ks) = pol [k] + pol ks := pol_app [k] ks
    have ih := pol_all ks (fun x hx => h x (List.mem_cons_of_mem _ hx))
    rw [h1, h2, sub_one, pol_one]
    simp only [List.length_cons]
    rcases h k List.mem_cons_self with e | e <;> simp [e] <;> omega
theorem pol_le : ∀ (ks : List Int), 0 ≤ pol ks ∧ pol ks ≤ ks.length
  | [] => by simp [pol]
  | k :: ks => by
    have h2 : pol (k :: ks) = pol [k] + pol ks := pol_app [k] ks
    have ih := pol_le ks
    rw [h2, pol_one]
    simp only [List.length_cons]
    split <;> omega
/-- THE LAW: a part's own burst is no greater, and its submits less half its polls are no more. -/
theorem bursts_law (xs : List StepD) (h : ∀ s ∈ xs, s.now = 0 ∧ (s.k = 0 ∨ s.k = 1)) (l m : Nat) :
    burst 0 ((xs.drop l).take m) ≤ burst 0 xs ∧ (((xs.drop l).take m).length : Int) - pol (((xs.drop l).take m).map (·.k)) ≤ burst 0 xs + pol (((xs.drop l).take m).map (·.k)) / 2 := by
  have hp : ∀ s ∈ (xs.drop l).take m, s.now = 0 ∧ (s.k = 0 ∨ s.k = 1) := fun s hs => h s (List.mem_of_mem_drop (List.mem_of_mem_take hs))
  have e : xs.map (·.k) = (xs.take l).map (·.k) ++ ((xs.drop l).take m).map (·.k) ++ ((xs.drop l).drop m).map (·.k) := by
    rw [List.append_assoc, ← List.map_append, List.take_append_drop, ← List.map_append, List.take_append_drop]
  have b1 := bfold_part ((xs.take l).map (·.k)) (((xs.drop l).take m).map (·.k)) (((xs.drop l).drop m).map (·.k))
  have b2 := bfold_v2 ((xs.take l).map (·.k)) (((xs.drop l).take m).map (·.k)) (((xs.drop l).drop m).map (·.k))
  rw [← e] at b1 b2
  have e1 := pol_all (((xs.drop l).take m).map (·.k)) (fun k hk => by obtain ⟨s, hs, rfl⟩ := List.mem_map.1 hk; exact (hp s hs).2)
  rw [List.length_map] at e1
  have e2 := v12 (((xs.drop l).take m).map (·.k))
  unfold v1 at e2
  unfold burst
  rw [later_all xs (fun s hs => (h s hs).1), later_all _ (fun s hs => (hp s hs).1)]
  constructor <;> omega
theorem burst_bound (from_ : Int) (xs : List StepD) : 0 ≤ burst from_ xs ∧ burst from_ xs ≤ xs.length + 1 := by
  unfold burst
  have := bfold_bound ((later from_ xs).map (·.k))
  have h : (later from_ xs).length ≤ xs.length := List.length_filter_le _ _
  rw [List.length_map] at this
  omega

set_option maxRecDepth 100000 in
set_option maxHeartbeats 4000000 in
theorem steadyBursts_walk (a : Option Addr) (len cap : Nat) (X : Nat → Bool) (F T : Int) (w : World) (hlc : len ≤ cap) (hF : 0 ≤ F ∧ F ≤ 255) (hT : 0 ≤ T ∧ T ≤ 255) (hm : cap ≤ maxLen)
    (hrow : 0 < len → ∃ b off, a = some ⟨b, off, none⟩ ∧ ∀ i, i < len → w.cell? ⟨b, off + i, none⟩ = some (.bool (X i))) :
    Calls Try.prog 6 #[.slice a len cap, .int .u8 F, .int .u8 T] w fun e w' => e = .returned (.bool true) ∧ Upd (fun _ => False) w w' := by
  obtain ⟨n, hn⟩ : ∃ n : Nat, n = min len 60 := ⟨_, rfl⟩
  have hnl : n ≤ len := by omega
  have hn60 : n ≤ 60 := by omega
  have hmi : (if (60 : Int) < (len : Int) then (60 : Int) else (len : Int)) = (n : Int) := by omega
  clear hn
  have Hrow := Lib.hid hrow
  clear hrow
  go_enter Try.func6, Try.ntmps6
  go_wp2_with fail
  refine (steady_awake _).mono ?_
  rintro e w1 ⟨rfl, u1⟩
  go_wp2_with fail
  clear hmi
  go_loopw [7, 28] (fun out i wr => ∃ k : Nat, i = .int .i64 k ∧ k ≤ n ∧ SOwn w.heap.size wr out (made X k) ∧ Upd (fun _ => False) w wr) (fun _ i _ => n - (intOf i).toNat)
  case atStart => exact ⟨0, rfl, Nat.zero_le _, OwnV.nil _ _ _ _ _, u1⟩
  case round =>
    obtain ⟨k, rfl, hk, hO, hU⟩ := hrel
    have hsz := hU.size
    by_cases hlt : k < n
    · obtain ⟨b, off, rfl, hc⟩ := Hrow.out (by omega)
      have hck : wr.cell? ⟨b, off + k, none⟩ = some (.bool (X k)) := by
        have := hc k (by omega)
        have hb := World.block_lt_of_cell? w _ this
        rw [World.cell?_of_block (hU.block b hb (fun h => h))]
        exact this
      have hb2 : ((made X k).length + 1) * 104 ≤ 140737488355328 := by rw [made_len]; omega
      have hb1 : (made X k).length + 1 ≤ maxLen := by rw [made_len]; unfold maxLen; omega
      clear hc
      have HXk := Lib.hid (show X k = X k from rfl)
      generalize hXk : X k = xk at hck
      have HXk := Lib.hid hXk
      clear hXk
      cases xk
      · skip
        go_wp2_with (at_builtin; refine wpList_append_rec rfl _ _ 66 69 _ 11 104 StepD.cells StepD.len rfl Try.underlying66 infoStep rfl (by decide) _ w.heap.size (made X k) rfl ((hO.alloc _).alloc _) ⟨wr.heap.size + 1, 0, none⟩ 1 (bareB false) rfl (news_alloc _ _ _ _ (by simp)) (by simp [bareB, bare, StepD.cells, Value.oneCell']) hb1 hb2 (by simp; omega) ?_; rintro v' w' hO' hu ⟨a', c', rfl⟩)
        go_roundw
        case rel => exact ⟨k + 1, by go_num, by omega, by rw [made_succ, HXk.out]; exact hO', ((hU.alloc _).alloc _).then hu (fun i hi e => by have := (hO.lt i e).1; omega)⟩
        case measure => simp [intOf]; omega
      · skip
        go_wp2_with (at_builtin; refine wpList_append_rec rfl _ _ 66 69 _ 11 104 StepD.cells StepD.len rfl Try.underlying66 infoStep rfl (by decide) _ w.heap.size (made X k) rfl ((hO.alloc _).alloc _) ⟨wr.heap.size + 1, 0, none⟩ 1 (bareB true) rfl (news_alloc _ _ _ _ (by simp)) (by simp [bareB, bare, StepD.cells, Value.oneCell']) hb1 hb2 (by simp; omega) ?_; rintro v' w' hO' hu ⟨a', c', rfl⟩)
        go_roundw
        case rel => exact ⟨k + 1, by go_num, by omega, by rw [made_succ, HXk.out]; exact hO', ((hU.alloc _).alloc _).then hu (fun i hi e => by have := (hO.lt i e).1; omega)⟩
        case measure => simp [intOf]; omega
    · rw [show k = n by omega] at hO
      obtain ⟨al, cl, rfl⟩ := hO.form
      have hS := hO.sl StepD.len
      rw [made_len] at *
      have hd : decide ((k : Int) < (n : Int)) = false := decide_eq_false (by omega)
      clear Hrow u1 hm
      go_wp2_with fail
      refine (burst_any _ (made X n) (by rw [made_len]; omega) 0 _ (hS.mono (fun b hb => hb.2))).mono ?_
      rintro e w2 ⟨rfl, u2⟩
      have hn1 : (((n : Int) + 1) == 0) = false := by simp; omega
      go_wp2_with fail
      go_quiet (fail)
      have hi0 := Int.emod_nonneg F (show (n : Int) + 1 ≠ 0 by omega)
      have hi1 := Int.emod_lt_of_pos F (show 0 < (n : Int) + 1 by omega)
      have hj0 := Int.emod_nonneg T (show (n : Int) + 1 ≠ 0 by omega)
      have hj1 := Int.emod_lt_of_pos T (show 0 < (n : Int) + 1 by omega)
      obtain ⟨i, hi⟩ : ∃ i : Nat, F % ((n : Int) + 1) = i := ⟨(F % ((n : Int) + 1)).toNat, by omega⟩
      obtain ⟨j, hj⟩ : ∃ j : Nat, T % ((n : Int) + 1) = j := ⟨(T % ((n : Int) + 1)).toNat, by omega⟩
      rw [hi] at hi1 ⊢
      rw [hj] at hj1 ⊢
      have hin : i ≤ n := by omega
      have hjn : j ≤ n := by omega
      obtain ⟨w3, hw3⟩ : ∃ w3, w3 = w2.drewN nq := ⟨_, rfl⟩
      have hO3 : SOwn w.heap.size w3 (.slice al n cl) (made X n) := by rw [hw3]; exact (hO.upd u2 (fun _ _ h => h)).drewN _
      have u3 : Upd (fun _ => False) w w3 := by rw [hw3]; exact (hU.trans u2).drewN _
      rw [← hw3]
      clear hw3 hi hj hi0 hi1 hj0 hj1 hU hO hS u2 hd hF hT
      have hcl : n ≤ cl := by
        obtain ⟨a', cap', e, h1, _⟩ := hO3.sl StepD.len
        rw [made_len] at e h1
        cases e
        exact h1
      obtain ⟨lo, hi, hlo, hlh, hhn, hsw⟩ : ∃ lo hi : Nat, lo ≤ hi ∧ lo ≤ n ∧ hi ≤ n ∧ ((lo = i ∧ hi = j ∧ ¬ j < i) ∨ (lo = j ∧ hi = i ∧ j < i)) := by
        by_cases h : j < i
        · exact ⟨j, i, by omega, hjn, hin, .inr ⟨rfl, rfl, h⟩⟩
        · exact ⟨i, j, by omega, hin, hjn, .inl ⟨rfl, rfl, h⟩⟩
      have hsl := fun wx => run_partAt (P := Try.prog) (t := 66) (e := 69) (sz := 11) Try.underlying66 (by kernel_rfl) (fun w => by kernel_rfl) al n cl lo hi hlo (by omega) wx
      obtain ⟨pv, hpv⟩ : ∃ pv, part 11 (.slice al n cl) lo hi = pv := ⟨_, rfl⟩
      rw [hpv] at hsl
      have HP := Lib.hid hpv
      clear hpv
      have hpS : StepsAt (· < w3.heap.size) w3 pv (((made X n).drop lo).take (hi - lo)) := by
        rw [← HP.out]
        exact ((hO3.sl StepD.len).mono (fun b hb => hb.2)).part lo hi hlo (by rw [made_len]; omega)
      have hlaw := bursts_law (made X n) (made_now X n) lo (hi - lo)
      have hbb := burst_bound 0 (made X n)
      have hpl : (((made X n).drop lo).take (hi - lo)).length = hi - lo := by rw [List.length_take, List.length_drop, made_len]; omega
      have hkk : ∀ s ∈ ((made X n).drop lo).take (hi - lo), s.k = 0 ∨ s.k = 1 := fun s hs => (made_now X n s (List.mem_of_mem_drop (List.mem_of_mem_take hs))).2
      rw [made_len] at hbb
      generalize ((made X n).drop lo).take (hi - lo) = ps at *
      have HB := Lib.hid (show burst 0 (made X n) = burst 0 (made X n) from rfl)
      generalize hbv : burst 0 (made X n) = bv at *
      have hlaw1 := hlaw.1
      have HL2 := Lib.hid hlaw.2
      have HK := Lib.hid hkk
      have hbm : (if (0:Int) ≤ 0 then bv else 0) = bv := by simp
      clear hlaw hkk HB
      have hgt : decide (bv < burst 0 ps) = false := decide_eq_false (by omega)
      rcases hsw with ⟨rfl, rfl, hji⟩ | ⟨rfl, rfl, hji⟩
      case' inl => have hd2 : decide ((hi : Int) < (lo : Int)) = false := decide_eq_false (by omega)
      case' inr => have hd2 : decide ((lo : Int) < (hi : Int)) = true := decide_eq_true (by omega)
      all_goals
        go_wp2_with fail
        refine (own_any pv ps (by omega) w3 hpS).mono ?_
        rintro e w4 ⟨ov, rfl, hR, u4⟩
        go_wp2_with fail
        refine (rburst_any ov (ps.map StepD.toR) (by rw [List.length_map]; omega) 0 w4 ((hR.sl RStep.len).mono (fun b hb => hb.2))).mono ?_
        rintro e w5 ⟨rfl, u5⟩
        rw [burst_eq]
        go_wp2_with fail
        refine (own_any _ (made X n) (by rw [made_len]; omega) w5 ((((hO3.upd u4 (fun _ _ h => h)).upd u5 (fun _ _ h => h)).sl StepD.len).mono (fun b hb => hb.2))).mono ?_
        rintro e w6 ⟨ov2, rfl, hR2, u6⟩
        go_wp2_with fail
        refine (rburst_any ov2 ((made X n).map StepD.toR) (by rw [List.length_map, made_len]; omega) 0 w6 ((hR2.sl RStep.len).mono (fun b hb => hb.2))).mono ?_
        rintro e w7 ⟨rfl, u7⟩
        rw [burst_eq, hbv]
        have hR7 := ((hR.upd u5 (fun _ _ h => h)).upd u6 (fun _ _ h => h)).upd u7 (fun _ _ h => h)
        have hlr : (ps.map StepD.toR).length = hi - lo ∨ (ps.map StepD.toR).length = lo - hi := by rw [List.length_map, hpl]; first | exact .inl rfl | exact .inr rfl
        have hS7 := hR7.sl RStep.len
        have u8 : Upd (fun _ => False) w w7 := (((u3.trans u4).trans u5).trans u6).trans u7
        have hlp : ps.length ≤ 60 := by omega
        obtain ⟨wz, rfl⟩ : ∃ wz : World, wz = w7 := ⟨_, rfl⟩
        clear hR hR2 hR7 hO3 hpS hsl HP u3 u4 u5 u6 u7 hlr
        obtain ⟨ap, cp, rfl, h1, h2, h3, h4⟩ := hS7
        rw [List.length_map] at *
        have H4 := Lib.hid h4
        clear h4 h3 h2 h1
        have hK0 := HK.out
        go_wp2_with fail
        go_loopw [15, 16, 78] (fun su po i wr => ∃ k : Nat, i = .int .i64 k ∧ k ≤ ps.length ∧ po = .int .i64 (pol ((ps.take k).map (·.k))) ∧ su = .int .i64 (k - pol ((ps.take k).map (·.k))) ∧ Upd (fun _ => False) wz wr) (fun _ _ i _ => ps.length - (intOf i).toNat)
        case atStart => exact ⟨0, rfl, Nat.zero_le _, rfl, rfl, Upd.refl _ _⟩
        case round =>
          obtain ⟨k, rfl, hk, rfl, rfl, hU⟩ := hrel
          have hpk := pol_le ((ps.take k).map (·.k))
          have hlk : ((ps.take k).map (·.k)).length = k := by rw [List.length_map, List.length_take]; omega
          rw [hlk] at hpk
          by_cases hlt : k < ps.length
          · obtain ⟨b, off, rfl, hb, hc⟩ := H4.out (by omega)
            have hx : ps[k]? = some ps[k] := List.getElem?_eq_getElem hlt
            have hkx := hK0 _ (List.getElem_mem hlt)
            generalize ps[k] = x at hx hkx
            have hck : ∀ j, j < 3 → wr.cell? ⟨b, off + k * 3 + j, none⟩ = (StepD.toR x).cells[j]? := fun j hj => by
              rw [World.cell?_of_block (hU.block b hb.2 (fun h => h))]
              exact hc k _ (by rw [List.getElem?_map, hx]; rfl) j hj
            have g0 : wr.cell? ⟨b, off + k * 3, none⟩ = _ := hck 0 (by decide)
            have g1 := hck 1 (by decide)
            have g2 := hck 2 (by decide)
            simp only [StepD.toR, RStep.cells, List.getElem?_cons_zero, List.getElem?_cons_succ] at g0 g1 g2
            have HT := Lib.hid (show pol ((ps.take (k + 1)).map (·.k)) = pol ((ps.take k).map (·.k)) + (if x.k = 1 then 1 else 0) by
              rw [take_map_succ (·.k) hx, pol_app, pol_one])
            clear hc hck hx
            generalize hp : pol ((ps.take k).map (·.k)) = pk at *
            clear hp
            obtain ⟨now, kk, _, _, nn, _, _, _, _, _, _, _, _, _⟩ := x
            simp only [] at g0 g1 g2 hkx HT
            rcases hkx with rfl | rfl
            · go_wp2_with fail
              go_roundw
              case rel => exact ⟨k + 1, by go_num, by omega, ivl (by rw [HT.out]; simp), ivl (by rw [HT.out]; simp; omega), hU.alloc _⟩
              case measure => simp [intOf]; omega
            · go_wp2_with fail
              go_roundw
              case rel => exact ⟨k + 1, by go_num, by omega, ivl (by rw [HT.out]; simp), ivl (by rw [HT.out]; simp; omega), hU.alloc _⟩
              case measure => simp [intOf]; omega
          · rw [List.take_of_length_le (by omega)] at *
            have hlq : k = ps.length := by omega
            have hL2 := HL2.out
            rw [← hlq] at hL2
            generalize hp : pol (ps.map (·.k)) = pk at *
            have hp2 : 0 ≤ pk / 2 ∧ pk / 2 ≤ 60 := by omega
            have hd : decide (k < ps.length) = false := decide_eq_false hlt
            have hle : decide ((k : Int) - pk ≤ bv + pk / 2) = true := decide_eq_true hL2
            go_wp2_with fail
            go_ret
            refine ⟨congrArg (fun b => Ending.returned (Value.bool b)) (decide_eq_true ?_), u8.trans hU⟩
            omega
end Go.Proofs.Yteaihgjjplgalaa
