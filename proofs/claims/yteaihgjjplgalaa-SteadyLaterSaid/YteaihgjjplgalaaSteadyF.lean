/- SteadyLater: walked. -/
import Derived.Test.YteaihgjjplgalaaSteadyL
import Derived.Test.YteaihgjjplgalaaSteadyC
import Derived.Test.YteaihgjjplgalaaSliceLaw
import Derived.Test.YteaihgjjplgalaaApp
import Derived.Test.YteaihgjjplgalaaNum4
namespace Go.Proofs.Yteaihgjjplgalaa
open Go.RowKit
set_option linter.unusedVariables false
set_option linter.unusedSimpArgs false

/-- A call's data, as it comes in. -/
structure CallD where
  dt : Int
  k : Int
  t : Int
  c : Int
  n : Int
  hb : I64 dt ∧ (0 ≤ k ∧ k ≤ 255) ∧ I64 n
def CallD.cells (x : CallD) : List Value := [.int .i64 x.dt, .int .u8 x.k, .int .i64 x.t, .int .i64 x.c, .int .i64 x.n]
/-- the time behind k calls. -/
def nowAt (X : Nat → CallD) : Nat → Int
  | 0 => 0
  | k + 1 => sat (nowAt X k + max (X k).dt 0)
theorem nowAt_i64 (X : Nat → CallD) : ∀ k, I64 (nowAt X k)
  | 0 => i64_0
  | k + 1 => sat_i64 _
theorem nowAt_mono (X : Nat → CallD) (k : Nat) : nowAt X k ≤ nowAt X (k + 1) := by
  have h := nowAt_i64 X k
  show _ ≤ sat _
  unfold I64 at h; unfold sat
  split <;> (try split) <;> omega
theorem nowAt_le (X : Nat → CallD) (i j : Nat) (h : i ≤ j) : nowAt X i ≤ nowAt X j := by
  induction j with
  | zero => rw [show i = 0 by omega]; exact Int.le_refl _
  | succ j ih =>
    rcases Nat.lt_or_ge j i with h2 | h2
    · rw [show i = j + 1 by omega]; exact Int.le_refl _
    · exact Int.le_trans (ih h2) (nowAt_mono X j)
def stepAt (X : Nat → CallD) (i : Nat) : StepD := ⟨nowAt X (i + 1), (X i).k, (X i).t, (X i).c, (X i).n, 0, 0, 0, 0, 0, none, 0, 0, ⟨nowAt_i64 X _, (X i).hb.2.1, (X i).hb.2.2⟩⟩
def stepsOf (X : Nat → CallD) (n : Nat) : List StepD := (List.range n).map (stepAt X)
theorem stepsOf_len (X : Nat → CallD) (n : Nat) : (stepsOf X n).length = n := by simp [stepsOf]
theorem stepsOf_succ (X : Nat → CallD) (n : Nat) : stepsOf X (n + 1) = stepsOf X n ++ [stepAt X n] := by simp [stepsOf, List.range_succ]
theorem stepsOf_asc (X : Nat → CallD) (n : Nat) : Asc (stepsOf X n) := by
  unfold Asc stepsOf
  rw [List.pairwise_map]
  exact List.pairwise_lt_range.imp fun h => nowAt_le X _ _ (by omega)

theorem SlAt.keep {α : Type} {sz : Nat} {enc : α → List Value} {w w' : World} {v : Value} {xs : List α} (h : SlAt sz enc (· < w.heap.size) w v xs) (u : Upd (fun _ => False) w w') : SlAt sz enc (· < w'.heap.size) w' v xs :=
  (h.kept fun b hb => u.block b hb (fun h => h)).mono fun b hb => Nat.lt_of_lt_of_le hb u.size
set_option maxRecDepth 100000 in
set_option maxHeartbeats 4000000 in
theorem steadyLater_walk (cc : Array Value) (hcc : cc.size = 16) (a : Option Addr) (len cap : Nat) (X : Nat → CallD) (F L P : Int) (w : World) (hlc : len ≤ cap) (hF : I64 F) (hL : I64 L) (hP : 0 ≤ P ∧ P ≤ 255) (hm : cap ≤ maxLen)
    (hrow : 0 < len → ∃ b off, a = some ⟨b, off, none⟩ ∧ ∀ i, i < len → ∀ j, j < 5 → w.cell? ⟨b, off + i * 5 + j, none⟩ = (X i).cells[j]?) :
    Calls Try.prog 7 #[.agg cc, .slice a len cap, .int .i64 F, .int .i64 L, .int .u8 P] w fun e w' => e = .returned (.bool true) ∧ Upd (fun _ => False) w w' := by
  have Hrow := Lib.hid hrow
  clear hrow
  unfold maxLen at hm
  go_enter Try.func7, Try.ntmps7
  go_wp2_with fail
  refine (steady_awake _).mono ?_
  rintro e w1 ⟨rfl, u1'⟩
  have u1 : Upd (fun _ => False) w w1 := ((Upd.refl _ w).alloc _).trans u1'
  clear u1'
  have hX : I64 (if L < F then L else F) ∧ I64 (if L < F then F else L) := by constructor <;> split <;> assumption
  have hlh : (if L < F then L else F) ≤ (if L < F then F else L) := by split <;> omega
  by_cases hsw : L < F
  case' pos =>
    have hd0 : decide (L < F) = true := decide_eq_true hsw
    rw [if_pos hsw, if_pos hsw] at hX hlh
    obtain ⟨lo, hi, rfl, rfl⟩ : ∃ lo hi, lo = L ∧ hi = F := ⟨_, _, rfl, rfl⟩
  case' neg =>
    have hd0 : decide (L < F) = false := decide_eq_false hsw
    rw [if_neg hsw, if_neg hsw] at hX hlh
    obtain ⟨lo, hi, rfl, rfl⟩ : ∃ lo hi, lo = F ∧ hi = L := ⟨_, _, rfl, rfl⟩
  all_goals
    go_wp2_with fail
    go_loopw [11, 12, 30] (fun now out i wr => ∃ k : Nat, i = .int .i64 k ∧ k ≤ len ∧ now = .int .i64 (nowAt X (min k 60)) ∧ SOwn w.heap.size wr out (stepsOf X (min k 60)) ∧ Upd (fun _ => False) w wr) (fun _ _ i _ => len - (intOf i).toNat)
    case atStart => exact ⟨0, rfl, Nat.zero_le _, rfl, OwnV.nil _ _ _ _ _, u1⟩
    case round =>
      obtain ⟨k, rfl, hk, rfl, hO, hU⟩ := hrel
      have hsz := hU.size
      by_cases hlt : k < len
      · obtain ⟨b, off, rfl, hc⟩ := Hrow.out (by omega)
        have hb : b < w.heap.size := World.block_lt_of_cell? w _ (hc k hlt 0 (by decide))
        have hck : ∀ j, j < 5 → wr.cell? ⟨b, off + k * 5 + j, none⟩ = (X k).cells[j]? := fun j hj => by
          rw [World.cell?_of_block (hU.block b hb (fun h => h))]
          exact hc k hlt j hj
        have g0 : wr.cell? ⟨b, off + k * 5, none⟩ = _ := hck 0 (by decide)
        have g1 := hck 1 (by decide)
        have g2 := hck 2 (by decide)
        have g3 := hck 3 (by decide)
        have g4 := hck 4 (by decide)
        simp only [CallD.cells, List.getElem?_cons_zero, List.getElem?_cons_succ] at g0 g1 g2 g3 g4
        clear hc hck
        by_cases h60 : k < 60
        · rw [Nat.min_eq_left (by omega)] at hO ⊢
          have hnow := nowAt_i64 X k
          have hst := Lib.hid (stepsOf_succ X k)
          have HN := Lib.hid (show nowAt X (k + 1) = sat (nowAt X k + max (X k).dt 0) from rfl)
          have hdt := (X k).hb.1
          have hXb := (X k).hb
          have hmx : (if (X k).dt < 0 then (0 : Int) else (X k).dt) = max (X k).dt 0 := by split <;> omega
          have hmi : I64 (max (X k).dt 0) := by unfold I64 at hdt ⊢; omega
          have hlen := stepsOf_len X k
          have hsd : (stepAt X k).cells = [.int .i64 (nowAt X (k + 1)), .int .u8 (X k).k, .int .i64 (X k).t, .int .i64 (X k).c, .int .i64 (X k).n, .int .u8 0, .int .u64 0, .int .i64 0, .int .i64 0, .int .i64 0, .slice none 0 0] := rfl
          have hd60 : decide ((k : Int) < 60) = true := decide_eq_true (by omega)
          go_wp2_with fail
          refine (r2add _ _ _ hnow hmi).mono ?_
          rintro e w5 ⟨rfl, u5⟩
          have hZ : Blk w5 wr.heap.size #[.int .i64 (X k).dt, .int .u8 (X k).k, .int .i64 (X k).t, .int .i64 (X k).c, .int .i64 (X k).n] 82 := (Blk.new wr _ _).upd u5 (fun h => h)
          have hl5 := hZ.lt
          have z1 := hZ.cell 1
          have z2 := hZ.cell 2
          have z3 := hZ.cell 3
          have z4 := hZ.cell 4
          simp only [List.getElem?_toArray, List.getElem?_cons_zero, List.getElem?_cons_succ] at z1 z2 z3 z4
          have hO5 : SOwn w.heap.size w5 _ (stepsOf X k) := (hO.alloc _).upd u5 (fun _ _ h => h)
          have hU5 : Upd (fun _ => False) w w5 := (hU.alloc _).trans u5
          have hs5 := hU5.size
          rw [← HN.out]
          have hb2 : ((stepsOf X k).length + 1) * 104 ≤ 140737488355328 := by omega
          have hb1 : (stepsOf X k).length + 1 ≤ maxLen := by unfold maxLen; omega
          clear hmx hZ hU hO u5
          go_wp2_with (at_builtin; refine wpList_append_rec rfl _ _ 66 69 _ 11 104 StepD.cells StepD.len rfl Try.underlying66 infoStep rfl (by decide) _ w.heap.size (stepsOf X k) rfl (hO5.alloc _) ⟨w5.heap.size, 0, none⟩ 1 (stepAt X k) rfl (news_alloc _ _ _ _ rfl) (by rw [hsd]; simp [Value.oneCell']) hb1 hb2 (by simp; omega) ?_; rintro v' w' hO' hu ⟨a', c', rfl⟩)
          go_roundw
          case rel => exact ⟨k + 1, by go_num, by omega, by rw [Nat.min_eq_left (by omega)], by rw [Nat.min_eq_left (by omega), hst.out]; rw [hlen] at hO'; exact hO', (hU5.alloc _).then hu (fun i hi e => by have := (hO5.lt i e).1; omega)⟩
          case measure => simp [intOf]; omega
        · rw [Nat.min_eq_right (by omega)] at hO ⊢
          have hd60 : decide ((k : Int) < 60) = false := decide_eq_false (by omega)
          go_wp2_with fail
          go_roundw
          case rel => exact ⟨k + 1, by go_num, by omega, by rw [Nat.min_eq_right (by omega)], by rw [Nat.min_eq_right (by omega)]; exact hO.alloc _, hU.alloc _⟩
          case measure => simp [intOf]; omega
      · obtain rfl : k = len := by omega
        obtain ⟨n, hn⟩ : ∃ n, n = min k 60 := ⟨_, rfl⟩
        rw [← hn] at hO ⊢
        have hn60 : n ≤ 60 := by omega
        clear hn Hrow u1
        obtain ⟨al, cl, rfl⟩ := hO.form
        rw [stepsOf_len] at *
        have hS := hO.sl StepD.len
        have hd : decide (k < k) = false := decide_eq_false hlt
        have hasc := stepsOf_asc X n
        go_wp2_with fail
        refine (burst_any _ (stepsOf X n) (by rw [stepsOf_len]; omega) _ _ (hS.mono (fun b hb => hb.2))).mono ?_
        rintro e w2 ⟨rfl, u2⟩
        go_wp2_with fail
        refine (burst_any _ (stepsOf X n) (by rw [stepsOf_len]; omega) _ _ (((hO.upd u2 (fun _ _ h => h)).sl StepD.len).mono (fun b hb => hb.2))).mono ?_
        rintro e w3 ⟨rfl, u3⟩
        have hbl := decide_eq_false (Int.not_lt.2 (burst_later hlh _ hasc))
        have hO3 : SOwn w.heap.size w3 (.slice al n cl) (stepsOf X n) := (hO.upd u2 (fun _ _ h => h)).upd u3 (fun _ _ h => h)
        have hU3 : Upd (fun _ => False) w w3 := (hU.trans u2).trans u3
        have hs3 := hU3.size
        have hlen := stepsOf_len X n
        clear hO hS hU u2 u3
        generalize stepsOf X n = xs at *
        by_cases hn0 : n = 0
        · subst hn0
          obtain rfl : xs = [] := List.eq_nil_of_length_eq_zero hlen
          go_wp2_with (at_builtin; refine wpList_append_none rfl _ _ 66 69 _ 104 rfl Try.underlying66 infoStep (by decide) _ _ _ _ _ rfl rfl (Nat.le_refl _) ?_)
          obtain ⟨ms, hms⟩ : ∃ ms : List StepD, ms = [] := ⟨_, rfl⟩
          have hml : ms.length ≤ 1000000 := by rw [hms]; simp
          have hSm : StepsAt (· < (w3.alloc (.cells #[] 69)).heap.size) (w3.alloc (.cells #[] 69)) (.slice (some ⟨w3.heap.size, 0, none⟩) 0 0) ms := by
            subst hms
            exact ⟨_, _, rfl, Nat.le_refl _, Nat.zero_le _, by simp, fun h => absurd h (Nat.lt_irrefl _)⟩
          obtain ⟨xs, hxs⟩ : ∃ xs : List StepD, xs = [] := ⟨_, rfl⟩
          rw [← hxs] at hO3 hlen
          have hOl := hO3.alloc (.cells #[] 69)
          have hUm := hU3.alloc (.cells #[] 69)
          have hbm : decide (burst lo xs < burst lo ms) = false := decide_eq_false (by rw [hms, hxs]; omega)
          have hgp : (gapV 1 lo xs).2 = true → (gapV 1 lo ms).2 = true ∧ (gapV 1 lo ms).1 ≤ (gapV 1 lo xs).1 := by rw [hms, hxs]; exact fun h => ⟨h, Int.le_refl _⟩
          clear hO3 hU3 hms hxs
          generalize w3.alloc (.cells #[] 69) = w4 at *
          refine (burst_any _ ms hml _ _ hSm).mono ?_
          rintro e wA ⟨rfl, uA⟩
          go_wp2_with fail
          refine (burst_any _ xs (by rw [hlen]; omega) _ _ ((hOl.upd uA (fun _ _ h => h)).sl StepD.len |>.mono (fun b hb => hb.2))).mono ?_
          rintro e wB ⟨rfl, uB⟩
          go_wp2_with fail
          refine (gap_poll _ xs _ hX.1 _ (((hOl.upd uA (fun _ _ h => h)).upd uB (fun _ _ h => h)).sl StepD.len |>.mono (fun b hb => hb.2))).mono ?_
          rintro e wC ⟨rfl, uC⟩
          go_wp2_with fail
          refine (gap_poll _ ms _ hX.1 _ (hSm.keep ((uA.trans uB).trans uC))).mono ?_
          rintro e wD ⟨rfl, uD⟩
          have hUD := ((((hUm.trans uA).trans uB).trans uC).trans uD)
          clear hSm hOl uA uB uC uD hUm hbl hbm
          generalize gapV 1 lo xs = G at *
          generalize gapV 1 lo ms = H at *
          obtain ⟨g1, ok⟩ := G
          obtain ⟨h1, is⟩ := H
          simp only [] at hgp ⊢
          cases ok
          · go_wp2_with fail
            go_ret
            exact ⟨rfl, hUD⟩
          · obtain ⟨rfl, hle⟩ := hgp rfl
            have hdl : decide (h1 ≤ g1) = true := decide_eq_true hle
            go_wp2_with fail
            go_ret
            exact ⟨rfl, hUD⟩
        · have hS3 : SlAt 11 StepD.cells (· < w3.heap.size) w3 (.slice al n cl) xs := (hO3.sl StepD.len).mono (fun b hb => hb.2)
          have hE : SlAt 11 StepD.cells (fun _ => True) (w3.alloc (.cells #[] 69)) (.slice (some ⟨w3.heap.size, 0, none⟩) 0 0) ([] : List StepD) := ⟨_, _, rfl, Nat.le_refl _, Nat.zero_le _, by simp, fun h => absurd h (Nat.lt_irrefl _)⟩
          have h1c : ∀ x : StepD, ∀ u ∈ x.cells, u.oneCell' = true := fun x u hu => by
            simp only [StepD.cells, List.mem_cons, List.not_mem_nil, or_false] at hu
            rcases hu with rfl | rfl | rfl | rfl | rfl | rfl | rfl | rfl | rfl | rfl | rfl <;> rfl
          go_wp2_with (at_builtin; refine wpList_append_new rfl _ _ 66 69 _ 104 rfl StepD.len h1c Try.underlying66 infoStep rfl (by decide) _ _ _ _ [] xs rfl rfl hE (hS3.kept (fun b hb => heap_alloc_old _ _ _ hb)) (by omega) (by simp; omega) (by simp [hlen, maxLen]; omega) (by simp [hlen]; omega) ?_; intro v4 w4 hO4 u4)
          have hl4 : ([] ++ xs).length = n := by simpa using hlen
          obtain ⟨gm, cm, rfl, hg1, hg2⟩ := World.ownsRow.form hO4 (by omega)
          rw [hl4] at *
          have hOm : SOwn (w3.heap.size + 1) w4 (.slice (some ⟨gm, 0, none⟩) n cm) xs := by
            have h := OwnV.base (base' := w3.heap.size + 1) hO4 (by simp)
            simpa using h
          have hUm : Upd (fun _ => False) w w4 := (hU3.alloc _).trans u4
          have hOl : SOwn w.heap.size w4 (.slice al n cl) xs := (hO3.alloc _).upd u4 (fun _ _ h => h)
          have hcm : n ≤ cm ∧ cm ≤ maxLen := by
            obtain ⟨a', c', e, h1, h2, _⟩ := hOm.sl StepD.len
            rw [hlen] at e h1
            cases e
            exact ⟨h1, h2⟩
          have hP0 := Int.emod_nonneg P (show (n : Int) ≠ 0 by omega)
          have hP1 := Int.emod_lt_of_pos P (show 0 < (n : Int) by omega)
          obtain ⟨i, hi⟩ : ∃ i : Nat, P % (n : Int) = i := ⟨(P % (n : Int)).toNat, by omega⟩
          have hnz : ((n : Int) == 0) = false := by simp; omega
          have hin : i < n := by omega
          obtain ⟨x, hx⟩ : ∃ x, xs[i]? = some x := ⟨_, List.getElem?_eq_getElem (show i < xs.length from by omega)⟩
          obtain ⟨p, hp⟩ : ∃ p : StepD, p = bare x.now 1 ⟨x.hb.1, by omega, i64_0⟩ := ⟨_, rfl⟩
          obtain ⟨a', c', e', _, _, _, hcells⟩ := hOm.sl StepD.len
          injection e' with e1 e1b e1c
          subst e1
          clear e1b e1c
          obtain ⟨b', off', e2, _, hcx⟩ := hcells (by omega)
          cases e2
          have k0 : w4.cell? ⟨gm, i * 11, none⟩ = some (.int .i64 x.now) := by have := hcx i x hx 0 (by decide); simpa [StepD.cells] using this
          clear hcells hcx hO3 hO4 u4 hU3 hS3 hE hg1
          have hdn : decide ((0 : Int) < (n : Int)) = true := decide_eq_true (by omega)
          go_wp2_with fail
          rw [hi]
          have hsA := fun wx => run_hmAt (P := Try.prog) (t := 66) (e := 69) (sz := 11) Try.underlying66 (by kernel_rfl) (fun w => by kernel_rfl) gm 0 n cm i (by omega) wx
          have hsB := fun wx => run_lAt (P := Try.prog) (t := 66) (e := 69) (sz := 11) Try.underlying66 (by kernel_rfl) (fun w => by kernel_rfl) (some ⟨gm, 0, none⟩) n cm i (by omega) wx
          have hSm : StepsAt (· < w4.heap.size) w4 (.slice (some ⟨gm, 0, none⟩) n cm) xs := (hOm.sl StepD.len).mono (fun b hb => hb.2)
          have hSA := hSm.head i (by omega)
          have hSB := hSm.part i n (by omega) (by omega)
          obtain ⟨pv, hpv⟩ : ∃ pv, part 11 (.slice (some ⟨gm, 0, none⟩) n cm) i n = pv := ⟨_, rfl⟩
          rw [hpv] at hsB hSB
          have hdl : ((xs.drop i).take (n - i)) = xs.drop i := List.take_of_length_le (by rw [List.length_drop]; omega)
          rw [hdl] at hSB
          have hpc : p.cells = [.int .i64 x.now, .int .u8 1, .int .i64 0, .int .i64 0, .int .i64 0, .int .u8 0, .int .u64 0, .int .i64 0, .int .i64 0, .int .i64 0, .slice none 0 0] := by rw [hp]; rfl
          have hSP : SlAt 11 StepD.cells (fun _ => True) (w4.alloc (.cells p.cells.toArray 69)) (.slice (some ⟨w4.heap.size, 0, none⟩) 1 1) [p] := by
            have h : SOwn w4.heap.size (w4.alloc (.cells p.cells.toArray 69)) (.slice (some ⟨w4.heap.size, 0, none⟩) 1 1) [p] := by
              have := World.ownsRow_lit (base := w4.heap.size) (e := 69) (size := 11) w4 p.cells.toArray 1 (Nat.le_refl _) (by decide) rfl
              unfold SOwn OwnV
              simpa using this
            exact (h.sl StepD.len).mono (fun _ _ => trivial)
          have hSB1 : StepsAt (· < w4.heap.size) (w4.alloc (.cells p.cells.toArray 69)) pv (xs.drop i) := hSB.kept (fun b hb => heap_alloc_old _ _ _ hb)
          have ua : Upd (fun _ => False) w4 (w4.alloc (.cells p.cells.toArray 69)) := (Upd.refl _ _).alloc _
          have k1 : (w4.alloc (.cells p.cells.toArray 69)).cell? ⟨gm, i * 11, none⟩ = some (.int .i64 x.now) := by rw [World.cell?_of_block (ua.block gm hg2 (fun h => h))]; exact k0
          rw [hpc] at hSP hSB1 k1 ua
          have hdrop : (xs.drop i).length = n - i := by rw [List.length_drop, hlen]
          have htake : (xs.take i).length = i := by rw [List.length_take]; omega
          clear hSm hpv hdl hi hP0 hP1 hnz hdn
          go_region_held3 (fun w' => w'.cell? ⟨gm, i * 11, none⟩ = some (.int .i64 x.now)) (first | exact k0 | exact k1 | exact k2 | exact k3 | go_keep) (first | (have _t := hO5; refine step_append_new rfl _ _ 66 69 _ 104 rfl StepD.len h1c Try.underlying66 infoStep rfl (by decide) _ _ _ _ (xs.take i) ([p] ++ xs.drop i) rfl rfl hSA2 hS5 (by simp) (by simp; omega) (by simp [maxLen]; omega) (by simp; omega) ?_; intro v6 w6 hO6 u6; have k3 : w6.cell? ⟨gm, i * 11, none⟩ = some (.int .i64 x.now) := (World.cell?_of_block (u6.block gm hg5 (fun h => h))).trans k2) | (refine step_append_new rfl _ _ 66 69 _ 104 rfl StepD.len h1c Try.underlying66 infoStep rfl (by decide) _ _ _ _ [p] (xs.drop i) rfl rfl hSP hSB1 (by omega) (by simp; omega) (by simp [maxLen]; omega) (by simp; omega) ?_; intro v5 w5 hO5 u5; have k2 : w5.cell? ⟨gm, i * 11, none⟩ = some (.int .i64 x.now) := (World.cell?_of_block (u5.block gm (Nat.lt_of_lt_of_le hg2 ua.size) (fun h => h))).trans k1; have hg5 := Nat.lt_of_lt_of_le (Nat.lt_of_lt_of_le hg2 ua.size) u5.size; have hS5 := OwnV.sl hO5 StepD.len; have u5q : Upd (fun _ => False) w4 w5 := ua.trans ⟨u5.os, u5.tape, u5.output, u5.size, u5.block⟩; have hSA2 := hSA.keep u5q))
          have hsplit : xs.drop i = x :: xs.drop (i + 1) := by
            have hl := (List.getElem?_eq_some_iff.1 hx)
            rw [List.drop_eq_getElem_cons hl.1, hl.2]
          have hbm0 := burst_poll lo (xs.take i) (xs.drop i) p (by rw [hp]; rfl)
          rw [List.take_append_drop, List.append_assoc] at hbm0
          have hgp0 := gap_more lo (xs.take i) (xs.drop (i + 1)) p x (by rw [hp]; rfl) (by rw [hp]; rfl)
          rw [← hsplit, List.take_append_drop, List.append_assoc] at hgp0
          have hgp := hgp0 hasc
          have hms : (xs.take i ++ ([p] ++ xs.drop i)).length ≤ 61 := by simp; omega
          have u6q : Upd (fun _ => False) w4 w6 := u5q.trans u6
          have hSm : StepsAt (· < w6.heap.size) w6 v6 (xs.take i ++ ([p] ++ xs.drop i)) := (OwnV.sl hO6 StepD.len).mono (fun b hb => hb.2)
          generalize xs.take i ++ ([p] ++ xs.drop i) = ms at *
          have hml : ms.length ≤ 1000000 := by omega
          have hbm : decide (burst lo xs < burst lo ms) = false := decide_eq_false (by omega)
          replace hOl := hOl.upd u6q (fun _ _ h => h)
          replace hUm := hUm.trans u6q
          clear hOm hsA hsB hSA hSB hSP hSB1 ua k0 k1 k2 k3 hO5 hS5 hSA2 u5 u5q u6 u6q hO6 hsplit hbm0 hgp0 hms hdrop htake hpc h1c hx hg5
          go_wp2_with fail
          refine (burst_any _ ms hml _ _ hSm).mono ?_
          rintro e wA ⟨rfl, uA⟩
          go_wp2_with fail
          refine (burst_any _ xs (by rw [hlen]; omega) _ _ ((hOl.upd uA (fun _ _ h => h)).sl StepD.len |>.mono (fun b hb => hb.2))).mono ?_
          rintro e wB ⟨rfl, uB⟩
          go_wp2_with fail
          refine (gap_poll _ xs _ hX.1 _ (((hOl.upd uA (fun _ _ h => h)).upd uB (fun _ _ h => h)).sl StepD.len |>.mono (fun b hb => hb.2))).mono ?_
          rintro e wC ⟨rfl, uC⟩
          go_wp2_with fail
          refine (gap_poll _ ms _ hX.1 _ (hSm.keep ((uA.trans uB).trans uC))).mono ?_
          rintro e wD ⟨rfl, uD⟩
          have hUD := ((((hUm.trans uA).trans uB).trans uC).trans uD)
          clear hSm hOl uA uB uC uD hUm hbl hbm
          generalize gapV 1 lo xs = G at *
          generalize gapV 1 lo ms = H at *
          obtain ⟨g1, ok⟩ := G
          obtain ⟨h1, is⟩ := H
          simp only [] at hgp ⊢
          cases ok
          · go_wp2_with fail
            go_ret
            exact ⟨rfl, hUD⟩
          · obtain ⟨rfl, hle⟩ := hgp rfl
            have hdl : decide (h1 ≤ g1) = true := decide_eq_true hle
            go_wp2_with fail
            go_ret
            exact ⟨rfl, hUD⟩
end Go.Proofs.Yteaihgjjplgalaa
