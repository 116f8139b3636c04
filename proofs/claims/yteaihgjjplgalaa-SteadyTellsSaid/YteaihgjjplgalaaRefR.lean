/- The reference of layer 24: own, Burst: contracts, walked. -/
import Derived.Test.YteaihgjjplgalaaGapR
import Derived.Test.YteaihgjjplgalaaRec
import Derived.Maps.AppendAt
namespace Go.Proofs.Yteaihgjjplgalaa.Rd
open Go.RowKit
set_option linter.unusedVariables false
set_option linter.unusedSimpArgs false

/-- A step as the reference has it. -/
structure RStep where
  now : Int
  k : Int
  n : Int
def RStep.cells (s : RStep) : List Value := [.int .i64 s.now, .int .u8 s.k, .int .i64 s.n]
theorem RStep.len (s : RStep) : s.cells.length = 3 := rfl
def StepD.toR (s : StepD) : RStep := ⟨s.now, s.k, s.n⟩
abbrev ROwn := OwnV 75 3 RStep.cells
theorem infoRStep : (Try.prog.info? 75).map (fun i => (i.zero, i.size, i.bytes)) = some (some (.agg #[.int .i64 0, .int .u8 0, .int .i64 0]), 3, 24) := by kernel_rfl
theorem take_map_succ {α β : Type} (f : α → β) {xs : List α} {k : Nat} {x : α} (hx : xs[k]? = some x) : (xs.take (k + 1)).map f = (xs.take k).map f ++ [f x] := by
  rw [List.take_add_one, hx, List.map_append]; rfl

/-- submits, polls, the greatest number. -/
def rin (p : Int × Int × Int) (k : Int) : Int × Int × Int :=
  (p.1 + (if k = 0 then 1 else 0), p.2.1 + (if k = 1 then 1 else 0), max p.2.2 (p.1 + (if k = 0 then 1 else 0) - (p.2.1 + (if k = 1 then 1 else 0)) / 2))
def rinner (ks : List Int) (m : Int) : Int × Int × Int := ks.foldl rin (0, 0, m)
def router (ks : List Int) (n : Nat) : Int := (List.range n).foldl (fun m i => (rinner (ks.drop i) m).2.2) 0
theorem router_succ (ks : List Int) (n : Nat) : router ks (n + 1) = (rinner (ks.drop n) (router ks n)).2.2 := by
  unfold router; rw [List.range_succ, List.foldl_append]; rfl
theorem rinner_snoc (ks : List Int) (k m : Int) : rinner (ks ++ [k]) m = rin (rinner ks m) k := by simp [rinner]
theorem rinner_bound' : ∀ (ks : List Int) (p : Int × Int × Int) (N : Int), 0 ≤ p.1 → p.1 ≤ N → 0 ≤ p.2.1 → p.2.1 ≤ N → 0 ≤ p.2.2 → p.2.2 ≤ 1000001 → N + ks.length ≤ 1000001 →
    0 ≤ (ks.foldl rin p).1 ∧ (ks.foldl rin p).1 ≤ N + ks.length ∧ 0 ≤ (ks.foldl rin p).2.1 ∧ (ks.foldl rin p).2.1 ≤ N + ks.length ∧ 0 ≤ (ks.foldl rin p).2.2 ∧ (ks.foldl rin p).2.2 ≤ 1000001
  | [], p, N, h1, h2, h3, h4, h5, h6, h7 => by simp at h7 ⊢; omega
  | k :: ks, p, N, h1, h2, h3, h4, h5, h6, h7 => by
    simp only [List.length_cons] at h7
    have hs : 0 ≤ (rin p k).1 ∧ (rin p k).1 ≤ N + 1 ∧ 0 ≤ (rin p k).2.1 ∧ (rin p k).2.1 ≤ N + 1 ∧ 0 ≤ (rin p k).2.2 ∧ (rin p k).2.2 ≤ 1000001 := by
      unfold rin
      simp only
      split <;> split <;> omega
    have := rinner_bound' ks (rin p k) (N + 1) hs.1 hs.2.1 hs.2.2.1 hs.2.2.2.1 hs.2.2.2.2.1 hs.2.2.2.2.2 (by omega)
    simp only [List.foldl_cons, List.length_cons]
    omega
theorem rinner_bound (ks : List Int) (m : Int) (h0 : 0 ≤ m) (h1 : m ≤ 1000001) (hl : ks.length ≤ 1000000) :
    0 ≤ (rinner ks m).1 ∧ (rinner ks m).1 ≤ 1000000 ∧ 0 ≤ (rinner ks m).2.1 ∧ (rinner ks m).2.1 ≤ 1000000 ∧ 0 ≤ (rinner ks m).2.2 ∧ (rinner ks m).2.2 ≤ 1000001 := by
  have := rinner_bound' ks (0, 0, m) 0 (by simp) (by simp) (by simp) (by simp) h0 h1 (by omega)
  unfold rinner
  omega
theorem router_bound (ks : List Int) (hl : ks.length ≤ 1000000) : ∀ n, 0 ≤ router ks n ∧ router ks n ≤ 1000001
  | 0 => by simp [router]
  | n + 1 => by
    have ih := router_bound ks hl n
    rw [router_succ]
    have := rinner_bound (ks.drop n) (router ks n) ih.1 ih.2 (by rw [List.length_drop]; omega)
    omega

/-- those from a time on. -/
def rlater (from_ : Int) (rs : List RStep) : List RStep := rs.filter fun s => decide (from_ ≤ s.now)
theorem rlater_succ {from_ : Int} {xs : List RStep} {k : Nat} {x : RStep} (hx : xs[k]? = some x) : rlater from_ (xs.take (k + 1)) = rlater from_ (xs.take k) ++ (if from_ ≤ x.now then [x] else []) := by
  unfold rlater
  rw [List.take_add_one, hx, List.filter_append]
  simp [List.filter_cons]
/-- what the reference's Burst answers. -/
def rburst (from_ : Int) (rs : List RStep) : Int := router ((rlater from_ rs).map (·.k)) (rlater from_ rs).length

theorem ivl {k : IntKind} {a b : Int} (h : a = b) : Value.int k a = Value.int k b := by rw [h]
set_option maxRecDepth 100000 in
set_option maxHeartbeats 2000000 in
theorem rburst_any (sv : Value) (xs : List RStep) (hlen : xs.length ≤ 1000000) (from_ : Int) (w : World) (hI : SlR 3 RStep.cells (· < w.heap.size) w sv xs) :
    Calls Try.prog 30 #[sv, .int .i64 from_] w fun e W' => e = .returned (.int .i64 (rburst from_ xs)) ∧ Upd (fun _ => False) w W' := by
  obtain ⟨a, cap, rfl, h1, h2, h3, h4⟩ := hI
  have hm : xs.length ≤ 9223372036854775807 := h2
  have H4 := Lib.hid h4
  clear h4
  go_enter Try.func30, Try.ntmps30
  go_wp2_with fail
  go_loopw [5, 16] (fun out i wr => ∃ k : Nat, i = .int .i64 k ∧ k ≤ xs.length ∧ ROwn w.heap.size wr out (rlater from_ (xs.take k)) ∧ Upd (fun _ => False) w wr) (fun _ i _ => xs.length - (intOf i).toNat)
  case atStart => exact ⟨0, rfl, Nat.zero_le _, OwnV.nil _ _ _ _ _, Upd.refl _ _⟩
  case round =>
    obtain ⟨k, rfl, hk, hO, hU⟩ := hrel
    have hsz := hU.size
    by_cases hlt : k < xs.length
    · obtain ⟨b, off, rfl, hGb, hc⟩ := H4.out (by omega)
      have hx : xs[k]? = some xs[k] := List.getElem?_eq_getElem hlt
      generalize xs[k] = x at hx
      have hck : ∀ j, j < 3 → wr.cell? ⟨b, off + k * 3 + j, none⟩ = x.cells[j]? := fun j hj => by
        rw [World.cell?_of_block (hU.block b hGb (fun h => h))]
        exact hc k x hx j hj
      have g0 : wr.cell? ⟨b, off + k * 3, none⟩ = _ := hck 0 (by decide)
      have g1 := hck 1 (by decide)
      have g2 := hck 2 (by decide)
      have HT := Lib.hid (rlater_succ (from_ := from_) hx)
      have hlk : (rlater from_ (xs.take k)).length ≤ 1000000 := by
        have h1 := List.length_filter_le (fun s : RStep => decide (from_ ≤ s.now)) (xs.take k)
        have h2 : (xs.take k).length = k := by rw [List.length_take]; omega
        show (List.filter _ _).length ≤ _
        omega
      have hb2 : ((rlater from_ (xs.take k)).length + 1) * 24 ≤ 140737488355328 := by omega
      have hb1 : (rlater from_ (xs.take k)).length + 1 ≤ maxLen := by unfold maxLen; omega
      clear hc hck hx
      obtain ⟨now, kk, nn⟩ := x
      simp only [RStep.cells, List.getElem?_cons_zero, List.getElem?_cons_succ] at g0 g1 g2
      by_cases hf : from_ ≤ now
      · have hd : decide (from_ ≤ now) = true := decide_eq_true hf
        go_wp2_with (at_builtin; refine wpList_append_rec rfl _ _ 71 75 _ 3 24 RStep.cells RStep.len rfl Try.underlying71 infoRStep rfl (by decide) _ w.heap.size (rlater from_ (xs.take k)) rfl ((hO.alloc _).alloc _) ⟨wr.heap.size + 1, 0, none⟩ 1 ⟨now, kk, nn⟩ rfl (news_alloc _ _ _ _ (by simp)) (by simp [RStep.cells, Value.oneCell']) hb1 hb2 (by simp; omega) ?_; rintro v' w' hO' hu ⟨a', c', rfl⟩)
        go_roundw
        case rel => exact ⟨k + 1, by go_num, by omega, by rw [HT.out, if_pos hf]; exact hO', ((hU.alloc _).alloc _).then hu (fun i hi e => by have := (hO.lt i e).1; omega)⟩
        case measure => simp [intOf]; omega
      · have hd : decide (from_ ≤ now) = false := decide_eq_false hf
        go_wp2_with fail
        go_roundw
        case rel => exact ⟨k + 1, by go_num, by omega, by rw [HT.out, if_neg (by omega), List.append_nil]; exact hO.alloc _, hU.alloc _⟩
        case measure => simp [intOf]; omega
    · rw [List.take_of_length_le (by omega)] at hO
      have hl := List.length_filter_le (fun s : RStep => decide (from_ ≤ s.now)) xs
      have hly : (rlater from_ xs).length ≤ 1000000 := Nat.le_trans hl hlen
      have HQ := Lib.hid (show rburst from_ xs = router ((rlater from_ xs).map (·.k)) (rlater from_ xs).length from rfl)
      clear hl H4
      generalize rlater from_ xs = ys at hO HQ hly
      have hS := hO.sl RStep.len
      obtain ⟨a1, cap1, rfl, h5, h6, h7, h8⟩ := hS
      have hsw := hU.size
      have hkb := router_bound (ys.map (·.k)) (by rw [List.length_map]; exact hly)
      have HB := Lib.hid hkb
      clear hkb
      have hm5 : ys.length ≤ 9223372036854775807 := by omega
      obtain ⟨wo, rfl⟩ : ∃ wo : World, wo = wr := ⟨_, rfl⟩
      go_wp2_with fail
      go_loopw [8, 31] (fun mo i wq => ∃ m : Nat, i = .int .i64 m ∧ m ≤ ys.length ∧ mo = .int .i64 (router (ys.map (·.k)) m) ∧ Upd (fun _ => False) wo wq) (fun _ i _ => ys.length - (intOf i).toNat)
      case atStart => exact ⟨0, rfl, Nat.zero_le _, rfl, Upd.refl _ _⟩
      case round =>
        obtain ⟨m, rfl, hmk, rfl, hV⟩ := hrel
        by_cases hmlt : m < ys.length
        · obtain ⟨g, off, rfl, hg, hgc⟩ := h8 (by omega)
          have hne : ¬ (cap1 = m) := by omega
          have HM := Lib.hid hgc
          have hB0 := HB.out m
          have HS := Lib.hid (router_succ (ys.map (·.k)) m)
          clear h8 hgc h7
          obtain ⟨wi, rfl⟩ : ∃ wi : World, wi = wr := ⟨_, rfl⟩
          go_wp2_with fail
          generalize hR : router (ys.map (·.k)) m = R0 at *
          clear hR
          go_loopw [8, 10, 11, 38] (fun mo su po i wq => ∃ j : Nat, i = .int .i64 j ∧ j ≤ ys.length - m ∧ su = .int .i64 (rinner (((ys.map (·.k)).drop m).take j) R0).1 ∧ po = .int .i64 (rinner (((ys.map (·.k)).drop m).take j) R0).2.1 ∧ mo = .int .i64 (rinner (((ys.map (·.k)).drop m).take j) R0).2.2 ∧ Upd (fun _ => False) wi wq) (fun _ _ _ i _ => ys.length - m - (intOf i).toNat)
          case atStart => exact ⟨0, rfl, Nat.zero_le _, rfl, rfl, rfl, Upd.refl _ _⟩
          case round =>
            obtain ⟨j, rfl, hjk, rfl, rfl, rfl, hX⟩ := hrel
            by_cases hjlt : j < ys.length - m
            · have hx : ys[m + j]? = some ys[m + j] := List.getElem?_eq_getElem (by omega)
              generalize ys[m + j] = x at hx
              have hck : ∀ f, f < 3 → wr.cell? ⟨g, off + (m + j) * 3 + f, none⟩ = x.cells[f]? := fun f hf => by
                have e1 : wr.heap[g]? = wo.heap[g]? := (hX.block g (Nat.lt_of_lt_of_le hg.2 hV.size) (fun h => h)).trans (hV.block g hg.2 (fun h => h))
                rw [World.cell?_of_block e1]
                exact HM.out _ x hx f hf
              have ea : off + m * 3 + j * 3 = off + (m + j) * 3 := by omega
              have g0 : wr.cell? ⟨g, off + m * 3 + j * 3, none⟩ = x.cells[0]? := by rw [ea]; exact hck 0 (by decide)
              have g1 : wr.cell? ⟨g, off + m * 3 + j * 3 + 1, none⟩ = x.cells[1]? := by rw [ea]; exact hck 1 (by decide)
              have g2 : wr.cell? ⟨g, off + m * 3 + j * 3 + 2, none⟩ = x.cells[2]? := by rw [ea]; exact hck 2 (by decide)
              have HT := Lib.hid (show rinner (((ys.map (·.k)).drop m).take (j + 1)) R0 = rin (rinner (((ys.map (·.k)).drop m).take j) R0) x.k by
                rw [List.take_add_one, List.getElem?_drop, List.getElem?_map, hx]; exact rinner_snoc _ _ _)
              have hbq := rinner_bound (((ys.map (·.k)).drop m).take j) R0 hB0.1 hB0.2 (by rw [List.length_take, List.length_drop, List.length_map]; omega)
              clear hck hx ea
              generalize rinner (((ys.map (·.k)).drop m).take j) R0 = q at *
              obtain ⟨q1, q2, q3⟩ := q
              obtain ⟨now, kk, nn⟩ := x
              simp only [RStep.cells, List.getElem?_cons_zero, List.getElem?_cons_succ] at g0 g1 g2
              simp only [] at hbq
              have hq2 : (q2 + 1) / 2 ≤ 1000001 ∧ 0 ≤ (q2 + 1) / 2 := by omega
              have hq3 : q2 / 2 ≤ 1000001 ∧ 0 ≤ q2 / 2 := by omega
              by_cases k0 : kk = 0
              · subst k0
                go_wp2_with fail
                all_goals
                  go_roundw
                  case rel => exact ⟨j + 1, by go_num, by omega, ivl (by rw [HT.out]; simp [rin]), ivl (by rw [HT.out]; simp [rin]), ivl (by rw [HT.out]; simp [rin] <;> omega), hX.alloc _⟩
                  case measure => simp [intOf]; omega
              · have k0' : (kk == 0) = false := by simpa using k0
                by_cases k1 : kk = 1
                · subst k1
                  go_wp2_with fail
                  all_goals
                    go_roundw
                    case rel => exact ⟨j + 1, by go_num, by omega, ivl (by rw [HT.out]; simp [rin]), ivl (by rw [HT.out]; simp [rin]), ivl (by rw [HT.out]; simp [rin] <;> omega), hX.alloc _⟩
                    case measure => simp [intOf]; omega
                · have k1' : (kk == 1) = false := by simpa using k1
                  go_wp2_with fail
                  all_goals
                    go_roundw
                    case rel => exact ⟨j + 1, by go_num, by omega, ivl (by rw [HT.out]; simp [rin, k0, k1]), ivl (by rw [HT.out]; simp [rin, k0, k1]), ivl (by rw [HT.out]; simp [rin, k0, k1] <;> omega), hX.alloc _⟩
                    case measure => simp [intOf]; omega
            · have hjj : ((ys.map (·.k)).drop m).take j = (ys.map (·.k)).drop m := List.take_of_length_le (by rw [List.length_drop, List.length_map]; omega)
              rw [hjj, ← HS.out]
              clear hjj
              have hd : decide (j < ys.length - m) = false := decide_eq_false hjlt
              go_wp2_with fail
              go_roundw
              case rel => exact ⟨m + 1, by go_num, by omega, rfl, hV.trans hX⟩
              case measure => simp [intOf]; omega
        · have hmy : m = ys.length := by omega
          have hfin : router (ys.map (·.k)) m = rburst from_ xs := by rw [HQ.out, hmy]
          rw [hfin]
          clear hfin hmy HQ
          have hd : decide (m < ys.length) = false := decide_eq_false hmlt
          go_wp2_with fail
          go_ret
          exact ⟨rfl, hU.trans hV⟩
end Go.Proofs.Yteaihgjjplgalaa.Rd
