/- The law ConfOrders, walked: up to the second loop. -/
import Derived.Test.YteaihgjjplgalaaDoorL0ConfOrders
import Derived.Test.YteaihgjjplgalaaDoorQOrd2
import Derived.RegionTactic
import Derived.ChangeAlike
namespace Go.Proofs.YteaihgjjplgalaaDoor
open Go.RowKit Go.Proofs.YteaihgjjplgalaaDoorW.PrintWords Go.Proofs.YteaihgjjplgalaaDoorW.PrintLast Go.Proofs.YteaihgjjplgalaaDoorW.PrintMore
set_option linter.unusedVariables false
set_option linter.unusedSimpArgs false

/-- What holds in the first loop. -/
structure Ord1 (w0 : World) (ns : List Int) (g0 g : Nat) (vs : Array Value) (is : List Nat) (w : World) : Prop where
  perm : is.Perm (List.range 16)
  row : Row16 w g (fun j => BA (lineOf ns (is.getD j 0)))
  bk : w.heap[g0]? = some (.cells vs 24 (0, 0))
  lg : w0.heap.size ≤ g
  bel : Below w0.heap.size w0 w
theorem getD_set (l : List Nat) (i k v : Nat) (hi : i < l.length) : (l.set i v).getD k 0 = if k = i then v else l.getD k 0 := by
  rw [List.getD_eq_getElem?_getD, List.getElem?_set]
  by_cases e : k = i
  · subst e
    rw [if_pos rfl, if_pos rfl, if_pos hi]
    rfl
  · rw [if_neg (fun h => e h.symm), if_neg e, List.getD_eq_getElem?_getD]
theorem row_start {w : World} {g : Nat} {ns : List Int} (h : Row16 w g (fun j => BA (lineOf ns j))) : Row16 w g (fun j => BA (lineOf ns ((List.range 16).getD j 0))) := by
  obtain ⟨cur, h1, h2⟩ := h
  refine ⟨cur, h1, fun j hj => (h2 j hj).trans ?_⟩
  have hj' : (List.range 16).getD j 0 = j := by rw [List.getD_eq_getElem?_getD, List.getElem?_range hj]; rfl
  show some (Value.string (BA (lineOf ns j))) = some (Value.string (BA (lineOf ns ((List.range 16).getD j 0))))
  rw [hj']
theorem Ord1.swap {w0 : World} {ns : List Int} {g0 g : Nat} {vs : Array Value} {is : List Nat} {w : World} (h : Ord1 w0 ns g0 g vs is w) {i j : Nat} (hi : i < 16) (hj : j < 16) :
    Ord1 w0 ns g0 g vs ((is.set i (is.getD j 0)).set j (is.getD i 0)) ((w.setCell ⟨g, i, none⟩ (.string (BA (lineOf ns (is.getD j 0))))).setCell ⟨g, j, none⟩ (.string (BA (lineOf ns (is.getD i 0))))) := by
  have hl : is.length = 16 := by rw [h.perm.length_eq, List.length_range]
  have e1 : is.getD j 0 = is[j]'(by omega) := by rw [List.getD_eq_getElem?_getD, List.getElem?_eq_getElem (by omega)]; rfl
  have e2 : is.getD i 0 = is[i]'(by omega) := by rw [List.getD_eq_getElem?_getD, List.getElem?_eq_getElem (by omega)]; rfl
  have hne : g0 ≠ g := by
    intro e
    subst e
    obtain ⟨cur, hb, _⟩ := h.row
    have h2 := h.bk
    rw [hb] at h2
    injection h2 with h2
    injection h2 with _ h2
    exact absurd h2 (by decide)
  refine { perm := ?_, row := ?_, bk := ?_, lg := h.lg, bel := ?_ }
  · rw [e1, e2]
    exact (List.set_set_perm (by omega) (by omega)).trans h.perm
  · have hr := (h.row.set hi (BA (lineOf ns (is.getD j 0)))).set hj (BA (lineOf ns (is.getD i 0)))
    obtain ⟨cur, hb, hc⟩ := hr
    refine ⟨cur, hb, fun k hk => (hc k hk).trans ?_⟩
    show some (Value.string (if k = j then BA (lineOf ns (is.getD i 0)) else if k = i then BA (lineOf ns (is.getD j 0)) else BA (lineOf ns (is.getD k 0)))) = some (Value.string (BA (lineOf ns (((is.set i (is.getD j 0)).set j (is.getD i 0)).getD k 0))))
    rw [getD_set _ j k _ (by rw [List.length_set]; omega), getD_set _ i k _ (by omega)]
    split
    · rfl
    · split <;> rfl
  · exact (Below.heap_setCell _ _ _ _ hne).trans ((Below.heap_setCell _ _ _ _ hne).trans h.bk)
  · exact (h.bel.setCell (p := ⟨g, i, none⟩) h.lg _).setCell (p := ⟨g, j, none⟩) h.lg _
theorem Ord1.drew {w0 : World} {ns : List Int} {g0 g : Nat} {vs : Array Value} {is : List Nat} {w : World} (h : Ord1 w0 ns g0 g vs is w) : Ord1 w0 ns g0 g vs is w.drew := { h with bel := h.bel.drew }
theorem Ord1.below {w0 : World} {ns : List Int} {g0 g : Nat} {vs : Array Value} {is : List Nat} {w w' : World} (h : Ord1 w0 ns g0 g vs is w) (hb : Below w.heap.size w w') : Ord1 w0 ns g0 g vs is w' :=
  { h with row := h.row.below hb, bk := (hb.block _ (blk_lt h.bk)).trans h.bk, bel := h.bel.trans (hb.mono h.bel.size) }
set_option maxRecDepth 100000 in
set_option maxHeartbeats 8000000 in
theorem confOrders_any (w0 : World) (a0 a1 a2 a3 a4 a5 a6 a7 a8 a9 a10 a11 a12 a13 a14 a15 : Int) (hn : I64c [a0, a1, a2, a3, a4, a5, a6, a7, a8, a9, a10, a11, a12, a13, a14, a15]) (A1 : Option Addr) (n c1 : Nat) (Z : Nat → Int) (hrow : 0 < n → ∃ b off, A1 = some ⟨b, off, none⟩ ∧ ∀ j, j < n → w0.cell? ⟨b, off + j, none⟩ = some (.int .u8 (Z j))) (hZ : ∀ j, 0 ≤ Z j ∧ Z j ≤ 255) (hnc : n ≤ 9223372036854775807) (tw : Int) (htw : 0 ≤ tw ∧ tw ≤ 255) (ag : Bool) (hL : LibAt w0) :
    Calls Tryd.prog 3 #[.agg #[.int .i64 a0, .int .i64 a1, .int .i64 a2, .int .i64 a3, .int .i64 a4, .int .i64 a5, .int .i64 a6, .int .i64 a7, .int .i64 a8, .int .i64 a9, .int .i64 a10, .int .i64 a11, .int .i64 a12, .int .i64 a13, .int .i64 a14, .int .i64 a15], .slice A1 n c1, .int .u8 tw, .bool ag] w0 fun e w' => e = .returned (.bool true) ∧ Below w0.heap.size w0 w' := by
  have HL := Aside0.mk hL
  have HN := Aside0.mk hn
  have HRW := Aside0.mk hrow
  have HZ := Aside0.mk hZ
  clear hL hn hrow hZ
  have BK0 := Aside0.mk (heap_alloc_new w0 (.cells #[.int .i64 a0, .int .i64 a1, .int .i64 a2, .int .i64 a3, .int .i64 a4, .int .i64 a5, .int .i64 a6, .int .i64 a7, .int .i64 a8, .int .i64 a9, .int .i64 a10, .int .i64 a11, .int .i64 a12, .int .i64 a13, .int .i64 a14, .int .i64 a15] 24))
  have HB0 := Aside0.mk ((Below.refl w0.heap.size w0).alloc (Nat.le_refl _) (.cells #[.int .i64 a0, .int .i64 a1, .int .i64 a2, .int .i64 a3, .int .i64 a4, .int .i64 a5, .int .i64 a6, .int .i64 a7, .int .i64 a8, .int .i64 a9, .int .i64 a10, .int .i64 a11, .int .i64 a12, .int .i64 a13, .int .i64 a14, .int .i64 a15] 24))
  have hlt0 : w0.heap.size < (w0.alloc (.cells #[.int .i64 a0, .int .i64 a1, .int .i64 a2, .int .i64 a3, .int .i64 a4, .int .i64 a5, .int .i64 a6, .int .i64 a7, .int .i64 a8, .int .i64 a9, .int .i64 a10, .int .i64 a11, .int .i64 a12, .int .i64 a13, .int .i64 a14, .int .i64 a15] 24)).heap.size := by simp
  go_enter Tryd.func3, Tryd.ntmps3
  go_wp2_with fail
  refine (awake_any _ (HL.out.below HB0.out)).mono ?_
  rintro e w1 ⟨rfl, hb1⟩
  have BK1 := Aside0.mk ((hb1.block _ hlt0).trans BK0.out)
  have HB1 := Aside0.mk (HB0.out.trans (hb1.mono HB0.out.size))
  clear hb1 hlt0 BK0 HB0
  generalize hg0 : w0.heap.size = g0 at *
  have HG := Aside0.mk hg0
  clear hg0
  have x0 : w1.cell? ⟨g0, 0, none⟩ = some (.int .i64 a0) := (blk_cell BK1.out 0).trans rfl
  have x1 : w1.cell? ⟨g0, 1, none⟩ = some (.int .i64 a1) := (blk_cell BK1.out 1).trans rfl
  have x2 : w1.cell? ⟨g0, 2, none⟩ = some (.int .i64 a2) := (blk_cell BK1.out 2).trans rfl
  have x3 : w1.cell? ⟨g0, 3, none⟩ = some (.int .i64 a3) := (blk_cell BK1.out 3).trans rfl
  have x4 : w1.cell? ⟨g0, 4, none⟩ = some (.int .i64 a4) := (blk_cell BK1.out 4).trans rfl
  have x5 : w1.cell? ⟨g0, 5, none⟩ = some (.int .i64 a5) := (blk_cell BK1.out 5).trans rfl
  have x6 : w1.cell? ⟨g0, 6, none⟩ = some (.int .i64 a6) := (blk_cell BK1.out 6).trans rfl
  have x7 : w1.cell? ⟨g0, 7, none⟩ = some (.int .i64 a7) := (blk_cell BK1.out 7).trans rfl
  have x8 : w1.cell? ⟨g0, 8, none⟩ = some (.int .i64 a8) := (blk_cell BK1.out 8).trans rfl
  have x9 : w1.cell? ⟨g0, 9, none⟩ = some (.int .i64 a9) := (blk_cell BK1.out 9).trans rfl
  have x10 : w1.cell? ⟨g0, 10, none⟩ = some (.int .i64 a10) := (blk_cell BK1.out 10).trans rfl
  have x11 : w1.cell? ⟨g0, 11, none⟩ = some (.int .i64 a11) := (blk_cell BK1.out 11).trans rfl
  have x12 : w1.cell? ⟨g0, 12, none⟩ = some (.int .i64 a12) := (blk_cell BK1.out 12).trans rfl
  have x13 : w1.cell? ⟨g0, 13, none⟩ = some (.int .i64 a13) := (blk_cell BK1.out 13).trans rfl
  have x14 : w1.cell? ⟨g0, 14, none⟩ = some (.int .i64 a14) := (blk_cell BK1.out 14).trans rfl
  have x15 : w1.cell? ⟨g0, 15, none⟩ = some (.int .i64 a15) := (blk_cell BK1.out 15).trans rfl
  go_wp2_with fail
  refine (own_any a0 a1 a2 a3 a4 a5 a6 a7 a8 a9 a10 a11 a12 a13 a14 a15 w1).mono ?_
  rintro e w2 ⟨A5, c5, rfl, hC5, hc5, hb2⟩
  have BK2 := Aside0.mk ((hb2.block _ (blk_lt BK1.out)).trans BK1.out)
  have HB2 := Aside0.mk (HB1.out.trans (hb2.mono (Nat.le_of_lt (blk_lt BK1.out))))
  clear hb2 x0 x1 x2 x3 x4 x5 x6 x7 x8 x9 x10 x11 x12 x13 x14 x15
  go_wp2_with fail
  refine (reftext_any A5 c5 [a0, a1, a2, a3, a4, a5, a6, a7, a8, a9, a10, a11, a12, a13, a14, a15] rfl HN.out w2 hC5 hc5).mono ?_
  rintro e w3 ⟨rfl, hb3⟩
  have BK3 := Aside0.mk ((hb3.block _ (blk_lt BK2.out)).trans BK2.out)
  have HB3 := Aside0.mk (HB2.out.trans (hb3.mono (Nat.le_of_lt (blk_lt BK2.out))))
  clear hb3 hC5 hc5
  go_wp2_with fail
  refine (reflines_any [a0, a1, a2, a3, a4, a5, a6, a7, a8, a9, a10, a11, a12, a13, a14, a15] rfl HN.out w3).mono ?_
  rintro e w4 ⟨g, cap, rfl, hc17, hcm, hgb, hrw, hb4⟩
  have HO : Aside0 (Ord1 w0 [a0, a1, a2, a3, a4, a5, a6, a7, a8, a9, a10, a11, a12, a13, a14, a15] g0 g #[.int .i64 a0, .int .i64 a1, .int .i64 a2, .int .i64 a3, .int .i64 a4, .int .i64 a5, .int .i64 a6, .int .i64 a7, .int .i64 a8, .int .i64 a9, .int .i64 a10, .int .i64 a11, .int .i64 a12, .int .i64 a13, .int .i64 a14, .int .i64 a15] (List.range 16) w4) := ⟨{ perm := List.Perm.refl _, row := row_start hrw, bk := (hb4.block _ (blk_lt BK3.out)).trans BK3.out, lg := by rw [HG.out]; exact Nat.le_trans (Nat.le_of_lt (blk_lt BK3.out)) hgb, bel := by rw [HG.out]; exact HB3.out.trans (hb4.mono (Nat.le_of_lt (blk_lt BK3.out))) }⟩
  clear hb4 hrw hgb BK1 BK2 BK3 HB1 HB2 HB3
  have hmx : cap ≤ 9223372036854775807 := by unfold maxLen at hcm; omega
  clear hcm
  go_wp2_with fail
  go_loopw [28] (fun i wr => ∃ (k : Nat) (is : List Nat), i = .int .i64 k ∧ k ≤ n ∧ Aside0 (Ord1 w0 [a0, a1, a2, a3, a4, a5, a6, a7, a8, a9, a10, a11, a12, a13, a14, a15] g0 g #[.int .i64 a0, .int .i64 a1, .int .i64 a2, .int .i64 a3, .int .i64 a4, .int .i64 a5, .int .i64 a6, .int .i64 a7, .int .i64 a8, .int .i64 a9, .int .i64 a10, .int .i64 a11, .int .i64 a12, .int .i64 a13, .int .i64 a14, .int .i64 a15] is wr)) (fun i _ => n - (intOf i).toNat)
  case atStart => exact ⟨0, _, rfl, Nat.zero_le _, HO⟩
  case round =>
    obtain ⟨k, is, rfl, hk, HK⟩ := hrel
    by_cases hlt : k < n
    · obtain ⟨b, off, rfl, hc⟩ := HRW.out (by omega)
      have hck : wr.cell? ⟨b, off + k, none⟩ = some (.int .u8 (Z k)) := by
        have h1 := hc k hlt
        exact (HK.out.bel.cell (World.block_lt_of_cell? w0 _ h1)).trans h1
      have hz := HZ.out k
      clear hc
      generalize Z k = z at hck hz
      by_cases h16 : k < 16
      · have h16' : ((k : Int) < 16) = True := by simp; omega
        obtain ⟨J, hJ, hJ16⟩ : ∃ J : Nat, wrap64 ((k : Int) + z % (16 - (k : Int))) = (J : Int) ∧ J < 16 := by
          have h1 := Int.emod_nonneg z (show 16 - (k : Int) ≠ 0 by omega)
          have h2 := Int.emod_lt_of_pos z (show 0 < 16 - (k : Int) by omega)
          generalize z % (16 - (k : Int)) = y at h1 h2
          refine ⟨((k : Int) + y).toNat, ?_, by omega⟩
          simp only [wrap64]
          omega
        go_upto_region 10 with fail
        have c1 := HK.out.row.cell h16
        have c2 := HK.out.row.cell hJ16
        have f1 := HK.out.row.frozen k
        have f2 := HK.out.row.frozen J
        have HK2 := Aside0.mk (HK.out.swap h16 hJ16).drew
        generalize BA (lineOf [a0, a1, a2, a3, a4, a5, a6, a7, a8, a9, a10, a11, a12, a13, a14, a15] (is.getD k 0)) = s1 at *
        generalize BA (lineOf [a0, a1, a2, a3, a4, a5, a6, a7, a8, a9, a10, a11, a12, a13, a14, a15] (is.getD J 0)) = s2 at *
        obtain ⟨v', hy'⟩ := cell?_setCell_some (w := wr) (p := ⟨g, k, none⟩) (x := .string s2) (q := ⟨g, J, none⟩) (v := .string s2) c2
        go_region
        go_wp2_with fail
        go_roundw
        case rel => exact ⟨k + 1, _, by go_num, by omega, HK2⟩
        case measure => simp [intOf]; omega
      · have h16' : ((k : Int) < 16) = False := by simp; omega
        go_wp2_with fail
        go_roundw
        case rel => exact ⟨k + 1, is, by go_num, by omega, HK⟩
        case measure => simp [intOf]; omega
    · obtain rfl : k = n := by omega
      have hT : ((tw % 16).toNat : Int) = tw % 16 ∧ (tw % 16).toNat < 16 := by omega
      obtain ⟨tt, htt⟩ : ∃ tt, tt = (tw % 16).toNat := ⟨_, rfl⟩
      rw [← htt] at hT
      clear htt HRW HZ
      go_wp2_with fail
      go_loopw [13, 59] (fun s i wr => ∃ q : Nat, i = .int .i64 q ∧ q ≤ 16 ∧ s = .string (ordText [a0, a1, a2, a3, a4, a5, a6, a7, a8, a9, a10, a11, a12, a13, a14, a15] is tt ag q) ∧ Aside0 (Ord1 w0 [a0, a1, a2, a3, a4, a5, a6, a7, a8, a9, a10, a11, a12, a13, a14, a15] g0 g #[.int .i64 a0, .int .i64 a1, .int .i64 a2, .int .i64 a3, .int .i64 a4, .int .i64 a5, .int .i64 a6, .int .i64 a7, .int .i64 a8, .int .i64 a9, .int .i64 a10, .int .i64 a11, .int .i64 a12, .int .i64 a13, .int .i64 a14, .int .i64 a15] is wr)) (fun _ i _ => 16 - (intOf i).toNat)
      case atStart => exact ⟨0, rfl, Nat.zero_le _, rfl, HK⟩
      case round =>
        obtain ⟨q, rfl, hq, rfl, HK⟩ := hrel
        by_cases hq16 : q < 16
        · have c1 := HK.out.row.cell hq16
          obtain ⟨hz1, hz2⟩ := ord_sizes [a0, a1, a2, a3, a4, a5, a6, a7, a8, a9, a10, a11, a12, a13, a14, a15] HN.out HK.out.perm tt ag q hq16
          cases ag with
          | false =>
            have HS := Aside0.mk (ord_step1 [a0, a1, a2, a3, a4, a5, a6, a7, a8, a9, a10, a11, a12, a13, a14, a15] is tt false q (fun h => by cases h.1))
            generalize ordText [a0, a1, a2, a3, a4, a5, a6, a7, a8, a9, a10, a11, a12, a13, a14, a15] is tt false q = sb at *
            generalize BA (lineOf [a0, a1, a2, a3, a4, a5, a6, a7, a8, a9, a10, a11, a12, a13, a14, a15] (is.getD q 0)) = lb at *
            go_wp2_with fail
            go_roundw
            case rel => exact ⟨q + 1, by go_num, by omega, by rw [← HS.out], HK⟩
            case measure => simp [intOf]; omega
          | true =>
            by_cases hqt : (q : Int) = tw % 16
            · have HS := Aside0.mk (ord_step2 [a0, a1, a2, a3, a4, a5, a6, a7, a8, a9, a10, a11, a12, a13, a14, a15] is tt q (by omega))
              generalize ordText [a0, a1, a2, a3, a4, a5, a6, a7, a8, a9, a10, a11, a12, a13, a14, a15] is tt true q = sb at *
              generalize BA (lineOf [a0, a1, a2, a3, a4, a5, a6, a7, a8, a9, a10, a11, a12, a13, a14, a15] (is.getD q 0)) = lb at *
              have hqe : ((q : Int) == tw % 16) = true := beq_iff_eq.mpr hqt
              clear hqt
              go_wp2_with fail
              go_roundw
              case rel => exact ⟨q + 1, by go_num, by omega, by rw [← HS.out], HK⟩
              case measure => simp [intOf]; omega
            · have HS := Aside0.mk (ord_step1 [a0, a1, a2, a3, a4, a5, a6, a7, a8, a9, a10, a11, a12, a13, a14, a15] is tt true q (fun h => hqt (by omega)))
              generalize ordText [a0, a1, a2, a3, a4, a5, a6, a7, a8, a9, a10, a11, a12, a13, a14, a15] is tt true q = sb at *
              generalize BA (lineOf [a0, a1, a2, a3, a4, a5, a6, a7, a8, a9, a10, a11, a12, a13, a14, a15] (is.getD q 0)) = lb at *
              go_wp2_with fail
              go_roundw
              case rel => exact ⟨q + 1, by go_num, by omega, by rw [← HS.out], HK⟩
              case measure => simp [intOf]; omega
        · obtain rfl : q = 16 := by omega
          have HP := Aside0.mk (ord_parse [a0, a1, a2, a3, a4, a5, a6, a7, a8, a9, a10, a11, a12, a13, a14, a15] rfl HN.out HK.out.perm tt hT.2 ag)
          have hpa := parse_any (ordText [a0, a1, a2, a3, a4, a5, a6, a7, a8, a9, a10, a11, a12, a13, a14, a15] is tt ag 16) wr (HL.out.below HK.out.bel)
          rw [HP.out] at hpa
          have BKR := Aside0.mk HK.out.bk
          have HBR : Aside0 (Below g0 w0 wr) := ⟨by rw [← HG.out]; exact HK.out.bel⟩
          clear HK HP
          have HPA := Aside0.mk hpa
          clear hpa HL
          cases ag with
          | true =>
            as_aux_lemma =>
              have hpa := HPA.out
              clear HPA
              rw [if_pos rfl] at hpa
              simp only [cfgV, zero16, List.replicate, List.map_cons, List.map_nil] at hpa
              go_wp2_with fail
              refine hpa.mono ?_
              rintro e w6 ⟨rfl, hb6⟩
              clear hpa
              have BK6 := Aside0.mk ((hb6.block _ (blk_lt BKR.out)).trans BKR.out)
              have HB6 := Aside0.mk (HBR.out.trans (hb6.mono (Nat.le_of_lt (blk_lt BKR.out))))
              clear hb6 BKR HBR
              have BN7 := Aside0.mk (heap_alloc_new w6 (.cells #[.int .i64 0, .int .i64 0, .int .i64 0, .int .i64 0, .int .i64 0, .int .i64 0, .int .i64 0, .int .i64 0, .int .i64 0, .int .i64 0, .int .i64 0, .int .i64 0, .int .i64 0, .int .i64 0, .int .i64 0, .int .i64 0] 24))
              have BK7 := Aside0.mk (blk_alloc BK6.out (.cells #[.int .i64 0, .int .i64 0, .int .i64 0, .int .i64 0, .int .i64 0, .int .i64 0, .int .i64 0, .int .i64 0, .int .i64 0, .int .i64 0, .int .i64 0, .int .i64 0, .int .i64 0, .int .i64 0, .int .i64 0, .int .i64 0] 24))
              have HB7 := Aside0.mk (HB6.out.alloc (Nat.le_of_lt (blk_lt BK6.out)) (.cells #[.int .i64 0, .int .i64 0, .int .i64 0, .int .i64 0, .int .i64 0, .int .i64 0, .int .i64 0, .int .i64 0, .int .i64 0, .int .i64 0, .int .i64 0, .int .i64 0, .int .i64 0, .int .i64 0, .int .i64 0, .int .i64 0] 24))
              go_upto_region 21 with fail
              generalize w6.alloc (.cells #[.int .i64 0, .int .i64 0, .int .i64 0, .int .i64 0, .int .i64 0, .int .i64 0, .int .i64 0, .int .i64 0, .int .i64 0, .int .i64 0, .int .i64 0, .int .i64 0, .int .i64 0, .int .i64 0, .int .i64 0, .int .i64 0] 24) = w7 at *
              generalize w6.heap.size = g5 at *
              clear BK6 HB6
              go_wp2_with fail
              go_ret
              rw [HG.out]
              exact ⟨by simp, HB7.out⟩
          | false =>
            by_cases hv : validB [a0, a1, a2, a3, a4, a5, a6, a7, a8, a9, a10, a11, a12, a13, a14, a15] = true
            · have HV := Aside0.mk hv
              clear hv
              as_aux_lemma =>
                have hpa := HPA.out
                clear HPA
                rw [if_neg (by decide), if_pos HV.out] at hpa
                simp only [cfgV, List.map_cons, List.map_nil] at hpa
                go_wp2_with fail
                refine hpa.mono ?_
                rintro e w6 ⟨rfl, hb6⟩
                clear hpa
                have BK6 := Aside0.mk ((hb6.block _ (blk_lt BKR.out)).trans BKR.out)
                have HB6 := Aside0.mk (HBR.out.trans (hb6.mono (Nat.le_of_lt (blk_lt BKR.out))))
                clear hb6 BKR HBR
                have BN7 := Aside0.mk (heap_alloc_new w6 (.cells #[.int .i64 a0, .int .i64 a1, .int .i64 a2, .int .i64 a3, .int .i64 a4, .int .i64 a5, .int .i64 a6, .int .i64 a7, .int .i64 a8, .int .i64 a9, .int .i64 a10, .int .i64 a11, .int .i64 a12, .int .i64 a13, .int .i64 a14, .int .i64 a15] 24))
                have BK7 := Aside0.mk (blk_alloc BK6.out (.cells #[.int .i64 a0, .int .i64 a1, .int .i64 a2, .int .i64 a3, .int .i64 a4, .int .i64 a5, .int .i64 a6, .int .i64 a7, .int .i64 a8, .int .i64 a9, .int .i64 a10, .int .i64 a11, .int .i64 a12, .int .i64 a13, .int .i64 a14, .int .i64 a15] 24))
                have HB7 := Aside0.mk (HB6.out.alloc (Nat.le_of_lt (blk_lt BK6.out)) (.cells #[.int .i64 a0, .int .i64 a1, .int .i64 a2, .int .i64 a3, .int .i64 a4, .int .i64 a5, .int .i64 a6, .int .i64 a7, .int .i64 a8, .int .i64 a9, .int .i64 a10, .int .i64 a11, .int .i64 a12, .int .i64 a13, .int .i64 a14, .int .i64 a15] 24))
                go_upto_region 21 with fail
                generalize w6.alloc (.cells #[.int .i64 a0, .int .i64 a1, .int .i64 a2, .int .i64 a3, .int .i64 a4, .int .i64 a5, .int .i64 a6, .int .i64 a7, .int .i64 a8, .int .i64 a9, .int .i64 a10, .int .i64 a11, .int .i64 a12, .int .i64 a13, .int .i64 a14, .int .i64 a15] 24) = w7 at *
                generalize w6.heap.size = g5 at *
                clear BK6 HB6
                have x0 : w7.cell? ⟨g0, 0, none⟩ = some (.int .i64 a0) := (blk_cell BK7.out 0).trans rfl
                have x1 : w7.cell? ⟨g0, 1, none⟩ = some (.int .i64 a1) := (blk_cell BK7.out 1).trans rfl
                have x2 : w7.cell? ⟨g0, 2, none⟩ = some (.int .i64 a2) := (blk_cell BK7.out 2).trans rfl
                have x3 : w7.cell? ⟨g0, 3, none⟩ = some (.int .i64 a3) := (blk_cell BK7.out 3).trans rfl
                have x4 : w7.cell? ⟨g0, 4, none⟩ = some (.int .i64 a4) := (blk_cell BK7.out 4).trans rfl
                have x5 : w7.cell? ⟨g0, 5, none⟩ = some (.int .i64 a5) := (blk_cell BK7.out 5).trans rfl
                have x6 : w7.cell? ⟨g0, 6, none⟩ = some (.int .i64 a6) := (blk_cell BK7.out 6).trans rfl
                have x7 : w7.cell? ⟨g0, 7, none⟩ = some (.int .i64 a7) := (blk_cell BK7.out 7).trans rfl
                have x8 : w7.cell? ⟨g0, 8, none⟩ = some (.int .i64 a8) := (blk_cell BK7.out 8).trans rfl
                have x9 : w7.cell? ⟨g0, 9, none⟩ = some (.int .i64 a9) := (blk_cell BK7.out 9).trans rfl
                have x10 : w7.cell? ⟨g0, 10, none⟩ = some (.int .i64 a10) := (blk_cell BK7.out 10).trans rfl
                have x11 : w7.cell? ⟨g0, 11, none⟩ = some (.int .i64 a11) := (blk_cell BK7.out 11).trans rfl
                have x12 : w7.cell? ⟨g0, 12, none⟩ = some (.int .i64 a12) := (blk_cell BK7.out 12).trans rfl
                have x13 : w7.cell? ⟨g0, 13, none⟩ = some (.int .i64 a13) := (blk_cell BK7.out 13).trans rfl
                have x14 : w7.cell? ⟨g0, 14, none⟩ = some (.int .i64 a14) := (blk_cell BK7.out 14).trans rfl
                have x15 : w7.cell? ⟨g0, 15, none⟩ = some (.int .i64 a15) := (blk_cell BK7.out 15).trans rfl
                go_wp2_with fail
                refine (valid_any a0 a1 a2 a3 a4 a5 a6 a7 a8 a9 a10 a11 a12 a13 a14 a15 w7).mono ?_
                rintro e w8 ⟨rfl, hb8⟩
                rw [if_pos HV.out]
                have BK8 := Aside0.mk ((hb8.block _ (blk_lt BK7.out)).trans BK7.out)
                have BN8 := Aside0.mk ((hb8.block _ (blk_lt BN7.out)).trans BN7.out)
                have HB8 := Aside0.mk (HB7.out.trans (hb8.mono (Nat.le_of_lt (blk_lt BK7.out))))
                clear hb8 x0 x1 x2 x3 x4 x5 x6 x7 x8 x9 x10 x11 x12 x13 x14 x15
                have x0 : w8.cell? ⟨g0, 0, none⟩ = some (.int .i64 a0) := (blk_cell BK8.out 0).trans rfl
                have x1 : w8.cell? ⟨g0, 1, none⟩ = some (.int .i64 a1) := (blk_cell BK8.out 1).trans rfl
                have x2 : w8.cell? ⟨g0, 2, none⟩ = some (.int .i64 a2) := (blk_cell BK8.out 2).trans rfl
                have x3 : w8.cell? ⟨g0, 3, none⟩ = some (.int .i64 a3) := (blk_cell BK8.out 3).trans rfl
                have x4 : w8.cell? ⟨g0, 4, none⟩ = some (.int .i64 a4) := (blk_cell BK8.out 4).trans rfl
                have x5 : w8.cell? ⟨g0, 5, none⟩ = some (.int .i64 a5) := (blk_cell BK8.out 5).trans rfl
                have x6 : w8.cell? ⟨g0, 6, none⟩ = some (.int .i64 a6) := (blk_cell BK8.out 6).trans rfl
                have x7 : w8.cell? ⟨g0, 7, none⟩ = some (.int .i64 a7) := (blk_cell BK8.out 7).trans rfl
                have x8 : w8.cell? ⟨g0, 8, none⟩ = some (.int .i64 a8) := (blk_cell BK8.out 8).trans rfl
                have x9 : w8.cell? ⟨g0, 9, none⟩ = some (.int .i64 a9) := (blk_cell BK8.out 9).trans rfl
                have x10 : w8.cell? ⟨g0, 10, none⟩ = some (.int .i64 a10) := (blk_cell BK8.out 10).trans rfl
                have x11 : w8.cell? ⟨g0, 11, none⟩ = some (.int .i64 a11) := (blk_cell BK8.out 11).trans rfl
                have x12 : w8.cell? ⟨g0, 12, none⟩ = some (.int .i64 a12) := (blk_cell BK8.out 12).trans rfl
                have x13 : w8.cell? ⟨g0, 13, none⟩ = some (.int .i64 a13) := (blk_cell BK8.out 13).trans rfl
                have x14 : w8.cell? ⟨g0, 14, none⟩ = some (.int .i64 a14) := (blk_cell BK8.out 14).trans rfl
                have x15 : w8.cell? ⟨g0, 15, none⟩ = some (.int .i64 a15) := (blk_cell BK8.out 15).trans rfl
                have y0 : w8.cell? ⟨g5, 0, none⟩ = some (.int .i64 a0) := (blk_cell BN8.out 0).trans rfl
                have y1 : w8.cell? ⟨g5, 1, none⟩ = some (.int .i64 a1) := (blk_cell BN8.out 1).trans rfl
                have y2 : w8.cell? ⟨g5, 2, none⟩ = some (.int .i64 a2) := (blk_cell BN8.out 2).trans rfl
                have y3 : w8.cell? ⟨g5, 3, none⟩ = some (.int .i64 a3) := (blk_cell BN8.out 3).trans rfl
                have y4 : w8.cell? ⟨g5, 4, none⟩ = some (.int .i64 a4) := (blk_cell BN8.out 4).trans rfl
                have y5 : w8.cell? ⟨g5, 5, none⟩ = some (.int .i64 a5) := (blk_cell BN8.out 5).trans rfl
                have y6 : w8.cell? ⟨g5, 6, none⟩ = some (.int .i64 a6) := (blk_cell BN8.out 6).trans rfl
                have y7 : w8.cell? ⟨g5, 7, none⟩ = some (.int .i64 a7) := (blk_cell BN8.out 7).trans rfl
                have y8 : w8.cell? ⟨g5, 8, none⟩ = some (.int .i64 a8) := (blk_cell BN8.out 8).trans rfl
                have y9 : w8.cell? ⟨g5, 9, none⟩ = some (.int .i64 a9) := (blk_cell BN8.out 9).trans rfl
                have y10 : w8.cell? ⟨g5, 10, none⟩ = some (.int .i64 a10) := (blk_cell BN8.out 10).trans rfl
                have y11 : w8.cell? ⟨g5, 11, none⟩ = some (.int .i64 a11) := (blk_cell BN8.out 11).trans rfl
                have y12 : w8.cell? ⟨g5, 12, none⟩ = some (.int .i64 a12) := (blk_cell BN8.out 12).trans rfl
                have y13 : w8.cell? ⟨g5, 13, none⟩ = some (.int .i64 a13) := (blk_cell BN8.out 13).trans rfl
                have y14 : w8.cell? ⟨g5, 14, none⟩ = some (.int .i64 a14) := (blk_cell BN8.out 14).trans rfl
                have y15 : w8.cell? ⟨g5, 15, none⟩ = some (.int .i64 a15) := (blk_cell BN8.out 15).trans rfl
                go_wp2_with fail
                go_ret
                rw [HG.out]
                exact ⟨by simp, HB8.out⟩
            · have HV := Aside0.mk hv
              clear hv
              as_aux_lemma =>
                have hpa := HPA.out
                clear HPA
                rw [if_neg (by decide), if_neg HV.out] at hpa
                simp only [cfgV, zero16, List.replicate, List.map_cons, List.map_nil] at hpa
                go_wp2_with fail
                refine hpa.mono ?_
                rintro e w6 ⟨rfl, hb6⟩
                clear hpa
                have BK6 := Aside0.mk ((hb6.block _ (blk_lt BKR.out)).trans BKR.out)
                have HB6 := Aside0.mk (HBR.out.trans (hb6.mono (Nat.le_of_lt (blk_lt BKR.out))))
                clear hb6 BKR HBR
                have BN7 := Aside0.mk (heap_alloc_new w6 (.cells #[.int .i64 0, .int .i64 0, .int .i64 0, .int .i64 0, .int .i64 0, .int .i64 0, .int .i64 0, .int .i64 0, .int .i64 0, .int .i64 0, .int .i64 0, .int .i64 0, .int .i64 0, .int .i64 0, .int .i64 0, .int .i64 0] 24))
                have BK7 := Aside0.mk (blk_alloc BK6.out (.cells #[.int .i64 0, .int .i64 0, .int .i64 0, .int .i64 0, .int .i64 0, .int .i64 0, .int .i64 0, .int .i64 0, .int .i64 0, .int .i64 0, .int .i64 0, .int .i64 0, .int .i64 0, .int .i64 0, .int .i64 0, .int .i64 0] 24))
                have HB7 := Aside0.mk (HB6.out.alloc (Nat.le_of_lt (blk_lt BK6.out)) (.cells #[.int .i64 0, .int .i64 0, .int .i64 0, .int .i64 0, .int .i64 0, .int .i64 0, .int .i64 0, .int .i64 0, .int .i64 0, .int .i64 0, .int .i64 0, .int .i64 0, .int .i64 0, .int .i64 0, .int .i64 0, .int .i64 0] 24))
                go_upto_region 21 with fail
                generalize w6.alloc (.cells #[.int .i64 0, .int .i64 0, .int .i64 0, .int .i64 0, .int .i64 0, .int .i64 0, .int .i64 0, .int .i64 0, .int .i64 0, .int .i64 0, .int .i64 0, .int .i64 0, .int .i64 0, .int .i64 0, .int .i64 0, .int .i64 0] 24) = w7 at *
                generalize w6.heap.size = g5 at *
                clear BK6 HB6
                have x0 : w7.cell? ⟨g0, 0, none⟩ = some (.int .i64 a0) := (blk_cell BK7.out 0).trans rfl
                have x1 : w7.cell? ⟨g0, 1, none⟩ = some (.int .i64 a1) := (blk_cell BK7.out 1).trans rfl
                have x2 : w7.cell? ⟨g0, 2, none⟩ = some (.int .i64 a2) := (blk_cell BK7.out 2).trans rfl
                have x3 : w7.cell? ⟨g0, 3, none⟩ = some (.int .i64 a3) := (blk_cell BK7.out 3).trans rfl
                have x4 : w7.cell? ⟨g0, 4, none⟩ = some (.int .i64 a4) := (blk_cell BK7.out 4).trans rfl
                have x5 : w7.cell? ⟨g0, 5, none⟩ = some (.int .i64 a5) := (blk_cell BK7.out 5).trans rfl
                have x6 : w7.cell? ⟨g0, 6, none⟩ = some (.int .i64 a6) := (blk_cell BK7.out 6).trans rfl
                have x7 : w7.cell? ⟨g0, 7, none⟩ = some (.int .i64 a7) := (blk_cell BK7.out 7).trans rfl
                have x8 : w7.cell? ⟨g0, 8, none⟩ = some (.int .i64 a8) := (blk_cell BK7.out 8).trans rfl
                have x9 : w7.cell? ⟨g0, 9, none⟩ = some (.int .i64 a9) := (blk_cell BK7.out 9).trans rfl
                have x10 : w7.cell? ⟨g0, 10, none⟩ = some (.int .i64 a10) := (blk_cell BK7.out 10).trans rfl
                have x11 : w7.cell? ⟨g0, 11, none⟩ = some (.int .i64 a11) := (blk_cell BK7.out 11).trans rfl
                have x12 : w7.cell? ⟨g0, 12, none⟩ = some (.int .i64 a12) := (blk_cell BK7.out 12).trans rfl
                have x13 : w7.cell? ⟨g0, 13, none⟩ = some (.int .i64 a13) := (blk_cell BK7.out 13).trans rfl
                have x14 : w7.cell? ⟨g0, 14, none⟩ = some (.int .i64 a14) := (blk_cell BK7.out 14).trans rfl
                have x15 : w7.cell? ⟨g0, 15, none⟩ = some (.int .i64 a15) := (blk_cell BK7.out 15).trans rfl
                go_wp2_with fail
                refine (valid_any a0 a1 a2 a3 a4 a5 a6 a7 a8 a9 a10 a11 a12 a13 a14 a15 w7).mono ?_
                rintro e w8 ⟨rfl, hb8⟩
                rw [if_neg HV.out]
                have BK8 := Aside0.mk ((hb8.block _ (blk_lt BK7.out)).trans BK7.out)
                have BN8 := Aside0.mk ((hb8.block _ (blk_lt BN7.out)).trans BN7.out)
                have HB8 := Aside0.mk (HB7.out.trans (hb8.mono (Nat.le_of_lt (blk_lt BK7.out))))
                clear hb8 x0 x1 x2 x3 x4 x5 x6 x7 x8 x9 x10 x11 x12 x13 x14 x15
                go_wp2_with fail
                go_ret
                rw [HG.out]
                exact ⟨by simp, HB8.out⟩
end Go.Proofs.YteaihgjjplgalaaDoor
