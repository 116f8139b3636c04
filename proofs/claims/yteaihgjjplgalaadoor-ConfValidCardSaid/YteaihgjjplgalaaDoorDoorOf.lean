/- conf.of: a config of its numbers. -/
import Derived.Test.YteaihgjjplgalaaDoorDoorTold
import Derived.Test.YteaihgjjplgalaaDoorApp
namespace Go.Proofs.YteaihgjjplgalaaDoor
open Go.RowKit Go.Proofs.YteaihgjjplgalaaDoorW.PrintWords Go.Proofs.YteaihgjjplgalaaDoorW.PrintLast Go.Proofs.YteaihgjjplgalaaDoorW.PrintMore
set_option linter.unusedVariables false
set_option linter.unusedSimpArgs false

theorem ofq_any (g b c : Nat) (i : Int) (v : Value) (k : Int) (hv : v = .int .i64 k) (w : World) (h0 : 0 ≤ i) (h1 : i < 16) (hg : w.cell? ⟨g, 0, none⟩ = some (.slice (some ⟨b, 0, none⟩) 16 c)) (hc : w.cell? ⟨b, i.toNat, none⟩ = some v) :
    Calls Tryd.prog 45 #[.int .i64 i, .pointer (some ⟨g, 0, none⟩)] w fun e w' => e = .returned (.int .i64 k) ∧ w' = w := by
  subst hv
  obtain ⟨j, rfl⟩ : ∃ j : Nat, i = (j : Int) := ⟨i.toNat, by omega⟩
  simp only [Int.toNat_natCast] at hc
  have h2 : j < 16 := by omega
  go_enter Tryd.func45, Tryd.ntmps45
  go_wp2_with fail
  go_ret
  exact ⟨rfl, rfl⟩
theorem ofn_any (g b c : Nat) (i : Int) (v : Value) (k : Int) (hv : v = .int .i64 k) (w : World) (h0 : 0 ≤ i) (h1 : i < 16) (hg : w.cell? ⟨g, 0, none⟩ = some (.slice (some ⟨b, 0, none⟩) 16 c)) (hc : w.cell? ⟨b, i.toNat, none⟩ = some v) :
    Calls Tryd.prog 46 #[.int .i64 i, .pointer (some ⟨g, 0, none⟩)] w fun e w' => e = .returned (.int .i64 k) ∧ w' = w := by
  subst hv
  obtain ⟨j, rfl⟩ : ∃ j : Nat, i = (j : Int) := ⟨i.toNat, by omega⟩
  simp only [Int.toNat_natCast] at hc
  have h2 : j < 16 := by omega
  go_enter Tryd.func46, Tryd.ntmps46
  go_wp2_with fail
  go_ret
  exact ⟨rfl, rfl⟩
theorem sixteen (i : Nat) (h : i < 16) : i = 0 ∨ i = 1 ∨ i = 2 ∨ i = 3 ∨ i = 4 ∨ i = 5 ∨ i = 6 ∨ i = 7 ∨ i = 8 ∨ i = 9 ∨ i = 10 ∨ i = 11 ∨ i = 12 ∨ i = 13 ∨ i = 14 ∨ i = 15 := by omega
def OfAt (G b c : Nat) (M : Int → Int) (w : World) : Prop := w.cell? ⟨G, 0, none⟩ = some (.slice (some ⟨b, 0, none⟩) 16 c) ∧ ∀ i : Nat, i < 16 → w.cell? ⟨b, i, none⟩ = some (.int .i64 (M i))
theorem ofq_all {G b c : Nat} {M : Int → Int} {w : World} (h : OfAt G b c M w) (i : Int) (h0 : 0 ≤ i) (h1 : i < 16) :
    Calls Tryd.prog 45 #[.int .i64 i, .pointer (some ⟨G, 0, none⟩)] w fun e w' => e = .returned (.int .i64 (M i)) ∧ w' = w := by
  obtain ⟨j, rfl⟩ : ∃ j : Nat, i = (j : Int) := ⟨i.toNat, by omega⟩
  exact ofq_any G b c j _ _ rfl w h0 h1 h.1 (h.2 j (by omega))
theorem ofn_all {G b c : Nat} {M : Int → Int} {w : World} (h : OfAt G b c M w) (i : Int) (h0 : 0 ≤ i) (h1 : i < 16) :
    Calls Tryd.prog 46 #[.int .i64 i, .pointer (some ⟨G, 0, none⟩)] w fun e w' => e = .returned (.int .i64 (M i)) ∧ w' = w := by
  obtain ⟨j, rfl⟩ : ∃ j : Nat, i = (j : Int) := ⟨i.toNat, by omega⟩
  exact ofn_any G b c j _ _ rfl w h0 h1 h.1 (h.2 j (by omega))
theorem OfAt.drew {G b c : Nat} {M : Int → Int} {w : World} (h : OfAt G b c M w) : OfAt G b c M w.drew := h
theorem blk16 {w : World} {g : Nat} {t : TypeId} (h : w.heap[g]? = some (.cells #[.int .i64 0, .int .i64 0, .int .i64 0, .int .i64 0, .int .i64 0, .int .i64 0, .int .i64 0, .int .i64 0, .int .i64 0, .int .i64 0, .int .i64 0, .int .i64 0, .int .i64 0, .int .i64 0, .int .i64 0, .int .i64 0] t (0, 0))) (v0 v1 v2 v3 v4 v5 v6 v7 v8 v9 v10 v11 v12 v13 v14 v15 : Value) : ((((((((((((((((w.setCell ⟨g, 0, none⟩ v0).setCell ⟨g, 1, none⟩ v1).setCell ⟨g, 2, none⟩ v2).setCell ⟨g, 3, none⟩ v3).setCell ⟨g, 4, none⟩ v4).setCell ⟨g, 5, none⟩ v5).setCell ⟨g, 6, none⟩ v6).setCell ⟨g, 7, none⟩ v7).setCell ⟨g, 8, none⟩ v8).setCell ⟨g, 9, none⟩ v9).setCell ⟨g, 10, none⟩ v10).setCell ⟨g, 11, none⟩ v11).setCell ⟨g, 12, none⟩ v12).setCell ⟨g, 13, none⟩ v13).setCell ⟨g, 14, none⟩ v14).setCell ⟨g, 15, none⟩ v15).heap[g]? = some (.cells #[v0, v1, v2, v3, v4, v5, v6, v7, v8, v9, v10, v11, v12, v13, v14, v15] t (0, 0)) := by
  have := (blk_set (blk_set (blk_set (blk_set (blk_set (blk_set (blk_set (blk_set (blk_set (blk_set (blk_set (blk_set (blk_set (blk_set (blk_set (blk_set h 0 v0) 1 v1) 2 v2) 3 v3) 4 v4) 5 v5) 6 v6) 7 v7) 8 v8) 9 v9) 10 v10) 11 v11) 12 v12) 13 v13) 14 v14) 15 v15)
  simpa using this
theorem below16 {B : Nat} {a w : World} {g : Nat} (h : Below B a w) (hg : B ≤ g) (v0 v1 v2 v3 v4 v5 v6 v7 v8 v9 v10 v11 v12 v13 v14 v15 : Value) : Below B a ((((((((((((((((w.setCell ⟨g, 0, none⟩ v0).setCell ⟨g, 1, none⟩ v1).setCell ⟨g, 2, none⟩ v2).setCell ⟨g, 3, none⟩ v3).setCell ⟨g, 4, none⟩ v4).setCell ⟨g, 5, none⟩ v5).setCell ⟨g, 6, none⟩ v6).setCell ⟨g, 7, none⟩ v7).setCell ⟨g, 8, none⟩ v8).setCell ⟨g, 9, none⟩ v9).setCell ⟨g, 10, none⟩ v10).setCell ⟨g, 11, none⟩ v11).setCell ⟨g, 12, none⟩ v12).setCell ⟨g, 13, none⟩ v13).setCell ⟨g, 14, none⟩ v14).setCell ⟨g, 15, none⟩ v15) := ((((((((((((((((h.setCell hg v0).setCell hg v1).setCell hg v2).setCell hg v3).setCell hg v4).setCell hg v5).setCell hg v6).setCell hg v7).setCell hg v8).setCell hg v9).setCell hg v10).setCell hg v11).setCell hg v12).setCell hg v13).setCell hg v14).setCell hg v15)
theorem OfAt.setCell {G b c : Nat} {M : Int → Int} {w : World} (h : OfAt G b c M w) {g : Nat} (k : Nat) (v : Value) (h1 : G ≠ g) (h2 : b ≠ g) : OfAt G b c M (w.setCell ⟨g, k, none⟩ v) :=
  ⟨(World.cell?_setCell_other w ⟨g, k, none⟩ ⟨G, 0, none⟩ v (fun e => h1 (by injection e with e; exact e.symm))).trans h.1, fun i hi => (World.cell?_setCell_other w ⟨g, k, none⟩ ⟨b, i, none⟩ v (fun e => h2 (by injection e with e; exact e.symm))).trans (h.2 i hi)⟩
theorem of_S {G b c : Nat} {M : Int → Int} {w' : World} (h : OfAt G b c M w') : w'.cell? ⟨G, 0, none⟩ = some (.slice (some ⟨b, 0, none⟩) 16 c) ∧ w'.cell? ⟨b, 2, none⟩ = some (.int .i64 (M 2)) ∧ w'.cell? ⟨b, 3, none⟩ = some (.int .i64 (M 3)) ∧ w'.cell? ⟨b, 4, none⟩ = some (.int .i64 (M 4)) ∧ w'.cell? ⟨b, 5, none⟩ = some (.int .i64 (M 5)) ∧ w'.cell? ⟨b, 6, none⟩ = some (.int .i64 (M 6)) ∧ w'.cell? ⟨b, 7, none⟩ = some (.int .i64 (M 7)) ∧ w'.cell? ⟨b, 13, none⟩ = some (.int .i64 (M 13)) :=
  ⟨h.1, h.2 2 (by decide), h.2 3 (by decide), h.2 4 (by decide), h.2 5 (by decide), h.2 6 (by decide), h.2 7 (by decide), h.2 13 (by decide)⟩
set_option maxRecDepth 100000 in
set_option maxHeartbeats 40000000 in
theorem of_any (b : Nat) (n0 n1 n2 n3 n4 n5 n6 n7 n8 n9 n10 n11 n12 n13 n14 n15 : Int) (c : Nat) (w : World) (hb : w.heap[b]? = some (.cells #[.int .i64 n0, .int .i64 n1, .int .i64 n2, .int .i64 n3, .int .i64 n4, .int .i64 n5, .int .i64 n6, .int .i64 n7, .int .i64 n8, .int .i64 n9, .int .i64 n10, .int .i64 n11, .int .i64 n12, .int .i64 n13, .int .i64 n14, .int .i64 n15] 2 (0, 0))) :
    Calls Tryd.prog 30 #[.slice (some ⟨b, 0, none⟩) 16 c] w fun e w' => e = .returned (.agg #[.int .i64 n0, .int .i64 n1, .int .i64 n2, .int .i64 n3, .int .i64 n4, .int .i64 n5, .int .i64 n6, .int .i64 n7, .int .i64 n8, .int .i64 n9, .int .i64 n10, .int .i64 n11, .int .i64 n12, .int .i64 n13, .int .i64 n14, .int .i64 n15]) ∧ Below w.heap.size w w' := by
  have hlt : b < w.heap.size := blk_lt hb
  have BKG := Aside0.mk (show ((w.alloc (.cells #[.slice (some ⟨b, 0, none⟩) 16 c] 30)).alloc (.cells #[.int .i64 0, .int .i64 0, .int .i64 0, .int .i64 0, .int .i64 0, .int .i64 0, .int .i64 0, .int .i64 0, .int .i64 0, .int .i64 0, .int .i64 0, .int .i64 0, .int .i64 0, .int .i64 0, .int .i64 0, .int .i64 0] 24)).heap[w.heap.size]? = some (.cells #[.slice (some ⟨b, 0, none⟩) 16 c] 30) from blk_alloc (heap_alloc_new w (.cells #[.slice (some ⟨b, 0, none⟩) 16 c] 30)) (.cells #[.int .i64 0, .int .i64 0, .int .i64 0, .int .i64 0, .int .i64 0, .int .i64 0, .int .i64 0, .int .i64 0, .int .i64 0, .int .i64 0, .int .i64 0, .int .i64 0, .int .i64 0, .int .i64 0, .int .i64 0, .int .i64 0] 24))
  have BK1 := Aside0.mk (show ((w.alloc (.cells #[.slice (some ⟨b, 0, none⟩) 16 c] 30)).alloc (.cells #[.int .i64 0, .int .i64 0, .int .i64 0, .int .i64 0, .int .i64 0, .int .i64 0, .int .i64 0, .int .i64 0, .int .i64 0, .int .i64 0, .int .i64 0, .int .i64 0, .int .i64 0, .int .i64 0, .int .i64 0, .int .i64 0] 24)).heap[w.heap.size + 1]? = some (.cells #[.int .i64 0, .int .i64 0, .int .i64 0, .int .i64 0, .int .i64 0, .int .i64 0, .int .i64 0, .int .i64 0, .int .i64 0, .int .i64 0, .int .i64 0, .int .i64 0, .int .i64 0, .int .i64 0, .int .i64 0, .int .i64 0] 24) by have := heap_alloc_new (w.alloc (.cells #[.slice (some ⟨b, 0, none⟩) 16 c] 30)) (.cells #[.int .i64 0, .int .i64 0, .int .i64 0, .int .i64 0, .int .i64 0, .int .i64 0, .int .i64 0, .int .i64 0, .int .i64 0, .int .i64 0, .int .i64 0, .int .i64 0, .int .i64 0, .int .i64 0, .int .i64 0, .int .i64 0] 24); simpa using this)
  have HU := Aside0.mk (show Below w.heap.size w ((w.alloc (.cells #[.slice (some ⟨b, 0, none⟩) 16 c] 30)).alloc (.cells #[.int .i64 0, .int .i64 0, .int .i64 0, .int .i64 0, .int .i64 0, .int .i64 0, .int .i64 0, .int .i64 0, .int .i64 0, .int .i64 0, .int .i64 0, .int .i64 0, .int .i64 0, .int .i64 0, .int .i64 0, .int .i64 0] 24)) from ((Below.refl _ _).alloc (Nat.le_refl _) (.cells #[.slice (some ⟨b, 0, none⟩) 16 c] 30)).alloc (by simp) (.cells #[.int .i64 0, .int .i64 0, .int .i64 0, .int .i64 0, .int .i64 0, .int .i64 0, .int .i64 0, .int .i64 0, .int .i64 0, .int .i64 0, .int .i64 0, .int .i64 0, .int .i64 0, .int .i64 0, .int .i64 0, .int .i64 0] 24))
  have BKb := Aside0.mk ((HU.out.block b hlt).trans hb)
  clear hb
  go_enter Tryd.func30, Tryd.ntmps30
  go_upto_region 3 with fail
  generalize ((w.alloc (.cells #[.slice (some ⟨b, 0, none⟩) 16 c] 30)).alloc (.cells #[.int .i64 0, .int .i64 0, .int .i64 0, .int .i64 0, .int .i64 0, .int .i64 0, .int .i64 0, .int .i64 0, .int .i64 0, .int .i64 0, .int .i64 0, .int .i64 0, .int .i64 0, .int .i64 0, .int .i64 0, .int .i64 0] 24)) = W1 at *
  obtain ⟨M, hM⟩ : ∃ M : Int → Int, M = fun i => [n0, n1, n2, n3, n4, n5, n6, n7, n8, n9, n10, n11, n12, n13, n14, n15].getD i.toNat 0 := ⟨_, rfl⟩
  have HOf := Aside0.mk (show OfAt w.heap.size b c M W1 from ⟨(blk_cell BKG.out 0).trans rfl, fun i hi => (blk_cell BKb.out i).trans (by
    subst hM
    rcases sixteen i hi with rfl | rfl | rfl | rfl | rfl | rfl | rfl | rfl | rfl | rfl | rfl | rfl | rfl | rfl | rfl | rfl <;> rfl)⟩)
  have HM := Aside0.mk hM
  clear hM
  have hne : b ≠ w.heap.size + 1 := by omega
  have hne' : w.heap.size ≠ w.heap.size + 1 := by omega
  have hlt1 : w.heap.size + 1 < W1.heap.size := blk_lt BK1.out
  generalize hG : w.heap.size = G at *
  have HG := Lib.hid hG
  clear hG
  have y0 : W1.cell? ⟨G + 1, 0, none⟩ = some (.int .i64 0) := (blk_cell BK1.out 0).trans rfl
  have z0 : W1.frozen? ⟨G + 1, 0, none⟩ = false := blk_frozen BK1.out 0
  have y1 : W1.cell? ⟨G + 1, 1, none⟩ = some (.int .i64 0) := (blk_cell BK1.out 1).trans rfl
  have z1 : W1.frozen? ⟨G + 1, 1, none⟩ = false := blk_frozen BK1.out 1
  have y2 : W1.cell? ⟨G + 1, 2, none⟩ = some (.int .i64 0) := (blk_cell BK1.out 2).trans rfl
  have z2 : W1.frozen? ⟨G + 1, 2, none⟩ = false := blk_frozen BK1.out 2
  have y3 : W1.cell? ⟨G + 1, 3, none⟩ = some (.int .i64 0) := (blk_cell BK1.out 3).trans rfl
  have z3 : W1.frozen? ⟨G + 1, 3, none⟩ = false := blk_frozen BK1.out 3
  have y4 : W1.cell? ⟨G + 1, 4, none⟩ = some (.int .i64 0) := (blk_cell BK1.out 4).trans rfl
  have z4 : W1.frozen? ⟨G + 1, 4, none⟩ = false := blk_frozen BK1.out 4
  have y5 : W1.cell? ⟨G + 1, 5, none⟩ = some (.int .i64 0) := (blk_cell BK1.out 5).trans rfl
  have z5 : W1.frozen? ⟨G + 1, 5, none⟩ = false := blk_frozen BK1.out 5
  have y6 : W1.cell? ⟨G + 1, 6, none⟩ = some (.int .i64 0) := (blk_cell BK1.out 6).trans rfl
  have z6 : W1.frozen? ⟨G + 1, 6, none⟩ = false := blk_frozen BK1.out 6
  have y7 : W1.cell? ⟨G + 1, 7, none⟩ = some (.int .i64 0) := (blk_cell BK1.out 7).trans rfl
  have z7 : W1.frozen? ⟨G + 1, 7, none⟩ = false := blk_frozen BK1.out 7
  have y8 : W1.cell? ⟨G + 1, 8, none⟩ = some (.int .i64 0) := (blk_cell BK1.out 8).trans rfl
  have z8 : W1.frozen? ⟨G + 1, 8, none⟩ = false := blk_frozen BK1.out 8
  have y9 : W1.cell? ⟨G + 1, 9, none⟩ = some (.int .i64 0) := (blk_cell BK1.out 9).trans rfl
  have z9 : W1.frozen? ⟨G + 1, 9, none⟩ = false := blk_frozen BK1.out 9
  have y10 : W1.cell? ⟨G + 1, 10, none⟩ = some (.int .i64 0) := (blk_cell BK1.out 10).trans rfl
  have z10 : W1.frozen? ⟨G + 1, 10, none⟩ = false := blk_frozen BK1.out 10
  have y11 : W1.cell? ⟨G + 1, 11, none⟩ = some (.int .i64 0) := (blk_cell BK1.out 11).trans rfl
  have z11 : W1.frozen? ⟨G + 1, 11, none⟩ = false := blk_frozen BK1.out 11
  have y12 : W1.cell? ⟨G + 1, 12, none⟩ = some (.int .i64 0) := (blk_cell BK1.out 12).trans rfl
  have z12 : W1.frozen? ⟨G + 1, 12, none⟩ = false := blk_frozen BK1.out 12
  have y13 : W1.cell? ⟨G + 1, 13, none⟩ = some (.int .i64 0) := (blk_cell BK1.out 13).trans rfl
  have z13 : W1.frozen? ⟨G + 1, 13, none⟩ = false := blk_frozen BK1.out 13
  have y14 : W1.cell? ⟨G + 1, 14, none⟩ = some (.int .i64 0) := (blk_cell BK1.out 14).trans rfl
  have z14 : W1.frozen? ⟨G + 1, 14, none⟩ = false := blk_frozen BK1.out 14
  have y15 : W1.cell? ⟨G + 1, 15, none⟩ = some (.int .i64 0) := (blk_cell BK1.out 15).trans rfl
  have z15 : W1.frozen? ⟨G + 1, 15, none⟩ = false := blk_frozen BK1.out 15
  go_region_held3 (fun w' => w'.cell? ⟨G, 0, none⟩ = some (.slice (some ⟨b, 0, none⟩) 16 c) ∧ w'.cell? ⟨b, 2, none⟩ = some (.int .i64 (M 2)) ∧ w'.cell? ⟨b, 3, none⟩ = some (.int .i64 (M 3)) ∧ w'.cell? ⟨b, 4, none⟩ = some (.int .i64 (M 4)) ∧ w'.cell? ⟨b, 5, none⟩ = some (.int .i64 (M 5)) ∧ w'.cell? ⟨b, 6, none⟩ = some (.int .i64 (M 6)) ∧ w'.cell? ⟨b, 7, none⟩ = some (.int .i64 (M 7)) ∧ w'.cell? ⟨b, 13, none⟩ = some (.int .i64 (M 13))) ((refine of_S (G := G) (b := b) (c := c) (M := M) ?_; repeat (first | with_reducible exact HOf.out | with_reducible refine OfAt.drew ?_ | with_reducible refine OfAt.setCell ?_ _ _ hne' hne))) (first | (go_at_call 45; refine (ofq_all (G := G) (b := b) (c := c) (M := M) ?qH _ ?q0 ?q1).mono ?_; (case qH => exact HOf.out); (case q0 => decide); (case q1 => decide); rintro e w2 ⟨rfl, rfl⟩) | (go_at_call 46; refine (ofn_all (G := G) (b := b) (c := c) (M := M) ?qH _ ?q0 ?q1).mono ?_; (case qH => exact HOf.out); (case q0 => decide); (case q1 => decide); rintro e w2 ⟨rfl, rfl⟩))
  have HK := Aside0.mk (blk16 BK1.out (.int .i64 (M 0)) (.int .i64 (M 1)) (.int .i64 (M 2)) (.int .i64 (M 3)) (.int .i64 (M 4)) (.int .i64 (M 5)) (.int .i64 (M 6)) (.int .i64 (M 7)) (.int .i64 (M 8)) (.int .i64 (M 9)) (.int .i64 (M 10)) (.int .i64 (M 11)) (.int .i64 (M 12)) (.int .i64 (M 13)) (.int .i64 (M 14)) (.int .i64 (M 15)))
  have HU3 := Aside0.mk (below16 HU.out (show G ≤ G + 1 by omega) (.int .i64 (M 0)) (.int .i64 (M 1)) (.int .i64 (M 2)) (.int .i64 (M 3)) (.int .i64 (M 4)) (.int .i64 (M 5)) (.int .i64 (M 6)) (.int .i64 (M 7)) (.int .i64 (M 8)) (.int .i64 (M 9)) (.int .i64 (M 10)) (.int .i64 (M 11)) (.int .i64 (M 12)) (.int .i64 (M 13)) (.int .i64 (M 14)) (.int .i64 (M 15)))
  go_wp2_with fail
  (try simp only [Exit.inBlock, Exit.then])
  refine bodyPost_ret (results_cell_row rfl _ _ (G + 1) 24 #[.int .i64 (M 0), .int .i64 (M 1), .int .i64 (M 2), .int .i64 (M 3), .int .i64 (M 4), .int .i64 (M 5), .int .i64 (M 6), .int .i64 (M 7), .int .i64 (M 8), .int .i64 (M 9), .int .i64 (M 10), .int .i64 (M 11), .int .i64 (M 12), .int .i64 (M 13), .int .i64 (M 14), .int .i64 (M 15)] (0, 0) _ rfl (blk_drew HK.out) Tryd.underlying24 rfl (by kernel_rfl)) rfl ?_
  refine ⟨?_, ?_⟩
  · rw [HM.out]; rfl
  · rw [HG.out]; exact HU3.out.drew
end Go.Proofs.YteaihgjjplgalaaDoor
