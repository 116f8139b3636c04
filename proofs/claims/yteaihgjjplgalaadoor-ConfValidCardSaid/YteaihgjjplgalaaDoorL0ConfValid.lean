/- What holds in the drawn region of ConfValid (written by mkcv.py). -/
import Derived.Test.YteaihgjjplgalaaDoorDoorAwake2
import Derived.Test.YteaihgjjplgalaaDoorQValidV
import Derived.Test.YteaihgjjplgalaaDoorRegInv
import Derived.StillTailTactics
namespace Go.Proofs.YteaihgjjplgalaaDoor
open Go.RowKit Go.Proofs.YteaihgjjplgalaaDoorW.PrintWords Go.Proofs.YteaihgjjplgalaaDoorW.PrintLast Go.Proofs.YteaihgjjplgalaaDoorW.PrintMore
set_option linter.unusedVariables false
set_option linter.unusedSimpArgs false

def I64c (ns : List Int) : Prop := ∀ v ∈ ns, -9223372036854775808 ≤ v ∧ v ≤ 9223372036854775807
/-- A slice of the call's own, not nil, as a block. -/
theorem row_of_own {w : World} {base n : Nat} {T : TypeId} {v : Value} {xs : List Value} (h : w.ownsRow base T 1 v n xs) (hn : 0 < n) (hx : xs.length = n) : ∃ g cap cur, v = .slice (some ⟨g, 0, none⟩) n cap ∧ n ≤ cap ∧ cap ≤ maxLen ∧ base ≤ g ∧ w.heap[g]? = some (.cells cur T (0, 0)) ∧ ∀ j, j < n → cur[j]? = some (xs.getD j undef) := by
  rcases h.2 with ⟨_, h0⟩ | ⟨g, cap, cur, rfl, hbase, hcell, h1, h2, h3, h4⟩
  · omega
  · refine ⟨g, cap, cur, rfl, h1, h2, hbase, hcell, fun j hj => ?_⟩
    have e : (cur.toList.take (n * 1))[j]? = xs[j]? := by rw [h4]
    rw [Nat.mul_one, List.getElem?_take_of_lt hj] at e
    rw [← Array.getElem?_toList, e]
    show xs[j]? = some (xs.getD j undef)
    rw [List.getD_eq_getElem?_getD, List.getElem?_eq_getElem (by omega)]
    rfl
theorem encs_getD {α : Type} (enc : α → Value) (xs : List α) (d : α) (j : Nat) (hj : j < xs.length) : (encs enc xs).getD j undef = enc (xs.getD j d) := by
  unfold encs
  simp [List.getD_eq_getElem?_getD, List.getElem?_eq_getElem hj]
def RwAt (w : World) (g : Nat) (cur : Array Value) (vs : List Int) : Prop := w.heap[g]? = some (.cells cur 2 (0, 0)) ∧ ∀ j, j < vs.length → cur[j]? = some (.int .i64 (vs.getD j 0))
theorem RwAt.below {w w' : World} {g : Nat} {cur : Array Value} {vs : List Int} (h : RwAt w g cur vs) (hb : Below w.heap.size w w') : RwAt w' g cur vs := ⟨(hb.block g (blk_lt h.1)).trans h.1, h.2⟩
theorem RwAt.reads {w : World} {g : Nat} {cur : Array Value} {vs : List Int} (h : RwAt w g cur vs) (hm : vs.length ≤ 9223372036854775807) : Kd.C (Kd.int .i64) w (some ⟨g, 0, none⟩) vs.length vs := by
  refine Kd.C_of_reads (d := 0) ⟨rfl, hm, fun _ => ⟨⟨g, 0, none⟩, rfl, fun j hj => ?_⟩⟩
  rw [show (⟨g, 0, none⟩ : Addr).add j = ⟨g, 0 + j, none⟩ from WideShapes.add_plain .., Nat.zero_add]
  exact (blk_cell h.1 j).trans (h.2 j hj)
theorem own_row (a0 a1 a2 a3 a4 a5 a6 a7 a8 a9 a10 a11 a12 a13 a14 a15 : Int) (w : World) :
    Calls Tryd.prog 10 #[.agg #[.int .i64 a0, .int .i64 a1, .int .i64 a2, .int .i64 a3, .int .i64 a4, .int .i64 a5, .int .i64 a6, .int .i64 a7, .int .i64 a8, .int .i64 a9, .int .i64 a10, .int .i64 a11, .int .i64 a12, .int .i64 a13, .int .i64 a14, .int .i64 a15]] w fun e w' => ∃ g c cur, e = .returned (.slice (some ⟨g, 0, none⟩) 16 c) ∧ 16 ≤ c ∧ w.heap.size ≤ g ∧ RwAt w' g cur [a0, a1, a2, a3, a4, a5, a6, a7, a8, a9, a10, a11, a12, a13, a14, a15] ∧ Below w.heap.size w w' := by
  refine (PConfValid.overfalllaw13_own.calls a0 a1 a2 a3 a4 a5 a6 a7 a8 a9 a10 a11 a12 a13 a14 a15 [a0, a1, a2, a3, a4, a5, a6, a7, a8, a9, a10, a11, a12, a13, a14, a15] w rfl).mono ?_
  rintro e w' ⟨v, rfl, hR, hb⟩
  obtain ⟨g, cap, cur, rfl, h1, h2, h3, h4, h5⟩ := row_of_own (Kd.own_of_R hR) (by simp) (by rw [encs_length])
  exact ⟨g, cap, cur, rfl, h1, h3, ⟨h4, fun j hj => (h5 j hj).trans (by rw [encs_getD _ _ 0 j hj])⟩, hb⟩
theorem refvalid_row (vs : List Int) (hl : vs.length = 16) (g c : Nat) (cur : Array Value) (w : World) (hC : RwAt w g cur vs) (hc : 16 ≤ c) :
    Calls Tryd.prog 20 #[.slice (some ⟨g, 0, none⟩) 16 c] w fun e w' => e = .returned (.bool (validB vs)) ∧ Below w.heap.size w w' := by
  have hex : ∃ K, PConfValid.overfallref13_Valid.f K vs = some (validB vs) := by
    obtain ⟨a0, a1, a2, a3, a4, a5, a6, a7, a8, a9, a10, a11, a12, a13, a14, a15, rfl⟩ := len16 vs hl
    obtain ⟨K, hK⟩ := valid13_ev a0 a1 a2 a3 a4 a5 a6 a7 a8 a9 a10 a11 a12 a13 a14 a15
    exact ⟨K, hK K (Nat.le_refl _)⟩
  obtain ⟨K, hK⟩ := hex
  have h1 := hC.reads (by omega)
  rw [← hl] at hc ⊢
  exact PConfValid.overfallref13_Valid.calls K _ c vs _ w h1 hc hK
theorem refdefault_row (w : World) :
    Calls Tryd.prog 23 #[] w fun e w' => e = .returned (.slice (some ⟨w.heap.size, 0, none⟩) 16 16) ∧ w' = w.alloc (.cells #[.int .i64 4, .int .i64 64, .int .i64 5, .int .i64 100, .int .i64 50, .int .i64 10, .int .i64 20, .int .i64 1000, .int .i64 2147483648, .int .i64 4294967296, .int .i64 1073741824, .int .i64 0, .int .i64 1099511627776, .int .i64 64, .int .i64 4, .int .i64 4] 2) := by
  go_enter Tryd.func23, Tryd.ntmps23
  go_wp2
  go_ret
  exact ⟨rfl, rfl⟩
set_option maxRecDepth 100000 in
set_option maxHeartbeats 4000000 in
theorem of_row (a0 a1 a2 a3 a4 a5 a6 a7 a8 a9 a10 a11 a12 a13 a14 a15 : Int) (g c : Nat) (w : World) (hb : w.heap[g]? = some (.cells #[.int .i64 a0, .int .i64 a1, .int .i64 a2, .int .i64 a3, .int .i64 a4, .int .i64 a5, .int .i64 a6, .int .i64 a7, .int .i64 a8, .int .i64 a9, .int .i64 a10, .int .i64 a11, .int .i64 a12, .int .i64 a13, .int .i64 a14, .int .i64 a15] 2 (0, 0))) (hc : 16 ≤ c) :
    Calls Tryd.prog 22 #[.slice (some ⟨g, 0, none⟩) 16 c] w fun e w' => e = .returned (.agg #[.int .i64 a0, .int .i64 a1, .int .i64 a2, .int .i64 a3, .int .i64 a4, .int .i64 a5, .int .i64 a6, .int .i64 a7, .int .i64 a8, .int .i64 a9, .int .i64 a10, .int .i64 a11, .int .i64 a12, .int .i64 a13, .int .i64 a14, .int .i64 a15]) ∧ Below w.heap.size w w' := by
  have HA := Aside0.mk (blk_alloc hb (.cells #[.int .i64 0, .int .i64 0, .int .i64 0, .int .i64 0, .int .i64 0, .int .i64 0, .int .i64 0, .int .i64 0, .int .i64 0, .int .i64 0, .int .i64 0, .int .i64 0, .int .i64 0, .int .i64 0, .int .i64 0, .int .i64 0] 24))
  have HN := Aside0.mk (heap_alloc_new w (.cells #[.int .i64 0, .int .i64 0, .int .i64 0, .int .i64 0, .int .i64 0, .int .i64 0, .int .i64 0, .int .i64 0, .int .i64 0, .int .i64 0, .int .i64 0, .int .i64 0, .int .i64 0, .int .i64 0, .int .i64 0, .int .i64 0] 24))
  have HB := Aside0.mk ((Below.refl w.heap.size w).alloc (Nat.le_refl _) (.cells #[.int .i64 0, .int .i64 0, .int .i64 0, .int .i64 0, .int .i64 0, .int .i64 0, .int .i64 0, .int .i64 0, .int .i64 0, .int .i64 0, .int .i64 0, .int .i64 0, .int .i64 0, .int .i64 0, .int .i64 0, .int .i64 0] 24))
  clear hb
  go_enter Tryd.func22, Tryd.ntmps22
  go_upto_region 1 with fail
  obtain ⟨w1, hw1⟩ : ∃ w1, w1 = w.alloc (.cells #[.int .i64 0, .int .i64 0, .int .i64 0, .int .i64 0, .int .i64 0, .int .i64 0, .int .i64 0, .int .i64 0, .int .i64 0, .int .i64 0, .int .i64 0, .int .i64 0, .int .i64 0, .int .i64 0, .int .i64 0, .int .i64 0] 24) := ⟨_, rfl⟩
  rw [← hw1] at HA ⊢
  have HW1 := Lib.hid hw1
  clear hw1 HN
  have x0 : w1.cell? ⟨g, 0, none⟩ = some (.int .i64 a0) := (blk_cell HA.out 0).trans rfl
  have x1 : w1.cell? ⟨g, 1, none⟩ = some (.int .i64 a1) := (blk_cell HA.out 1).trans rfl
  have x2 : w1.cell? ⟨g, 2, none⟩ = some (.int .i64 a2) := (blk_cell HA.out 2).trans rfl
  have x3 : w1.cell? ⟨g, 3, none⟩ = some (.int .i64 a3) := (blk_cell HA.out 3).trans rfl
  have x4 : w1.cell? ⟨g, 4, none⟩ = some (.int .i64 a4) := (blk_cell HA.out 4).trans rfl
  have x5 : w1.cell? ⟨g, 5, none⟩ = some (.int .i64 a5) := (blk_cell HA.out 5).trans rfl
  have x6 : w1.cell? ⟨g, 6, none⟩ = some (.int .i64 a6) := (blk_cell HA.out 6).trans rfl
  have x7 : w1.cell? ⟨g, 7, none⟩ = some (.int .i64 a7) := (blk_cell HA.out 7).trans rfl
  have x8 : w1.cell? ⟨g, 8, none⟩ = some (.int .i64 a8) := (blk_cell HA.out 8).trans rfl
  have x9 : w1.cell? ⟨g, 9, none⟩ = some (.int .i64 a9) := (blk_cell HA.out 9).trans rfl
  have x10 : w1.cell? ⟨g, 10, none⟩ = some (.int .i64 a10) := (blk_cell HA.out 10).trans rfl
  have x11 : w1.cell? ⟨g, 11, none⟩ = some (.int .i64 a11) := (blk_cell HA.out 11).trans rfl
  have x12 : w1.cell? ⟨g, 12, none⟩ = some (.int .i64 a12) := (blk_cell HA.out 12).trans rfl
  have x13 : w1.cell? ⟨g, 13, none⟩ = some (.int .i64 a13) := (blk_cell HA.out 13).trans rfl
  have x14 : w1.cell? ⟨g, 14, none⟩ = some (.int .i64 a14) := (blk_cell HA.out 14).trans rfl
  have x15 : w1.cell? ⟨g, 15, none⟩ = some (.int .i64 a15) := (blk_cell HA.out 15).trans rfl
  go_still_tail 49, (by kernel_rfl)
  change wpList _ _ _ _ _ w1.drew
  clear HA x0 x1 x2 x3 x4 x5 x6 x7 x8 x9 x10 x11 x12 x13 x14 x15
  rw [HW1.out]
  go_wp2
  refine bodyPost_ret (v := .agg #[.int .i64 a0, .int .i64 a1, .int .i64 a2, .int .i64 a3, .int .i64 a4, .int .i64 a5, .int .i64 a6, .int .i64 a7, .int .i64 a8, .int .i64 a9, .int .i64 a10, .int .i64 a11, .int .i64 a12, .int .i64 a13, .int .i64 a14, .int .i64 a15]) (by simp [results, Tryd.results22, go_sem]) rfl ⟨rfl, ?_⟩
  repeat (first | exact Below.refl _ _ | apply below_drew1 | apply below_alloc)
structure Inv5 (a0 a1 a2 a3 a4 a5 a6 a7 a8 a9 a10 a11 a12 a13 a14 a15 : Int) (w0 : World) (g0 gr : Nat) (cur : Array Value) (CF K2 M3 P7 : Array Value) (b0 b1 b2 b3 b4 b5 b6 b7 b8 b9 b10 b11 : Bool) (v14 v15 v16 v17 v18 v19 v5 v6 v7 : Value) (w : World) : Prop where
  rw_ : RwAt w gr cur [a0, a1, a2, a3, a4, a5, a6, a7, a8, a9, a10, a11, a12, a13, a14, a15]
  bel : Below g0 w0 w
  bk : w.heap[g0]? = some (.cells CF 24 (0, 0))
  h0 : b0 = true → v14 = .agg CF
  h1 : b1 = true → v15 = .agg K2
  h2 : b2 = true → v16 = .agg CF
  h3 : b3 = true → v17 = .agg M3
  h4 : b4 = true → v18 = .agg CF
  h5 : b5 = true → v19 = .agg P7
  h6 : b6 = true → ∃ g, v5 = .pointer (some ⟨g, 0, none⟩) ∧ g0 ≤ g ∧ w.heap[g]? = some (.cells (if b9 = true then K2 else #[.int .i64 0, .int .i64 0]) 42 (0, 0))
  h7 : b7 = true → ∃ g, v6 = .pointer (some ⟨g, 0, none⟩) ∧ g0 ≤ g ∧ w.heap[g]? = some (.cells (if b10 = true then M3 else #[.int .i64 0, .int .i64 0, .int .i64 0]) 45 (0, 0))
  h8 : b8 = true → ∃ g, v7 = .pointer (some ⟨g, 0, none⟩) ∧ g0 ≤ g ∧ w.heap[g]? = some (.cells (if b11 = true then P7 else #[.int .i64 0, .int .i64 0, .int .i64 0, .int .i64 0, .int .i64 0, .int .i64 0, .int .i64 0]) 48 (0, 0))
  d9 : b9 = true → b6 = true
  d10 : b10 = true → b7 = true
  d11 : b11 = true → b8 = true
section
variable {a0 a1 a2 a3 a4 a5 a6 a7 a8 a9 a10 a11 a12 a13 a14 a15 : Int} {w0 : World} {g0 gr : Nat} {cur : Array Value} {CF K2 M3 P7 : Array Value} {b0 b1 b2 b3 b4 b5 b6 b7 b8 b9 b10 b11 : Bool} {v14 v15 v16 v17 v18 v19 v5 v6 v7 : Value} {w w' : World}
theorem Inv5.lt (h : Inv5 a0 a1 a2 a3 a4 a5 a6 a7 a8 a9 a10 a11 a12 a13 a14 a15 w0 g0 gr cur CF K2 M3 P7 b0 b1 b2 b3 b4 b5 b6 b7 b8 b9 b10 b11 v14 v15 v16 v17 v18 v19 v5 v6 v7 w) : g0 < w.heap.size := blk_lt h.bk
theorem Inv5.below (h : Inv5 a0 a1 a2 a3 a4 a5 a6 a7 a8 a9 a10 a11 a12 a13 a14 a15 w0 g0 gr cur CF K2 M3 P7 b0 b1 b2 b3 b4 b5 b6 b7 b8 b9 b10 b11 v14 v15 v16 v17 v18 v19 v5 v6 v7 w) (hb : Below w.heap.size w w') : Inv5 a0 a1 a2 a3 a4 a5 a6 a7 a8 a9 a10 a11 a12 a13 a14 a15 w0 g0 gr cur CF K2 M3 P7 b0 b1 b2 b3 b4 b5 b6 b7 b8 b9 b10 b11 v14 v15 v16 v17 v18 v19 v5 v6 v7 w' :=
  { h with rw_ := h.rw_.below hb, bel := h.bel.trans (hb.mono (Nat.le_of_lt h.lt)), bk := (hb.block _ h.lt).trans h.bk
           h6 := fun hb6 => by obtain ⟨g, e, l, k⟩ := h.h6 hb6; exact ⟨g, e, l, (hb.block _ (blk_lt k)).trans k⟩
           h7 := fun hb6 => by obtain ⟨g, e, l, k⟩ := h.h7 hb6; exact ⟨g, e, l, (hb.block _ (blk_lt k)).trans k⟩
           h8 := fun hb6 => by obtain ⟨g, e, l, k⟩ := h.h8 hb6; exact ⟨g, e, l, (hb.block _ (blk_lt k)).trans k⟩ }
theorem types_apart {g g' : Nat} {c c' : Array Value} {T T' : TypeId} (h : w.heap[g]? = some (.cells c T (0, 0))) (h' : w.heap[g']? = some (.cells c' T' (0, 0))) (hT : T ≠ T') : g ≠ g' := by
  intro e
  subst e
  rw [h] at h'
  injection h' with h'
  injection h' with _ h3
  exact hT h3
/-- One block alone has turned. -/
structure Only (g : Nat) (w w' : World) : Prop where
  os : w'.os = w.os
  tape : w'.tape = w.tape
  output : w'.output = w.output
  size : w'.heap.size = w.heap.size
  block : ∀ k, k ≠ g → w'.heap[k]? = w.heap[k]?
theorem Only.refl (g : Nat) (w : World) : Only g w w := ⟨rfl, rfl, rfl, rfl, fun _ _ => rfl⟩
theorem Only.set {g : Nat} {w w' : World} (h : Only g w w') (i : Nat) (v : Value) : Only g w (w'.setCell ⟨g, i, none⟩ v) :=
  ⟨h.os, h.tape, h.output, (by have := h.size; simp [World.setCell]; omega), fun k hk => (Below.heap_setCell w' ⟨g, i, none⟩ v k hk).trans (h.block k hk)⟩
theorem Inv5.only6 (h : Inv5 a0 a1 a2 a3 a4 a5 a6 a7 a8 a9 a10 a11 a12 a13 a14 a15 w0 g0 gr cur CF K2 M3 P7 b0 b1 b2 b3 b4 b5 b6 b7 b8 b9 b10 b11 v14 v15 v16 v17 v18 v19 v5 v6 v7 w) {g : Nat} (hv : v5 = .pointer (some ⟨g, 0, none⟩)) (hg : g0 ≤ g) {c : Array Value} (hk : w.heap[g]? = some (.cells c 42 (0, 0))) (ho : Only g w w') (hk' : w'.heap[g]? = some (.cells K2 42 (0, 0))) (hd : b6 = true) : Inv5 a0 a1 a2 a3 a4 a5 a6 a7 a8 a9 a10 a11 a12 a13 a14 a15 w0 g0 gr cur CF K2 M3 P7 b0 b1 b2 b3 b4 b5 b6 b7 b8 true b10 b11 v14 v15 v16 v17 v18 v19 v5 v6 v7 w' :=
  { h with rw_ := ⟨(ho.block _ (types_apart h.rw_.1 hk (by decide))).trans h.rw_.1, h.rw_.2⟩, bel := ⟨ho.os.trans h.bel.os, ho.tape.trans h.bel.tape, ho.output.trans h.bel.output, by rw [ho.size]; exact h.bel.size, fun k hk1 => (ho.block k (by omega)).trans (h.bel.block k hk1)⟩
           bk := (ho.block _ (types_apart h.bk hk (by decide))).trans h.bk
           h6 := fun _ => ⟨g, hv, hg, by rw [if_pos rfl]; exact hk'⟩
           h7 := fun hb6 => by obtain ⟨g', e, l, k⟩ := h.h7 hb6; exact ⟨g', e, l, (ho.block _ (types_apart k hk (by decide))).trans k⟩
           h8 := fun hb6 => by obtain ⟨g', e, l, k⟩ := h.h8 hb6; exact ⟨g', e, l, (ho.block _ (types_apart k hk (by decide))).trans k⟩
           d9 := fun _ => hd }
theorem Inv5.only7 (h : Inv5 a0 a1 a2 a3 a4 a5 a6 a7 a8 a9 a10 a11 a12 a13 a14 a15 w0 g0 gr cur CF K2 M3 P7 b0 b1 b2 b3 b4 b5 b6 b7 b8 b9 b10 b11 v14 v15 v16 v17 v18 v19 v5 v6 v7 w) {g : Nat} (hv : v6 = .pointer (some ⟨g, 0, none⟩)) (hg : g0 ≤ g) {c : Array Value} (hk : w.heap[g]? = some (.cells c 45 (0, 0))) (ho : Only g w w') (hk' : w'.heap[g]? = some (.cells M3 45 (0, 0))) (hd : b7 = true) : Inv5 a0 a1 a2 a3 a4 a5 a6 a7 a8 a9 a10 a11 a12 a13 a14 a15 w0 g0 gr cur CF K2 M3 P7 b0 b1 b2 b3 b4 b5 b6 b7 b8 b9 true b11 v14 v15 v16 v17 v18 v19 v5 v6 v7 w' :=
  { h with rw_ := ⟨(ho.block _ (types_apart h.rw_.1 hk (by decide))).trans h.rw_.1, h.rw_.2⟩, bel := ⟨ho.os.trans h.bel.os, ho.tape.trans h.bel.tape, ho.output.trans h.bel.output, by rw [ho.size]; exact h.bel.size, fun k hk1 => (ho.block k (by omega)).trans (h.bel.block k hk1)⟩
           bk := (ho.block _ (types_apart h.bk hk (by decide))).trans h.bk
           h6 := fun hb6 => by obtain ⟨g', e, l, k⟩ := h.h6 hb6; exact ⟨g', e, l, (ho.block _ (types_apart k hk (by decide))).trans k⟩
           h7 := fun _ => ⟨g, hv, hg, by rw [if_pos rfl]; exact hk'⟩
           h8 := fun hb6 => by obtain ⟨g', e, l, k⟩ := h.h8 hb6; exact ⟨g', e, l, (ho.block _ (types_apart k hk (by decide))).trans k⟩
           d10 := fun _ => hd }
theorem Inv5.only8 (h : Inv5 a0 a1 a2 a3 a4 a5 a6 a7 a8 a9 a10 a11 a12 a13 a14 a15 w0 g0 gr cur CF K2 M3 P7 b0 b1 b2 b3 b4 b5 b6 b7 b8 b9 b10 b11 v14 v15 v16 v17 v18 v19 v5 v6 v7 w) {g : Nat} (hv : v7 = .pointer (some ⟨g, 0, none⟩)) (hg : g0 ≤ g) {c : Array Value} (hk : w.heap[g]? = some (.cells c 48 (0, 0))) (ho : Only g w w') (hk' : w'.heap[g]? = some (.cells P7 48 (0, 0))) (hd : b8 = true) : Inv5 a0 a1 a2 a3 a4 a5 a6 a7 a8 a9 a10 a11 a12 a13 a14 a15 w0 g0 gr cur CF K2 M3 P7 b0 b1 b2 b3 b4 b5 b6 b7 b8 b9 b10 true v14 v15 v16 v17 v18 v19 v5 v6 v7 w' :=
  { h with rw_ := ⟨(ho.block _ (types_apart h.rw_.1 hk (by decide))).trans h.rw_.1, h.rw_.2⟩, bel := ⟨ho.os.trans h.bel.os, ho.tape.trans h.bel.tape, ho.output.trans h.bel.output, by rw [ho.size]; exact h.bel.size, fun k hk1 => (ho.block k (by omega)).trans (h.bel.block k hk1)⟩
           bk := (ho.block _ (types_apart h.bk hk (by decide))).trans h.bk
           h6 := fun hb6 => by obtain ⟨g', e, l, k⟩ := h.h6 hb6; exact ⟨g', e, l, (ho.block _ (types_apart k hk (by decide))).trans k⟩
           h7 := fun hb6 => by obtain ⟨g', e, l, k⟩ := h.h7 hb6; exact ⟨g', e, l, (ho.block _ (types_apart k hk (by decide))).trans k⟩
           h8 := fun _ => ⟨g, hv, hg, by rw [if_pos rfl]; exact hk'⟩
           d11 := fun _ => hd }
end
def act5 (cfg : Value) (g0 gr : Nat) (c5 : Nat) (ev : Int) (v14 v15 v16 v17 v18 v19 v5 v6 v7 : Value) : Act := ⟨#[cfg, .pointer (some ⟨g0, 0, none⟩), .bool false, .slice (some ⟨gr, 0, none⟩) 16 c5, .int .i64 ev, v5, v6, v7, .bool true, .bool false, cfg, .slice (some ⟨gr, 0, none⟩) 16 c5, cfg, .int .i64 ev, v14, v15, v16, v17, v18, v19, undef, undef, undef, undef, undef, undef, undef, undef, undef, undef, undef, undef, undef, undef, undef, undef, undef, undef, undef, undef, undef, undef, undef, undef, undef, undef, undef, undef, undef, undef, undef, undef, undef, undef, undef, undef, undef, undef, undef, undef, undef, undef, undef, undef, undef, undef, undef, undef, undef, undef, undef, undef, undef, undef, undef, undef, undef, undef, undef, undef, undef, undef, undef, undef, undef, undef, undef, undef, undef, undef, undef, undef, undef, undef, undef, undef, undef, undef, undef, undef, undef, undef, undef, undef, undef, undef, undef, undef, undef, undef, undef, undef, undef, undef, undef, undef, undef, undef, undef, undef, undef, undef, undef, undef, undef, undef, undef, undef, undef, undef, undef, undef, undef, undef, undef, undef, undef, undef, undef, undef, undef, undef, undef, undef, undef, undef], []⟩
theorem valid_default : validB [4, 64, 5, 100, 50, 10, 20, 1000, 2147483648, 4294967296, 1073741824, 0, 1099511627776, 64, 4, 4] = true := by rw [validB_is]; decide +kernel
structure Inv8 (a0 a1 a2 a3 a4 a5 a6 a7 a8 a9 a10 a11 a12 a13 a14 a15 : Int) (g0 g7 : Nat) (b0 b1 b2 b3 b4 b5 b6 b7 b8 b9 b10 b11 b12 b13 b14 b15 b16 b17 b18 b19 b20 b21 b22 b23 b24 b25 b26 : Bool) (v95 v96 v97 v98 v99 v100 v101 v102 v103 v104 v105 v106 v107 v108 v109 v110 v111 v112 v113 v114 v115 v116 v117 v118 v119 v120 v121 : Value) : Prop where
  h0 : b0 = true → v95 = (.int .i64 0)
  h1 : b1 = true → v96 = (.bool true)
  h2 : b2 = true → v97 = (.bool true)
  h3 : b3 = true → v98 = (.pointer (some ⟨g7, 6, none⟩))
  h4 : b4 = true → v99 = (.int .i64 (wrap64 (a0 * 128)))
  h5 : b5 = true → v100 = (.pointer (some ⟨g0, 0, none⟩))
  h6 : b6 = true → v101 = (.int .i64 a0)
  h7 : b7 = true → v102 = (.int .i64 (wrap64 (a0 * 128)))
  h8 : b8 = true → v103 = (.bool false)
  h9 : b9 = true → v104 = (.bool false)
  h10 : b10 = true → v105 = (.agg #[.int .i64 a0, .int .i64 a1, .int .i64 a2, .int .i64 a3, .int .i64 a4, .int .i64 a5, .int .i64 a6, .int .i64 a7, .int .i64 a8, .int .i64 a9, .int .i64 a10, .int .i64 a11, .int .i64 a12, .int .i64 a13, .int .i64 a14, .int .i64 a15])
  h11 : b11 = true → v106 = (.int .i64 (wrap64 (a0 * 128)))
  h12 : b12 = true → v107 = (.pointer (some ⟨g7, 6, none⟩))
  h13 : b13 = true → v108 = (.int .i64 (wrap64 (a0 * 128)))
  h14 : b14 = true → v109 = (.bool false)
  h15 : b15 = true → v110 = (.bool false)
  h16 : b16 = true → v111 = (.bool false)
  h17 : b17 = true → v112 = (.agg #[.int .i64 a8, .int .i64 a9, .int .i64 a10, .int .i64 a11, .int .i64 a12, .int .i64 a13, .int .i64 (wrap64 (a0 * 128))])
  h18 : b18 = true → v113 = (.bool true)
  h19 : b19 = true → v114 = (.bool false)
  h20 : b20 = true → v115 = (.bool false)
  h21 : b21 = true → v116 = (.bool false)
  h22 : b22 = true → v117 = (.agg #[.int .i64 a4, .int .i64 a5, .int .i64 a6])
  h23 : b23 = true → v118 = (.bool true)
  h24 : b24 = true → v119 = (.bool false)
  h25 : b25 = true → v120 = (.bool false)
  h26 : b26 = true → v121 = (.bool false)
def act8 (a0 a1 a2 a3 a4 a5 a6 a7 a8 a9 a10 a11 a12 a13 a14 a15 : Int) (g0 gr c5 g5 g6 g7 : Nat) (u20 u21 u22 u23 u24 u25 u26 u27 u28 u29 u30 u31 u32 u33 u34 u35 u36 u37 u38 u39 u40 u41 u42 u43 u44 u45 u46 u47 u48 u49 u50 u51 u52 u53 u54 u55 u56 u57 u58 u59 u60 u61 u62 u63 u64 u65 u66 u67 u68 u69 u70 u71 u72 u73 u74 u75 u76 u77 u78 u79 u80 u81 u82 u83 u84 u85 u86 u87 u88 u89 u90 u91 u92 u93 u94 : Value) (v95 v96 v97 v98 v99 v100 v101 v102 v103 v104 v105 v106 v107 v108 v109 v110 v111 v112 v113 v114 v115 v116 v117 v118 v119 v120 v121 : Value) : Act := ⟨#[.agg #[.int .i64 a0, .int .i64 a1, .int .i64 a2, .int .i64 a3, .int .i64 a4, .int .i64 a5, .int .i64 a6, .int .i64 a7, .int .i64 a8, .int .i64 a9, .int .i64 a10, .int .i64 a11, .int .i64 a12, .int .i64 a13, .int .i64 a14, .int .i64 a15], .pointer (some ⟨g0, 0, none⟩), .bool false, .slice (some ⟨gr, 0, none⟩) 16 c5, .int .i64 0, .pointer (some ⟨g5, 0, none⟩), .pointer (some ⟨g6, 0, none⟩), .pointer (some ⟨g7, 0, none⟩), .bool true, .bool false, .agg #[.int .i64 a0, .int .i64 a1, .int .i64 a2, .int .i64 a3, .int .i64 a4, .int .i64 a5, .int .i64 a6, .int .i64 a7, .int .i64 a8, .int .i64 a9, .int .i64 a10, .int .i64 a11, .int .i64 a12, .int .i64 a13, .int .i64 a14, .int .i64 a15], .slice (some ⟨gr, 0, none⟩) 16 c5, .agg #[.int .i64 a0, .int .i64 a1, .int .i64 a2, .int .i64 a3, .int .i64 a4, .int .i64 a5, .int .i64 a6, .int .i64 a7, .int .i64 a8, .int .i64 a9, .int .i64 a10, .int .i64 a11, .int .i64 a12, .int .i64 a13, .int .i64 a14, .int .i64 a15], .int .i64 0, .agg #[.int .i64 a0, .int .i64 a1, .int .i64 a2, .int .i64 a3, .int .i64 a4, .int .i64 a5, .int .i64 a6, .int .i64 a7, .int .i64 a8, .int .i64 a9, .int .i64 a10, .int .i64 a11, .int .i64 a12, .int .i64 a13, .int .i64 a14, .int .i64 a15], .agg #[.int .i64 a2, .int .i64 a3], .agg #[.int .i64 a0, .int .i64 a1, .int .i64 a2, .int .i64 a3, .int .i64 a4, .int .i64 a5, .int .i64 a6, .int .i64 a7, .int .i64 a8, .int .i64 a9, .int .i64 a10, .int .i64 a11, .int .i64 a12, .int .i64 a13, .int .i64 a14, .int .i64 a15], .agg #[.int .i64 a4, .int .i64 a5, .int .i64 a6], .agg #[.int .i64 a0, .int .i64 a1, .int .i64 a2, .int .i64 a3, .int .i64 a4, .int .i64 a5, .int .i64 a6, .int .i64 a7, .int .i64 a8, .int .i64 a9, .int .i64 a10, .int .i64 a11, .int .i64 a12, .int .i64 a13, .int .i64 a14, .int .i64 a15], .agg #[.int .i64 a8, .int .i64 a9, .int .i64 a10, .int .i64 a11, .int .i64 a12, .int .i64 a13, .int .i64 (wrap64 (a0 * 128))], u20, u21, u22, u23, u24, u25, u26, u27, u28, u29, u30, u31, u32, u33, u34, u35, u36, u37, u38, u39, u40, u41, u42, u43, u44, u45, u46, u47, u48, u49, u50, u51, u52, u53, u54, u55, u56, u57, u58, u59, u60, u61, u62, u63, u64, u65, u66, u67, u68, u69, u70, u71, u72, u73, u74, u75, u76, u77, u78, u79, u80, u81, u82, u83, u84, u85, u86, u87, u88, u89, u90, u91, u92, u93, u94, v95, v96, v97, v98, v99, v100, v101, v102, v103, v104, v105, v106, v107, v108, v109, v110, v111, v112, v113, v114, v115, v116, v117, v118, v119, v120, v121, undef, undef, undef, undef, undef, undef, undef, undef, undef, undef, undef, undef, undef, undef, undef, undef, undef, undef, undef, undef, undef, undef, undef, undef], []⟩
structure Fin5 (a0 a1 a2 a3 a4 a5 a6 a7 a8 a9 a10 a11 a12 a13 a14 a15 : Int) (w0 : World) (g0 gr : Nat) (cur : Array Value) (g5 g6 g7 : Nat) (w : World) : Prop where
  rw_ : RwAt w gr cur [a0, a1, a2, a3, a4, a5, a6, a7, a8, a9, a10, a11, a12, a13, a14, a15]
  bel : Below g0 w0 w
  bk : w.heap[g0]? = some (.cells #[.int .i64 a0, .int .i64 a1, .int .i64 a2, .int .i64 a3, .int .i64 a4, .int .i64 a5, .int .i64 a6, .int .i64 a7, .int .i64 a8, .int .i64 a9, .int .i64 a10, .int .i64 a11, .int .i64 a12, .int .i64 a13, .int .i64 a14, .int .i64 a15] 24 (0, 0))
  k5 : w.heap[g5]? = some (.cells #[.int .i64 a2, .int .i64 a3] 42 (0, 0))
  k6 : w.heap[g6]? = some (.cells #[.int .i64 a4, .int .i64 a5, .int .i64 a6] 45 (0, 0))
  k7 : w.heap[g7]? = some (.cells #[.int .i64 a8, .int .i64 a9, .int .i64 a10, .int .i64 a11, .int .i64 a12, .int .i64 a13, .int .i64 (wrap64 (a0 * 128))] 48 (0, 0))
section
variable {a0 a1 a2 a3 a4 a5 a6 a7 a8 a9 a10 a11 a12 a13 a14 a15 : Int} {w0 w w' : World} {g0 gr g5 g6 g7 : Nat} {cur : Array Value}
theorem Fin5.below (h : Fin5 a0 a1 a2 a3 a4 a5 a6 a7 a8 a9 a10 a11 a12 a13 a14 a15 w0 g0 gr cur g5 g6 g7 w) (hb : Below w.heap.size w w') : Fin5 a0 a1 a2 a3 a4 a5 a6 a7 a8 a9 a10 a11 a12 a13 a14 a15 w0 g0 gr cur g5 g6 g7 w' := ⟨h.rw_.below hb, h.bel.trans (hb.mono (Nat.le_of_lt (blk_lt h.bk))), (hb.block _ (blk_lt h.bk)).trans h.bk, (hb.block _ (blk_lt h.k5)).trans h.k5, (hb.block _ (blk_lt h.k6)).trans h.k6, (hb.block _ (blk_lt h.k7)).trans h.k7⟩
theorem Fin5.drew (h : Fin5 a0 a1 a2 a3 a4 a5 a6 a7 a8 a9 a10 a11 a12 a13 a14 a15 w0 g0 gr cur g5 g6 g7 w) : Fin5 a0 a1 a2 a3 a4 a5 a6 a7 a8 a9 a10 a11 a12 a13 a14 a15 w0 g0 gr cur g5 g6 g7 w.drew := h.below (Below.refl _ _).drew
theorem Fin5.x (h : Fin5 a0 a1 a2 a3 a4 a5 a6 a7 a8 a9 a10 a11 a12 a13 a14 a15 w0 g0 gr cur g5 g6 g7 w) : w.cell? ⟨g0, 0, none⟩ = some (.int .i64 a0) ∧ w.cell? ⟨g0, 1, none⟩ = some (.int .i64 a1) ∧ w.cell? ⟨g0, 2, none⟩ = some (.int .i64 a2) ∧ w.cell? ⟨g0, 3, none⟩ = some (.int .i64 a3) ∧ w.cell? ⟨g0, 4, none⟩ = some (.int .i64 a4) ∧ w.cell? ⟨g0, 5, none⟩ = some (.int .i64 a5) ∧ w.cell? ⟨g0, 6, none⟩ = some (.int .i64 a6) ∧ w.cell? ⟨g0, 7, none⟩ = some (.int .i64 a7) ∧ w.cell? ⟨g0, 8, none⟩ = some (.int .i64 a8) ∧ w.cell? ⟨g0, 9, none⟩ = some (.int .i64 a9) ∧ w.cell? ⟨g0, 10, none⟩ = some (.int .i64 a10) ∧ w.cell? ⟨g0, 11, none⟩ = some (.int .i64 a11) ∧ w.cell? ⟨g0, 12, none⟩ = some (.int .i64 a12) ∧ w.cell? ⟨g0, 13, none⟩ = some (.int .i64 a13) ∧ w.cell? ⟨g0, 14, none⟩ = some (.int .i64 a14) ∧ w.cell? ⟨g0, 15, none⟩ = some (.int .i64 a15) := ⟨(blk_cell h.bk 0).trans rfl, (blk_cell h.bk 1).trans rfl, (blk_cell h.bk 2).trans rfl, (blk_cell h.bk 3).trans rfl, (blk_cell h.bk 4).trans rfl, (blk_cell h.bk 5).trans rfl, (blk_cell h.bk 6).trans rfl, (blk_cell h.bk 7).trans rfl, (blk_cell h.bk 8).trans rfl, (blk_cell h.bk 9).trans rfl, (blk_cell h.bk 10).trans rfl, (blk_cell h.bk 11).trans rfl, (blk_cell h.bk 12).trans rfl, (blk_cell h.bk 13).trans rfl, (blk_cell h.bk 14).trans rfl, (blk_cell h.bk 15).trans rfl⟩
theorem Fin5.k (h : Fin5 a0 a1 a2 a3 a4 a5 a6 a7 a8 a9 a10 a11 a12 a13 a14 a15 w0 g0 gr cur g5 g6 g7 w) : w.cell? ⟨g5, 0, none⟩ = some (.int .i64 a2) ∧ w.cell? ⟨g5, 1, none⟩ = some (.int .i64 a3) := ⟨(blk_cell h.k5 0).trans rfl, (blk_cell h.k5 1).trans rfl⟩
theorem Fin5.m (h : Fin5 a0 a1 a2 a3 a4 a5 a6 a7 a8 a9 a10 a11 a12 a13 a14 a15 w0 g0 gr cur g5 g6 g7 w) : w.cell? ⟨g6, 0, none⟩ = some (.int .i64 a4) ∧ w.cell? ⟨g6, 1, none⟩ = some (.int .i64 a5) ∧ w.cell? ⟨g6, 2, none⟩ = some (.int .i64 a6) := ⟨(blk_cell h.k6 0).trans rfl, (blk_cell h.k6 1).trans rfl, (blk_cell h.k6 2).trans rfl⟩
theorem Fin5.p (h : Fin5 a0 a1 a2 a3 a4 a5 a6 a7 a8 a9 a10 a11 a12 a13 a14 a15 w0 g0 gr cur g5 g6 g7 w) : w.cell? ⟨g7, 0, none⟩ = some (.int .i64 a8) ∧ w.cell? ⟨g7, 1, none⟩ = some (.int .i64 a9) ∧ w.cell? ⟨g7, 2, none⟩ = some (.int .i64 a10) ∧ w.cell? ⟨g7, 3, none⟩ = some (.int .i64 a11) ∧ w.cell? ⟨g7, 4, none⟩ = some (.int .i64 a12) ∧ w.cell? ⟨g7, 5, none⟩ = some (.int .i64 a13) ∧ w.cell? ⟨g7, 6, none⟩ = some (.int .i64 (wrap64 (a0 * 128))) := ⟨(blk_cell h.k7 0).trans rfl, (blk_cell h.k7 1).trans rfl, (blk_cell h.k7 2).trans rfl, (blk_cell h.k7 3).trans rfl, (blk_cell h.k7 4).trans rfl, (blk_cell h.k7 5).trans rfl, (blk_cell h.k7 6).trans rfl⟩
end
end Go.Proofs.YteaihgjjplgalaaDoor
