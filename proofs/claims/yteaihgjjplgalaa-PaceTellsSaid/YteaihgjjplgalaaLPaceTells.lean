/- The walk of PaceTells. -/
import Derived.Test.YteaihgjjplgalaaQPaceTells
namespace Go.Proofs.Yteaihgjjplgalaa.PPaceTells
open Go.RowKit Go.Proofs.YteaihgjjplgalaaW.PrintWords Go.Proofs.YteaihgjjplgalaaW.PrintLast Go.Proofs.YteaihgjjplgalaaW.PrintMore
attribute [local go_sem] max2_int min2_int max_two min_two max_three min_three max_four min_four
set_option linter.unusedVariables false
set_option linter.unusedSimpArgs false

theorem mn_take {α : Type} (l : List α) (n : Nat) : mn (l.length : Int) (n : Int) = ((l.take n).length : Int) := by unfold mn; rw [List.length_take]; split <;> omega
theorem cutTo {T E : TypeId} {i : TypeInfo} (ht : Try.prog.underlying T = some (.slice E)) (hi : Try.prog.info? E = some i) (A : Option Addr) (n c m : Nat) (hm : m ≤ n) (hc : n ≤ c) :
    ∀ W : World, (Instr.slice T (.slice A n c) none (some (.int .i64 (m : Int))) none).run Try.prog W = .ok (.slice A m c) W := by
  intro W
  have := cut_to T E .i64 ht hi A n c (m : Int) (by omega) (by omega) hc W
  simpa using this
theorem infoI : ∃ i, Try.prog.info? 145 = some i := by
  cases h : Try.prog.info? 145 with
  | none => exact absurd info145 (by rw [h]; simp)
  | some i => exact ⟨i, rfl⟩
theorem infoC : ∃ i, Try.prog.info? 99 = some i := by
  cases h : Try.prog.info? 99 with
  | none => exact absurd info99 (by rw [h]; simp)
  | some i => exact ⟨i, rfl⟩

theorem takeC {α : Type} {d : Kd α} {w : World} {A : Option Addr} {l : List α} (h : d.C w A l.length l) (n : Nat) : d.C w A (l.take n).length (l.take n) := by
  rcases Nat.lt_or_ge n l.length with hn | hn
  · exact Kd.C_take h (by omega)
  · rw [List.take_of_length_le hn]; exact h
theorem refWaits_n (k : Nat) (A0 : Option Addr) (c0 n : Nat) (l0 : List RI) (hn : l0.length = n) (C : CL) (r : List Int) (w : World) (hr0 : Kd.C k147 w A0 n l0) (hc0 : n ≤ c0) (h : overfallref23_Waits.f k l0 C.f0 0 0 0 0 C.f2 C.f3 0 0 0 0 0 0 0 0 = some r) :
    Calls Try.prog 37 #[.slice A0 n c0, .agg #[.int .i64 C.f0, .int .u8 0, .int .i64 0, .int .i64 0, .int .i64 0, .int .i64 C.f2, .int .i64 C.f3, .int .i64 0, .int .i64 0, .int .i64 0, .int .u8 0, .int .u64 0, .int .i64 0, .int .i64 0, .int .i64 0]] w fun e w' => ∃ A c, e = .returned (.slice A r.length c) ∧ r.length ≤ c ∧ Kd.C (Kd.int .i64) w' A r.length r ∧ Below w.heap.size w w' := by
  subst hn
  refine (overfallref23_Waits.calls k A0 c0 l0 C.f0 0 0 0 0 C.f2 C.f3 0 0 0 0 0 0 0 0 r w hr0 hc0 h).mono ?_
  rintro e w' ⟨v, rfl, hR, hb⟩
  obtain ⟨A, c, rfl, hl, hC⟩ := Kd.R_reads hR
  exact ⟨A, c, rfl, hl, hC, hb⟩
theorem waits_n (A0 : Option Addr) (c0 : Nat) (l0 : List IT) (C : CL) (w : World) (hr0 : Kd.C k145 w A0 l0.length l0) (hc0 : l0.length ≤ c0) (hb : I64 C.f2) (he : I64 C.f3) (hlen : l0.length ≤ 1000000) :
    Calls Try.prog 36 #[.slice A0 l0.length c0, .agg #[.int .i64 C.f0, .int .u8 C.f1.f0, .int .i64 C.f1.f1, .int .i64 C.f1.f2, .int .i64 C.f1.f3, .int .i64 C.f2, .int .i64 C.f3, .int .i64 C.f4, .int .i64 C.f5, .int .i64 C.f6, .int .u8 C.f7.f0, .int .u64 C.f7.f1, .int .i64 C.f7.f2, .int .i64 C.f7.f3, .int .i64 C.f7.f4]] w fun e' w' =>
      ∃ A c, e' = .returned (.slice A (waitsV C.f0 C.f2 C.f3 l0).length c) ∧ (waitsV C.f0 C.f2 C.f3 l0).length ≤ c ∧ Kd.C (Kd.int .i64) w' A (waitsV C.f0 C.f2 C.f3 l0).length (waitsV C.f0 C.f2 C.f3 l0) ∧ Below w.heap.size w w' := by
  refine (waits_any A0 c0 l0 C.f0 C.f1.f0 C.f1.f1 C.f1.f2 C.f1.f3 C.f2 C.f3 C.f4 C.f5 C.f6 C.f7.f0 C.f7.f1 C.f7.f2 C.f7.f3 C.f7.f4 w hr0 hc0 hb he hlen).mono ?_
  rintro e w' ⟨v, rfl, hR, hb⟩
  obtain ⟨A, c, rfl, hl, hC⟩ := Kd.R_reads hR
  exact ⟨A, c, rfl, hl, hC, hb⟩
theorem Below.drew0 {w w' : World} (h : Below w.drew.heap.size w.drew w') : Below w.heap.size w w' := ⟨h.os, h.tape, h.output, h.size, h.block⟩
theorem Below.drawn0 {w w' : World} (h : Drawn0 w w') : Below w.heap.size w w' := by
  obtain ⟨n, rfl⟩ := h.out
  exact pw_below_drewN (Below.refl _ _) n
theorem refFair_n (k : Nat) (A0 : Option Addr) (c0 n : Nat) (l0 : List RI) (hn : l0.length = n) (A1 : Option Addr) (c1 m : Nat) (l1 : List RC) (hm : l1.length = m) (r : Int) (w : World) (hr0 : Kd.C k147 w A0 n l0) (hc0 : n ≤ c0) (hr1 : Kd.C k104 w A1 m l1) (hc1 : m ≤ c1) (h : overfallref23_Fair.f k l0 l1 = some r) :
    Calls Try.prog 39 #[.slice A0 n c0, .slice A1 m c1] w fun e w' => e = .returned (.int .i64 r) ∧ Below w.heap.size w w' := by
  subst hn hm; exact overfallref23_Fair.calls k A0 c0 l0 A1 c1 l1 r w hr0 hc0 hr1 hc1 h
theorem refLongest_n (k : Nat) (A0 : Option Addr) (c0 n : Nat) (l0 : List RI) (hn : l0.length = n) (A1 : Option Addr) (c1 m : Nat) (l1 : List RC) (hm : l1.length = m) (r : Int) (w : World) (hr0 : Kd.C k147 w A0 n l0) (hc0 : n ≤ c0) (hr1 : Kd.C k104 w A1 m l1) (hc1 : m ≤ c1) (h : overfallref23_Longest.f k l0 l1 = some r) :
    Calls Try.prog 41 #[.slice A0 n c0, .slice A1 m c1] w fun e w' => e = .returned (.int .i64 r) ∧ Below w.heap.size w w' := by
  subst hn hm; exact overfallref23_Longest.calls k A0 c0 l0 A1 c1 l1 r w hr0 hc0 hr1 hc1 h
def boundV (f t : Int) : Int := sat (f * sat (sat (18 * t) + 24))
theorem bound_f (f t : Int) (hf : I64 f) (ht : I64 t) : pace_Bound.f f t = some (boundV f t) := by
  unfold pace_Bound.f fix_Mul.f fix_Add.f boundV
  have h1 := sat_i64 (18 * t)
  have h2 := sat_i64 (sat (18 * t) + 24)
  simp only [i64b_iff.2 hf, i64b_iff.2 ht, i64b_iff.2 h1, i64b_iff.2 h2, i64b_iff.2 (show I64 18 by unfold I64; omega), i64b_iff.2 (show I64 24 by unfold I64; omega), Bool.and_self, if_true, Option.bind_some]
theorem rbound_f (f t : Int) (hf : I64 f) (ht : I64 t) : overfallref23_Bound.f f t = some (boundV f t) := by
  unfold overfallref23_Bound.f overfallref02_Mul.f overfallref02_Add.f boundV
  have h1 := sat_i64 (18 * t)
  have h2 := sat_i64 (sat (18 * t) + 24)
  simp only [i64b_iff.2 hf, i64b_iff.2 ht, i64b_iff.2 h1, i64b_iff.2 h2, i64b_iff.2 (show I64 18 by unfold I64; omega), i64b_iff.2 (show I64 24 by unfold I64; omega), Bool.and_self, if_true, Option.bind_some]
/-- What a round's test reads. -/
def S9 (g8 : Nat) (q8 : Addr) (C : CL) (w' : World) : Prop := w'.cell? ⟨g8, 0, none⟩ = some (.int .i64 C.f0) ∧ w'.cell? ⟨g8, 1, none⟩ = some (.int .u8 C.f1.f0) ∧ w'.cell? ⟨g8, 2, none⟩ = some (.int .i64 C.f1.f1) ∧ w'.cell? ⟨g8, 3, none⟩ = some (.int .i64 C.f1.f2) ∧ w'.cell? ⟨g8, 4, none⟩ = some (.int .i64 C.f1.f3) ∧ w'.cell? ⟨g8, 5, none⟩ = some (.int .i64 C.f2) ∧ w'.cell? ⟨g8, 6, none⟩ = some (.int .i64 C.f3) ∧ w'.cell? ⟨g8, 7, none⟩ = some (.int .i64 C.f4) ∧ w'.cell? ⟨g8, 8, none⟩ = some (.int .i64 C.f5) ∧ w'.cell? ⟨g8, 9, none⟩ = some (.int .i64 C.f6) ∧ w'.cell? ⟨g8, 10, none⟩ = some (.int .u8 C.f7.f0) ∧ w'.cell? ⟨g8, 11, none⟩ = some (.int .u64 C.f7.f1) ∧ w'.cell? ⟨g8, 12, none⟩ = some (.int .i64 C.f7.f2) ∧ w'.cell? ⟨g8, 13, none⟩ = some (.int .i64 C.f7.f3) ∧ w'.cell? ⟨g8, 14, none⟩ = some (.int .i64 C.f7.f4) ∧ w'.cell? q8 = some (.int .i64 C.f0) ∧ w'.cell? ⟨q8.block, q8.off + 1, none⟩ = some (.int .u8 0) ∧ w'.cell? ⟨q8.block, q8.off + 2, none⟩ = some (.int .i64 0) ∧ w'.cell? ⟨q8.block, q8.off + 3, none⟩ = some (.int .i64 0) ∧ w'.cell? ⟨q8.block, q8.off + 4, none⟩ = some (.int .i64 0) ∧ w'.cell? ⟨q8.block, q8.off + 5, none⟩ = some (.int .i64 C.f2) ∧ w'.cell? ⟨q8.block, q8.off + 6, none⟩ = some (.int .i64 C.f3) ∧ w'.cell? ⟨q8.block, q8.off + 7, none⟩ = some (.int .i64 0) ∧ w'.cell? ⟨q8.block, q8.off + 8, none⟩ = some (.int .i64 0) ∧ w'.cell? ⟨q8.block, q8.off + 9, none⟩ = some (.int .i64 0) ∧ w'.cell? ⟨q8.block, q8.off + 10, none⟩ = some (.int .u8 0) ∧ w'.cell? ⟨q8.block, q8.off + 11, none⟩ = some (.int .u64 0) ∧ w'.cell? ⟨q8.block, q8.off + 12, none⟩ = some (.int .i64 0) ∧ w'.cell? ⟨q8.block, q8.off + 13, none⟩ = some (.int .i64 0) ∧ w'.cell? ⟨q8.block, q8.off + 14, none⟩ = some (.int .i64 0)
theorem S9.below {g8 : Nat} {q8 : Addr} {C : CL} {w w' : World} (h : S9 g8 q8 C w) (hb : Below w.heap.size w w') : S9 g8 q8 C w' := by
  unfold S9 at *
  refine ⟨?_, ?_, ?_, ?_, ?_, ?_, ?_, ?_, ?_, ?_, ?_, ?_, ?_, ?_, ?_, ?_, ?_, ?_, ?_, ?_, ?_, ?_, ?_, ?_, ?_, ?_, ?_, ?_, ?_, ?_⟩
  · exact (hb.cell (World.block_lt_of_cell? w _ (h.1))).trans (h.1)
  · exact (hb.cell (World.block_lt_of_cell? w _ (h.2.1))).trans (h.2.1)
  · exact (hb.cell (World.block_lt_of_cell? w _ (h.2.2.1))).trans (h.2.2.1)
  · exact (hb.cell (World.block_lt_of_cell? w _ (h.2.2.2.1))).trans (h.2.2.2.1)
  · exact (hb.cell (World.block_lt_of_cell? w _ (h.2.2.2.2.1))).trans (h.2.2.2.2.1)
  · exact (hb.cell (World.block_lt_of_cell? w _ (h.2.2.2.2.2.1))).trans (h.2.2.2.2.2.1)
  · exact (hb.cell (World.block_lt_of_cell? w _ (h.2.2.2.2.2.2.1))).trans (h.2.2.2.2.2.2.1)
  · exact (hb.cell (World.block_lt_of_cell? w _ (h.2.2.2.2.2.2.2.1))).trans (h.2.2.2.2.2.2.2.1)
  · exact (hb.cell (World.block_lt_of_cell? w _ (h.2.2.2.2.2.2.2.2.1))).trans (h.2.2.2.2.2.2.2.2.1)
  · exact (hb.cell (World.block_lt_of_cell? w _ (h.2.2.2.2.2.2.2.2.2.1))).trans (h.2.2.2.2.2.2.2.2.2.1)
  · exact (hb.cell (World.block_lt_of_cell? w _ (h.2.2.2.2.2.2.2.2.2.2.1))).trans (h.2.2.2.2.2.2.2.2.2.2.1)
  · exact (hb.cell (World.block_lt_of_cell? w _ (h.2.2.2.2.2.2.2.2.2.2.2.1))).trans (h.2.2.2.2.2.2.2.2.2.2.2.1)
  · exact (hb.cell (World.block_lt_of_cell? w _ (h.2.2.2.2.2.2.2.2.2.2.2.2.1))).trans (h.2.2.2.2.2.2.2.2.2.2.2.2.1)
  · exact (hb.cell (World.block_lt_of_cell? w _ (h.2.2.2.2.2.2.2.2.2.2.2.2.2.1))).trans (h.2.2.2.2.2.2.2.2.2.2.2.2.2.1)
  · exact (hb.cell (World.block_lt_of_cell? w _ (h.2.2.2.2.2.2.2.2.2.2.2.2.2.2.1))).trans (h.2.2.2.2.2.2.2.2.2.2.2.2.2.2.1)
  · exact (hb.cell (World.block_lt_of_cell? w _ (h.2.2.2.2.2.2.2.2.2.2.2.2.2.2.2.1))).trans (h.2.2.2.2.2.2.2.2.2.2.2.2.2.2.2.1)
  · exact (hb.cell (World.block_lt_of_cell? w _ (h.2.2.2.2.2.2.2.2.2.2.2.2.2.2.2.2.1))).trans (h.2.2.2.2.2.2.2.2.2.2.2.2.2.2.2.2.1)
  · exact (hb.cell (World.block_lt_of_cell? w _ (h.2.2.2.2.2.2.2.2.2.2.2.2.2.2.2.2.2.1))).trans (h.2.2.2.2.2.2.2.2.2.2.2.2.2.2.2.2.2.1)
  · exact (hb.cell (World.block_lt_of_cell? w _ (h.2.2.2.2.2.2.2.2.2.2.2.2.2.2.2.2.2.2.1))).trans (h.2.2.2.2.2.2.2.2.2.2.2.2.2.2.2.2.2.2.1)
  · exact (hb.cell (World.block_lt_of_cell? w _ (h.2.2.2.2.2.2.2.2.2.2.2.2.2.2.2.2.2.2.2.1))).trans (h.2.2.2.2.2.2.2.2.2.2.2.2.2.2.2.2.2.2.2.1)
  · exact (hb.cell (World.block_lt_of_cell? w _ (h.2.2.2.2.2.2.2.2.2.2.2.2.2.2.2.2.2.2.2.2.1))).trans (h.2.2.2.2.2.2.2.2.2.2.2.2.2.2.2.2.2.2.2.2.1)
  · exact (hb.cell (World.block_lt_of_cell? w _ (h.2.2.2.2.2.2.2.2.2.2.2.2.2.2.2.2.2.2.2.2.2.1))).trans (h.2.2.2.2.2.2.2.2.2.2.2.2.2.2.2.2.2.2.2.2.2.1)
  · exact (hb.cell (World.block_lt_of_cell? w _ (h.2.2.2.2.2.2.2.2.2.2.2.2.2.2.2.2.2.2.2.2.2.2.1))).trans (h.2.2.2.2.2.2.2.2.2.2.2.2.2.2.2.2.2.2.2.2.2.2.1)
  · exact (hb.cell (World.block_lt_of_cell? w _ (h.2.2.2.2.2.2.2.2.2.2.2.2.2.2.2.2.2.2.2.2.2.2.2.1))).trans (h.2.2.2.2.2.2.2.2.2.2.2.2.2.2.2.2.2.2.2.2.2.2.2.1)
  · exact (hb.cell (World.block_lt_of_cell? w _ (h.2.2.2.2.2.2.2.2.2.2.2.2.2.2.2.2.2.2.2.2.2.2.2.2.1))).trans (h.2.2.2.2.2.2.2.2.2.2.2.2.2.2.2.2.2.2.2.2.2.2.2.2.1)
  · exact (hb.cell (World.block_lt_of_cell? w _ (h.2.2.2.2.2.2.2.2.2.2.2.2.2.2.2.2.2.2.2.2.2.2.2.2.2.1))).trans (h.2.2.2.2.2.2.2.2.2.2.2.2.2.2.2.2.2.2.2.2.2.2.2.2.2.1)
  · exact (hb.cell (World.block_lt_of_cell? w _ (h.2.2.2.2.2.2.2.2.2.2.2.2.2.2.2.2.2.2.2.2.2.2.2.2.2.2.1))).trans (h.2.2.2.2.2.2.2.2.2.2.2.2.2.2.2.2.2.2.2.2.2.2.2.2.2.2.1)
  · exact (hb.cell (World.block_lt_of_cell? w _ (h.2.2.2.2.2.2.2.2.2.2.2.2.2.2.2.2.2.2.2.2.2.2.2.2.2.2.2.1))).trans (h.2.2.2.2.2.2.2.2.2.2.2.2.2.2.2.2.2.2.2.2.2.2.2.2.2.2.2.1)
  · exact (hb.cell (World.block_lt_of_cell? w _ (h.2.2.2.2.2.2.2.2.2.2.2.2.2.2.2.2.2.2.2.2.2.2.2.2.2.2.2.2.1))).trans (h.2.2.2.2.2.2.2.2.2.2.2.2.2.2.2.2.2.2.2.2.2.2.2.2.2.2.2.2.1)
  · exact (hb.cell (World.block_lt_of_cell? w _ (h.2.2.2.2.2.2.2.2.2.2.2.2.2.2.2.2.2.2.2.2.2.2.2.2.2.2.2.2.2))).trans (h.2.2.2.2.2.2.2.2.2.2.2.2.2.2.2.2.2.2.2.2.2.2.2.2.2.2.2.2.2)
set_option maxRecDepth 100000 in
set_option maxHeartbeats 8000000 in
theorem law_any (A0 : Option Addr) (c0 : Nat) (l0 : List IT) (A1 : Option Addr) (c1 : Nat) (l1 : List CL) (fair thr : Int) (w : World) (hr0 : Kd.C k145 w A0 l0.length l0) (hc0 : l0.length ≤ c0)
    (hr1 : Kd.C k99 w A1 l1.length l1) (hc1 : l1.length ≤ c1) (hI : ∀ c ∈ l1, I64 c.f2 ∧ I64 c.f3) (hf : I64 fair) (ht : I64 thr) :
    Calls Try.prog 9 #[.slice A0 l0.length c0, .slice A1 l1.length c1, .int .i64 fair, .int .i64 thr] w fun e w' => e = .returned (.bool true) ∧ Below w.heap.size w w' := by
  obtain ⟨i0, hi0⟩ := infoI
  obtain ⟨i1, hi1⟩ := infoC
  have hx0 : (l0.take 100).length ≤ l0.length := List.length_take_le' _ _
  have hx1 : (l1.take 20).length ≤ l1.length := List.length_take_le' _ _
  have hcut0 := cutTo Try.underlying88 hi0 A0 l0.length c0 (l0.take 100).length hx0 hc0
  have hcut1 := cutTo Try.underlying89 hi1 A1 l1.length c1 (l1.take 20).length hx1 hc1
  have hm0 : mn (l0.length : Int) 100 = ((l0.take 100).length : Int) := mn_take l0 100
  have hm1 : mn (l1.length : Int) 20 = ((l1.take 20).length : Int) := mn_take l1 20
  have HR0 := Aside0.mk (takeC hr0 100)
  have HR1 := Aside0.mk (takeC hr1 20)
  have hM := Kd.C_max hr0
  have hM1 := Kd.C_max hr1
  have hX0 : (l0.take 100).length ≤ 100 := List.length_take_le 100 l0
  have hX1 : (l1.take 20).length ≤ 20 := List.length_take_le 20 l1
  have HI := Aside0.mk (fun c (h : c ∈ l1.take 20) => hI c (List.mem_of_mem_take h))
  clear hr0 hr1 hI
  obtain ⟨Ka, ha⟩ := awake_ev.rounds
  obtain ⟨Ko, ho⟩ := (own_ev (l0.take 100) (l1.take 20) (by omega) (by omega)).rounds
  obtain ⟨Kf, hfa⟩ := (fair_ev (l0.take 100) (l1.take 20) (by omega) (by omega) HI.out [] []).rounds
  obtain ⟨Kg, hga⟩ := (rfair_ev (l0.take 100) (l1.take 20) (by omega) (by omega)).rounds
  obtain ⟨Kl, hla⟩ := (rlong_ev (l0.take 100) (l1.take 20) (by omega) (by omega)).rounds
  have hlo : pace_Longest.f (l0.take 100) (l1.take 20) [] [] = some (longestV (l0.take 100) (l1.take 20)) := by
    unfold pace_Longest.f
    rw [if_pos]
    simp only [Bool.and_eq_true, List.all_eq_true, i64b_iff, decide_eq_true_eq]
    exact ⟨by omega, fun c hc => HI.out c hc⟩
  have HA := Aside0.mk ha
  have HO := Aside0.mk ho
  have HF := Aside0.mk hfa
  have HGf := Aside0.mk hga
  have HL := Aside0.mk hla
  have HLo := Aside0.mk hlo
  have HC0 := Aside0.mk (show (l0.take 100).length ≤ c0 by omega)
  have HC1 := Aside0.mk (show (l1.take 20).length ≤ c1 by omega)
  clear ha ho hfa hga hla hlo
  go_enter Try.func9, Try.ntmps9
  go_upto_region 4 with (go_at_call 33; refine (overfalllaw23_awake.calls Ka true _ HA.out).mono ?_; rintro e w1 ⟨rfl, hb1⟩)
  go_cut [0, 1] (fun s0 s1 wx => s0 = .slice A0 (l0.take 100).length c0 ∧ s1 = .slice A1 (l1.take 20).length c1 ∧ Aside0 (Below w.heap.size w wx))
  case first =>
    go_quiet (fail)
    all_goals (go_wp2_with fail)
    all_goals go_meet
    all_goals exact ⟨by congr 1; rw [List.length_take]; omega, by congr 1; rw [List.length_take]; omega, ⟨pw_below_drewN hb1 _⟩⟩
  case rest =>

    obtain ⟨rfl, rfl, HB1⟩ := hcut
    have HR0w := Aside0.mk (Kd.C_below HR0.out HB1.out)
    have HR1w := Aside0.mk (Kd.C_below HR1.out HB1.out)
    generalize l0.take 100 = X0 at *
    generalize l1.take 20 = X1 at *
    go_wp2_with fail
    have HBK0 := Aside0.mk (heap_alloc_new wc (.cells #[.slice A1 X1.length c1, .slice none 0 0, .slice none 0 0] 93))
    have HB2 := Aside0.mk (HB1.out.alloc HB1.out.size (.cells #[.slice A1 X1.length c1, .slice none 0 0, .slice none 0 0] 93))
    have HR0x := Aside0.mk (Kd.C_alloc HR0w.out (.cells #[.slice A1 X1.length c1, .slice none 0 0, .slice none 0 0] 93))
    have HR1x := Aside0.mk (Kd.C_alloc HR1w.out (.cells #[.slice A1 X1.length c1, .slice none 0 0, .slice none 0 0] 93))
    have hsz : wc.heap.size < (wc.alloc (.cells #[.slice A1 X1.length c1, .slice none 0 0, .slice none 0 0] 93)).heap.size := by simp
    generalize wc.alloc (.cells #[.slice A1 X1.length c1, .slice none 0 0, .slice none 0 0] 93) = W2 at *
    generalize wc.heap.size = g9 at *
    clear HR0w HR1w HB1
    refine (overfalllaw23_own.calls Ko _ _ X0 _ _ X1 _ _ W2 HR0x.out HC0.out HR1x.out HC1.out HO.out).mono ?_
    rintro e w5 ⟨v0, v1, rfl, hV0, hV1, hb5⟩
    obtain ⟨A5, c5, rfl, hl5, hC5⟩ := Kd.R_reads hV0
    obtain ⟨A6, c6, rfl, hl6, hC6⟩ := Kd.R_reads hV1
    have HBK := Aside0.mk ((hb5.block g9 hsz).trans HBK0.out)
    have HB5 := Aside0.mk (HB2.out.trans (hb5.mono HB2.out.size))
    have HR0 := Aside0.mk (Kd.C_below HR0x.out hb5)
    have HR1 := Aside0.mk (Kd.C_below HR1x.out hb5)
    have HC5 := Aside0.mk hC5
    have HC6 := Aside0.mk hC6
    have hg9 : g9 < w5.heap.size := blk_lt HBK.out
    clear hV0 hV1 hC5 hC6 hb5 HBK0 HB2 HR0x HR1x HO HA
    have HL5 := Aside0.mk hl5
    have HL6 := Aside0.mk hl6
    clear hl5 hl6
    generalize hv5 : (X0.map convI).length = n5 at *
    generalize hv6 : (X1.map convC).length = n6 at *
    rw [List.length_map] at hv5 hv6
    have E5 := Lib.hid hv5
    have E6 := Lib.hid hv6
    clear hv5 hv6
    go_wp2_with fail
    go_loopw [12, 36] (fun s12 i wr => ∃ k : Nat, k ≤ X1.length ∧ i = .int .i64 k ∧ Aside0 (Below w5.heap.size w5 wr))
      (fun _ i _ => X1.length - (intOf i).toNat)
    case atStart => exact ⟨0, Nat.zero_le _, rfl, ⟨Below.refl _ _⟩⟩
    case round =>
      obtain ⟨k, hk, rfl, HBr⟩ := hrel
      by_cases hlt : k < X1.length
      · have h0 : (0:Int) ≤ (k : Int) := by omega
        have h1' : (k : Int) < X1.length := by omega
        have hIc := HI.out X1[k] (List.getElem_mem hlt)
        obtain ⟨Kw, hw⟩ := (ref_ev X0 X1[k] (by omega) 0 0 0 0 0 0 0 0 0 0 0 0).rounds
        obtain ⟨Ke, he⟩ := (equal_ev (waitsV X1[k].f0 X1[k].f2 X1[k].f3 X0) (waitsV X1[k].f0 X1[k].f2 X1[k].f3 X0) (by have := wl_len X0 X1[k]; unfold wl at this; omega)).rounds
        rw [decide_eq_true rfl] at he
        have HW := Aside0.mk hw
        have HE := Aside0.mk he
        clear hw he
        obtain ⟨ad, ea, x0, x1, x2, x3, x4, x5, x6, x7, x8, x9, x10, x11, x12, x13, x14⟩ := at_T99 (Kd.C_below HR1.out HBr.out) (k : Int) h0 h1'
        obtain ⟨bd, eb, y0, y1, y2, y3, y4, y5, y6, y7, y8, y9, y10, y11, y12, y13, y14⟩ := at_T104 (Kd.C_below HC6.out HBr.out) (k : Int) h0 (by rw [← E6.out]; exact h1')
        subst ea eb
        rw [rdC hlt] at x0 x1 x2 x3 x4 x5 x6 x7 x8 x9 x10 x11 x12 x13 x14
        rw [rdmapC X1 k hlt] at y0 y1 y2 y3 y4 y5 y6 y7 y8 y9 y10 y11 y12 y13 y14
        simp only [convC] at y0 y1 y2 y3 y4 y5 y6 y7 y8 y9 y10 y11 y12 y13 y14
        have Lk := Lib.hid hlt
        generalize X1[k] = C at *
        simp only [Int.toNat_natCast] at x0 x1 x2 x3 x4 x5 x6 x7 x8 x9 x10 x11 x12 x13 x14 y0 y1 y2 y3 y4 y5 y6 y7 y8 y9 y10 y11 y12 y13 y14
        have HB8 := Aside0.mk (HBr.out.alloc HBr.out.size (.cells #[.int .i64 C.f0, .int .u8 C.f1.f0, .int .i64 C.f1.f1, .int .i64 C.f1.f2, .int .i64 C.f1.f3, .int .i64 C.f2, .int .i64 C.f3, .int .i64 C.f4, .int .i64 C.f5, .int .i64 C.f6, .int .u8 C.f7.f0, .int .u64 C.f7.f1, .int .i64 C.f7.f2, .int .i64 C.f7.f3, .int .i64 C.f7.f4] 99))
        have BK8 := Aside0.mk (heap_alloc_new wr (.cells #[.int .i64 C.f0, .int .u8 C.f1.f0, .int .i64 C.f1.f1, .int .i64 C.f1.f2, .int .i64 C.f1.f3, .int .i64 C.f2, .int .i64 C.f3, .int .i64 C.f4, .int .i64 C.f5, .int .i64 C.f6, .int .u8 C.f7.f0, .int .u64 C.f7.f1, .int .i64 C.f7.f2, .int .i64 C.f7.f3, .int .i64 C.f7.f4] 99))
        have hs8 : wr.heap.size < (wr.alloc (.cells #[.int .i64 C.f0, .int .u8 C.f1.f0, .int .i64 C.f1.f1, .int .i64 C.f1.f2, .int .i64 C.f1.f3, .int .i64 C.f2, .int .i64 C.f3, .int .i64 C.f4, .int .i64 C.f5, .int .i64 C.f6, .int .u8 C.f7.f0, .int .u64 C.f7.f1, .int .i64 C.f7.f2, .int .i64 C.f7.f3, .int .i64 C.f7.f4] 99)).heap.size := by simp
        have YY := Aside0.mk (show Below wr.heap.size wr (wr.alloc (.cells #[.int .i64 C.f0, .int .u8 C.f1.f0, .int .i64 C.f1.f1, .int .i64 C.f1.f2, .int .i64 C.f1.f3, .int .i64 C.f2, .int .i64 C.f3, .int .i64 C.f4, .int .i64 C.f5, .int .i64 C.f6, .int .u8 C.f7.f0, .int .u64 C.f7.f1, .int .i64 C.f7.f2, .int .i64 C.f7.f3, .int .i64 C.f7.f4] 99)) from (Below.refl _ _).alloc (Nat.le_refl _) _)
        go_upto_region 9 with fail
        clear x0 x1 x2 x3 x4 x5 x6 x7 x8 x9 x10 x11 x12 x13 x14
        have HS8 : Aside0 (S9 wr.heap.size (bd.add (k * 15)) C (wr.alloc (.cells #[.int .i64 C.f0, .int .u8 C.f1.f0, .int .i64 C.f1.f1, .int .i64 C.f1.f2, .int .i64 C.f1.f3, .int .i64 C.f2, .int .i64 C.f3, .int .i64 C.f4, .int .i64 C.f5, .int .i64 C.f6, .int .u8 C.f7.f0, .int .u64 C.f7.f1, .int .i64 C.f7.f2, .int .i64 C.f7.f3, .int .i64 C.f7.f4] 99))) := ⟨by
          have z := fun (a : Addr) (v : Value) (h : wr.cell? a = some v) => (YY.out.cell (World.block_lt_of_cell? wr _ h)).trans h
          exact ⟨(blk_cell BK8.out 0).trans rfl, (blk_cell BK8.out 1).trans rfl, (blk_cell BK8.out 2).trans rfl, (blk_cell BK8.out 3).trans rfl, (blk_cell BK8.out 4).trans rfl, (blk_cell BK8.out 5).trans rfl, (blk_cell BK8.out 6).trans rfl, (blk_cell BK8.out 7).trans rfl, (blk_cell BK8.out 8).trans rfl, (blk_cell BK8.out 9).trans rfl, (blk_cell BK8.out 10).trans rfl, (blk_cell BK8.out 11).trans rfl, (blk_cell BK8.out 12).trans rfl, (blk_cell BK8.out 13).trans rfl, (blk_cell BK8.out 14).trans rfl, z _ _ y0, z _ _ y1, z _ _ y2, z _ _ y3, z _ _ y4, z _ _ y5, z _ _ y6, z _ _ y7, z _ _ y8, z _ _ y9, z _ _ y10, z _ _ y11, z _ _ y12, z _ _ y13, z _ _ y14⟩⟩
        clear y0 y1 y2 y3 y4 y5 y6 y7 y8 y9 y10 y11 y12 y13 y14 YY BK8
        generalize wr.alloc (.cells #[.int .i64 C.f0, .int .u8 C.f1.f0, .int .i64 C.f1.f1, .int .i64 C.f1.f2, .int .i64 C.f1.f3, .int .i64 C.f2, .int .i64 C.f3, .int .i64 C.f4, .int .i64 C.f5, .int .i64 C.f6, .int .u8 C.f7.f0, .int .u64 C.f7.f1, .int .i64 C.f7.f2, .int .i64 C.f7.f3, .int .i64 C.f7.f4] 99) = W8 at *
        generalize wr.heap.size = g8 at *
        have HRx := Aside0.mk (Kd.C_below HR0.out HB8.out)
        have H5x := Aside0.mk (Kd.C_below HC5.out HB8.out)
        have hk6 : (k : Int) < (n6 : Int) := by have := E6.out; have := Lk.out; omega
        have hk6' : k < n6 := by omega
        have hX0b : X0.length ≤ 1000000 := by omega
        have HWa := fun wx hx => waits_n A0 c0 X0 C wx hx HC0.out hIc.1 hIc.2 hX0b
        have HWb := fun wx hx => refWaits_n Kw A5 c5 n5 (X0.map convI) (by rw [List.length_map]; exact E5.out) C _ wx hx HL5.out HW.out
        clear HW
        generalize waitsV C.f0 C.f2 C.f3 X0 = WV at *
        go_region_held3 (fun w' => w'.cell? ⟨g8, 0, none⟩ = some (.int .i64 C.f0) ∧ w'.cell? ⟨g8, 1, none⟩ = some (.int .u8 C.f1.f0) ∧ w'.cell? ⟨g8, 2, none⟩ = some (.int .i64 C.f1.f1) ∧ w'.cell? ⟨g8, 3, none⟩ = some (.int .i64 C.f1.f2) ∧ w'.cell? ⟨g8, 4, none⟩ = some (.int .i64 C.f1.f3) ∧ w'.cell? ⟨g8, 5, none⟩ = some (.int .i64 C.f2) ∧ w'.cell? ⟨g8, 6, none⟩ = some (.int .i64 C.f3) ∧ w'.cell? ⟨g8, 7, none⟩ = some (.int .i64 C.f4) ∧ w'.cell? ⟨g8, 8, none⟩ = some (.int .i64 C.f5) ∧ w'.cell? ⟨g8, 9, none⟩ = some (.int .i64 C.f6) ∧ w'.cell? ⟨g8, 10, none⟩ = some (.int .u8 C.f7.f0) ∧ w'.cell? ⟨g8, 11, none⟩ = some (.int .u64 C.f7.f1) ∧ w'.cell? ⟨g8, 12, none⟩ = some (.int .i64 C.f7.f2) ∧ w'.cell? ⟨g8, 13, none⟩ = some (.int .i64 C.f7.f3) ∧ w'.cell? ⟨g8, 14, none⟩ = some (.int .i64 C.f7.f4) ∧ w'.cell? (bd.add (k * 15)) = some (.int .i64 C.f0) ∧ w'.cell? ⟨(bd.add (k * 15)).block, (bd.add (k * 15)).off + 1, none⟩ = some (.int .u8 0) ∧ w'.cell? ⟨(bd.add (k * 15)).block, (bd.add (k * 15)).off + 2, none⟩ = some (.int .i64 0) ∧ w'.cell? ⟨(bd.add (k * 15)).block, (bd.add (k * 15)).off + 3, none⟩ = some (.int .i64 0) ∧ w'.cell? ⟨(bd.add (k * 15)).block, (bd.add (k * 15)).off + 4, none⟩ = some (.int .i64 0) ∧ w'.cell? ⟨(bd.add (k * 15)).block, (bd.add (k * 15)).off + 5, none⟩ = some (.int .i64 C.f2) ∧ w'.cell? ⟨(bd.add (k * 15)).block, (bd.add (k * 15)).off + 6, none⟩ = some (.int .i64 C.f3) ∧ w'.cell? ⟨(bd.add (k * 15)).block, (bd.add (k * 15)).off + 7, none⟩ = some (.int .i64 0) ∧ w'.cell? ⟨(bd.add (k * 15)).block, (bd.add (k * 15)).off + 8, none⟩ = some (.int .i64 0) ∧ w'.cell? ⟨(bd.add (k * 15)).block, (bd.add (k * 15)).off + 9, none⟩ = some (.int .i64 0) ∧ w'.cell? ⟨(bd.add (k * 15)).block, (bd.add (k * 15)).off + 10, none⟩ = some (.int .u8 0) ∧ w'.cell? ⟨(bd.add (k * 15)).block, (bd.add (k * 15)).off + 11, none⟩ = some (.int .u64 0) ∧ w'.cell? ⟨(bd.add (k * 15)).block, (bd.add (k * 15)).off + 12, none⟩ = some (.int .i64 0) ∧ w'.cell? ⟨(bd.add (k * 15)).block, (bd.add (k * 15)).off + 13, none⟩ = some (.int .i64 0) ∧ w'.cell? ⟨(bd.add (k * 15)).block, (bd.add (k * 15)).off + 14, none⟩ = some (.int .i64 0)) (first | exact HS8.out | exact k37 | exact k36 | exact k35 | go_keep) (first | (go_at_call 36; refine (HWa _ (by first | exact HRx.out | exact Kd.C_drew HRx.out)).mono ?_; rintro e w36 ⟨A36, c36, rfl, hl36, hC36, hb36'⟩; have hb36 : Below W8.heap.size W8 w36 := Below.drew0 hb36'; have k36 : S9 g8 (bd.add (k * 15)) C w36 := S9.below HS8.out hb36; have L36 := Aside0.mk hl36; have H36 := Aside0.mk hC36; have B36 := Aside0.mk hb36; clear hl36 hC36 hb36 hb36') | (go_at_call 37; refine (HWb _ (Kd.C_below H5x.out B36.out)).mono ?_; rintro e w37 ⟨A37, c37, rfl, hl37, hC37, hb37⟩; have k37 : S9 g8 (bd.add (k * 15)) C w37 := S9.below k36 hb37; have L37 := Aside0.mk hl37; have H37 := Aside0.mk hC37; have B37 := Aside0.mk (B36.out.trans (hb37.mono B36.out.size)); have H36' := Aside0.mk (Kd.C_below H36.out hb37); clear hl37 hC37 hb37) | (go_at_call 35; refine (slices_Equal_int_int.calls Ke A36 c36 WV A37 c37 WV true _ H36'.out L36.out H37.out L37.out HE.out).mono ?_; rintro e w35 ⟨rfl, hd35⟩; have hb35 := Below.drawn0 hd35; have k35 : S9 g8 (bd.add (k * 15)) C w35 := S9.below k37 hb35; have B35 := Aside0.mk (B37.out.trans (hb35.mono B37.out.size)); clear hd35 hb35))
        go_wp2_with fail
        go_roundw
        case rel => exact ⟨k + 1, by have := Lk.out; omega, by go_num, ⟨HB8.out.trans (B35.out.mono HB8.out.size)⟩⟩
        case measure => have := Lk.out; simp [intOf]; omega
      · obtain rfl : k = X1.length := by omega
        have HBf := Aside0.mk (bound_f fair thr hf ht)
        have HBKr := Aside0.mk ((HBr.out.block g9 hg9).trans HBK.out)
        have HR0r := Aside0.mk (Kd.C_below HR0.out HBr.out)
        have HR1r := Aside0.mk (Kd.C_below HR1.out HBr.out)
        have H5r := Aside0.mk (Kd.C_below HC5.out HBr.out)
        have H6r := Aside0.mk (Kd.C_below HC6.out HBr.out)
        have hgr : g9 < wr.heap.size := blk_lt HBKr.out
        have q0 : wr.cell? ⟨g9, 0, none⟩ = some (.slice A1 X1.length c1) := (blk_cell HBKr.out 0).trans rfl
        have q1 : wr.cell? ⟨g9, 1, none⟩ = some (.slice none 0 0) := (blk_cell HBKr.out 1).trans rfl
        have q2 : wr.cell? ⟨g9, 2, none⟩ = some (.slice none 0 0) := (blk_cell HBKr.out 2).trans rfl
        go_wp2_with fail
        refine (pace_Fair.calls Kf A0 c0 X0 A1 c1 X1 none 0 [] none 0 [] _ wr HR0r.out HC0.out HR1r.out HC1.out (Kd.C_nil _ _) (Nat.le_refl _) (Kd.C_nil _ _) (Nat.le_refl _) HF.out).mono ?_
        rintro e w20 ⟨rfl, b20⟩
        go_wp2_with fail
        refine (refFair_n Kg A5 c5 n5 (X0.map convI) (by rw [List.length_map]; exact E5.out) A6 c6 n6 (X1.map convC) (by rw [List.length_map]; exact E6.out) _ w20 (Kd.C_below H5r.out b20) HL5.out (Kd.C_below H6r.out b20) HL6.out HGf.out).mono ?_
        rintro e w21 ⟨rfl, b21'⟩
        have b21 := b20.trans (b21'.mono b20.size)
        have B21 := Aside0.mk b21
        have q0 : w21.cell? ⟨g9, 0, none⟩ = some (.slice A1 X1.length c1) := (blk_cell ((b21.block g9 hgr).trans HBKr.out) 0).trans rfl
        have q1 : w21.cell? ⟨g9, 1, none⟩ = some (.slice none 0 0) := (blk_cell ((b21.block g9 hgr).trans HBKr.out) 1).trans rfl
        have q2 : w21.cell? ⟨g9, 2, none⟩ = some (.slice none 0 0) := (blk_cell ((b21.block g9 hgr).trans HBKr.out) 2).trans rfl
        clear b20 b21' b21
        go_wp2_with fail
        refine (pace_Longest.calls A0 c0 X0 A1 c1 X1 none 0 [] none 0 [] _ w21 (Kd.C_below HR0r.out B21.out) HC0.out (Kd.C_below HR1r.out B21.out) HC1.out (Kd.C_nil _ _) (Nat.le_refl _) (Kd.C_nil _ _) (Nat.le_refl _) HLo.out).mono ?_
        rintro e w22 ⟨rfl, b22'⟩
        have B22 := Aside0.mk (B21.out.trans (b22'.mono B21.out.size))
        clear b22'
        go_wp2_with fail
        refine (refLongest_n Kl A5 c5 n5 (X0.map convI) (by rw [List.length_map]; exact E5.out) A6 c6 n6 (X1.map convC) (by rw [List.length_map]; exact E6.out) _ w22 (Kd.C_below H5r.out B22.out) HL5.out (Kd.C_below H6r.out B22.out) HL6.out HL.out).mono ?_
        rintro e w23 ⟨rfl, b23'⟩
        have B23 := Aside0.mk (B22.out.trans (b23'.mono B22.out.size))
        clear b23'
        go_wp2_with fail
        refine (pace_Bound.calls fair thr _ w23 HBf.out).mono ?_
        rintro e w24 ⟨rfl, b24'⟩
        have B24 := Aside0.mk (B23.out.trans (b24'.mono B23.out.size))
        clear b24'
        go_wp2_with fail
        have hkb := rbound_f fair thr hf ht
        refine (overfallref23_Bound.calls fair thr _ w24 hkb).mono ?_
        rintro e w25 ⟨rfl, b25'⟩
        have B25 := Aside0.mk (B24.out.trans (b25'.mono B24.out.size))
        clear b25' hkb
        go_wp2_with fail
        go_ret
        exact ⟨rfl, HB5.out.trans ((HBr.out.trans (B25.out.mono HBr.out.size)).mono HB5.out.size)⟩
end Go.Proofs.Yteaihgjjplgalaa.PPaceTells
