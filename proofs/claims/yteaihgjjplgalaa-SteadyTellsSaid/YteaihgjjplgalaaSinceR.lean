/- The iterator of package steady: what a range over it does: contracts, walked. -/
import Derived.RangeFuncNested
import Derived.RangeFuncBound
import Derived.RangeFuncCalls
import Derived.RangeFuncLeaves
import Derived.RangeFuncBox
import Derived.Shelf.Abstract
import Derived.Shelf.RegionOpen
import Derived.WalkKit
import Derived.OwnWalkIn
import Derived.TacticsInMore
import Derived.LoopNIn
import Derived.LoopIn
import Derived.Test.YteaihgjjplgalaaRows
import Derived.Test.YteaihgjjplgalaaOpen
import Derived.Test.YteaihgjjplgalaaSlR
namespace Go.Proofs.Yteaihgjjplgalaa.Rd
open Go.RowKit Go.Shelf
set_option linter.unusedVariables false
set_option linter.unusedSimpArgs false
attribute [local go_sem] Oper.semAt_some

/-- A step's data. -/
structure StepD where
  now : Int
  k : Int
  t : Int
  c : Int
  n : Int
  a : Int
  i : Int
  t2 : Int
  c2 : Int
  s2 : Int
  ga : Option Addr
  gl : Nat
  gc : Nat
  hb : I64 now ∧ (0 ≤ k ∧ k ≤ 255) ∧ I64 n
def StepD.cells (s : StepD) : List Value :=
  [.int .i64 s.now, .int .u8 s.k, .int .i64 s.t, .int .i64 s.c, .int .i64 s.n, .int .u8 s.a, .int .u64 s.i, .int .i64 s.t2, .int .i64 s.c2, .int .i64 s.s2, .slice s.ga s.gl s.gc]
abbrev StepsAt := SlR 11 StepD.cells

theorem since_in (F : Fence) (n : Nat) (h : F.fn 57) (hro : F.round = none) (a : Option Addr) (len cap : Nat) (from_ : Int) (w : World) :
    CallsIn F n Try.prog 57 #[.slice a len cap, .int .i64 from_] w fun e w' =>
      e = .returned (.func (.func 80) #[] #[.pointer (some ⟨w.heap.size, 0, none⟩), .pointer (some ⟨w.heap.size + 1, 0, none⟩)]) ∧
      w' = (w.alloc (.cells #[.slice a len cap] 66)).alloc (.cells #[.int .i64 from_] 2) := by
  refine callsIn_of_wp Try.func57 rfl h ?_ hro
  simp only [Try.ntmps57, List.size_toArray, List.length_cons, List.length_nil, Nat.reduceAdd, Nat.reduceSub, Array.replicate_succ, Array.replicate_zero, List.push_toArray, List.append_toArray, List.nil_append, List.cons_append]
  gi_wp2
  go_ret
  exact ⟨rfl, rfl⟩

/-- which steps a range over it hands on. -/
def later (from_ : Int) (xs : List StepD) : List StepD := xs.filter fun s => decide (from_ ≤ s.now)
theorem later_succ {from_ : Int} {xs : List StepD} {k : Nat} {x : StepD} (hx : xs[k]? = some x) : later from_ (xs.take (k + 1)) = later from_ (xs.take k) ++ (if from_ ≤ x.now then [x] else []) := by
  unfold later
  rw [List.take_add_one, hx, List.filter_append]
  simp [List.filter_cons]

set_option maxRecDepth 100000 in
set_option maxHeartbeats 2000000 in
theorem since1_in (F : Fence) (n : Nat) (h : F.fn 80) (hro : F.round = none) (hn : 1 ≤ n) (l B1 B2 : Nat) (G : Nat → Prop) (sv : Value) (xs : List StepD) (from_ : Int) (Kp : World → World → Prop)
    (hKp : ∀ A B, Kp A B → ∀ b, G b → B.heap[b]? = A.heap[b]?) (hKs : ∀ A B, Kp A B → A.heap.size ≤ B.heap.size) (J Jx : List StepD → World → Prop)
    (W : World) (hGW : ∀ b, G b → b < W.heap.size) (hJ : AbidesFrom W.heap.size J)
    (hY : ∀ pre x W1, J pre W1 → pre.length < xs.length → YieldAt F (n - 1) Try.prog l #[.agg x.cells.toArray] W1 fun e W' =>
      (e = .returned (.bool true) ∧ J (pre ++ [x]) W' ∧ Kp W1 W') ∨ (e = .returned (.bool false) ∧ Jx (pre ++ [x]) W'))
    (hB1 : W.cell? ⟨B1, 0, none⟩ = some sv) (hB2 : W.cell? ⟨B2, 0, none⟩ = some (.int .i64 from_)) (hG2 : G B2) (hI : StepsAt G W sv xs) (h0 : J [] W) :
    CallsIn F n Try.prog 80 #[.func (.yield l) #[] #[], .pointer (some ⟨B1, 0, none⟩), .pointer (some ⟨B2, 0, none⟩)] W fun e W' => (∃ v, e = .returned v) ∧
      ((∃ ys, ys = later from_ xs ∧ J ys W') ∨ (∃ pre, (∃ k, pre = later from_ (xs.take k)) ∧ Jx pre W')) := by
  obtain ⟨a, cap, rfl, h1, h2, h3, h4⟩ := hI
  have hm : xs.length ≤ 9223372036854775807 := h2
  refine callsIn_of_wp Try.func80 rfl h ?_ hro
  simp only [Try.ntmps80, List.size_toArray, List.length_cons, List.length_nil, Nat.reduceAdd, Nat.reduceSub, Array.replicate_succ, Array.replicate_zero, List.push_toArray, List.append_toArray, List.nil_append, List.cons_append]
  have HJ := Lib.hid hJ
  have HK := Lib.hid hKp
  have HT := Lib.hid hKs
  have H4 := Lib.hid h4
  have HG := Lib.hid hGW
  have HY := Lib.hid hY
  clear hJ hKp hKs h4 hGW hY
  gi_wp2
  gi_loopw [8] (fun i wr => ∃ k : Nat, k ≤ xs.length ∧ i = .int .i64 k ∧ J (later from_ (xs.take k)) wr ∧ W.heap.size ≤ wr.heap.size ∧ (∀ b, G b → wr.heap[b]? = W.heap[b]?))
    (fun i _ => xs.length - (intOf i).toNat)
  case atStart => exact ⟨0, Nat.zero_le _, rfl, h0, Nat.le_refl _, fun _ _ => rfl⟩
  case round =>
    obtain ⟨k, hk, rfl, hJs, hsz, hsame⟩ := hrel
    have HS := Lib.hid hsame
    clear hsame
    by_cases hlt : k < xs.length
    · obtain ⟨b, off, rfl, hGb, hc⟩ := H4.out (by omega)
      have hx : xs[k]? = some xs[k] := List.getElem?_eq_getElem hlt
      generalize xs[k] = x at hx
      have hck : ∀ j, j < 11 → wr.cell? ⟨b, off + k * 11 + j, none⟩ = x.cells[j]? := fun j hj => by
        rw [World.cell?_of_block (HS.out b hGb)]
        exact hc k x hx j hj
      have hc2 : wr.cell? ⟨B2, 0, none⟩ = some (.int .i64 from_) := by rw [World.cell?_of_block (HS.out B2 hG2)]; exact hB2
      have g0 : wr.cell? ⟨b, off + k * 11, none⟩ = _ := hck 0 (by decide)
      have g1 := hck 1 (by decide)
      have g2 := hck 2 (by decide)
      have g3 := hck 3 (by decide)
      have g4 := hck 4 (by decide)
      have g5 := hck 5 (by decide)
      have g6 := hck 6 (by decide)
      have g7 := hck 7 (by decide)
      have g8 := hck 8 (by decide)
      have g9 := hck 9 (by decide)
      have g10 := hck 10 (by decide)
      have Hx := Lib.hid hx
      have hlen : (later from_ (xs.take k)).length < xs.length := by
        have h1 := List.length_filter_le (fun s : StepD => decide (from_ ≤ s.now)) (xs.take k)
        have h2 : (xs.take k).length = k := by rw [List.length_take]; omega
        show (List.filter _ _).length < _
        omega
      clear hc hck
      have hJa : J (later from_ (xs.take k)) (wr.alloc (.cells x.cells.toArray 69)) := HJ.out _ _ _ none hJs (World.grownBy_alloc _ _ _) (fun r e => by cases e)
      have hsa : ∀ b, G b → (wr.alloc (.cells x.cells.toArray 69)).heap[b]? = W.heap[b]? := fun b hb => by
        rw [Below.heap_alloc _ _ _ (Nat.lt_of_lt_of_le (HG.out b hb) hsz)]; exact HS.out b hb
      have HSA := Lib.hid hsa
      clear hsa hx
      have hlB2 : B2 < wr.heap.size := Nat.lt_of_lt_of_le (HG.out _ hG2) hsz
      have HNB := Lib.hid (later_succ (from_ := from_) Hx.out)
      obtain ⟨now, kk, t, c, nn, aa, ii, t2, c2, s2, ga, gl, gc, hbd⟩ := x
      simp only [StepD.cells, List.getElem?_cons_zero, List.getElem?_cons_succ] at g0 g1 g2 g3 g4 g5 g6 g7 g8 g9 g10
      simp only [StepD.cells] at hJa HSA
      by_cases hf : from_ ≤ now
      · have hfd : decide (from_ ≤ now) = true := by simpa using hf
        obtain ⟨fn, tmps, assign, body, hy, hR⟩ := HY.out _ ⟨now, kk, t, c, nn, aa, ii, t2, c2, s2, ga, gl, gc, hbd⟩ _ hJa hlen
        simp only [StepD.cells] at hy hR
        gi_wp2
        refine hR.mono ?_
        rintro e W3 (⟨rfl, hJ3, hk3⟩ | ⟨rfl, hJx3⟩)
        · gi_wp2
          go_roundw
          case rel =>
            refine ⟨k + 1, by omega, by simp, ?_, ?_, fun b hb => ((HK.out _ _ hk3) b hb).trans (HSA.out b hb)⟩
            · rw [HNB.out, if_pos hf]; exact hJ3
            · exact Nat.le_trans (by simp; omega) (HT.out _ _ hk3)
          case measure => simp [intOf]; omega
        · gi_wp2
          refine bodyPost_ret (results_none rfl _ _ _) rfl ?_
          exact ⟨⟨_, rfl⟩, .inr ⟨_, ⟨k + 1, rfl⟩, by rw [HNB.out, if_pos hf]; exact hJx3⟩⟩
      · have hfd : decide (from_ ≤ now) = false := by simpa using hf
        gi_wp2
        refine ⟨fun _ h => (by cases h), ?_⟩
        gi_wp2
        go_roundw
        case rel =>
          refine ⟨k + 1, by omega, by simp, ?_, by simp; omega, HSA.out⟩
          rw [HNB.out, if_neg (by omega), List.append_nil]; exact hJa
        case measure => simp [intOf]; omega
    · obtain rfl : k = xs.length := by omega
      gi_wp2
      go_end0
      exact ⟨⟨_, rfl⟩, .inl ⟨_, rfl, by rw [List.take_length] at hJs; exact hJs⟩⟩

theorem since_stops (F : Fence) (n : Nat) (h : F.fn 80) (hro : F.round = none) (hn : 1 ≤ n) (B1 B2 : Nat) (G : Nat → Prop) (sv : Value) (xs : List StepD) (from_ : Int) (Kp : World → World → Prop)
    (hKp : ∀ A B, Kp A B → ∀ b, G b → B.heap[b]? = A.heap[b]?) (hKs : ∀ A B, Kp A B → A.heap.size ≤ B.heap.size) (w : World) (hGW : ∀ b, G b → b < w.heap.size)
    (hG1 : G B1) (hB1 : w.cell? ⟨B1, 0, none⟩ = some sv) (hB2 : w.cell? ⟨B2, 0, none⟩ = some (.int .i64 from_)) (hG2 : G B2) (hI : StepsAt G w sv xs) :
    SeqStopsK F n Try.prog 80 #[.pointer (some ⟨B1, 0, none⟩), .pointer (some ⟨B2, 0, none⟩)] (fun x : StepD => #[.agg x.cells.toArray]) Kp (fun ys => ys = later from_ xs) (fun pre => ∃ k, pre = later from_ (xs.take k)) xs.length w := by
  intro l J Jx W hW hJ _ hY h0
  have hs : ∀ b, G b → W.heap[b]? = w.heap[b]? := fun b hb => hW.block b (hGW b hb)
  exact since1_in F n h hro hn l B1 B2 G sv xs from_ Kp hKp hKs J Jx W (fun b hb => Nat.lt_of_lt_of_le (hGW b hb) hW.size) hJ hY
    (by rw [World.cell?_of_block (hs B1 hG1)]; exact hB1) (by rw [World.cell?_of_block (hs B2 hG2)]; exact hB2) hG2 (hI.kept hs) h0
end Go.Proofs.Yteaihgjjplgalaa.Rd
