/- conf.Default, numbers; what conf.Parse computes. -/
import Derived.Test.YteaihgjjplgalaaDoorDoorTold
import Derived.Test.YteaihgjjplgalaaDoorApp
namespace Go.Proofs.YteaihgjjplgalaaDoor
open Go.RowKit Go.Proofs.YteaihgjjplgalaaDoorW.PrintWords Go.Proofs.YteaihgjjplgalaaDoorW.PrintLast Go.Proofs.YteaihgjjplgalaaDoorW.PrintMore
set_option linter.unusedVariables false
set_option linter.unusedSimpArgs false

set_option maxRecDepth 100000 in
set_option maxHeartbeats 4000000 in
theorem numbers_any (n0 n1 n2 n3 n4 n5 n6 n7 n8 n9 n10 n11 n12 n13 n14 n15 : Int) (w : World) :
    Calls Tryd.prog 27 #[.agg #[.int .i64 n0, .int .i64 n1, .int .i64 n2, .int .i64 n3, .int .i64 n4, .int .i64 n5, .int .i64 n6, .int .i64 n7, .int .i64 n8, .int .i64 n9, .int .i64 n10, .int .i64 n11, .int .i64 n12, .int .i64 n13, .int .i64 n14, .int .i64 n15]] w fun e w' => ∃ b, e = .returned (.slice (some ⟨b, 0, none⟩) 16 16) ∧ w.heap.size ≤ b ∧ w'.heap[b]? = some (.cells #[.int .i64 n0, .int .i64 n1, .int .i64 n2, .int .i64 n3, .int .i64 n4, .int .i64 n5, .int .i64 n6, .int .i64 n7, .int .i64 n8, .int .i64 n9, .int .i64 n10, .int .i64 n11, .int .i64 n12, .int .i64 n13, .int .i64 n14, .int .i64 n15] 2) ∧ Below w.heap.size w w' := by
  have BK0 := Aside0.mk (heap_alloc_new w (.cells #[.int .i64 n0, .int .i64 n1, .int .i64 n2, .int .i64 n3, .int .i64 n4, .int .i64 n5, .int .i64 n6, .int .i64 n7, .int .i64 n8, .int .i64 n9, .int .i64 n10, .int .i64 n11, .int .i64 n12, .int .i64 n13, .int .i64 n14, .int .i64 n15] 24))
  have HB0 := Aside0.mk ((Below.refl w.heap.size w).alloc (Nat.le_refl _) (.cells #[.int .i64 n0, .int .i64 n1, .int .i64 n2, .int .i64 n3, .int .i64 n4, .int .i64 n5, .int .i64 n6, .int .i64 n7, .int .i64 n8, .int .i64 n9, .int .i64 n10, .int .i64 n11, .int .i64 n12, .int .i64 n13, .int .i64 n14, .int .i64 n15] 24))
  have q0 : (w.alloc (.cells #[.int .i64 n0, .int .i64 n1, .int .i64 n2, .int .i64 n3, .int .i64 n4, .int .i64 n5, .int .i64 n6, .int .i64 n7, .int .i64 n8, .int .i64 n9, .int .i64 n10, .int .i64 n11, .int .i64 n12, .int .i64 n13, .int .i64 n14, .int .i64 n15] 24)).cell? ⟨w.heap.size, 0, none⟩ = some (.int .i64 n0) := (blk_cell BK0.out 0).trans rfl
  have q1 : (w.alloc (.cells #[.int .i64 n0, .int .i64 n1, .int .i64 n2, .int .i64 n3, .int .i64 n4, .int .i64 n5, .int .i64 n6, .int .i64 n7, .int .i64 n8, .int .i64 n9, .int .i64 n10, .int .i64 n11, .int .i64 n12, .int .i64 n13, .int .i64 n14, .int .i64 n15] 24)).cell? ⟨w.heap.size, 1, none⟩ = some (.int .i64 n1) := (blk_cell BK0.out 1).trans rfl
  have q2 : (w.alloc (.cells #[.int .i64 n0, .int .i64 n1, .int .i64 n2, .int .i64 n3, .int .i64 n4, .int .i64 n5, .int .i64 n6, .int .i64 n7, .int .i64 n8, .int .i64 n9, .int .i64 n10, .int .i64 n11, .int .i64 n12, .int .i64 n13, .int .i64 n14, .int .i64 n15] 24)).cell? ⟨w.heap.size, 2, none⟩ = some (.int .i64 n2) := (blk_cell BK0.out 2).trans rfl
  have q3 : (w.alloc (.cells #[.int .i64 n0, .int .i64 n1, .int .i64 n2, .int .i64 n3, .int .i64 n4, .int .i64 n5, .int .i64 n6, .int .i64 n7, .int .i64 n8, .int .i64 n9, .int .i64 n10, .int .i64 n11, .int .i64 n12, .int .i64 n13, .int .i64 n14, .int .i64 n15] 24)).cell? ⟨w.heap.size, 3, none⟩ = some (.int .i64 n3) := (blk_cell BK0.out 3).trans rfl
  have q4 : (w.alloc (.cells #[.int .i64 n0, .int .i64 n1, .int .i64 n2, .int .i64 n3, .int .i64 n4, .int .i64 n5, .int .i64 n6, .int .i64 n7, .int .i64 n8, .int .i64 n9, .int .i64 n10, .int .i64 n11, .int .i64 n12, .int .i64 n13, .int .i64 n14, .int .i64 n15] 24)).cell? ⟨w.heap.size, 4, none⟩ = some (.int .i64 n4) := (blk_cell BK0.out 4).trans rfl
  have q5 : (w.alloc (.cells #[.int .i64 n0, .int .i64 n1, .int .i64 n2, .int .i64 n3, .int .i64 n4, .int .i64 n5, .int .i64 n6, .int .i64 n7, .int .i64 n8, .int .i64 n9, .int .i64 n10, .int .i64 n11, .int .i64 n12, .int .i64 n13, .int .i64 n14, .int .i64 n15] 24)).cell? ⟨w.heap.size, 5, none⟩ = some (.int .i64 n5) := (blk_cell BK0.out 5).trans rfl
  have q6 : (w.alloc (.cells #[.int .i64 n0, .int .i64 n1, .int .i64 n2, .int .i64 n3, .int .i64 n4, .int .i64 n5, .int .i64 n6, .int .i64 n7, .int .i64 n8, .int .i64 n9, .int .i64 n10, .int .i64 n11, .int .i64 n12, .int .i64 n13, .int .i64 n14, .int .i64 n15] 24)).cell? ⟨w.heap.size, 6, none⟩ = some (.int .i64 n6) := (blk_cell BK0.out 6).trans rfl
  have q7 : (w.alloc (.cells #[.int .i64 n0, .int .i64 n1, .int .i64 n2, .int .i64 n3, .int .i64 n4, .int .i64 n5, .int .i64 n6, .int .i64 n7, .int .i64 n8, .int .i64 n9, .int .i64 n10, .int .i64 n11, .int .i64 n12, .int .i64 n13, .int .i64 n14, .int .i64 n15] 24)).cell? ⟨w.heap.size, 7, none⟩ = some (.int .i64 n7) := (blk_cell BK0.out 7).trans rfl
  have q8 : (w.alloc (.cells #[.int .i64 n0, .int .i64 n1, .int .i64 n2, .int .i64 n3, .int .i64 n4, .int .i64 n5, .int .i64 n6, .int .i64 n7, .int .i64 n8, .int .i64 n9, .int .i64 n10, .int .i64 n11, .int .i64 n12, .int .i64 n13, .int .i64 n14, .int .i64 n15] 24)).cell? ⟨w.heap.size, 8, none⟩ = some (.int .i64 n8) := (blk_cell BK0.out 8).trans rfl
  have q9 : (w.alloc (.cells #[.int .i64 n0, .int .i64 n1, .int .i64 n2, .int .i64 n3, .int .i64 n4, .int .i64 n5, .int .i64 n6, .int .i64 n7, .int .i64 n8, .int .i64 n9, .int .i64 n10, .int .i64 n11, .int .i64 n12, .int .i64 n13, .int .i64 n14, .int .i64 n15] 24)).cell? ⟨w.heap.size, 9, none⟩ = some (.int .i64 n9) := (blk_cell BK0.out 9).trans rfl
  have q10 : (w.alloc (.cells #[.int .i64 n0, .int .i64 n1, .int .i64 n2, .int .i64 n3, .int .i64 n4, .int .i64 n5, .int .i64 n6, .int .i64 n7, .int .i64 n8, .int .i64 n9, .int .i64 n10, .int .i64 n11, .int .i64 n12, .int .i64 n13, .int .i64 n14, .int .i64 n15] 24)).cell? ⟨w.heap.size, 10, none⟩ = some (.int .i64 n10) := (blk_cell BK0.out 10).trans rfl
  have q11 : (w.alloc (.cells #[.int .i64 n0, .int .i64 n1, .int .i64 n2, .int .i64 n3, .int .i64 n4, .int .i64 n5, .int .i64 n6, .int .i64 n7, .int .i64 n8, .int .i64 n9, .int .i64 n10, .int .i64 n11, .int .i64 n12, .int .i64 n13, .int .i64 n14, .int .i64 n15] 24)).cell? ⟨w.heap.size, 11, none⟩ = some (.int .i64 n11) := (blk_cell BK0.out 11).trans rfl
  have q12 : (w.alloc (.cells #[.int .i64 n0, .int .i64 n1, .int .i64 n2, .int .i64 n3, .int .i64 n4, .int .i64 n5, .int .i64 n6, .int .i64 n7, .int .i64 n8, .int .i64 n9, .int .i64 n10, .int .i64 n11, .int .i64 n12, .int .i64 n13, .int .i64 n14, .int .i64 n15] 24)).cell? ⟨w.heap.size, 12, none⟩ = some (.int .i64 n12) := (blk_cell BK0.out 12).trans rfl
  have q13 : (w.alloc (.cells #[.int .i64 n0, .int .i64 n1, .int .i64 n2, .int .i64 n3, .int .i64 n4, .int .i64 n5, .int .i64 n6, .int .i64 n7, .int .i64 n8, .int .i64 n9, .int .i64 n10, .int .i64 n11, .int .i64 n12, .int .i64 n13, .int .i64 n14, .int .i64 n15] 24)).cell? ⟨w.heap.size, 13, none⟩ = some (.int .i64 n13) := (blk_cell BK0.out 13).trans rfl
  have q14 : (w.alloc (.cells #[.int .i64 n0, .int .i64 n1, .int .i64 n2, .int .i64 n3, .int .i64 n4, .int .i64 n5, .int .i64 n6, .int .i64 n7, .int .i64 n8, .int .i64 n9, .int .i64 n10, .int .i64 n11, .int .i64 n12, .int .i64 n13, .int .i64 n14, .int .i64 n15] 24)).cell? ⟨w.heap.size, 14, none⟩ = some (.int .i64 n14) := (blk_cell BK0.out 14).trans rfl
  have q15 : (w.alloc (.cells #[.int .i64 n0, .int .i64 n1, .int .i64 n2, .int .i64 n3, .int .i64 n4, .int .i64 n5, .int .i64 n6, .int .i64 n7, .int .i64 n8, .int .i64 n9, .int .i64 n10, .int .i64 n11, .int .i64 n12, .int .i64 n13, .int .i64 n14, .int .i64 n15] 24)).cell? ⟨w.heap.size, 15, none⟩ = some (.int .i64 n15) := (blk_cell BK0.out 15).trans rfl
  go_enter Tryd.func27, Tryd.ntmps27
  go_wp2_with fail
  go_ret
  refine ⟨_, rfl, ?_, ?_, ?_⟩
  · have := HB0.out.size; first | exact this | omega
  · have e := heap_alloc_new (w.alloc (.cells #[.int .i64 n0, .int .i64 n1, .int .i64 n2, .int .i64 n3, .int .i64 n4, .int .i64 n5, .int .i64 n6, .int .i64 n7, .int .i64 n8, .int .i64 n9, .int .i64 n10, .int .i64 n11, .int .i64 n12, .int .i64 n13, .int .i64 n14, .int .i64 n15] 24)) (.cells #[.int .i64 n0, .int .i64 n1, .int .i64 n2, .int .i64 n3, .int .i64 n4, .int .i64 n5, .int .i64 n6, .int .i64 n7, .int .i64 n8, .int .i64 n9, .int .i64 n10, .int .i64 n11, .int .i64 n12, .int .i64 n13, .int .i64 n14, .int .i64 n15] 2)
    simpa using e
  · exact HB0.out.alloc HB0.out.size _
set_option maxRecDepth 100000 in
set_option maxHeartbeats 4000000 in
theorem default_any (w : World) :
    Calls Tryd.prog 21 #[] w fun e w' => e = .returned (.agg #[.int .i64 4, .int .i64 64, .int .i64 5, .int .i64 100, .int .i64 50, .int .i64 10, .int .i64 20, .int .i64 1000, .int .i64 2147483648, .int .i64 4294967296, .int .i64 1073741824, .int .i64 0, .int .i64 1099511627776, .int .i64 64, .int .i64 4, .int .i64 4]) ∧ Below w.heap.size w w' := by
  go_enter Tryd.func21, Tryd.ntmps21
  go_wp2_with fail
  (try simp only [Exit.inBlock, Exit.then])
  refine bodyPost_ret (results_cell_row rfl _ _ w.heap.size 24 #[.int .i64 4, .int .i64 64, .int .i64 5, .int .i64 100, .int .i64 50, .int .i64 10, .int .i64 20, .int .i64 1000, .int .i64 2147483648, .int .i64 4294967296, .int .i64 1073741824, .int .i64 0, .int .i64 1099511627776, .int .i64 64, .int .i64 4, .int .i64 4] (0, 0) _ rfl (heap_alloc_new w _) Tryd.underlying24 rfl (by kernel_rfl)) rfl ?_
  exact ⟨rfl, (Below.refl w.heap.size w).alloc (Nat.le_refl _) _⟩
/-! ### what Parse computes -/
/-- The numbers, which of them were told. -/
structure PS where
  vs : List Int
  sn : List Bool
/-- A line's step: the error, or the numbers behind it. -/
def lineStep (p : PS) (line : List UInt8) : Except Int PS :=
  if line ≠ [] ∧ line.head? ≠ some 35 then
    (if toldB line = true then
      (if p.sn.getD (toldI line).toNat false = true then .error 2 else .ok ⟨p.vs.set (toldI line).toNat (toldN (cutL line).2.1), p.sn.set (toldI line).toNat true⟩)
    else .error 9)
  else .ok p
/-- All lines of a text. -/
def linesGo : Nat → PS → List UInt8 → Except Int PS
  | 0, p, _ => .ok p
  | k + 1, p, s => match lineStep p (Lib.cut s [10]).1 with
    | .error e => .error e
    | .ok q => if (Lib.cut s [10]).2.2 = true then linesGo k q (Lib.cut s [10]).2.1 else .ok q
def defaultV : List Int := [4, 64, 5, 100, 50, 10, 20, 1000, 2147483648, 4294967296, 1073741824, 0, 1099511627776, 64, 4, 4]
def told0 : PS := ⟨defaultV, List.replicate 16 false⟩
end Go.Proofs.YteaihgjjplgalaaDoor
