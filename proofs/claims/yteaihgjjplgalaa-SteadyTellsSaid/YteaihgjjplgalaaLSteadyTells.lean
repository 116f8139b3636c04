/- The walk of SteadyTells. -/
import Derived.Test.YteaihgjjplgalaaL1SteadyTells
import Derived.Test.YteaihgjjplgalaaL2SteadyTells
namespace Go.Proofs.Yteaihgjjplgalaa.PSteadyTells
open Go.RowKit Go.Proofs.YteaihgjjplgalaaW.PrintWords Go.Proofs.YteaihgjjplgalaaW.PrintLast Go.Proofs.YteaihgjjplgalaaW.PrintMore
open Go.Proofs.Yteaihgjjplgalaa.Rd
attribute [local go_sem] max2_int min2_int max_two min_two max_three min_three max_four min_four
set_option linter.unusedVariables false
set_option linter.unusedSimpArgs false

theorem law_any (b0 b1 b2 b3 b4 b5 b6 b7 b8 b9 b10 b11 b12 b13 b14 b15 : Int) (hc : I64 b0 ∧ I64 b1 ∧ I64 b2 ∧ I64 b3 ∧ I64 b4 ∧ I64 b5 ∧ I64 b6 ∧ I64 b7 ∧ I64 b8 ∧ I64 b9 ∧ I64 b10 ∧ I64 b11 ∧ I64 b12 ∧ I64 b13 ∧ I64 b14 ∧ I64 b15)
    (A1 : Option Addr) (c1 : Nat) (l1 : List CT) (fr : Int) (hf : I64 fr) (w : World) (hr1 : Kd.C k82 w A1 l1.length l1) (hc1 : l1.length ≤ c1) (hI : ∀ c ∈ l1, I64 c.f0 ∧ (0 ≤ c.f1.f0 ∧ c.f1.f0 ≤ 255) ∧ I64 c.f1.f3) :
    Calls Try.prog 10 #[.agg #[.int .i64 b0, .int .i64 b1, .int .i64 b2, .int .i64 b3, .int .i64 b4, .int .i64 b5, .int .i64 b6, .int .i64 b7, .int .i64 b8, .int .i64 b9, .int .i64 b10, .int .i64 b11, .int .i64 b12, .int .i64 b13, .int .i64 b14, .int .i64 b15], .slice A1 l1.length c1, .int .i64 fr] w fun e w' => e = .returned (.bool true) ∧ Below w.heap.size w w' := by
  rcases valid_ex b0 b1 b2 b3 b4 b5 b6 b7 b8 b9 b10 b11 b12 b13 b14 b15 hc with h | ⟨h, h0, h1⟩
  · exact law_not b0 b1 b2 b3 b4 b5 b6 b7 b8 b9 b10 b11 b12 b13 b14 b15 h A1 c1 l1 fr w
  · exact law_ok b0 b1 b2 b3 b4 b5 b6 b7 b8 b9 b10 b11 b12 b13 b14 b15 hc h h0 h1 A1 c1 l1 fr hf w hr1 hc1 hI
end Go.Proofs.Yteaihgjjplgalaa.PSteadyTells
