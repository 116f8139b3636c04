/- ConfValid over readings of its argument. -/
import Derived.Test.YteaihgjjplgalaaDoorL1ConfValid
import Derived.Test.YteaihgjjplgalaaDoorOpen
import Derived.Test.YteaihgjjplgalaaDoorDoorLaid
import Derived.OpenShut
namespace Go.Proofs.YteaihgjjplgalaaDoor
open Go.RowKit Go.Proofs.YteaihgjjplgalaaDoorW.PrintWords Go.Proofs.YteaihgjjplgalaaDoorW.PrintLast Go.Proofs.YteaihgjjplgalaaDoorW.PrintMore
set_option linter.unusedVariables false
set_option linter.unusedSimpArgs false

theorem i64_of_wf {z : Int} (h : (Lit.int .i64 z).wf = true) : -9223372036854775808 ≤ z ∧ z ≤ 9223372036854775807 := by
  have := wf_bounds h
  simpa [IntKind.min, IntKind.max, IntKind.signed, IntKind.bits] using this
open Go.ChangeShapes Go.WideShapes Go.ChangeAt in
set_option maxRecDepth 100000 in
theorem confValid_law {H : Type} (enc : TypeId × Value → H) (W : World) (hL : LibAt W) (base : Nat) (v0 : Value) (d0 : DataW H) (p0 : List MemPlace) (o0 : Value.okWide Tryd.prog W .any base 24 v0) (h0 : DataW.Trod enc Tryd.prog W 0 (fun _ => true) true 24 v0 d0 p0) :
    Calls Tryd.prog 5 #[v0] W fun e W' => e = .returned (.bool true) ∧ Below W.heap.size W W' := by
  obtain ⟨cs, rfl, hA⟩ := open_struct (ls := List.replicate 16 (.int .i64)) (n := 3) Tryd.underlying24 (by kernel_rfl) o0 h0
  simp only [List.replicate] at hA
  obtain ⟨_, _, rfl, ⟨c0, rfl, w_c0⟩, hA_0⟩ := All2.inv hA
  obtain ⟨_, _, rfl, ⟨c1, rfl, w_c1⟩, hA_1⟩ := All2.inv hA_0
  obtain ⟨_, _, rfl, ⟨c2, rfl, w_c2⟩, hA_2⟩ := All2.inv hA_1
  obtain ⟨_, _, rfl, ⟨c3, rfl, w_c3⟩, hA_3⟩ := All2.inv hA_2
  obtain ⟨_, _, rfl, ⟨c4, rfl, w_c4⟩, hA_4⟩ := All2.inv hA_3
  obtain ⟨_, _, rfl, ⟨c5, rfl, w_c5⟩, hA_5⟩ := All2.inv hA_4
  obtain ⟨_, _, rfl, ⟨c6, rfl, w_c6⟩, hA_6⟩ := All2.inv hA_5
  obtain ⟨_, _, rfl, ⟨c7, rfl, w_c7⟩, hA_7⟩ := All2.inv hA_6
  obtain ⟨_, _, rfl, ⟨c8, rfl, w_c8⟩, hA_8⟩ := All2.inv hA_7
  obtain ⟨_, _, rfl, ⟨c9, rfl, w_c9⟩, hA_9⟩ := All2.inv hA_8
  obtain ⟨_, _, rfl, ⟨c10, rfl, w_c10⟩, hA_10⟩ := All2.inv hA_9
  obtain ⟨_, _, rfl, ⟨c11, rfl, w_c11⟩, hA_11⟩ := All2.inv hA_10
  obtain ⟨_, _, rfl, ⟨c12, rfl, w_c12⟩, hA_12⟩ := All2.inv hA_11
  obtain ⟨_, _, rfl, ⟨c13, rfl, w_c13⟩, hA_13⟩ := All2.inv hA_12
  obtain ⟨_, _, rfl, ⟨c14, rfl, w_c14⟩, hA_14⟩ := All2.inv hA_13
  obtain ⟨_, _, rfl, ⟨c15, rfl, w_c15⟩, hA_15⟩ := All2.inv hA_14
  obtain rfl := All2.inv0 hA_15
  refine confValid_any W c0 c1 c2 c3 c4 c5 c6 c7 c8 c9 c10 c11 c12 c13 c14 c15 ?_ hL
  intro v hv
  simp only [List.mem_cons, List.not_mem_nil, or_false] at hv
  rcases hv with rfl | rfl | rfl | rfl | rfl | rfl | rfl | rfl | rfl | rfl | rfl | rfl | rfl | rfl | rfl | rfl
  · exact i64_of_wf w_c0
  · exact i64_of_wf w_c1
  · exact i64_of_wf w_c2
  · exact i64_of_wf w_c3
  · exact i64_of_wf w_c4
  · exact i64_of_wf w_c5
  · exact i64_of_wf w_c6
  · exact i64_of_wf w_c7
  · exact i64_of_wf w_c8
  · exact i64_of_wf w_c9
  · exact i64_of_wf w_c10
  · exact i64_of_wf w_c11
  · exact i64_of_wf w_c12
  · exact i64_of_wf w_c13
  · exact i64_of_wf w_c14
  · exact i64_of_wf w_c15
end Go.Proofs.YteaihgjjplgalaaDoor
