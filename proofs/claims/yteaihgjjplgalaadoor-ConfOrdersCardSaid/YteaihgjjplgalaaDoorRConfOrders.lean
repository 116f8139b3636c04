/- ConfOrders over readings of its arguments. -/
import Derived.Test.YteaihgjjplgalaaDoorL1ConfOrders
import Derived.Test.YteaihgjjplgalaaDoorOpen
import Derived.Test.YteaihgjjplgalaaDoorDoorLaid
import Derived.ShutString
import Derived.OpenShut
namespace Go.Proofs.YteaihgjjplgalaaDoor
open Go.RowKit Go.Proofs.YteaihgjjplgalaaDoorW.PrintWords Go.Proofs.YteaihgjjplgalaaDoorW.PrintLast Go.Proofs.YteaihgjjplgalaaDoorW.PrintMore
set_option linter.unusedVariables false
set_option linter.unusedSimpArgs false

theorem i64_of_wf {z : Int} (h : (Lit.int .i64 z).wf = true) : I64 z := by
  have := wf_bounds h
  simpa [I64, IntKind.min, IntKind.max, IntKind.signed, IntKind.bits] using this
theorem u8_of_wf {z : Int} (h : (Lit.int .u8 z).wf = true) : 0 ≤ z ∧ z ≤ 255 := by
  have := wf_bounds h
  simpa [IntKind.min, IntKind.max, IntKind.signed, IntKind.bits] using this
open Go.ChangeShapes Go.WideShapes Go.ChangeAt in
set_option maxRecDepth 100000 in
theorem confOrders_law {H : Type} (enc : TypeId × Value → H) (W : World) (hL : LibAt W) (base : Nat) (v0 : Value) (d0 : DataW H) (p0 : List MemPlace) (o0 : Value.okWide Tryd.prog W .any base 24 v0) (h0 : DataW.Trod enc Tryd.prog W 0 (fun _ => true) true 24 v0 d0 p0)
    (v1 : Value) (d1 : DataW H) (p1 : List MemPlace) (o1 : Value.okWide Tryd.prog W .any base 25 v1) (h1 : DataW.Trod enc Tryd.prog W 0 (fun _ => true) true 25 v1 d1 p1)
    (v2 : Value) (d2 : DataW H) (p2 : List MemPlace) (o2 : Value.okWide Tryd.prog W .any base 5 v2) (h2 : DataW.Trod enc Tryd.prog W 0 (fun _ => true) true 5 v2 d2 p2)
    (v3 : Value) (d3 : DataW H) (p3 : List MemPlace) (o3 : Value.okWide Tryd.prog W .any base 4 v3) (h3 : DataW.Trod enc Tryd.prog W 0 (fun _ => true) true 4 v3 d3 p3) :
    Calls Tryd.prog 3 #[v0, v1, v2, v3] W fun e W' => e = .returned (.bool true) ∧ Below W.heap.size W W' := by
  obtain ⟨cs, rfl, hA⟩ := open_struct (ls := List.replicate 16 (.int .i64)) (n := 3) Tryd.underlying24 (by kernel_rfl) o0 h0
  obtain ⟨a, len, cap, rfl⟩ := okWide_slice Tryd.underlying25 o1
  obtain ⟨tw, rfl, -, -, hf⟩ := open_int Tryd.underlying5 o2 h2
  obtain ⟨ag, rfl, -, -⟩ := open_bool Tryd.underlying4 o3 h3
  simp only [List.replicate] at hA
  obtain ⟨_, _, rfl, ⟨c0, rfl, w_c0⟩, hA_0⟩ := All2.inv hA
  obtain ⟨_, _, rfl, ⟨c1, rfl, w_c1⟩, hA_1⟩ := All2.inv hA_0
  obtain ⟨_, _, rfl, ⟨c2, rfl, w_c2⟩, hA_2⟩ := All2.inv hA_1
  obtain ⟨_, _, rfl, ⟨c3, rfl, w_c3⟩, hA_3⟩ := All2.inv hA_2
  obtain ⟨_, _, rfl, ⟨c4, rfl, w_c4⟩, hA_4⟩ := All2.inv hA_3
  obtain ⟨_, _, rfl, ⟨c5, rfl, w_c5⟩, hA_5⟩ := All2.inv hA_4
  obtain ⟨_, _, rfl, ⟨c6, rfl, w_c6⟩, hA_6⟩ := All2.inv hA_5
  obtain ⟨_, _, rfl, ⟨c7, rfl, w_c7⟩, hA_7⟩ := All2.inv hA_6
  obtain ⟨_, _, rfl, ⟨c8, rfl, w_c8⟩, hA_8⟩ := All2.inv hA_7
  obtain ⟨_, _, rfl, ⟨c9, rfl, w_c9⟩, hA_9⟩ := All2.inv hA_8
  obtain ⟨_, _, rfl, ⟨c10, rfl, w_c10⟩, hA_10⟩ := All2.inv hA_9
  obtain ⟨_, _, rfl, ⟨c11, rfl, w_c11⟩, hA_11⟩ := All2.inv hA_10
  obtain ⟨_, _, rfl, ⟨c12, rfl, w_c12⟩, hA_12⟩ := All2.inv hA_11
  obtain ⟨_, _, rfl, ⟨c13, rfl, w_c13⟩, hA_13⟩ := All2.inv hA_12
  obtain ⟨_, _, rfl, ⟨c14, rfl, w_c14⟩, hA_14⟩ := All2.inv hA_13
  obtain ⟨_, _, rfl, ⟨c15, rfl, w_c15⟩, hA_15⟩ := All2.inv hA_14
  obtain rfl := All2.inv0 hA_15
  obtain ⟨fuel, h1⟩ := h1
  obtain ⟨g1, g2, X, hX, hL1⟩ := open_row (ls := [.int .u8]) (n := 3) Tryd.underlying25 (by kernel_rfl) (by kernel_rfl) (by decide) h1
  have hi : ∀ i, i < len → ∃ z : Int, X i = [.int .u8 z] ∧ 0 ≤ z ∧ z ≤ 255 := fun i hi => by
    have q := hL1 i hi
    generalize X i = x at q
    obtain ⟨_, _, rfl, ⟨z, rfl, w_z⟩, q_0⟩ := All2.inv q
    obtain rfl := All2.inv0 q_0
    exact ⟨z, rfl, (u8_of_wf w_z).1, (u8_of_wf w_z).2⟩
  obtain ⟨Z, hZ⟩ := Deep.choose_lt hi
  refine confOrders_any W c0 c1 c2 c3 c4 c5 c6 c7 c8 c9 c10 c11 c12 c13 c14 c15 ?_ a len cap (fun i => if i < len then Z i else 0) ?_ ?_ (by unfold maxLen at g2; omega) tw (u8_of_wf hf) ag hL
  · intro v hv
    simp only [List.mem_cons, List.not_mem_nil, or_false] at hv
    rcases hv with rfl | rfl | rfl | rfl | rfl | rfl | rfl | rfl | rfl | rfl | rfl | rfl | rfl | rfl | rfl | rfl
    · exact i64_of_wf w_c0
    · exact i64_of_wf w_c1
    · exact i64_of_wf w_c2
    · exact i64_of_wf w_c3
    · exact i64_of_wf w_c4
    · exact i64_of_wf w_c5
    · exact i64_of_wf w_c6
    · exact i64_of_wf w_c7
    · exact i64_of_wf w_c8
    · exact i64_of_wf w_c9
    · exact i64_of_wf w_c10
    · exact i64_of_wf w_c11
    · exact i64_of_wf w_c12
    · exact i64_of_wf w_c13
    · exact i64_of_wf w_c14
    · exact i64_of_wf w_c15
  · intro hp
    obtain ⟨b, off, rfl, hc⟩ := hX hp
    refine ⟨b, off, rfl, fun j hj => ?_⟩
    have h4 := (hc j hj).2 0 (by decide)
    rw [(hZ j hj).1, show [Lf.int IntKind.u8].length = 1 from rfl, Nat.mul_one, Nat.add_zero] at h4
    show _ = some (Value.int .u8 (if j < len then Z j else 0))
    rw [if_pos hj]
    exact h4
  · intro j
    show 0 ≤ (if j < len then Z j else 0) ∧ (if j < len then Z j else 0) ≤ 255
    split
    · rename_i hj; exact (hZ j hj).2
    · omega
end Go.Proofs.YteaihgjjplgalaaDoor
