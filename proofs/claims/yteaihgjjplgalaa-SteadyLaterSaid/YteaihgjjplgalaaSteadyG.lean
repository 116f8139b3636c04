/- SteadyLater: the law, out of the walk. -/
import Derived.Test.YteaihgjjplgalaaSteadyF
import Derived.Test.YteaihgjjplgalaaOpen
namespace Go.Proofs.Yteaihgjjplgalaa
open Go.RowKit
set_option linter.unusedVariables false
set_option linter.unusedSimpArgs false

theorem i64_of_wf {z : Int} (h : (Lit.int .i64 z).wf = true) : I64 z := by
  have := wf_bounds h
  simpa [I64, IntKind.min, IntKind.max, IntKind.signed, IntKind.bits] using this
theorem u8_of_wf {z : Int} (h : (Lit.int .u8 z).wf = true) : 0 ≤ z ∧ z ≤ 255 := by
  have := wf_bounds h
  simpa [IntKind.min, IntKind.max, IntKind.signed, IntKind.bits] using this

instance : Inhabited CallD := ⟨⟨0, 0, 0, 0, 0, i64_0, by omega, i64_0⟩⟩
open Go.ChangeShapes Go.WideShapes Go.ChangeAt in
set_option maxRecDepth 100000 in
theorem steadyLater_law {H : Type} (enc : TypeId × Value → H) (W : World) (base : Nat) (v0 : Value) (d0 : DataW H) (p0 : List MemPlace) (o0 : Value.okWide Try.prog W .any base 79 v0) (h0 : DataW.Trod enc Try.prog W 0 (fun _ => true) true 79 v0 d0 p0)
    (v1 : Value) (d1 : DataW H) (p1 : List MemPlace) (o1 : Value.okWide Try.prog W .any base 80 v1) (h1 : DataW.Trod enc Try.prog W 0 (fun _ => true) true 80 v1 d1 p1)
    (v2 : Value) (d2 : DataW H) (p2 : List MemPlace) (o2 : Value.okWide Try.prog W .any base 2 v2) (h2 : DataW.Trod enc Try.prog W 0 (fun _ => true) true 2 v2 d2 p2)
    (v3 : Value) (d3 : DataW H) (p3 : List MemPlace) (o3 : Value.okWide Try.prog W .any base 2 v3) (h3 : DataW.Trod enc Try.prog W 0 (fun _ => true) true 2 v3 d3 p3)
    (v4 : Value) (d4 : DataW H) (p4 : List MemPlace) (o4 : Value.okWide Try.prog W .any base 5 v4) (h4 : DataW.Trod enc Try.prog W 0 (fun _ => true) true 5 v4 d4 p4) :
    Calls Try.prog 7 #[v0, v1, v2, v3, v4] W fun e W' => e = .returned (.bool true) ∧ Below W.heap.size W W' := by
  obtain ⟨cs, rfl, hA⟩ := open_struct (ls := List.replicate 16 (.int .i64)) (n := 3) Try.underlying79 (by kernel_rfl) o0 h0
  have hcs : cs.toArray.size = 16 := by have := hA.len; simpa using this.symm
  obtain ⟨a, len, cap, rfl⟩ := okWide_slice Try.underlying80 o1
  obtain ⟨f, rfl, -, -, hf⟩ := open_int Try.underlying2 o2 h2
  obtain ⟨l, rfl, -, -, hl⟩ := open_int Try.underlying2 o3 h3
  obtain ⟨p, rfl, -, -, hp⟩ := open_int Try.underlying5 o4 h4
  obtain ⟨fuel, h1⟩ := h1
  obtain ⟨g1, g2, X, hX, hL⟩ := open_row (ls := [.int .i64, .int .u8, .int .i64, .int .i64, .int .i64]) (n := 3) Try.underlying80 (by kernel_rfl) (by kernel_rfl) (by decide) h1
  have hi : ∀ i, i < len → ∃ z : CallD, X i = z.cells := fun i hi => by
    have q := hL i hi
    generalize X i = x at q
    obtain ⟨_, _, rfl, ⟨d, rfl, w_d⟩, q_0⟩ := All2.inv q
    obtain ⟨_, _, rfl, ⟨k, rfl, w_k⟩, q_1⟩ := All2.inv q_0
    obtain ⟨_, _, rfl, ⟨t, rfl, w_t⟩, q_2⟩ := All2.inv q_1
    obtain ⟨_, _, rfl, ⟨c, rfl, w_c⟩, q_3⟩ := All2.inv q_2
    obtain ⟨_, _, rfl, ⟨n, rfl, w_n⟩, q_4⟩ := All2.inv q_3
    obtain rfl := All2.inv0 q_4
    exact ⟨⟨d, k, t, c, n, i64_of_wf w_d, u8_of_wf w_k, i64_of_wf w_n⟩, rfl⟩
  obtain ⟨Z, hZ⟩ := Deep.choose_lt hi
  refine (steadyLater_walk cs.toArray hcs a len cap Z f l p W g1 (i64_of_wf hf) (i64_of_wf hl) (u8_of_wf hp) g2 ?_).mono fun e W' ⟨he, hu⟩ => ⟨he, hu.below (fun _ _ h => h)⟩
  intro hp
  obtain ⟨b, off, ha, hc⟩ := hX hp
  refine ⟨b, off, ha, fun i hi j hj => ?_⟩
  have := (hc i hi).2 j (by simpa using hj)
  rw [(hZ i hi)] at this
  simpa using this
end Go.Proofs.Yteaihgjjplgalaa
