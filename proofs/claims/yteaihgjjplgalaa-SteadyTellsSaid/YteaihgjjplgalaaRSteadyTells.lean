/- SteadyTells over readings of its arguments. -/
import Derived.Test.YteaihgjjplgalaaLSteadyTells
import Derived.Test.YteaihgjjplgalaaOpen
import Derived.ShutString
import Derived.OpenShut
namespace Go.Proofs.Yteaihgjjplgalaa
open Go.RowKit Go.Proofs.YteaihgjjplgalaaW.PrintWords Go.Proofs.YteaihgjjplgalaaW.PrintLast Go.Proofs.YteaihgjjplgalaaW.PrintMore
set_option linter.unusedVariables false
set_option linter.unusedSimpArgs false

theorem C_of_row {α : Type} {d : Kd α} {W : World} {a : Option Addr} {len : Nat} {X : Nat → List Value} {Z : Nat → α} (hX : RowAt W a len d.sz X) (hZ : ∀ i, i < len → d.K W (Z i) (X i)) (hm : len ≤ 9223372036854775807) :
    ∃ l : List α, l.length = len ∧ (∀ x ∈ l, ∃ i, i < len ∧ x = Z i) ∧ d.C W a len l := by
  refine ⟨(List.range len).map Z, by simp, ?_, by simp, hm, ?_⟩
  · intro x hx
    obtain ⟨i, hi, rfl⟩ := List.mem_map.1 hx
    exact ⟨i, List.mem_range.1 hi, rfl⟩
  · intro hp
    obtain ⟨b, off, rfl, hc⟩ := hX hp
    refine ⟨⟨b, off, none⟩, rfl, fun j p hj => ?_⟩
    have hlt : j < len := by
      have := (List.getElem?_eq_some_iff.1 hj).1
      simpa using this
    have hpz : p = Z j := by
      rw [List.getElem?_map, List.getElem?_range hlt] at hj
      simpa using hj.symm
    subst hpz
    refine ⟨X j, (hc j hlt).1, hZ j hlt, fun i u hu => ?_⟩
    have hi : i < d.sz := by
      have := (List.getElem?_eq_some_iff.1 hu).1
      rw [(hc j hlt).1] at this
      exact this
    rw [show (⟨b, off, none⟩ : Addr).add (j * d.sz + i) = ⟨b, off + j * d.sz + i, none⟩ by rw [WideShapes.add_plain, Nat.add_assoc], (hc j hlt).2 i hi, hu]
theorem i64_of_wf {z : Int} (h : (Lit.int .i64 z).wf = true) : I64 z := by
  have := wf_bounds h
  simpa [I64, IntKind.min, IntKind.max, IntKind.signed, IntKind.bits] using this
theorem u8_of_wf {z : Int} (h : (Lit.int .u8 z).wf = true) : 0 ≤ z ∧ z ≤ 255 := by
  have := wf_bounds h
  simpa [IntKind.min, IntKind.max, IntKind.signed, IntKind.bits] using this
instance : Inhabited PSteadyTells.CT := ⟨PSteadyTells.z82⟩
open Go.ChangeShapes Go.WideShapes Go.ChangeAt in
set_option maxRecDepth 100000 in
theorem steadyTells_law {H : Type} (enc : TypeId × Value → H) (W : World) (base : Nat) (v0 : Value) (d0 : DataW H) (p0 : List MemPlace) (o0 : Value.okWide Try.prog W .any base 79 v0) (h0 : DataW.Trod enc Try.prog W 0 (fun _ => true) true 79 v0 d0 p0)
    (v1 : Value) (d1 : DataW H) (p1 : List MemPlace) (o1 : Value.okWide Try.prog W .any base 80 v1) (h1 : DataW.Trod enc Try.prog W 0 (fun _ => true) true 80 v1 d1 p1)
    (v2 : Value) (d2 : DataW H) (p2 : List MemPlace) (o2 : Value.okWide Try.prog W .any base 2 v2) (h2 : DataW.Trod enc Try.prog W 0 (fun _ => true) true 2 v2 d2 p2) :
    Calls Try.prog 10 #[v0, v1, v2] W fun e W' => e = .returned (.bool true) ∧ Below W.heap.size W W' := by
  obtain ⟨cs, rfl, hA⟩ := open_struct (ls := List.replicate 16 (.int .i64)) (n := 3) Try.underlying79 (by kernel_rfl) o0 h0
  obtain ⟨a, len, cap, rfl⟩ := okWide_slice Try.underlying80 o1
  obtain ⟨f, rfl, -, -, hf⟩ := open_int Try.underlying2 o2 h2
  simp only [List.replicate] at hA
  obtain ⟨_, _, rfl, ⟨c0, rfl, w_c0⟩, hA_0⟩ := All2.inv hA
  obtain ⟨_, _, rfl, ⟨c1, rfl, w_c1⟩, hA_1⟩ := All2.inv hA_0
  obtain ⟨_, _, rfl, ⟨c2, rfl, w_c2⟩, hA_2⟩ := All2.inv hA_1
  obtain ⟨_, _, rfl, ⟨c3, rfl, w_c3⟩, hA_3⟩ := All2.inv hA_2
  obtain ⟨_, _, rfl, ⟨c4, rfl, w_c4⟩, hA_4⟩ := All2.inv hA_3
  obtain ⟨_, _, rfl, ⟨c5, rfl, w_c5⟩, hA_5⟩ := All2.inv hA_4
  obtain ⟨_, _, rfl, ⟨c6, rfl, w_c6⟩, hA_6⟩ := All2.inv hA_5
  obtain ⟨_, _, rfl, ⟨c7, rfl, w_c7⟩, hA_7⟩ := All2.inv hA_6
  obtain ⟨_, _, rfl, ⟨c8, rfl, w_c8⟩, hA_8⟩ := All2.inv hA_7
  obtain ⟨_, _, rfl, ⟨c9, rfl, w_c9⟩, hA_9⟩ := All2.inv hA_8
  obtain ⟨_, _, rfl, ⟨c10, rfl, w_c10⟩, hA_10⟩ := All2.inv hA_9
  obtain ⟨_, _, rfl, ⟨c11, rfl, w_c11⟩, hA_11⟩ := All2.inv hA_10
  obtain ⟨_, _, rfl, ⟨c12, rfl, w_c12⟩, hA_12⟩ := All2.inv hA_11
  obtain ⟨_, _, rfl, ⟨c13, rfl, w_c13⟩, hA_13⟩ := All2.inv hA_12
  obtain ⟨_, _, rfl, ⟨c14, rfl, w_c14⟩, hA_14⟩ := All2.inv hA_13
  obtain ⟨_, _, rfl, ⟨c15, rfl, w_c15⟩, hA_15⟩ := All2.inv hA_14
  obtain rfl := All2.inv0 hA_15
  obtain ⟨fuel, h1⟩ := h1
  obtain ⟨g1, g2, X, hX, hL⟩ := open_row (ls := [.int .i64, .int .u8, .int .i64, .int .i64, .int .i64]) (n := 3) Try.underlying80 (by kernel_rfl) (by kernel_rfl) (by decide) h1
  have hi : ∀ i, i < len → ∃ z : PSteadyTells.CT, PSteadyTells.k82.K W z (X i) ∧ I64 z.f0 ∧ (0 ≤ z.f1.f0 ∧ z.f1.f0 ≤ 255) ∧ I64 z.f1.f3 := fun i hi => by
    have q := hL i hi
    generalize X i = x at q
    obtain ⟨_, _, rfl, ⟨d, rfl, w_d⟩, q_0⟩ := All2.inv q
    obtain ⟨_, _, rfl, ⟨k, rfl, w_k⟩, q_1⟩ := All2.inv q_0
    obtain ⟨_, _, rfl, ⟨t, rfl, w_t⟩, q_2⟩ := All2.inv q_1
    obtain ⟨_, _, rfl, ⟨c, rfl, w_c⟩, q_3⟩ := All2.inv q_2
    obtain ⟨_, _, rfl, ⟨n, rfl, w_n⟩, q_4⟩ := All2.inv q_3
    obtain rfl := All2.inv0 q_4
    exact ⟨⟨d, ⟨k, t, c, n⟩⟩, PSteadyTells.k82_mk W _, i64_of_wf w_d, u8_of_wf w_k, i64_of_wf w_n⟩
  obtain ⟨Z, hZ⟩ := Deep.choose_lt hi
  obtain ⟨l, rfl, hm, hC⟩ := C_of_row (d := PSteadyTells.k82) hX (fun i hi => (hZ i hi).1) (by unfold maxLen at g2; omega)
  exact PSteadyTells.law_any c0 c1 c2 c3 c4 c5 c6 c7 c8 c9 c10 c11 c12 c13 c14 c15 ⟨i64_of_wf w_c0, i64_of_wf w_c1, i64_of_wf w_c2, i64_of_wf w_c3, i64_of_wf w_c4, i64_of_wf w_c5, i64_of_wf w_c6, i64_of_wf w_c7, i64_of_wf w_c8, i64_of_wf w_c9, i64_of_wf w_c10, i64_of_wf w_c11, i64_of_wf w_c12, i64_of_wf w_c13, i64_of_wf w_c14, i64_of_wf w_c15⟩
    a cap l f (i64_of_wf hf) W hC g1 (fun c hc => by obtain ⟨i, hi, rfl⟩ := hm c hc; exact (hZ i hi).2)
end Go.Proofs.Yteaihgjjplgalaa
