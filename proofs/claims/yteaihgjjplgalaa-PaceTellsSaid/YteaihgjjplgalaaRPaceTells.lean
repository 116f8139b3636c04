/- PaceTells over readings of its arguments. -/
import Derived.Test.YteaihgjjplgalaaLPaceTells
import Derived.Test.YteaihgjjplgalaaOpen
import Derived.ShutString
import Derived.OpenShut
namespace Go.Proofs.Yteaihgjjplgalaa
open Go.RowKit Go.Proofs.YteaihgjjplgalaaW.PrintWords Go.Proofs.YteaihgjjplgalaaW.PrintLast Go.Proofs.YteaihgjjplgalaaW.PrintMore
set_option linter.unusedVariables false
set_option linter.unusedSimpArgs false

theorem C_of_row {α : Type} {d : Kd α} {W : World} {a : Option Addr} {len : Nat} {X : Nat → List Value} {Z : Nat → α} (hX : RowAt W a len d.sz X) (hZ : ∀ i, i < len → d.K W (Z i) (X i)) (hm : len ≤ 9223372036854775807) :
    ∃ l : List α, l.length = len ∧ (∀ x ∈ l, ∃ i, i < len ∧ x = Z i) ∧ d.C W a len l := by
  refine ⟨(List.range len).map Z, by simp, ?_, by simp, hm, ?_⟩
  · intro x hx
    obtain ⟨i, hi, rfl⟩ := List.mem_map.1 hx
    exact ⟨i, List.mem_range.1 hi, rfl⟩
  · intro hp
    obtain ⟨b, off, rfl, hc⟩ := hX hp
    refine ⟨⟨b, off, none⟩, rfl, fun j p hj => ?_⟩
    have hlt : j < len := by
      have := (List.getElem?_eq_some_iff.1 hj).1
      simpa using this
    have hpz : p = Z j := by
      rw [List.getElem?_map, List.getElem?_range hlt] at hj
      simpa using hj.symm
    subst hpz
    refine ⟨X j, (hc j hlt).1, hZ j hlt, fun i u hu => ?_⟩
    have hi : i < d.sz := by
      have := (List.getElem?_eq_some_iff.1 hu).1
      rw [(hc j hlt).1] at this
      exact this
    rw [show (⟨b, off, none⟩ : Addr).add (j * d.sz + i) = ⟨b, off + j * d.sz + i, none⟩ by rw [WideShapes.add_plain, Nat.add_assoc], (hc j hlt).2 i hi, hu]
theorem i64_of_wf {z : Int} (h : (Lit.int .i64 z).wf = true) : I64 z := by
  have := wf_bounds h
  simpa [I64, IntKind.min, IntKind.max, IntKind.signed, IntKind.bits] using this
instance : Inhabited PPaceTells.IT := ⟨PPaceTells.z145⟩
instance : Inhabited PPaceTells.CL := ⟨PPaceTells.z99⟩
open Go.ChangeShapes Go.WideShapes Go.ChangeAt in
set_option maxRecDepth 100000 in
theorem paceTells_law {H : Type} (enc : TypeId × Value → H) (W : World) (base : Nat) (v0 : Value) (d0 : DataW H) (p0 : List MemPlace) (o0 : Value.okWide Try.prog W .any base 88 v0) (h0 : DataW.Trod enc Try.prog W 0 (fun _ => true) true 88 v0 d0 p0)
    (v1 : Value) (d1 : DataW H) (p1 : List MemPlace) (o1 : Value.okWide Try.prog W .any base 89 v1) (h1 : DataW.Trod enc Try.prog W 0 (fun _ => true) true 89 v1 d1 p1)
    (v2 : Value) (d2 : DataW H) (p2 : List MemPlace) (o2 : Value.okWide Try.prog W .any base 3 v2) (h2 : DataW.Trod enc Try.prog W 0 (fun _ => true) true 3 v2 d2 p2)
    (v3 : Value) (d3 : DataW H) (p3 : List MemPlace) (o3 : Value.okWide Try.prog W .any base 3 v3) (h3 : DataW.Trod enc Try.prog W 0 (fun _ => true) true 3 v3 d3 p3) :
    Calls Try.prog 9 #[v0, v1, v2, v3] W fun e W' => e = .returned (.bool true) ∧ Below W.heap.size W W' := by
  obtain ⟨a, len, cap, rfl⟩ := okWide_slice Try.underlying88 o0
  obtain ⟨a', len', cap', rfl⟩ := okWide_slice Try.underlying89 o1
  obtain ⟨f, rfl, -, -, hf⟩ := open_int Try.underlying3 o2 h2
  obtain ⟨t, rfl, -, -, ht⟩ := open_int Try.underlying3 o3 h3
  obtain ⟨fuel, h0⟩ := h0
  obtain ⟨fuel', h1⟩ := h1
  obtain ⟨g1, g2, X, hX, hL⟩ := open_row (ls := [.int .u8, .int .i64, .int .i64, .int .u8, .int .i64, .int .i64, .int .i64]) (n := 4) Try.underlying88 (by kernel_rfl) (by kernel_rfl) (by decide) h0
  obtain ⟨g1', g2', X', hX', hL'⟩ := open_row (ls := [.int .i64, .int .u8, .int .i64, .int .i64, .int .i64, .int .i64, .int .i64, .int .i64, .int .i64, .int .i64, .int .u8, .int .u64, .int .i64, .int .i64, .int .i64]) (n := 4) Try.underlying89 (by kernel_rfl) (by kernel_rfl) (by decide) h1
  have hi : ∀ i, i < len → ∃ z : PPaceTells.IT, PPaceTells.k145.K W z (X i) := fun i hi => by
    have q := hL i hi
    generalize X i = x at q
    obtain ⟨_, _, rfl, ⟨z0, rfl, w_z0⟩, q_0⟩ := All2.inv q
    obtain ⟨_, _, rfl, ⟨z1, rfl, w_z1⟩, q_1⟩ := All2.inv q_0
    obtain ⟨_, _, rfl, ⟨z2, rfl, w_z2⟩, q_2⟩ := All2.inv q_1
    obtain ⟨_, _, rfl, ⟨z3, rfl, w_z3⟩, q_3⟩ := All2.inv q_2
    obtain ⟨_, _, rfl, ⟨z4, rfl, w_z4⟩, q_4⟩ := All2.inv q_3
    obtain ⟨_, _, rfl, ⟨z5, rfl, w_z5⟩, q_5⟩ := All2.inv q_4
    obtain ⟨_, _, rfl, ⟨z6, rfl, w_z6⟩, q_6⟩ := All2.inv q_5
    obtain rfl := All2.inv0 q_6
    exact ⟨⟨z0, z1, z2, ⟨z3, z4, z5, z6⟩⟩, PPaceTells.k145_mk W _⟩
  have hi' : ∀ i, i < len' → ∃ z : PPaceTells.CL, PPaceTells.k99.K W z (X' i) ∧ I64 z.f2 ∧ I64 z.f3 := fun i hi => by
    have q := hL' i hi
    generalize X' i = x at q
    obtain ⟨_, _, rfl, ⟨z0, rfl, w_z0⟩, q_0⟩ := All2.inv q
    obtain ⟨_, _, rfl, ⟨z1, rfl, w_z1⟩, q_1⟩ := All2.inv q_0
    obtain ⟨_, _, rfl, ⟨z2, rfl, w_z2⟩, q_2⟩ := All2.inv q_1
    obtain ⟨_, _, rfl, ⟨z3, rfl, w_z3⟩, q_3⟩ := All2.inv q_2
    obtain ⟨_, _, rfl, ⟨z4, rfl, w_z4⟩, q_4⟩ := All2.inv q_3
    obtain ⟨_, _, rfl, ⟨z5, rfl, w_z5⟩, q_5⟩ := All2.inv q_4
    obtain ⟨_, _, rfl, ⟨z6, rfl, w_z6⟩, q_6⟩ := All2.inv q_5
    obtain ⟨_, _, rfl, ⟨z7, rfl, w_z7⟩, q_7⟩ := All2.inv q_6
    obtain ⟨_, _, rfl, ⟨z8, rfl, w_z8⟩, q_8⟩ := All2.inv q_7
    obtain ⟨_, _, rfl, ⟨z9, rfl, w_z9⟩, q_9⟩ := All2.inv q_8
    obtain ⟨_, _, rfl, ⟨z10, rfl, w_z10⟩, q_10⟩ := All2.inv q_9
    obtain ⟨_, _, rfl, ⟨z11, rfl, w_z11⟩, q_11⟩ := All2.inv q_10
    obtain ⟨_, _, rfl, ⟨z12, rfl, w_z12⟩, q_12⟩ := All2.inv q_11
    obtain ⟨_, _, rfl, ⟨z13, rfl, w_z13⟩, q_13⟩ := All2.inv q_12
    obtain ⟨_, _, rfl, ⟨z14, rfl, w_z14⟩, q_14⟩ := All2.inv q_13
    obtain rfl := All2.inv0 q_14
    exact ⟨⟨z0, ⟨z1, z2, z3, z4⟩, z5, z6, z7, z8, z9, ⟨z10, z11, z12, z13, z14⟩⟩, PPaceTells.k99_mk W _, i64_of_wf w_z5, i64_of_wf w_z6⟩
  obtain ⟨Z, hZ⟩ := Deep.choose_lt hi
  obtain ⟨Z', hZ'⟩ := Deep.choose_lt hi'
  obtain ⟨l, rfl, -, hC⟩ := C_of_row (d := PPaceTells.k145) hX hZ (by unfold maxLen at g2; omega)
  obtain ⟨l', rfl, hm, hC'⟩ := C_of_row (d := PPaceTells.k99) hX' (fun i hi => (hZ' i hi).1) (by unfold maxLen at g2'; omega)
  exact PPaceTells.law_any a cap l a' cap' l' f t W hC g1 hC' g1' (fun c hc => by obtain ⟨i, hi, rfl⟩ := hm c hc; exact (hZ' i hi).2) (i64_of_wf hf) (i64_of_wf ht)
end Go.Proofs.Yteaihgjjplgalaa
