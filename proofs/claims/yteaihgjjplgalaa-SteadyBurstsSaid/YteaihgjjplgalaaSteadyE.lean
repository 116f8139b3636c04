/- SteadyBursts: the law, out of the walk. -/
import Derived.Test.YteaihgjjplgalaaSteadyD
import Derived.Test.YteaihgjjplgalaaOpen
namespace Go.Proofs.Yteaihgjjplgalaa
open Go.RowKit
set_option linter.unusedVariables false
set_option linter.unusedSimpArgs false

open Go.ChangeShapes Go.WideShapes Go.ChangeAt in
set_option maxRecDepth 100000 in
theorem steadyBursts_law {H : Type} (enc : TypeId × Value → H) (W : World) (base : Nat) (v0 : Value) (d0 : DataW H) (p0 : List MemPlace) (o0 : Value.okWide Try.prog W .any base 65 v0) (h0 : DataW.Trod enc Try.prog W 0 (fun _ => true) true 65 v0 d0 p0)
    (v1 : Value) (d1 : DataW H) (p1 : List MemPlace) (o1 : Value.okWide Try.prog W .any base 5 v1) (h1 : DataW.Trod enc Try.prog W 0 (fun _ => true) true 5 v1 d1 p1)
    (v2 : Value) (d2 : DataW H) (p2 : List MemPlace) (o2 : Value.okWide Try.prog W .any base 5 v2) (h2 : DataW.Trod enc Try.prog W 0 (fun _ => true) true 5 v2 d2 p2) :
    Calls Try.prog 6 #[v0, v1, v2] W fun e W' => e = .returned (.bool true) ∧ Below W.heap.size W W' := by
  obtain ⟨a, len, cap, rfl⟩ := okWide_slice Try.underlying65 o0
  obtain ⟨f, rfl, -, -, hf⟩ := open_int Try.underlying5 o1 h1
  obtain ⟨t, rfl, -, -, ht⟩ := open_int Try.underlying5 o2 h2
  obtain ⟨fuel, h0⟩ := h0
  obtain ⟨h1, h2, X, hX, hL⟩ := open_row (ls := [.bool]) (n := 1) Try.underlying65 (by kernel_rfl) (by kernel_rfl) (by decide) h0
  have hi : ∀ i, i < len → ∃ z : Bool, X i = [.bool z] := fun i hi => by
    have := hL i hi
    generalize X i = x at this
    cases this with
    | cons h t =>
      cases t
      obtain ⟨z, rfl⟩ := h
      exact ⟨z, rfl⟩
  obtain ⟨Z, hZ⟩ := Deep.choose_lt hi
  have f1 := wf_bounds hf
  have t1 := wf_bounds ht
  refine (steadyBursts_walk a len cap Z f t W h1 (by simpa [IntKind.min, IntKind.max, IntKind.signed, IntKind.bits] using f1) (by simpa [IntKind.min, IntKind.max, IntKind.signed, IntKind.bits] using t1) h2 ?_).mono fun e W' ⟨he, hu⟩ => ⟨he, hu.below (fun _ _ h => h)⟩
  intro hp
  obtain ⟨b, off, ha, hc⟩ := hX hp
  refine ⟨b, off, ha, fun i hi => ?_⟩
  have := (hc i hi).2 0 (by decide)
  rw [(hZ i hi)] at this
  simpa using this
end Go.Proofs.Yteaihgjjplgalaa
