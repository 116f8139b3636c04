/- What a row's condition on the library's variables gives the walks; the form of such a row. -/
import Derived.Test.YteaihgjjplgalaaDoorDoorTold
import Derived.Test.YteaihgjjplgalaaDoorRows
import Derived.Shelf.Vars
import Derived.Lib.LaidTab
import Derived.LaidMore
import Derived.LaidLaws
import Derived.Handed
import Derived.OpenShut
import Derived.Stop.Joined
import Derived.SizedLaws
import Derived.ProofKit
namespace Go.Proofs.YteaihgjjplgalaaDoor
open Go.ChangeShapes Go.WideShapes Go.ChangeAt Go.RowKit
set_option linter.unusedVariables false
set_option linter.unusedSimpArgs false

theorem iface_of_trod {H : Type} {enc : TypeId × Value → H} {P : Program} {w : World} {base : Nat} {sp : Nat → Bool} {fuel : Nat} {t : TypeId} {ms : Array (String × TypeId)} {cs : List Value} {nm : String} {D : DataW H} {p : List MemPlace}
    (ht : P.underlying t = some (.interface ms)) (h : DataW.trod enc P w base sp false fuel t cs = some (.iface nm D, p)) : ∃ u v, cs = [.iface u v] := by
  cases fuel with
  | zero => simp [DataW.trod] at h
  | succ f =>
    unfold DataW.trod at h
    rw [ht] at h
    split at h <;> first | (exact ⟨_, _, rfl⟩) | simp_all
def LAID : List (String × DataW Unit) := Rows.confTextsRow.laid
set_option maxRecDepth 100000 in
theorem of_laid {W : World} (hS : W.ShapedOpen Tryd.prog) (h : laidMetH Tryd.prog LAID W) : LibAt W := by
  rw [MakeChecks.laidMetH_plain _ _ _ (by kernel_rfl)] at h
  obtain ⟨ps, ⟨g0, t0, cs0, f0, p0, q0, hg0, ht0, hv0, hd0, ⟨g1, t1, cs1, f1, p1, q1, hg1, ht1, hv1, hd1, ⟨g2, t2, cs2, f2, p2, q2, hg2, ht2, hv2, hd2, ⟨g3, t3, cs3, f3, p3, q3, hg3, ht3, hv3, hd3, ⟨g4, t4, cs4, f4, p4, q4, hg4, ht4, hv4, hd4, ⟨g5, t5, cs5, f5, p5, q5, hg5, ht5, hv5, hd5, ⟨g6, t6, cs6, f6, p6, q6, hg6, ht6, hv6, hd6, _, _⟩, _⟩, _⟩, _⟩, _⟩, _⟩, _⟩, _, _⟩ := h
  have k2 : Tryd.prog.globalNamed "internal/strconv.uint64pow10" = some 3 := by kernel_rfl
  have k3 : Tryd.prog.globalNamed "strconv.ErrRange" = some 5 := by kernel_rfl
  have k4 : Tryd.prog.globalNamed "strconv.ErrSyntax" = some 4 := by kernel_rfl
  have k6 : Tryd.prog.globalNamed "strings.asciiSpace" = some 0 := by kernel_rfl
  have y2 : (Tryd.prog.globals[3]?).map (·.type) = some 127 := by kernel_rfl
  have y3 : (Tryd.prog.globals[5]?).map (·.type) = some 77 := by kernel_rfl
  have y4 : (Tryd.prog.globals[4]?).map (·.type) = some 77 := by kernel_rfl
  have y6 : (Tryd.prog.globals[0]?).map (·.type) = some 88 := by kernel_rfl
  obtain rfl := Option.some.inj (k2.symm.trans hg2)
  obtain rfl := Option.some.inj (k3.symm.trans hg3)
  obtain rfl := Option.some.inj (k4.symm.trans hg4)
  obtain rfl := Option.some.inj (k6.symm.trans hg6)
  obtain rfl := Option.some.inj (y2.symm.trans ht2)
  obtain rfl := Option.some.inj (y3.symm.trans ht3)
  obtain rfl := Option.some.inj (y4.symm.trans ht4)
  obtain rfl := Option.some.inj (y6.symm.trans ht6)
  have c82 : Tryd.prog.cellsOf 82 = 1 := by kernel_rfl
  have c127 : Tryd.prog.cellsOf 127 = 20 := by kernel_rfl
  have c5 : Tryd.prog.cellsOf 5 = 1 := by kernel_rfl
  have c88 : Tryd.prog.cellsOf 88 = 256 := by kernel_rfl
  refine ⟨?_, ?_, ?_, ?_, ?_⟩
  · exact cell_of_shapedOpen_int (g := 2) (t := 3) (zero := #[.int .i64 0]) (k := .i64) hS (by decide +kernel) (by kernel_rfl) rfl (by kernel_rfl) (by kernel_rfl) Tryd.underlying3
  · unfold Lib.TabIs
    rw [hv2, ← Lib.cells_of_tab (zs := Lib.pow10Tab) (k := .u64) Tryd.underlying127 Tryd.underlying82 c82 c127 (show DataW.trod _ _ _ _ _ _ _ _ _ = some (Lib.tabData .u64 Lib.pow10Tab, p2) from hd2)]
  · unfold Lib.TabIs
    rw [hv6, ← Lib.cells_of_tab (zs := Lib.asciiSpaceTab) (k := .u8) Tryd.underlying88 Tryd.underlying5 c5 c88 (show DataW.trod _ _ _ _ _ _ _ _ _ = some (Lib.tabData .u8 Lib.asciiSpaceTab, p6) from hd6)]
  · obtain ⟨u, v, hc⟩ := iface_of_trod Tryd.underlying77 hd4
    have := World.var?_cell hg4 hv4 0
    rw [Array.eq_one_of_toList hc] at this
    exact ⟨u, v, by simpa using this⟩
  · obtain ⟨u, v, hc⟩ := iface_of_trod Tryd.underlying77 hd3
    have := World.var?_cell hg3 hv3 0
    rw [Array.eq_one_of_toList hc] at this
    exact ⟨u, v, by simpa using this⟩
/-- A row that lists variables, for a world of the form's shape. -/
theorem handed_laid {H : Type} {enc : TypeId × Value → H} {C : Checked} {os : Os} {f : FuncId} {fn : Func} {s : ChangeSpec} {X : World → Prop} {fresh handsOn again : Bool} (hX : ∀ w w' : World, w.heap = w'.heap → X w → X w')
    (own : ownKnob C.prog.godebug = none) (started : os.Started) (noInit : C.prog.inits.idxOf? f = none) (hfn : C.prog.funcs[f]? = some fn)
    (witness : ∃ (w : World) (tape : Tape) (i : Input), w.os = os ∧ (w.forCall tape i).Shaped C.prog ∧ i.vars = [] ∧ Input.okWide C.prog (w.forCall tape i) .any w.heap.size f i ∧ ((s.pre enc C.prog fn [] false (w.forCall tape i).memory i.args ∧ X (w.forCall tape i).memory) ∧ sizedMet enc C.prog fn (OpenSpec.ofChange s) false (w.forCall tape i).memory i.args) ∧ Assume.holds {} C.prog (lone (Frame.enter C.prog f i.args .normal) [] (w.forCall tape i)))
    (contract : ∀ (W : World) (base : Nat) (args : Array Value) (ds gs : List (DataW H)) (before : List MemPlace), (∀ (j : Nat) t v, fn.params[j]? = some t → args[j]? = some v → Value.okWide C.prog W .any base t v) → DataW.Whole enc C.prog fn.params.toList s.vars false W args.toList ds gs before → W.ShapedOpen C.prog → X W →
      Calls C.prog f args W fun e W' => ∃ v, e = .returned v ∧ s.post enc C.prog fn false fresh handsOn again W args v W') :
    ReturnsInHanded {} C os f .any (fun w args => (s.pre enc C.prog fn [] false w args ∧ X w) ∧ sizedMet enc C.prog fn (OpenSpec.ofChange s) false w args) (s.post enc C.prog fn false fresh handsOn again) := by
  refine returnsInHanded_of_calls own started noInit witness fun w tape i _ hS _ hok hpre _ => ?_
  obtain ⟨_, _, _, fn', hfn', _, _, _, _, hval⟩ := hok
  obtain rfl : fn' = fn := Option.some.inj (hfn'.symm.trans hfn)
  obtain ⟨⟨⟨ds, gs, before, hw, _⟩, hx⟩, _⟩ := hpre
  refine (contract (w.forCall tape i) w.heap.size i.args ds gs before hval (DataW.Whole.of_heap (w' := w.forCall tape i) (by rfl) hw) hS (hX _ _ (by rfl) hx)).mono fun e W' ⟨v, he, hp⟩ => ?_
  subst he
  exact ChangeSpec.post_blind hp
theorem ownKnob_is : ownKnob Tryd.prog.godebug = none := by kernel_rfl
theorem laidOut_is : laidOutB Tryd.prog = true := by kernel_rfl
/-- The door's own heap meets the condition. -/
theorem door_met (os : Os) (args : Array Value) : laidMetH Tryd.prog LAID ((World.doorLaid Tryd.prog 86 os).forCall (fun _ _ => 0) ⟨#[], args, []⟩).memory :=
  laidMetH_of_parts3 (fuel := 8) (laidMet_of_run' 8 (by kernel_rfl) (by kernel_rfl)) (by kernel_rfl) (by kernel_rfl)
end Go.Proofs.YteaihgjjplgalaaDoor
