/- Small laws on worlds, blocks and footprints that all walks of this seat use; plain facts, no program in sight. -/
import Derived.WalkKit
import Derived.WalkSpells
import Derived.WalkLawsBesides
import Derived.Lib.Hide
import Derived.Deep.QuietTactic
import Derived.BigQuiet
namespace Go.Proofs.YteaihgjjplgalaaDoor
open Go.RowKit
set_option linter.unusedVariables false
set_option linter.unusedSimpArgs false

/-- Below S nothing that was there has turned; new blocks may have come. -/
structure Upd (S : Nat → Prop) (w w' : World) : Prop where
  os : w'.os = w.os
  tape : w'.tape = w.tape
  output : w'.output = w.output
  size : w.heap.size ≤ w'.heap.size
  block : ∀ k, k < w.heap.size → ¬ S k → w'.heap[k]? = w.heap[k]?

theorem Upd.refl (S : Nat → Prop) (w : World) : Upd S w w := ⟨rfl, rfl, rfl, Nat.le_refl _, fun _ _ _ => rfl⟩
theorem Upd.trans {S : Nat → Prop} {a b c : World} (h : Upd S a b) (k : Upd S b c) : Upd S a c :=
  ⟨k.os.trans h.os, k.tape.trans h.tape, k.output.trans h.output, Nat.le_trans h.size k.size, fun i hi hs => (k.block i (Nat.lt_of_lt_of_le hi h.size) hs).trans (h.block i hi hs)⟩
theorem Upd.alloc {S : Nat → Prop} {a b : World} (h : Upd S a b) (o : Obj) : Upd S a (b.alloc o) :=
  ⟨h.os, h.tape, h.output, by have := h.size; simp; omega, fun i hi hs => by rw [Below.heap_alloc b o i (Nat.lt_of_lt_of_le hi h.size)]; exact h.block i hi hs⟩
theorem Upd.drew {S : Nat → Prop} {a b : World} (h : Upd S a b) : Upd S a b.drew := ⟨h.os, h.tape, h.output, h.size, h.block⟩
theorem Upd.drewN {S : Nat → Prop} {a b : World} (h : Upd S a b) (n : Nat) : Upd S a (b.drewN n) := ⟨h.os, h.tape, h.output, h.size, h.block⟩
theorem Upd.of_drew {S : Nat → Prop} {a b : World} (h : Upd S a.drew b) : Upd S a b := ⟨h.os, h.tape, h.output, h.size, h.block⟩
theorem Upd.of_drewN {S : Nat → Prop} {a b : World} {n : Nat} (h : Upd S (a.drewN n) b) : Upd S a b := ⟨h.os, h.tape, h.output, h.size, h.block⟩
theorem Upd.setCell {S : Nat → Prop} {a b : World} (h : Upd S a b) (p : Addr) (v : Value) (hp : S p.block ∨ a.heap.size ≤ p.block) : Upd S a (b.setCell p v) :=
  ⟨h.os, h.tape, h.output, by have := h.size; simp [World.setCell]; omega, fun i hi hs => by
    rw [Below.heap_setCell b p v i (fun e => by subst e; rcases hp with hp | hp; exact hs hp; omega)]; exact h.block i hi hs⟩
theorem Upd.mono {S S' : Nat → Prop} {a b : World} (h : Upd S a b) (hs : ∀ k, k < a.heap.size → S k → S' k) : Upd S' a b :=
  ⟨h.os, h.tape, h.output, h.size, fun i hi hn => h.block i hi (fun e => hn (hs i hi e))⟩
/-- Behind a world that has grown, a step that turns what lies beyond the first one's end turns nothing of the first one's. -/
theorem Upd.then {S S' : Nat → Prop} {a b c : World} (h : Upd S a b) (k : Upd S' b c) (hs : ∀ i, i < a.heap.size → S' i → S i) : Upd S a c :=
  ⟨k.os.trans h.os, k.tape.trans h.tape, k.output.trans h.output, Nat.le_trans h.size k.size, fun i hi hn => (k.block i (Nat.lt_of_lt_of_le hi h.size) (fun e => hn (hs i hi e))).trans (h.block i hi hn)⟩
theorem Upd.below {S : Nat → Prop} {a b : World} (h : Upd S a b) (hs : ∀ k, k < a.heap.size → ¬ S k) : Below a.heap.size a b :=
  ⟨h.os, h.tape, h.output, h.size, fun i hi => h.block i hi (hs i hi)⟩
theorem Upd.of_below {S : Nat → Prop} {a b : World} (h : Below a.heap.size a b) : Upd S a b := ⟨h.os, h.tape, h.output, h.size, fun i hi _ => h.block i hi⟩

/-- What lies at a block. -/
def hp (w : World) (b : Nat) : Option Obj := w.heap[b]?
def Obj.put (i : Nat) (v : Value) : Obj → Obj
  | .cells c e fr => .cells (c.setIfInBounds i v) e fr
  | o => o
theorem Obj.put_cells (i : Nat) (v : Value) (c : Array Value) (e : TypeId) (fr : Nat × Nat) : Obj.put i v (.cells c e fr) = .cells (c.setIfInBounds i v) e fr := rfl
theorem hp_same (w : World) (b i : Nat) (v : Value) : hp (w.setCell ⟨b, i, none⟩ v) b = (hp w b).map (Obj.put i v) := by
  show (w.heap.modify b _)[b]? = (w.heap[b]?).map _
  by_cases hlt : b < w.heap.size
  · rw [Array.getElem?_eq_getElem (by rw [Array.size_modify]; exact hlt), Array.getElem_modify_self, Array.getElem?_eq_getElem hlt]
    cases w.heap[b] <;> rfl
  · rw [Array.getElem?_eq_none (by rw [Array.size_modify]; omega), Array.getElem?_eq_none (by omega)]; rfl
theorem hp_ne (w : World) (b : Nat) (p : Addr) (v : Value) (h : ¬ b = p.block) : hp (w.setCell p v) b = hp w b := Below.heap_setCell w p v b h
theorem hp_alloc (w : World) (b : Nat) (o : Obj) (h : b < w.heap.size) : hp (w.alloc o) b = hp w b := Below.heap_alloc w o b h
theorem hp_new (w : World) (o : Obj) : hp (w.alloc o) w.heap.size = some o := by
  show (w.heap.push _)[w.heap.size]? = _
  simp
theorem hp_new' (w : World) (o : Obj) (n : Nat) (h : n = w.heap.size) : hp (w.alloc o) n = some o := by subst h; exact hp_new w o
theorem hp_drew (w : World) (b : Nat) : hp w.drew b = hp w b := rfl
theorem hp_drewN (w : World) (n b : Nat) : hp (w.drewN n) b = hp w b := rfl
theorem sz_setCell (w : World) (p : Addr) (v : Value) : (w.setCell p v).heap.size = w.heap.size := by simp [World.setCell]
theorem sz_alloc (w : World) (o : Obj) : (w.alloc o).heap.size = w.heap.size + 1 := by simp
theorem sz_drew (w : World) : w.drew.heap.size = w.heap.size := rfl
theorem sz_drewN (w : World) (n : Nat) : (w.drewN n).heap.size = w.heap.size := rfl

def Blk (w : World) (b : Nat) (cs : Array Value) (T : TypeId) : Prop := hp w b = some (.cells cs T (0, 0))
theorem Blk.lt {w : World} {b : Nat} {cs : Array Value} {T : TypeId} (h : Blk w b cs T) : b < w.heap.size := (Array.getElem?_eq_some_iff.1 h).1
theorem Blk.upd {S : Nat → Prop} {w w' : World} {b : Nat} {cs : Array Value} {T : TypeId} (h : Blk w b cs T) (u : Upd S w w') (hs : ¬ S b) : Blk w' b cs T := (u.block b h.lt hs).trans h
theorem Blk.cell {w : World} {b : Nat} {cs : Array Value} {T : TypeId} (h : Blk w b cs T) (i : Nat) : w.cell? ⟨b, i, none⟩ = cs[i]? := by
  unfold Blk hp at h; simp [World.cell?, h]
theorem Blk.frozen {w : World} {b : Nat} {cs : Array Value} {T : TypeId} (h : Blk w b cs T) (i : Nat) : w.frozen? ⟨b, i, none⟩ = false := by
  unfold Blk hp at h; simp [World.frozen?, h]
theorem Blk.new (w : World) (cs : Array Value) (T : TypeId) : Blk (w.alloc (.cells cs T (0, 0))) w.heap.size cs T := hp_new w _

theorem Calls.quiet_rev {P : Program} {f : FuncId} {args : Array Value} {w : World} {n : Nat} {v : Value}
    (h : Calls P f args (w.drewN n) fun e w' => e = .returned v ∧ w.drewN n = w') : Calls P f args (w.drewN n) fun e w'' => e = .returned v ∧ ∃ m, w'' = w.drewN m :=
  h.mono fun _ _ ⟨he, hm⟩ => ⟨he, n, hm.symm⟩
/-- A number of 64 bits with a sign. -/
def I64 (x : Int) : Prop := -9223372036854775808 ≤ x ∧ x ≤ 9223372036854775807
theorem ret_int {k : IntKind} {a b : Int} (h : a = b) : Ending.returned (.int k a) = .returned (.int k b) := by rw [h]
end Go.Proofs.YteaihgjjplgalaaDoor
