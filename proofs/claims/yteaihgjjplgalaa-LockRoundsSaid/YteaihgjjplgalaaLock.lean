/- What the calls of package lock and of its reference do to memory: contracts, walked. -/
import Derived.Test.YteaihgjjplgalaaRows
import Derived.Test.YteaihgjjplgalaaBase
namespace Go.Proofs.Yteaihgjjplgalaa
open Go.RowKit
set_option linter.unusedVariables false
set_option linter.unusedSimpArgs false

theorem cas_hit (b off : Nat) (x y : Int) (w : World) (hc : w.cell? ⟨b, off, none⟩ = some (.int .i64 x)) (hf : w.frozen? ⟨b, off, none⟩ = false) :
    Calls Try.prog 53 #[.pointer (some ⟨b, off, none⟩), .int .i64 x, .int .i64 y] w fun e w' => e = .returned (.bool true) ∧ w' = w.setCell ⟨b, off, none⟩ (.int .i64 y) := by
  have hcas := run_call_cas_hit (P := Try.prog) Try.func76 (by kernel_rfl) (by kernel_rfl) (by kernel_rfl) .i64 (by kernel_rfl) (y := y) hc hf
  go_enter Try.func53, Try.ntmps53
  go_wp2
  go_ret
  exact ⟨rfl, rfl⟩
theorem cas_miss (b off : Nat) (x o y : Int) (w : World) (hc : w.cell? ⟨b, off, none⟩ = some (.int .i64 x)) (hf : w.frozen? ⟨b, off, none⟩ = false) (hne : ¬ x = o) :
    Calls Try.prog 53 #[.pointer (some ⟨b, off, none⟩), .int .i64 o, .int .i64 y] w fun e w' => e = .returned (.bool false) ∧ w = w' := by
  have hcas := run_call_cas_miss (P := Try.prog) Try.func76 (by kernel_rfl) (by kernel_rfl) (by kernel_rfl) .i64 (by kernel_rfl) (y := y) hc hf hne
  go_enter Try.func53, Try.ntmps53
  go_wp2
  go_ret
  exact ⟨rfl, rfl⟩
theorem load64 (b off : Nat) (x : Int) (w : World) (hc : w.cell? ⟨b, off, none⟩ = some (.int .i64 x)) :
    Calls Try.prog 54 #[.pointer (some ⟨b, off, none⟩)] w fun e w' => e = .returned (.int .i64 x) ∧ w = w' := by
  have hcas := run_call_load (P := Try.prog) Try.func77 (by kernel_rfl) (by kernel_rfl) (by kernel_rfl) .i64 (by kernel_rfl) hc
  go_enter Try.func54, Try.ntmps54
  go_wp2
  go_ret
  exact ⟨rfl, rfl⟩
theorem load32 (b off : Nat) (x : Int) (w : World) (hc : w.cell? ⟨b, off, none⟩ = some (.int .i32 x)) :
    Calls Try.prog 55 #[.pointer (some ⟨b, off, none⟩)] w fun e w' => e = .returned (.int .i32 x) ∧ w = w' := by
  have hcas := run_call_load (P := Try.prog) Try.func78 (by kernel_rfl) (by kernel_rfl) (by kernel_rfl) .i32 (by kernel_rfl) hc
  go_enter Try.func55, Try.ntmps55
  go_wp2
  go_ret
  exact ⟨rfl, rfl⟩
theorem store32 (b off : Nat) (x y : Int) (w : World) (hc : w.cell? ⟨b, off, none⟩ = some (.int .i32 x)) (hf : w.frozen? ⟨b, off, none⟩ = false) :
    Calls Try.prog 56 #[.pointer (some ⟨b, off, none⟩), .int .i32 y] w fun e w' => e = .returned (.tuple #[]) ∧ w' = w.setCell ⟨b, off, none⟩ (.int .i32 y) := by
  have hcas := run_call_store (P := Try.prog) Try.func79 (by kernel_rfl) (by kernel_rfl) (by kernel_rfl) (by kernel_rfl) (k := .i32) (y := y) hc hf
  go_enter Try.func56, Try.ntmps56
  go_wp2
  go_end0
  exact ⟨rfl, rfl⟩

/-! ### Locks -/
theorem newlock (w : World) :
    Calls Try.prog 12 #[] w fun e w' => e = .returned (.pointer (some ⟨w.heap.size, 0, none⟩)) ∧ w' = w.alloc (.cells #[.int .i64 0] 123) := by
  go_enter Try.func12, Try.ntmps12
  go_wp2
  go_ret
  exact ⟨rfl, rfl⟩
/-- whose it is behind a try: 0 is nobody, else one more than he. -/
def tried (o i : Int) : Int := if 0 ≤ i ∧ o = 0 then i + 1 else o
def freed (o i : Int) : Int := if 0 ≤ i ∧ o = i + 1 then 0 else o

theorem lock_try (b : Nat) (o i : Int) (w : World) (hi : i < 1000) (hb : Blk w b #[.int .i64 o] 123) :
    Calls Try.prog 13 #[.pointer (some ⟨b, 0, none⟩), .int .i64 i] w fun e w' => e = .returned (.bool (decide (0 ≤ i ∧ o = 0))) ∧ Blk w' b #[.int .i64 (tried o i)] 123 ∧ Upd (· = b) w w' := by
  have hc := hb.cell
  have hf := hb.frozen
  have hlt := hb.lt
  by_cases h0 : 0 ≤ i
  · have h1 : decide (0 ≤ i) = true := by simp; omega
    by_cases ho : o = 0
    · subst ho
      go_enter Try.func13, Try.ntmps13
      go_wp2_with (go_at_call 53; refine (cas_hit _ _ _ _ _ ?_ ?_).mono ?_; (focus (go_simp; done)); (focus (go_simp; done)); rintro e w' ⟨rfl, rfl⟩)
      go_ret
      refine ⟨by simp [h0], ?_, (Upd.refl _ _).setCell _ _ (.inl rfl)⟩
      simp [Blk, hp_same, show hp w b = _ from hb, Obj.put, tried, h0]
    · have ho' : ¬ o = (0 : Int) := ho
      go_enter Try.func13, Try.ntmps13
      go_wp2_with (go_at_call 53; refine (cas_miss _ _ _ _ _ _ ?_ ?_ ho).mono ?_; (focus (go_simp; done)); (focus (go_simp; done)); rintro e w' ⟨rfl, rfl⟩)
      go_ret
      refine ⟨by simp [ho], ?_, Upd.refl _ _⟩
      simpa [tried, ho] using hb
  · have h1 : decide (0 ≤ i) = false := by simp; omega
    have h2 : i < 0 := by omega
    go_enter Try.func13, Try.ntmps13
    go_wp2
    go_ret
    refine ⟨by simp [h0], ?_, Upd.refl _ _⟩
    simpa [tried, show ¬ (0 ≤ i ∧ o = 0) by omega] using hb

theorem lock_free (b : Nat) (o i : Int) (w : World) (hi : i < 1000) (hb : Blk w b #[.int .i64 o] 123) :
    Calls Try.prog 15 #[.pointer (some ⟨b, 0, none⟩), .int .i64 i] w fun e w' => e = .returned (.bool (decide (0 ≤ i ∧ o = i + 1))) ∧ Blk w' b #[.int .i64 (freed o i)] 123 ∧ Upd (· = b) w w' := by
  have hc := hb.cell
  have hf := hb.frozen
  have hlt := hb.lt
  by_cases h0 : 0 ≤ i
  · have h1 : decide (0 ≤ i) = true := by simp; omega
    by_cases ho : o = i + 1
    · subst ho
      go_enter Try.func15, Try.ntmps15
      go_wp2_with (go_at_call 53; refine (cas_hit _ _ _ _ _ ?_ ?_).mono ?_; (focus (go_simp; done)); (focus (go_simp; done)); rintro e w' ⟨rfl, rfl⟩)
      go_ret
      refine ⟨by simp [h0], ?_, (Upd.refl _ _).setCell _ _ (.inl rfl)⟩
      simp [Blk, hp_same, show hp w b = _ from hb, Obj.put, freed, h0]
    · go_enter Try.func15, Try.ntmps15
      go_wp2_with (go_at_call 53; refine (cas_miss _ _ _ _ _ _ ?_ ?_ ho).mono ?_; (focus (go_simp; done)); (focus (go_simp; done)); rintro e w' ⟨rfl, rfl⟩)
      go_ret
      refine ⟨by simp [ho], ?_, Upd.refl _ _⟩
      simpa [freed, ho] using hb
  · have h1 : decide (0 ≤ i) = false := by simp; omega
    have h2 : i < 0 := by omega
    go_enter Try.func15, Try.ntmps15
    go_wp2
    go_ret
    refine ⟨by simp [h0], ?_, Upd.refl _ _⟩
    simpa [freed, show ¬ (0 ≤ i ∧ o = i + 1) by omega] using hb

theorem lock_owner (b : Nat) (o : Int) (w : World) (ho : 0 ≤ o) (ho2 : o ≤ 1000) (hb : Blk w b #[.int .i64 o] 123) :
    Calls Try.prog 17 #[.pointer (some ⟨b, 0, none⟩)] w fun e w' => e = .returned (.tuple #[.int .i64 (if o = 0 then 0 else o - 1), .bool (!decide (o = 0))]) ∧ w = w' := by
  have hc := hb.cell
  have hlt := hb.lt
  by_cases h : o = 0
  · subst h
    go_enter Try.func17, Try.ntmps17
    go_wp2_with (go_at_call 54; refine (load64 _ _ 0 _ ?_).mono ?_; (focus (go_simp; done)); rintro e w' ⟨rfl, rfl⟩)
    go_ret2
    exact ⟨by simp, rfl⟩
  · have h1 : (o == 0) = false := by simpa using h
    go_enter Try.func17, Try.ntmps17
    go_wp2_with (go_at_call 54; refine (load64 _ _ o _ ?_).mono ?_; (focus (go_simp; done)); rintro e w' ⟨rfl, rfl⟩)
    go_ret2
    exact ⟨by simp [h], rfl⟩

/-! ### The reference's lock: an owner, or -1 -/
def rtried (o i : Int) : Int := if 0 ≤ i ∧ o < 0 then i else o
def rfreed (o i : Int) : Int := if 0 ≤ i ∧ o = i then -1 else o
theorem ref_try (b : Nat) (o i : Int) (w : World) (hb : Blk w b #[.int .i64 o] 28) :
    Calls Try.prog 14 #[.pointer (some ⟨b, 0, none⟩), .int .i64 i] w fun e w' => e = .returned (.bool (decide (0 ≤ i ∧ o < 0))) ∧ Blk w' b #[.int .i64 (rtried o i)] 28 ∧ Upd (· = b) w w' := by
  have hc := hb.cell
  have hf := hb.frozen
  have hlt := hb.lt
  by_cases h0 : i < 0
  · have h1 : decide (i < 0) = true := by simp; omega
    go_enter Try.func14, Try.ntmps14
    go_wp2
    go_ret
    refine ⟨by simp <;> omega, ?_, Upd.refl _ _⟩
    have : ¬ 0 ≤ i := by omega
    simpa [rtried, this] using hb
  · have h1 : decide (i < 0) = false := by simp; omega
    by_cases ho : 0 ≤ o
    · have h2 : decide (0 ≤ o) = true := by simp; omega
      go_enter Try.func14, Try.ntmps14
      go_wp2
      go_ret
      refine ⟨by simp <;> omega, ?_, Upd.refl _ _⟩
      have : ¬ (0 ≤ i ∧ o < 0) := by omega
      simpa [rtried, this] using hb
    · have h2 : decide (0 ≤ o) = false := by simp; omega
      go_enter Try.func14, Try.ntmps14
      go_wp2
      go_ret
      refine ⟨by simp <;> omega, ?_, (Upd.refl _ _).setCell _ _ (.inl rfl)⟩
      have : (0 ≤ i ∧ o < 0) := by omega
      simp [Blk, hp_same, show hp w b = _ from hb, Obj.put, rtried, this]
theorem ref_free (b : Nat) (o i : Int) (w : World) (hb : Blk w b #[.int .i64 o] 28) :
    Calls Try.prog 16 #[.pointer (some ⟨b, 0, none⟩), .int .i64 i] w fun e w' => e = .returned (.bool (decide (0 ≤ i ∧ o = i))) ∧ Blk w' b #[.int .i64 (rfreed o i)] 28 ∧ Upd (· = b) w w' := by
  have hc := hb.cell
  have hf := hb.frozen
  have hlt := hb.lt
  by_cases h0 : i < 0
  · have h1 : decide (i < 0) = true := by simp; omega
    go_enter Try.func16, Try.ntmps16
    go_wp2
    go_ret
    refine ⟨by simp <;> omega, ?_, Upd.refl _ _⟩
    have : ¬ 0 ≤ i := by omega
    simpa [rfreed, this] using hb
  · have h1 : decide (i < 0) = false := by simp; omega
    by_cases ho : o = i
    · subst ho
      go_enter Try.func16, Try.ntmps16
      go_wp2
      go_ret
      refine ⟨by simp <;> omega, ?_, (Upd.refl _ _).setCell _ _ (.inl rfl)⟩
      have : 0 ≤ o := by omega
      simp [Blk, hp_same, show hp w b = _ from hb, Obj.put, rfreed, this]
    · have h2 : (o != i) = true := by simpa using ho
      go_enter Try.func16, Try.ntmps16
      go_wp2
      go_ret
      refine ⟨by simp <;> omega, ?_, Upd.refl _ _⟩
      have : ¬ (0 ≤ i ∧ o = i) := by omega
      simpa [rfreed, this] using hb
end Go.Proofs.Yteaihgjjplgalaa
