/- What the calls on a box, and on its reference, do to memory: contracts, walked. -/
import Derived.Test.YteaihgjjplgalaaLock
namespace Go.Proofs.Yteaihgjjplgalaa
open Go.RowKit
set_option linter.unusedVariables false
set_option linter.unusedSimpArgs false

theorem newbox (w : World) :
    Calls Try.prog 18 #[] w fun e w' => e = .returned (.pointer (some ⟨w.heap.size, 0, none⟩)) ∧ w' = w.alloc (.cells #[.int .i32 0, .int .u8 0, .int .i64 0, .int .i64 0, .int .i64 0, .int .u8 0, .int .u64 0, .int .i64 0, .int .i64 0, .int .i64 0] 128) := by
  go_enter Try.func18, Try.ntmps18
  go_wp2
  go_ret
  exact ⟨rfl, rfl⟩

/-- A box in block b. -/
def BoxAt (w : World) (b : Nat) (s k t c n a i t2 c2 s2 : Int) : Prop :=
  Blk w b #[.int .i32 s, .int .u8 k, .int .i64 t, .int .i64 c, .int .i64 n, .int .u8 a, .int .u64 i, .int .i64 t2, .int .i64 c2, .int .i64 s2] 128
/-- The reference's. -/
def RefAt (w : World) (b : Nat) (s k t c n a i t2 c2 s2 : Int) : Prop :=
  Blk w b #[.int .i64 s, .int .u8 k, .int .i64 t, .int .i64 c, .int .i64 n, .int .u8 a, .int .u64 i, .int .i64 t2, .int .i64 c2, .int .i64 s2] 45

section
variable (b : Nat) (s k t c n a i t2 c2 s2 k' t' c' n' a' i' t2' c2' s2' : Int) (w : World)

theorem box_state (hs : 0 ≤ s) (hs2 : s ≤ 2) (hb : BoxAt w b s k t c n a i t2 c2 s2) :
    Calls Try.prog 26 #[.pointer (some ⟨b, 0, none⟩)] w fun e w' => e = .returned (.int .i64 s) ∧ w = w' := by
  have hc := Blk.cell hb
  go_enter Try.func26, Try.ntmps26
  go_wp2_with (go_at_call 55; refine (load32 _ _ s _ ?_).mono ?_; (focus (go_simp; done)); rintro e w' ⟨rfl, rfl⟩)
  go_ret
  exact ⟨rfl, rfl⟩

set_option maxHeartbeats 400000 in
theorem box_post (hb : BoxAt w b 0 k t c n a i t2 c2 s2) :
    Calls Try.prog 19 #[.pointer (some ⟨b, 0, none⟩), .agg #[.int .u8 k', .int .i64 t', .int .i64 c', .int .i64 n']] w fun e w' => e = .returned (.bool true) ∧ BoxAt w' b 1 k' t' c' n' a i t2 c2 s2 ∧ Upd (· = b) w w' := by
  have hc := Blk.cell hb
  have hf := Blk.frozen hb
  have hlt := Blk.lt hb
  go_enter Try.func19, Try.ntmps19
  go_wp2_with (first | (go_at_call 55; refine (load32 _ _ 0 _ ?_).mono ?_; (focus (go_simp; done)); rintro e w' ⟨rfl, rfl⟩) | (go_at_call 56; refine (store32 _ _ 0 _ _ ?_ ?_).mono ?_; (focus (go_simp; done)); (focus (go_simp; done)); rintro e w' ⟨rfl, rfl⟩))
  go_ret
  refine ⟨rfl, ?_, ?_⟩
  · simp (disch := (simp only [sz_setCell, sz_alloc, sz_drew, sz_drewN]; omega)) [BoxAt, Blk, hp_same, hp_alloc, Obj.put, show hp w b = _ from hb]
  · repeat (first | with_reducible exact Upd.refl _ _ | with_reducible refine Upd.alloc ?_ _ | with_reducible refine Upd.setCell ?_ _ _ (.inl rfl))
theorem box_post_no (hs : ¬ s = 0) (hb : BoxAt w b s k t c n a i t2 c2 s2) :
    Calls Try.prog 19 #[.pointer (some ⟨b, 0, none⟩), .agg #[.int .u8 k', .int .i64 t', .int .i64 c', .int .i64 n']] w fun e w' => e = .returned (.bool false) ∧ BoxAt w' b s k t c n a i t2 c2 s2 ∧ Upd (fun _ => False) w w' := by
  have hc := Blk.cell hb
  have hf := Blk.frozen hb
  have hlt := Blk.lt hb
  have h1 : (s != 0) = true := by simpa using hs
  go_enter Try.func19, Try.ntmps19
  go_wp2_with (first | (go_at_call 55; refine (load32 _ _ s _ ?_).mono ?_; (focus (go_simp; done)); rintro e w' ⟨rfl, rfl⟩))
  go_ret
  exact ⟨rfl, (hp_alloc _ _ _ hlt).trans hb, (Upd.refl _ _).alloc _⟩

set_option maxHeartbeats 400000 in
theorem box_op (hb : BoxAt w b 1 k t c n a i t2 c2 s2) :
    Calls Try.prog 21 #[.pointer (some ⟨b, 0, none⟩)] w fun e w' => e = .returned (.tuple #[.agg #[.int .u8 k, .int .i64 t, .int .i64 c, .int .i64 n], .bool true]) ∧ BoxAt w' b 1 k t c n a i t2 c2 s2 ∧ Upd (fun _ => False) w w' := by
  have hc := Blk.cell hb
  have hf := Blk.frozen hb
  have hlt := Blk.lt hb
  go_enter Try.func21, Try.ntmps21
  go_wp2_with (first | (go_at_call 26; refine (box_state b 1 k t c n a i t2 c2 s2 _ (by omega) (by omega) ?_).mono ?_; (focus (exact (hp_alloc _ _ _ hlt).trans hb)); rintro e w' ⟨rfl, rfl⟩))
  refine bodyPost_ret (v := .tuple #[.agg #[.int .u8 k, .int .i64 t, .int .i64 c, .int .i64 n], .bool true]) (by simp [results, Try.results21, go_sem]) rfl ⟨rfl, ?_, ?_⟩
  · exact (hp_alloc _ _ _ hlt).trans hb
  · exact (Upd.refl _ _).alloc _
set_option maxHeartbeats 400000 in
theorem box_op_no (hs0 : 0 ≤ s) (hs2 : s ≤ 2) (hs : ¬ s = 1) (hb : BoxAt w b s k t c n a i t2 c2 s2) :
    Calls Try.prog 21 #[.pointer (some ⟨b, 0, none⟩)] w fun e w' => e = .returned (.tuple #[.agg #[.int .u8 0, .int .i64 0, .int .i64 0, .int .i64 0], .bool false]) ∧ BoxAt w' b s k t c n a i t2 c2 s2 ∧ Upd (fun _ => False) w w' := by
  have hc := Blk.cell hb
  have hf := Blk.frozen hb
  have hlt := Blk.lt hb
  have h1 : (s != 1) = true := by simpa using hs
  go_enter Try.func21, Try.ntmps21
  go_wp2_with (first | (go_at_call 26; refine (box_state b s k t c n a i t2 c2 s2 _ (by omega) (by omega) ?_).mono ?_; (focus (exact (hp_alloc _ _ _ hlt).trans hb)); rintro e w' ⟨rfl, rfl⟩))
  refine bodyPost_ret (v := .tuple #[.agg #[.int .u8 0, .int .i64 0, .int .i64 0, .int .i64 0], .bool false]) (by simp [results, Try.results21, go_sem]) rfl ⟨rfl, ?_, ?_⟩
  · exact (hp_alloc _ _ _ hlt).trans hb
  · exact (Upd.refl _ _).alloc _

set_option maxHeartbeats 400000 in
theorem box_finish (hb : BoxAt w b 1 k t c n a i t2 c2 s2) :
    Calls Try.prog 22 #[.pointer (some ⟨b, 0, none⟩), .agg #[.int .u8 a', .int .u64 i', .int .i64 t2', .int .i64 c2', .int .i64 s2']] w fun e w' => e = .returned (.bool true) ∧ BoxAt w' b 2 k t c n a' i' t2' c2' s2' ∧ Upd (· = b) w w' := by
  have hc := Blk.cell hb
  have hf := Blk.frozen hb
  have hlt := Blk.lt hb
  go_enter Try.func22, Try.ntmps22
  go_wp2_with (first | (go_at_call 55; refine (load32 _ _ 1 _ ?_).mono ?_; (focus (go_simp; done)); rintro e w' ⟨rfl, rfl⟩) | (go_at_call 56; refine (store32 _ _ 1 _ _ ?_ ?_).mono ?_; (focus (go_simp; done)); (focus (go_simp; done)); rintro e w' ⟨rfl, rfl⟩))
  go_ret
  refine ⟨rfl, ?_, ?_⟩
  · simp (disch := (simp only [sz_setCell, sz_alloc, sz_drew, sz_drewN]; omega)) [BoxAt, Blk, hp_same, hp_alloc, hp_drew, Obj.put, show hp w b = _ from hb]
  · repeat (first | with_reducible exact Upd.refl _ _ | with_reducible refine Upd.alloc ?_ _ | with_reducible refine Upd.drew ?_ | with_reducible refine Upd.setCell ?_ _ _ (.inl rfl) | with_reducible refine Upd.setCell ?_ _ _ (.inr (Nat.le_refl _)))

theorem box_finish_no (hs : ¬ s = 1) (hb : BoxAt w b s k t c n a i t2 c2 s2) :
    Calls Try.prog 22 #[.pointer (some ⟨b, 0, none⟩), .agg #[.int .u8 a', .int .u64 i', .int .i64 t2', .int .i64 c2', .int .i64 s2']] w fun e w' => e = .returned (.bool false) ∧ BoxAt w' b s k t c n a i t2 c2 s2 ∧ Upd (fun _ => False) w w' := by
  have hc := Blk.cell hb
  have hf := Blk.frozen hb
  have hlt := Blk.lt hb
  have h1 : (s != 1) = true := by simpa using hs
  go_enter Try.func22, Try.ntmps22
  go_wp2_with (first | (go_at_call 55; refine (load32 _ _ s _ ?_).mono ?_; (focus (go_simp; done)); rintro e w' ⟨rfl, rfl⟩))
  go_ret
  exact ⟨rfl, (hp_alloc _ _ _ hlt).trans hb, (Upd.refl _ _).alloc _⟩

set_option maxHeartbeats 1000000 in
theorem box_collect (hb : BoxAt w b 2 k t c n a i t2 c2 s2) :
    Calls Try.prog 24 #[.pointer (some ⟨b, 0, none⟩)] w fun e w' => e = .returned (.tuple #[.agg #[.int .u8 a, .int .u64 i, .int .i64 t2, .int .i64 c2, .int .i64 s2], .bool true]) ∧ BoxAt w' b 0 k t c n a i t2 c2 s2 ∧ Upd (· = b) w w' := by
  have hc := Blk.cell hb
  have hf := Blk.frozen hb
  have hlt := Blk.lt hb
  go_enter Try.func24, Try.ntmps24
  go_wp2_with (first | (go_at_call 26; refine (box_state b 2 k t c n a i t2 c2 s2 _ (by omega) (by omega) ?_).mono ?_; (focus (exact (hp_alloc _ _ _ hlt).trans hb)); rintro e w' ⟨rfl, rfl⟩) | (go_at_call 56; refine (store32 _ _ 2 _ _ ?_ ?_).mono ?_; (focus (go_simp; done)); (focus (go_simp; done)); rintro e w' ⟨rfl, rfl⟩))
  refine bodyPost_ret (v := .tuple #[.agg #[.int .u8 a, .int .u64 i, .int .i64 t2, .int .i64 c2, .int .i64 s2], .bool true]) (by simp [results, Try.results24, go_sem]) rfl ⟨rfl, ?_, ?_⟩
  · simp (disch := (simp only [sz_setCell, sz_alloc, sz_drew, sz_drewN]; omega)) [BoxAt, Blk, hp_same, hp_alloc, hp_drew, Obj.put, show hp w b = _ from hb]
  · repeat (first | with_reducible exact Upd.refl _ _ | with_reducible refine Upd.alloc ?_ _ | with_reducible refine Upd.drew ?_ | with_reducible refine Upd.setCell ?_ _ _ (.inl rfl) | with_reducible refine Upd.setCell ?_ _ _ (.inr (Nat.le_refl _)))

set_option maxHeartbeats 400000 in
theorem box_collect_no (hs0 : 0 ≤ s) (hs2 : s ≤ 2) (hs : ¬ s = 2) (hb : BoxAt w b s k t c n a i t2 c2 s2) :
    Calls Try.prog 24 #[.pointer (some ⟨b, 0, none⟩)] w fun e w' => e = .returned (.tuple #[.agg #[.int .u8 0, .int .u64 0, .int .i64 0, .int .i64 0, .int .i64 0], .bool false]) ∧ BoxAt w' b s k t c n a i t2 c2 s2 ∧ Upd (fun _ => False) w w' := by
  have hc := Blk.cell hb
  have hf := Blk.frozen hb
  have hlt := Blk.lt hb
  have h1 : (s != 2) = true := by simpa using hs
  go_enter Try.func24, Try.ntmps24
  go_wp2_with (first | (go_at_call 26; refine (box_state b s k t c n a i t2 c2 s2 _ (by omega) (by omega) ?_).mono ?_; (focus (exact (hp_alloc _ _ _ hlt).trans hb)); rintro e w' ⟨rfl, rfl⟩))
  refine bodyPost_ret (v := .tuple #[.agg #[.int .u8 0, .int .u64 0, .int .i64 0, .int .i64 0, .int .i64 0], .bool false]) (by simp [results, Try.results24, go_sem]) rfl ⟨rfl, ?_, ?_⟩
  · exact (hp_alloc _ _ _ hlt).trans hb
  · exact (Upd.refl _ _).alloc _

/-! ### The reference's box -/
set_option maxHeartbeats 1000000 in
theorem ref_post (hb : RefAt w b 0 k t c n a i t2 c2 s2) :
    Calls Try.prog 20 #[.pointer (some ⟨b, 0, none⟩), .agg #[.int .u8 k', .int .i64 t', .int .i64 c', .int .i64 n']] w fun e w' => e = .returned (.bool true) ∧ RefAt w' b 1 k' t' c' n' a i t2 c2 s2 ∧ Upd (· = b) w w' := by
  have hc := Blk.cell hb
  have hf := Blk.frozen hb
  have hlt := Blk.lt hb
  go_enter Try.func20, Try.ntmps20
  go_wp2
  go_region
  go_wp2
  go_ret
  refine ⟨rfl, ?_, ?_⟩
  · simp (disch := (simp only [sz_setCell, sz_alloc, sz_drew, sz_drewN]; omega)) [RefAt, Blk, hp_same, hp_alloc, hp_drew, Obj.put, show hp w b = _ from hb]
  · repeat (first | with_reducible exact Upd.refl _ _ | with_reducible refine Upd.alloc ?_ _ | with_reducible refine Upd.drew ?_ | with_reducible refine Upd.setCell ?_ _ _ (.inl rfl) | with_reducible refine Upd.setCell ?_ _ _ (.inr (Nat.le_refl _)))
theorem ref_post_no (hs : ¬ s = 0) (hb : RefAt w b s k t c n a i t2 c2 s2) :
    Calls Try.prog 20 #[.pointer (some ⟨b, 0, none⟩), .agg #[.int .u8 k', .int .i64 t', .int .i64 c', .int .i64 n']] w fun e w' => e = .returned (.bool false) ∧ RefAt w' b s k t c n a i t2 c2 s2 ∧ Upd (fun _ => False) w w' := by
  have hc := Blk.cell hb
  have hf := Blk.frozen hb
  have hlt := Blk.lt hb
  have h1 : (s != 0) = true := by simpa using hs
  go_enter Try.func20, Try.ntmps20
  go_wp2
  go_ret
  exact ⟨rfl, (hp_alloc _ _ _ hlt).trans hb, (Upd.refl _ _).alloc _⟩
set_option maxHeartbeats 1000000 in
theorem ref_finish (hb : RefAt w b 1 k t c n a i t2 c2 s2) :
    Calls Try.prog 23 #[.pointer (some ⟨b, 0, none⟩), .agg #[.int .u8 a', .int .u64 i', .int .i64 t2', .int .i64 c2', .int .i64 s2']] w fun e w' => e = .returned (.bool true) ∧ RefAt w' b 2 k t c n a' i' t2' c2' s2' ∧ Upd (· = b) w w' := by
  have hc := Blk.cell hb
  have hf := Blk.frozen hb
  have hlt := Blk.lt hb
  go_enter Try.func23, Try.ntmps23
  go_wp2
  go_region
  go_wp2
  go_ret
  refine ⟨rfl, ?_, ?_⟩
  · simp (disch := (simp only [sz_setCell, sz_alloc, sz_drew, sz_drewN]; omega)) [RefAt, Blk, hp_same, hp_alloc, hp_drew, Obj.put, show hp w b = _ from hb]
  · repeat (first | with_reducible exact Upd.refl _ _ | with_reducible refine Upd.alloc ?_ _ | with_reducible refine Upd.drew ?_ | with_reducible refine Upd.setCell ?_ _ _ (.inl rfl) | with_reducible refine Upd.setCell ?_ _ _ (.inr (Nat.le_refl _)))

theorem ref_finish_no (hs : ¬ s = 1) (hb : RefAt w b s k t c n a i t2 c2 s2) :
    Calls Try.prog 23 #[.pointer (some ⟨b, 0, none⟩), .agg #[.int .u8 a', .int .u64 i', .int .i64 t2', .int .i64 c2', .int .i64 s2']] w fun e w' => e = .returned (.bool false) ∧ RefAt w' b s k t c n a i t2 c2 s2 ∧ Upd (fun _ => False) w w' := by
  have hc := Blk.cell hb
  have hf := Blk.frozen hb
  have hlt := Blk.lt hb
  have h1 : (s != 1) = true := by simpa using hs
  go_enter Try.func23, Try.ntmps23
  go_wp2
  go_ret
  exact ⟨rfl, (hp_alloc _ _ _ hlt).trans hb, (Upd.refl _ _).alloc _⟩
set_option maxHeartbeats 400000 in
theorem ref_collect (hb : RefAt w b 2 k t c n a i t2 c2 s2) :
    Calls Try.prog 25 #[.pointer (some ⟨b, 0, none⟩)] w fun e w' => e = .returned (.tuple #[.agg #[.int .u8 a, .int .u64 i, .int .i64 t2, .int .i64 c2, .int .i64 s2], .bool true]) ∧ RefAt w' b 0 k t c n a i t2 c2 s2 ∧ Upd (· = b) w w' := by
  have hc := Blk.cell hb
  have hf := Blk.frozen hb
  have hlt := Blk.lt hb
  go_enter Try.func25, Try.ntmps25
  go_wp2
  refine bodyPost_ret (v := .tuple #[.agg #[.int .u8 a, .int .u64 i, .int .i64 t2, .int .i64 c2, .int .i64 s2], .bool true]) (by simp [results, Try.results25, go_sem]) rfl ⟨rfl, ?_, ?_⟩
  · simp (disch := (simp only [sz_setCell, sz_alloc, sz_drew, sz_drewN]; omega)) [RefAt, Blk, hp_same, hp_alloc, hp_drew, Obj.put, show hp w b = _ from hb]
  · repeat (first | with_reducible exact Upd.refl _ _ | with_reducible refine Upd.alloc ?_ _ | with_reducible refine Upd.drew ?_ | with_reducible refine Upd.setCell ?_ _ _ (.inl rfl) | with_reducible refine Upd.setCell ?_ _ _ (.inr (Nat.le_refl _)))

theorem ref_collect_no (hs : ¬ s = 2) (hb : RefAt w b s k t c n a i t2 c2 s2) :
    Calls Try.prog 25 #[.pointer (some ⟨b, 0, none⟩)] w fun e w' => e = .returned (.tuple #[.agg #[.int .u8 0, .int .u64 0, .int .i64 0, .int .i64 0, .int .i64 0], .bool false]) ∧ RefAt w' b s k t c n a i t2 c2 s2 ∧ Upd (fun _ => False) w w' := by
  have hc := Blk.cell hb
  have hf := Blk.frozen hb
  have hlt := Blk.lt hb
  have h1 : (s != 2) = true := by simpa using hs
  go_enter Try.func25, Try.ntmps25
  go_wp2
  refine bodyPost_ret (v := .tuple #[.agg #[.int .u8 0, .int .u64 0, .int .i64 0, .int .i64 0, .int .i64 0], .bool false]) (by simp [results, Try.results25, go_sem]) rfl ⟨rfl, ?_, ?_⟩
  · exact (hp_alloc _ _ _ hlt).trans hb
  · exact (Upd.refl _ _).alloc _
end

/-! ### Nothing there -/
section
variable (id k' t' c' n' a' i' t2' c2' s2' : Int) (w : World)
theorem nil_try : Calls Try.prog 13 #[.pointer none, .int .i64 id] w fun e w' => e = .returned (.bool false) ∧ w = w' := by
  go_enter Try.func13, Try.ntmps13
  go_wp2
  go_ret
  exact ⟨rfl, rfl⟩
theorem nil_free : Calls Try.prog 15 #[.pointer none, .int .i64 id] w fun e w' => e = .returned (.bool false) ∧ w = w' := by
  go_enter Try.func15, Try.ntmps15
  go_wp2
  go_ret
  exact ⟨rfl, rfl⟩
theorem nil_owner : Calls Try.prog 17 #[.pointer none] w fun e w' => e = .returned (.tuple #[.int .i64 0, .bool false]) ∧ w = w' := by
  go_enter Try.func17, Try.ntmps17
  go_wp2
  go_ret2
  exact ⟨rfl, rfl⟩
theorem nil_state : Calls Try.prog 26 #[.pointer none] w fun e w' => e = .returned (.int .i64 0) ∧ w = w' := by
  go_enter Try.func26, Try.ntmps26
  go_wp2
  go_ret
  exact ⟨rfl, rfl⟩
theorem nil_post : Calls Try.prog 19 #[.pointer none, .agg #[.int .u8 k', .int .i64 t', .int .i64 c', .int .i64 n']] w fun e w' => e = .returned (.bool false) ∧ Upd (fun _ => False) w w' := by
  go_enter Try.func19, Try.ntmps19
  go_wp2
  go_ret
  exact ⟨rfl, (Upd.refl _ _).alloc _⟩
theorem nil_finish : Calls Try.prog 22 #[.pointer none, .agg #[.int .u8 a', .int .u64 i', .int .i64 t2', .int .i64 c2', .int .i64 s2']] w fun e w' => e = .returned (.bool false) ∧ Upd (fun _ => False) w w' := by
  go_enter Try.func22, Try.ntmps22
  go_wp2
  go_ret
  exact ⟨rfl, (Upd.refl _ _).alloc _⟩
theorem nil_op : Calls Try.prog 21 #[.pointer none] w fun e w' => e = .returned (.tuple #[.agg #[.int .u8 0, .int .i64 0, .int .i64 0, .int .i64 0], .bool false]) ∧ Upd (fun _ => False) w w' := by
  go_enter Try.func21, Try.ntmps21
  go_wp2_with (first | (go_at_call 26; refine (nil_state _).mono ?_; rintro e w' ⟨rfl, rfl⟩))
  refine bodyPost_ret (v := .tuple #[.agg #[.int .u8 0, .int .i64 0, .int .i64 0, .int .i64 0], .bool false]) (by simp [results, Try.results21, go_sem]) rfl ⟨rfl, ?_⟩
  exact (Upd.refl _ _).alloc _
theorem nil_collect : Calls Try.prog 24 #[.pointer none] w fun e w' => e = .returned (.tuple #[.agg #[.int .u8 0, .int .u64 0, .int .i64 0, .int .i64 0, .int .i64 0], .bool false]) ∧ Upd (fun _ => False) w w' := by
  go_enter Try.func24, Try.ntmps24
  go_wp2_with (first | (go_at_call 26; refine (nil_state _).mono ?_; rintro e w' ⟨rfl, rfl⟩))
  refine bodyPost_ret (v := .tuple #[.agg #[.int .u8 0, .int .u64 0, .int .i64 0, .int .i64 0, .int .i64 0], .bool false]) (by simp [results, Try.results24, go_sem]) rfl ⟨rfl, ?_⟩
  exact (Upd.refl _ _).alloc _
end
end Go.Proofs.Yteaihgjjplgalaa
