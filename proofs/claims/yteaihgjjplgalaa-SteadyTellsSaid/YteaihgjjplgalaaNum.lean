/- The reference's wide numbers (layer 1, by digits): contracts, walked. -/
import Derived.Test.YteaihgjjplgalaaOne
import Derived.Test.YteaihgjjplgalaaFix
import Derived.Deep.RegionHeld3
namespace Go.Proofs.Yteaihgjjplgalaa
open Go.RowKit
set_option linter.unusedVariables false
set_option linter.unusedSimpArgs false

/-- The value of digits, the lowest first. -/
def val : List Int → Int
  | [] => 0
  | d :: ds => d + 65536 * val ds
def Dig (ds : List Int) : Prop := ∀ d ∈ ds, 0 ≤ d ∧ d < 65536
theorem Dig.at {ds : List Int} (h : Dig ds) {i : Nat} {d : Int} (hx : ds[i]? = some d) : 0 ≤ d ∧ d < 65536 := h d (List.mem_of_getElem? hx)
theorem Dig.set {ds : List Int} (h : Dig ds) (i : Nat) (d : Int) (hd : 0 ≤ d ∧ d < 65536) : Dig (ds.set i d) := by
  intro x hx
  rcases List.mem_or_eq_of_mem_set hx with h1 | rfl
  · exact h x h1
  · exact hd
def pw (k : Nat) : Int := 65536 ^ k
theorem pw_succ (k : Nat) : pw (k + 1) = 65536 * pw k := by unfold pw; rw [Int.pow_succ, Int.mul_comm]
theorem pw_pos (k : Nat) : 0 < pw k := Int.pow_pos (by decide)
theorem val_set : ∀ (ds : List Int) (i : Nat) (x d : Int), ds[i]? = some x → val (ds.set i d) = val ds + (d - x) * pw i
  | [], i, x, d, h => by simp at h
  | y :: ds, 0, x, d, h => by simp at h; subst h; simp [val, pw]; omega
  | y :: ds, i + 1, x, d, h => by
    have ih := val_set ds i x d (by simpa using h)
    simp only [List.set_cons_succ, val, ih, pw_succ, Int.mul_add]
    rw [Int.mul_left_comm]; omega
theorem val_take (ds : List Int) (i : Nat) (x : Int) (h : ds[i]? = some x) : val (ds.take (i + 1)) = val (ds.take i) + x * pw i := by
  induction ds generalizing i with
  | nil => simp at h
  | cons y ds ih =>
    cases i with
    | zero => simp at h; subst h; simp [val, pw]
    | succ i =>
      have := ih i (by simpa using h)
      simp only [List.take_succ_cons, val, this, pw_succ, Int.mul_add]
      rw [Int.mul_left_comm]; omega
theorem val_bound : ∀ (ds : List Int), Dig ds → 0 ≤ val ds ∧ val ds < pw ds.length
  | [], _ => by simp [val, pw]
  | d :: ds, h => by
    have ih := val_bound ds (fun x hx => h x (List.mem_cons_of_mem _ hx))
    have hd := h d List.mem_cons_self
    simp only [val, List.length_cons, pw_succ]
    omega
/-- A number of two halves. -/
def numV (n : Int) : Value := .agg #[.int .u64 (n / 18446744073709551616), .int .u64 (n % 18446744073709551616)]
def N128 (n : Int) : Prop := 0 ≤ n ∧ n < 340282366920938463463374607431768211456
/-- the digits of a number. -/
def digs (n : Int) : List Int :=
  [n % 65536, n / 65536 % 65536, n / 4294967296 % 65536, n / 281474976710656 % 65536, n / 18446744073709551616 % 65536, n / 1208925819614629174706176 % 65536, n / 79228162514264337593543950336 % 65536, n / 5192296858534827628530496329220096 % 65536]
theorem digs_dig (n : Int) : Dig (digs n) := by
  intro d hd
  simp only [digs, List.mem_cons, List.not_mem_nil, or_false] at hd
  rcases hd with rfl | rfl | rfl | rfl | rfl | rfl | rfl | rfl <;> omega
theorem digs_val (n : Int) (h : N128 n) : val (digs n) = n := by
  unfold N128 at h
  simp only [digs, val]
  omega

def dig4 (x : Int) : List Int := [x % 65536, x / 65536 % 65536, x / 4294967296 % 65536, x / 281474976710656 % 65536]
theorem digs_split (n : Int) : digs n = dig4 (n % 18446744073709551616) ++ dig4 (n / 18446744073709551616) := by
  simp only [digs, dig4, List.cons_append, List.nil_append]
  congr 1
  · omega
  congr 1
  · omega
  congr 1
  · omega
  congr 1
  · omega
  congr 1
  congr 1
  · omega
  congr 1
  · omega
  congr 1
  omega

set_option maxRecDepth 100000 in
set_option maxHeartbeats 1000000 in
theorem digits_any (n : Int) (hn : N128 n) (w : World) :
    Calls Try.prog 81 #[numV n] w fun e W' => ∃ v, e = .returned v ∧ IOwn w.heap.size W' v (digs n) ∧ Upd (fun _ => False) w W' := by
  rw [digs_split]
  unfold numV
  unfold N128 at hn
  have hhi : 0 ≤ n / 18446744073709551616 ∧ n / 18446744073709551616 < 18446744073709551616 := by omega
  have hlo : 0 ≤ n % 18446744073709551616 ∧ n % 18446744073709551616 < 18446744073709551616 := by omega
  generalize n / 18446744073709551616 = hi at *
  generalize n % 18446744073709551616 = lo at *
  clear hn n
  go_enter Try.func81, Try.ntmps81
  go_wp2_with fail
  have b0 : Blk _ _ _ _ := Blk.new w #[.int .u64 hi, .int .u64 lo] 137
  have u0 : Upd (fun _ => False) w _ := (Upd.refl _ w).alloc (.cells #[.int .u64 hi, .int .u64 lo] 137)
  have hsz : (w.alloc (.cells #[.int .u64 hi, .int .u64 lo] 137)).heap.size = w.heap.size + 1 := by simp
  generalize w.alloc (.cells #[.int .u64 hi, .int .u64 lo] 137) = w1 at *
  have HU := Lib.hid u0
  clear u0
  obtain ⟨B, hB⟩ : ∃ B, B = w.heap.size := ⟨_, rfl⟩
  have HB := Lib.hid hB
  rw [← hB] at b0 hsz ⊢
  clear hB
  go_loopw [3, 4] (fun out i wr => ∃ k : Nat, i = .int .i64 k ∧ k ≤ 4 ∧ IOwn (B + 1) wr out ((dig4 lo).take k) ∧ Upd (fun _ => False) w1 wr) (fun _ i _ => 4 - (intOf i).toNat)
  case atStart => exact ⟨0, rfl, by omega, OwnV.nil _ _ _ _ _, Upd.refl _ _⟩
  case round =>
    obtain ⟨k, rfl, hk, hO, hU⟩ := hrel
    have hb := b0.upd hU (fun h => h)
    have c0 : wr.cell? ⟨B, 0, none⟩ = some (.int .u64 hi) := hb.cell 0
    have c1 : wr.cell? ⟨B, 1, none⟩ = some (.int .u64 lo) := hb.cell 1
    have hs := hU.size
    obtain rfl | rfl | rfl | rfl | rfl : k = 0 ∨ k = 1 ∨ k = 2 ∨ k = 3 ∨ k = 4 := by omega
    · go_wp2_with (at_builtin; refine wpList_append_rec rfl _ _ 91 3 _ 1 8 intEnc intEnc_len rfl Try.underlying91 infoInt rfl (by decide) _ (B + 1) ((dig4 lo).take 0) rfl (hO.alloc _) ⟨wr.heap.size, 0, none⟩ 1 (lo % 65536) rfl (news_alloc _ _ _ _ rfl) (by simp [intEnc, Value.oneCell']) (by show _ + 1 ≤ _; simp [dig4, maxLen]) (by show (_ + 1) * 8 ≤ _; simp [dig4]) (by simp; omega) ?_; rintro v' w' hO' hu ⟨a', c', rfl⟩)
      go_roundw
      case rel => exact ⟨1, rfl, by omega, hO', (hU.alloc _).then hu (fun i hi e => by have := (hO.lt i e).1; omega)⟩
      case measure => simp [intOf]
    · go_wp2_with (at_builtin; refine wpList_append_rec rfl _ _ 91 3 _ 1 8 intEnc intEnc_len rfl Try.underlying91 infoInt rfl (by decide) _ (B + 1) ((dig4 lo).take 1) rfl (hO.alloc _) ⟨wr.heap.size, 0, none⟩ 1 (lo / 65536 % 65536) rfl (news_alloc _ _ _ _ rfl) (by simp [intEnc, Value.oneCell']) (by show _ + 1 ≤ _; simp [dig4, maxLen]) (by show (_ + 1) * 8 ≤ _; simp [dig4]) (by simp; omega) ?_; rintro v' w' hO' hu ⟨a', c', rfl⟩)
      go_roundw
      case rel => exact ⟨2, rfl, by omega, hO', (hU.alloc _).then hu (fun i hi e => by have := (hO.lt i e).1; omega)⟩
      case measure => simp [intOf]
    · go_wp2_with (at_builtin; refine wpList_append_rec rfl _ _ 91 3 _ 1 8 intEnc intEnc_len rfl Try.underlying91 infoInt rfl (by decide) _ (B + 1) ((dig4 lo).take 2) rfl (hO.alloc _) ⟨wr.heap.size, 0, none⟩ 1 (lo / 4294967296 % 65536) rfl (news_alloc _ _ _ _ rfl) (by simp [intEnc, Value.oneCell']) (by show _ + 1 ≤ _; simp [dig4, maxLen]) (by show (_ + 1) * 8 ≤ _; simp [dig4]) (by simp; omega) ?_; rintro v' w' hO' hu ⟨a', c', rfl⟩)
      go_roundw
      case rel => exact ⟨3, rfl, by omega, hO', (hU.alloc _).then hu (fun i hi e => by have := (hO.lt i e).1; omega)⟩
      case measure => simp [intOf]
    · go_wp2_with (at_builtin; refine wpList_append_rec rfl _ _ 91 3 _ 1 8 intEnc intEnc_len rfl Try.underlying91 infoInt rfl (by decide) _ (B + 1) ((dig4 lo).take 3) rfl (hO.alloc _) ⟨wr.heap.size, 0, none⟩ 1 (lo / 281474976710656 % 65536) rfl (news_alloc _ _ _ _ rfl) (by simp [intEnc, Value.oneCell']) (by show _ + 1 ≤ _; simp [dig4, maxLen]) (by show (_ + 1) * 8 ≤ _; simp [dig4]) (by simp; omega) ?_; rintro v' w' hO' hu ⟨a', c', rfl⟩)
      go_roundw
      case rel => exact ⟨4, rfl, by omega, hO', (hU.alloc _).then hu (fun i hi e => by have := (hO.lt i e).1; omega)⟩
      case measure => simp [intOf]
    · rw [show (dig4 lo).take 4 = dig4 lo from rfl] at hO
      go_wp2_with fail
      have HV := Lib.hid hU
      obtain ⟨wo, rfl⟩ : ∃ wo : World, wo = wr := ⟨_, rfl⟩
      clear hU c0 c1 b0
      go_loopw [3, 5] (fun out i wr => ∃ k : Nat, i = .int .i64 k ∧ k ≤ 4 ∧ IOwn (B + 1) wr out (dig4 lo ++ (dig4 hi).take k) ∧ Upd (fun b => B + 1 ≤ b) wo wr) (fun _ i _ => 4 - (intOf i).toNat)
      case atStart => exact ⟨0, rfl, by omega, by simpa using hO, Upd.refl _ _⟩
      clear hO
      case round =>
      obtain ⟨k, rfl, hk, hO, hU⟩ := hrel
      have hb := hb.upd hU (by omega)
      have c0 : wr.cell? ⟨B, 0, none⟩ = some (.int .u64 hi) := hb.cell 0
      have c1 : wr.cell? ⟨B, 1, none⟩ = some (.int .u64 lo) := hb.cell 1
      have hs2 := hU.size
      obtain rfl | rfl | rfl | rfl | rfl : k = 0 ∨ k = 1 ∨ k = 2 ∨ k = 3 ∨ k = 4 := by omega
      · go_wp2_with (at_builtin; refine wpList_append_rec rfl _ _ 91 3 _ 1 8 intEnc intEnc_len rfl Try.underlying91 infoInt rfl (by decide) _ (B + 1) (dig4 lo ++ (dig4 hi).take 0) rfl (hO.alloc _) ⟨wr.heap.size, 0, none⟩ 1 (hi % 65536) rfl (news_alloc _ _ _ _ rfl) (by simp [intEnc, Value.oneCell']) (by show _ + 1 ≤ _; simp [dig4, maxLen]) (by show (_ + 1) * 8 ≤ _; simp [dig4]) (by simp; omega) ?_; rintro v' w' hO' hu ⟨a', c', rfl⟩)
        go_roundw
        case rel => first | exact ⟨1, rfl, by omega, by rw [List.append_assoc] at hO'; exact hO', (hU.alloc _).then hu (fun i hi e => by have := (hO.lt i e).1; omega)⟩ | ((repeat apply Exists.intro); exact ⟨⟨1, rfl, by omega, by rw [List.append_assoc] at hO'; exact hO', (hU.alloc _).then hu (fun i hi e => by have := (hO.lt i e).1; omega)⟩, rfl⟩)
        case measure => simp [intOf]
      · go_wp2_with (at_builtin; refine wpList_append_rec rfl _ _ 91 3 _ 1 8 intEnc intEnc_len rfl Try.underlying91 infoInt rfl (by decide) _ (B + 1) (dig4 lo ++ (dig4 hi).take 1) rfl (hO.alloc _) ⟨wr.heap.size, 0, none⟩ 1 (hi / 65536 % 65536) rfl (news_alloc _ _ _ _ rfl) (by simp [intEnc, Value.oneCell']) (by show _ + 1 ≤ _; simp [dig4, maxLen]) (by show (_ + 1) * 8 ≤ _; simp [dig4]) (by simp; omega) ?_; rintro v' w' hO' hu ⟨a', c', rfl⟩)
        go_roundw
        case rel => first | exact ⟨2, rfl, by omega, by rw [List.append_assoc] at hO'; exact hO', (hU.alloc _).then hu (fun i hi e => by have := (hO.lt i e).1; omega)⟩ | ((repeat apply Exists.intro); exact ⟨⟨2, rfl, by omega, by rw [List.append_assoc] at hO'; exact hO', (hU.alloc _).then hu (fun i hi e => by have := (hO.lt i e).1; omega)⟩, rfl⟩)
        case measure => simp [intOf]
      · go_wp2_with (at_builtin; refine wpList_append_rec rfl _ _ 91 3 _ 1 8 intEnc intEnc_len rfl Try.underlying91 infoInt rfl (by decide) _ (B + 1) (dig4 lo ++ (dig4 hi).take 2) rfl (hO.alloc _) ⟨wr.heap.size, 0, none⟩ 1 (hi / 4294967296 % 65536) rfl (news_alloc _ _ _ _ rfl) (by simp [intEnc, Value.oneCell']) (by show _ + 1 ≤ _; simp [dig4, maxLen]) (by show (_ + 1) * 8 ≤ _; simp [dig4]) (by simp; omega) ?_; rintro v' w' hO' hu ⟨a', c', rfl⟩)
        go_roundw
        case rel => first | exact ⟨3, rfl, by omega, by rw [List.append_assoc] at hO'; exact hO', (hU.alloc _).then hu (fun i hi e => by have := (hO.lt i e).1; omega)⟩ | ((repeat apply Exists.intro); exact ⟨⟨3, rfl, by omega, by rw [List.append_assoc] at hO'; exact hO', (hU.alloc _).then hu (fun i hi e => by have := (hO.lt i e).1; omega)⟩, rfl⟩)
        case measure => simp [intOf]
      · go_wp2_with (at_builtin; refine wpList_append_rec rfl _ _ 91 3 _ 1 8 intEnc intEnc_len rfl Try.underlying91 infoInt rfl (by decide) _ (B + 1) (dig4 lo ++ (dig4 hi).take 3) rfl (hO.alloc _) ⟨wr.heap.size, 0, none⟩ 1 (hi / 281474976710656 % 65536) rfl (news_alloc _ _ _ _ rfl) (by simp [intEnc, Value.oneCell']) (by show _ + 1 ≤ _; simp [dig4, maxLen]) (by show (_ + 1) * 8 ≤ _; simp [dig4]) (by simp; omega) ?_; rintro v' w' hO' hu ⟨a', c', rfl⟩)
        go_roundw
        case rel => first | exact ⟨4, rfl, by omega, by rw [List.append_assoc] at hO'; exact hO', (hU.alloc _).then hu (fun i hi e => by have := (hO.lt i e).1; omega)⟩ | ((repeat apply Exists.intro); exact ⟨⟨4, rfl, by omega, by rw [List.append_assoc] at hO'; exact hO', (hU.alloc _).then hu (fun i hi e => by have := (hO.lt i e).1; omega)⟩, rfl⟩)
        case measure => simp [intOf]
      · obtain ⟨a', c', rfl⟩ := hO.form
        go_wp2_with fail
        go_ret
        refine ⟨_, rfl, ?_, ?_⟩
        · exact OwnV.base hO (by have := HB.out; omega)
        · exact (HU.out.trans HV.out).then hU (fun i hi e => by have := HB.out; omega)

set_option maxRecDepth 100000 in
set_option maxHeartbeats 1000000 in
theorem value_any (sv : Value) (x0 x1 x2 x3 x4 x5 x6 x7 : Int) (rest : List Int) (hd : Dig [x0, x1, x2, x3, x4, x5, x6, x7]) (w : World) (hI : SlAt 1 intEnc (· < w.heap.size) w sv ([x0, x1, x2, x3, x4, x5, x6, x7] ++ rest)) :
    Calls Try.prog 82 #[sv] w fun e W' => e = .returned (numV (val [x0, x1, x2, x3, x4, x5, x6, x7])) ∧ Upd (fun _ => False) w W' := by
  obtain ⟨a, cap, rfl, h1, h2, h3, h4⟩ := hI
  obtain ⟨b, off, rfl, hb, hc⟩ := h4 (by simp)
  have l8 : ([x0, x1, x2, x3, x4, x5, x6, x7] ++ rest).length = rest.length + 8 := by simp
  rw [l8]
  rw [l8] at h1
  clear h3 h4 l8
  have c0 : w.cell? ⟨b, off, none⟩ = some (.int .i64 x0) := hc 0 x0 rfl 0 (by decide)
  have c1 : w.cell? ⟨b, off + 1, none⟩ = some (.int .i64 x1) := hc 1 x1 rfl 0 (by decide)
  have c2 : w.cell? ⟨b, off + 2, none⟩ = some (.int .i64 x2) := hc 2 x2 rfl 0 (by decide)
  have c3 : w.cell? ⟨b, off + 3, none⟩ = some (.int .i64 x3) := hc 3 x3 rfl 0 (by decide)
  have c4 : w.cell? ⟨b, off + 4, none⟩ = some (.int .i64 x4) := hc 4 x4 rfl 0 (by decide)
  have c5 : w.cell? ⟨b, off + 5, none⟩ = some (.int .i64 x5) := hc 5 x5 rfl 0 (by decide)
  have c6 : w.cell? ⟨b, off + 6, none⟩ = some (.int .i64 x6) := hc 6 x6 rfl 0 (by decide)
  have c7 : w.cell? ⟨b, off + 7, none⟩ = some (.int .i64 x7) := hc 7 x7 rfl 0 (by decide)
  clear hc
  have d0 := hd x0 (by simp)
  have d1 := hd x1 (by simp)
  have d2 := hd x2 (by simp)
  have d3 := hd x3 (by simp)
  have d4 := hd x4 (by simp)
  have d5 := hd x5 (by simp)
  have d6 := hd x6 (by simp)
  have d7 := hd x7 (by simp)
  clear hd
  have hret : numV (val [x0, x1, x2, x3, x4, x5, x6, x7]) = .agg #[.int .u64 (((x7 * 65536 + x6) * 65536 + x5) * 65536 + x4), .int .u64 (((x3 * 65536 + x2) * 65536 + x1) * 65536 + x0)] := by
    unfold numV
    simp only [val]
    congr 3
    · congr 1; omega
    · congr 2; omega
  rw [hret]
  clear hret
  unfold maxLen at h2
  go_enter Try.func82, Try.ntmps82
  go_wp2_with fail
  have b0 : Blk _ _ _ _ := (Blk.new w #[.int .u64 0, .int .u64 0] 137).upd ((Upd.refl (fun _ => False) _).alloc (.cells #[.int .u64 0, .int .u64 0] 137)) (fun h => h)
  have b1 : Blk ((w.alloc (.cells #[.int .u64 0, .int .u64 0] 137)).alloc (.cells #[.int .u64 0, .int .u64 0] 137)) (w.heap.size + 1) #[.int .u64 0, .int .u64 0] 137 := hp_new' _ _ _ (by simp)
  have u0 : Upd (fun _ => False) w _ := ((Upd.refl _ w).alloc (.cells #[.int .u64 0, .int .u64 0] 137)).alloc (.cells #[.int .u64 0, .int .u64 0] 137)
  generalize (w.alloc (.cells #[.int .u64 0, .int .u64 0] 137)).alloc (.cells #[.int .u64 0, .int .u64 0] 137) = w1 at *
  obtain ⟨B, hB⟩ : ∃ B, B = w.heap.size := ⟨_, rfl⟩
  have HB := Lib.hid hB
  rw [← hB] at b0 b1 hb ⊢
  clear hB
  have HU := Lib.hid u0
  have hbq := fun i => (u0.block b (by have := HB.out; omega) (fun h => h))
  clear u0
  go_loopw [4] (fun i wr => ∃ k : Nat, i = .int .i64 (3 - k) ∧ k ≤ 4 ∧ Blk wr B #[.int .u64 0, .int .u64 0] 137 ∧
      Blk wr (B + 1) #[.int .u64 (((([x7, x6, x5, x4] : List Int).take k)).foldl (fun a x => a * 65536 + x) 0), .int .u64 (((([x3, x2, x1, x0] : List Int).take k)).foldl (fun a x => a * 65536 + x) 0)] 137 ∧ Upd (fun b => B ≤ b) w wr) (fun i _ => (intOf i + 1).toNat)
  case atStart => exact ⟨0, rfl, by omega, b0, b1, HU.out.mono (fun _ _ h => h.elim)⟩
  case round =>
    obtain ⟨k, rfl, hk, hb0, hb1, hU⟩ := hrel
    have hq : wr.heap[b]? = w.heap[b]? := hU.block b (by have := HB.out; omega) (by omega)
    have hne : ¬ b = B + 1 := by omega
    obtain rfl | rfl | rfl | rfl | rfl : k = 0 ∨ k = 1 ∨ k = 2 ∨ k = 3 ∨ k = 4 := by omega
    · have g : wr.cell? ⟨b, off + 3, none⟩ = some (.int .i64 x3) := by rw [World.cell?_of_block hq]; exact c3
      have g' : wr.cell? ⟨b, off + 7, none⟩ = some (.int .i64 x7) := by rw [World.cell?_of_block hq]; exact c7
      have HE1 := Lib.hid (show (([x7, x6, x5, x4] : List Int).take 1).foldl (fun a x => a * 65536 + x) 0 = (([x7, x6, x5, x4] : List Int).take 0).foldl (fun a x => a * 65536 + x) 0 * 65536 + x7 from rfl)
      have HE2 := Lib.hid (show (([x3, x2, x1, x0] : List Int).take 1).foldl (fun a x => a * 65536 + x) 0 = (([x3, x2, x1, x0] : List Int).take 0).foldl (fun a x => a * 65536 + x) 0 * 65536 + x3 from rfl)
      have r1 : 0 ≤ (([x7, x6, x5, x4] : List Int).take 0).foldl (fun a x => a * 65536 + x) 0 ∧ (([x7, x6, x5, x4] : List Int).take 0).foldl (fun a x => a * 65536 + x) 0 < 1 := by simp only [List.take_succ_cons, List.take_zero, List.foldl_cons, List.foldl_nil]; omega
      have r2 : 0 ≤ (([x3, x2, x1, x0] : List Int).take 0).foldl (fun a x => a * 65536 + x) 0 ∧ (([x3, x2, x1, x0] : List Int).take 0).foldl (fun a x => a * 65536 + x) 0 < 1 := by simp only [List.take_succ_cons, List.take_zero, List.foldl_cons, List.foldl_nil]; omega
      generalize (([x7, x6, x5, x4] : List Int).take 0).foldl (fun a x => a * 65536 + x) 0 = hi at hb1 HE1 r1
      generalize (([x3, x2, x1, x0] : List Int).take 0).foldl (fun a x => a * 65536 + x) 0 = lo at hb1 HE2 r2
      have n0 : wr.cell? ⟨B + 1, 0, none⟩ = some (.int .u64 hi) := hb1.cell 0
      have n1 : wr.cell? ⟨B + 1, 1, none⟩ = some (.int .u64 lo) := hb1.cell 1
      have z0 : wr.frozen? ⟨B + 1, 0, none⟩ = false := hb1.frozen 0
      have z1 : wr.frozen? ⟨B + 1, 1, none⟩ = false := hb1.frozen 1
      go_wp2_with fail
      go_region
      go_wp2_with fail
      go_region
      go_wp2_with fail
      go_roundw
      case rel => exact ⟨1, by simp, by omega, by simp (disch := first | omega | (simp only [sz_setCell, sz_alloc, sz_drew, sz_drewN]; done) | (simp only [sz_setCell, sz_alloc, sz_drew, sz_drewN]; omega)) [Blk, hp_same, hp_ne, hp_alloc, hp_new', hp_drew, hp_drewN, Obj.put, show hp wr B = _ from hb0], by rw [HE1.out, HE2.out]; simp (disch := first | omega | (simp only [sz_setCell, sz_alloc, sz_drew, sz_drewN]; done) | (simp only [sz_setCell, sz_alloc, sz_drew, sz_drewN]; omega)) [Blk, hp_same, hp_ne, hp_alloc, hp_new', hp_drew, hp_drewN, Obj.put, show hp wr (B + 1) = _ from hb1], ((((hU.setCell ⟨B + 1, 1, none⟩ _ (.inl (by show B ≤ B + 1; omega))).drew).setCell ⟨B + 1, 0, none⟩ _ (.inl (by show B ≤ B + 1; omega))).drew)⟩
      case measure => simp [intOf]
    · have g : wr.cell? ⟨b, off + 2, none⟩ = some (.int .i64 x2) := by rw [World.cell?_of_block hq]; exact c2
      have g' : wr.cell? ⟨b, off + 6, none⟩ = some (.int .i64 x6) := by rw [World.cell?_of_block hq]; exact c6
      have HE1 := Lib.hid (show (([x7, x6, x5, x4] : List Int).take 2).foldl (fun a x => a * 65536 + x) 0 = (([x7, x6, x5, x4] : List Int).take 1).foldl (fun a x => a * 65536 + x) 0 * 65536 + x6 from rfl)
      have HE2 := Lib.hid (show (([x3, x2, x1, x0] : List Int).take 2).foldl (fun a x => a * 65536 + x) 0 = (([x3, x2, x1, x0] : List Int).take 1).foldl (fun a x => a * 65536 + x) 0 * 65536 + x2 from rfl)
      have r1 : 0 ≤ (([x7, x6, x5, x4] : List Int).take 1).foldl (fun a x => a * 65536 + x) 0 ∧ (([x7, x6, x5, x4] : List Int).take 1).foldl (fun a x => a * 65536 + x) 0 < 65536 := by simp only [List.take_succ_cons, List.take_zero, List.foldl_cons, List.foldl_nil]; omega
      have r2 : 0 ≤ (([x3, x2, x1, x0] : List Int).take 1).foldl (fun a x => a * 65536 + x) 0 ∧ (([x3, x2, x1, x0] : List Int).take 1).foldl (fun a x => a * 65536 + x) 0 < 65536 := by simp only [List.take_succ_cons, List.take_zero, List.foldl_cons, List.foldl_nil]; omega
      generalize (([x7, x6, x5, x4] : List Int).take 1).foldl (fun a x => a * 65536 + x) 0 = hi at hb1 HE1 r1
      generalize (([x3, x2, x1, x0] : List Int).take 1).foldl (fun a x => a * 65536 + x) 0 = lo at hb1 HE2 r2
      have n0 : wr.cell? ⟨B + 1, 0, none⟩ = some (.int .u64 hi) := hb1.cell 0
      have n1 : wr.cell? ⟨B + 1, 1, none⟩ = some (.int .u64 lo) := hb1.cell 1
      have z0 : wr.frozen? ⟨B + 1, 0, none⟩ = false := hb1.frozen 0
      have z1 : wr.frozen? ⟨B + 1, 1, none⟩ = false := hb1.frozen 1
      go_wp2_with fail
      go_region
      go_wp2_with fail
      go_region
      go_wp2_with fail
      go_roundw
      case rel => exact ⟨2, by simp, by omega, by simp (disch := first | omega | (simp only [sz_setCell, sz_alloc, sz_drew, sz_drewN]; done) | (simp only [sz_setCell, sz_alloc, sz_drew, sz_drewN]; omega)) [Blk, hp_same, hp_ne, hp_alloc, hp_new', hp_drew, hp_drewN, Obj.put, show hp wr B = _ from hb0], by rw [HE1.out, HE2.out]; simp (disch := first | omega | (simp only [sz_setCell, sz_alloc, sz_drew, sz_drewN]; done) | (simp only [sz_setCell, sz_alloc, sz_drew, sz_drewN]; omega)) [Blk, hp_same, hp_ne, hp_alloc, hp_new', hp_drew, hp_drewN, Obj.put, show hp wr (B + 1) = _ from hb1], ((((hU.setCell ⟨B + 1, 1, none⟩ _ (.inl (by show B ≤ B + 1; omega))).drew).setCell ⟨B + 1, 0, none⟩ _ (.inl (by show B ≤ B + 1; omega))).drew)⟩
      case measure => simp [intOf]
    · have g : wr.cell? ⟨b, off + 1, none⟩ = some (.int .i64 x1) := by rw [World.cell?_of_block hq]; exact c1
      have g' : wr.cell? ⟨b, off + 5, none⟩ = some (.int .i64 x5) := by rw [World.cell?_of_block hq]; exact c5
      have HE1 := Lib.hid (show (([x7, x6, x5, x4] : List Int).take 3).foldl (fun a x => a * 65536 + x) 0 = (([x7, x6, x5, x4] : List Int).take 2).foldl (fun a x => a * 65536 + x) 0 * 65536 + x5 from rfl)
      have HE2 := Lib.hid (show (([x3, x2, x1, x0] : List Int).take 3).foldl (fun a x => a * 65536 + x) 0 = (([x3, x2, x1, x0] : List Int).take 2).foldl (fun a x => a * 65536 + x) 0 * 65536 + x1 from rfl)
      have r1 : 0 ≤ (([x7, x6, x5, x4] : List Int).take 2).foldl (fun a x => a * 65536 + x) 0 ∧ (([x7, x6, x5, x4] : List Int).take 2).foldl (fun a x => a * 65536 + x) 0 < 4294967296 := by simp only [List.take_succ_cons, List.take_zero, List.foldl_cons, List.foldl_nil]; omega
      have r2 : 0 ≤ (([x3, x2, x1, x0] : List Int).take 2).foldl (fun a x => a * 65536 + x) 0 ∧ (([x3, x2, x1, x0] : List Int).take 2).foldl (fun a x => a * 65536 + x) 0 < 4294967296 := by simp only [List.take_succ_cons, List.take_zero, List.foldl_cons, List.foldl_nil]; omega
      generalize (([x7, x6, x5, x4] : List Int).take 2).foldl (fun a x => a * 65536 + x) 0 = hi at hb1 HE1 r1
      generalize (([x3, x2, x1, x0] : List Int).take 2).foldl (fun a x => a * 65536 + x) 0 = lo at hb1 HE2 r2
      have n0 : wr.cell? ⟨B + 1, 0, none⟩ = some (.int .u64 hi) := hb1.cell 0
      have n1 : wr.cell? ⟨B + 1, 1, none⟩ = some (.int .u64 lo) := hb1.cell 1
      have z0 : wr.frozen? ⟨B + 1, 0, none⟩ = false := hb1.frozen 0
      have z1 : wr.frozen? ⟨B + 1, 1, none⟩ = false := hb1.frozen 1
      go_wp2_with fail
      go_region
      go_wp2_with fail
      go_region
      go_wp2_with fail
      go_roundw
      case rel => exact ⟨3, by simp, by omega, by simp (disch := first | omega | (simp only [sz_setCell, sz_alloc, sz_drew, sz_drewN]; done) | (simp only [sz_setCell, sz_alloc, sz_drew, sz_drewN]; omega)) [Blk, hp_same, hp_ne, hp_alloc, hp_new', hp_drew, hp_drewN, Obj.put, show hp wr B = _ from hb0], by rw [HE1.out, HE2.out]; simp (disch := first | omega | (simp only [sz_setCell, sz_alloc, sz_drew, sz_drewN]; done) | (simp only [sz_setCell, sz_alloc, sz_drew, sz_drewN]; omega)) [Blk, hp_same, hp_ne, hp_alloc, hp_new', hp_drew, hp_drewN, Obj.put, show hp wr (B + 1) = _ from hb1], ((((hU.setCell ⟨B + 1, 1, none⟩ _ (.inl (by show B ≤ B + 1; omega))).drew).setCell ⟨B + 1, 0, none⟩ _ (.inl (by show B ≤ B + 1; omega))).drew)⟩
      case measure => simp [intOf]
    · have g : wr.cell? ⟨b, off, none⟩ = some (.int .i64 x0) := by rw [World.cell?_of_block hq]; exact c0
      have g' : wr.cell? ⟨b, off + 4, none⟩ = some (.int .i64 x4) := by rw [World.cell?_of_block hq]; exact c4
      have HE1 := Lib.hid (show (([x7, x6, x5, x4] : List Int).take 4).foldl (fun a x => a * 65536 + x) 0 = (([x7, x6, x5, x4] : List Int).take 3).foldl (fun a x => a * 65536 + x) 0 * 65536 + x4 from rfl)
      have HE2 := Lib.hid (show (([x3, x2, x1, x0] : List Int).take 4).foldl (fun a x => a * 65536 + x) 0 = (([x3, x2, x1, x0] : List Int).take 3).foldl (fun a x => a * 65536 + x) 0 * 65536 + x0 from rfl)
      have r1 : 0 ≤ (([x7, x6, x5, x4] : List Int).take 3).foldl (fun a x => a * 65536 + x) 0 ∧ (([x7, x6, x5, x4] : List Int).take 3).foldl (fun a x => a * 65536 + x) 0 < 281474976710656 := by simp only [List.take_succ_cons, List.take_zero, List.foldl_cons, List.foldl_nil]; omega
      have r2 : 0 ≤ (([x3, x2, x1, x0] : List Int).take 3).foldl (fun a x => a * 65536 + x) 0 ∧ (([x3, x2, x1, x0] : List Int).take 3).foldl (fun a x => a * 65536 + x) 0 < 281474976710656 := by simp only [List.take_succ_cons, List.take_zero, List.foldl_cons, List.foldl_nil]; omega
      generalize (([x7, x6, x5, x4] : List Int).take 3).foldl (fun a x => a * 65536 + x) 0 = hi at hb1 HE1 r1
      generalize (([x3, x2, x1, x0] : List Int).take 3).foldl (fun a x => a * 65536 + x) 0 = lo at hb1 HE2 r2
      have n0 : wr.cell? ⟨B + 1, 0, none⟩ = some (.int .u64 hi) := hb1.cell 0
      have n1 : wr.cell? ⟨B + 1, 1, none⟩ = some (.int .u64 lo) := hb1.cell 1
      have z0 : wr.frozen? ⟨B + 1, 0, none⟩ = false := hb1.frozen 0
      have z1 : wr.frozen? ⟨B + 1, 1, none⟩ = false := hb1.frozen 1
      go_wp2_with fail
      go_region
      go_wp2_with fail
      go_region
      go_wp2_with fail
      go_roundw
      case rel => exact ⟨4, by simp, by omega, by simp (disch := first | omega | (simp only [sz_setCell, sz_alloc, sz_drew, sz_drewN]; done) | (simp only [sz_setCell, sz_alloc, sz_drew, sz_drewN]; omega)) [Blk, hp_same, hp_ne, hp_alloc, hp_new', hp_drew, hp_drewN, Obj.put, show hp wr B = _ from hb0], by rw [HE1.out, HE2.out]; simp (disch := first | omega | (simp only [sz_setCell, sz_alloc, sz_drew, sz_drewN]; done) | (simp only [sz_setCell, sz_alloc, sz_drew, sz_drewN]; omega)) [Blk, hp_same, hp_ne, hp_alloc, hp_new', hp_drew, hp_drewN, Obj.put, show hp wr (B + 1) = _ from hb1], ((((hU.setCell ⟨B + 1, 1, none⟩ _ (.inl (by show B ≤ B + 1; omega))).drew).setCell ⟨B + 1, 0, none⟩ _ (.inl (by show B ≤ B + 1; omega))).drew)⟩
      case measure => simp [intOf]
    · have hv : Blk wr (B + 1) #[.int .u64 (((x7 * 65536 + x6) * 65536 + x5) * 65536 + x4), .int .u64 (((x3 * 65536 + x2) * 65536 + x1) * 65536 + x0)] 137 := by
        have e1 : (([x7, x6, x5, x4] : List Int).take 4).foldl (fun a x => a * 65536 + x) 0 = ((x7 * 65536 + x6) * 65536 + x5) * 65536 + x4 := by simp
        have e2 : (([x3, x2, x1, x0] : List Int).take 4).foldl (fun a x => a * 65536 + x) 0 = ((x3 * 65536 + x2) * 65536 + x1) * 65536 + x0 := by simp
        rw [← e1, ← e2]; exact hb1
      clear hb1
      generalize e1 : ((x7 * 65536 + x6) * 65536 + x5) * 65536 + x4 = hi at hv
      generalize e2 : ((x3 * 65536 + x2) * 65536 + x1) * 65536 + x0 = lo at hv
      have HE1 := Lib.hid e1
      have HE2 := Lib.hid e2
      clear e1 e2
      have n0 : wr.cell? ⟨B + 1, 0, none⟩ = some (.int .u64 hi) := hv.cell 0
      have n1 : wr.cell? ⟨B + 1, 1, none⟩ = some (.int .u64 lo) := hv.cell 1
      have m0 : wr.cell? ⟨B, 0, none⟩ = some (.int .u64 0) := hb0.cell 0
      have m1 : wr.cell? ⟨B, 1, none⟩ = some (.int .u64 0) := hb0.cell 1
      have z0 : wr.frozen? ⟨B, 0, none⟩ = false := hb0.frozen 0
      have z1 : wr.frozen? ⟨B, 1, none⟩ = false := hb0.frozen 1
      go_wp2_with fail
      (try simp only [Exit.inBlock, Exit.then])
      refine bodyPost_ret (results_cell_row rfl _ _ B 137 #[.int .u64 hi, .int .u64 lo] (0, 0) _ rfl (by show hp _ B = _; simp (disch := first | omega | (simp only [sz_setCell, sz_alloc, sz_drew, sz_drewN]; done) | (simp only [sz_setCell, sz_alloc, sz_drew, sz_drewN]; omega)) [Blk, hp_same, hp_ne, hp_alloc, hp_new', hp_drew, hp_drewN, Obj.put, show hp wr B = _ from hb0]) Try.underlying137 rfl (by kernel_rfl)) rfl ?_
      exact ⟨by rw [HE1.out, HE2.out], ((hU.setCell ⟨B, 0, none⟩ _ (.inl (Nat.le_refl _))).setCell ⟨B, 1, none⟩ _ (.inl (Nat.le_refl _))).mono (fun i hi h => by have := HB.out; omega)⟩
end Go.Proofs.Yteaihgjjplgalaa
