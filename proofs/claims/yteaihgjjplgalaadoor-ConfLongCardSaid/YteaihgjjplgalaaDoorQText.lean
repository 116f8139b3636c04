/- The reference's text of a config, as the print has it, is the config's lines: plain laws. -/
import Derived.Test.YteaihgjjplgalaaDoorDoorText
import Derived.Test.YteaihgjjplgalaaDoorPConfOrdersx2
namespace Go.Proofs.YteaihgjjplgalaaDoor
open Go.RowKit Go.Proofs.YteaihgjjplgalaaDoorW.PrintWords Go.Proofs.YteaihgjjplgalaaDoorW.PrintLast Go.Proofs.YteaihgjjplgalaaDoorW.PrintMore
open Go.Proofs.YteaihgjjplgalaaDoor.PConfOrders
set_option linter.unusedVariables false
set_option linter.unusedSimpArgs false

/-- From some number of rounds on it is r. -/
def Ev {α : Type} (F : Nat → Option α) (r : α) : Prop := ∃ K, ∀ k, K ≤ k → F k = some r
theorem Ev.const {α : Type} (r : α) : Ev (fun _ => some r) r := ⟨0, fun _ _ => rfl⟩
/-- bytes of a list -/
def BA (l : List UInt8) : ByteArray := ⟨l.toArray⟩
theorem BA_app (a b : List UInt8) : BA a ++ BA b = BA (a ++ b) := by
  apply ByteArray.ext
  rw [ByteArray.data_append]
  simp [BA]
theorem BA_size (a : List UInt8) : (BA a).size = a.length := by
  show a.toArray.size = _
  simp
theorem BA_list (a : List UInt8) : (BA a).toList = a := by rw [ByteArray.toList_eq]; simp [BA]
theorem BA_data (a : List UInt8) : (BA a).data.toList = a := by simp [BA]
theorem BA_of (s : ByteArray) : BA s.data.toList = s := by cases s; simp [BA]
theorem u64_w (x : Int) : IntKind.u64.wrap x = x % 18446744073709551616 := rfl
theorem digit_is (d : Int) (h0 : 0 ≤ d) (h9 : d ≤ 9) : (⟨#[48, 49, 50, 51, 52, 53, 54, 55, 56, 57]⟩ : ByteArray).extract (d : Int).toNat ((IntKind.u64.wrap (d + 1)) : Int).toNat = BA [UInt8.ofNat (48 + d.toNat)] := by
  have : d = 0 ∨ d = 1 ∨ d = 2 ∨ d = 3 ∨ d = 4 ∨ d = 5 ∨ d = 6 ∨ d = 7 ∨ d = 8 ∨ d = 9 := by omega
  rcases this with rfl | rfl | rfl | rfl | rfl | rfl | rfl | rfl | rfl | rfl <;> rfl
theorem dec_len : ∀ (n u : Nat), u < 10 ^ n → (Lib.decDigits u).length ≤ n + 1
  | 0, u, h => by
    unfold Lib.decDigits
    rw [dif_pos (by simp at h; omega)]
    simp
  | n + 1, u, h => by
    unfold Lib.decDigits
    by_cases hu : u < 10
    · rw [dif_pos hu]; simp
    · rw [dif_neg hu, List.length_append, List.length_singleton]
      have := dec_len n (u / 10) (by rw [Nat.pow_succ] at h; omega)
      omega
theorem size_ev (u : Nat) (hu : u ≤ 18446744073709551615) : Ev (fun k => overfallref13_size.f k (u : Int)) (BA (Lib.decDigits u)) := by
  induction u using Nat.strongRecOn with
  | _ u ih =>
    have hm : Int.tmod (u : Int) 10 = ((u % 10 : Nat) : Int) := by rw [Int.tmod_eq_emod_of_nonneg (by omega)]; omega
    have hd : Int.tdiv (u : Int) 10 = ((u / 10 : Nat) : Int) := by rw [Int.tdiv_eq_ediv_of_nonneg (by omega)]; omega
    have hw : IntKind.u64.wrap (((u % 10 : Nat) : Int) + 1) = ((u % 10 : Nat) : Int) + 1 := by rw [u64_w]; omega
    have hw2 : IntKind.u64.wrap ((u / 10 : Nat) : Int) = ((u / 10 : Nat) : Int) := by rw [u64_w]; omega
    have hdig := digit_is ((u % 10 : Nat) : Int) (by omega) (by omega)
    rw [hw] at hdig
    by_cases h : u < 10
    · refine ⟨1, fun k hk => ?_⟩
      obtain ⟨k, rfl⟩ : ∃ j, k = j + 1 := ⟨k - 1, by omega⟩
      show overfallref13_size.f (k + 1) (u : Int) = _
      unfold overfallref13_size.f
      rw [hm, hw, if_pos (by omega), if_pos (by omega), if_pos (by omega), if_pos (by omega), hdig]
      have e : u % 10 = u := by omega
      unfold Lib.decDigits
      rw [dif_pos h, e]
      rfl
    · obtain ⟨K, hK⟩ := ih (u / 10) (by omega) (by omega)
      refine ⟨K + 1, fun k hk => ?_⟩
      obtain ⟨k, rfl⟩ : ∃ j, k = j + 1 := ⟨k - 1, by omega⟩
      have hq : overfallref13_size.f k ((u / 10 : Nat) : Int) = some (BA (Lib.decDigits (u / 10))) := hK k (by omega)
      show overfallref13_size.f (k + 1) (u : Int) = _
      unfold overfallref13_size.f
      rw [hm, hd, hw, hw2, if_pos (by omega), if_pos (by omega), if_pos (by omega), if_neg (by omega), hdig, hq, Option.bind_some]
      have hl := dec_len 20 (u / 10) (by omega)
      rw [BA_size, BA_size, if_pos (by simp only [List.length_singleton]; omega), BA_app]
      congr 2
      conv => rhs; unfold Lib.decDigits
      rw [dif_neg h]
      congr 2
theorem dec_ev (n : Int) (h0 : -9223372036854775808 ≤ n) (h1 : n ≤ 9223372036854775807) : Ev (fun k => overfallref13_Dec.f k n) (BA (Lib.itoa n)) := by
  by_cases hn : n < 0
  · obtain ⟨K, hK⟩ := size_ev n.natAbs (by omega)
    refine ⟨K, fun k hk => ?_⟩
    show overfallref13_Dec.f k n = _
    unfold overfallref13_Dec.f
    have e : IntKind.u64.wrap ((IntKind.u64.wrap (wrap64 (-(wrap64 (n + 1))))) + 1) = (n.natAbs : Int) := by rw [u64_w, u64_w]; simp only [wrap64]; omega
    have hl := dec_len 20 n.natAbs (by omega)
    have hq : overfallref13_size.f k (n.natAbs : Int) = _ := hK k hk
    rw [if_pos hn, e, hq, Option.bind_some, BA_size, if_pos (by omega)]
    have e2 : (⟨#[45]⟩ : ByteArray) = BA [45] := rfl
    rw [e2, BA_app]
    unfold Lib.itoa
    rw [if_pos hn]
    rfl
  · obtain ⟨K, hK⟩ := size_ev n.toNat (by omega)
    refine ⟨K, fun k hk => ?_⟩
    show overfallref13_Dec.f k n = _
    unfold overfallref13_Dec.f
    have e : IntKind.u64.wrap n = (n.toNat : Int) := by rw [u64_w]; omega
    have hq : overfallref13_size.f k (n.toNat : Int) = _ := hK k hk
    rw [if_neg hn, e, hq]
    unfold Lib.itoa
    rw [if_neg hn]
    rfl
theorem names_is : overfallref13_Names.f = some (namesL.map BA) := by
  have h : namesL = [[116, 105, 101, 114, 115], [114, 111, 111, 109], [116, 97, 114, 103, 101, 116], [105, 110, 116, 101, 114, 118, 97, 108], [104, 105, 103, 104], [108, 111, 119], [100, 119, 101, 108, 108], [104, 111, 114, 105, 122, 111, 110], [115, 101, 116, 112, 111, 105, 110, 116], [107, 112], [107, 105], [107, 100], [108, 105, 109, 105, 116], [115, 116, 101, 112], [116, 104, 114, 101, 97, 100, 115], [114, 105, 110, 103]] := by decide +kernel
  rw [h]
  rfl
theorem flat_append (a b : List (List UInt8)) : flat (a ++ b) = flat a ++ flat b := by unfold flat; exact List.flatMap_append
theorem text_loop (ns : List Int) (hl : ns.length = 16) (hn : ∀ v ∈ ns, -9223372036854775808 ≤ v ∧ v ≤ 9223372036854775807) : ∀ (m i : Nat), i + m = 16 → Ev (fun k => overfallref13_Text.l0 k ns (BA (flat ((List.range i).map (lineOf ns)))) (namesL.map BA) 16 (i : Int)) (BA (confText ns))
  | 0, i, h => by
    obtain rfl : i = 16 := by omega
    refine ⟨1, fun k hk => ?_⟩
    obtain ⟨k, rfl⟩ : ∃ j, k = j + 1 := ⟨k - 1, by omega⟩
    show overfallref13_Text.l0 (k + 1) _ _ _ _ _ = _
    unfold overfallref13_Text.l0
    rw [if_neg (by omega)]
    rfl
  | m + 1, i, h => by
    obtain ⟨K1, hK1⟩ := text_loop ns hl hn m (i + 1) (by omega)
    have hb : -9223372036854775808 ≤ ns.getD i 0 ∧ ns.getD i 0 ≤ 9223372036854775807 := by
      rw [List.getD_eq_getElem?_getD]
      cases hq : ns[i]? with
      | none => simp
      | some v => exact hn v (List.mem_of_getElem? hq)
    obtain ⟨K2, hK2⟩ := dec_ev (ns.getD i 0) hb.1 hb.2
    refine ⟨K1 + K2 + 1, fun k hk => ?_⟩
    obtain ⟨k, rfl⟩ : ∃ j, k = j + 1 := ⟨k - 1, by omega⟩
    have h1 := hK1 k (by omega)
    have h2 : overfallref13_Dec.f k (ns.getD i 0) = _ := hK2 k (by omega)
    show overfallref13_Text.l0 (k + 1) _ _ _ _ _ = _
    unfold overfallref13_Text.l0
    have hnl : (namesL.map BA).length = 16 := by rw [List.length_map]; exact names_len
    have hrd : rd ns (i : Int) = ns.getD i 0 := by simp [rd]
    have hrn : rdOf ByteArray.empty (namesL.map BA) (i : Int) = BA (namesL.getD i []) := by
      have : i < namesL.length := by rw [names_len]; omega
      simp [rdOf, List.getD_eq_getElem?_getD, List.getElem?_eq_getElem this]
    have hlen := line_len ns hn i (by omega)
    have hfl := flat_len ((List.range i).map (lineOf ns)) (fun l hl => by
      obtain ⟨j, hj, rfl⟩ := List.mem_map.1 hl
      exact line_len ns hn j (by have := List.mem_range.1 hj; omega))
    rw [List.length_map, List.length_range] at hfl
    have hln : (lineOf ns i).length = (namesL.getD i []).length + ((Lib.itoa (ns.getD i 0)).length + 1) := by unfold lineOf; rw [List.length_append, List.length_cons]
    have e32 : (⟨#[32]⟩ : ByteArray) = BA [32] := rfl
    have e10 : (⟨#[10]⟩ : ByteArray) = BA [10] := rfl
    rw [hrd, hrn, h2, e32, e10, if_pos (by omega), if_pos (by omega), if_pos (by rw [hnl]; omega), BA_size, if_pos (by omega), if_pos (by omega), Option.bind_some]
    rw [BA_app, BA_app, BA_app, BA_app, BA_size, BA_size, BA_size, BA_size, BA_size]
    rw [if_pos (by simp only [List.length_append, List.length_singleton]; omega), if_pos (by simp only [List.length_append, List.length_singleton]; omega), if_pos (by simp only [List.length_append, List.length_singleton]; omega)]
    have hw : wrap64 ((i : Int) + 1) = ((i + 1 : Nat) : Int) := by simp only [wrap64]; omega
    rw [hw]
    have hf : flat ((List.range i).map (lineOf ns)) ++ (((namesL.getD i [] ++ [32]) ++ Lib.itoa (ns.getD i 0)) ++ [10]) = flat ((List.range (i + 1)).map (lineOf ns)) := by
      rw [List.range_succ, List.map_append, flat_append]
      congr 1
      unfold flat lineOf
      simp
    rw [hf]
    exact h1
theorem text_ev (ns : List Int) (hl : ns.length = 16) (hn : ∀ v ∈ ns, -9223372036854775808 ≤ v ∧ v ≤ 9223372036854775807) : Ev (fun k => overfallref13_Text.f k ns) (BA (confText ns)) := by
  obtain ⟨K, hK⟩ := text_loop ns hl hn 16 0 rfl
  refine ⟨K, fun k hk => ?_⟩
  show overfallref13_Text.f k ns = _
  unfold overfallref13_Text.f
  rw [names_is, Option.bind_some, List.length_map, names_len]
  exact hK k hk
end Go.Proofs.YteaihgjjplgalaaDoor
