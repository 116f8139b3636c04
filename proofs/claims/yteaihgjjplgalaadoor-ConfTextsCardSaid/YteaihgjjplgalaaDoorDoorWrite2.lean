/- conf.Text writes a config's lines. -/
import Derived.Test.YteaihgjjplgalaaDoorDoorWrite
import Derived.Test.YteaihgjjplgalaaDoorDoorParse
namespace Go.Proofs.YteaihgjjplgalaaDoor
open Go.RowKit Go.Proofs.YteaihgjjplgalaaDoorW.PrintWords Go.Proofs.YteaihgjjplgalaaDoorW.PrintLast Go.Proofs.YteaihgjjplgalaaDoorW.PrintMore
set_option linter.unusedVariables false
set_option linter.unusedSimpArgs false

/-- What holds after i lines. -/
structure TextI (w0 : World) (ns : List Int) (b g f : Nat) (i : Nat) (w : World) : Prop where
  hb : w.heap[b]? = some (.cells (ns.map (Value.int .i64)).toArray 2 (0, 0))
  hf : w.heap[f]? = some (.cells (namesL.map fun l => Value.string ⟨l.toArray⟩).toArray 9 (0, 0))
  hg : Lib.IsBuilder 75 5 g g (Lib.byteCells (flat ((List.range i).map (lineOf ns)))) w
  lg : w0.heap.size ≤ g
  lb : b < g
  lf : f < w.heap.size
  bel : Below w0.heap.size w0 w
theorem name_cell {w0 w : World} {ns : List Int} {b g f i : Nat} (h : TextI w0 ns b g f i w) (hi : i < 16) : w.cell? ⟨f, i, none⟩ = some (.string ⟨(namesL.getD i []).toArray⟩) := by
  rw [blk_cell h.hf i]
  have : i < namesL.length := by rw [names_len]; omega
  simp [List.getD_eq_getElem?_getD, List.getElem?_eq_getElem this]
theorem num_cell {w0 w : World} {ns : List Int} {b g f i : Nat} (h : TextI w0 ns b g f i w) (hl : ns.length = 16) (hi : i < 16) : w.cell? ⟨b, i, none⟩ = some (.int .i64 (ns.getD i 0)) := by
  rw [blk_cell h.hb i]
  simp [List.getD_eq_getElem?_getD, List.getElem?_eq_getElem (show i < ns.length by omega)]
theorem owns_kept {w w' : World} {B : Nat} {e : TypeId} {v : Value} {n : Nat} {xs : List Value} (h : w.ownsRow B e 1 v n xs) (hk : ∀ b, v.ownBlock = some b → w'.heap[b]? = w.heap[b]?) : w'.ownsRow B e 1 v n xs := by
  refine ⟨h.1, ?_⟩
  rcases h.2 with h0 | ⟨g, cap, cur, rfl, hb, hg, h1⟩
  · exact .inl h0
  · exact .inr ⟨g, cap, cur, rfl, hb, (hk g rfl).trans hg, h1⟩
theorem is_below {T e : TypeId} {B b : Nat} {bs : List Value} {w w' : World} (h : Lib.IsBuilder T e B b bs w) (hb : Below w.heap.size w w') : Lib.IsBuilder T e B b bs w' := by
  have key : ∀ p, Lib.BuilderAt T e B b p bs w → Lib.BuilderAt T e B b p bs w' := by
    rintro p ⟨hB, v, hbk, hown, hne⟩
    exact ⟨hB, v, (hb.block b (blk_lt hbk)).trans hbk, owns_kept hown (fun k hk => hb.block k (World.ownsRow.lt hown k hk).2), hne⟩
  rcases h with h | h
  · exact .inl (key _ h)
  · exact .inr (key _ h)
theorem is_alloc {T e : TypeId} {B b : Nat} {bs : List Value} {w : World} (h : Lib.IsBuilder T e B b bs w) (hlt : b < w.heap.size) (o : Obj) : Lib.IsBuilder T e B b bs (w.alloc o) := is_below h ((Below.refl _ _).alloc (Nat.le_refl _) o)
theorem is_lt {T e : TypeId} {B b : Nat} {bs : List Value} {w : World} (h : Lib.IsBuilder T e B b bs w) : b < w.heap.size := by
  rcases h with h | h
  · exact h.lt
  · exact h.lt
theorem TextI.below {w0 : World} {ns : List Int} {b g f i : Nat} {w w' : World} (h : TextI w0 ns b g f i w) (hb : Below w.heap.size w w') : TextI w0 ns b g f i w' :=
  { hb := (hb.block b (blk_lt h.hb)).trans h.hb, hf := (hb.block f h.lf).trans h.hf, hg := is_below h.hg hb, lg := h.lg, lb := h.lb, lf := Nat.lt_of_lt_of_le h.lf hb.size, bel := h.bel.trans (hb.mono h.bel.size) }
theorem TextI.write {w0 : World} {ns : List Int} {b g f i : Nat} {w w' : World} (h : TextI w0 ns b g f i w) (s : ByteArray) (hs : s.data.toList = lineOf ns i ++ [10])
    (h1 : Lib.BuilderAt 75 5 g g (.pointer (some ⟨g, 0, none⟩)) (Lib.byteCells (flat ((List.range i).map (lineOf ns))) ++ Lib.strCells s) w') (h2 : Below g w w')
    (h3 : ∀ (k : Nat) (c : Array Value) (T' : TypeId) (fr : Nat × Nat), k ≠ g → T' ≠ 5 → w.heap[k]? = some (.cells c T' fr) → w'.heap[k]? = some (.cells c T' fr)) : TextI w0 ns b g f (i + 1) w' := by
  have hfg : f ≠ g := by
    intro e
    subst e
    have hh := h.hf
    rcases h.hg with ⟨_, v, hbk, _⟩ | ⟨_, v, hbk, _⟩
    · rw [hbk] at hh; injection hh with hh; injection hh with _ hh; exact absurd hh (by decide)
    · rw [hbk] at hh; injection hh with hh; injection hh with _ hh; exact absurd hh (by decide)
  refine { hb := h3 b _ _ _ (Nat.ne_of_lt h.lb) (by decide) h.hb, hf := h3 f _ _ _ hfg (by decide) h.hf, hg := .inr ?_, lg := h.lg, lb := h.lb, lf := Nat.lt_of_lt_of_le h.lf h2.size, bel := h.bel.trans (h2.mono h.lg) }
  have e : Lib.byteCells (flat ((List.range i).map (lineOf ns))) ++ Lib.strCells s = Lib.byteCells (flat ((List.range (i + 1)).map (lineOf ns))) := by
    have e1 : Lib.strCells s = Lib.byteCells (lineOf ns i ++ [10]) := by
      rw [← hs]
      rfl
    rw [e1, List.range_succ, List.map_append]
    unfold Lib.byteCells flat
    rw [List.flatMap_append, List.map_append]
    simp
  rw [← e]
  exact h1
theorem cat_list (a b : ByteArray) : (a ++ b).data.toList = a.data.toList ++ b.data.toList := by rw [ByteArray.data_append]; simp
theorem line_sizes (ns : List Int) (hn : ∀ v ∈ ns, -9223372036854775808 ≤ v ∧ v ≤ 9223372036854775807) (k : Nat) (hk : k < 16) : (flat ((List.range k).map (lineOf ns))).length ≤ 656 ∧ (namesL.getD k []).length + (Lib.itoa (ns.getD k 0)).length + 1 ≤ 40 := by
  have h1 := flat_len ((List.range k).map (lineOf ns)) (fun l hl => by
    obtain ⟨j, hj, rfl⟩ := List.mem_map.1 hl
    exact line_len ns hn j (by have := List.mem_range.1 hj; omega))
  rw [List.length_map, List.length_range] at h1
  have h2 := line_len ns hn k hk
  unfold lineOf at h2
  rw [List.length_append, List.length_cons] at h2
  exact ⟨by omega, by omega⟩
def intOf : Value → Int | .int _ q => q | _ => 0
set_option maxRecDepth 100000 in
set_option maxHeartbeats 8000000 in
theorem text_any (n0 n1 n2 n3 n4 n5 n6 n7 n8 n9 n10 n11 n12 n13 n14 n15 : Int) (hn : ∀ v ∈ [n0, n1, n2, n3, n4, n5, n6, n7, n8, n9, n10, n11, n12, n13, n14, n15], -9223372036854775808 ≤ v ∧ v ≤ 9223372036854775807) (w : World) (hL : LibAt w) :
    Calls Tryd.prog 24 #[.agg #[.int .i64 n0, .int .i64 n1, .int .i64 n2, .int .i64 n3, .int .i64 n4, .int .i64 n5, .int .i64 n6, .int .i64 n7, .int .i64 n8, .int .i64 n9, .int .i64 n10, .int .i64 n11, .int .i64 n12, .int .i64 n13, .int .i64 n14, .int .i64 n15]] w fun e w' => e = .returned (.string ⟨(confText [n0, n1, n2, n3, n4, n5, n6, n7, n8, n9, n10, n11, n12, n13, n14, n15]).toArray⟩) ∧ Below w.heap.size w w' := by
  have HL := Aside0.mk hL
  clear hL
  obtain ⟨ns, hns⟩ : ∃ ns, ns = [n0, n1, n2, n3, n4, n5, n6, n7, n8, n9, n10, n11, n12, n13, n14, n15] := ⟨_, rfl⟩
  have hlen : ns.length = 16 := by rw [hns]; rfl
  rw [← hns] at hn ⊢
  have HN := Aside0.mk hn
  have HNS := Aside0.mk hns
  clear hn hns
  have BK0 := Aside0.mk (heap_alloc_new w (.cells #[.int .i64 n0, .int .i64 n1, .int .i64 n2, .int .i64 n3, .int .i64 n4, .int .i64 n5, .int .i64 n6, .int .i64 n7, .int .i64 n8, .int .i64 n9, .int .i64 n10, .int .i64 n11, .int .i64 n12, .int .i64 n13, .int .i64 n14, .int .i64 n15] 24))
  have HB0 := Aside0.mk ((Below.refl w.heap.size w).alloc (Nat.le_refl _) (.cells #[.int .i64 n0, .int .i64 n1, .int .i64 n2, .int .i64 n3, .int .i64 n4, .int .i64 n5, .int .i64 n6, .int .i64 n7, .int .i64 n8, .int .i64 n9, .int .i64 n10, .int .i64 n11, .int .i64 n12, .int .i64 n13, .int .i64 n14, .int .i64 n15] 24))
  go_enter Tryd.func24, Tryd.ntmps24
  go_wp2_with fail
  refine (numbers_any n0 n1 n2 n3 n4 n5 n6 n7 n8 n9 n10 n11 n12 n13 n14 n15 _).mono ?_
  rintro e w1 ⟨b, rfl, hb0, hb1, hb2⟩
  have HR := Aside0.mk hb1
  have HB1 := Aside0.mk (HB0.out.trans (hb2.mono HB0.out.size))
  have hlb : b < w1.heap.size := blk_lt hb1
  clear hb1 hb2
  go_wp2_with fail
  have HI0 := Aside0.mk (Lib.fresh_isBuilder 75 5 w1)
  have HR1 := Aside0.mk (blk_alloc HR.out (.cells #[.pointer none, .slice none 0 0] 75))
  have HB2 := Aside0.mk (HB1.out.alloc HB1.out.size (.cells #[.pointer none, .slice none 0 0] 75))
  have hlg : w.heap.size ≤ w1.heap.size := HB1.out.size
  have hlg2 : w1.heap.size < (w1.alloc (.cells #[.pointer none, .slice none 0 0] 75)).heap.size := by simp
  generalize w1.alloc (.cells #[.pointer none, .slice none 0 0] 75) = w2 at *
  generalize w1.heap.size = g at *
  clear HR
  refine (fields_names w2 (HL.out.below HB2.out) _ (by decide +kernel)).mono ?_
  rintro e w3 ⟨rfl, rfl⟩
  have HT : Aside0 (TextI w [n0, n1, n2, n3, n4, n5, n6, n7, n8, n9, n10, n11, n12, n13, n14, n15] b g w2.heap.size 0 (w2.alloc (.cells (namesL.map fun l => Value.string ⟨l.toArray⟩).toArray 9))) := ⟨{ hb := blk_alloc HR1.out _, hf := heap_alloc_new w2 _, hg := is_alloc HI0.out hlg2 _, lg := hlg, lb := hlb, lf := by simp, bel := HB2.out.alloc HB2.out.size _ }⟩
  generalize w2.alloc (.cells (namesL.map fun l => Value.string ⟨l.toArray⟩).toArray 9) = W at *
  generalize w2.heap.size = f at *
  clear HB2 HR1 HI0 hlg2 HB1
  rw [← HNS.out] at HT
  clear HNS
  go_wp2_with fail
  go_loopw [11] (fun i wr => ∃ k : Nat, i = .int .i64 k ∧ k ≤ 16 ∧ Aside0 (TextI w ns b g f k wr)) (fun i _ => 16 - (intOf i).toNat)
  case atStart => exact ⟨0, rfl, Nat.zero_le _, HT⟩
  case round =>
    obtain ⟨k, rfl, hk, HK⟩ := hrel
    by_cases hlt : k < 16
    · have hc1 := name_cell HK.out hlt
      have hc2 := num_cell HK.out hlen hlt
      have hb : -9223372036854775808 ≤ ns.getD k 0 ∧ ns.getD k 0 ≤ 9223372036854775807 := by
        rw [List.getD_eq_getElem?_getD, List.getElem?_eq_getElem (by omega)]
        exact HN.out _ (List.getElem_mem _)
      have hsz := line_sizes ns HN.out k hlt
      have HLn := Aside0.mk (show lineOf ns k = namesL.getD k [] ++ 32 :: Lib.itoa (ns.getD k 0) from rfl)
      generalize ns.getD k 0 = x at *
      generalize namesL.getD k [] = nm at *
      have hs1 : (⟨nm.toArray⟩ : ByteArray).size ≤ 40 := by show nm.toArray.size ≤ 40; rw [List.size_toArray]; omega
      have hs2 : (⟨(Lib.itoa x).toArray⟩ : ByteArray).size ≤ 40 := by show (Lib.itoa x).toArray.size ≤ 40; rw [List.size_toArray]; omega
      have hF := fun w' (hb' : Below wr.heap.size wr w') => format_any x hb.1 hb.2 w' ((HL.out.below HK.out.bel).below hb')
      generalize hn1 : (⟨nm.toArray⟩ : ByteArray) = nb at *
      generalize hn2 : (⟨(Lib.itoa x).toArray⟩ : ByteArray) = ib at *
      have HN1 := Lib.hid hn1
      have HN2 := Lib.hid hn2
      have HSZ := Lib.hid hsz
      clear hn1 hn2 hsz
      go_wp2_with fail
      refine (hF _ (Below.refl _ _)).mono ?_
      rintro e wf ⟨rfl, hbf⟩
      have HK2 := Aside0.mk (HK.out.below hbf)
      clear hbf hF hc1 hc2
      have hsW : (((nb ++ (⟨#[32]⟩ : ByteArray)) ++ ib) ++ (⟨#[10]⟩ : ByteArray)).size ≤ 90 := by
        simp only [ByteArray.size_append]
        show nb.size + 1 + ib.size + 1 ≤ 90
        omega
      have HW := Aside0.mk (show (((nb ++ (⟨#[32]⟩ : ByteArray)) ++ ib) ++ (⟨#[10]⟩ : ByteArray)).data.toList = lineOf ns k ++ [10] by
        rw [HLn.out, cat_list, cat_list, cat_list, ← HN1.out, ← HN2.out]
        simp)
      have hWr := write_any g g _ _ wf HK2.out.hg (by rw [Lib.byteCells_length]; have := HSZ.out.1; exact Nat.le_trans (Nat.add_le_add this hsW) (by decide)) (Nat.le_of_lt (is_lt HK2.out.hg))
      go_wp2_with fail
      refine hWr.mono ?_
      rintro e w5 ⟨rfl, h5, h6, h7⟩
      have HK3 := Aside0.mk (HK2.out.write _ HW.out h5 h6 h7)
      clear h5 h6 h7 hWr
      go_wp2_with fail
      go_roundw
      case rel => exact ⟨k + 1, by go_num, by omega, HK3⟩
      case measure => simp [intOf]; omega
    · obtain rfl : k = 16 := by omega
      go_wp2_with fail
      refine (Tryd.Builder_String_any g g _ wr HK.out.hg (by have := HK.out.bel.size; have := HK.out.lg; exact Nat.le_of_lt (is_lt HK.out.hg))).mono ?_
      rintro e we ⟨rfl, hbe⟩
      have HBE := Aside0.mk (HK.out.bel.trans (hbe.mono HK.out.lg))
      clear hbe
      go_wp2_with fail
      go_ret
      exact ⟨rfl, HBE.out⟩
end Go.Proofs.YteaihgjjplgalaaDoor
