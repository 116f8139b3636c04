/- conf.told: a line's name and number. -/
import Derived.Test.YteaihgjjplgalaaDoorDoorShelf
import Derived.Test.YteaihgjjplgalaaDoorBase
import Derived.WalkSmall
import Derived.Test.YteaihgjjplgalaaDoorWLast
import Derived.Test.YteaihgjjplgalaaDoorWMore
import Derived.Lib.AppendIntMem
import Derived.Lib.AtoiErrMem
namespace Go.Proofs.YteaihgjjplgalaaDoor
open Go.RowKit Go.Proofs.YteaihgjjplgalaaDoorW.PrintWords Go.Proofs.YteaihgjjplgalaaDoorW.PrintLast Go.Proofs.YteaihgjjplgalaaDoorW.PrintMore
set_option linter.unusedVariables false
set_option linter.unusedSimpArgs false

/-- What the library's variables hold, as far as it is read. -/
structure LibAt (w : World) : Prop where
  mx : ∃ m, w.cell? ⟨2, 0, none⟩ = some (.int .i64 m)
  pow : Lib.TabIs Tryd.prog w "internal/strconv.uint64pow10" .u64 Lib.pow10Tab
  sp : Lib.TabIs Tryd.prog w "strings.asciiSpace" .u8 Lib.asciiSpaceTab
  esy : ∃ t p, w.cell? ⟨4, 0, none⟩ = some (.iface t p)
  era : ∃ t p, w.cell? ⟨5, 0, none⟩ = some (.iface t p)
theorem var_below {w w' : World} {n : String} {cs : Array Value} (h : w.var? Tryd.prog n = some cs) (hb : Below w.heap.size w w') : w'.var? Tryd.prog n = some cs := by
  cases hg : Tryd.prog.globalNamed n with
  | none => unfold World.var? at h; rw [hg] at h; cases h
  | some g =>
    refine var?_below hb hg ?_ h
    unfold World.var? at h
    rw [hg] at h
    rcases Nat.lt_or_ge g w.heap.size with hlt | hge
    · exact hlt
    · simp only [Option.bind_some] at h
      rw [Array.getElem?_eq_none hge] at h
      cases h
theorem LibAt.below {w w' : World} (h : LibAt w) (hb : Below w.heap.size w w') : LibAt w' := by
  obtain ⟨⟨m, hm⟩, hp, hs, ⟨t, p, he⟩, ⟨t', p', he'⟩⟩ := h
  exact ⟨⟨m, (hb.cell (World.block_lt_of_cell? w _ hm)).trans hm⟩, var_below hp hb, var_below hs hb, ⟨t, p, (hb.cell (World.block_lt_of_cell? w _ he)).trans he⟩, ⟨t', p', (hb.cell (World.block_lt_of_cell? w _ he')).trans he'⟩⟩
def namesS : List UInt8 := [116, 105, 101, 114, 115, 32, 114, 111, 111, 109, 32, 116, 97, 114, 103, 101, 116, 32, 105, 110, 116, 101, 114, 118, 97, 108, 32, 104, 105, 103, 104, 32, 108, 111, 119, 32, 100, 119, 101, 108, 108, 32, 104, 111, 114, 105, 122, 111, 110, 32, 115, 101, 116, 112, 111, 105, 110, 116, 32, 107, 112, 32, 107, 105, 32, 107, 100, 32, 108, 105, 109, 105, 116, 32, 115, 116, 101, 112, 32, 116, 104, 114, 101, 97, 100, 115, 32, 114, 105, 110, 103]
def namesL : List (List UInt8) := Lib.fields namesS
theorem names_len : namesL.length = 16 := by decide +kernel
theorem names_ascii : ∀ (j : Nat) b, namesS[j]? = some b → b.toNat < 128 := by
  intro j b h
  have : namesS.all (fun b => decide (b.toNat < 128)) = true := by decide +kernel
  rw [List.all_eq_true] at this
  simpa using this b (List.mem_of_getElem? h)
def nameB : List ByteArray := namesL.map fun l => ⟨l.toArray⟩
/-- strings.Fields of the names. -/
theorem fields_names (w : World) (h : LibAt w) (s : ByteArray) (hs : s.data.toList = namesS) :
    Calls Tryd.prog 37 #[.string s] w fun e w' => e = .returned (.slice (some ⟨w.heap.size, 0, none⟩) 16 16) ∧ w' = w.alloc (.cells (namesL.map fun l => Value.string ⟨l.toArray⟩).toArray 9) := by
  have hsz : s.size = 92 ∨ s.size < 4294967281 := by
    right
    have : s.data.toList.length = namesS.length := by rw [hs]
    rw [Array.length_toList] at this
    have h2 : namesS.length < 4294967281 := by decide +kernel
    have h3 : s.size = s.data.size := rfl
    omega
  have hlt : s.size < 4294967281 := by rcases hsz with h | h <;> omega
  have := Tryd.strings_Fields s w hlt (by rw [hs]; exact names_ascii) h.sp
  rw [hs, show (Lib.fields namesS).length = 16 from names_len] at this
  exact this
def cutL (l : List UInt8) : List UInt8 × List UInt8 × Bool := Lib.cut l [32]
def toldI (l : List UInt8) : Int := Lib.idxOfS nameB ⟨(cutL l).1.toArray⟩
def toldN (d : List UInt8) : Int := match Lib.parseIntB 64 d with | .ok v => v | .range => Lib.intSat 64 d | _ => 0
def toldD (d : List UInt8) : Bool := match Lib.parseIntB 64 d with | .ok v => decide (Lib.itoa v = d) | _ => false
def toldB (l : List UInt8) : Bool := decide (0 ≤ toldI l) && toldD (cutL l).2.1
theorem cut_any (s : ByteArray) (hs : s.size < 4294967281) (sep : ByteArray) (w : World) (hL : LibAt w) :
    Calls Tryd.prog 28 #[.string s, .string sep] w fun e w' => e = .returned (.tuple #[.string ⟨(Lib.cut s.data.toList sep.data.toList).1.toArray⟩, .string ⟨(Lib.cut s.data.toList sep.data.toList).2.1.toArray⟩, .bool (Lib.cut s.data.toList sep.data.toList).2.2]) ∧ Below w.heap.size w w' := by
  obtain ⟨m, hm⟩ := hL.mx
  refine (Tryd.strings_Cut s sep m w hs hm).mono ?_
  rintro e w' ⟨he, n, rfl⟩
  exact ⟨he, pw_below_drewN (Below.refl _ _) n⟩
theorem parse_ok (s : ByteArray) (hs : s.size ≤ 281474976710656) (v : Int) (h : Lib.parseIntB 64 s.data.toList = .ok v) (w : World) :
    Calls Tryd.prog 43 #[.string s, .int .i64 10, .int .i64 64] w fun e w' => e = .returned (.tuple #[.int .i64 v, .nilIface]) ∧ Below w.heap.size w w' := by
  refine (Tryd.strconv_ParseInt_10_at64_ok s (by omega) v h w).mono ?_
  rintro e w' ⟨he, rfl | ⟨t, rfl⟩⟩
  · exact ⟨he, Below.refl _ _⟩
  · exact ⟨he, Lib.bytesWorld_below w _ t⟩
theorem parse_bad (s : ByteArray) (hs : s.size ≤ 281474976710656) (h : ∀ v, Lib.parseIntB 64 s.data.toList ≠ .ok v) (w : World) (hL : LibAt w) :
    Calls Tryd.prog 43 #[.string s, .int .i64 10, .int .i64 64] w fun e w' => ∃ N, e = .returned (.tuple #[.int .i64 (toldN s.data.toList), .iface 113 (.pointer (some ⟨N, 0, none⟩))]) ∧ Below w.heap.size w w' := by
  unfold toldN
  rcases hp : Lib.parseIntB 64 s.data.toList with v | _ | _
  · exact absurd hp (h v)
  · skip
    obtain ⟨t, p, hv⟩ := hL.esy
    refine (Tryd.strconv_ParseInt_10_at64_syntax s hs hp _ w hv (.inr ⟨t, p, rfl⟩)).mono ?_
    rintro e w' ⟨N, he, -, -, hb⟩
    exact ⟨N, he, hb⟩
  · skip
    obtain ⟨t, p, hv⟩ := hL.era
    refine (Tryd.strconv_ParseInt_10_at64_range s hs hp _ w hv (.inr ⟨t, p, rfl⟩)).mono ?_
    rintro e w' ⟨N, he, -, -, hb⟩
    exact ⟨N, he, hb⟩
theorem format_any (n : Int) (h0 : -9223372036854775808 ≤ n) (h1 : n ≤ 9223372036854775807) (w : World) (hL : LibAt w) :
    Calls Tryd.prog 39 #[.int .i64 n, .int .i64 10] w fun e w' => e = .returned (.string ⟨(Lib.itoa n).toArray⟩) ∧ Below w.heap.size w w' := by
  refine (Tryd.strconv_FormatInt_10 n h0 h1 w hL.pow).mono ?_
  rintro e w' ⟨he, k, os, rfl⟩
  exact ⟨he, Lib.below_grow _ w (Nat.le_refl _) k os⟩
theorem index_names (b n : Nat) (x : ByteArray) (w : World) (h : w.heap[b]? = some (.cells (namesL.map fun l => Value.string ⟨l.toArray⟩).toArray n (0, 0))) :
    Calls Tryd.prog 44 #[.slice (some ⟨b, 0, none⟩) 16 16, .string x] w fun e w' => e = .returned (.int .i64 (Lib.idxOfS nameB x)) ∧ w' = w := by
  have hl : nameB.length = 16 := by unfold nameB; rw [List.length_map]; exact names_len
  have := Tryd.slices_Index_string b 0 16 16 nameB x w (by omega) (by omega) (fun j hj => by
    have hj' : j < namesL.length := by rw [names_len]; omega
    have e : nameB.getD j ByteArray.empty = ⟨(namesL[j]).toArray⟩ := by
      unfold nameB
      rw [List.getD_eq_getElem?_getD, List.getElem?_map, List.getElem?_eq_getElem hj', Option.map_some, Option.getD_some]
    rw [e, Nat.zero_add]
    refine (blk_cell h j).trans ?_
    simp [List.getElem?_eq_getElem hj'])
  rw [List.take_of_length_le (by omega)] at this
  exact this
theorem cut_sp (s : ByteArray) (hs : s.size < 4294967281) (w : World) (hL : LibAt w) :
    Calls Tryd.prog 28 #[.string s, .string ⟨#[32]⟩] w fun e w' => e = .returned (.tuple #[.string ⟨(cutL s.data.toList).1.toArray⟩, .string ⟨(cutL s.data.toList).2.1.toArray⟩, .bool (cutL s.data.toList).2.2]) ∧ Below w.heap.size w w' := cut_any s hs ⟨#[32]⟩ w hL
theorem cutL_len (l : List UInt8) : (cutL l).2.1.length ≤ l.length := by
  unfold cutL Lib.cut
  split
  · simp only [List.length_drop]; omega
  · simp
theorem parseIntB_i64 {l : List UInt8} {v : Int} (h : Lib.parseIntB 64 l = .ok v) : -9223372036854775808 ≤ v ∧ v ≤ 9223372036854775807 := by
  unfold Lib.parseIntB at h
  split at h
  · cases h
  · simp only [] at h
    split at h
    · cases h
    · cases h
    · split at h
      · cases h
      · split at h
        · cases h
        · injection h with h
          subst h
          rename_i h1 h2
          split <;> omega
set_option maxRecDepth 100000 in
set_option maxHeartbeats 4000000 in
theorem told_any (s : ByteArray) (hs : s.size ≤ 20000) (w : World) (hL : LibAt w) :
    Calls Tryd.prog 29 #[.string s] w fun e w' => e = .returned (.tuple #[.int .i64 (toldI s.data.toList), .int .i64 (toldN (cutL s.data.toList).2.1), .bool (toldB s.data.toList)]) ∧ Below w.heap.size w w' := by
  have hL0 := Aside0.mk hL
  have hC := cut_sp s (by omega) w hL
  have hlen := cutL_len s.data.toList
  have hsz : s.data.toList.length = s.size := by rw [Array.length_toList]; rfl
  have hB : toldB s.data.toList = (decide (0 ≤ toldI s.data.toList) && toldD (cutL s.data.toList).2.1) := rfl
  have hI : toldI s.data.toList = Lib.idxOfS nameB ⟨(cutL s.data.toList).1.toArray⟩ := rfl
  rw [hB]
  clear hB hL
  generalize toldI s.data.toList = I at *
  generalize hc : cutL s.data.toList = c at *
  obtain ⟨nm, dg, tl⟩ := c
  simp only [] at hlen hC hI ⊢
  have HI := Lib.hid hI
  have hdg : dg.length ≤ 20000 := by omega
  have hds : (⟨dg.toArray⟩ : ByteArray).size ≤ 281474976710656 := by show dg.toArray.size ≤ _; rw [List.size_toArray]; omega
  clear hc hI hsz hlen
  go_enter Tryd.func29, Tryd.ntmps29
  go_wp2_with fail
  refine hC.mono ?_
  rintro e w1 ⟨rfl, hb1⟩
  have HB1 := Aside0.mk hb1
  have HL1 := Aside0.mk (hL0.out.below hb1)
  clear hb1 hC
  go_wp2_with fail
  by_cases hp : ∃ v, Lib.parseIntB 64 dg = .ok v
  · obtain ⟨v, hp⟩ := hp
    have hv := parseIntB_i64 hp
    have HN := Lib.hid (show toldN dg = v by unfold toldN; rw [hp])
    have HD := Lib.hid (show toldD dg = decide (Lib.itoa v = dg) by unfold toldD; rw [hp])
    refine (parse_ok ⟨dg.toArray⟩ hds v (by simpa using hp) w1).mono ?_
    rintro e w2 ⟨rfl, hb2⟩
    clear hp
    have HB2 := Aside0.mk (HB1.out.trans (hb2.mono HB1.out.size))
    have HL2 := Aside0.mk (HL1.out.below hb2)
    clear hb2
    go_wp2_with fail
    refine (fields_names w2 HL2.out _ (by decide +kernel)).mono ?_
    rintro e w3 ⟨rfl, rfl⟩
    have BK := Aside0.mk (heap_alloc_new w2 (.cells (namesL.map fun l => Value.string ⟨l.toArray⟩).toArray 9))
    have HB3 := Aside0.mk (HB2.out.alloc HB2.out.size (.cells (namesL.map fun l => Value.string ⟨l.toArray⟩).toArray 9))
    have HL3 := Aside0.mk (HL2.out.below ((Below.refl w2.heap.size w2).alloc (Nat.le_refl _) (.cells (namesL.map fun l => Value.string ⟨l.toArray⟩).toArray 9)))
    generalize w2.alloc (.cells (namesL.map fun l => Value.string ⟨l.toArray⟩).toArray 9) = W3 at *
    generalize w2.heap.size = g at *
    go_wp2_with fail
    refine (index_names g 9 ⟨nm.toArray⟩ W3 BK.out).mono ?_
    rintro e w4 ⟨rfl, rfl⟩
    rw [← HI.out]
    clear HI BK
    by_cases hi : 0 ≤ I
    · have di : decide (0 ≤ I) = true := decide_eq_true hi
      go_wp2_with fail
      refine (format_any v hv.1 hv.2 w4 HL3.out).mono ?_
      rintro e w5 ⟨rfl, hb5⟩
      go_wp2_with fail
      go_ret3
      rw [HN.out, HD.out]
      refine ⟨?_, HB3.out.trans (hb5.mono HB3.out.size)⟩
      rw [di, Bool.true_and]
      have e : (Lib.itoa v == dg) = decide (Lib.itoa v = dg) := by rw [Bool.eq_iff_iff]; simp
      rw [← e]
      rfl
    · have di : decide (0 ≤ I) = false := decide_eq_false hi
      go_wp2_with fail
      go_ret3
      rw [HN.out, di, Bool.false_and]
      exact ⟨rfl, HB3.out⟩
  · have HN := Lib.hid (show toldD dg = false by
      unfold toldD
      split
      · rename_i v hv; exact absurd ⟨v, hv⟩ hp
      · rfl)
    refine (parse_bad ⟨dg.toArray⟩ hds (fun v hv => hp ⟨v, by simpa using hv⟩) w1 HL1.out).mono ?_
    rintro e w2 ⟨N, rfl, hb2⟩
    clear hp
    have HB2 := Aside0.mk (HB1.out.trans (hb2.mono HB1.out.size))
    have HL2 := Aside0.mk (HL1.out.below hb2)
    clear hb2
    go_wp2_with fail
    refine (fields_names w2 HL2.out _ (by decide +kernel)).mono ?_
    rintro e w3 ⟨rfl, rfl⟩
    have BK := Aside0.mk (heap_alloc_new w2 (.cells (namesL.map fun l => Value.string ⟨l.toArray⟩).toArray 9))
    have HB3 := Aside0.mk (HB2.out.alloc HB2.out.size (.cells (namesL.map fun l => Value.string ⟨l.toArray⟩).toArray 9))
    have HL3 := Aside0.mk (HL2.out.below ((Below.refl w2.heap.size w2).alloc (Nat.le_refl _) (.cells (namesL.map fun l => Value.string ⟨l.toArray⟩).toArray 9)))
    generalize w2.alloc (.cells (namesL.map fun l => Value.string ⟨l.toArray⟩).toArray 9) = W3 at *
    generalize w2.heap.size = g at *
    go_wp2_with fail
    refine (index_names g 9 ⟨nm.toArray⟩ W3 BK.out).mono ?_
    rintro e w4 ⟨rfl, rfl⟩
    rw [← HI.out]
    clear HI BK
    by_cases hi : 0 ≤ I
    · have di : decide (0 ≤ I) = true := decide_eq_true hi
      go_wp2_with fail
      go_ret3
      rw [HN.out, Bool.and_false]
      exact ⟨rfl, HB3.out⟩
    · have di : decide (0 ≤ I) = false := decide_eq_false hi
      go_wp2_with fail
      go_ret3
      rw [HN.out, Bool.and_false]
      exact ⟨rfl, HB3.out⟩
end Go.Proofs.YteaihgjjplgalaaDoor
