/- The walk of SteadyTells. -/
import Derived.Test.YteaihgjjplgalaaL0SteadyTells
namespace Go.Proofs.Yteaihgjjplgalaa.PSteadyTells
open Go.RowKit Go.Proofs.YteaihgjjplgalaaW.PrintWords Go.Proofs.YteaihgjjplgalaaW.PrintLast Go.Proofs.YteaihgjjplgalaaW.PrintMore
open Go.Proofs.Yteaihgjjplgalaa.Rd
attribute [local go_sem] max2_int min2_int max_two min_two max_three min_three max_four min_four
set_option linter.unusedVariables false
set_option linter.unusedSimpArgs false

set_option maxRecDepth 100000 in
set_option maxHeartbeats 16000000 in
theorem law_ok (b0 b1 b2 b3 b4 b5 b6 b7 b8 b9 b10 b11 b12 b13 b14 b15 : Int) (hc : I64 b0 ∧ I64 b1 ∧ I64 b2 ∧ I64 b3 ∧ I64 b4 ∧ I64 b5 ∧ I64 b6 ∧ I64 b7 ∧ I64 b8 ∧ I64 b9 ∧ I64 b10 ∧ I64 b11 ∧ I64 b12 ∧ I64 b13 ∧ I64 b14 ∧ I64 b15) (hV : conf_Config_Valid.f b0 b1 b2 b3 b4 b5 b6 b7 b8 b9 b10 b11 b12 b13 b14 b15 = some 0) (h0 : 0 ≤ b0 ∧ b0 ≤ 8) (h1 : 0 ≤ b1 ∧ b1 ≤ 1024)
    (A1 : Option Addr) (c1 : Nat) (l1 : List CT) (fr : Int) (hf : I64 fr) (w : World) (hr1 : Kd.C k82 w A1 l1.length l1) (hc1 : l1.length ≤ c1) (hI : ∀ c ∈ l1, I64 c.f0 ∧ (0 ≤ c.f1.f0 ∧ c.f1.f0 ≤ 255) ∧ I64 c.f1.f3) :
    Calls Try.prog 10 #[.agg #[.int .i64 b0, .int .i64 b1, .int .i64 b2, .int .i64 b3, .int .i64 b4, .int .i64 b5, .int .i64 b6, .int .i64 b7, .int .i64 b8, .int .i64 b9, .int .i64 b10, .int .i64 b11, .int .i64 b12, .int .i64 b13, .int .i64 b14, .int .i64 b15], .slice A1 l1.length c1, .int .i64 fr] w fun e w' => e = .returned (.bool true) ∧ Below w.heap.size w w' := by
  obtain ⟨Ka, ha⟩ := awake_ev
  have HA := Aside0.mk ha
  have HV := Aside0.mk hV
  have HR1 := Aside0.mk hr1
  have HI := Aside0.mk hI
  have hM1 := Kd.C_max hr1
  have HF := Aside0.mk (fun (l : List ST) (hok : ∀ s ∈ l, okS s = true) (hm : l.length ≤ 60) => facts b0 b1 b2 b3 b4 b5 b6 b7 b8 b9 b10 b11 b12 b13 b14 b15 hc h0 h1 fr hf l hok hm)
  have HMo := Aside0.mk (show conf_Config_Most.f b0 b1 b2 b3 b4 b5 b6 b7 b8 b9 b10 b11 b12 b13 b14 b15 = some (b0 * 128) by unfold conf_Config_Most.f; rw [w64 (x := b0 * 128) ⟨by omega, by omega⟩])
  have HMi := Aside0.mk (show I64 (b0 * 128) by unfold I64; omega)
  have HFr := Aside0.mk hf
  clear ha hV hr1 hI hc h0 h1 hf
  go_enter Try.func10, Try.ntmps10
  go_wp2_with fail
  have BK0 := Aside0.mk (heap_alloc_new w (.cells #[.int .i64 b0, .int .i64 b1, .int .i64 b2, .int .i64 b3, .int .i64 b4, .int .i64 b5, .int .i64 b6, .int .i64 b7, .int .i64 b8, .int .i64 b9, .int .i64 b10, .int .i64 b11, .int .i64 b12, .int .i64 b13, .int .i64 b14, .int .i64 b15] 79))
  have HB0 := Aside0.mk ((Below.refl w.heap.size w).alloc (Nat.le_refl _) (.cells #[.int .i64 b0, .int .i64 b1, .int .i64 b2, .int .i64 b3, .int .i64 b4, .int .i64 b5, .int .i64 b6, .int .i64 b7, .int .i64 b8, .int .i64 b9, .int .i64 b10, .int .i64 b11, .int .i64 b12, .int .i64 b13, .int .i64 b14, .int .i64 b15] 79))
  have hs0 : w.heap.size < (w.alloc (.cells #[.int .i64 b0, .int .i64 b1, .int .i64 b2, .int .i64 b3, .int .i64 b4, .int .i64 b5, .int .i64 b6, .int .i64 b7, .int .i64 b8, .int .i64 b9, .int .i64 b10, .int .i64 b11, .int .i64 b12, .int .i64 b13, .int .i64 b14, .int .i64 b15] 79)).heap.size := by simp
  generalize w.alloc (.cells #[.int .i64 b0, .int .i64 b1, .int .i64 b2, .int .i64 b3, .int .i64 b4, .int .i64 b5, .int .i64 b6, .int .i64 b7, .int .i64 b8, .int .i64 b9, .int .i64 b10, .int .i64 b11, .int .i64 b12, .int .i64 b13, .int .i64 b14, .int .i64 b15] 79) = W0 at *
  generalize hG : w.heap.size = G at *
  have HG := Lib.hid hG
  clear hG
  refine (overfalllaw24_awake.calls Ka true _ HA.out).mono ?_
  rintro e w1 ⟨rfl, hb1⟩
  have BK1 := Aside0.mk ((hb1.block G hs0).trans BK0.out)
  have HB1 := Aside0.mk (HB0.out.trans (hb1.mono (by rw [← HG.out]; exact HB0.out.size)))
  have q0 : w1.cell? ⟨G, 0, none⟩ = some (.int .i64 b0) := (blk_cell BK1.out 0).trans rfl
  have q1 : w1.cell? ⟨G, 1, none⟩ = some (.int .i64 b1) := (blk_cell BK1.out 1).trans rfl
  have q2 : w1.cell? ⟨G, 2, none⟩ = some (.int .i64 b2) := (blk_cell BK1.out 2).trans rfl
  have q3 : w1.cell? ⟨G, 3, none⟩ = some (.int .i64 b3) := (blk_cell BK1.out 3).trans rfl
  have q4 : w1.cell? ⟨G, 4, none⟩ = some (.int .i64 b4) := (blk_cell BK1.out 4).trans rfl
  have q5 : w1.cell? ⟨G, 5, none⟩ = some (.int .i64 b5) := (blk_cell BK1.out 5).trans rfl
  have q6 : w1.cell? ⟨G, 6, none⟩ = some (.int .i64 b6) := (blk_cell BK1.out 6).trans rfl
  have q7 : w1.cell? ⟨G, 7, none⟩ = some (.int .i64 b7) := (blk_cell BK1.out 7).trans rfl
  have q8 : w1.cell? ⟨G, 8, none⟩ = some (.int .i64 b8) := (blk_cell BK1.out 8).trans rfl
  have q9 : w1.cell? ⟨G, 9, none⟩ = some (.int .i64 b9) := (blk_cell BK1.out 9).trans rfl
  have q10 : w1.cell? ⟨G, 10, none⟩ = some (.int .i64 b10) := (blk_cell BK1.out 10).trans rfl
  have q11 : w1.cell? ⟨G, 11, none⟩ = some (.int .i64 b11) := (blk_cell BK1.out 11).trans rfl
  have q12 : w1.cell? ⟨G, 12, none⟩ = some (.int .i64 b12) := (blk_cell BK1.out 12).trans rfl
  have q13 : w1.cell? ⟨G, 13, none⟩ = some (.int .i64 b13) := (blk_cell BK1.out 13).trans rfl
  have q14 : w1.cell? ⟨G, 14, none⟩ = some (.int .i64 b14) := (blk_cell BK1.out 14).trans rfl
  have q15 : w1.cell? ⟨G, 15, none⟩ = some (.int .i64 b15) := (blk_cell BK1.out 15).trans rfl
  clear hb1 BK0 HB0
  go_wp2_with fail
  refine (conf_Config_Valid.calls b0 b1 b2 b3 b4 b5 b6 b7 b8 b9 b10 b11 b12 b13 b14 b15 0 _ HV.out).mono ?_
  rintro e w2 ⟨rfl, hb2⟩
  have hs1 : G < w1.heap.size := blk_lt BK1.out
  have BK2 := Aside0.mk ((hb2.block G hs1).trans BK1.out)
  have HB2 := Aside0.mk (HB1.out.trans (hb2.mono (by rw [← HG.out]; exact HB1.out.size)))
  clear q0 q1 q2 q3 q4 q5 q6 q7 q8 q9 q10 q11 q12 q13 q14 q15
  clear hb2 BK1 HB1 hs0 hs1
  have HR2 := Aside0.mk (Kd.C_below HR1.out (by rw [HG.out]; exact HB2.out))
  clear HR1
  go_wp2_with fail
  go_loopw [7, 8, 33] (fun s7 s8 s33 wr => ∃ (k : Nat) (xs : List ST) (nw : Int), k ≤ l1.length ∧ s33 = .int .i64 k ∧ s7 = .int .i64 nw ∧ I64 nw ∧ xs.length ≤ k ∧ xs.length ≤ 60 ∧ Aside0 (∀ s ∈ xs, okS s = true) ∧ Aside0 (Kd.R k69 69 wr w2.heap.size (fun _ => True) s8 xs) ∧ Aside0 (wr.heap[G]? = some (.cells #[.int .i64 b0, .int .i64 b1, .int .i64 b2, .int .i64 b3, .int .i64 b4, .int .i64 b5, .int .i64 b6, .int .i64 b7, .int .i64 b8, .int .i64 b9, .int .i64 b10, .int .i64 b11, .int .i64 b12, .int .i64 b13, .int .i64 b14, .int .i64 b15] 79)) ∧ Aside0 (Below w2.heap.size w2 wr))
    (fun _ _ i _ => l1.length - (intOf i).toNat)
  case atStart => exact ⟨0, [], 0, Nat.zero_le _, rfl, rfl, by unfold I64; omega, Nat.le_refl _, by simp, ⟨by simp⟩, ⟨Kd.R_nil _ _ _ _ _⟩, BK2, ⟨Below.refl _ _⟩⟩
  case round =>
    obtain ⟨k, xs, nw, hk, rfl, rfl, hnw, hxk, hx60, hok, HO, BK, HB⟩ := hrel
    have hGlt : G < wr.heap.size := blk_lt BK.out
    have hWr : w2.heap.size ≤ wr.heap.size := HB.out.size
    by_cases hlt : k < l1.length
    · have hp0 : (0:Int) ≤ (k : Int) := by omega
      have hp1 : (k : Int) < l1.length := by omega
      have hIc := HI.out l1[k] (List.getElem_mem hlt)
      have hi64 := Aside0.mk (mx0_i64 hIc.1)
      obtain ⟨ad, ea, x0, x1, x2, x3, x4⟩ := at_T82 (Kd.C_below HR2.out HB.out) (k : Int) hp0 hp1
      subst ea
      rw [rd82 hlt] at x0 x1 x2 x3 x4
      have Lk := Lib.hid hlt
      generalize l1[k] = C at *
      simp only [Int.toNat_natCast] at x0 x1 x2 x3 x4
      have HIc := Aside0.mk hIc
      clear hIc
      have HB8 := Aside0.mk (HB.out.alloc HB.out.size (.cells #[.int .i64 C.f0, .int .u8 C.f1.f0, .int .i64 C.f1.f1, .int .i64 C.f1.f2, .int .i64 C.f1.f3] 82))
      have BK8 := Aside0.mk (heap_alloc_new wr (.cells #[.int .i64 C.f0, .int .u8 C.f1.f0, .int .i64 C.f1.f1, .int .i64 C.f1.f2, .int .i64 C.f1.f3] 82))
      have BKg := Aside0.mk (blk_alloc BK.out (.cells #[.int .i64 C.f0, .int .u8 C.f1.f0, .int .i64 C.f1.f1, .int .i64 C.f1.f2, .int .i64 C.f1.f3] 82))
      have HO8 := Aside0.mk (Kd.R_alloc HO.out (.cells #[.int .i64 C.f0, .int .u8 C.f1.f0, .int .i64 C.f1.f1, .int .i64 C.f1.f2, .int .i64 C.f1.f3] 82))
      have hs8 : wr.heap.size < (wr.alloc (.cells #[.int .i64 C.f0, .int .u8 C.f1.f0, .int .i64 C.f1.f1, .int .i64 C.f1.f2, .int .i64 C.f1.f3] 82)).heap.size := by simp
      by_cases h60 : (k : Int) < 60
      · have d60 : decide ((k : Int) < 60) = true := decide_eq_true h60
        obtain ⟨mz, hmz⟩ : ∃ m : Int, (if C.f0 < 0 then 0 else C.f0) = m := ⟨_, rfl⟩
        have hi64 : Aside0 (I64 mz) := by rw [← hmz]; exact hi64
        go_wp2_with fail
        clear x0 x1 x2 x3 x4
        generalize wr.alloc (.cells #[.int .i64 C.f0, .int .u8 C.f1.f0, .int .i64 C.f1.f1, .int .i64 C.f1.f2, .int .i64 C.f1.f3] 82) = W8 at *
        generalize wr.heap.size = g8 at *
        refine (radd_any nw mz hnw hi64.out W8).mono ?_
        rintro e w9 ⟨rfl, hb9⟩
        have hW8 : w2.heap.size ≤ W8.heap.size := HB8.out.size
        have HB9 := Aside0.mk (HB8.out.trans (hb9.mono HB8.out.size))
        have BK9 := Aside0.mk ((hb9.block g8 hs8).trans BK8.out)
        have BKg9 := Aside0.mk ((hb9.block G (by omega)).trans BKg.out)
        have HO9 := Aside0.mk (Kd.R_below HO8.out hb9)
        have hW9 : w2.heap.size ≤ w9.heap.size := HB9.out.size
        have q0 : w9.cell? ⟨g8, 0, none⟩ = some (.int .i64 C.f0) := (blk_cell BK9.out 0).trans rfl
        have q1 : w9.cell? ⟨g8, 1, none⟩ = some (.int .u8 C.f1.f0) := (blk_cell BK9.out 1).trans rfl
        have q2 : w9.cell? ⟨g8, 2, none⟩ = some (.int .i64 C.f1.f1) := (blk_cell BK9.out 2).trans rfl
        have q3 : w9.cell? ⟨g8, 3, none⟩ = some (.int .i64 C.f1.f2) := (blk_cell BK9.out 3).trans rfl
        have q4 : w9.cell? ⟨g8, 4, none⟩ = some (.int .i64 C.f1.f3) := (blk_cell BK9.out 4).trans rfl
        clear HB8 BK8 BKg HO8 HO BK HB hs8 hb9
        have hsat := sat_i64 (nw + mz)
        generalize sat (nw + mz) = nx at *
        go_wp2_with (at_builtin; refine Kd.R_append k69 (w0 := w2) w2.heap.size rfl (.tmp 45) (.tmp 50) 66 69 (.agg #[(.int .i64 0), (.int .u8 0), (.int .i64 0), (.int .i64 0), (.int .i64 0), (.int .u8 0), (.int .u64 0), (.int .i64 0), (.int .i64 0), (.int .i64 0), (.slice none 0 0)]) 104 rfl Try.underlying66 info69 rfl (by decide) (by omega) u8 xs (⟨nx, ⟨C.f1.f0, C.f1.f1, C.f1.f2, C.f1.f3⟩, ⟨0, 0, 0, 0, 0⟩, []⟩ : ST) [.int .i64 nx, .int .u8 C.f1.f0, .int .i64 C.f1.f1, .int .i64 C.f1.f2, .int .i64 C.f1.f3, .int .u8 0, .int .u64 0, .int .i64 0, .int .i64 0, .int .i64 0, .slice none 0 0] (fun _ => True) (fun _ => False) rfl ?aX ?aP (fun _ hk => hk.elim) ?aF ?aO ?aB ?aS ?aL ?_; (case aX => first | rfl | (simp; done)); (case aP => exact k69_mkM _ _ _ (⟨nx, ⟨C.f1.f0, C.f1.f1, C.f1.f2, C.f1.f3⟩, ⟨0, 0, 0, 0, 0⟩, []⟩ : ST) (Kd.R_nil _ _ _ _ _)); (case aF => exact fun _ _ => trivial); (case aO => exact HO9.out); (case aB => exact HB9.out); (case aS => exact hW9); (case aL => omega); intro v1 w10 ho hb10 hg hat; have HO10 := Aside0.mk ho; have HB10 := Aside0.mk hb10; have BK10 := Aside0.mk (blk_grown BKg9.out hg (Kd.R_ne HO9.out BKg9.out (by decide))); clear ho hb10 hg hat)
        go_roundw
        case rel => exact ⟨k + 1, xs ++ [⟨nx, ⟨C.f1.f0, C.f1.f1, C.f1.f2, C.f1.f3⟩, ⟨0, 0, 0, 0, 0⟩, []⟩], nx, by have := Lk.out; omega, by go_num, rfl, hsat, by simp; omega, by simp; omega, ⟨fun s hs => by
          rcases List.mem_append.1 hs with h | h
          · exact hok.out s h
          · obtain rfl : s = _ := by simpa using h
            simp only [okS, Bool.and_eq_true, i64b_iff, decide_eq_true_eq]
            exact ⟨⟨hsat, HIc.out.2.1⟩, HIc.out.2.2⟩⟩, HO10, BK10, HB10⟩
        case measure => have := Lk.out; simp [intOf]; omega
      · have d60 : decide ((k : Int) < 60) = false := decide_eq_false h60
        go_wp2_with fail
        go_roundw
        case rel => exact ⟨k + 1, xs, nw, by have := Lk.out; omega, by go_num, rfl, hnw, by omega, hx60, hok, HO8, BKg, HB8⟩
        case measure => have := Lk.out; simp [intOf]; omega
    · obtain rfl : k = l1.length := by omega
      obtain ⟨K, g1, q1, s1, o1, b, g2, q2, s2, o2, F1, F2, F3, F4, F5, F6, F7, F8, F9, F10, F11, F12⟩ := HF.out xs hok.out hx60
      obtain ⟨A, c, rfl, hlc, hC⟩ := Kd.R_reads HO.out
      replace F1 := Aside0.mk F1
      replace F2 := Aside0.mk F2
      replace F3 := Aside0.mk F3
      replace F4 := Aside0.mk F4
      replace F5 := Aside0.mk F5
      replace F6 := Aside0.mk F6
      replace F7 := Aside0.mk F7
      replace F8 := Aside0.mk F8
      replace F9 := Aside0.mk F9
      replace F10 := Aside0.mk F10
      replace F11 := Aside0.mk F11
      replace F12 := Aside0.mk F12
      have HC := Aside0.mk hC
      have HL := Aside0.mk hlc
      clear hC hlc HO
      go_wp2_with fail
      refine (overfalllaw24_own.calls K A c xs (xs.map toR) wr HC.out HL.out F1.out).mono ?_
      rintro e w11 ⟨v0, rfl, hV0, hb11⟩
      obtain ⟨A', c', rfl, hlc', hC'⟩ := Kd.R_reads hV0
      have HL' := Aside0.mk hlc'
      have HC' := Aside0.mk hC'
      clear hV0 hC' hlc'
      generalize hn : (xs.map toR).length = n at *
      have HN := Lib.hid hn
      clear hn
      have BK11 := Aside0.mk ((hb11.block G hGlt).trans BK.out)
      have HB11 := Aside0.mk (HB.out.trans (hb11.mono HB.out.size))
      have HC11 := Aside0.mk (Kd.C_below HC.out hb11)
      clear hb11 BK HB HC
      go_wp2_with fail
      refine (steady_Gap.calls A c xs fr g1 g2 w11 HC11.out HL.out F2.out).mono ?_
      rintro e w12 ⟨rfl, hb⟩
      have hGx : G < w11.heap.size := blk_lt BK11.out
      have BK12 := Aside0.mk ((hb.block G hGx).trans BK11.out)
      have HB12 := Aside0.mk (HB11.out.trans (hb.mono HB11.out.size))
      have HC12 := Aside0.mk (Kd.C_below HC11.out hb)
      have HD12 := Aside0.mk (Kd.C_below HC'.out hb)
      clear hb BK11 HB11 HC11 HC' hGx
      go_wp2_with fail
      refine (rgap_n K A' c' n (xs.map toR) HN.out fr 1 g1 g2 w12 HD12.out HL'.out F3.out).mono ?_
      rintro e w13 ⟨rfl, hb⟩
      have hGx : G < w12.heap.size := blk_lt BK12.out
      have BK13 := Aside0.mk ((hb.block G hGx).trans BK12.out)
      have HB13 := Aside0.mk (HB12.out.trans (hb.mono HB12.out.size))
      have HC13 := Aside0.mk (Kd.C_below HC12.out hb)
      have HD13 := Aside0.mk (Kd.C_below HD12.out hb)
      clear hb BK12 HB12 HC12 HD12 hGx
      have z0 : w13.cell? ⟨G, 0, none⟩ = some (.int .i64 b0) := (blk_cell BK13.out 0).trans rfl
      have z1 : w13.cell? ⟨G, 1, none⟩ = some (.int .i64 b1) := (blk_cell BK13.out 1).trans rfl
      have z2 : w13.cell? ⟨G, 2, none⟩ = some (.int .i64 b2) := (blk_cell BK13.out 2).trans rfl
      have z3 : w13.cell? ⟨G, 3, none⟩ = some (.int .i64 b3) := (blk_cell BK13.out 3).trans rfl
      have z4 : w13.cell? ⟨G, 4, none⟩ = some (.int .i64 b4) := (blk_cell BK13.out 4).trans rfl
      have z5 : w13.cell? ⟨G, 5, none⟩ = some (.int .i64 b5) := (blk_cell BK13.out 5).trans rfl
      have z6 : w13.cell? ⟨G, 6, none⟩ = some (.int .i64 b6) := (blk_cell BK13.out 6).trans rfl
      have z7 : w13.cell? ⟨G, 7, none⟩ = some (.int .i64 b7) := (blk_cell BK13.out 7).trans rfl
      have z8 : w13.cell? ⟨G, 8, none⟩ = some (.int .i64 b8) := (blk_cell BK13.out 8).trans rfl
      have z9 : w13.cell? ⟨G, 9, none⟩ = some (.int .i64 b9) := (blk_cell BK13.out 9).trans rfl
      have z10 : w13.cell? ⟨G, 10, none⟩ = some (.int .i64 b10) := (blk_cell BK13.out 10).trans rfl
      have z11 : w13.cell? ⟨G, 11, none⟩ = some (.int .i64 b11) := (blk_cell BK13.out 11).trans rfl
      have z12 : w13.cell? ⟨G, 12, none⟩ = some (.int .i64 b12) := (blk_cell BK13.out 12).trans rfl
      have z13 : w13.cell? ⟨G, 13, none⟩ = some (.int .i64 b13) := (blk_cell BK13.out 13).trans rfl
      have z14 : w13.cell? ⟨G, 14, none⟩ = some (.int .i64 b14) := (blk_cell BK13.out 14).trans rfl
      have z15 : w13.cell? ⟨G, 15, none⟩ = some (.int .i64 b15) := (blk_cell BK13.out 15).trans rfl
      go_wp2_with fail
      clear z0 z1 z2 z3 z4 z5 z6 z7 z8 z9 z10 z11 z12 z13 z14 z15
      refine (steady_Quiet.calls K b0 b1 b2 b3 b4 b5 b6 b7 b8 b9 b10 b11 b12 b13 b14 b15 A c xs fr q1 q2 w13 HC13.out HL.out F4.out).mono ?_
      rintro e w14 ⟨rfl, hb⟩
      have hGx : G < w13.heap.size := blk_lt BK13.out
      have BK14 := Aside0.mk ((hb.block G hGx).trans BK13.out)
      have HB14 := Aside0.mk (HB13.out.trans (hb.mono HB13.out.size))
      have HC14 := Aside0.mk (Kd.C_below HC13.out hb)
      have HD14 := Aside0.mk (Kd.C_below HD13.out hb)
      clear hb BK13 HB13 HC13 HD13 hGx
      have z1 : w14.cell? ⟨G, 1, none⟩ = some (.int .i64 b1) := (blk_cell BK14.out 1).trans rfl
      have z2 : w14.cell? ⟨G, 2, none⟩ = some (.int .i64 b2) := (blk_cell BK14.out 2).trans rfl
      go_wp2_with fail
      clear z1 z2
      refine (rquiet_n K b1 b2 A' c' n (xs.map toR) HN.out fr q1 q2 w14 HD14.out HL'.out F5.out).mono ?_
      rintro e w15 ⟨rfl, hb⟩
      have hGx : G < w14.heap.size := blk_lt BK14.out
      have BK15 := Aside0.mk ((hb.block G hGx).trans BK14.out)
      have HB15 := Aside0.mk (HB14.out.trans (hb.mono HB14.out.size))
      have HC15 := Aside0.mk (Kd.C_below HC14.out hb)
      have HD15 := Aside0.mk (Kd.C_below HD14.out hb)
      clear hb BK14 HB14 HC14 HD14 hGx
      have z0 : w15.cell? ⟨G, 0, none⟩ = some (.int .i64 b0) := (blk_cell BK15.out 0).trans rfl
      have z1 : w15.cell? ⟨G, 1, none⟩ = some (.int .i64 b1) := (blk_cell BK15.out 1).trans rfl
      have z2 : w15.cell? ⟨G, 2, none⟩ = some (.int .i64 b2) := (blk_cell BK15.out 2).trans rfl
      have z3 : w15.cell? ⟨G, 3, none⟩ = some (.int .i64 b3) := (blk_cell BK15.out 3).trans rfl
      have z4 : w15.cell? ⟨G, 4, none⟩ = some (.int .i64 b4) := (blk_cell BK15.out 4).trans rfl
      have z5 : w15.cell? ⟨G, 5, none⟩ = some (.int .i64 b5) := (blk_cell BK15.out 5).trans rfl
      have z6 : w15.cell? ⟨G, 6, none⟩ = some (.int .i64 b6) := (blk_cell BK15.out 6).trans rfl
      have z7 : w15.cell? ⟨G, 7, none⟩ = some (.int .i64 b7) := (blk_cell BK15.out 7).trans rfl
      have z8 : w15.cell? ⟨G, 8, none⟩ = some (.int .i64 b8) := (blk_cell BK15.out 8).trans rfl
      have z9 : w15.cell? ⟨G, 9, none⟩ = some (.int .i64 b9) := (blk_cell BK15.out 9).trans rfl
      have z10 : w15.cell? ⟨G, 10, none⟩ = some (.int .i64 b10) := (blk_cell BK15.out 10).trans rfl
      have z11 : w15.cell? ⟨G, 11, none⟩ = some (.int .i64 b11) := (blk_cell BK15.out 11).trans rfl
      have z12 : w15.cell? ⟨G, 12, none⟩ = some (.int .i64 b12) := (blk_cell BK15.out 12).trans rfl
      have z13 : w15.cell? ⟨G, 13, none⟩ = some (.int .i64 b13) := (blk_cell BK15.out 13).trans rfl
      have z14 : w15.cell? ⟨G, 14, none⟩ = some (.int .i64 b14) := (blk_cell BK15.out 14).trans rfl
      have z15 : w15.cell? ⟨G, 15, none⟩ = some (.int .i64 b15) := (blk_cell BK15.out 15).trans rfl
      go_wp2_with fail
      clear z0 z1 z2 z3 z4 z5 z6 z7 z8 z9 z10 z11 z12 z13 z14 z15
      refine (steady_Samples.calls b0 b1 b2 b3 b4 b5 b6 b7 b8 b9 b10 b11 b12 b13 b14 b15 A c xs fr s1 s2 w15 HC15.out HL.out F6.out).mono ?_
      rintro e w16 ⟨rfl, hb⟩
      have hGx : G < w15.heap.size := blk_lt BK15.out
      have BK16 := Aside0.mk ((hb.block G hGx).trans BK15.out)
      have HB16 := Aside0.mk (HB15.out.trans (hb.mono HB15.out.size))
      have HC16 := Aside0.mk (Kd.C_below HC15.out hb)
      have HD16 := Aside0.mk (Kd.C_below HD15.out hb)
      clear hb BK15 HB15 HC15 HD15 hGx
      have z8 : w16.cell? ⟨G, 8, none⟩ = some (.int .i64 b8) := (blk_cell BK16.out 8).trans rfl
      go_wp2_with fail
      clear z8
      refine (rsamp_n K b8 A' c' n (xs.map toR) HN.out fr s1 s2 w16 HD16.out HL'.out F7.out).mono ?_
      rintro e w17 ⟨rfl, hb⟩
      have hGx : G < w16.heap.size := blk_lt BK16.out
      have BK17 := Aside0.mk ((hb.block G hGx).trans BK16.out)
      have HB17 := Aside0.mk (HB16.out.trans (hb.mono HB16.out.size))
      have HC17 := Aside0.mk (Kd.C_below HC16.out hb)
      have HD17 := Aside0.mk (Kd.C_below HD16.out hb)
      clear hb BK16 HB16 HC16 HD16 hGx
      have z0 : w17.cell? ⟨G, 0, none⟩ = some (.int .i64 b0) := (blk_cell BK17.out 0).trans rfl
      have z1 : w17.cell? ⟨G, 1, none⟩ = some (.int .i64 b1) := (blk_cell BK17.out 1).trans rfl
      have z2 : w17.cell? ⟨G, 2, none⟩ = some (.int .i64 b2) := (blk_cell BK17.out 2).trans rfl
      have z3 : w17.cell? ⟨G, 3, none⟩ = some (.int .i64 b3) := (blk_cell BK17.out 3).trans rfl
      have z4 : w17.cell? ⟨G, 4, none⟩ = some (.int .i64 b4) := (blk_cell BK17.out 4).trans rfl
      have z5 : w17.cell? ⟨G, 5, none⟩ = some (.int .i64 b5) := (blk_cell BK17.out 5).trans rfl
      have z6 : w17.cell? ⟨G, 6, none⟩ = some (.int .i64 b6) := (blk_cell BK17.out 6).trans rfl
      have z7 : w17.cell? ⟨G, 7, none⟩ = some (.int .i64 b7) := (blk_cell BK17.out 7).trans rfl
      have z8 : w17.cell? ⟨G, 8, none⟩ = some (.int .i64 b8) := (blk_cell BK17.out 8).trans rfl
      have z9 : w17.cell? ⟨G, 9, none⟩ = some (.int .i64 b9) := (blk_cell BK17.out 9).trans rfl
      have z10 : w17.cell? ⟨G, 10, none⟩ = some (.int .i64 b10) := (blk_cell BK17.out 10).trans rfl
      have z11 : w17.cell? ⟨G, 11, none⟩ = some (.int .i64 b11) := (blk_cell BK17.out 11).trans rfl
      have z12 : w17.cell? ⟨G, 12, none⟩ = some (.int .i64 b12) := (blk_cell BK17.out 12).trans rfl
      have z13 : w17.cell? ⟨G, 13, none⟩ = some (.int .i64 b13) := (blk_cell BK17.out 13).trans rfl
      have z14 : w17.cell? ⟨G, 14, none⟩ = some (.int .i64 b14) := (blk_cell BK17.out 14).trans rfl
      have z15 : w17.cell? ⟨G, 15, none⟩ = some (.int .i64 b15) := (blk_cell BK17.out 15).trans rfl
      go_wp2_with fail
      clear z0 z1 z2 z3 z4 z5 z6 z7 z8 z9 z10 z11 z12 z13 z14 z15
      refine (steady_Open.calls K b0 b1 b2 b3 b4 b5 b6 b7 b8 b9 b10 b11 b12 b13 b14 b15 A c xs fr o1 o2 w17 HC17.out HL.out F8.out).mono ?_
      rintro e w18 ⟨rfl, hb⟩
      have hGx : G < w17.heap.size := blk_lt BK17.out
      have BK18 := Aside0.mk ((hb.block G hGx).trans BK17.out)
      have HB18 := Aside0.mk (HB17.out.trans (hb.mono HB17.out.size))
      have HC18 := Aside0.mk (Kd.C_below HC17.out hb)
      have HD18 := Aside0.mk (Kd.C_below HD17.out hb)
      clear hb BK17 HB17 HC17 HD17 hGx
      rcases F12.out with ⟨rfl, rfl, rfl, ho1⟩ | ⟨hqs, rfl, rfl⟩
      · as_aux_lemma =>
          clear F12
          have hmo : (if q1 < sat (fr + sat (s1 * sat (b0 * 128 + 1))) then sat (fr + sat (s1 * sat (b0 * 128 + 1))) else q1) = o1 := ho1.symm
          go_wp2_with fail
          refine (steady_Burst.calls A c xs fr b w18 HC18.out HL.out F9.out).mono ?_
          rintro e w19 ⟨rfl, hb⟩
          have hGx : G < w18.heap.size := blk_lt BK18.out
          have BK19 := Aside0.mk ((hb.block G hGx).trans BK18.out)
          have HB19 := Aside0.mk (HB18.out.trans (hb.mono HB18.out.size))
          have HC19 := Aside0.mk (Kd.C_below HC18.out hb)
          have HD19 := Aside0.mk (Kd.C_below HD18.out hb)
          clear hb BK18 HB18 HC18 HD18 hGx
          go_wp2_with fail
          refine (rburst_n A' c' n (xs.map toR) HN.out fr b w19 HD19.out HL'.out F10.out).mono ?_
          rintro e w20 ⟨rfl, hb⟩
          have hGx : G < w19.heap.size := blk_lt BK19.out
          have BK20 := Aside0.mk ((hb.block G hGx).trans BK19.out)
          have HB20 := Aside0.mk (HB19.out.trans (hb.mono HB19.out.size))
          have HC20 := Aside0.mk (Kd.C_below HC19.out hb)
          have HD20 := Aside0.mk (Kd.C_below HD19.out hb)
          clear hb BK19 HB19 HC19 HD19 hGx
          have z0 : w20.cell? ⟨G, 0, none⟩ = some (.int .i64 b0) := (blk_cell BK20.out 0).trans rfl
          have z1 : w20.cell? ⟨G, 1, none⟩ = some (.int .i64 b1) := (blk_cell BK20.out 1).trans rfl
          have z2 : w20.cell? ⟨G, 2, none⟩ = some (.int .i64 b2) := (blk_cell BK20.out 2).trans rfl
          have z3 : w20.cell? ⟨G, 3, none⟩ = some (.int .i64 b3) := (blk_cell BK20.out 3).trans rfl
          have z4 : w20.cell? ⟨G, 4, none⟩ = some (.int .i64 b4) := (blk_cell BK20.out 4).trans rfl
          have z5 : w20.cell? ⟨G, 5, none⟩ = some (.int .i64 b5) := (blk_cell BK20.out 5).trans rfl
          have z6 : w20.cell? ⟨G, 6, none⟩ = some (.int .i64 b6) := (blk_cell BK20.out 6).trans rfl
          have z7 : w20.cell? ⟨G, 7, none⟩ = some (.int .i64 b7) := (blk_cell BK20.out 7).trans rfl
          have z8 : w20.cell? ⟨G, 8, none⟩ = some (.int .i64 b8) := (blk_cell BK20.out 8).trans rfl
          have z9 : w20.cell? ⟨G, 9, none⟩ = some (.int .i64 b9) := (blk_cell BK20.out 9).trans rfl
          have z10 : w20.cell? ⟨G, 10, none⟩ = some (.int .i64 b10) := (blk_cell BK20.out 10).trans rfl
          have z11 : w20.cell? ⟨G, 11, none⟩ = some (.int .i64 b11) := (blk_cell BK20.out 11).trans rfl
          have z12 : w20.cell? ⟨G, 12, none⟩ = some (.int .i64 b12) := (blk_cell BK20.out 12).trans rfl
          have z13 : w20.cell? ⟨G, 13, none⟩ = some (.int .i64 b13) := (blk_cell BK20.out 13).trans rfl
          have z14 : w20.cell? ⟨G, 14, none⟩ = some (.int .i64 b14) := (blk_cell BK20.out 14).trans rfl
          have z15 : w20.cell? ⟨G, 15, none⟩ = some (.int .i64 b15) := (blk_cell BK20.out 15).trans rfl
          go_wp2_with fail
          clear z0 z1 z2 z3 z4 z5 z6 z7 z8 z9 z10 z11 z12 z13 z14 z15
          refine (conf_Config_Most.calls b0 b1 b2 b3 b4 b5 b6 b7 b8 b9 b10 b11 b12 b13 b14 b15 (b0 * 128) w20 HMo.out).mono ?_
          rintro e w21 ⟨rfl, hb⟩
          have hGx : G < w20.heap.size := blk_lt BK20.out
          have BK21 := Aside0.mk ((hb.block G hGx).trans BK20.out)
          have HB21 := Aside0.mk (HB20.out.trans (hb.mono HB20.out.size))
          have HC21 := Aside0.mk (Kd.C_below HC20.out hb)
          have HD21 := Aside0.mk (Kd.C_below HD20.out hb)
          clear hb BK20 HB20 HC20 HD20 hGx
          go_wp2_with fail
          refine (radd_any (b0 * 128) 1 HMi.out (by unfold I64; omega) w21).mono ?_
          rintro e w22 ⟨rfl, hb⟩
          have hGx : G < w21.heap.size := blk_lt BK21.out
          have BK22 := Aside0.mk ((hb.block G hGx).trans BK21.out)
          have HB22 := Aside0.mk (HB21.out.trans (hb.mono HB21.out.size))
          have HC22 := Aside0.mk (Kd.C_below HC21.out hb)
          have HD22 := Aside0.mk (Kd.C_below HD21.out hb)
          clear hb BK21 HB21 HC21 HD21 hGx
          go_wp2_with fail
          refine (rmul_any s1 (sat (b0 * 128 + 1)) F11.out (sat_i64 _) w22).mono ?_
          rintro e w23 ⟨rfl, hb⟩
          have hGx : G < w22.heap.size := blk_lt BK22.out
          have BK23 := Aside0.mk ((hb.block G hGx).trans BK22.out)
          have HB23 := Aside0.mk (HB22.out.trans (hb.mono HB22.out.size))
          have HC23 := Aside0.mk (Kd.C_below HC22.out hb)
          have HD23 := Aside0.mk (Kd.C_below HD22.out hb)
          clear hb BK22 HB22 HC22 HD22 hGx
          go_wp2_with fail
          refine (radd_any fr (sat (s1 * sat (b0 * 128 + 1))) HFr.out (sat_i64 _) w23).mono ?_
          rintro e w24 ⟨rfl, hb⟩
          have hGx : G < w23.heap.size := blk_lt BK23.out
          have BK24 := Aside0.mk ((hb.block G hGx).trans BK23.out)
          have HB24 := Aside0.mk (HB23.out.trans (hb.mono HB23.out.size))
          have HC24 := Aside0.mk (Kd.C_below HC23.out hb)
          have HD24 := Aside0.mk (Kd.C_below HD23.out hb)
          clear hb BK23 HB23 HC23 HD23 hGx
          go_wp2_with fail
          go_ret
          exact ⟨rfl, by rw [HG.out]; exact HB2.out.trans (HB24.out.mono (by rw [← HG.out]; exact HB2.out.size))⟩
      · clear F12
        rcases Bool.eq_false_or_eq_true q2 with rfl | rfl
        · as_aux_lemma =>
            obtain rfl : s2 = false := by simpa using hqs
            go_wp2_with fail
            refine (steady_Burst.calls A c xs fr b w18 HC18.out HL.out F9.out).mono ?_
            rintro e w19 ⟨rfl, hb⟩
            have hGx : G < w18.heap.size := blk_lt BK18.out
            have BK19 := Aside0.mk ((hb.block G hGx).trans BK18.out)
            have HB19 := Aside0.mk (HB18.out.trans (hb.mono HB18.out.size))
            have HC19 := Aside0.mk (Kd.C_below HC18.out hb)
            have HD19 := Aside0.mk (Kd.C_below HD18.out hb)
            clear hb BK18 HB18 HC18 HD18 hGx
            go_wp2_with fail
            refine (rburst_n A' c' n (xs.map toR) HN.out fr b w19 HD19.out HL'.out F10.out).mono ?_
            rintro e w20 ⟨rfl, hb⟩
            have hGx : G < w19.heap.size := blk_lt BK19.out
            have BK20 := Aside0.mk ((hb.block G hGx).trans BK19.out)
            have HB20 := Aside0.mk (HB19.out.trans (hb.mono HB19.out.size))
            have HC20 := Aside0.mk (Kd.C_below HC19.out hb)
            have HD20 := Aside0.mk (Kd.C_below HD19.out hb)
            clear hb BK19 HB19 HC19 HD19 hGx
            go_wp2_with fail
            go_ret
            exact ⟨rfl, by rw [HG.out]; exact HB2.out.trans (HB20.out.mono (by rw [← HG.out]; exact HB2.out.size))⟩
        · as_aux_lemma =>
            go_wp2_with fail
            refine (steady_Burst.calls A c xs fr b w18 HC18.out HL.out F9.out).mono ?_
            rintro e w19 ⟨rfl, hb⟩
            have hGx : G < w18.heap.size := blk_lt BK18.out
            have BK19 := Aside0.mk ((hb.block G hGx).trans BK18.out)
            have HB19 := Aside0.mk (HB18.out.trans (hb.mono HB18.out.size))
            have HC19 := Aside0.mk (Kd.C_below HC18.out hb)
            have HD19 := Aside0.mk (Kd.C_below HD18.out hb)
            clear hb BK18 HB18 HC18 HD18 hGx
            go_wp2_with fail
            refine (rburst_n A' c' n (xs.map toR) HN.out fr b w19 HD19.out HL'.out F10.out).mono ?_
            rintro e w20 ⟨rfl, hb⟩
            have hGx : G < w19.heap.size := blk_lt BK19.out
            have BK20 := Aside0.mk ((hb.block G hGx).trans BK19.out)
            have HB20 := Aside0.mk (HB19.out.trans (hb.mono HB19.out.size))
            have HC20 := Aside0.mk (Kd.C_below HC19.out hb)
            have HD20 := Aside0.mk (Kd.C_below HD19.out hb)
            clear hb BK19 HB19 HC19 HD19 hGx
            go_wp2_with fail
            go_ret
            exact ⟨rfl, by rw [HG.out]; exact HB2.out.trans (HB20.out.mono (by rw [← HG.out]; exact HB2.out.size))⟩
end Go.Proofs.Yteaihgjjplgalaa.PSteadyTells
