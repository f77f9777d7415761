/- The law LogrecBack walked: it returns true. Conditions: the slices read as rows of numbers and words. -/
import Derived.Test.YtmeppeadfhifeaaLawKit
namespace Go.Proofs.Ytmeppeadfhifeaa
open Go.RowKit Go.Shelf
set_option linter.unusedVariables false
set_option linter.unusedSimpArgs false

set_option maxRecDepth 100000 in
set_option maxHeartbeats 8000000 in
theorem back_core (a0 a3 : Int) (n1 cap1 n2 cap2 b : Nat) (A1 A2 : Option Addr) (xs : List Int) (ms : List Nat) (w : World) (hx : ReadsI w A1 n1 xs) (hm : ReadsW w A2 n2 ms) (hno : A2 = none → n2 = 0 ∧ cap2 = 0)
    (h20 : ¬ (20 : Int) < (n1 : Int)) (h60 : ¬ (60 : Int) < (n2 : Int)) (ha0 : -9223372036854775808 ≤ a0 ∧ a0 ≤ 9223372036854775807) (ha3 : -9223372036854775808 ≤ a3 ∧ a3 ≤ 9223372036854775807) (hb64 : b < 18446744073709551616) :
    Calls Try.prog 7 #[.int .i64 a0, .slice A1 n1 cap1, .slice A2 n2 cap2, .int .i64 a3, .int .u64 (b : Int)] w fun e w' => e = .returned (.bool true) ∧ Below w.heap.size w w' := by
  obtain ⟨i0, hi, hz0, hz1, hz2⟩ := info_parts info23
  have hrec := hrecord_x a0 200 n1 cap1 A1 xs w (by omega) (by omega) hx ha0
  have HREC := Lib.hid hrec
  have HM := Lib.hid hm
  have HNO := Lib.hid hno
  clear hrec hx hm hno
  go_enter Try.func7, Try.ntmps7
  go_wp2_with fail
  go_at_call 9
  refine HREC.out.mono ?_
  rintro e v1 ⟨⟨s, ps, A3, c3, rfl, hs1, hs2, hp1, hg, hc3, hrp⟩, hb1⟩
  have hval := good_valid s 200 ps (by omega) ⟨hs1, hs2⟩ hp1 hg
  have hbf := body_facts s 200 ps hval
  have hpb := parse_body s ps 200 ms hval
  have hbo : WordsOk (bodyN s ps) := (bodyN_ok s ps hrp.2.2.1).1
  have hp12 := hg.2.1
  obtain ⟨nb, hnb⟩ : ∃ nb, (bodyN s ps).length = nb := ⟨_, rfl⟩
  have hnb2 : nb = 3 + 9 * ps.length := by rw [← hnb]; exact hbf.1
  have hbody := fun W (hr : ReadsP W A3 ps.length ps) => body_o 22 (.inl rfl) s ps.length c3 A3 ps W hr nb hnb (by omega)
  have hmok := reads_wordsOk HM.out
  generalize hbs : bodyN s ps = bs at *
  obtain ⟨hf1, hf2, hf3, hf4, hf5⟩ := hbf
  -- the three answers
  obtain ⟨pP, hpP⟩ : ∃ pP, parseP (bs ++ ms) 200 = pP := ⟨_, rfl⟩
  have hpx := parsed 200 (nb + n2) (bs ++ ms) s pP 0 hpb.2.1 hpP hpb.1
  have hsame : samePs pP ps = true := by rw [← hpP]; exact hpb.2.2
  have hlc : (bs.take (nb - 1)).length < 3 + 9 * (bs.take (nb - 1)).getD 1 0 := by
    rw [List.getD_eq_getElem?_getD, List.getElem?_take_of_lt (by omega), ← List.getD_eq_getElem?_getD, hf2]
    simp; omega
  have hcE := parse_cut (bs.take (nb - 1)) 200 (by decide) hlc
  have hcN := parse_not _ _ _ hcE (by decide)
  have hpy := parsed 200 (nb - 1) (bs.take (nb - 1)) 0 [] 14 hcN.1 hcN.2 hcE
  obtain ⟨k, hk⟩ : ∃ k : Nat, a3 % (nb : Int) = (k : Int) := ⟨(a3 % (nb : Int)).toNat, (Int.toNat_of_nonneg (Int.emod_nonneg _ (by omega))).symm⟩
  have hkl : k < nb := by have := Int.emod_lt_of_pos a3 (show (0 : Int) < (nb : Int) by omega); omega
  have hpk := fun W => pick_x a3 (nb : Int) W (by omega) (by omega) ha3
  rw [hk] at hpk
  obtain ⟨ck, hck⟩ : ∃ ck, bs.set k (bs.getD k 0 ^^^ b) = ck := ⟨_, rfl⟩
  have hx64 : bs.getD k 0 < 18446744073709551616 := by
    rw [List.getD_eq_getElem?_getD, List.getElem?_eq_getElem (by omega)]
    exact hbo _ (List.getElem_mem _)
  have hxb : bs.getD k 0 ^^^ b < 18446744073709551616 := Nat.xor_lt_two_pow (n := 64) (by omega) (by omega)
  have hxor := u64_xor_nat (bs.getD k 0) b hx64 hb64
  have hcok : WordsOk ck := by
    intro y hy
    rw [← hck] at hy
    rcases List.mem_or_eq_of_mem_set hy with hy | rfl
    · exact hbo y hy
    · exact hxb
  obtain ⟨gE, hgE⟩ : ∃ gE, parseE ck 200 = gE := ⟨_, rfl⟩
  obtain ⟨gS, hgS⟩ : ∃ gS, parseS ck 200 = gS := ⟨_, rfl⟩
  obtain ⟨gP, hgP⟩ : ∃ gP, parseP ck 200 = gP := ⟨_, rfl⟩
  have hpz := parsed 200 nb ck gS gP gE hgS hgP hgE
  have hG : k = 1 ∨ (k ≠ 1 ∧ b = 0 ∧ gE = 0) ∨ (k ≠ 1 ∧ b ≠ 0 ∧ gE = 14) := by
    by_cases hk1 : k = 1
    · exact .inl hk1
    · by_cases hb0 : b = 0
      · right; left
        refine ⟨hk1, hb0, ?_⟩
        rw [← hgE, ← hck, hb0, Nat.xor_zero]
        have : bs.set k (bs.getD k 0) = bs := by
          rw [List.getD_eq_getElem?_getD, List.getElem?_eq_getElem (by omega)]
          simp
        rw [this]
        exact hf5
      · right; right
        refine ⟨hk1, hb0, ?_⟩
        rw [← hgE, ← hck]
        exact parse_changed bs 200 k b (by decide) (by rw [hf2]; omega) (by rw [hf2]; exact hf4) (by omega) hk1 hb0 hbo hb64
  generalize hk0 : ps.length = k0 at *
  generalize hbk : bs.getD k 0 = bk at *
  have hb12 : (12 : Int) ≤ (nb : Int) := by omega
  have hb111 : nb ≤ 111 := by omega
  have HBODY := Lib.hid hbody
  have HPX := Lib.hid hpx
  have HPY := Lib.hid hpy
  have HPZ := Lib.hid hpz
  have HPK := Lib.hid hpk
  have HG := Lib.hid hG
  have HRP := Lib.hid hrp
  have HSame := Lib.hid hsame
  have HNB := Lib.hid hnb
  have HNB2 := Lib.hid hnb2
  have HCK := Lib.hid hck
  have HBK := Lib.hid hbk
  have HCOK := Lib.hid hcok
  have HBO := Lib.hid hbo
  have HMOK := Lib.hid hmok
  have HXOR := Lib.hid hxor
  have HK0 := Lib.hid hk0
  have HB1 := Lib.hid hb1
  clear hnb2 hbody hpx hpy hpz hpk hG hrp hsame hnb hck hbk hcok hbo hmok hxor hk0 hb1 hval hg hf1 hf2 hf3 hf4 hf5 hpb hgE hgS hgP hpP hcE hcN hlc hk hbs
  have s27 : (Try.prog.info? 27).map (·.size) = some (#[.int .i64 s, .slice A3 k0 c3] : Array Value).size := by rw [size27]; rfl
  -- the record lies in a block of its own
  obtain ⟨R, hR⟩ : ∃ R, v1.heap.size = R := ⟨_, rfl⟩
  have hr1 : (v1.alloc (.cells #[.int .i64 s, .slice A3 k0 c3] 27)).heap[R]? = some (.cells #[.int .i64 s, .slice A3 k0 c3] 27 (0, 0)) := by rw [← hR]; exact heap_alloc_new v1 _
  have hb1' : Below v1.heap.size v1 (v1.alloc (.cells #[.int .i64 s, .slice A3 k0 c3] 27)) := (Below.refl _ v1).alloc (Nat.le_refl _) _
  have HR1 := Lib.hid hr1
  have HB1' := Lib.hid hb1'
  clear hr1 hb1'
  go_wp2_with fail
  go_at_call 21
  refine (in_x _ _ _ _ _).mono ?_
  rintro e v2 ⟨rfl, hb2⟩
  have HR2 := Lib.hid ((hb2.block _ (Array.getElem?_eq_some_iff.1 HR1.out).1).trans HR1.out)
  have hb12' := HB1'.out.trans (hb2.mono HB1'.out.size)
  have HRP2 := Lib.hid (HRP.out.more hb12')
  have HB2 := Lib.hid (HB1.out.trans (hb12'.mono HB1.out.size))
  clear hb2 hb12'
  go_wp2_with fail
  go_at_call 22
  refine (HBODY.out _ HRP2.out).mono ?_
  rintro e v3 ⟨g3, c5, rfl, hg3, hg3l, hc5, ho3, hr3, hb3⟩
  have HR3 := Lib.hid ((hb3.block _ (Array.getElem?_eq_some_iff.1 HR2.out).1).trans HR2.out)
  have HRP3 := Lib.hid (HRP2.out.more hb3)
  have HB3 := Lib.hid (HB2.out.trans (hb3.mono HB2.out.size))
  have HW3 := Lib.hid hr3
  clear ho3 hr3 hb3 hg3
  have hnbl : bs.length = nb := HNB.out
  have hmsl : ms.length = n2 := HM.out.1
  have HNBL := Lib.hid hnbl
  have HMSL := Lib.hid hmsl
  clear hnbl hmsl
  go_wp2_with (first
    | (go_at_call 19; refine (awake_x _).mono ?_; rintro e v4 ⟨rfl, hb4⟩
       have HR4 := Lib.hid ((hb4.block _ (Array.getElem?_eq_some_iff.1 HR3.out).1).trans HR3.out)
       have HRP4 := Lib.hid (HRP3.out.more hb4)
       have HB4 := Lib.hid (HB3.out.trans (hb4.mono HB3.out.size))
       have HW4 := Lib.hid (HW3.out.more hb4))
    | (at_builtin; refine wpList_append_src rfl _ _ 24 rfl 23 v4.heap.size i0 (.int .u64 0) 1 8 Try.underlying24 hi hz0 hz1 hz2 rfl (by decide) (.slice none 0 0) 0 _ rfl (World.ownsRow_nil _ _ _ _) (some ⟨g3, 0, none⟩) nb c5 (wcells bs) rfl (.inr ⟨_, rfl, reads_wcells HW4.out⟩) (by rw [wcells_length, HNBL.out, Nat.mul_one]) (wcells_one _) nb (by omega) (by unfold maxLen; omega) (by omega) (Nat.le_refl _) ?_)
    | fail)
  intro t5 v5 hown5 hgrow5 hblk5
  have hb45 : Below v4.heap.size v4 v5 := below_nil hgrow5
  have HR5 := Lib.hid ((hb45.block _ (Array.getElem?_eq_some_iff.1 HR4.out).1).trans HR4.out)
  have HM5 := Lib.hid (HM.out.more (HB4.out.trans (hb45.mono HB4.out.size)))
  have HO5 := Lib.hid hown5
  clear hown5 hgrow5 hblk5
  go_wp2_with (first
    | (at_builtin; refine wpList_append_src rfl _ _ 24 rfl 23 v4.heap.size i0 (.int .u64 0) 1 8 Try.underlying24 hi hz0 hz1 hz2 rfl (by decide) t5 nb _ rfl HO5.out A2 n2 cap2 (wcells ms) rfl (words_src HM5.out HNO.out) (by rw [wcells_length, HMSL.out, Nat.mul_one]) (wcells_one _) (nb + n2) (by omega) (by unfold maxLen; omega) (by omega) hb45.size ?_)
    | fail)
  intro t6 v6 hown6 hgrow6 hblk6
  have hb46 : Below v4.heap.size v4 v6 := hb45.grown hgrow6 hb45.size (fun k e => (HO5.out.lt k e).1)
  try rw [List.nil_append] at hown6
  rw [← wcells_append] at hown6
  obtain ⟨A6, c6, rfl, hr6⟩ := own_readsW hown6 (by
    intro y hy
    rcases List.mem_append.1 hy with hy | hy
    · exact HBO.out y hy
    · exact HMOK.out y hy) (by omega)
  have hcap6 := own_cap hown6
  have HW6 := Lib.hid hr6
  have HB46 := Lib.hid hb46
  clear hown6 hgrow6 hblk6 hb45 hr6 HO5 hb46
  go_wp2_with fail
  go_at_call 27
  refine (HPX.out _ _ _ HW6.out hcap6).mono ?_
  rintro e v7 ⟨⟨A7, c7, rfl, hr7⟩, hb7⟩
  obtain ⟨X, hX⟩ : ∃ X, v7.heap.size = X := ⟨_, rfl⟩
  have hx7 : (v7.alloc (.cells #[.int .i64 s, .slice A7 pP.length c7] 34)).heap[X]? = some (.cells #[.int .i64 s, .slice A7 pP.length c7] 34 (0, 0)) := by rw [← hX]; exact heap_alloc_new v7 _
  have hba7 : Below v7.heap.size v7 (v7.alloc (.cells #[.int .i64 s, .slice A7 pP.length c7] 34)) := (Below.refl _ v7).alloc (Nat.le_refl _) _
  have hb47 : Below v4.heap.size v4 (v7.alloc (.cells #[.int .i64 s, .slice A7 pP.length c7] 34)) := HB46.out.trans ((hb7.trans (hba7.mono hb7.size)).mono HB46.out.size)
  have HR7 := Lib.hid ((hb47.block _ (Array.getElem?_eq_some_iff.1 HR4.out).1).trans HR4.out)
  have HX7 := Lib.hid hx7
  have HRX7 := Lib.hid (hr7.more hba7)
  have HRP7 := Lib.hid (HRP4.out.more hb47)
  have HW7 := Lib.hid (HW4.out.more hb47)
  have HB7 := Lib.hid (HB4.out.trans (hb47.mono HB4.out.size))
  have hn1 : (0 : Int) ≤ (nb : Int) - 1 := by omega
  have hn2 : (nb : Int) - 1 ≤ (c5 : Int) := by omega
  have hnn : ((nb : Int) - 1).toNat = nb - 1 := by omega
  clear hx7 hba7 hb47 hr7 hb7
  go_wp2_with fail
  go_at_call 27
  refine (HPY.out _ _ _ (reads_take HW7.out (nb - 1) (by omega)) (by omega)).mono ?_
  rintro e v8 ⟨⟨A8, c8, rfl, _⟩, hb8⟩
  simp only [List.length_nil]
  have hba8 : Below v8.heap.size v8 (v8.alloc (.cells #[.int .i64 0, .slice A8 0 c8] 34)) := (Below.refl _ v8).alloc (Nat.le_refl _) _
  have hb78 := hb8.trans (hba8.mono hb8.size)
  have HR8 := Lib.hid ((hb78.block _ (Array.getElem?_eq_some_iff.1 HR7.out).1).trans HR7.out)
  have HX8 := Lib.hid ((hb78.block _ (Array.getElem?_eq_some_iff.1 HX7.out).1).trans HX7.out)
  have HRX8 := Lib.hid (HRX7.out.more hb78)
  have HRP8 := Lib.hid (HRP7.out.more hb78)
  have HW8 := Lib.hid (HW7.out.more hb78)
  have HB8 := Lib.hid (HB7.out.trans (hb78.mono HB7.out.size))
  clear hn1 hn2 hnn hba8 hb78 hb8
  go_wp2_with (first
    | (at_builtin; refine wpList_append_src rfl _ _ 24 rfl 23 (v8.alloc (.cells #[.int .i64 0, .slice A8 0 c8] 34)).heap.size i0 (.int .u64 0) 1 8 Try.underlying24 hi hz0 hz1 hz2 rfl (by decide) (.slice none 0 0) 0 _ rfl (World.ownsRow_nil _ _ _ _) (some ⟨g3, 0, none⟩) nb c5 (wcells bs) rfl (.inr ⟨_, rfl, reads_wcells HW8.out⟩) (by rw [wcells_length, HNBL.out, Nat.mul_one]) (wcells_one _) nb (by omega) (by unfold maxLen; omega) (by omega) (Nat.le_refl _) ?_)
    | fail)
  intro t9 v9 hown9 hgrow9 hblk9
  have hb89 := below_nil hgrow9
  try rw [List.nil_append] at hown9
  obtain ⟨g9, c9, rfl, hg9, _⟩ := hown9.form (by omega)
  have hcap9 := own_cap hown9
  have HR9 := Lib.hid ((hb89.block _ (Array.getElem?_eq_some_iff.1 HR8.out).1).trans HR8.out)
  have HX9 := Lib.hid ((hb89.block _ (Array.getElem?_eq_some_iff.1 HX8.out).1).trans HX8.out)
  have HRX9 := Lib.hid (HRX8.out.more hb89)
  have HRP9 := Lib.hid (HRP8.out.more hb89)
  have HB9 := Lib.hid (HB8.out.trans (hb89.mono HB8.out.size))
  have hs9 := hb89.size
  have cw := own_word hown9 hkl
  rw [HBK.out] at cw
  have fw := own_frozen (k := k) hown9
  have hk1 : (0 : Int) ≤ (k : Int) := by omega
  have hk2 : (k : Int) < (nb : Int) := by omega
  have hxor := HXOR.out
  have hadd : (⟨g9, 0, none⟩ : Addr).add k = ⟨g9, k, none⟩ := by unfold Addr.add; split <;> simp_all
  have HO9 := Lib.hid hown9
  have HB89 := Lib.hid hb89
  clear hown9 hgrow9 hblk9 hb89
  go_wp2_with (first
    | (go_at_call 12; refine (HPK.out _).mono ?_; rintro e v' ⟨rfl, rfl⟩)
    | fail)
  have ho10 := own_set (x := bk ^^^ b) HO9.out hkl
  rw [HCK.out] at ho10
  obtain ⟨A', c', e', hr10⟩ := own_readsW ho10 HCOK.out (by omega)
  cases e'
  have hb810 : Below (v8.alloc (.cells #[.int .i64 0, .slice A8 0 c8] 34)).heap.size (v8.alloc (.cells #[.int .i64 0, .slice A8 0 c8] 34)) (v9.setCell ⟨g9, k, none⟩ (.int .u64 ((bk ^^^ b : Nat) : Int))) := HB89.out.setCell (p := ⟨g9, k, none⟩) (by rw [World.size_alloc]; exact hg9) _
  refine (HPZ.out _ _ _ hr10 hcap9).mono ?_
  rintro e v10 ⟨⟨A10, c10, rfl, _⟩, hb10⟩
  have hb8z := (hb810.trans (hb10.mono hb810.size)).alloc (by have := hb810.size; have := hb10.size; omega) (.cells #[.int .i64 gS, .slice A10 gP.length c10] 34)
  have HR10 := Lib.hid ((hb8z.block _ (Array.getElem?_eq_some_iff.1 HR8.out).1).trans HR8.out)
  have HX10 := Lib.hid ((hb8z.block _ (Array.getElem?_eq_some_iff.1 HX8.out).1).trans HX8.out)
  have HRX10 := Lib.hid (HRX8.out.more hb8z)
  have HRP10 := Lib.hid (HRP8.out.more hb8z)
  have HB10 := Lib.hid (HB8.out.trans (hb8z.mono HB8.out.size))
  clear ho10 hr10 hb810 hb10 hb8z cw fw hxor hadd
  rcases HG.out with hk1' | ⟨hk1', rfl, rfl⟩ | ⟨hk1', hb0, rfl⟩
  · have d1 : ((k : Int) == 1) = true := by rw [beq_iff_eq]; omega
    clear hk1'
    go_wp2_with fail
    obtain ⟨C, hC⟩ : ∃ C : World → Prop, C = fun w' => Below (v10.alloc (.cells #[.int .i64 gS, .slice A10 gP.length c10] 34)).heap.size (v10.alloc (.cells #[.int .i64 gS, .slice A10 gP.length c10] 34)) w' := ⟨_, rfl⟩
    have hex : ∃ x, C x := ⟨(v10.alloc (.cells #[.int .i64 gS, .slice A10 gP.length c10] 34)), by rw [hC]; exact Below.refl _ _⟩
    have hCs : C { (v10.alloc (.cells #[.int .i64 gS, .slice A10 gP.length c10] 34)) with drawn := (v10.alloc (.cells #[.int .i64 gS, .slice A10 gP.length c10] 34)).drawn + 1 } := by rw [hC]; exact (Below.refl _ _).drew
    have HC := Lib.hid hC
    clear hC
    have hL : ∀ w', C w' → ∀ (j : Nat) (v : Value), #[.int .i64 s, .slice A7 pP.length c7][j]? = some v → w'.cell? ((⟨X, 0, none⟩ : Addr).add j) = some v := by
      intro w' hc
      rw [HC.out] at hc
      exact cells_in ((hc.block _ (Array.getElem?_eq_some_iff.1 HX10.out).1).trans HX10.out)
    have HL0 := Lib.hid hL
    clear hL
    have hL : ∀ w', C w' → ∀ (j : Nat) (v : Value), #[.int .i64 s, .slice A3 k0 c3][j]? = some v → w'.cell? ((⟨R, 0, none⟩ : Addr).add j) = some v := by
      intro w' hc
      rw [HC.out] at hc
      exact cells_in ((hc.block _ (Array.getElem?_eq_some_iff.1 HR10.out).1).trans HR10.out)
    have HL1 := Lib.hid hL
    clear hL
    refine wp_region_quiet (C := C) (by kernel_rfl) (by kernel_rfl) hCs ?_
    clear hCs
    simp only
    repeat (first
      | go_big_quiet_skip
      | (go_big_quiet_want; first
        | (refine quiet_load 34 _ rfl ⟨X, 0, none⟩ rfl #[.int .i64 s, .slice A7 pP.length c7] _ HL0.out Try.underlying34 rfl (by rw [size34]; rfl) ?_; simp only [Act.put, List.setIfInBounds_toArray, List.set_cons_succ, List.set_cons_zero]; go_big_quiet_on)
        | (refine quiet_load 27 _ rfl ⟨R, 0, none⟩ rfl #[.int .i64 s, .slice A3 k0 c3] _ HL1.out Try.underlying27 rfl (by rw [size27]; rfl) ?_; simp only [Act.put, List.setIfInBounds_toArray, List.set_cons_succ, List.set_cons_zero]; go_big_quiet_on)
        | (go_big_quiet_op; first | go_big_quiet_on | go_big_quiet_call (first
          | (intro _; with_reducible rfl)
          | (intro hc; go_at_call 21; rw [HC.out] at hc ⊢; exact (in_x _ _ _ _ _).mono fun _ _ ⟨he, h⟩ => ⟨he, hc.trans (h.mono hc.size)⟩)
          | (intro hc; go_at_call 20; rw [HC.out] at hc ⊢; exact (same_t (HRX10.out.more hc) (HRP10.out.more hc) HSame.out).mono fun _ _ ⟨he, h⟩ => ⟨he, hc.trans (h.mono hc.size)⟩)
          | fail))))
    refine wpQuiet_nil ?_
    intro vq hcq
    rw [HC.out] at hcq
    clear hex HC
    go_wp2
    go_ret
    have hbb := HB10.out.trans (hcq.mono HB10.out.size)
    exact ⟨by rfl, hbb⟩
  · have d1 : ((k : Int) == 1) = false := by rw [beq_eq_false_iff_ne]; omega
    clear hk1'
    go_wp2_with fail
    obtain ⟨C, hC⟩ : ∃ C : World → Prop, C = fun w' => Below (v10.alloc (.cells #[.int .i64 gS, .slice A10 gP.length c10] 34)).heap.size (v10.alloc (.cells #[.int .i64 gS, .slice A10 gP.length c10] 34)) w' := ⟨_, rfl⟩
    have hex : ∃ x, C x := ⟨(v10.alloc (.cells #[.int .i64 gS, .slice A10 gP.length c10] 34)), by rw [hC]; exact Below.refl _ _⟩
    have hCs : C { (v10.alloc (.cells #[.int .i64 gS, .slice A10 gP.length c10] 34)) with drawn := (v10.alloc (.cells #[.int .i64 gS, .slice A10 gP.length c10] 34)).drawn + 1 } := by rw [hC]; exact (Below.refl _ _).drew
    have HC := Lib.hid hC
    clear hC
    have hL : ∀ w', C w' → ∀ (j : Nat) (v : Value), #[.int .i64 s, .slice A7 pP.length c7][j]? = some v → w'.cell? ((⟨X, 0, none⟩ : Addr).add j) = some v := by
      intro w' hc
      rw [HC.out] at hc
      exact cells_in ((hc.block _ (Array.getElem?_eq_some_iff.1 HX10.out).1).trans HX10.out)
    have HL0 := Lib.hid hL
    clear hL
    have hL : ∀ w', C w' → ∀ (j : Nat) (v : Value), #[.int .i64 s, .slice A3 k0 c3][j]? = some v → w'.cell? ((⟨R, 0, none⟩ : Addr).add j) = some v := by
      intro w' hc
      rw [HC.out] at hc
      exact cells_in ((hc.block _ (Array.getElem?_eq_some_iff.1 HR10.out).1).trans HR10.out)
    have HL1 := Lib.hid hL
    clear hL
    refine wp_region_quiet (C := C) (by kernel_rfl) (by kernel_rfl) hCs ?_
    clear hCs
    simp only
    repeat (first
      | go_big_quiet_skip
      | (go_big_quiet_want; first
        | (refine quiet_load 34 _ rfl ⟨X, 0, none⟩ rfl #[.int .i64 s, .slice A7 pP.length c7] _ HL0.out Try.underlying34 rfl (by rw [size34]; rfl) ?_; simp only [Act.put, List.setIfInBounds_toArray, List.set_cons_succ, List.set_cons_zero]; go_big_quiet_on)
        | (refine quiet_load 27 _ rfl ⟨R, 0, none⟩ rfl #[.int .i64 s, .slice A3 k0 c3] _ HL1.out Try.underlying27 rfl (by rw [size27]; rfl) ?_; simp only [Act.put, List.setIfInBounds_toArray, List.set_cons_succ, List.set_cons_zero]; go_big_quiet_on)
        | (go_big_quiet_op; first | go_big_quiet_on | go_big_quiet_call (first
          | (intro _; with_reducible rfl)
          | (intro hc; go_at_call 21; rw [HC.out] at hc ⊢; exact (in_x _ _ _ _ _).mono fun _ _ ⟨he, h⟩ => ⟨he, hc.trans (h.mono hc.size)⟩)
          | (intro hc; go_at_call 20; rw [HC.out] at hc ⊢; exact (same_t (HRX10.out.more hc) (HRP10.out.more hc) HSame.out).mono fun _ _ ⟨he, h⟩ => ⟨he, hc.trans (h.mono hc.size)⟩)
          | fail))))
    refine wpQuiet_nil ?_
    intro vq hcq
    rw [HC.out] at hcq
    clear hex HC
    go_wp2
    go_ret
    have hbb := HB10.out.trans (hcq.mono HB10.out.size)
    exact ⟨by rfl, hbb⟩
  · have d1 : ((k : Int) == 1) = false := by rw [beq_eq_false_iff_ne]; omega
    have d2 : ((b : Int) != 0) = true := by rw [bne_iff_ne]; omega
    clear hk1' hb0
    go_wp2_with fail
    obtain ⟨C, hC⟩ : ∃ C : World → Prop, C = fun w' => Below (v10.alloc (.cells #[.int .i64 gS, .slice A10 gP.length c10] 34)).heap.size (v10.alloc (.cells #[.int .i64 gS, .slice A10 gP.length c10] 34)) w' := ⟨_, rfl⟩
    have hex : ∃ x, C x := ⟨(v10.alloc (.cells #[.int .i64 gS, .slice A10 gP.length c10] 34)), by rw [hC]; exact Below.refl _ _⟩
    have hCs : C { (v10.alloc (.cells #[.int .i64 gS, .slice A10 gP.length c10] 34)) with drawn := (v10.alloc (.cells #[.int .i64 gS, .slice A10 gP.length c10] 34)).drawn + 1 } := by rw [hC]; exact (Below.refl _ _).drew
    have HC := Lib.hid hC
    clear hC
    have hL : ∀ w', C w' → ∀ (j : Nat) (v : Value), #[.int .i64 s, .slice A7 pP.length c7][j]? = some v → w'.cell? ((⟨X, 0, none⟩ : Addr).add j) = some v := by
      intro w' hc
      rw [HC.out] at hc
      exact cells_in ((hc.block _ (Array.getElem?_eq_some_iff.1 HX10.out).1).trans HX10.out)
    have HL0 := Lib.hid hL
    clear hL
    have hL : ∀ w', C w' → ∀ (j : Nat) (v : Value), #[.int .i64 s, .slice A3 k0 c3][j]? = some v → w'.cell? ((⟨R, 0, none⟩ : Addr).add j) = some v := by
      intro w' hc
      rw [HC.out] at hc
      exact cells_in ((hc.block _ (Array.getElem?_eq_some_iff.1 HR10.out).1).trans HR10.out)
    have HL1 := Lib.hid hL
    clear hL
    refine wp_region_quiet (C := C) (by kernel_rfl) (by kernel_rfl) hCs ?_
    clear hCs
    simp only
    repeat (first
      | go_big_quiet_skip
      | (go_big_quiet_want; first
        | (refine quiet_load 34 _ rfl ⟨X, 0, none⟩ rfl #[.int .i64 s, .slice A7 pP.length c7] _ HL0.out Try.underlying34 rfl (by rw [size34]; rfl) ?_; simp only [Act.put, List.setIfInBounds_toArray, List.set_cons_succ, List.set_cons_zero]; go_big_quiet_on)
        | (refine quiet_load 27 _ rfl ⟨R, 0, none⟩ rfl #[.int .i64 s, .slice A3 k0 c3] _ HL1.out Try.underlying27 rfl (by rw [size27]; rfl) ?_; simp only [Act.put, List.setIfInBounds_toArray, List.set_cons_succ, List.set_cons_zero]; go_big_quiet_on)
        | (go_big_quiet_op; first | go_big_quiet_on | go_big_quiet_call (first
          | (intro _; with_reducible rfl)
          | (intro hc; go_at_call 21; rw [HC.out] at hc ⊢; exact (in_x _ _ _ _ _).mono fun _ _ ⟨he, h⟩ => ⟨he, hc.trans (h.mono hc.size)⟩)
          | (intro hc; go_at_call 20; rw [HC.out] at hc ⊢; exact (same_t (HRX10.out.more hc) (HRP10.out.more hc) HSame.out).mono fun _ _ ⟨he, h⟩ => ⟨he, hc.trans (h.mono hc.size)⟩)
          | fail))))
    refine wpQuiet_nil ?_
    intro vq hcq
    rw [HC.out] at hcq
    clear hex HC
    go_wp2
    go_ret
    have hbb := HB10.out.trans (hcq.mono HB10.out.size)
    exact ⟨by rfl, hbb⟩

theorem back_law (a0 : Int) (a1 : Option Addr) (len1 cap1 : Nat) (z1 : List Int) (a2 : Option Addr) (len2 cap2 : Nat) (z2 : List Int) (a3 a4 : Int) (w : World)
    (w0 : (Lit.int .i64 a0).wf = true) (w1 : IsRow .i64 w a1 len1 cap1 z1) (w2 : IsRow .u64 w a2 len2 cap2 z2) (w3 : (Lit.int .i64 a3).wf = true) (w4 : (Lit.int .u64 a4).wf = true) :
    Calls Try.prog 7 #[.int .i64 a0, .slice a1 len1 cap1, .slice a2 len2 cap2, .int .i64 a3, .int .u64 a4] w fun e w' => e = .returned (.bool true) ∧ Below w.heap.size w w' := by
  by_cases h20 : (20 : Int) < (len1 : Int)
  · clear w0 w1 w2 w3 w4
    go_enter Try.func7, Try.ntmps7
    go_wp2
    go_ret
    exact ⟨rfl, Below.refl _ _⟩
  · by_cases h60 : (60 : Int) < (len2 : Int)
    · clear w0 w1 w2 w3 w4
      go_enter Try.func7, Try.ntmps7
      go_wp2
      go_ret
      exact ⟨rfl, Below.refl _ _⟩
    · have h4 := wf_u64 w4
      obtain ⟨b, rfl⟩ : ∃ b : Nat, a4 = (b : Int) := ⟨a4.toNat, (Int.toNat_of_nonneg h4.1).symm⟩
      exact back_core a0 a3 len1 cap1 len2 cap2 b a1 a2 _ _ w (isrow_readsI w1 (by omega)) (isrow_readsW w2 (by omega)) (isrow_none w2) h20 h60 (wf_i64 w0) (wf_i64 w3) (by omega)
end Go.Proofs.Ytmeppeadfhifeaa
