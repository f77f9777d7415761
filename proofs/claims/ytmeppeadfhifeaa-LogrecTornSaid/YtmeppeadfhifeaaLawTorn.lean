/- The law LogrecTorn walked: it returns true. Conditions: the slices read as rows of numbers. -/
import Derived.Test.YtmeppeadfhifeaaTornN
namespace Go.Proofs.Ytmeppeadfhifeaa
open Go.RowKit Go.Shelf
set_option linter.unusedVariables false
set_option linter.unusedSimpArgs false

set_option maxRecDepth 100000 in
set_option maxHeartbeats 8000000 in
theorem torn_core (a0 a1 a4 : Int) (n2 cap2 n3 cap3 : Nat) (A2 A3 : Option Addr) (xs ys : List Int) (w : World) (hx : ReadsI w A2 n2 xs) (hy : ReadsI w A3 n3 ys)
    (h20 : ¬ (20 : Int) < (n2 : Int)) (h60 : ¬ (20 : Int) < (n3 : Int)) (ha0 : -9223372036854775808 ≤ a0 ∧ a0 ≤ 9223372036854775807) (ha1 : -9223372036854775808 ≤ a1 ∧ a1 ≤ 9223372036854775807) (ha4 : -9223372036854775808 ≤ a4 ∧ a4 ≤ 9223372036854775807) :
    Calls Try.prog 4 #[.int .i64 a0, .int .i64 a1, .slice A2 n2 cap2, .slice A3 n3 cap3, .int .i64 a4] w fun e w' => e = .returned (.bool true) ∧ Below w.heap.size w w' := by
  have hrec1 := hrecord_x a0 200 n2 cap2 A2 xs w (by omega) (by omega) hx ha0
  have hrec2 := fun W (hb : Below w.heap.size w W) => hrecord_x a1 200 n3 cap3 A3 ys W (by omega) (by omega) (hy.more hb) ha1
  obtain ⟨k14, hk14⟩ : ∃ k14 : Nat, a4 % 14 = (k14 : Int) := ⟨(a4 % 14).toNat, by omega⟩
  have hk15 : k14 < 14 := by omega
  have hpk := fun W => pick_x a4 14 W (by omega) (by omega) ha4
  rw [hk14] at hpk
  have HPK := Lib.hid hpk
  have HREC1 := Lib.hid hrec1
  have HREC2 := Lib.hid hrec2
  clear hrec1 hrec2 hx hy hpk hk14
  go_enter Try.func4, Try.ntmps4
  go_wp2_with fail
  go_at_call 9
  refine HREC1.out.mono ?_
  rintro e v1 ⟨⟨s1, ps1, B1, c1, rfl, hs1, hs1', hp1, hg1, hc1, hrp1⟩, hb1⟩
  have HB1 := Lib.hid hb1
  have HRP1 := Lib.hid hrp1
  go_wp2_with fail
  go_at_call 9
  refine (HREC2.out v1 HB1.out).mono ?_
  rintro e v2 ⟨⟨s2, ps2, B2, c2, rfl, hs2, hs2', hp2, hg2, hc2, hrp2⟩, hb2⟩
  have HRP1' := Lib.hid (HRP1.out.more hb2)
  have HRP2 := Lib.hid hrp2
  have HB2 := Lib.hid (HB1.out.trans (hb2.mono HB1.out.size))
  have HG1 := Lib.hid hg1
  have HG2 := Lib.hid hg2
  obtain ⟨k1, hk1⟩ : ∃ k, ps1.length = k := ⟨_, rfl⟩
  obtain ⟨k2, hk2⟩ : ∃ k, ps2.length = k := ⟨_, rfl⟩
  rw [hk1] at hp1 hc1 HRP1' ⊢
  rw [hk2] at hp2 hc2 HRP2 ⊢
  have HK1 := Lib.hid hk1
  have HK2 := Lib.hid hk2
  clear hb1 hrp1 hb2 hrp2 hg1 hg2 hk1 hk2 HRP1
  cases hq : (s1 == s2)
  · have hsne : s1 ≠ s2 := beq_eq_false_iff_ne.1 hq
    have ht1 : 1 ≤ s2 := hs2
    have ht2 : s2 ≤ 1001 := by omega
    have htn : s2 ≠ s1 := Ne.symm hsne
    clear hsne
    go_wp2_with fail
    clear hq
    have hR1 : ((v2.alloc (.cells #[.int .i64 s1, .slice B1 k1 c1] 27)).alloc (.cells #[.int .i64 s2, .slice B2 k2 c2] 27)).heap[v2.heap.size]? = some (.cells #[.int .i64 s1, .slice B1 k1 c1] 27 (0, 0)) := (Below.heap_alloc _ _ _ (by simp)).trans (heap_alloc_new v2 _)
    have hR2 : ((v2.alloc (.cells #[.int .i64 s1, .slice B1 k1 c1] 27)).alloc (.cells #[.int .i64 s2, .slice B2 k2 c2] 27)).heap[v2.heap.size + 1]? = some (.cells #[.int .i64 s2, .slice B2 k2 c2] 27 (0, 0)) := by
      have h := heap_alloc_new (v2.alloc (.cells #[.int .i64 s1, .slice B1 k1 c1] 27)) (.cells #[.int .i64 s2, .slice B2 k2 c2] 27)
      rw [World.size_alloc] at h
      exact h
    have hb3 : Below v2.heap.size v2 ((v2.alloc (.cells #[.int .i64 s1, .slice B1 k1 c1] 27)).alloc (.cells #[.int .i64 s2, .slice B2 k2 c2] 27)) := ((Below.refl _ v2).alloc (Nat.le_refl _) _).alloc (by simp) _
    have HR1 := Lib.hid hR1
    have HR2 := Lib.hid hR2
    have HP1 := Lib.hid (HRP1'.out.more hb3)
    have HP2 := Lib.hid (HRP2.out.more hb3)
    have HB3 := Lib.hid (HB2.out.trans (hb3.mono HB2.out.size))
    clear hR1 hR2 hb3
    generalize ((v2.alloc (.cells #[.int .i64 s1, .slice B1 k1 c1] 27)).alloc (.cells #[.int .i64 s2, .slice B2 k2 c2] 27)) = v3 at *
    have hv1 : validN s1 ps1 200 = 0 := good_valid' s1 200 ps1 (by omega) (by omega) (by rw [HK1.out]; omega) HG1.out
    have hv2 : validN s2 ps2 200 = 0 := good_valid' s2 200 ps2 (by omega) (by omega) (by rw [HK2.out]; omega) HG2.out
    have hbf1 := body_facts s1 200 ps1 hv1
    have hbf2 := body_facts s2 200 ps2 hv2
    have hb1o : WordsOk (bodyN s1 ps1) := (bodyN_ok s1 ps1 HP1.out.2.2.1).1
    have hb2o : WordsOk (bodyN s2 ps2) := (bodyN_ok s2 ps2 HP2.out.2.2.1).1
    obtain ⟨mk, hmk⟩ : ∃ mk : Nat, markV s1 = (mk : Int) := ⟨(s1 * 4 + 2).toNat, by rw [markV_eq s1 (by omega)]; omega⟩
    have hmk64 : mk < 18446744073709551616 := by rw [markV_eq s1 (by omega)] at hmk; omega
    have hme : markE s1 = 0 := by unfold markE markOk; rw [decide_eq_true (by omega)]; rfl
    have hmx := fun W => rmark_x s1 W
    rw [hmk, hme] at hmx
    have hlg : Calls Try.prog 11 #[.agg #[.int .i64 s1, .slice B1 k1 c1], .int .u64 (mk : Int), .int .u64 0] v3 (LogR mk 0 (bodyN s1 ps1) v3) := hlog_x s1 k1 c1 mk 0 B1 ps1 v3 HP1.out (validN_256 _ _ _ hv1)
    have hlok : WordsOk (wl (logF mk 0 (bodyN s1 ps1))) := wl_ok _ fun j _ => logF_ok mk 0 _ hmk64 (by omega) hb1o j
    have hcm := com_body (logF mk 0 (bodyN s1 ps1)) s1 200 ps1 hv1 (fun j hj => by unfold logF; rw [if_neg (by omega), if_neg (by omega), if_pos (by omega), Nat.add_sub_cancel_left]) (by unfold logF; rw [if_pos rfl]; exact hmk.symm)
    obtain ⟨cP, hcP⟩ : ∃ cP, comP (wl (logF mk 0 (bodyN s1 ps1))) 200 = cP := ⟨_, rfl⟩
    rw [hcP] at hcm
    have hcx := fun W g (hr : Row W g (wl (logF mk 0 (bodyN s1 ps1)))) => committed_x 200 120 120 _ _ W (hr.reads (wl_length _) (by omega) hlok) (Nat.le_refl _)
    unfold RecR at hcx
    rw [hcm.1, hcm.2.1, hcP] at hcx
    have hsm := hcm.2.2
    obtain ⟨nb, hnb⟩ : ∃ nb, (bodyN s2 ps2).length = nb := ⟨_, rfl⟩
    have hnb2 : nb = 3 + 9 * k2 := by rw [← hnb, hbf2.1, HK2.out]
    have hk12 : k2 ≤ 12 := by have := HG2.out.2.1; rw [HK2.out] at this; exact this
    have hnb12 : 12 ≤ nb ∧ nb ≤ 111 := by omega
    obtain ⟨hnb12, hnb111⟩ := hnb12
    have hbx := fun W (hr : ReadsP W B2 k2 ps2) => body_o 22 (.inl rfl) s2 k2 c2 B2 ps2 W hr nb hnb (by omega)
    -- the new body over the log: as far as n words
    have htorn : ∀ n, 1 ≤ n → comOk (wl (tornF mk (bodyN s1 ps1) (bodyN s2 ps2) n)) 200 = false := fun n hn =>
      com_other _ s1 200 s2.toNat (by unfold tornF; rw [if_neg (by omega)]; unfold logF; rw [if_pos rfl]; exact hmk.symm) (by unfold tornF; rw [if_pos (by omega)]; exact hbf2.2.2.1) (by omega) (by omega) (by omega)
    have hfull := whole_body (tornF mk (bodyN s1 ps1) (bodyN s2 ps2) nb) s2 200 ps2 hv2 (fun j hj => by unfold tornF; rw [if_pos (by omega), Nat.add_sub_cancel_left])
    have htok : ∀ n, WordsOk (wl (tornF mk (bodyN s1 ps1) (bodyN s2 ps2) n)) := fun n => wl_ok _ fun j _ => tornF_ok mk _ _ hmk64 hb1o hb2o n j
    have hz := tornF_zero mk (bodyN s1 ps1) (bodyN s2 ps2)
    have hst := fun i hi => tornF_step mk (bodyN s1 ps1) (bodyN s2 ps2) i hi
    generalize bodyN s1 ps1 = b1 at *
    generalize bodyN s2 ps2 = b2 at *
    have HMX := Lib.hid hmx
    have HLG := Lib.hid hlg
    have HCX := Lib.hid hcx
    have HSM := Lib.hid hsm
    have HNB := Lib.hid hnb
    have HBX := Lib.hid hbx
    have HT := Lib.hid htorn
    have HF := Lib.hid hfull
    have HTO := Lib.hid htok
    have HZ := Lib.hid hz
    have HST := Lib.hid hst
    have HB2O := Lib.hid hb2o
    have s27a : (Try.prog.info? 27).map (·.size) = some (#[.int .i64 s1, .slice B1 k1 c1] : Array Value).size := by rw [size27]; rfl
    have s27b : (Try.prog.info? 27).map (·.size) = some (#[.int .i64 s2, .slice B2 k2 c2] : Array Value).size := by rw [size27]; rfl
    clear hmx hlg hlok hcm hcP hcx hsm hnb hbx htorn hfull htok hz hst hb1o hb2o hbf1 hbf2 hv1 hv2 hmk hme hnb2
    go_at_call 10
    refine (HMX.out _).mono ?_
    rintro e v' ⟨rfl, rfl⟩
    go_wp2_with (first | (refine wpList_load_row rfl 27 _ rfl v2.heap.size rfl 27 #[.int .i64 s1, .slice B1 k1 c1] (0, 0) _ HR1.out Try.underlying27 rfl s27a ?_) | fail)
    go_at_call 11
    refine HLG.out.mono ?_
    rintro e v5 ⟨⟨g, rfl, hg, hrow⟩, hb5⟩
    have HR15 := Lib.hid ((hb5.block _ (Array.getElem?_eq_some_iff.1 HR1.out).1).trans HR1.out)
    have HR25 := Lib.hid ((hb5.block _ (Array.getElem?_eq_some_iff.1 HR2.out).1).trans HR2.out)
    have HRow5 := Lib.hid hrow
    have HB35 := Lib.hid hb5
    have hgl : g < v5.heap.size := hrow.lt
    clear hrow hb5
    go_wp2_with fail
    go_at_call 15
    refine (HCX.out _ _ HRow5.out).mono ?_
    rintro e v6 ⟨⟨A6, c6, rfl, hr6⟩, hb6⟩
    have hba6 : Below v6.heap.size v6 (v6.alloc (.cells #[.int .i64 s1, .slice A6 cP.length c6] 34)) := (Below.refl _ v6).alloc (Nat.le_refl _) _
    have hb56 := hb6.trans (hba6.mono hb6.size)
    have HX6 := Lib.hid (heap_alloc_new v6 (.cells #[.int .i64 s1, .slice A6 cP.length c6] 34))
    have HC6 := Lib.hid (hr6.more hba6)
    have HR16 := Lib.hid ((hb56.block _ (Array.getElem?_eq_some_iff.1 HR15.out).1).trans HR15.out)
    have HR26 := Lib.hid ((hb56.block _ (Array.getElem?_eq_some_iff.1 HR25.out).1).trans HR25.out)
    have HRow6 := Lib.hid (HRow5.out.more hb56)
    have HB36 := Lib.hid (HB35.out.trans (hb56.mono HB35.out.size))
    have HP16 := Lib.hid (HP1.out.more HB36.out)
    clear hba6 hb56 hr6 hb6
    go_wp2_with fail
    obtain ⟨C, hC⟩ : ∃ C : World → Prop, C = fun w' => Below (v6.alloc (.cells #[.int .i64 s1, .slice A6 cP.length c6] 34)).heap.size (v6.alloc (.cells #[.int .i64 s1, .slice A6 cP.length c6] 34)) w' := ⟨_, rfl⟩
    have hex : ∃ x, C x := ⟨(v6.alloc (.cells #[.int .i64 s1, .slice A6 cP.length c6] 34)), by rw [hC]; exact Below.refl _ _⟩
    have hCs : C { (v6.alloc (.cells #[.int .i64 s1, .slice A6 cP.length c6] 34)) with drawn := (v6.alloc (.cells #[.int .i64 s1, .slice A6 cP.length c6] 34)).drawn + 1 } := by rw [hC]; exact (Below.refl _ _).drew
    have HC := Lib.hid hC
    clear hC
    have hL : ∀ w', C w' → ∀ (j : Nat) (v : Value), #[.int .i64 s1, .slice A6 cP.length c6][j]? = some v → w'.cell? ((⟨v6.heap.size, 0, none⟩ : Addr).add j) = some v := by
      intro w' hc
      rw [HC.out] at hc
      exact cells_in ((hc.block _ (Array.getElem?_eq_some_iff.1 HX6.out).1).trans HX6.out)
    have HL0 := Lib.hid hL
    clear hL
    have hL : ∀ w', C w' → ∀ (j : Nat) (v : Value), #[.int .i64 s1, .slice B1 k1 c1][j]? = some v → w'.cell? ((⟨v2.heap.size, 0, none⟩ : Addr).add j) = some v := by
      intro w' hc
      rw [HC.out] at hc
      exact cells_in ((hc.block _ (Array.getElem?_eq_some_iff.1 HR16.out).1).trans HR16.out)
    have HL1 := Lib.hid hL
    clear hL
    refine wp_region_quiet (C := C) (by kernel_rfl) (by kernel_rfl) hCs ?_
    clear hCs
    simp only
    repeat (first
      | go_big_quiet_skip
      | (go_big_quiet_want; first
        | (refine quiet_load 34 _ rfl ⟨v6.heap.size, 0, none⟩ rfl #[.int .i64 s1, .slice A6 cP.length c6] _ HL0.out Try.underlying34 rfl (by rw [size34]; rfl) ?_; simp only [Act.put, List.setIfInBounds_toArray, List.set_cons_succ, List.set_cons_zero]; go_big_quiet_on)
        | (refine quiet_load 27 _ rfl ⟨v2.heap.size, 0, none⟩ rfl #[.int .i64 s1, .slice B1 k1 c1] _ HL1.out Try.underlying27 rfl (by rw [size27]; rfl) ?_; simp only [Act.put, List.setIfInBounds_toArray, List.set_cons_succ, List.set_cons_zero]; go_big_quiet_on)
        | (go_big_quiet_op; first | go_big_quiet_on | go_big_quiet_call (first
          | (intro _; with_reducible rfl)
          | (intro hc; go_at_call 21; rw [HC.out] at hc ⊢; exact (in_x _ _ _ _ _).mono fun _ _ ⟨he, h⟩ => ⟨he, hc.trans (h.mono hc.size)⟩)
          | (intro hc; go_at_call 20; rw [HC.out] at hc ⊢; exact (same_t (HC6.out.more hc) (HP16.out.more hc) HSM.out).mono fun _ _ ⟨he, h⟩ => ⟨he, hc.trans (h.mono hc.size)⟩)
          | (intro hc; go_at_call 19; rw [HC.out] at hc ⊢; exact (awake_x _).mono fun _ _ ⟨he, h⟩ => ⟨he, hc.trans (h.mono hc.size)⟩)
          | fail))))
    refine wpQuiet_nil ?_
    intro vq hcq
    rw [HC.out] at hcq
    clear hex HC
    have HR27 := Lib.hid ((hcq.block _ (Array.getElem?_eq_some_iff.1 HR26.out).1).trans HR26.out)
    have HRow7 := Lib.hid (HRow6.out.more hcq)
    have HB37 := Lib.hid (HB36.out.trans (hcq.mono HB36.out.size))
    have HP27 := Lib.hid (HP2.out.more HB37.out)
    clear hcq
    go_wp2_with (first
      | (refine wpList_load_row rfl 27 _ rfl (v2.heap.size + 1) rfl 27 #[.int .i64 s2, .slice B2 k2 c2] (0, 0) _ HR27.out Try.underlying27 rfl s27b ?_)
      | fail)
    go_at_call 21
    refine (in_x _ _ _ _ _).mono ?_
    rintro e v8 ⟨rfl, hb8⟩
    have HP28 := Lib.hid (HP27.out.more hb8)
    have HR28 := Lib.hid ((hb8.block _ (Array.getElem?_eq_some_iff.1 HR27.out).1).trans HR27.out)
    have HRow8 := Lib.hid (HRow7.out.more hb8)
    have HB38 := Lib.hid (HB37.out.trans (hb8.mono HB37.out.size))
    clear hb8
    go_wp2_with fail
    go_at_call 22
    refine (HBX.out _ HP28.out).mono ?_
    rintro e v9 ⟨g9, c9, rfl, hg9, hg9l, hc9, ho9, hr9, hb9⟩
    have HR29 := Lib.hid ((hb9.block _ (Array.getElem?_eq_some_iff.1 HR28.out).1).trans HR28.out)
    have HRow9 := Lib.hid (HRow8.out.more hb9)
    have HB39 := Lib.hid (HB38.out.trans (hb9.mono HB38.out.size))
    have hg8 : g < v8.heap.size := HRow8.out.lt
    have HO9 := Lib.hid ho9
    clear ho9 hr9 hb9
    by_cases hmin : (nb : Int) ≤ ((k14 : Int) + 1) * 8
    · skip
      go_wp2_with (first
        | (go_at_call 12; refine (HPK.out _).mono ?_; rintro e v' ⟨rfl, rfl⟩)
        | fail)
      go_loopg [20] nb (fun gg s20 wx => ∃ i : Nat, i + gg = nb ∧ s20 = .int .i64 i ∧ Row wx g (wl (tornF mk b1 b2 i)) ∧ wx.ownsRow v8.heap.size 23 1 (.slice (some ⟨g9, 0, none⟩) nb c9) nb (wcells b2) ∧ Below v3.heap.size v3 wx)
      case atStart => exact ⟨0, by omega, rfl, by rw [HZ.out]; exact HRow9.out, HO9.out, HB39.out⟩
      case round =>
        obtain ⟨i, hi, rfl, hrow, ho, hbr⟩ := hrel
        have HRow := Lib.hid hrow
        have HO := Lib.hid ho
        clear hrow ho
        cases gk with
        | succ gk =>
          have hlt : (i : Int) < (nb : Int) := by omega
          have hi0 : (0 : Int) ≤ (i : Int) := by omega
          have hib : (i : Int) < (nb : Int) := by omega
          have hi8 : (8 : Int) + (i : Int) < 120 := by omega
          have hi80 : (0 : Int) ≤ 8 + (i : Int) := by omega
          have hin : ((8 : Int) + (i : Int)).toNat = 8 + i := by omega
          have cb1 := own_word HO.out (k := i) (by omega)
          have c1 : wr.cell? ⟨g, 8 + i, none⟩ = some (.int .u64 ((_ : Nat) : Int)) := HRow.out.cell (8 + i) (by rw [wl_length]; omega)
          have f1 : wr.frozen? ⟨g, 8 + i, none⟩ = false := HRow.out.frozen _
          have hadd : (⟨g9, 0, none⟩ : Addr).add i = ⟨g9, i, none⟩ := by unfold Addr.add; split <;> simp_all
          have hst := HRow.out.set (8 + i) (b2.getD i 0)
          rw [HST.out i (by omega)] at hst
          have HSt := Lib.hid hst
          clear hst
          generalize b2.getD i 0 = bi at cb1 HSt
          go_wp2
          go_roundg gk
          case measure => omega
          case rel =>
            exact ⟨i + 1, by omega, by go_num, HSt.out, ownsRow_setCell_below HO.out (by show g < _; exact hg8) _, hbr.setCell (p := ⟨g, 8 + i, none⟩) hg _⟩
        | zero =>
          obtain rfl : nb = i := by omega
          have hda : decide (nb < nb) = false := decide_eq_false (by omega)
          have HBr := Lib.hid hbr
          have hcf := committed_x 200 120 120 _ _ wr (HRow.out.reads (wl_length _) (by omega) (HTO.out nb)) (Nat.le_refl _)
          unfold RecR at hcf
          rw [(com_false _ _ (HT.out nb (by omega))).1, (com_false _ _ (HT.out nb (by omega))).2, HT.out nb (by omega)] at hcf
          have HCF := Lib.hid hcf
          clear hcf hbr
          go_wp2_with fail
          go_at_call 15
          refine HCF.out.mono ?_
          rintro e v11 ⟨⟨A11, c11, rfl, _⟩, hb11⟩
          simp only [List.length_nil]
          have hbr12 := hb11.alloc hb11.size (.cells #[.int .i64 0, .slice A11 0 c11] 34)
          have hrow12 := HRow.out.more hbr12
          have hwx := whole_x 200 120 120 _ _ (v11.alloc (.cells #[.int .i64 0, .slice A11 0 c11] 34)) (hrow12.reads (wl_length _) (by omega) (HTO.out nb)) (Nat.le_refl _)
          unfold RecR at hwx
          obtain ⟨wO, hwO⟩ : ∃ x, wholeOk (wl (tornF mk b1 b2 nb)) 200 = x := ⟨_, rfl⟩
          obtain ⟨wS, hwS⟩ : ∃ x, wholeS (wl (tornF mk b1 b2 nb)) 200 = x := ⟨_, rfl⟩
          obtain ⟨wP, hwP⟩ : ∃ x, wholeP (wl (tornF mk b1 b2 nb)) 200 = x := ⟨_, rfl⟩
          rw [hwO, hwS, hwP] at hwx
          have hF := HF.out
          rw [hwO, hwS, hwP] at hF
          obtain ⟨hO, hS, hsame⟩ := hF
          have hS' := hS.symm
          subst hO
          subst hS'
          have HSame := Lib.hid hsame
          clear hsame
          have HWX := Lib.hid hwx
          have HB12 := Lib.hid (HBr.out.trans (hbr12.mono HBr.out.size))
          have hda2 := hda
          clear hwx hbr12 hrow12 hb11 hwO hwS hwP hda
          go_wp2_with fail
          go_at_call 13
          refine HWX.out.mono ?_
          rintro e v13 ⟨⟨A13, c13, rfl, hr13⟩, hb13⟩
          have hba : Below v13.heap.size v13 (v13.alloc (.cells #[.int .i64 s2, .slice A13 wP.length c13] 34)) := (Below.refl _ v13).alloc (Nat.le_refl _) _
          have HY := Lib.hid (heap_alloc_new v13 (.cells #[.int .i64 s2, .slice A13 wP.length c13] 34))
          have HB13 := Lib.hid (HB12.out.trans ((hb13.trans (hba.mono hb13.size)).mono HB12.out.size))
          have HRY := Lib.hid (hr13.more hba)
          have HR213 := Lib.hid ((HB13.out.block _ (Array.getElem?_eq_some_iff.1 HR2.out).1).trans HR2.out)
          have HP213 := Lib.hid (HP2.out.more HB13.out)
          clear hba hr13 hb13
          go_wp2_with fail
          obtain ⟨C, hC⟩ : ∃ C : World → Prop, C = fun w' => Below (v13.alloc (.cells #[.int .i64 s2, .slice A13 wP.length c13] 34)).heap.size (v13.alloc (.cells #[.int .i64 s2, .slice A13 wP.length c13] 34)) w' := ⟨_, rfl⟩
          have hex : ∃ x, C x := ⟨(v13.alloc (.cells #[.int .i64 s2, .slice A13 wP.length c13] 34)), by rw [hC]; exact Below.refl _ _⟩
          have hCs : C { (v13.alloc (.cells #[.int .i64 s2, .slice A13 wP.length c13] 34)) with drawn := (v13.alloc (.cells #[.int .i64 s2, .slice A13 wP.length c13] 34)).drawn + 1 } := by rw [hC]; exact (Below.refl _ _).drew
          have HC := Lib.hid hC
          clear hC
          have hL : ∀ w', C w' → ∀ (j : Nat) (v : Value), #[.int .i64 s2, .slice A13 wP.length c13][j]? = some v → w'.cell? ((⟨v13.heap.size, 0, none⟩ : Addr).add j) = some v := by
            intro w' hc
            rw [HC.out] at hc
            exact cells_in ((hc.block _ (Array.getElem?_eq_some_iff.1 HY.out).1).trans HY.out)
          have HL0 := Lib.hid hL
          clear hL
          have hL : ∀ w', C w' → ∀ (j : Nat) (v : Value), #[.int .i64 s2, .slice B2 k2 c2][j]? = some v → w'.cell? ((⟨(v2.heap.size + 1), 0, none⟩ : Addr).add j) = some v := by
            intro w' hc
            rw [HC.out] at hc
            exact cells_in ((hc.block _ (Array.getElem?_eq_some_iff.1 HR213.out).1).trans HR213.out)
          have HL1 := Lib.hid hL
          clear hL
          refine wp_region_quiet (C := C) (by kernel_rfl) (by kernel_rfl) hCs ?_
          clear hCs
          simp only
          repeat (first
            | go_big_quiet_skip
            | (go_big_quiet_want; first
              | (refine quiet_load 34 _ rfl ⟨v13.heap.size, 0, none⟩ rfl #[.int .i64 s2, .slice A13 wP.length c13] _ HL0.out Try.underlying34 rfl (by rw [size34]; rfl) ?_; simp only [Act.put, List.setIfInBounds_toArray, List.set_cons_succ, List.set_cons_zero]; go_big_quiet_on)
              | (refine quiet_load 27 _ rfl ⟨(v2.heap.size + 1), 0, none⟩ rfl #[.int .i64 s2, .slice B2 k2 c2] _ HL1.out Try.underlying27 rfl (by rw [size27]; rfl) ?_; simp only [Act.put, List.setIfInBounds_toArray, List.set_cons_succ, List.set_cons_zero]; go_big_quiet_on)
              | (go_big_quiet_op; first | go_big_quiet_on | go_big_quiet_call (first
                | (intro _; with_reducible rfl)
                | (intro hc; go_at_call 21; rw [HC.out] at hc ⊢; exact (in_x _ _ _ _ _).mono fun _ _ ⟨he, h⟩ => ⟨he, hc.trans (h.mono hc.size)⟩)
                | (intro hc; go_at_call 20; rw [HC.out] at hc ⊢; exact (same_t (HRY.out.more hc) (HP213.out.more hc) HSame.out).mono fun _ _ ⟨he, h⟩ => ⟨he, hc.trans (h.mono hc.size)⟩)
                | fail))))
          refine wpQuiet_nil ?_
          intro vq hcq
          rw [HC.out] at hcq
          clear hex HC
          go_wp2
          go_ret
          have hbb := HB3.out.trans (HB13.out.mono HB3.out.size)
          exact ⟨by rfl, hbb.trans (hcq.mono hbb.size)⟩
    · obtain ⟨n, hn⟩ : ∃ n : Nat, ((k14 : Int) + 1) * 8 = (n : Int) := ⟨(k14 + 1) * 8, by push_cast; rfl⟩
      have hn1 : 8 ≤ n := by omega
      have hn2 : n < nb := by omega
      go_wp2_with (first
        | (go_at_call 12; refine (HPK.out _).mono ?_; rintro e v' ⟨rfl, rfl⟩)
        | fail)
      go_loopg [20] n (fun gg s20 wx => ∃ i : Nat, i + gg = n ∧ s20 = .int .i64 i ∧ Row wx g (wl (tornF mk b1 b2 i)) ∧ wx.ownsRow v8.heap.size 23 1 (.slice (some ⟨g9, 0, none⟩) nb c9) nb (wcells b2) ∧ Below v3.heap.size v3 wx)
      case atStart => exact ⟨0, by omega, rfl, by rw [HZ.out]; exact HRow9.out, HO9.out, HB39.out⟩
      case round =>
        obtain ⟨i, hi, rfl, hrow, ho, hbr⟩ := hrel
        have HRow := Lib.hid hrow
        have HO := Lib.hid ho
        clear hrow ho
        cases gk with
        | succ gk =>
          have hlt : (i : Int) < (n : Int) := by omega
          have hi0 : (0 : Int) ≤ (i : Int) := by omega
          have hib : (i : Int) < (nb : Int) := by omega
          have hi8 : (8 : Int) + (i : Int) < 120 := by omega
          have hi80 : (0 : Int) ≤ 8 + (i : Int) := by omega
          have hin : ((8 : Int) + (i : Int)).toNat = 8 + i := by omega
          have cb1 := own_word HO.out (k := i) (by omega)
          have c1 : wr.cell? ⟨g, 8 + i, none⟩ = some (.int .u64 ((_ : Nat) : Int)) := HRow.out.cell (8 + i) (by rw [wl_length]; omega)
          have f1 : wr.frozen? ⟨g, 8 + i, none⟩ = false := HRow.out.frozen _
          have hadd : (⟨g9, 0, none⟩ : Addr).add i = ⟨g9, i, none⟩ := by unfold Addr.add; split <;> simp_all
          have hst := HRow.out.set (8 + i) (b2.getD i 0)
          rw [HST.out i (by omega)] at hst
          have HSt := Lib.hid hst
          clear hst
          generalize b2.getD i 0 = bi at cb1 HSt
          go_wp2
          go_roundg gk
          case measure => omega
          case rel =>
            exact ⟨i + 1, by omega, by go_num, HSt.out, ownsRow_setCell_below HO.out (by show g < _; exact hg8) _, hbr.setCell (p := ⟨g, 8 + i, none⟩) hg _⟩
        | zero =>
          obtain rfl : n = i := by omega
          have hda : decide (n < n) = false := decide_eq_false (by omega)
          have HBr := Lib.hid hbr
          have hcf := committed_x 200 120 120 _ _ wr (HRow.out.reads (wl_length _) (by omega) (HTO.out n)) (Nat.le_refl _)
          unfold RecR at hcf
          rw [(com_false _ _ (HT.out n (by omega))).1, (com_false _ _ (HT.out n (by omega))).2, HT.out n (by omega)] at hcf
          have HCF := Lib.hid hcf
          clear hcf hbr
          go_wp2_with fail
          go_at_call 15
          refine HCF.out.mono ?_
          rintro e v11 ⟨⟨A11, c11, rfl, _⟩, hb11⟩
          simp only [List.length_nil]
          have hbr12 := hb11.alloc hb11.size (.cells #[.int .i64 0, .slice A11 0 c11] 34)
          have hrow12 := HRow.out.more hbr12
          have hwx := whole_x 200 120 120 _ _ (v11.alloc (.cells #[.int .i64 0, .slice A11 0 c11] 34)) (hrow12.reads (wl_length _) (by omega) (HTO.out n)) (Nat.le_refl _)
          unfold RecR at hwx
          obtain ⟨wO, hwO⟩ : ∃ x, wholeOk (wl (tornF mk b1 b2 n)) 200 = x := ⟨_, rfl⟩
          obtain ⟨wS, hwS⟩ : ∃ x, wholeS (wl (tornF mk b1 b2 n)) 200 = x := ⟨_, rfl⟩
          obtain ⟨wP, hwP⟩ : ∃ x, wholeP (wl (tornF mk b1 b2 n)) 200 = x := ⟨_, rfl⟩
          rw [hwO, hwS, hwP] at hwx
          have HWX := Lib.hid hwx
          have HB12 := Lib.hid (HBr.out.trans (hbr12.mono HBr.out.size))
          have hda2 := hda
          clear hwx hbr12 hrow12 hb11 hwO hwS hwP hda
          go_wp2_with fail
          go_at_call 13
          refine HWX.out.mono ?_
          rintro e v13 ⟨⟨A13, c13, rfl, hr13⟩, hb13⟩
          have hba : Below v13.heap.size v13 (v13.alloc (.cells #[.int .i64 wS, .slice A13 wP.length c13] 34)) := (Below.refl _ v13).alloc (Nat.le_refl _) _
          have HY := Lib.hid (heap_alloc_new v13 (.cells #[.int .i64 wS, .slice A13 wP.length c13] 34))
          have HB13 := Lib.hid (HB12.out.trans ((hb13.trans (hba.mono hb13.size)).mono HB12.out.size))
          have HRY := Lib.hid (hr13.more hba)
          have HR213 := Lib.hid ((HB13.out.block _ (Array.getElem?_eq_some_iff.1 HR2.out).1).trans HR2.out)
          have HP213 := Lib.hid (HP2.out.more HB13.out)
          clear hba hr13 hb13
          have hdb : decide (n < nb) = true := decide_eq_true (by omega)
          go_wp2_with fail
          obtain ⟨C, hC⟩ : ∃ C : World → Prop, C = fun w' => Below (v13.alloc (.cells #[.int .i64 wS, .slice A13 wP.length c13] 34)).heap.size (v13.alloc (.cells #[.int .i64 wS, .slice A13 wP.length c13] 34)) w' := ⟨_, rfl⟩
          have hex : ∃ x, C x := ⟨(v13.alloc (.cells #[.int .i64 wS, .slice A13 wP.length c13] 34)), by rw [hC]; exact Below.refl _ _⟩
          have hCs : C { (v13.alloc (.cells #[.int .i64 wS, .slice A13 wP.length c13] 34)) with drawn := (v13.alloc (.cells #[.int .i64 wS, .slice A13 wP.length c13] 34)).drawn + 1 } := by rw [hC]; exact (Below.refl _ _).drew
          have HC := Lib.hid hC
          clear hC
          have hL : ∀ w', C w' → ∀ (j : Nat) (v : Value), #[.int .i64 wS, .slice A13 wP.length c13][j]? = some v → w'.cell? ((⟨v13.heap.size, 0, none⟩ : Addr).add j) = some v := by
            intro w' hc
            rw [HC.out] at hc
            exact cells_in ((hc.block _ (Array.getElem?_eq_some_iff.1 HY.out).1).trans HY.out)
          have HL0 := Lib.hid hL
          clear hL
          have hL : ∀ w', C w' → ∀ (j : Nat) (v : Value), #[.int .i64 s2, .slice B2 k2 c2][j]? = some v → w'.cell? ((⟨(v2.heap.size + 1), 0, none⟩ : Addr).add j) = some v := by
            intro w' hc
            rw [HC.out] at hc
            exact cells_in ((hc.block _ (Array.getElem?_eq_some_iff.1 HR213.out).1).trans HR213.out)
          have HL1 := Lib.hid hL
          clear hL
          refine wp_region_quiet (C := C) (by kernel_rfl) (by kernel_rfl) hCs ?_
          clear hCs
          simp only
          repeat (first
            | go_big_quiet_skip
            | (go_big_quiet_want; first
              | (refine quiet_load 34 _ rfl ⟨v13.heap.size, 0, none⟩ rfl #[.int .i64 wS, .slice A13 wP.length c13] _ HL0.out Try.underlying34 rfl (by rw [size34]; rfl) ?_; simp only [Act.put, List.setIfInBounds_toArray, List.set_cons_succ, List.set_cons_zero]; go_big_quiet_on)
              | (refine quiet_load 27 _ rfl ⟨(v2.heap.size + 1), 0, none⟩ rfl #[.int .i64 s2, .slice B2 k2 c2] _ HL1.out Try.underlying27 rfl (by rw [size27]; rfl) ?_; simp only [Act.put, List.setIfInBounds_toArray, List.set_cons_succ, List.set_cons_zero]; go_big_quiet_on)
              | (go_big_quiet_op; first | go_big_quiet_on | go_big_quiet_call (first
                | (intro _; with_reducible rfl)
                | (intro hc; go_at_call 21; rw [HC.out] at hc ⊢; exact (in_x _ _ _ _ _).mono fun _ _ ⟨he, h⟩ => ⟨he, hc.trans (h.mono hc.size)⟩)
                | fail))))
          refine wpQuiet_nil ?_
          intro vq hcq
          rw [HC.out] at hcq
          clear hex HC
          go_wp2
          go_ret
          have hbb := HB3.out.trans (HB13.out.mono HB3.out.size)
          exact ⟨by rfl, hbb.trans (hcq.mono hbb.size)⟩
  · have hse : s1 = s2 := beq_iff_eq.1 hq
    obtain ⟨t2, ht⟩ : ∃ t2, s2 + 1 = t2 := ⟨_, rfl⟩
    have ht1 : 1 ≤ t2 := by omega
    have ht2 : t2 ≤ 1001 := by omega
    have htn : t2 ≠ s1 := by omega
    clear hse
    go_wp2_with fail
    clear hq ht
    have hR1 : ((v2.alloc (.cells #[.int .i64 s1, .slice B1 k1 c1] 27)).alloc (.cells #[.int .i64 t2, .slice B2 k2 c2] 27)).heap[v2.heap.size]? = some (.cells #[.int .i64 s1, .slice B1 k1 c1] 27 (0, 0)) := (Below.heap_alloc _ _ _ (by simp)).trans (heap_alloc_new v2 _)
    have hR2 : ((v2.alloc (.cells #[.int .i64 s1, .slice B1 k1 c1] 27)).alloc (.cells #[.int .i64 t2, .slice B2 k2 c2] 27)).heap[v2.heap.size + 1]? = some (.cells #[.int .i64 t2, .slice B2 k2 c2] 27 (0, 0)) := by
      have h := heap_alloc_new (v2.alloc (.cells #[.int .i64 s1, .slice B1 k1 c1] 27)) (.cells #[.int .i64 t2, .slice B2 k2 c2] 27)
      rw [World.size_alloc] at h
      exact h
    have hb3 : Below v2.heap.size v2 ((v2.alloc (.cells #[.int .i64 s1, .slice B1 k1 c1] 27)).alloc (.cells #[.int .i64 t2, .slice B2 k2 c2] 27)) := ((Below.refl _ v2).alloc (Nat.le_refl _) _).alloc (by simp) _
    have HR1 := Lib.hid hR1
    have HR2 := Lib.hid hR2
    have HP1 := Lib.hid (HRP1'.out.more hb3)
    have HP2 := Lib.hid (HRP2.out.more hb3)
    have HB3 := Lib.hid (HB2.out.trans (hb3.mono HB2.out.size))
    clear hR1 hR2 hb3
    generalize ((v2.alloc (.cells #[.int .i64 s1, .slice B1 k1 c1] 27)).alloc (.cells #[.int .i64 t2, .slice B2 k2 c2] 27)) = v3 at *
    have hv1 : validN s1 ps1 200 = 0 := good_valid' s1 200 ps1 (by omega) (by omega) (by rw [HK1.out]; omega) HG1.out
    have hv2 : validN t2 ps2 200 = 0 := good_valid' t2 200 ps2 (by omega) (by omega) (by rw [HK2.out]; omega) HG2.out
    have hbf1 := body_facts s1 200 ps1 hv1
    have hbf2 := body_facts t2 200 ps2 hv2
    have hb1o : WordsOk (bodyN s1 ps1) := (bodyN_ok s1 ps1 HP1.out.2.2.1).1
    have hb2o : WordsOk (bodyN t2 ps2) := (bodyN_ok t2 ps2 HP2.out.2.2.1).1
    obtain ⟨mk, hmk⟩ : ∃ mk : Nat, markV s1 = (mk : Int) := ⟨(s1 * 4 + 2).toNat, by rw [markV_eq s1 (by omega)]; omega⟩
    have hmk64 : mk < 18446744073709551616 := by rw [markV_eq s1 (by omega)] at hmk; omega
    have hme : markE s1 = 0 := by unfold markE markOk; rw [decide_eq_true (by omega)]; rfl
    have hmx := fun W => rmark_x s1 W
    rw [hmk, hme] at hmx
    have hlg : Calls Try.prog 11 #[.agg #[.int .i64 s1, .slice B1 k1 c1], .int .u64 (mk : Int), .int .u64 0] v3 (LogR mk 0 (bodyN s1 ps1) v3) := hlog_x s1 k1 c1 mk 0 B1 ps1 v3 HP1.out (validN_256 _ _ _ hv1)
    have hlok : WordsOk (wl (logF mk 0 (bodyN s1 ps1))) := wl_ok _ fun j _ => logF_ok mk 0 _ hmk64 (by omega) hb1o j
    have hcm := com_body (logF mk 0 (bodyN s1 ps1)) s1 200 ps1 hv1 (fun j hj => by unfold logF; rw [if_neg (by omega), if_neg (by omega), if_pos (by omega), Nat.add_sub_cancel_left]) (by unfold logF; rw [if_pos rfl]; exact hmk.symm)
    obtain ⟨cP, hcP⟩ : ∃ cP, comP (wl (logF mk 0 (bodyN s1 ps1))) 200 = cP := ⟨_, rfl⟩
    rw [hcP] at hcm
    have hcx := fun W g (hr : Row W g (wl (logF mk 0 (bodyN s1 ps1)))) => committed_x 200 120 120 _ _ W (hr.reads (wl_length _) (by omega) hlok) (Nat.le_refl _)
    unfold RecR at hcx
    rw [hcm.1, hcm.2.1, hcP] at hcx
    have hsm := hcm.2.2
    obtain ⟨nb, hnb⟩ : ∃ nb, (bodyN t2 ps2).length = nb := ⟨_, rfl⟩
    have hnb2 : nb = 3 + 9 * k2 := by rw [← hnb, hbf2.1, HK2.out]
    have hk12 : k2 ≤ 12 := by have := HG2.out.2.1; rw [HK2.out] at this; exact this
    have hnb12 : 12 ≤ nb ∧ nb ≤ 111 := by omega
    obtain ⟨hnb12, hnb111⟩ := hnb12
    have hbx := fun W (hr : ReadsP W B2 k2 ps2) => body_o 22 (.inl rfl) t2 k2 c2 B2 ps2 W hr nb hnb (by omega)
    -- the new body over the log: as far as n words
    have htorn : ∀ n, 1 ≤ n → comOk (wl (tornF mk (bodyN s1 ps1) (bodyN t2 ps2) n)) 200 = false := fun n hn =>
      com_other _ s1 200 t2.toNat (by unfold tornF; rw [if_neg (by omega)]; unfold logF; rw [if_pos rfl]; exact hmk.symm) (by unfold tornF; rw [if_pos (by omega)]; exact hbf2.2.2.1) (by omega) (by omega) (by omega)
    have hfull := whole_body (tornF mk (bodyN s1 ps1) (bodyN t2 ps2) nb) t2 200 ps2 hv2 (fun j hj => by unfold tornF; rw [if_pos (by omega), Nat.add_sub_cancel_left])
    have htok : ∀ n, WordsOk (wl (tornF mk (bodyN s1 ps1) (bodyN t2 ps2) n)) := fun n => wl_ok _ fun j _ => tornF_ok mk _ _ hmk64 hb1o hb2o n j
    have hz := tornF_zero mk (bodyN s1 ps1) (bodyN t2 ps2)
    have hst := fun i hi => tornF_step mk (bodyN s1 ps1) (bodyN t2 ps2) i hi
    generalize bodyN s1 ps1 = b1 at *
    generalize bodyN t2 ps2 = b2 at *
    have HMX := Lib.hid hmx
    have HLG := Lib.hid hlg
    have HCX := Lib.hid hcx
    have HSM := Lib.hid hsm
    have HNB := Lib.hid hnb
    have HBX := Lib.hid hbx
    have HT := Lib.hid htorn
    have HF := Lib.hid hfull
    have HTO := Lib.hid htok
    have HZ := Lib.hid hz
    have HST := Lib.hid hst
    have HB2O := Lib.hid hb2o
    have s27a : (Try.prog.info? 27).map (·.size) = some (#[.int .i64 s1, .slice B1 k1 c1] : Array Value).size := by rw [size27]; rfl
    have s27b : (Try.prog.info? 27).map (·.size) = some (#[.int .i64 t2, .slice B2 k2 c2] : Array Value).size := by rw [size27]; rfl
    clear hmx hlg hlok hcm hcP hcx hsm hnb hbx htorn hfull htok hz hst hb1o hb2o hbf1 hbf2 hv1 hv2 hmk hme hnb2
    go_at_call 10
    refine (HMX.out _).mono ?_
    rintro e v' ⟨rfl, rfl⟩
    go_wp2_with (first | (refine wpList_load_row rfl 27 _ rfl v2.heap.size rfl 27 #[.int .i64 s1, .slice B1 k1 c1] (0, 0) _ HR1.out Try.underlying27 rfl s27a ?_) | fail)
    go_at_call 11
    refine HLG.out.mono ?_
    rintro e v5 ⟨⟨g, rfl, hg, hrow⟩, hb5⟩
    have HR15 := Lib.hid ((hb5.block _ (Array.getElem?_eq_some_iff.1 HR1.out).1).trans HR1.out)
    have HR25 := Lib.hid ((hb5.block _ (Array.getElem?_eq_some_iff.1 HR2.out).1).trans HR2.out)
    have HRow5 := Lib.hid hrow
    have HB35 := Lib.hid hb5
    have hgl : g < v5.heap.size := hrow.lt
    clear hrow hb5
    go_wp2_with fail
    go_at_call 15
    refine (HCX.out _ _ HRow5.out).mono ?_
    rintro e v6 ⟨⟨A6, c6, rfl, hr6⟩, hb6⟩
    have hba6 : Below v6.heap.size v6 (v6.alloc (.cells #[.int .i64 s1, .slice A6 cP.length c6] 34)) := (Below.refl _ v6).alloc (Nat.le_refl _) _
    have hb56 := hb6.trans (hba6.mono hb6.size)
    have HX6 := Lib.hid (heap_alloc_new v6 (.cells #[.int .i64 s1, .slice A6 cP.length c6] 34))
    have HC6 := Lib.hid (hr6.more hba6)
    have HR16 := Lib.hid ((hb56.block _ (Array.getElem?_eq_some_iff.1 HR15.out).1).trans HR15.out)
    have HR26 := Lib.hid ((hb56.block _ (Array.getElem?_eq_some_iff.1 HR25.out).1).trans HR25.out)
    have HRow6 := Lib.hid (HRow5.out.more hb56)
    have HB36 := Lib.hid (HB35.out.trans (hb56.mono HB35.out.size))
    have HP16 := Lib.hid (HP1.out.more HB36.out)
    clear hba6 hb56 hr6 hb6
    go_wp2_with fail
    obtain ⟨C, hC⟩ : ∃ C : World → Prop, C = fun w' => Below (v6.alloc (.cells #[.int .i64 s1, .slice A6 cP.length c6] 34)).heap.size (v6.alloc (.cells #[.int .i64 s1, .slice A6 cP.length c6] 34)) w' := ⟨_, rfl⟩
    have hex : ∃ x, C x := ⟨(v6.alloc (.cells #[.int .i64 s1, .slice A6 cP.length c6] 34)), by rw [hC]; exact Below.refl _ _⟩
    have hCs : C { (v6.alloc (.cells #[.int .i64 s1, .slice A6 cP.length c6] 34)) with drawn := (v6.alloc (.cells #[.int .i64 s1, .slice A6 cP.length c6] 34)).drawn + 1 } := by rw [hC]; exact (Below.refl _ _).drew
    have HC := Lib.hid hC
    clear hC
    have hL : ∀ w', C w' → ∀ (j : Nat) (v : Value), #[.int .i64 s1, .slice A6 cP.length c6][j]? = some v → w'.cell? ((⟨v6.heap.size, 0, none⟩ : Addr).add j) = some v := by
      intro w' hc
      rw [HC.out] at hc
      exact cells_in ((hc.block _ (Array.getElem?_eq_some_iff.1 HX6.out).1).trans HX6.out)
    have HL0 := Lib.hid hL
    clear hL
    have hL : ∀ w', C w' → ∀ (j : Nat) (v : Value), #[.int .i64 s1, .slice B1 k1 c1][j]? = some v → w'.cell? ((⟨v2.heap.size, 0, none⟩ : Addr).add j) = some v := by
      intro w' hc
      rw [HC.out] at hc
      exact cells_in ((hc.block _ (Array.getElem?_eq_some_iff.1 HR16.out).1).trans HR16.out)
    have HL1 := Lib.hid hL
    clear hL
    refine wp_region_quiet (C := C) (by kernel_rfl) (by kernel_rfl) hCs ?_
    clear hCs
    simp only
    repeat (first
      | go_big_quiet_skip
      | (go_big_quiet_want; first
        | (refine quiet_load 34 _ rfl ⟨v6.heap.size, 0, none⟩ rfl #[.int .i64 s1, .slice A6 cP.length c6] _ HL0.out Try.underlying34 rfl (by rw [size34]; rfl) ?_; simp only [Act.put, List.setIfInBounds_toArray, List.set_cons_succ, List.set_cons_zero]; go_big_quiet_on)
        | (refine quiet_load 27 _ rfl ⟨v2.heap.size, 0, none⟩ rfl #[.int .i64 s1, .slice B1 k1 c1] _ HL1.out Try.underlying27 rfl (by rw [size27]; rfl) ?_; simp only [Act.put, List.setIfInBounds_toArray, List.set_cons_succ, List.set_cons_zero]; go_big_quiet_on)
        | (go_big_quiet_op; first | go_big_quiet_on | go_big_quiet_call (first
          | (intro _; with_reducible rfl)
          | (intro hc; go_at_call 21; rw [HC.out] at hc ⊢; exact (in_x _ _ _ _ _).mono fun _ _ ⟨he, h⟩ => ⟨he, hc.trans (h.mono hc.size)⟩)
          | (intro hc; go_at_call 20; rw [HC.out] at hc ⊢; exact (same_t (HC6.out.more hc) (HP16.out.more hc) HSM.out).mono fun _ _ ⟨he, h⟩ => ⟨he, hc.trans (h.mono hc.size)⟩)
          | (intro hc; go_at_call 19; rw [HC.out] at hc ⊢; exact (awake_x _).mono fun _ _ ⟨he, h⟩ => ⟨he, hc.trans (h.mono hc.size)⟩)
          | fail))))
    refine wpQuiet_nil ?_
    intro vq hcq
    rw [HC.out] at hcq
    clear hex HC
    have HR27 := Lib.hid ((hcq.block _ (Array.getElem?_eq_some_iff.1 HR26.out).1).trans HR26.out)
    have HRow7 := Lib.hid (HRow6.out.more hcq)
    have HB37 := Lib.hid (HB36.out.trans (hcq.mono HB36.out.size))
    have HP27 := Lib.hid (HP2.out.more HB37.out)
    clear hcq
    go_wp2_with (first
      | (refine wpList_load_row rfl 27 _ rfl (v2.heap.size + 1) rfl 27 #[.int .i64 t2, .slice B2 k2 c2] (0, 0) _ HR27.out Try.underlying27 rfl s27b ?_)
      | fail)
    go_at_call 21
    refine (in_x _ _ _ _ _).mono ?_
    rintro e v8 ⟨rfl, hb8⟩
    have HP28 := Lib.hid (HP27.out.more hb8)
    have HR28 := Lib.hid ((hb8.block _ (Array.getElem?_eq_some_iff.1 HR27.out).1).trans HR27.out)
    have HRow8 := Lib.hid (HRow7.out.more hb8)
    have HB38 := Lib.hid (HB37.out.trans (hb8.mono HB37.out.size))
    clear hb8
    go_wp2_with fail
    go_at_call 22
    refine (HBX.out _ HP28.out).mono ?_
    rintro e v9 ⟨g9, c9, rfl, hg9, hg9l, hc9, ho9, hr9, hb9⟩
    have HR29 := Lib.hid ((hb9.block _ (Array.getElem?_eq_some_iff.1 HR28.out).1).trans HR28.out)
    have HRow9 := Lib.hid (HRow8.out.more hb9)
    have HB39 := Lib.hid (HB38.out.trans (hb9.mono HB38.out.size))
    have hg8 : g < v8.heap.size := HRow8.out.lt
    have HO9 := Lib.hid ho9
    clear ho9 hr9 hb9
    by_cases hmin : (nb : Int) ≤ ((k14 : Int) + 1) * 8
    · skip
      go_wp2_with (first
        | (go_at_call 12; refine (HPK.out _).mono ?_; rintro e v' ⟨rfl, rfl⟩)
        | fail)
      go_loopg [20] nb (fun gg s20 wx => ∃ i : Nat, i + gg = nb ∧ s20 = .int .i64 i ∧ Row wx g (wl (tornF mk b1 b2 i)) ∧ wx.ownsRow v8.heap.size 23 1 (.slice (some ⟨g9, 0, none⟩) nb c9) nb (wcells b2) ∧ Below v3.heap.size v3 wx)
      case atStart => exact ⟨0, by omega, rfl, by rw [HZ.out]; exact HRow9.out, HO9.out, HB39.out⟩
      case round =>
        obtain ⟨i, hi, rfl, hrow, ho, hbr⟩ := hrel
        have HRow := Lib.hid hrow
        have HO := Lib.hid ho
        clear hrow ho
        cases gk with
        | succ gk =>
          have hlt : (i : Int) < (nb : Int) := by omega
          have hi0 : (0 : Int) ≤ (i : Int) := by omega
          have hib : (i : Int) < (nb : Int) := by omega
          have hi8 : (8 : Int) + (i : Int) < 120 := by omega
          have hi80 : (0 : Int) ≤ 8 + (i : Int) := by omega
          have hin : ((8 : Int) + (i : Int)).toNat = 8 + i := by omega
          have cb1 := own_word HO.out (k := i) (by omega)
          have c1 : wr.cell? ⟨g, 8 + i, none⟩ = some (.int .u64 ((_ : Nat) : Int)) := HRow.out.cell (8 + i) (by rw [wl_length]; omega)
          have f1 : wr.frozen? ⟨g, 8 + i, none⟩ = false := HRow.out.frozen _
          have hadd : (⟨g9, 0, none⟩ : Addr).add i = ⟨g9, i, none⟩ := by unfold Addr.add; split <;> simp_all
          have hst := HRow.out.set (8 + i) (b2.getD i 0)
          rw [HST.out i (by omega)] at hst
          have HSt := Lib.hid hst
          clear hst
          generalize b2.getD i 0 = bi at cb1 HSt
          go_wp2
          go_roundg gk
          case measure => omega
          case rel =>
            exact ⟨i + 1, by omega, by go_num, HSt.out, ownsRow_setCell_below HO.out (by show g < _; exact hg8) _, hbr.setCell (p := ⟨g, 8 + i, none⟩) hg _⟩
        | zero =>
          obtain rfl : nb = i := by omega
          have hda : decide (nb < nb) = false := decide_eq_false (by omega)
          have HBr := Lib.hid hbr
          have hcf := committed_x 200 120 120 _ _ wr (HRow.out.reads (wl_length _) (by omega) (HTO.out nb)) (Nat.le_refl _)
          unfold RecR at hcf
          rw [(com_false _ _ (HT.out nb (by omega))).1, (com_false _ _ (HT.out nb (by omega))).2, HT.out nb (by omega)] at hcf
          have HCF := Lib.hid hcf
          clear hcf hbr
          go_wp2_with fail
          go_at_call 15
          refine HCF.out.mono ?_
          rintro e v11 ⟨⟨A11, c11, rfl, _⟩, hb11⟩
          simp only [List.length_nil]
          have hbr12 := hb11.alloc hb11.size (.cells #[.int .i64 0, .slice A11 0 c11] 34)
          have hrow12 := HRow.out.more hbr12
          have hwx := whole_x 200 120 120 _ _ (v11.alloc (.cells #[.int .i64 0, .slice A11 0 c11] 34)) (hrow12.reads (wl_length _) (by omega) (HTO.out nb)) (Nat.le_refl _)
          unfold RecR at hwx
          obtain ⟨wO, hwO⟩ : ∃ x, wholeOk (wl (tornF mk b1 b2 nb)) 200 = x := ⟨_, rfl⟩
          obtain ⟨wS, hwS⟩ : ∃ x, wholeS (wl (tornF mk b1 b2 nb)) 200 = x := ⟨_, rfl⟩
          obtain ⟨wP, hwP⟩ : ∃ x, wholeP (wl (tornF mk b1 b2 nb)) 200 = x := ⟨_, rfl⟩
          rw [hwO, hwS, hwP] at hwx
          have hF := HF.out
          rw [hwO, hwS, hwP] at hF
          obtain ⟨hO, hS, hsame⟩ := hF
          have hS' := hS.symm
          subst hO
          subst hS'
          have HSame := Lib.hid hsame
          clear hsame
          have HWX := Lib.hid hwx
          have HB12 := Lib.hid (HBr.out.trans (hbr12.mono HBr.out.size))
          have hda2 := hda
          clear hwx hbr12 hrow12 hb11 hwO hwS hwP hda
          go_wp2_with fail
          go_at_call 13
          refine HWX.out.mono ?_
          rintro e v13 ⟨⟨A13, c13, rfl, hr13⟩, hb13⟩
          have hba : Below v13.heap.size v13 (v13.alloc (.cells #[.int .i64 t2, .slice A13 wP.length c13] 34)) := (Below.refl _ v13).alloc (Nat.le_refl _) _
          have HY := Lib.hid (heap_alloc_new v13 (.cells #[.int .i64 t2, .slice A13 wP.length c13] 34))
          have HB13 := Lib.hid (HB12.out.trans ((hb13.trans (hba.mono hb13.size)).mono HB12.out.size))
          have HRY := Lib.hid (hr13.more hba)
          have HR213 := Lib.hid ((HB13.out.block _ (Array.getElem?_eq_some_iff.1 HR2.out).1).trans HR2.out)
          have HP213 := Lib.hid (HP2.out.more HB13.out)
          clear hba hr13 hb13
          go_wp2_with fail
          obtain ⟨C, hC⟩ : ∃ C : World → Prop, C = fun w' => Below (v13.alloc (.cells #[.int .i64 t2, .slice A13 wP.length c13] 34)).heap.size (v13.alloc (.cells #[.int .i64 t2, .slice A13 wP.length c13] 34)) w' := ⟨_, rfl⟩
          have hex : ∃ x, C x := ⟨(v13.alloc (.cells #[.int .i64 t2, .slice A13 wP.length c13] 34)), by rw [hC]; exact Below.refl _ _⟩
          have hCs : C { (v13.alloc (.cells #[.int .i64 t2, .slice A13 wP.length c13] 34)) with drawn := (v13.alloc (.cells #[.int .i64 t2, .slice A13 wP.length c13] 34)).drawn + 1 } := by rw [hC]; exact (Below.refl _ _).drew
          have HC := Lib.hid hC
          clear hC
          have hL : ∀ w', C w' → ∀ (j : Nat) (v : Value), #[.int .i64 t2, .slice A13 wP.length c13][j]? = some v → w'.cell? ((⟨v13.heap.size, 0, none⟩ : Addr).add j) = some v := by
            intro w' hc
            rw [HC.out] at hc
            exact cells_in ((hc.block _ (Array.getElem?_eq_some_iff.1 HY.out).1).trans HY.out)
          have HL0 := Lib.hid hL
          clear hL
          have hL : ∀ w', C w' → ∀ (j : Nat) (v : Value), #[.int .i64 t2, .slice B2 k2 c2][j]? = some v → w'.cell? ((⟨(v2.heap.size + 1), 0, none⟩ : Addr).add j) = some v := by
            intro w' hc
            rw [HC.out] at hc
            exact cells_in ((hc.block _ (Array.getElem?_eq_some_iff.1 HR213.out).1).trans HR213.out)
          have HL1 := Lib.hid hL
          clear hL
          refine wp_region_quiet (C := C) (by kernel_rfl) (by kernel_rfl) hCs ?_
          clear hCs
          simp only
          repeat (first
            | go_big_quiet_skip
            | (go_big_quiet_want; first
              | (refine quiet_load 34 _ rfl ⟨v13.heap.size, 0, none⟩ rfl #[.int .i64 t2, .slice A13 wP.length c13] _ HL0.out Try.underlying34 rfl (by rw [size34]; rfl) ?_; simp only [Act.put, List.setIfInBounds_toArray, List.set_cons_succ, List.set_cons_zero]; go_big_quiet_on)
              | (refine quiet_load 27 _ rfl ⟨(v2.heap.size + 1), 0, none⟩ rfl #[.int .i64 t2, .slice B2 k2 c2] _ HL1.out Try.underlying27 rfl (by rw [size27]; rfl) ?_; simp only [Act.put, List.setIfInBounds_toArray, List.set_cons_succ, List.set_cons_zero]; go_big_quiet_on)
              | (go_big_quiet_op; first | go_big_quiet_on | go_big_quiet_call (first
                | (intro _; with_reducible rfl)
                | (intro hc; go_at_call 21; rw [HC.out] at hc ⊢; exact (in_x _ _ _ _ _).mono fun _ _ ⟨he, h⟩ => ⟨he, hc.trans (h.mono hc.size)⟩)
                | (intro hc; go_at_call 20; rw [HC.out] at hc ⊢; exact (same_t (HRY.out.more hc) (HP213.out.more hc) HSame.out).mono fun _ _ ⟨he, h⟩ => ⟨he, hc.trans (h.mono hc.size)⟩)
                | fail))))
          refine wpQuiet_nil ?_
          intro vq hcq
          rw [HC.out] at hcq
          clear hex HC
          go_wp2
          go_ret
          have hbb := HB3.out.trans (HB13.out.mono HB3.out.size)
          exact ⟨by rfl, hbb.trans (hcq.mono hbb.size)⟩
    · obtain ⟨n, hn⟩ : ∃ n : Nat, ((k14 : Int) + 1) * 8 = (n : Int) := ⟨(k14 + 1) * 8, by push_cast; rfl⟩
      have hn1 : 8 ≤ n := by omega
      have hn2 : n < nb := by omega
      go_wp2_with (first
        | (go_at_call 12; refine (HPK.out _).mono ?_; rintro e v' ⟨rfl, rfl⟩)
        | fail)
      go_loopg [20] n (fun gg s20 wx => ∃ i : Nat, i + gg = n ∧ s20 = .int .i64 i ∧ Row wx g (wl (tornF mk b1 b2 i)) ∧ wx.ownsRow v8.heap.size 23 1 (.slice (some ⟨g9, 0, none⟩) nb c9) nb (wcells b2) ∧ Below v3.heap.size v3 wx)
      case atStart => exact ⟨0, by omega, rfl, by rw [HZ.out]; exact HRow9.out, HO9.out, HB39.out⟩
      case round =>
        obtain ⟨i, hi, rfl, hrow, ho, hbr⟩ := hrel
        have HRow := Lib.hid hrow
        have HO := Lib.hid ho
        clear hrow ho
        cases gk with
        | succ gk =>
          have hlt : (i : Int) < (n : Int) := by omega
          have hi0 : (0 : Int) ≤ (i : Int) := by omega
          have hib : (i : Int) < (nb : Int) := by omega
          have hi8 : (8 : Int) + (i : Int) < 120 := by omega
          have hi80 : (0 : Int) ≤ 8 + (i : Int) := by omega
          have hin : ((8 : Int) + (i : Int)).toNat = 8 + i := by omega
          have cb1 := own_word HO.out (k := i) (by omega)
          have c1 : wr.cell? ⟨g, 8 + i, none⟩ = some (.int .u64 ((_ : Nat) : Int)) := HRow.out.cell (8 + i) (by rw [wl_length]; omega)
          have f1 : wr.frozen? ⟨g, 8 + i, none⟩ = false := HRow.out.frozen _
          have hadd : (⟨g9, 0, none⟩ : Addr).add i = ⟨g9, i, none⟩ := by unfold Addr.add; split <;> simp_all
          have hst := HRow.out.set (8 + i) (b2.getD i 0)
          rw [HST.out i (by omega)] at hst
          have HSt := Lib.hid hst
          clear hst
          generalize b2.getD i 0 = bi at cb1 HSt
          go_wp2
          go_roundg gk
          case measure => omega
          case rel =>
            exact ⟨i + 1, by omega, by go_num, HSt.out, ownsRow_setCell_below HO.out (by show g < _; exact hg8) _, hbr.setCell (p := ⟨g, 8 + i, none⟩) hg _⟩
        | zero =>
          obtain rfl : n = i := by omega
          have hda : decide (n < n) = false := decide_eq_false (by omega)
          have HBr := Lib.hid hbr
          have hcf := committed_x 200 120 120 _ _ wr (HRow.out.reads (wl_length _) (by omega) (HTO.out n)) (Nat.le_refl _)
          unfold RecR at hcf
          rw [(com_false _ _ (HT.out n (by omega))).1, (com_false _ _ (HT.out n (by omega))).2, HT.out n (by omega)] at hcf
          have HCF := Lib.hid hcf
          clear hcf hbr
          go_wp2_with fail
          go_at_call 15
          refine HCF.out.mono ?_
          rintro e v11 ⟨⟨A11, c11, rfl, _⟩, hb11⟩
          simp only [List.length_nil]
          have hbr12 := hb11.alloc hb11.size (.cells #[.int .i64 0, .slice A11 0 c11] 34)
          have hrow12 := HRow.out.more hbr12
          have hwx := whole_x 200 120 120 _ _ (v11.alloc (.cells #[.int .i64 0, .slice A11 0 c11] 34)) (hrow12.reads (wl_length _) (by omega) (HTO.out n)) (Nat.le_refl _)
          unfold RecR at hwx
          obtain ⟨wO, hwO⟩ : ∃ x, wholeOk (wl (tornF mk b1 b2 n)) 200 = x := ⟨_, rfl⟩
          obtain ⟨wS, hwS⟩ : ∃ x, wholeS (wl (tornF mk b1 b2 n)) 200 = x := ⟨_, rfl⟩
          obtain ⟨wP, hwP⟩ : ∃ x, wholeP (wl (tornF mk b1 b2 n)) 200 = x := ⟨_, rfl⟩
          rw [hwO, hwS, hwP] at hwx
          have HWX := Lib.hid hwx
          have HB12 := Lib.hid (HBr.out.trans (hbr12.mono HBr.out.size))
          have hda2 := hda
          clear hwx hbr12 hrow12 hb11 hwO hwS hwP hda
          go_wp2_with fail
          go_at_call 13
          refine HWX.out.mono ?_
          rintro e v13 ⟨⟨A13, c13, rfl, hr13⟩, hb13⟩
          have hba : Below v13.heap.size v13 (v13.alloc (.cells #[.int .i64 wS, .slice A13 wP.length c13] 34)) := (Below.refl _ v13).alloc (Nat.le_refl _) _
          have HY := Lib.hid (heap_alloc_new v13 (.cells #[.int .i64 wS, .slice A13 wP.length c13] 34))
          have HB13 := Lib.hid (HB12.out.trans ((hb13.trans (hba.mono hb13.size)).mono HB12.out.size))
          have HRY := Lib.hid (hr13.more hba)
          have HR213 := Lib.hid ((HB13.out.block _ (Array.getElem?_eq_some_iff.1 HR2.out).1).trans HR2.out)
          have HP213 := Lib.hid (HP2.out.more HB13.out)
          clear hba hr13 hb13
          have hdb : decide (n < nb) = true := decide_eq_true (by omega)
          go_wp2_with fail
          obtain ⟨C, hC⟩ : ∃ C : World → Prop, C = fun w' => Below (v13.alloc (.cells #[.int .i64 wS, .slice A13 wP.length c13] 34)).heap.size (v13.alloc (.cells #[.int .i64 wS, .slice A13 wP.length c13] 34)) w' := ⟨_, rfl⟩
          have hex : ∃ x, C x := ⟨(v13.alloc (.cells #[.int .i64 wS, .slice A13 wP.length c13] 34)), by rw [hC]; exact Below.refl _ _⟩
          have hCs : C { (v13.alloc (.cells #[.int .i64 wS, .slice A13 wP.length c13] 34)) with drawn := (v13.alloc (.cells #[.int .i64 wS, .slice A13 wP.length c13] 34)).drawn + 1 } := by rw [hC]; exact (Below.refl _ _).drew
          have HC := Lib.hid hC
          clear hC
          have hL : ∀ w', C w' → ∀ (j : Nat) (v : Value), #[.int .i64 wS, .slice A13 wP.length c13][j]? = some v → w'.cell? ((⟨v13.heap.size, 0, none⟩ : Addr).add j) = some v := by
            intro w' hc
            rw [HC.out] at hc
            exact cells_in ((hc.block _ (Array.getElem?_eq_some_iff.1 HY.out).1).trans HY.out)
          have HL0 := Lib.hid hL
          clear hL
          have hL : ∀ w', C w' → ∀ (j : Nat) (v : Value), #[.int .i64 t2, .slice B2 k2 c2][j]? = some v → w'.cell? ((⟨(v2.heap.size + 1), 0, none⟩ : Addr).add j) = some v := by
            intro w' hc
            rw [HC.out] at hc
            exact cells_in ((hc.block _ (Array.getElem?_eq_some_iff.1 HR213.out).1).trans HR213.out)
          have HL1 := Lib.hid hL
          clear hL
          refine wp_region_quiet (C := C) (by kernel_rfl) (by kernel_rfl) hCs ?_
          clear hCs
          simp only
          repeat (first
            | go_big_quiet_skip
            | (go_big_quiet_want; first
              | (refine quiet_load 34 _ rfl ⟨v13.heap.size, 0, none⟩ rfl #[.int .i64 wS, .slice A13 wP.length c13] _ HL0.out Try.underlying34 rfl (by rw [size34]; rfl) ?_; simp only [Act.put, List.setIfInBounds_toArray, List.set_cons_succ, List.set_cons_zero]; go_big_quiet_on)
              | (refine quiet_load 27 _ rfl ⟨(v2.heap.size + 1), 0, none⟩ rfl #[.int .i64 t2, .slice B2 k2 c2] _ HL1.out Try.underlying27 rfl (by rw [size27]; rfl) ?_; simp only [Act.put, List.setIfInBounds_toArray, List.set_cons_succ, List.set_cons_zero]; go_big_quiet_on)
              | (go_big_quiet_op; first | go_big_quiet_on | go_big_quiet_call (first
                | (intro _; with_reducible rfl)
                | (intro hc; go_at_call 21; rw [HC.out] at hc ⊢; exact (in_x _ _ _ _ _).mono fun _ _ ⟨he, h⟩ => ⟨he, hc.trans (h.mono hc.size)⟩)
                | fail))))
          refine wpQuiet_nil ?_
          intro vq hcq
          rw [HC.out] at hcq
          clear hex HC
          go_wp2
          go_ret
          have hbb := HB3.out.trans (HB13.out.mono HB3.out.size)
          exact ⟨by rfl, hbb.trans (hcq.mono hbb.size)⟩

theorem torn_law (a0 a1 : Int) (a2 : Option Addr) (len2 cap2 : Nat) (z2 : List Int) (a3 : Option Addr) (len3 cap3 : Nat) (z3 : List Int) (a4 : Int) (w : World)
    (w0 : (Lit.int .i64 a0).wf = true) (w1 : (Lit.int .i64 a1).wf = true) (w2 : IsRow .i64 w a2 len2 cap2 z2) (w3 : IsRow .i64 w a3 len3 cap3 z3) (w4 : (Lit.int .i64 a4).wf = true) :
    Calls Try.prog 4 #[.int .i64 a0, .int .i64 a1, .slice a2 len2 cap2, .slice a3 len3 cap3, .int .i64 a4] w fun e w' => e = .returned (.bool true) ∧ Below w.heap.size w w' := by
  by_cases h20 : (20 : Int) < (len2 : Int)
  · clear w0 w1 w2 w3 w4
    go_enter Try.func4, Try.ntmps4
    go_wp2
    go_ret
    exact ⟨rfl, Below.refl _ _⟩
  · by_cases h60 : (20 : Int) < (len3 : Int)
    · clear w0 w1 w2 w3 w4
      go_enter Try.func4, Try.ntmps4
      go_wp2
      go_ret
      exact ⟨rfl, Below.refl _ _⟩
    · exact torn_core a0 a1 a4 len2 cap2 len3 cap3 a2 a3 _ _ w (isrow_readsI w2 (by omega)) (isrow_readsI w3 (by omega)) h20 h60 (wf_i64 w0) (wf_i64 w1) (wf_i64 w4)
end Go.Proofs.Ytmeppeadfhifeaa
