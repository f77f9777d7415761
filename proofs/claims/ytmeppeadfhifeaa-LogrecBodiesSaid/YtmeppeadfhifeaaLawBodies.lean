/- The law LogrecBodies walked: it returns true. Conditions: the slices read as rows of numbers and words. -/
import Derived.Test.YtmeppeadfhifeaaLawLogs
namespace Go.Proofs.Ytmeppeadfhifeaa
open Go.RowKit Go.Shelf
set_option linter.unusedVariables false
set_option linter.unusedSimpArgs false

theorem readsW_setRow {w : World} {g' g n : Nat} {ws : List Nat} (h : ReadsW w (some ⟨g', 0, none⟩) n ws) (hne : g' ≠ g) (cs : Array Value) : ReadsW (w.setRow g cs) (some ⟨g', 0, none⟩) n ws := by
  refine ⟨h.1, h.2.1, fun k hk => ?_⟩
  obtain ⟨ad, e, hlt, hc, hv⟩ := h.2.2 k hk
  cases e
  refine ⟨_, rfl, by simpa [World.setRow] using hlt, ?_, hv⟩
  rw [World.cell?_of_block (w := w) (by rw [block_add]; exact setRow_other w g g' cs hne)]
  exact hc
theorem samewords_b' {n m cap cap' : Nat} {A B : Option Addr} {ps : List Nat} {w : World} (hp : ReadsW w A n ps) (hq : ReadsW w B m ps) :
    Calls Try.prog 25 #[.slice A n cap, .slice B m cap'] w fun e w' => e = .returned (.bool true) ∧ Below w.heap.size w w' :=
  samewords_b n m cap cap' A B ps ps w true (by simp) hp hq
theorem body_nil (s : Int) (w : World) : Calls Try.prog 22 #[.agg #[.int .i64 s, .slice none 0 0]] w fun e w' => e = .returned (.slice none 0 0) ∧ Below w.heap.size w w' := by
  have hb0 : Below w.heap.size w (w.alloc (.cells #[.int .i64 s, .slice none 0 0] 34)) := (Below.refl _ w).alloc (Nat.le_refl _) _
  have hv := valid_x s 256 0 0 none [] (w.alloc (.cells #[.int .i64 s, .slice none 0 0] 34)) (ReadsP.nil _)
  rw [validN_1 s [] 256 (by decide) (by simp)] at hv
  have HV := Lib.hid hv
  have HB0 := Lib.hid hb0
  clear hv hb0
  go_enter Try.func22, Try.ntmps22
  go_wp2_with (first | (go_at_call 23; refine HV.out.mono ?_; rintro e w1 ⟨rfl, hb1⟩) | fail)
  go_ret
  exact ⟨rfl, HB0.out.trans (hb1.mono HB0.out.size)⟩

set_option maxRecDepth 100000 in
set_option maxHeartbeats 20000000 in
theorem bodies_core (a0 a3 a4 : Int) (b n1 cap1 n2 cap2 n6 cap6 : Nat) (A1 A2 A6 : Option Addr) (xs : List Int) (ws ms : List Nat) (w : World) (hx : ReadsI w A1 n1 xs) (hw : ReadsW w A2 n2 ws) (hc2 : n2 ≤ cap2) (hm : ReadsW w A6 n6 ms) (hno : A6 = none → n6 = 0 ∧ cap6 = 0)
    (h20 : ¬ (20 : Int) < (n1 : Int)) (h200 : ¬ (200 : Int) < (n2 : Int)) (h60 : ¬ (60 : Int) < (n6 : Int)) (ha0 : -9223372036854775808 ≤ a0 ∧ a0 ≤ 9223372036854775807) (ha3 : -9223372036854775808 ≤ a3 ∧ a3 ≤ 9223372036854775807) (ha4 : -9223372036854775808 ≤ a4 ∧ a4 ≤ 9223372036854775807) (hb64 : b < 18446744073709551616) :
    Calls Try.prog 6 #[.int .i64 a0, .slice A1 n1 cap1, .slice A2 n2 cap2, .int .i64 a3, .int .i64 a4, .int .u64 (b : Int), .slice A6 n6 cap6] w fun e w' => e = .returned (.bool true) ∧ Below w.heap.size w w' := by
  obtain ⟨i0, hi, hz0, hz1, hz2⟩ := info_parts info23
  have hrec := hrecord_x a0 256 n1 cap1 A1 xs w (by omega) (by omega) hx ha0
  obtain ⟨k3, hk3⟩ : ∃ k3 : Nat, a3 % 170 = (k3 : Int) := ⟨(a3 % 170).toNat, by omega⟩
  have hk3l : k3 < 170 := by omega
  have hpk3 := fun W => pick_x a3 170 W (by omega) (by omega) ha3
  rw [hk3] at hpk3
  have HPK3 := Lib.hid hpk3
  have HREC := Lib.hid hrec
  have HM := Lib.hid hm
  have HWs := Lib.hid hw
  have HNO := Lib.hid hno
  clear hrec hx hm hno hw hpk3 hk3
  go_enter Try.func6, Try.ntmps6
  go_wp2_with fail
  go_at_call 9
  refine HREC.out.mono ?_
  rintro e v1 ⟨⟨s, ps, A3, c3, rfl, hs1, hs2, hp1, hg, hc3, hrp⟩, hb1⟩
  have hval : validN s ps 256 = 0 := good_valid s 256 ps (by omega) ⟨hs1, hs2⟩ hp1 hg
  have hbf := body_facts s 256 ps hval
  have hbo : WordsOk (bodyN s ps) := (bodyN_ok s ps hrp.2.2.1).1
  have hp12 := hg.2.1
  obtain ⟨nb, hnb⟩ : ∃ nb, (bodyN s ps).length = nb := ⟨_, rfl⟩
  have hnb2 : nb = 3 + 9 * ps.length := by rw [← hnb]; exact hbf.1
  have hbody := fun W (hr : ReadsP W A3 ps.length ps) => body_o 22 (.inl rfl) s ps.length c3 A3 ps W hr nb hnb (by omega)
  have hrbody := fun W (hr : ReadsP W A3 ps.length ps) => body_o 26 (.inr rfl) s ps.length c3 A3 ps W hr nb hnb (by omega)
  have hmok := reads_wordsOk HM.out
  have hml : ms.length = n6 := HM.out.1
  generalize bodyN s ps = bs at *
  obtain ⟨N, hN⟩ : ∃ N, nb + n6 = N := ⟨_, rfl⟩
  obtain ⟨k4, hk4⟩ : ∃ k : Nat, a4 % (N : Int) = (k : Int) := ⟨(a4 % (N : Int)).toNat, (Int.toNat_of_nonneg (Int.emod_nonneg _ (by omega))).symm⟩
  have hk4l : k4 < N := by have := Int.emod_lt_of_pos a4 (show (0 : Int) < (N : Int) by omega); omega
  have hpk4 := fun W => pick_x a4 (N : Int) W (by omega) (by omega) ha4
  rw [hk4] at hpk4
  have hallok : WordsOk (bs ++ ms) := by
    intro y hy
    rcases List.mem_append.1 hy with hy | hy
    · exact hbo y hy
    · exact hmok y hy
  have hlall : (bs ++ ms).length = N := by rw [List.length_append, hnb, hml, hN]
  obtain ⟨all, hall⟩ : ∃ all, bs ++ ms = all := ⟨_, rfl⟩
  rw [hall] at hallok hlall
  have hx64 : all.getD k4 0 < 18446744073709551616 := getD_ok all hallok k4
  have hxor := u64_xor_nat (all.getD k4 0) b hx64 hb64
  have hxb : all.getD k4 0 ^^^ b < 18446744073709551616 := Nat.xor_lt_two_pow (n := 64) (by omega) (by omega)
  obtain ⟨ck, hck⟩ : ∃ ck, all.set k4 (all.getD k4 0 ^^^ b) = ck := ⟨_, rfl⟩
  have hcok : WordsOk ck := by
    intro y hy
    rw [← hck] at hy
    rcases List.mem_or_eq_of_mem_set hy with hy | rfl
    · exact hallok y hy
    · exact hxb
  have p1 := parsed ((k3 : Int) + 94) N all _ _ _ rfl rfl rfl
  have r1 := rparsed ((k3 : Int) + 94) N all _ _ _ rfl rfl rfl
  have p2 := parsed ((k3 : Int) + 94) N ck _ _ _ rfl rfl rfl
  have r2 := rparsed ((k3 : Int) + 94) N ck _ _ _ rfl rfl rfl
  have p3 := parsed a3 n2 ws _ _ _ rfl rfl rfl
  have r3 := rparsed a3 n2 ws _ _ _ rfl rfl rfl
  generalize parseS all ((k3 : Int) + 94) = S1 at p1 r1
  generalize parseP all ((k3 : Int) + 94) = P1 at p1 r1
  generalize parseE all ((k3 : Int) + 94) = E1 at p1 r1
  generalize parseS ck ((k3 : Int) + 94) = S2 at p2 r2
  generalize parseP ck ((k3 : Int) + 94) = P2 at p2 r2
  generalize parseE ck ((k3 : Int) + 94) = E2 at p2 r2
  generalize parseS ws a3 = S3 at p3 r3
  generalize parseP ws a3 = P3 at p3 r3
  generalize parseE ws a3 = E3 at p3 r3
  generalize hx4 : all.getD k4 0 = x4 at *
  generalize ps.length = k1 at *
  have hneq : ((nb : Int) != 3 + 9 * (k1 : Int)) = false := by rw [bne_eq_false_iff_eq]; omega
  have hb12 : nb ≤ 111 := by omega
  have hb1p : 12 ≤ nb := by omega
  have HP1 := Lib.hid p1
  have HR1 := Lib.hid r1
  have HP2 := Lib.hid p2
  have HR2 := Lib.hid r2
  have HP3 := Lib.hid p3
  have HR3 := Lib.hid r3
  have HBODY := Lib.hid hbody
  have HRBODY := Lib.hid hrbody
  have HPK4 := Lib.hid hpk4
  have HRP := Lib.hid hrp
  have HNB := Lib.hid hnb
  have HNB2 := Lib.hid hnb2
  have HNN := Lib.hid hN
  have HML := Lib.hid hml
  have HALL := Lib.hid hall
  have HLA := Lib.hid hlall
  have HCK := Lib.hid hck
  have HX4 := Lib.hid hx4
  have HCOK := Lib.hid hcok
  have HAOK := Lib.hid hallok
  have HXOR := Lib.hid hxor
  have HB1 := Lib.hid hb1
  have HNEQ := Lib.hid hneq
  have hNb : 12 ≤ N ∧ N ≤ 171 := by omega
  obtain ⟨hN1, hN2⟩ := hNb
  clear p1 r1 p2 r2 p3 r3 hbody hrbody hpk4 hrp hnb hnb2 hN hml hall hlall hck hx4 hcok hallok hxor hb1 hneq hval hbf hbo hmok hg hk4 hx64 hxb
  have s27 : (Try.prog.info? 27).map (·.size) = some (#[.int .i64 s, .slice A3 k1 c3] : Array Value).size := by rw [size27]; rfl
  have s27e : ∀ x y : Value, (Try.prog.info? 27).map (·.size) = some (#[x, y] : Array Value).size := fun x y => by rw [size27]; rfl
  have s34e : ∀ x y : Value, (Try.prog.info? 34).map (·.size) = some (#[x, y] : Array Value).size := fun x y => by rw [size34]; rfl
  have S27 := Lib.hid s27e
  have S34 := Lib.hid s34e
  clear s27e s34e
  obtain ⟨R, hR⟩ : ∃ R, v1.heap.size = R := ⟨_, rfl⟩
  have hr1 : (v1.alloc (.cells #[.int .i64 s, .slice A3 k1 c3] 27)).heap[R]? = some (.cells #[.int .i64 s, .slice A3 k1 c3] 27 (0, 0)) := by rw [← hR]; exact heap_alloc_new v1 _
  have hb1' : Below v1.heap.size v1 (v1.alloc (.cells #[.int .i64 s, .slice A3 k1 c3] 27)) := (Below.refl _ v1).alloc (Nat.le_refl _) _
  have HRb1 := Lib.hid hr1
  have HB1' := Lib.hid hb1'
  clear hr1 hb1'
  go_wp2_with fail
  go_at_call 21
  refine (in_x _ _ _ _ _).mono ?_
  rintro e v2 ⟨rfl, hb2⟩
  have HRb2 := Lib.hid ((hb2.block _ (Array.getElem?_eq_some_iff.1 HRb1.out).1).trans HRb1.out)
  have hb12' := HB1'.out.trans (hb2.mono HB1'.out.size)
  have HRP2 := Lib.hid (HRP.out.more hb12')
  have HB2 := Lib.hid (HB1.out.trans (hb12'.mono HB1.out.size))
  have hRlt : R < v2.heap.size := (Array.getElem?_eq_some_iff.1 HRb2.out).1
  clear hb2 hb12'
  go_wp2_with fail
  go_at_call 22
  refine (HBODY.out _ HRP2.out).mono ?_
  rintro e v3 ⟨g3, c5, rfl, hg3, hg3l, hc5, ho3, hr3, hb3⟩
  have HRb3 := Lib.hid ((hb3.block _ hRlt).trans HRb2.out)
  have HRP3 := Lib.hid (HRP2.out.more hb3)
  have HB23 := Lib.hid hb3
  have HO3 := Lib.hid ho3
  have HW3 := Lib.hid hr3
  clear ho3 hr3 hb3
  go_wp2_with fail
  go_at_call 19
  refine (awake_x _).mono ?_
  rintro e v4 ⟨rfl, hb4⟩
  have HRb4 := Lib.hid ((hb4.block _ (Array.getElem?_eq_some_iff.1 HRb3.out).1).trans HRb3.out)
  have HRP4 := Lib.hid (HRP3.out.more hb4)
  have HB24 := Lib.hid (HB23.out.trans (hb4.mono HB23.out.size))
  have HO4 := Lib.hid (own_below HO3.out hb4)
  have HW4 := Lib.hid (HW3.out.more hb4)
  have k40 : v4.cell? ⟨R, 0, none⟩ = some (.int .i64 s) := by simp [World.cell?, HRb4.out]
  have k41 : v4.cell? ⟨R, 1, none⟩ = some (.slice A3 k1 c3) := by simp [World.cell?, HRb4.out]
  clear hb4
  go_wp2_with fail
  go_at_call 26
  refine (HRBODY.out _ HRP4.out).mono ?_
  rintro e v5 ⟨g5, c6, rfl, hg5, hg5l, hc6, ho5, hr5, hb5⟩
  have HRb5 := Lib.hid ((hb5.block _ (Array.getElem?_eq_some_iff.1 HRb4.out).1).trans HRb4.out)
  have HB25 := Lib.hid (HB24.out.trans (hb5.mono HB24.out.size))
  have HO5 := Lib.hid (own_below HO4.out hb5)
  have HW5 := Lib.hid (HW4.out.more hb5)
  have HW5' := Lib.hid hr5
  clear ho5 hr5 hb5 k40 k41
  go_wp2_with fail
  go_at_call 25
  refine (samewords_b' HW5.out HW5'.out).mono ?_
  rintro e v6 ⟨rfl, hb6⟩
  have HRb6 := Lib.hid ((hb6.block _ (Array.getElem?_eq_some_iff.1 HRb5.out).1).trans HRb5.out)
  have HB26 := Lib.hid (HB25.out.trans (hb6.mono HB25.out.size))
  have HO6 := Lib.hid (own_below HO5.out hb6)
  have k61 : v6.cell? ⟨R, 1, none⟩ = some (.slice A3 k1 c3) := by simp [World.cell?, HRb6.out]
  have HM6 := Lib.hid (HM.out.more (HB2.out.trans (HB26.out.mono HB2.out.size)))
  have hneq := HNEQ.out
  have hb112 : ¬ (112 : Int) < (nb : Int) := by omega
  clear hb6
  go_wp2_with (first
    | (go_at_call 12; refine (HPK3.out _).mono ?_; rintro e v' ⟨rfl, rfl⟩)
    | (at_builtin; refine wpList_append_src rfl _ _ 24 rfl 23 v2.heap.size i0 (.int .u64 0) 1 8 Try.underlying24 hi hz0 hz1 hz2 rfl (by decide) (.slice (some ⟨g3, 0, none⟩) nb c5) nb _ rfl HO6.out A6 n6 cap6 (wcells ms) rfl (words_src HM6.out HNO.out) (by rw [wcells_length, HML.out, Nat.mul_one]) (wcells_one _) N HNN.out (by unfold maxLen; omega) (by omega) HB26.out.size ?_)
    | fail)
  intro t7 v7 hown7 hgrow7 hblk7
  have hb27 : Below v2.heap.size v2 v7 := HB26.out.grown hgrow7 HB26.out.size (fun k e => (HO6.out.lt k e).1)
  rw [← wcells_append, HALL.out] at hown7
  obtain ⟨g7, c7, rfl, hg7, hg7l⟩ := hown7.form (by omega)
  have hcap7 := own_cap hown7
  obtain ⟨A', c', e', hr7⟩ := own_readsW hown7 HAOK.out (by omega)
  cases e'
  have HW7 := Lib.hid hr7
  have HB7 := Lib.hid (HB2.out.trans (hb27.mono HB2.out.size))
  clear hown7 hgrow7 hblk7 hb27 hr7 k61 hneq
  go_wp2_with fail
  go_at_call 27
  refine (HP1.out _ _ _ HW7.out hcap7).mono ?_
  rintro e v8 ⟨⟨A8, c8, rfl, hr8⟩, hb8⟩
  obtain ⟨X, hX⟩ : ∃ X, v8.heap.size = X := ⟨_, rfl⟩
  have hx8 : (v8.alloc (.cells #[.int .i64 S1, .slice A8 P1.length c8] 34)).heap[X]? = some (.cells #[.int .i64 S1, .slice A8 P1.length c8] 34 (0, 0)) := by rw [← hX]; exact heap_alloc_new v8 _
  have hb78 : Below v7.heap.size v7 (v8.alloc (.cells #[.int .i64 S1, .slice A8 P1.length c8] 34)) := hb8.alloc hb8.size _
  have HX8 := Lib.hid hx8
  have HD8 := Lib.hid (hr8.more ((Below.refl _ v8).alloc (Nat.le_refl _) (.cells #[.int .i64 S1, .slice A8 P1.length c8] 34)))
  have HW8 := Lib.hid (HW7.out.more hb78)
  have HB8 := Lib.hid (HB7.out.trans (hb78.mono HB7.out.size))
  have hwX : w.heap.size ≤ X := by rw [← hX]; exact (HB7.out.trans (hb8.mono HB7.out.size)).size
  clear hx8 hb78 hr8 hb8
  go_wp2_with fail
  go_at_call 28
  refine (HR1.out _ _ _ HW8.out hcap7).mono ?_
  rintro e v9 ⟨⟨A9, c9, rfl, hr9⟩, hb9⟩
  obtain ⟨Y, hY⟩ : ∃ Y, v9.heap.size = Y := ⟨_, rfl⟩
  have hy9 : (v9.alloc (.cells #[.int .i64 S1, .slice A9 P1.length c9] 27)).heap[Y]? = some (.cells #[.int .i64 S1, .slice A9 P1.length c9] 27 (0, 0)) := by rw [← hY]; exact heap_alloc_new v9 _
  have hb89 : Below (v8.alloc (.cells #[.int .i64 S1, .slice A8 P1.length c8] 34)).heap.size (v8.alloc (.cells #[.int .i64 S1, .slice A8 P1.length c8] 34)) (v9.alloc (.cells #[.int .i64 S1, .slice A9 P1.length c9] 27)) := hb9.alloc hb9.size _
  have hXl : X < (v8.alloc (.cells #[.int .i64 S1, .slice A8 P1.length c8] 34)).heap.size := (Array.getElem?_eq_some_iff.1 HX8.out).1
  have HX9 := Lib.hid ((hb89.block _ hXl).trans HX8.out)
  have HY9 := Lib.hid hy9
  have HD9 := Lib.hid (HD8.out.more hb89)
  have HE9 := Lib.hid (hr9.more ((Below.refl _ v9).alloc (Nat.le_refl _) (.cells #[.int .i64 S1, .slice A9 P1.length c9] 27)))
  have HW9 := Lib.hid (HW8.out.more hb89)
  have HB9 := Lib.hid (HB8.out.trans (hb89.mono HB8.out.size))
  have hXY : X < Y := by rw [← hY]; have := hb9.size; omega
  have hwY : w.heap.size ≤ Y := by omega
  clear hy9 hb89 hr9 hb9 hXl
  go_wp2_with fail
  clear hX hY
  obtain ⟨C, hC⟩ : ∃ C : World → Prop, C = fun w' => Below (v9.alloc (.cells #[.int .i64 S1, .slice A9 P1.length c9] 27)).heap.size (v9.alloc (.cells #[.int .i64 S1, .slice A9 P1.length c9] 27)) w' := ⟨_, rfl⟩
  have hex : ∃ x, C x := ⟨(v9.alloc (.cells #[.int .i64 S1, .slice A9 P1.length c9] 27)), by rw [hC]; exact Below.refl _ _⟩
  have hCs : C { (v9.alloc (.cells #[.int .i64 S1, .slice A9 P1.length c9] 27)) with drawn := (v9.alloc (.cells #[.int .i64 S1, .slice A9 P1.length c9] 27)).drawn + 1 } := by rw [hC]; exact (Below.refl _ _).drew
  have HC := Lib.hid hC
  clear hC
  have hL : ∀ w', C w' → ∀ (j : Nat) (v : Value), #[.int .i64 S1, .slice A8 P1.length c8][j]? = some v → w'.cell? ((⟨X, 0, none⟩ : Addr).add j) = some v := by
    intro w' hc
    rw [HC.out] at hc
    exact cells_in ((hc.block _ (Array.getElem?_eq_some_iff.1 HX9.out).1).trans HX9.out)
  have HL0 := Lib.hid hL
  clear hL
  have hL : ∀ w', C w' → ∀ (j : Nat) (v : Value), #[.int .i64 S1, .slice A9 P1.length c9][j]? = some v → w'.cell? ((⟨Y, 0, none⟩ : Addr).add j) = some v := by
    intro w' hc
    rw [HC.out] at hc
    exact cells_in ((hc.block _ (Array.getElem?_eq_some_iff.1 HY9.out).1).trans HY9.out)
  have HL1 := Lib.hid hL
  clear hL
  refine wp_region_quiet (C := C) (by kernel_rfl) (by kernel_rfl) hCs ?_
  clear hCs
  simp only
  repeat (first
    | go_big_quiet_skip
    | (go_big_quiet_want; first
      | (refine quiet_load 34 _ rfl ⟨X, 0, none⟩ rfl #[.int .i64 S1, .slice A8 P1.length c8] _ HL0.out Try.underlying34 rfl (by rw [size34]; rfl) ?_; simp only [Act.put, List.setIfInBounds_toArray, List.set_cons_succ, List.set_cons_zero]; go_big_quiet_on)
      | (refine quiet_load 27 _ rfl ⟨Y, 0, none⟩ rfl #[.int .i64 S1, .slice A9 P1.length c9] _ HL1.out Try.underlying27 rfl (by rw [size27]; rfl) ?_; simp only [Act.put, List.setIfInBounds_toArray, List.set_cons_succ, List.set_cons_zero]; go_big_quiet_on)
      | (go_big_quiet_op; first | go_big_quiet_on | go_big_quiet_call (first
        | (intro _; with_reducible rfl)
        | (intro hc; go_at_call 18; rw [HC.out] at hc ⊢; exact (out_x _ _ _ _ _).mono fun _ _ ⟨he, h⟩ => ⟨he, hc.trans (h.mono hc.size)⟩)
        | (intro hc; go_at_call 17; rw [HC.out] at hc ⊢; exact (samerec_t (HD9.out.more hc) (HE9.out.more hc) (samePs_refl _)).mono fun _ _ ⟨he, h⟩ => ⟨he, hc.trans (h.mono hc.size)⟩)
        | fail))))
  refine wpQuiet_nil ?_
  intro vq hcq
  rw [HC.out] at hcq
  clear hex HC
  have HX10 := Lib.hid ((hcq.block _ (Array.getElem?_eq_some_iff.1 HX9.out).1).trans HX9.out)
  have HY10 := Lib.hid ((hcq.block _ (Array.getElem?_eq_some_iff.1 HY9.out).1).trans HY9.out)
  have HW10 := Lib.hid (HW9.out.more hcq)
  have HB10 := Lib.hid (HB9.out.trans (hcq.mono HB9.out.size))
  have hYl : Y < vq.heap.size := (Array.getElem?_eq_some_iff.1 HY10.out).1
  clear hcq
  generalize vq = v10 at *
  go_wp2_with (first
    | (at_builtin; refine wpList_append_src rfl _ _ 24 rfl 23 v10.heap.size i0 (.int .u64 0) 1 8 Try.underlying24 hi hz0 hz1 hz2 rfl (by decide) (.slice none 0 0) 0 _ rfl (World.ownsRow_nil _ _ _ _) (some ⟨g7, 0, none⟩) N c7 (wcells all) rfl (.inr ⟨_, rfl, reads_wcells HW10.out⟩) (by rw [wcells_length, HLA.out, Nat.mul_one]) (wcells_one _) N (by omega) (by unfold maxLen; omega) (by omega) (Nat.le_refl _) ?_)
    | fail)
  intro t11 v11 hown11 hgrow11 hblk11
  have hb11 := below_nil hgrow11
  try rw [List.nil_append] at hown11
  obtain ⟨g11, c11, rfl, hg11, _⟩ := hown11.form (by omega)
  have hcap11 := own_cap hown11
  have cw := own_word hown11 hk4l
  rw [HX4.out] at cw
  have fw := own_frozen (k := k4) hown11
  have hk1' : (0 : Int) ≤ (k4 : Int) := by omega
  have hk2' : (k4 : Int) < (N : Int) := by omega
  have hxor := HXOR.out
  have hadd := addr0 g11 k4
  have hos := own_set (x := x4 ^^^ b) hown11 hk4l
  rw [HCK.out] at hos
  obtain ⟨A', c', e', hr12⟩ := own_readsW hos HCOK.out (by omega)
  cases e'
  have hbs := hb11.setCell (p := ⟨g11, k4, none⟩) hg11 (.int .u64 ((x4 ^^^ b : Nat) : Int))
  have HX12 := Lib.hid ((hbs.block _ (Array.getElem?_eq_some_iff.1 HX10.out).1).trans HX10.out)
  have HY12 := Lib.hid ((hbs.block _ (Array.getElem?_eq_some_iff.1 HY10.out).1).trans HY10.out)
  have HW12 := Lib.hid hr12
  have HB12 := Lib.hid (HB10.out.trans (hbs.mono HB10.out.size))
  have hgX : g11 ≠ X := by omega
  clear hown11 hgrow11 hblk11 hb11 hos hr12 hbs
  go_wp2_with (first
    | (go_at_call 12; refine (HPK4.out _).mono ?_; rintro e v' ⟨rfl, rfl⟩)
    | fail)
  clear cw fw hxor hadd
  generalize v11.setCell ⟨g11, k4, none⟩ (.int .u64 ((x4 ^^^ b : Nat) : Int)) = v12 at *
  go_at_call 27
  refine (HP2.out _ _ _ HW12.out hcap11).mono ?_
  rintro e u1 ⟨⟨Au1, cu1, rfl, hrx⟩, hbx⟩
  have hxa := (hbx.block _ (Array.getElem?_eq_some_iff.1 HX12.out).1).trans HX12.out
  have hya := (hbx.block _ (Array.getElem?_eq_some_iff.1 HY12.out).1).trans HY12.out
  have HXa2 := Lib.hid hxa
  have hXb := setRow_heap u1 X _ #[.int .i64 S2, .slice Au1 P2.length cu1] 34 _ hxa
  have hYb := (setRow_other u1 X Y #[.int .i64 S2, .slice Au1 P2.length cu1] (by omega)).trans hya
  have HXb2 := Lib.hid hXb
  have HYb2 := Lib.hid hYb
  have HDb2 := Lib.hid (hrx.row X 34 _ _ #[.int .i64 S2, .slice Au1 P2.length cu1] hxa)
  have HBb2 := Lib.hid (below_setRow (HB12.out.trans (hbx.mono HB12.out.size)) hwX #[.int .i64 S2, .slice Au1 P2.length cu1])
  have HWb2 := Lib.hid ((readsW_setRow (HW12.out.more hbx) hgX #[.int .i64 S2, .slice Au1 P2.length cu1]))
  clear hxa hya hXb hYb hrx hbx
  go_wp2_with (first
    | (refine wpList_store_row rfl 34 _ _ rfl X #[.int .i64 S2, .slice Au1 P2.length cu1] rfl rfl 34 _ HXa2.out (S34.out _ _) rfl (ones_rec _ _ _ _) ?_)
    | fail)
  go_at_call 28
  refine (HR2.out _ _ _ HWb2.out hcap11).mono ?_
  rintro e u2 ⟨⟨Au2, cu2, rfl, hry⟩, hby⟩
  have hxc := (hby.block _ (Array.getElem?_eq_some_iff.1 HXb2.out).1).trans HXb2.out
  have hyc := (hby.block _ (Array.getElem?_eq_some_iff.1 HYb2.out).1).trans HYb2.out
  have HYc2 := Lib.hid hyc
  have HX16 := Lib.hid ((setRow_other u2 Y X #[.int .i64 S2, .slice Au2 P2.length cu2] (by omega)).trans hxc)
  have HY16 := Lib.hid (setRow_heap u2 Y _ #[.int .i64 S2, .slice Au2 P2.length cu2] 27 _ hyc)
  have HD16 := Lib.hid ((HDb2.out.more hby).row Y 27 _ _ #[.int .i64 S2, .slice Au2 P2.length cu2] hyc)
  have HE16 := Lib.hid (hry.row Y 27 _ _ #[.int .i64 S2, .slice Au2 P2.length cu2] hyc)
  have HB16 := Lib.hid (below_setRow (HBb2.out.trans (hby.mono HBb2.out.size)) hwY #[.int .i64 S2, .slice Au2 P2.length cu2])
  clear hxc hyc hry hby
  go_wp2_with (first
    | (refine wpList_store_row rfl 27 _ _ rfl Y #[.int .i64 S2, .slice Au2 P2.length cu2] rfl rfl 27 _ HYc2.out (S27.out _ _) rfl (ones_rec _ _ _ _) ?_)
    | fail)
  generalize (u2.setRow Y #[.int .i64 S2, .slice Au2 P2.length cu2]) = wz2 at *
  go_wp2_with fail
  obtain ⟨C, hC⟩ : ∃ C : World → Prop, C = fun w' => Below wz2.heap.size wz2 w' := ⟨_, rfl⟩
  have hex : ∃ x, C x := ⟨wz2, by rw [hC]; exact Below.refl _ _⟩
  have hCs : C { wz2 with drawn := wz2.drawn + 1 } := by rw [hC]; exact (Below.refl _ _).drew
  have HC := Lib.hid hC
  clear hC
  have hL : ∀ w', C w' → ∀ (j : Nat) (v : Value), #[.int .i64 S2, .slice Au1 P2.length cu1][j]? = some v → w'.cell? ((⟨X, 0, none⟩ : Addr).add j) = some v := by
    intro w' hc
    rw [HC.out] at hc
    exact cells_in ((hc.block _ (Array.getElem?_eq_some_iff.1 HX16.out).1).trans HX16.out)
  have HL0 := Lib.hid hL
  clear hL
  have hL : ∀ w', C w' → ∀ (j : Nat) (v : Value), #[.int .i64 S2, .slice Au2 P2.length cu2][j]? = some v → w'.cell? ((⟨Y, 0, none⟩ : Addr).add j) = some v := by
    intro w' hc
    rw [HC.out] at hc
    exact cells_in ((hc.block _ (Array.getElem?_eq_some_iff.1 HY16.out).1).trans HY16.out)
  have HL1 := Lib.hid hL
  clear hL
  refine wp_region_quiet (C := C) (by kernel_rfl) (by kernel_rfl) hCs ?_
  clear hCs
  simp only
  repeat (first
    | go_big_quiet_skip
    | (go_big_quiet_want; first
      | (refine quiet_load 34 _ rfl ⟨X, 0, none⟩ rfl #[.int .i64 S2, .slice Au1 P2.length cu1] _ HL0.out Try.underlying34 rfl (by rw [size34]; rfl) ?_; simp only [Act.put, List.setIfInBounds_toArray, List.set_cons_succ, List.set_cons_zero]; go_big_quiet_on)
      | (refine quiet_load 27 _ rfl ⟨Y, 0, none⟩ rfl #[.int .i64 S2, .slice Au2 P2.length cu2] _ HL1.out Try.underlying27 rfl (by rw [size27]; rfl) ?_; simp only [Act.put, List.setIfInBounds_toArray, List.set_cons_succ, List.set_cons_zero]; go_big_quiet_on)
      | (go_big_quiet_op; first | go_big_quiet_on | go_big_quiet_call (first
        | (intro _; with_reducible rfl)
        | (intro hc; go_at_call 18; rw [HC.out] at hc ⊢; exact (out_x _ _ _ _ _).mono fun _ _ ⟨he, h⟩ => ⟨he, hc.trans (h.mono hc.size)⟩)
        | (intro hc; go_at_call 17; rw [HC.out] at hc ⊢; exact (samerec_t (HD16.out.more hc) (HE16.out.more hc) (samePs_refl _)).mono fun _ _ ⟨he, h⟩ => ⟨he, hc.trans (h.mono hc.size)⟩)
        | fail))))
  refine wpQuiet_nil ?_
  intro vq hcq
  rw [HC.out] at hcq
  clear hex HC
  have HX20 := Lib.hid ((hcq.block _ (Array.getElem?_eq_some_iff.1 HX16.out).1).trans HX16.out)
  have HY20 := Lib.hid ((hcq.block _ (Array.getElem?_eq_some_iff.1 HY16.out).1).trans HY16.out)
  have HB20 := Lib.hid (HB16.out.trans (hcq.mono HB16.out.size))
  clear hcq
  generalize vq = v20 at *
  have HWs20 := Lib.hid (HWs.out.more HB20.out)
  go_wp2_with fail
  go_at_call 27
  refine (HP3.out _ _ _ HWs20.out hc2).mono ?_
  rintro e u3 ⟨⟨Au3, cu3, rfl, hrx⟩, hbx⟩
  have hxa := (hbx.block _ (Array.getElem?_eq_some_iff.1 HX20.out).1).trans HX20.out
  have hya := (hbx.block _ (Array.getElem?_eq_some_iff.1 HY20.out).1).trans HY20.out
  have HXa3 := Lib.hid hxa
  have hXb := setRow_heap u3 X _ #[.int .i64 S3, .slice Au3 P3.length cu3] 34 _ hxa
  have hYb := (setRow_other u3 X Y #[.int .i64 S3, .slice Au3 P3.length cu3] (by omega)).trans hya
  have HXb3 := Lib.hid hXb
  have HYb3 := Lib.hid hYb
  have HDb3 := Lib.hid (hrx.row X 34 _ _ #[.int .i64 S3, .slice Au3 P3.length cu3] hxa)
  have HBb3 := Lib.hid (below_setRow (HB20.out.trans (hbx.mono HB20.out.size)) hwX #[.int .i64 S3, .slice Au3 P3.length cu3])
  have HWb3 := Lib.hid ((HWs.out.more HBb3.out))
  clear hxa hya hXb hYb hrx hbx
  go_wp2_with (first
    | (refine wpList_store_row rfl 34 _ _ rfl X #[.int .i64 S3, .slice Au3 P3.length cu3] rfl rfl 34 _ HXa3.out (S34.out _ _) rfl (ones_rec _ _ _ _) ?_)
    | fail)
  go_at_call 28
  refine (HR3.out _ _ _ HWb3.out hc2).mono ?_
  rintro e u4 ⟨⟨Au4, cu4, rfl, hry⟩, hby⟩
  have hxc := (hby.block _ (Array.getElem?_eq_some_iff.1 HXb3.out).1).trans HXb3.out
  have hyc := (hby.block _ (Array.getElem?_eq_some_iff.1 HYb3.out).1).trans HYb3.out
  have HYc3 := Lib.hid hyc
  have HX26' := Lib.hid ((setRow_other u4 Y X #[.int .i64 S3, .slice Au4 P3.length cu4] (by omega)).trans hxc)
  have HY26' := Lib.hid (setRow_heap u4 Y _ #[.int .i64 S3, .slice Au4 P3.length cu4] 27 _ hyc)
  have HD26' := Lib.hid ((HDb3.out.more hby).row Y 27 _ _ #[.int .i64 S3, .slice Au4 P3.length cu4] hyc)
  have HE26' := Lib.hid (hry.row Y 27 _ _ #[.int .i64 S3, .slice Au4 P3.length cu4] hyc)
  have HB26' := Lib.hid (below_setRow (HBb3.out.trans (hby.mono HBb3.out.size)) hwY #[.int .i64 S3, .slice Au4 P3.length cu4])
  clear hxc hyc hry hby
  go_wp2_with (first
    | (refine wpList_store_row rfl 27 _ _ rfl Y #[.int .i64 S3, .slice Au4 P3.length cu4] rfl rfl 27 _ HYc3.out (S27.out _ _) rfl (ones_rec _ _ _ _) ?_)
    | fail)
  generalize (u4.setRow Y #[.int .i64 S3, .slice Au4 P3.length cu4]) = wz3 at *
  go_wp2_with fail
  obtain ⟨C, hC⟩ : ∃ C : World → Prop, C = fun w' => Below wz3.heap.size wz3 w' := ⟨_, rfl⟩
  have hex : ∃ x, C x := ⟨wz3, by rw [hC]; exact Below.refl _ _⟩
  have hCs : C { wz3 with drawn := wz3.drawn + 1 } := by rw [hC]; exact (Below.refl _ _).drew
  have HC := Lib.hid hC
  clear hC
  have hL : ∀ w', C w' → ∀ (j : Nat) (v : Value), #[.int .i64 S3, .slice Au3 P3.length cu3][j]? = some v → w'.cell? ((⟨X, 0, none⟩ : Addr).add j) = some v := by
    intro w' hc
    rw [HC.out] at hc
    exact cells_in ((hc.block _ (Array.getElem?_eq_some_iff.1 HX26'.out).1).trans HX26'.out)
  have HL0 := Lib.hid hL
  clear hL
  have hL : ∀ w', C w' → ∀ (j : Nat) (v : Value), #[.int .i64 S3, .slice Au4 P3.length cu4][j]? = some v → w'.cell? ((⟨Y, 0, none⟩ : Addr).add j) = some v := by
    intro w' hc
    rw [HC.out] at hc
    exact cells_in ((hc.block _ (Array.getElem?_eq_some_iff.1 HY26'.out).1).trans HY26'.out)
  have HL1 := Lib.hid hL
  clear hL
  refine wp_region_quiet (C := C) (by kernel_rfl) (by kernel_rfl) hCs ?_
  clear hCs
  simp only
  repeat (first
    | go_big_quiet_skip
    | (go_big_quiet_want; first
      | (refine quiet_load 34 _ rfl ⟨X, 0, none⟩ rfl #[.int .i64 S3, .slice Au3 P3.length cu3] _ HL0.out Try.underlying34 rfl (by rw [size34]; rfl) ?_; simp only [Act.put, List.setIfInBounds_toArray, List.set_cons_succ, List.set_cons_zero]; go_big_quiet_on)
      | (refine quiet_load 27 _ rfl ⟨Y, 0, none⟩ rfl #[.int .i64 S3, .slice Au4 P3.length cu4] _ HL1.out Try.underlying27 rfl (by rw [size27]; rfl) ?_; simp only [Act.put, List.setIfInBounds_toArray, List.set_cons_succ, List.set_cons_zero]; go_big_quiet_on)
      | (go_big_quiet_op; first | go_big_quiet_on | go_big_quiet_call (first
        | (intro _; with_reducible rfl)
        | (intro hc; go_at_call 18; rw [HC.out] at hc ⊢; exact (out_x _ _ _ _ _).mono fun _ _ ⟨he, h⟩ => ⟨he, hc.trans (h.mono hc.size)⟩)
        | (intro hc; go_at_call 17; rw [HC.out] at hc ⊢; exact (samerec_t (HD26'.out.more hc) (HE26'.out.more hc) (samePs_refl _)).mono fun _ _ ⟨he, h⟩ => ⟨he, hc.trans (h.mono hc.size)⟩)
        | (intro hc; go_at_call 22; rw [HC.out] at hc ⊢; exact (body_nil _ _).mono fun _ _ ⟨he, h⟩ => ⟨he, hc.trans (h.mono hc.size)⟩)
        | fail))))
  refine wpQuiet_nil ?_
  intro vq hcq
  rw [HC.out] at hcq
  clear hex HC
  go_wp2
  go_ret
  exact ⟨by rfl, HB26'.out.trans (hcq.mono HB26'.out.size)⟩

theorem bodies_law (a0 : Int) (a1 : Option Addr) (len1 cap1 : Nat) (z1 : List Int) (a2 : Option Addr) (len2 cap2 : Nat) (z2 : List Int) (a3 a4 a5 : Int) (a6 : Option Addr) (len6 cap6 : Nat) (z6 : List Int) (w : World)
    (w0 : (Lit.int .i64 a0).wf = true) (w1 : IsRow .i64 w a1 len1 cap1 z1) (w2 : IsRow .u64 w a2 len2 cap2 z2) (w3 : (Lit.int .i64 a3).wf = true) (w4 : (Lit.int .i64 a4).wf = true) (w5 : (Lit.int .u64 a5).wf = true) (w6 : IsRow .u64 w a6 len6 cap6 z6) :
    Calls Try.prog 6 #[.int .i64 a0, .slice a1 len1 cap1, .slice a2 len2 cap2, .int .i64 a3, .int .i64 a4, .int .u64 a5, .slice a6 len6 cap6] w fun e w' => e = .returned (.bool true) ∧ Below w.heap.size w w' := by
  by_cases h20 : (20 : Int) < (len1 : Int)
  · clear w0 w1 w2 w3 w4 w5 w6
    go_enter Try.func6, Try.ntmps6
    go_wp2
    go_ret
    exact ⟨rfl, Below.refl _ _⟩
  · by_cases h200 : (200 : Int) < (len2 : Int)
    · clear w0 w1 w2 w3 w4 w5 w6
      go_enter Try.func6, Try.ntmps6
      go_wp2
      go_ret
      exact ⟨rfl, Below.refl _ _⟩
    · by_cases h60 : (60 : Int) < (len6 : Int)
      · clear w0 w1 w2 w3 w4 w5 w6
        go_enter Try.func6, Try.ntmps6
        go_wp2
        go_ret
        exact ⟨rfl, Below.refl _ _⟩
      · have h5 := wf_u64 w5
        obtain ⟨b, rfl⟩ : ∃ b : Nat, a5 = (b : Int) := ⟨a5.toNat, (Int.toNat_of_nonneg h5.1).symm⟩
        exact bodies_core a0 a3 a4 b len1 cap1 len2 cap2 len6 cap6 a1 a2 a6 _ _ _ w (isrow_readsI w1 (by omega)) (isrow_readsW w2 (by omega)) (isrow_cap w2) (isrow_readsW w6 (by omega)) (isrow_none w6) h20 h200 h60 (wf_i64 w0) (wf_i64 w3) (wf_i64 w4) (by omega)
end Go.Proofs.Ytmeppeadfhifeaa
