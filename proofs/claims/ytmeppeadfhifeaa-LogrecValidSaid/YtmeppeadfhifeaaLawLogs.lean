/- The law LogrecLogs walked: it returns true. Conditions: the slices read as rows of numbers and words. -/
import Derived.Test.YtmeppeadfhifeaaTornN
namespace Go.Proofs.Ytmeppeadfhifeaa
open Go.RowKit Go.Shelf
set_option linter.unusedVariables false
set_option linter.unusedSimpArgs false

theorem addr0 (g k : Nat) : (⟨g, 0, none⟩ : Addr).add k = ⟨g, k, none⟩ := by unfold Addr.add; split <;> simp_all
theorem samerec_t {a : Int} {n m cap cap' : Nat} {A B : Option Addr} {ps qs : List Pg} {w : World} (hp : ReadsP w A n ps) (hq : ReadsP w B m qs) (h : samePs ps qs = true) :
    Calls Try.prog 17 #[.agg #[.int .i64 a, .slice A n cap], .agg #[.int .i64 a, .slice B m cap']] w fun e w' => e = .returned (.bool true) ∧ Below w.heap.size w w' := by
  have := samerecord_x a a n m cap cap' A B ps qs w hp hq
  rw [h, beq_self_eq_true, Bool.and_self] at this
  exact this

set_option maxRecDepth 100000 in
set_option maxHeartbeats 20000000 in
theorem logs_core (a0 a5 a8 : Int) (near : Bool) (m0 rest b : Nat) (n1 cap1 n7 cap7 : Nat) (A1 A7 : Option Addr) (xs : List Int) (ws7 : List Nat) (w : World) (hx : ReadsI w A1 n1 xs) (hy : ReadsW w A7 n7 ws7) (hc7 : n7 ≤ cap7)
    (h20 : ¬ (20 : Int) < (n1 : Int)) (h60 : ¬ (200 : Int) < (n7 : Int)) (ha0 : -9223372036854775808 ≤ a0 ∧ a0 ≤ 9223372036854775807) (ha5 : -9223372036854775808 ≤ a5 ∧ a5 ≤ 9223372036854775807) (ha8 : -9223372036854775808 ≤ a8 ∧ a8 ≤ 9223372036854775807)
    (hm0 : m0 < 18446744073709551616) (hr0 : rest < 18446744073709551616) (hb64 : b < 18446744073709551616) :
    Calls Try.prog 3 #[.int .i64 a0, .slice A1 n1 cap1, .int .u64 (m0 : Int), .bool near, .int .u64 (rest : Int), .int .i64 a5, .int .u64 (b : Int), .slice A7 n7 cap7, .int .i64 a8] w fun e w' => e = .returned (.bool true) ∧ Below w.heap.size w w' := by
  have hrec1 := hrecord_x a0 200 n1 cap1 A1 xs w (by omega) (by omega) hx ha0
  obtain ⟨k8, hk8⟩ : ∃ k8 : Nat, a8 % 170 = (k8 : Int) := ⟨(a8 % 170).toNat, by omega⟩
  have hk8l : k8 < 170 := by omega
  have hpk8 := fun W => pick_x a8 170 W (by omega) (by omega) ha8
  rw [hk8] at hpk8
  obtain ⟨k5, hk5⟩ : ∃ k5 : Nat, a5 % 120 = (k5 : Int) := ⟨(a5 % 120).toNat, by omega⟩
  have hk5l : k5 < 120 := by omega
  have hpk5 := fun W => pick_x a5 120 W (by omega) (by omega) ha5
  rw [hk5] at hpk5
  have HPK8 := Lib.hid hpk8
  have HPK5 := Lib.hid hpk5
  have HREC1 := Lib.hid hrec1
  have HY := Lib.hid hy
  clear hrec1 hx hy hpk8 hpk5 hk8 hk5
  go_enter Try.func3, Try.ntmps3
  go_wp2_with fail
  go_at_call 9
  refine HREC1.out.mono ?_
  rintro e v1 ⟨⟨s1, ps1, B1, c1, rfl, hs1, hs1', hp1, hg1, hc1, hrp1⟩, hb1⟩
  have hv1 : validN s1 ps1 200 = 0 := good_valid' s1 200 ps1 (by omega) (by omega) (by omega) hg1
  have hb1o : WordsOk (bodyN s1 ps1) := (bodyN_ok s1 ps1 hrp1.2.2.1).1
  have hlg := fun (mk : Nat) W (hr : ReadsP W B1 ps1.length ps1) => hlog_x s1 ps1.length c1 mk rest B1 ps1 W hr (validN_256 _ _ _ hv1)
  generalize bodyN s1 ps1 = b1 at *
  have HB1 := Lib.hid hb1
  have HP1 := Lib.hid hrp1
  have HLG := Lib.hid hlg
  have HB1O := Lib.hid hb1o
  clear hb1 hrp1 hlg hb1o hv1 hg1
  generalize ps1.length = k1 at *
  have s27a : (Try.prog.info? 27).map (·.size) = some (#[.int .i64 s1, .slice B1 k1 c1] : Array Value).size := by rw [size27]; rfl
  have hr0' : (v1.alloc (.cells #[.int .i64 s1, .slice B1 k1 c1] 27)).heap[v1.heap.size]? = some (.cells #[.int .i64 s1, .slice B1 k1 c1] 27 (0, 0)) := heap_alloc_new v1 _
  have hb11 : Below v1.heap.size v1 (v1.alloc (.cells #[.int .i64 s1, .slice B1 k1 c1] 27)) := (Below.refl _ v1).alloc (Nat.le_refl _) _
  have HR1 := Lib.hid hr0'
  have HP2 := Lib.hid (HP1.out.more hb11)
  have HB2 := Lib.hid (HB1.out.trans (hb11.mono HB1.out.size))
  clear hr0' hb11
  obtain ⟨V, hV⟩ : ∃ V, V = v1.alloc (.cells #[.int .i64 s1, .slice B1 k1 c1] 27) := ⟨_, rfl⟩
  rw [← hV] at HR1 HP2 HB2
  have HV := Lib.hid hV
  clear hV
  cases near
  · obtain ⟨mk, rfl⟩ : ∃ mk, mk = m0 := ⟨_, rfl⟩
    have hmk := hm0
    have HLGm := Lib.hid (HLG.out mk V HP2.out)
    go_wp2_with (first | (refine wpList_load_row rfl 27 _ rfl v1.heap.size rfl 27 #[.int .i64 s1, .slice B1 k1 c1] (0, 0) _ (HV.out ▸ HR1.out) Try.underlying27 rfl s27a ?_) | fail)
    rw [← HV.out]
    go_at_call 11
    refine HLGm.out.mono ?_
    rintro e v5 ⟨⟨g, rfl, hg, hrow⟩, hb5⟩
    have hok0 : WordsOk (wl (logF mk rest b1)) := wl_ok _ fun j _ => logF_ok mk rest b1 hmk hr0 HB1O.out j
    have hl0 := wl_length (logF mk rest b1)
    generalize wl (logF mk rest b1) = ws0 at *
    have HRow := Lib.hid hrow
    have HB5 := Lib.hid hb5
    have HOK0 := Lib.hid hok0
    have HL0 := Lib.hid hl0
    clear hrow hb5 hok0 hl0
    go_wp2_with (first
      | (go_at_call 12; refine (HPK8.out _).mono ?_; rintro e v' ⟨rfl, rfl⟩)
      | fail)
    go_loopg [22] 2 (fun gg s22 wx => ∃ i : Nat, i + gg = 2 ∧ s22 = .int .i64 i ∧ ∃ ws, ws.length = 120 ∧ WordsOk ws ∧ Row wx g ws ∧ Below V.heap.size V wx)
    case atStart => exact ⟨0, by omega, rfl, ws0, HL0.out, HOK0.out, HRow.out, HB5.out⟩
    case round =>
      obtain ⟨i, hi, rfl, ws, hlen, hok, hrow, hbr⟩ := hrel
      clear HRow HB5 HOK0 HL0
      have HRow0 := Lib.hid hrow
      have HB0 := Lib.hid hbr
      have HOK := Lib.hid hok
      have HLen := Lib.hid hlen
      clear hrow hbr hok hlen
      cases gk with
      | succ gk =>
        have hlt : (i : Int) < 2 := by omega
        have h13 := fun W (hr : Row W g ws) => whole_x ((k8 : Int) + 94) 120 120 _ ws W (hr.reads HLen.out (by omega) HOK.out) (Nat.le_refl _)
        have h14 := fun W (hr : Row W g ws) => rwhole_x ((k8 : Int) + 94) 120 120 _ ws W (hr.reads HLen.out (by omega) HOK.out) (Nat.le_refl _)
        have h15 := fun W (hr : Row W g ws) => committed_x ((k8 : Int) + 94) 120 120 _ ws W (hr.reads HLen.out (by omega) HOK.out) (Nat.le_refl _)
        have h16 := fun W (hr : Row W g ws) => rcommitted_x ((k8 : Int) + 94) 120 120 _ ws W (hr.reads HLen.out (by omega) HOK.out) (Nat.le_refl _)
        unfold RecR at h13 h14 h15 h16
        generalize wholeS ws ((k8 : Int) + 94) = wS at h13 h14
        generalize wholeP ws ((k8 : Int) + 94) = wP at h13 h14
        generalize wholeOk ws ((k8 : Int) + 94) = wO at h13 h14
        generalize comS ws ((k8 : Int) + 94) = cS at h15 h16
        generalize comP ws ((k8 : Int) + 94) = cP at h15 h16
        generalize comOk ws ((k8 : Int) + 94) = cO at h15 h16
        have H13 := Lib.hid h13
        have H14 := Lib.hid h14
        have H15 := Lib.hid h15
        have H16 := Lib.hid h16
        clear h13 h14 h15 h16
        go_wp2_with fail
        go_at_call 13
        refine (H13.out _ HRow0.out).mono ?_
        rintro e u1 ⟨⟨A1, c1, rfl, hr⟩, hb⟩
        have hba : Below u1.heap.size u1 (u1.alloc (.cells #[.int .i64 wS, .slice A1 wP.length c1] 34)) := (Below.refl _ u1).alloc (Nat.le_refl _) _
        have hbb := hb.trans (hba.mono hb.size)
        have HX1 := Lib.hid (heap_alloc_new u1 (.cells #[.int .i64 wS, .slice A1 wP.length c1] 34))
        have HD1 := Lib.hid (hr.more hba)
        have HRow1 := Lib.hid (HRow0.out.more hbb)
        have HB1 := Lib.hid (HB0.out.trans (hbb.mono HB0.out.size))
        clear hba hbb hr hb
        go_wp2_with fail
        go_at_call 14
        refine (H14.out _ HRow1.out).mono ?_
        rintro e u2 ⟨⟨A2, c2, rfl, hr⟩, hb⟩
        have hba : Below u2.heap.size u2 (u2.alloc (.cells #[.int .i64 wS, .slice A2 wP.length c2] 27)) := (Below.refl _ u2).alloc (Nat.le_refl _) _
        have hbb := hb.trans (hba.mono hb.size)
        have HX2 := Lib.hid (heap_alloc_new u2 (.cells #[.int .i64 wS, .slice A2 wP.length c2] 27))
        have HD2 := Lib.hid (hr.more hba)
        have HRow2 := Lib.hid (HRow1.out.more hbb)
        have HB2 := Lib.hid (HB1.out.trans (hbb.mono HB1.out.size))
        have HX12 := Lib.hid ((hbb.block _ (Array.getElem?_eq_some_iff.1 HX1.out).1).trans HX1.out)
        have HD12 := Lib.hid (HD1.out.more hbb)
        clear hba hbb hr hb
        go_wp2_with fail
        go_at_call 15
        refine (H15.out _ HRow2.out).mono ?_
        rintro e u3 ⟨⟨A3, c3, rfl, hr⟩, hb⟩
        have hba : Below u3.heap.size u3 (u3.alloc (.cells #[.int .i64 cS, .slice A3 cP.length c3] 34)) := (Below.refl _ u3).alloc (Nat.le_refl _) _
        have hbb := hb.trans (hba.mono hb.size)
        have HX3 := Lib.hid (heap_alloc_new u3 (.cells #[.int .i64 cS, .slice A3 cP.length c3] 34))
        have HD3 := Lib.hid (hr.more hba)
        have HRow3 := Lib.hid (HRow2.out.more hbb)
        have HB3 := Lib.hid (HB2.out.trans (hbb.mono HB2.out.size))
        have HX13 := Lib.hid ((hbb.block _ (Array.getElem?_eq_some_iff.1 HX12.out).1).trans HX12.out)
        have HD13 := Lib.hid (HD12.out.more hbb)
        have HX23 := Lib.hid ((hbb.block _ (Array.getElem?_eq_some_iff.1 HX2.out).1).trans HX2.out)
        have HD23 := Lib.hid (HD2.out.more hbb)
        clear hba hbb hr hb
        go_wp2_with fail
        go_at_call 16
        refine (H16.out _ HRow3.out).mono ?_
        rintro e u4 ⟨⟨A4, c4, rfl, hr⟩, hb⟩
        have hba : Below u4.heap.size u4 (u4.alloc (.cells #[.int .i64 cS, .slice A4 cP.length c4] 27)) := (Below.refl _ u4).alloc (Nat.le_refl _) _
        have hbb := hb.trans (hba.mono hb.size)
        have HX4 := Lib.hid (heap_alloc_new u4 (.cells #[.int .i64 cS, .slice A4 cP.length c4] 27))
        have HD4 := Lib.hid (hr.more hba)
        have HRow4 := Lib.hid (HRow3.out.more hbb)
        have HB4 := Lib.hid (HB3.out.trans (hbb.mono HB3.out.size))
        have HX14 := Lib.hid ((hbb.block _ (Array.getElem?_eq_some_iff.1 HX13.out).1).trans HX13.out)
        have HD14 := Lib.hid (HD13.out.more hbb)
        have HX24 := Lib.hid ((hbb.block _ (Array.getElem?_eq_some_iff.1 HX23.out).1).trans HX23.out)
        have HD24 := Lib.hid (HD23.out.more hbb)
        have HX34 := Lib.hid ((hbb.block _ (Array.getElem?_eq_some_iff.1 HX3.out).1).trans HX3.out)
        have HD34 := Lib.hid (HD3.out.more hbb)
        clear hba hbb hr hb
        go_wp2_with fail
        obtain ⟨C, hC⟩ : ∃ C : World → Prop, C = fun w' => Below (u4.alloc (.cells #[.int .i64 cS, .slice A4 cP.length c4] 27)).heap.size (u4.alloc (.cells #[.int .i64 cS, .slice A4 cP.length c4] 27)) w' := ⟨_, rfl⟩
        have hex : ∃ x, C x := ⟨(u4.alloc (.cells #[.int .i64 cS, .slice A4 cP.length c4] 27)), by rw [hC]; exact Below.refl _ _⟩
        have hCs : C { (u4.alloc (.cells #[.int .i64 cS, .slice A4 cP.length c4] 27)) with drawn := (u4.alloc (.cells #[.int .i64 cS, .slice A4 cP.length c4] 27)).drawn + 1 } := by rw [hC]; exact (Below.refl _ _).drew
        have HC := Lib.hid hC
        clear hC
        have hL : ∀ w', C w' → ∀ (j : Nat) (v : Value), #[.int .i64 wS, .slice A1 wP.length c1][j]? = some v → w'.cell? ((⟨u1.heap.size, 0, none⟩ : Addr).add j) = some v := by
          intro w' hc
          rw [HC.out] at hc
          exact cells_in ((hc.block _ (Array.getElem?_eq_some_iff.1 HX14.out).1).trans HX14.out)
        have HL0 := Lib.hid hL
        clear hL
        have hL : ∀ w', C w' → ∀ (j : Nat) (v : Value), #[.int .i64 wS, .slice A2 wP.length c2][j]? = some v → w'.cell? ((⟨u2.heap.size, 0, none⟩ : Addr).add j) = some v := by
          intro w' hc
          rw [HC.out] at hc
          exact cells_in ((hc.block _ (Array.getElem?_eq_some_iff.1 HX24.out).1).trans HX24.out)
        have HL1 := Lib.hid hL
        clear hL
        have hL : ∀ w', C w' → ∀ (j : Nat) (v : Value), #[.int .i64 cS, .slice A3 cP.length c3][j]? = some v → w'.cell? ((⟨u3.heap.size, 0, none⟩ : Addr).add j) = some v := by
          intro w' hc
          rw [HC.out] at hc
          exact cells_in ((hc.block _ (Array.getElem?_eq_some_iff.1 HX34.out).1).trans HX34.out)
        have HL2 := Lib.hid hL
        clear hL
        have hL : ∀ w', C w' → ∀ (j : Nat) (v : Value), #[.int .i64 cS, .slice A4 cP.length c4][j]? = some v → w'.cell? ((⟨u4.heap.size, 0, none⟩ : Addr).add j) = some v := by
          intro w' hc
          rw [HC.out] at hc
          exact cells_in ((hc.block _ (Array.getElem?_eq_some_iff.1 HX4.out).1).trans HX4.out)
        have HL3 := Lib.hid hL
        clear hL
        refine wp_region_quiet (C := C) (by kernel_rfl) (by kernel_rfl) hCs ?_
        clear hCs
        simp only
        repeat (first
          | go_big_quiet_skip
          | (go_big_quiet_want; first
            | (refine quiet_load 34 _ rfl ⟨u1.heap.size, 0, none⟩ rfl #[.int .i64 wS, .slice A1 wP.length c1] _ HL0.out Try.underlying34 rfl (by rw [size34]; rfl) ?_; simp only [Act.put, List.setIfInBounds_toArray, List.set_cons_succ, List.set_cons_zero]; go_big_quiet_on)
            | (refine quiet_load 27 _ rfl ⟨u2.heap.size, 0, none⟩ rfl #[.int .i64 wS, .slice A2 wP.length c2] _ HL1.out Try.underlying27 rfl (by rw [size27]; rfl) ?_; simp only [Act.put, List.setIfInBounds_toArray, List.set_cons_succ, List.set_cons_zero]; go_big_quiet_on)
            | (refine quiet_load 34 _ rfl ⟨u3.heap.size, 0, none⟩ rfl #[.int .i64 cS, .slice A3 cP.length c3] _ HL2.out Try.underlying34 rfl (by rw [size34]; rfl) ?_; simp only [Act.put, List.setIfInBounds_toArray, List.set_cons_succ, List.set_cons_zero]; go_big_quiet_on)
            | (refine quiet_load 27 _ rfl ⟨u4.heap.size, 0, none⟩ rfl #[.int .i64 cS, .slice A4 cP.length c4] _ HL3.out Try.underlying27 rfl (by rw [size27]; rfl) ?_; simp only [Act.put, List.setIfInBounds_toArray, List.set_cons_succ, List.set_cons_zero]; go_big_quiet_on)
            | (go_big_quiet_op; first | go_big_quiet_on | go_big_quiet_call (first
              | (intro _; with_reducible rfl)
              | (intro hc; go_at_call 18; rw [HC.out] at hc ⊢; exact (out_x _ _ _ _ _).mono fun _ _ ⟨he, h⟩ => ⟨he, hc.trans (h.mono hc.size)⟩)
              | (intro hc; go_at_call_of 17 A1; rw [HC.out] at hc ⊢; exact (samerec_t (HD14.out.more hc) (HD24.out.more hc) (samePs_refl _)).mono fun _ _ ⟨he, h⟩ => ⟨he, hc.trans (h.mono hc.size)⟩)
              | (intro hc; go_at_call_of 17 A3; rw [HC.out] at hc ⊢; exact (samerec_t (HD34.out.more hc) (HD4.out.more hc) (samePs_refl _)).mono fun _ _ ⟨he, h⟩ => ⟨he, hc.trans (h.mono hc.size)⟩)
              | (intro hc; go_at_call 19; rw [HC.out] at hc ⊢; exact (awake_x _).mono fun _ _ ⟨he, h⟩ => ⟨he, hc.trans (h.mono hc.size)⟩)
              | fail))))
        refine wpQuiet_nil ?_
        intro vq hcq
        rw [HC.out] at hcq
        clear hex HC
        have HRow5 := Lib.hid (HRow4.out.more hcq)
        have HB5 := Lib.hid (HB4.out.trans (hcq.mono HB4.out.size))
        clear hcq
        have cw := HRow5.out.cell k5 (by rw [HLen.out]; omega)
        have fw := HRow5.out.frozen k5
        have hx64 : ws.getD k5 0 < 18446744073709551616 := getD_ok ws HOK.out k5
        have hxor := u64_xor_nat (ws.getD k5 0) b hx64 hb64
        have hset := HRow5.out.set k5 (ws.getD k5 0 ^^^ b)
        have hok' : WordsOk (ws.set k5 (ws.getD k5 0 ^^^ b)) := by
          intro y hy
          rcases List.mem_or_eq_of_mem_set hy with hy | rfl
          · exact HOK.out y hy
          · exact Nat.xor_lt_two_pow (n := 64) (by omega) (by omega)
        generalize ws.getD k5 0 = x5 at *
        have HSet := Lib.hid hset
        have HOK' := Lib.hid hok'
        have hk1 : (0 : Int) ≤ (k5 : Int) := by omega
        have hk2 : (k5 : Int) < 120 := by omega
        have hadd := addr0 g k5
        clear hset hok' hx64
        go_wp2_with (first
          | (go_at_call 12; refine (HPK5.out _).mono ?_; rintro e v' ⟨rfl, rfl⟩)
          | fail)
        go_roundg gk
        case measure => omega
        case rel =>
          exact ⟨i + 1, by omega, by go_num, _, by simp [HLen.out], HOK'.out, HSet.out, HB5.out.setCell (p := ⟨g, k5, none⟩) hg _⟩
      | zero =>
        have hge : ¬ ((i : Int) < 2) := by omega
        have hY0 := HY.out.more (HB2.out.trans (HB0.out.mono HB2.out.size))
        have h13 := fun W (hr : ReadsW W A7 n7 ws7) => whole_x 200 n7 cap7 A7 ws7 W hr hc7
        have h14 := fun W (hr : ReadsW W A7 n7 ws7) => rwhole_x 200 n7 cap7 A7 ws7 W hr hc7
        have h15 := fun W (hr : Row W g ws) => whole_x 200 119 120 _ (ws.take 119) W (reads_take (hr.reads HLen.out (by omega) HOK.out) 119 (by omega)) (by omega)
        have e3 : wholeOk (ws.take 119) 200 = false := by unfold wholeOk; rw [decide_eq_false (by rw [List.length_take, HLen.out]; omega), Bool.false_and]
        unfold RecR at h13 h14 h15
        rw [e3] at h15
        generalize wholeS ws7 200 = wS at h13 h14
        generalize wholeP ws7 200 = wP at h13 h14
        generalize wholeOk ws7 200 = wO at h13 h14
        generalize wholeS (ws.take 119) 200 = cS at h15
        generalize wholeP (ws.take 119) 200 = cP at h15
        have H13 := Lib.hid h13
        have H14 := Lib.hid h14
        have H15 := Lib.hid h15
        have HY0 := Lib.hid hY0
        clear h13 h14 h15 hY0 e3
        go_wp2_with fail
        go_at_call 13
        refine (H13.out _ HY0.out).mono ?_
        rintro e u1 ⟨⟨A1', c1', rfl, hr⟩, hb⟩
        have hbb := hb.alloc hb.size (.cells #[.int .i64 wS, .slice A1' wP.length c1'] 34)
        have HY1 := Lib.hid (HY0.out.more hbb)
        have HRow1 := Lib.hid (HRow0.out.more hbb)
        have HB1' := Lib.hid (HB0.out.trans (hbb.mono HB0.out.size))
        clear hbb hr hb
        go_wp2_with fail
        go_at_call 14
        refine (H14.out _ HY1.out).mono ?_
        rintro e u2 ⟨⟨A2', c2', rfl, hr⟩, hb⟩
        have hbb := hb.alloc hb.size (.cells #[.int .i64 wS, .slice A2' wP.length c2'] 27)
        have HRow2 := Lib.hid (HRow1.out.more hbb)
        have HB2' := Lib.hid (HB1'.out.trans (hbb.mono HB1'.out.size))
        clear hbb hr hb
        go_wp2_with fail
        go_at_call 13
        refine (H15.out _ HRow2.out).mono ?_
        rintro e u3 ⟨⟨A3', c3', rfl, hr⟩, hb⟩
        have hbb := hb.alloc hb.size (.cells #[.int .i64 cS, .slice A3' cP.length c3'] 34)
        have HB3' := Lib.hid (HB2'.out.trans (hbb.mono HB2'.out.size))
        clear hbb hr hb
        go_wp2_with fail
        go_ret
        exact ⟨by simp, HB2.out.trans (HB3'.out.mono HB2.out.size)⟩
  · have hm3 := Nat.mod_lt m0 (show 0 < 3 by omega)
    have hmx := fun W => rmark_x (s1 + (m0 : Int) % 3) W
    obtain ⟨mk, hmv⟩ : ∃ mk : Nat, markV (s1 + (m0 : Int) % 3) = (mk : Int) := ⟨((s1 + (m0 : Int) % 3) * 4 + 2).toNat, by rw [markV_eq _ (by omega)]; omega⟩
    have hmk : mk < 18446744073709551616 := by rw [markV_eq _ (by omega)] at hmv; omega
    rw [hmv] at hmx
    have HMX := Lib.hid hmx
    clear hmx hmv
    go_wp2_with fail
    go_at_call 10
    refine (HMX.out _).mono ?_
    rintro e v' ⟨rfl, rfl⟩
    have HLGm := Lib.hid (HLG.out mk V HP2.out)
    go_wp2_with (first | (refine wpList_load_row rfl 27 _ rfl v1.heap.size rfl 27 #[.int .i64 s1, .slice B1 k1 c1] (0, 0) _ (HV.out ▸ HR1.out) Try.underlying27 rfl s27a ?_) | fail)
    rw [← HV.out]
    go_at_call 11
    refine HLGm.out.mono ?_
    rintro e v5 ⟨⟨g, rfl, hg, hrow⟩, hb5⟩
    have hok0 : WordsOk (wl (logF mk rest b1)) := wl_ok _ fun j _ => logF_ok mk rest b1 hmk hr0 HB1O.out j
    have hl0 := wl_length (logF mk rest b1)
    generalize wl (logF mk rest b1) = ws0 at *
    have HRow := Lib.hid hrow
    have HB5 := Lib.hid hb5
    have HOK0 := Lib.hid hok0
    have HL0 := Lib.hid hl0
    clear hrow hb5 hok0 hl0
    go_wp2_with (first
      | (go_at_call 12; refine (HPK8.out _).mono ?_; rintro e v' ⟨rfl, rfl⟩)
      | fail)
    go_loopg [22] 2 (fun gg s22 wx => ∃ i : Nat, i + gg = 2 ∧ s22 = .int .i64 i ∧ ∃ ws, ws.length = 120 ∧ WordsOk ws ∧ Row wx g ws ∧ Below V.heap.size V wx)
    case atStart => exact ⟨0, by omega, rfl, ws0, HL0.out, HOK0.out, HRow.out, HB5.out⟩
    case round =>
      obtain ⟨i, hi, rfl, ws, hlen, hok, hrow, hbr⟩ := hrel
      clear HRow HB5 HOK0 HL0
      have HRow0 := Lib.hid hrow
      have HB0 := Lib.hid hbr
      have HOK := Lib.hid hok
      have HLen := Lib.hid hlen
      clear hrow hbr hok hlen
      cases gk with
      | succ gk =>
        have hlt : (i : Int) < 2 := by omega
        have h13 := fun W (hr : Row W g ws) => whole_x ((k8 : Int) + 94) 120 120 _ ws W (hr.reads HLen.out (by omega) HOK.out) (Nat.le_refl _)
        have h14 := fun W (hr : Row W g ws) => rwhole_x ((k8 : Int) + 94) 120 120 _ ws W (hr.reads HLen.out (by omega) HOK.out) (Nat.le_refl _)
        have h15 := fun W (hr : Row W g ws) => committed_x ((k8 : Int) + 94) 120 120 _ ws W (hr.reads HLen.out (by omega) HOK.out) (Nat.le_refl _)
        have h16 := fun W (hr : Row W g ws) => rcommitted_x ((k8 : Int) + 94) 120 120 _ ws W (hr.reads HLen.out (by omega) HOK.out) (Nat.le_refl _)
        unfold RecR at h13 h14 h15 h16
        generalize wholeS ws ((k8 : Int) + 94) = wS at h13 h14
        generalize wholeP ws ((k8 : Int) + 94) = wP at h13 h14
        generalize wholeOk ws ((k8 : Int) + 94) = wO at h13 h14
        generalize comS ws ((k8 : Int) + 94) = cS at h15 h16
        generalize comP ws ((k8 : Int) + 94) = cP at h15 h16
        generalize comOk ws ((k8 : Int) + 94) = cO at h15 h16
        have H13 := Lib.hid h13
        have H14 := Lib.hid h14
        have H15 := Lib.hid h15
        have H16 := Lib.hid h16
        clear h13 h14 h15 h16
        go_wp2_with fail
        go_at_call 13
        refine (H13.out _ HRow0.out).mono ?_
        rintro e u1 ⟨⟨A1, c1, rfl, hr⟩, hb⟩
        have hba : Below u1.heap.size u1 (u1.alloc (.cells #[.int .i64 wS, .slice A1 wP.length c1] 34)) := (Below.refl _ u1).alloc (Nat.le_refl _) _
        have hbb := hb.trans (hba.mono hb.size)
        have HX1 := Lib.hid (heap_alloc_new u1 (.cells #[.int .i64 wS, .slice A1 wP.length c1] 34))
        have HD1 := Lib.hid (hr.more hba)
        have HRow1 := Lib.hid (HRow0.out.more hbb)
        have HB1 := Lib.hid (HB0.out.trans (hbb.mono HB0.out.size))
        clear hba hbb hr hb
        go_wp2_with fail
        go_at_call 14
        refine (H14.out _ HRow1.out).mono ?_
        rintro e u2 ⟨⟨A2, c2, rfl, hr⟩, hb⟩
        have hba : Below u2.heap.size u2 (u2.alloc (.cells #[.int .i64 wS, .slice A2 wP.length c2] 27)) := (Below.refl _ u2).alloc (Nat.le_refl _) _
        have hbb := hb.trans (hba.mono hb.size)
        have HX2 := Lib.hid (heap_alloc_new u2 (.cells #[.int .i64 wS, .slice A2 wP.length c2] 27))
        have HD2 := Lib.hid (hr.more hba)
        have HRow2 := Lib.hid (HRow1.out.more hbb)
        have HB2 := Lib.hid (HB1.out.trans (hbb.mono HB1.out.size))
        have HX12 := Lib.hid ((hbb.block _ (Array.getElem?_eq_some_iff.1 HX1.out).1).trans HX1.out)
        have HD12 := Lib.hid (HD1.out.more hbb)
        clear hba hbb hr hb
        go_wp2_with fail
        go_at_call 15
        refine (H15.out _ HRow2.out).mono ?_
        rintro e u3 ⟨⟨A3, c3, rfl, hr⟩, hb⟩
        have hba : Below u3.heap.size u3 (u3.alloc (.cells #[.int .i64 cS, .slice A3 cP.length c3] 34)) := (Below.refl _ u3).alloc (Nat.le_refl _) _
        have hbb := hb.trans (hba.mono hb.size)
        have HX3 := Lib.hid (heap_alloc_new u3 (.cells #[.int .i64 cS, .slice A3 cP.length c3] 34))
        have HD3 := Lib.hid (hr.more hba)
        have HRow3 := Lib.hid (HRow2.out.more hbb)
        have HB3 := Lib.hid (HB2.out.trans (hbb.mono HB2.out.size))
        have HX13 := Lib.hid ((hbb.block _ (Array.getElem?_eq_some_iff.1 HX12.out).1).trans HX12.out)
        have HD13 := Lib.hid (HD12.out.more hbb)
        have HX23 := Lib.hid ((hbb.block _ (Array.getElem?_eq_some_iff.1 HX2.out).1).trans HX2.out)
        have HD23 := Lib.hid (HD2.out.more hbb)
        clear hba hbb hr hb
        go_wp2_with fail
        go_at_call 16
        refine (H16.out _ HRow3.out).mono ?_
        rintro e u4 ⟨⟨A4, c4, rfl, hr⟩, hb⟩
        have hba : Below u4.heap.size u4 (u4.alloc (.cells #[.int .i64 cS, .slice A4 cP.length c4] 27)) := (Below.refl _ u4).alloc (Nat.le_refl _) _
        have hbb := hb.trans (hba.mono hb.size)
        have HX4 := Lib.hid (heap_alloc_new u4 (.cells #[.int .i64 cS, .slice A4 cP.length c4] 27))
        have HD4 := Lib.hid (hr.more hba)
        have HRow4 := Lib.hid (HRow3.out.more hbb)
        have HB4 := Lib.hid (HB3.out.trans (hbb.mono HB3.out.size))
        have HX14 := Lib.hid ((hbb.block _ (Array.getElem?_eq_some_iff.1 HX13.out).1).trans HX13.out)
        have HD14 := Lib.hid (HD13.out.more hbb)
        have HX24 := Lib.hid ((hbb.block _ (Array.getElem?_eq_some_iff.1 HX23.out).1).trans HX23.out)
        have HD24 := Lib.hid (HD23.out.more hbb)
        have HX34 := Lib.hid ((hbb.block _ (Array.getElem?_eq_some_iff.1 HX3.out).1).trans HX3.out)
        have HD34 := Lib.hid (HD3.out.more hbb)
        clear hba hbb hr hb
        go_wp2_with fail
        obtain ⟨C, hC⟩ : ∃ C : World → Prop, C = fun w' => Below (u4.alloc (.cells #[.int .i64 cS, .slice A4 cP.length c4] 27)).heap.size (u4.alloc (.cells #[.int .i64 cS, .slice A4 cP.length c4] 27)) w' := ⟨_, rfl⟩
        have hex : ∃ x, C x := ⟨(u4.alloc (.cells #[.int .i64 cS, .slice A4 cP.length c4] 27)), by rw [hC]; exact Below.refl _ _⟩
        have hCs : C { (u4.alloc (.cells #[.int .i64 cS, .slice A4 cP.length c4] 27)) with drawn := (u4.alloc (.cells #[.int .i64 cS, .slice A4 cP.length c4] 27)).drawn + 1 } := by rw [hC]; exact (Below.refl _ _).drew
        have HC := Lib.hid hC
        clear hC
        have hL : ∀ w', C w' → ∀ (j : Nat) (v : Value), #[.int .i64 wS, .slice A1 wP.length c1][j]? = some v → w'.cell? ((⟨u1.heap.size, 0, none⟩ : Addr).add j) = some v := by
          intro w' hc
          rw [HC.out] at hc
          exact cells_in ((hc.block _ (Array.getElem?_eq_some_iff.1 HX14.out).1).trans HX14.out)
        have HL0 := Lib.hid hL
        clear hL
        have hL : ∀ w', C w' → ∀ (j : Nat) (v : Value), #[.int .i64 wS, .slice A2 wP.length c2][j]? = some v → w'.cell? ((⟨u2.heap.size, 0, none⟩ : Addr).add j) = some v := by
          intro w' hc
          rw [HC.out] at hc
          exact cells_in ((hc.block _ (Array.getElem?_eq_some_iff.1 HX24.out).1).trans HX24.out)
        have HL1 := Lib.hid hL
        clear hL
        have hL : ∀ w', C w' → ∀ (j : Nat) (v : Value), #[.int .i64 cS, .slice A3 cP.length c3][j]? = some v → w'.cell? ((⟨u3.heap.size, 0, none⟩ : Addr).add j) = some v := by
          intro w' hc
          rw [HC.out] at hc
          exact cells_in ((hc.block _ (Array.getElem?_eq_some_iff.1 HX34.out).1).trans HX34.out)
        have HL2 := Lib.hid hL
        clear hL
        have hL : ∀ w', C w' → ∀ (j : Nat) (v : Value), #[.int .i64 cS, .slice A4 cP.length c4][j]? = some v → w'.cell? ((⟨u4.heap.size, 0, none⟩ : Addr).add j) = some v := by
          intro w' hc
          rw [HC.out] at hc
          exact cells_in ((hc.block _ (Array.getElem?_eq_some_iff.1 HX4.out).1).trans HX4.out)
        have HL3 := Lib.hid hL
        clear hL
        refine wp_region_quiet (C := C) (by kernel_rfl) (by kernel_rfl) hCs ?_
        clear hCs
        simp only
        repeat (first
          | go_big_quiet_skip
          | (go_big_quiet_want; first
            | (refine quiet_load 34 _ rfl ⟨u1.heap.size, 0, none⟩ rfl #[.int .i64 wS, .slice A1 wP.length c1] _ HL0.out Try.underlying34 rfl (by rw [size34]; rfl) ?_; simp only [Act.put, List.setIfInBounds_toArray, List.set_cons_succ, List.set_cons_zero]; go_big_quiet_on)
            | (refine quiet_load 27 _ rfl ⟨u2.heap.size, 0, none⟩ rfl #[.int .i64 wS, .slice A2 wP.length c2] _ HL1.out Try.underlying27 rfl (by rw [size27]; rfl) ?_; simp only [Act.put, List.setIfInBounds_toArray, List.set_cons_succ, List.set_cons_zero]; go_big_quiet_on)
            | (refine quiet_load 34 _ rfl ⟨u3.heap.size, 0, none⟩ rfl #[.int .i64 cS, .slice A3 cP.length c3] _ HL2.out Try.underlying34 rfl (by rw [size34]; rfl) ?_; simp only [Act.put, List.setIfInBounds_toArray, List.set_cons_succ, List.set_cons_zero]; go_big_quiet_on)
            | (refine quiet_load 27 _ rfl ⟨u4.heap.size, 0, none⟩ rfl #[.int .i64 cS, .slice A4 cP.length c4] _ HL3.out Try.underlying27 rfl (by rw [size27]; rfl) ?_; simp only [Act.put, List.setIfInBounds_toArray, List.set_cons_succ, List.set_cons_zero]; go_big_quiet_on)
            | (go_big_quiet_op; first | go_big_quiet_on | go_big_quiet_call (first
              | (intro _; with_reducible rfl)
              | (intro hc; go_at_call 18; rw [HC.out] at hc ⊢; exact (out_x _ _ _ _ _).mono fun _ _ ⟨he, h⟩ => ⟨he, hc.trans (h.mono hc.size)⟩)
              | (intro hc; go_at_call_of 17 A1; rw [HC.out] at hc ⊢; exact (samerec_t (HD14.out.more hc) (HD24.out.more hc) (samePs_refl _)).mono fun _ _ ⟨he, h⟩ => ⟨he, hc.trans (h.mono hc.size)⟩)
              | (intro hc; go_at_call_of 17 A3; rw [HC.out] at hc ⊢; exact (samerec_t (HD34.out.more hc) (HD4.out.more hc) (samePs_refl _)).mono fun _ _ ⟨he, h⟩ => ⟨he, hc.trans (h.mono hc.size)⟩)
              | (intro hc; go_at_call 19; rw [HC.out] at hc ⊢; exact (awake_x _).mono fun _ _ ⟨he, h⟩ => ⟨he, hc.trans (h.mono hc.size)⟩)
              | fail))))
        refine wpQuiet_nil ?_
        intro vq hcq
        rw [HC.out] at hcq
        clear hex HC
        have HRow5 := Lib.hid (HRow4.out.more hcq)
        have HB5 := Lib.hid (HB4.out.trans (hcq.mono HB4.out.size))
        clear hcq
        have cw := HRow5.out.cell k5 (by rw [HLen.out]; omega)
        have fw := HRow5.out.frozen k5
        have hx64 : ws.getD k5 0 < 18446744073709551616 := getD_ok ws HOK.out k5
        have hxor := u64_xor_nat (ws.getD k5 0) b hx64 hb64
        have hset := HRow5.out.set k5 (ws.getD k5 0 ^^^ b)
        have hok' : WordsOk (ws.set k5 (ws.getD k5 0 ^^^ b)) := by
          intro y hy
          rcases List.mem_or_eq_of_mem_set hy with hy | rfl
          · exact HOK.out y hy
          · exact Nat.xor_lt_two_pow (n := 64) (by omega) (by omega)
        generalize ws.getD k5 0 = x5 at *
        have HSet := Lib.hid hset
        have HOK' := Lib.hid hok'
        have hk1 : (0 : Int) ≤ (k5 : Int) := by omega
        have hk2 : (k5 : Int) < 120 := by omega
        have hadd := addr0 g k5
        clear hset hok' hx64
        go_wp2_with (first
          | (go_at_call 12; refine (HPK5.out _).mono ?_; rintro e v' ⟨rfl, rfl⟩)
          | fail)
        go_roundg gk
        case measure => omega
        case rel =>
          exact ⟨i + 1, by omega, by go_num, _, by simp [HLen.out], HOK'.out, HSet.out, HB5.out.setCell (p := ⟨g, k5, none⟩) hg _⟩
      | zero =>
        have hge : ¬ ((i : Int) < 2) := by omega
        have hY0 := HY.out.more (HB2.out.trans (HB0.out.mono HB2.out.size))
        have h13 := fun W (hr : ReadsW W A7 n7 ws7) => whole_x 200 n7 cap7 A7 ws7 W hr hc7
        have h14 := fun W (hr : ReadsW W A7 n7 ws7) => rwhole_x 200 n7 cap7 A7 ws7 W hr hc7
        have h15 := fun W (hr : Row W g ws) => whole_x 200 119 120 _ (ws.take 119) W (reads_take (hr.reads HLen.out (by omega) HOK.out) 119 (by omega)) (by omega)
        have e3 : wholeOk (ws.take 119) 200 = false := by unfold wholeOk; rw [decide_eq_false (by rw [List.length_take, HLen.out]; omega), Bool.false_and]
        unfold RecR at h13 h14 h15
        rw [e3] at h15
        generalize wholeS ws7 200 = wS at h13 h14
        generalize wholeP ws7 200 = wP at h13 h14
        generalize wholeOk ws7 200 = wO at h13 h14
        generalize wholeS (ws.take 119) 200 = cS at h15
        generalize wholeP (ws.take 119) 200 = cP at h15
        have H13 := Lib.hid h13
        have H14 := Lib.hid h14
        have H15 := Lib.hid h15
        have HY0 := Lib.hid hY0
        clear h13 h14 h15 hY0 e3
        go_wp2_with fail
        go_at_call 13
        refine (H13.out _ HY0.out).mono ?_
        rintro e u1 ⟨⟨A1', c1', rfl, hr⟩, hb⟩
        have hbb := hb.alloc hb.size (.cells #[.int .i64 wS, .slice A1' wP.length c1'] 34)
        have HY1 := Lib.hid (HY0.out.more hbb)
        have HRow1 := Lib.hid (HRow0.out.more hbb)
        have HB1' := Lib.hid (HB0.out.trans (hbb.mono HB0.out.size))
        clear hbb hr hb
        go_wp2_with fail
        go_at_call 14
        refine (H14.out _ HY1.out).mono ?_
        rintro e u2 ⟨⟨A2', c2', rfl, hr⟩, hb⟩
        have hbb := hb.alloc hb.size (.cells #[.int .i64 wS, .slice A2' wP.length c2'] 27)
        have HRow2 := Lib.hid (HRow1.out.more hbb)
        have HB2' := Lib.hid (HB1'.out.trans (hbb.mono HB1'.out.size))
        clear hbb hr hb
        go_wp2_with fail
        go_at_call 13
        refine (H15.out _ HRow2.out).mono ?_
        rintro e u3 ⟨⟨A3', c3', rfl, hr⟩, hb⟩
        have hbb := hb.alloc hb.size (.cells #[.int .i64 cS, .slice A3' cP.length c3'] 34)
        have HB3' := Lib.hid (HB2'.out.trans (hbb.mono HB2'.out.size))
        clear hbb hr hb
        go_wp2_with fail
        go_ret
        exact ⟨by simp, HB2.out.trans (HB3'.out.mono HB2.out.size)⟩

theorem logs_law (a0 : Int) (a1 : Option Addr) (len1 cap1 : Nat) (z1 : List Int) (a2 : Int) (a3 : Bool) (a4 a5 a6 : Int) (a7 : Option Addr) (len7 cap7 : Nat) (z7 : List Int) (a8 : Int) (w : World)
    (w0 : (Lit.int .i64 a0).wf = true) (w1 : IsRow .i64 w a1 len1 cap1 z1) (w2 : (Lit.int .u64 a2).wf = true) (w4 : (Lit.int .u64 a4).wf = true) (w5 : (Lit.int .i64 a5).wf = true) (w6 : (Lit.int .u64 a6).wf = true) (w7 : IsRow .u64 w a7 len7 cap7 z7) (w8 : (Lit.int .i64 a8).wf = true) :
    Calls Try.prog 3 #[.int .i64 a0, .slice a1 len1 cap1, .int .u64 a2, .bool a3, .int .u64 a4, .int .i64 a5, .int .u64 a6, .slice a7 len7 cap7, .int .i64 a8] w fun e w' => e = .returned (.bool true) ∧ Below w.heap.size w w' := by
  by_cases h20 : (20 : Int) < (len1 : Int)
  · clear w0 w1 w2 w4 w5 w6 w7 w8
    go_enter Try.func3, Try.ntmps3
    go_wp2
    go_ret
    exact ⟨rfl, Below.refl _ _⟩
  · by_cases h60 : (200 : Int) < (len7 : Int)
    · clear w0 w1 w2 w4 w5 w6 w7 w8
      go_enter Try.func3, Try.ntmps3
      go_wp2
      go_ret
      exact ⟨rfl, Below.refl _ _⟩
    · have h2 := wf_u64 w2
      have h4 := wf_u64 w4
      have h6 := wf_u64 w6
      obtain ⟨m0, rfl⟩ : ∃ b : Nat, a2 = (b : Int) := ⟨a2.toNat, (Int.toNat_of_nonneg h2.1).symm⟩
      obtain ⟨rest, rfl⟩ : ∃ b : Nat, a4 = (b : Int) := ⟨a4.toNat, (Int.toNat_of_nonneg h4.1).symm⟩
      obtain ⟨b, rfl⟩ : ∃ b : Nat, a6 = (b : Int) := ⟨a6.toNat, (Int.toNat_of_nonneg h6.1).symm⟩
      exact logs_core a0 a5 a8 a3 m0 rest b len1 cap1 len7 cap7 a1 a7 _ _ w (isrow_readsI w1 (by omega)) (isrow_readsW w7 (by omega)) (isrow_cap w7) h20 h60 (wf_i64 w0) (wf_i64 w5) (wf_i64 w8) (by omega) (by omega) (by omega)
end Go.Proofs.Ytmeppeadfhifeaa
