/- The law LogrecPages walked: it returns true. Conditions: the page's numbers are words, the numbers are ints. -/
import Derived.Test.YtmeppeadfhifeaaAwake
import Derived.Test.YtmeppeadfhifeaaApplied
namespace Go.Proofs.Ytmeppeadfhifeaa
open Go.RowKit Go.Shelf
set_option linter.unusedVariables false
set_option linter.unusedSimpArgs false

theorem samewords_t {n m cap cap' : Nat} {A B : Option Addr} {ps : List Nat} {w : World} (hp : ReadsW w A n ps) (hq : ReadsW w B m ps) :
    Calls Try.prog 25 #[.slice A n cap, .slice B m cap'] w fun e w' => e = .returned (.bool true) ∧ Below w.heap.size w w' :=
  samewords_b n m cap cap' A B ps ps w true (by simp) hp hq

set_option maxRecDepth 100000 in
set_option maxHeartbeats 8000000 in
theorem pages_law (p : Pg) (n c : Int) (w : World) (hp : p.ok) (hn : -9223372036854775808 ≤ n ∧ n ≤ 9223372036854775807) (hc : -9223372036854775808 ≤ c ∧ c ≤ 9223372036854775807) :
    Calls Try.prog 8 #[.agg p.cells, .int .i64 n, .int .i64 c] w fun e w' => e = .returned (.bool true) ∧ Below w.heap.size w w' := by
  have hq := good_hpage n 200 (by omega) (by omega)
  have hpg := fun W => hpage_x n 200 W (by omega) (by omega) hn
  generalize hpage n 200 = q at hq hpg
  obtain ⟨k6, hk6⟩ : ∃ k6 : Nat, c % 6 = (k6 : Int) := ⟨(c % 6).toNat, by omega⟩
  have hk65 : k6 < 6 := by omega
  have hpk := fun W => pick_x c 6 W (by omega) (by omega) hc
  rw [hk6] at hpk
  have HPK := Lib.hid hpk
  have hno : nextOk q.head = true ∧ free q.head = true := by
    have := hq.2.2.2
    unfold headOk at this
    rwa [Bool.and_eq_true] at this
  have hfr : q.head % 256 = 0 := by have := hno.2; unfold free at this; simpa using this
  have hhb : q.head / 256 ≤ 281474976710654 := by have := hno.1; unfold nextOk at this; rw [decide_eq_true_eq] at this; exact this.2
  have hqh : (q.head : Int) ≤ 72057594037927424 := by omega
  have hlq := fun W => locked_x q (k6 : Int) W hq.1
  have e1 : lockV q.head (k6 : Int) = (q.head : Int) + ((k6 : Int) + 1) := by
    unfold lockV; rw [decide_eq_true (show (0 : Int) ≤ k6 ∧ (k6 : Int) ≤ 5 by omega), hno.2]; rfl
  have e2 : lockE q.head (k6 : Int) = 0 := by
    unfold lockE; rw [decide_eq_true (show (0 : Int) ≤ k6 ∧ (k6 : Int) ≤ 5 by omega), hno.2]; rfl
  rw [e1, e2] at hlq
  have HLQ := Lib.hid hlq
  have haq := fun W => applied_x q W hq.1
  unfold ApR at haq
  have e3 : apN q = (q.head + 256) :: dataW q 7 := by
    unfold apN nextV
    rw [if_pos hno.1, if_pos hno.1]
    congr 1
    omega
  have e4 : nextE q.head = 0 := by unfold nextE; rw [hno.1]; rfl
  rw [e3, e4, show ((q.head + 256) :: dataW q 7).length = 8 by simp [dataW]] at haq
  have HAQ := Lib.hid haq
  clear hpk hlq haq e1 e2 e3 e4 hno hfr hhb hk6
  have hl1 := fun W => locked_x p c W hp
  have hl2 := fun W => rlocked_x p c W hp
  have ha1 := fun W => applied_x p W hp
  have ha2 := fun W => rapplied_x p W hp
  unfold ApR at ha1 ha2
  generalize lockV p.head c = lv at hl1 hl2
  generalize lockE p.head c = le at hl1 hl2
  generalize nextE p.head = ne at ha1 ha2
  generalize apN p = ap at ha1 ha2
  have HPG := Lib.hid hpg
  have HL1 := Lib.hid hl1
  have HL2 := Lib.hid hl2
  have HA1 := Lib.hid ha1
  have HA2 := Lib.hid ha2
  have HQ := Lib.hid hq
  have s9 : ∀ r : Pg, (Try.prog.info? 49).map (·.size) = some r.cells.size := fun r => by rw [size49]; rfl
  have hb0 : w.alloc (.cells p.cells 49) = w.alloc (.cells p.cells 49) := rfl
  have HS9 := Lib.hid s9
  clear hpg hl1 hl2 ha1 ha2 hq hb0 s9
  go_enter Try.func8, Try.ntmps8
  go_wp2_with fail
  go_at_call 29
  refine (HPG.out _).mono ?_
  rintro e w1 ⟨rfl, hb1⟩
  have HP2 := Lib.hid (((Below.heap_alloc w1 (.cells q.cells 49) w.heap.size (by have := hb1.size; simp at this; omega)).trans (hb1.block _ (by simp))).trans (heap_alloc_new w (.cells p.cells 49)))
  have HQ2 := Lib.hid (heap_alloc_new w1 (.cells q.cells 49))
  have HB2 := Lib.hid ((((Below.refl _ w).alloc (Nat.le_refl _) (.cells p.cells 49)).trans (hb1.mono (by simp))).alloc (by have := hb1.size; simp at this; omega) (.cells q.cells 49))
  go_wp2_with (first
    | (refine wpList_store_new2 rfl 49 _ _ rfl w1 _ rfl _ q.cells rfl rfl rfl (by rw [size49]; rfl) rfl (cells_one q) ?_)
    | (refine wpList_load_row rfl 49 _ rfl w.heap.size rfl 49 p.cells (0, 0) _ HP2.out Try.underlying49 rfl (HS9.out _) ?_)
    | fail)
  go_at_call 30
  refine (HL1.out _).mono ?_
  rintro e w3 ⟨rfl, hb3⟩
  have HP3 := Lib.hid ((hb3.block _ (Array.getElem?_eq_some_iff.1 HP2.out).1).trans HP2.out)
  have HQ3 := Lib.hid ((hb3.block _ (Array.getElem?_eq_some_iff.1 HQ2.out).1).trans HQ2.out)
  have HB3 := Lib.hid (HB2.out.trans (hb3.mono HB2.out.size))
  go_wp2_with (first | (refine wpList_load_row rfl 49 _ rfl w.heap.size rfl 49 p.cells (0, 0) _ HP3.out Try.underlying49 rfl (HS9.out _) ?_) | fail)
  go_at_call 31
  refine (HL2.out _).mono ?_
  rintro e w4 ⟨rfl, hb4⟩
  have HP4 := Lib.hid ((hb4.block _ (Array.getElem?_eq_some_iff.1 HP3.out).1).trans HP3.out)
  have HQ4 := Lib.hid ((hb4.block _ (Array.getElem?_eq_some_iff.1 HQ3.out).1).trans HQ3.out)
  have HB4 := Lib.hid (HB3.out.trans (hb4.mono HB3.out.size))
  go_wp2_with (first | (refine wpList_load_row rfl 49 _ rfl w.heap.size rfl 49 p.cells (0, 0) _ HP4.out Try.underlying49 rfl (HS9.out _) ?_) | fail)
  go_at_call 32
  refine (HA1.out _).mono ?_
  rintro e w5 ⟨⟨A5, c5, rfl, hr5⟩, hb5⟩
  have HP5 := Lib.hid ((hb5.block _ (Array.getElem?_eq_some_iff.1 HP4.out).1).trans HP4.out)
  have HQ5 := Lib.hid ((hb5.block _ (Array.getElem?_eq_some_iff.1 HQ4.out).1).trans HQ4.out)
  have HB5 := Lib.hid (HB4.out.trans (hb5.mono HB4.out.size))
  have HR5 := Lib.hid hr5
  clear hr5
  go_wp2_with (first | (refine wpList_load_row rfl 49 _ rfl w.heap.size rfl 49 p.cells (0, 0) _ HP5.out Try.underlying49 rfl (HS9.out _) ?_) | fail)
  go_at_call 33
  refine (HA2.out _).mono ?_
  rintro e w6 ⟨⟨A6, c6, rfl, hr6⟩, hb6⟩
  have HP6 := Lib.hid ((hb6.block _ (Array.getElem?_eq_some_iff.1 HP5.out).1).trans HP5.out)
  have HQ6 := Lib.hid ((hb6.block _ (Array.getElem?_eq_some_iff.1 HQ5.out).1).trans HQ5.out)
  have HB6 := Lib.hid (HB5.out.trans (hb6.mono HB5.out.size))
  have HR56 := Lib.hid (HR5.out.more hb6)
  have HR6 := Lib.hid hr6
  clear hr6
  go_wp2_with (first
    | (go_at_call 19; refine (awake_x _).mono ?_; rintro e w7 ⟨rfl, hb7⟩)
    | (go_at_call 25; refine (samewords_t (HR56.out.more hb7) (HR6.out.more hb7)).mono ?_; rintro e w8 ⟨rfl, hb8⟩
       have HP7 := Lib.hid ((hb7.block _ (Array.getElem?_eq_some_iff.1 HP6.out).1).trans HP6.out)
       have HQ7 := Lib.hid ((hb7.block _ (Array.getElem?_eq_some_iff.1 HQ6.out).1).trans HQ6.out)
       have HB7 := Lib.hid (HB6.out.trans (hb7.mono HB6.out.size))
       have HQ8 := Lib.hid ((hb8.block _ (Array.getElem?_eq_some_iff.1 HQ7.out).1).trans HQ7.out)
       have HB8 := Lib.hid (HB7.out.trans (hb8.mono HB7.out.size)))
    | (refine wpList_load_row rfl 49 _ rfl w1.heap.size rfl 49 q.cells (0, 0) _ HQ8.out Try.underlying49 rfl (HS9.out _) ?_)
    | fail)
  go_at_call 32
  refine (HAQ.out _).mono ?_
  rintro e w9 ⟨⟨A9, c9, rfl, hr9⟩, hb9⟩
  obtain ⟨ad, rfl, hadb, _, _⟩ := hr9.2.2 0 (by omega)
  have HQ9 := Lib.hid ((hb9.block _ (Array.getElem?_eq_some_iff.1 HQ8.out).1).trans HQ8.out)
  have HB9 := Lib.hid (HB8.out.trans (hb9.mono HB8.out.size))
  have HR9 := Lib.hid hr9
  clear hr9
  go_wp2_with fail
  obtain ⟨C, hC⟩ : ∃ C : World → Prop, C = fun w' => Below w9.heap.size w9 w' := ⟨_, rfl⟩
  have hex : ∃ x, C x := ⟨w9, by rw [hC]; exact Below.refl _ _⟩
  have hCs : C { w9 with drawn := w9.drawn + 1 } := by rw [hC]; exact (Below.refl _ _).drew
  have HC := Lib.hid hC
  clear hC
  have hL : ∀ w', C w' → ∀ (j : Nat) (v : Value), q.cells[j]? = some v → w'.cell? ((⟨w1.heap.size, 0, none⟩ : Addr).add j) = some v := by
    intro w' hc
    rw [HC.out] at hc
    exact cells_in ((hc.block _ (Array.getElem?_eq_some_iff.1 HQ9.out).1).trans HQ9.out)
  have HL := Lib.hid hL
  clear hL
  refine wp_region_quiet (C := C) (by kernel_rfl) (by kernel_rfl) hCs ?_
  clear hCs
  simp only
  repeat (first
    | go_big_quiet_skip
    | (go_big_quiet_want; first
      | (refine quiet_load 49 _ rfl ⟨w1.heap.size, 0, none⟩ rfl q.cells _ HL.out Try.underlying49 rfl (HS9.out _) ?_; simp only [Act.put, List.setIfInBounds_toArray, List.set_cons_succ, List.set_cons_zero]; go_big_quiet_on)
      | (go_big_quiet_op; first | go_big_quiet_on | go_big_quiet_call (first
        | (intro _; with_reducible rfl)
        | (intro hc; go_at_call 12; exact (HPK.out _).mono fun _ _ ⟨he, h⟩ => ⟨he, h ▸ hc⟩)
        | (intro hc; go_at_call 30; rw [HC.out] at hc ⊢; exact (HLQ.out _).mono fun _ _ ⟨he, h⟩ => ⟨he, hc.trans (h.mono hc.size)⟩)))))
  refine wpQuiet_nil ?_
  intro w10 hc
  rw [HC.out] at hc
  have HQ10 := Lib.hid ((hc.block _ (Array.getElem?_eq_some_iff.1 HQ9.out).1).trans HQ9.out)
  have HR10 := Lib.hid (HR9.out.more hc)
  have HB10 := Lib.hid (HB9.out.trans (hc.mono HB9.out.size))
  have hadb10 : ad.block < w10.heap.size := Nat.lt_of_lt_of_le hadb hc.size
  clear hc hex HL HC
  go_wp2_with fail
  go_loopg [20] 7 (fun g s20 wx => ∃ j : Nat, j + g = 7 ∧ s20 = .int .i64 j ∧ Below w10.heap.size w10 wx)
  case atStart => exact ⟨0, by omega, rfl, Below.refl _ _⟩
  case round =>
    obtain ⟨j, hj, rfl, hbel⟩ := hrel
    have HQ11 := Lib.hid ((hbel.block _ (Array.getElem?_eq_some_iff.1 HQ10.out).1).trans HQ10.out)
    have HR11 := Lib.hid (HR10.out.more hbel)
    cases gk with
    | zero =>
      have hge : ¬ ((j : Int) < 7) := by omega
      have k0 : wr.cell? ad = some (.int .u64 ((q.head : Int) + 256)) := by
        have h := HR11.out.at 0 (by omega)
        rw [Addr.add_zero'] at h
        rw [h]
        show some (Value.int .u64 ((q.head + 256 : Nat) : Int)) = _
        push_cast; rfl
      have k1 : wr.cell? ⟨w1.heap.size, 1, none⟩ = some (.int .u64 (q.head : Int)) := by simp [World.cell?, HQ11.out, Pg.cells]
      have i1 : IntKind.u64.wrap ((q.head : Int) + 256) = (q.head : Int) + 256 := IntWalk.u64_in _ ⟨by omega, by omega⟩
      have i2 : IntKind.i64.wrap ((k6 : Int) + 1) = (k6 : Int) + 1 := IntWalk.i64_in _ ⟨by clear i1; omega, by clear i1; omega⟩
      have i3 : IntKind.u64.wrap ((k6 : Int) + 1) = (k6 : Int) + 1 := IntWalk.u64_in _ ⟨by clear i1 i2; omega, by clear i1 i2; omega⟩
      have i4 : IntKind.u64.wrap ((q.head : Int) + ((k6 : Int) + 1)) = (q.head : Int) + ((k6 : Int) + 1) := IntWalk.u64_in _ ⟨by clear i1 i2 i3; omega, by clear i1 i2 i3; omega⟩
      go_wp2_with fail
      go_quiet ((go_at_call 12; exact Calls.quiet_of_same ((HPK.out _).mono fun _ _ ⟨he, h⟩ => ⟨he, h.symm⟩)))
      clear i1 i2 i3 i4
      go_wp2
      go_ret
      have hbb := HB10.out.trans (hbel.mono HB10.out.size)
      exact ⟨by simp, below_drewN hbb _⟩
    | succ g =>
      have hlt : (j : Int) < 7 := by omega
      have hj0 : (0 : Int) ≤ (j : Int) := by omega
      have hj8 : (1 : Int) + (j : Int) < 8 := by omega
      have hj80 : (0 : Int) ≤ 1 + (j : Int) := by omega
      have hjn : ((1 : Int) + (j : Int)).toNat = 1 + j := by omega
      have e1 : IntKind.i64.wrap (1 + (j : Int)) = 1 + (j : Int) := IntWalk.i64_in _ ⟨by omega, by omega⟩
      have k0 : wr.cell? (ad.add (1 + j)) = some (.int .u64 (q.d j : Int)) := by
        have h := HR11.out.at (1 + j) (by omega)
        rw [h]
        have : ((q.head + 256) :: dataW q 7).getD (1 + j) 0 = q.d j := by
          rw [Nat.add_comm 1 j]
          show (dataW q 7).getD j 0 = _
          rw [List.getD_eq_getElem?_getD, dataW, List.getElem?_map, List.getElem?_range (by omega)]
          rfl
        rw [this]
      have k1 : wr.cell? ⟨w1.heap.size, 2 + j, none⟩ = some (.int .u64 (q.d j : Int)) := by simp [World.cell?, HQ11.out, cells_d q j (by omega)]
      go_wp2_with fail
      go_quiet (fail)
      go_wp2
      go_roundg g
      case measure => omega
      case rel => exact ⟨j + 1, by omega, by go_num, below_drewN hbel _⟩
end Go.Proofs.Ytmeppeadfhifeaa
