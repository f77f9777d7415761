/- The reference's Parse. Conditions: the slice reads as words, no more than its capacity. -/
import Derived.Test.YtmeppeadfhifeaaParse
namespace Go.Proofs.Ytmeppeadfhifeaa
open Go.RowKit Go.Shelf
set_option linter.unusedVariables false
set_option linter.unusedSimpArgs false

theorem lv27' (w : World) (g : Nat) (a b : Value) (hg : w.heap[g]? = some (.cells #[a, b] 27 (0, 0))) : (loadVar 27 ⟨g, 0, none⟩).run Try.prog w = .ok (.agg #[a, b]) w := lv27 w g a b hg
theorem piece_at (ws : List Nat) (k j : Nat) (hj : j < 9) : ((ws.drop (2 + k * 9)).take 9).getD j 0 = ws.getD (2 + 9 * k + j) 0 := by
  simp only [List.getD_eq_getElem?_getD, List.getElem?_take_of_lt hj, List.getElem?_drop]
  rw [show 2 + k * 9 + j = 2 + 9 * k + j by omega]
theorem pgAt_line (ws : List Nat) (k : Nat) : (pgAt ws k).line = ((min (ws.getD (2 + 9 * k) 0) 256 : Nat) : Int) := by
  unfold pgAt pgOf
  show ((min _ 256 : Nat) : Int) = _
  rw [piece_at ws k 0 (by omega)]; rfl
theorem pgAt_head (ws : List Nat) (k : Nat) : (pgAt ws k).head = ws.getD (2 + 9 * k + 1) 0 := piece_at ws k 1 (by omega)
theorem pgAt_d (ws : List Nat) (k j : Nat) (hj : j < 7) : (pgAt ws k).d j = ws.getD (2 + 9 * k + (2 + j)) 0 := piece_at ws k (2 + j) (by omega)
theorem rec_low (ws : List Nat) (l : Int) (k : Nat) (hl : l ≤ 256) (hk : k < ws.getD 1 0) (h : ¬ ws.getD (2 + 9 * k) 0 < 256) : recOk ws l = false := by
  unfold recOk
  have : (validN (ws.getD 0 0 : Nat) (psOf ws) l == 0) = false := by
    rw [beq_eq_false_iff_ne]
    intro h0
    obtain ⟨_, _, _, h1, _, _⟩ := validN_0 _ _ _ h0
    have := h1 (pgAt ws k) (by unfold psOf; exact List.mem_map.2 ⟨k, List.mem_range.2 hk, rfl⟩)
    rw [pgAt_line] at this
    omega
  rw [this]; rfl
def pgJ (p : Pg) (j : Nat) : Pg := ⟨p.line, p.head, fun i => if i < j then p.d i else 0⟩
theorem pgJ_zero (p : Pg) : (pgJ p 0).cells = #[.int .i64 p.line, .int .u64 (p.head : Int), .int .u64 0, .int .u64 0, .int .u64 0, .int .u64 0, .int .u64 0, .int .u64 0, .int .u64 0] := by simp [pgJ, Pg.cells]
theorem pgJ_seven (p : Pg) : (pgJ p 7).cells = p.cells := by simp [pgJ, Pg.cells]
theorem pgJ_set (p : Pg) (j : Nat) (hj : j < 7) : (pgJ p j).cells.setIfInBounds (2 + j) (.int .u64 (p.d j : Int)) = (pgJ p (j + 1)).cells := by
  match j, hj with
  | 0, _ => simp [pgJ, Pg.cells]
  | 1, _ => simp [pgJ, Pg.cells]
  | 2, _ => simp [pgJ, Pg.cells]
  | 3, _ => simp [pgJ, Pg.cells]
  | 4, _ => simp [pgJ, Pg.cells]
  | 5, _ => simp [pgJ, Pg.cells]
  | 6, _ => simp [pgJ, Pg.cells]
theorem pgJ_cell (p : Pg) (j : Nat) (hj : j < 7) : ∃ v, (pgJ p j).cells[2 + j]? = some v := by
  have : (pgJ p j).cells.size = 9 := rfl
  exact ⟨_, Array.getElem?_eq_getElem (by omega)⟩

theorem samewords_b (n m cap cap' : Nat) (A B : Option Addr) (ps qs : List Nat) (w : World) (b : Bool) (hb : (ps == qs) = b) (hp : ReadsW w A n ps) (hq : ReadsW w B m qs) :
    Calls Try.prog 25 #[.slice A n cap, .slice B m cap'] w fun e w' => e = .returned (.bool b) ∧ Below w.heap.size w w' := by
  subst hb; exact samewords_x n m cap cap' A B ps qs w hp hq
theorem refbody_r (seq : Int) (n cap : Nat) (A : Option Addr) (ps : List Pg) (w : World) (hp : ReadsP w A n ps) :
    Calls Try.prog 26 #[.agg #[.int .i64 seq, .slice A n cap]] w fun e w' => ∃ A' c', e = .returned (.slice A' (bodyN seq ps).length c') ∧ ReadsW w' A' (bodyN seq ps).length (bodyN seq ps) ∧ Below w.heap.size w w' := by
  refine (refbody_x seq n cap A ps w hp).mono ?_
  rintro e w' ⟨⟨v, rfl, ho⟩, hb⟩
  have hbo := bodyN_ok seq ps hp.2.2.1
  obtain ⟨A', c', rfl, hr⟩ := own_readsW ho hbo.1 (by have := hbo.2; omega)
  exact ⟨A', c', rfl, hr, hb⟩
theorem ReadsP.row {w : World} {A : Option Addr} {n : Nat} {ps : List Pg} (h : ReadsP w A n ps) (g : Nat) (t : TypeId) (a b : Value) (cs : Array Value) (hg : w.heap[g]? = some (.cells #[a, b] t (0, 0))) : ReadsP (w.setRow g cs) A n ps := by
  have hsz : (w.setRow g cs).heap.size = w.heap.size := by simp [World.setRow]
  refine h.apart (by omega) (fun x y v hx hy hc => ?_)
  have h1 : x ≠ g := by
    intro e; subst e
    rw [World.cell?, hg] at hc
    simp at hc
    have := (List.getElem?_eq_some_iff.1 hc).1
    simp at this; omega
  exact setRow_other w g x cs h1

theorem toN (k : Nat) : (3 + 9 * (k : Int)).toNat = 3 + 9 * k := by omega
/-- What is left at a round of the outer loop. -/
def RefI (ws : List Nat) (w : World) (x0 : Nat) (k : Nat) (wx : World) : Prop :=
  ∃ v, wx.heap[w.heap.size + 1]? = some (.cells #[.int .i64 (x0 : Int), v] 27 (0, 0)) ∧ wx.ownsRow (w.heap.size + 2) 49 9 v k (pcells ((psOf ws).take k)) ∧
    wx.heap[w.heap.size]? = some (.cells #[.int .i64 0, .slice none 0 0] 27 (0, 0)) ∧ Below w.heap.size w wx ∧ w.heap.size + 2 ≤ wx.heap.size ∧ ∀ j, j < k → ws.getD (2 + 9 * j) 0 < 256

set_option maxRecDepth 100000 in
set_option maxHeartbeats 4000000 in
theorem refparse_x (l : Int) (N cap : Nat) (A : Option Addr) (ws : List Nat) (w : World) (hw : ReadsW w A N ws) (hcap : N ≤ cap) :
    Calls Try.prog 28 #[.slice A N cap, .int .i64 l] w (ParseR ws l w) := by
  have hN := hw.2.1
  have HW := Lib.hid hw
  have hlen := hw.1
  clear hw
  have HLen := Lib.hid hlen
  clear hlen
  cases hl : isLinesB l
  · have HE := Lib.hid (show parseE ws l = 18 by unfold parseE; rw [if_pos hl])
    have hend : ∀ (W : World) (tmps : Array Value), W.heap[w.heap.size]? = some (.cells #[.int .i64 0, .slice none 0 0] 27 (0, 0)) → Below w.heap.size w W → tmps.getD 4 undef = .pointer (some ⟨w.heap.size, 0, none⟩) → tmps.getD 5 undef = .int .i64 18 → bodyPost Try.prog Try.f28 (ParseR ws l w) .ret { tmps := tmps, defers := [] } W := by
      intro W tmps hW hb h4 h5
      exact bodyPost_ret (v := .tuple #[.agg #[.int .i64 0, .slice none 0 0], .int .i64 18]) (res_two rfl _ _ _ _ _ h4 h5 (lv27 _ _ _ _ hW)) rfl (parseR_err HE.out (by decide) hb)
    have HEnd := Lib.hid hend
    clear hend
    have hb' : ¬ (98 ≤ l ∧ l ≤ 256) := by unfold isLinesB at hl; simpa using hl
    clear hl
    by_cases h98 : l < 98
    · have d1 : decide (l < 98) = true := decide_eq_true h98
      clear hb'
      go_enter Try.func28, Try.ntmps28
      go_wp2
      exact HEnd.out _ _ (heap_alloc_new w _) ((Below.refl _ w).alloc (Nat.le_refl _) _) (by rfl) (by rfl)
    · have d1 : decide (l < 98) = false := decide_eq_false h98
      have d2 : decide ((256 : Int) < l) = true := decide_eq_true (by omega)
      clear hb'
      go_enter Try.func28, Try.ntmps28
      go_wp2
      exact HEnd.out _ _ (heap_alloc_new w _) ((Below.refl _ w).alloc (Nat.le_refl _) _) (by rfl) (by rfl)
  · have HE : Hid (parseOk ws l = false → parseE ws l = 14) := fun h => by unfold parseE; rw [if_neg (by rw [hl]; decide), if_neg (by rw [h]; decide)]
    have HE0 : Hid (parseOk ws l = true → parseE ws l = 0) := fun h => by unfold parseE; rw [if_neg (by rw [hl]; decide), if_pos h]
    have hll : 98 ≤ l ∧ l ≤ 256 := by unfold isLinesB at hl; simpa using hl
    obtain ⟨hl1, hl2⟩ := hll
    clear hl
    have d1 : decide (l < 98) = false := decide_eq_false (by omega)
    have d2 : decide ((256 : Int) < l) = false := decide_eq_false (by omega)
    have hend : ∀ (W : World) (tmps : Array Value), parseOk ws l = false → W.heap[w.heap.size]? = some (.cells #[.int .i64 0, .slice none 0 0] 27 (0, 0)) → Below w.heap.size w W → tmps.getD 4 undef = .pointer (some ⟨w.heap.size, 0, none⟩) → tmps.getD 5 undef = .int .i64 14 → bodyPost Try.prog Try.f28 (ParseR ws l w) .ret { tmps := tmps, defers := [] } W := by
      intro W tmps hno hW hb h4 h5
      exact bodyPost_ret (v := .tuple #[.agg #[.int .i64 0, .slice none 0 0], .int .i64 14]) (res_two rfl _ _ _ _ _ h4 h5 (lv27 _ _ _ _ hW)) rfl (parseR_err (HE.out hno) (by decide) hb)
    have HEnd := Lib.hid hend
    clear hend
    have hpok : Hid (parseOk ws l = (shapeOk ws && recOk ws l)) := (rfl : parseOk ws l = (shapeOk ws && recOk ws l))
    by_cases h2 : 3 ≤ N
    · have c2 : decide ((N : Int) < 3) = false := decide_eq_false (by omega)
      obtain ⟨ad, rfl, hbl, hc0, hv0⟩ := HW.out.2.2 0 (by omega)
      obtain ⟨_, e1, _, hc1, hv1⟩ := HW.out.2.2 1 (by omega)
      cases e1
      have HSh : Hid (shapeOk ws = (decide (ws.getD 0 0 < 1073741824) && (decide (ws.getD 1 0 ≤ 12) && decide (3 + 9 * ws.getD 1 0 ≤ N)))) := by
        show _ = _
        unfold shapeOk; rw [decide_eq_true (by have := HLen.out; omega), Bool.true_and, HLen.out]
      rw [Addr.add_zero'] at hc0
      rw [show ad.add 1 = ⟨ad.block, ad.off + 1, none⟩ by simp [Addr.add]] at hc1
      have c0 : (w.alloc (.cells #[.int .i64 0, .slice none 0 0] 27)).cell? ad = some (.int .u64 ((ws.getD 0 0 : Nat) : Int)) := (((Below.refl _ w).alloc (Nat.le_refl _) _).cell hbl).trans hc0
      have c1 : (w.alloc (.cells #[.int .i64 0, .slice none 0 0] 27)).cell? ⟨ad.block, ad.off + 1, none⟩ = some (.int .u64 ((ws.getD 1 0 : Nat) : Int)) := (((Below.refl _ w).alloc (Nat.le_refl _) _).cell (p := ⟨ad.block, ad.off + 1, none⟩) hbl).trans hc1
      clear hc0 hc1
      have hmz : ws.getD 1 0 = 0 → recOk ws l = false := by
        intro h0
        unfold recOk psOf
        rw [h0]
        have : validN (ws.getD 0 0 : Nat) (List.map (pgAt ws) (List.range 0)) l = 1 := validN_1 _ _ _ (by unfold isLinesB; exact decide_eq_true ⟨hl1, hl2⟩) (by simp)
        rw [this]; rfl
      generalize hx0 : ws.getD 0 0 = x0 at *
      generalize hx1 : ws.getD 1 0 = m at *
      have HX0 := Lib.hid hx0
      have HX1 := Lib.hid hx1
      have HMZ := Lib.hid hmz
      clear hx0 hx1 hmz
      by_cases h3' : x0 < 1073741824
      · have d3 : decide ((1073741824 : Int) ≤ (x0 : Int)) = false := decide_eq_false (by omega)
        by_cases hm0 : 1 ≤ m
        · have d0 : decide ((m : Int) < 1) = false := decide_eq_false (by omega)
          by_cases h4 : m ≤ 12
          · have d4 : decide ((12 : Int) < (m : Int)) = false := decide_eq_false (by omega)
            by_cases h5 : 3 + 9 * m ≤ N
            · have h5' : (3 : Int) + 9 * (m : Int) ≤ (N : Int) := by omega
              have d5 : decide ((N : Int) < 3 + 9 * (m : Int)) = false := decide_eq_false (by omega)
              go_enter Try.func28, Try.ntmps28
              go_wp2
              have hRs : (((w.alloc (.cells #[.int .i64 0, .slice none 0 0] 27)).alloc (.cells #[.int .i64 (x0 : Int), .slice none 0 0] 27))).heap[w.heap.size + 1]? = some (.cells #[.int .i64 (x0 : Int), .slice none 0 0] 27 (0, 0)) := by
                have h := heap_alloc_new (w.alloc (.cells #[.int .i64 0, .slice none 0 0] 27)) (.cells #[.int .i64 (x0 : Int), .slice none 0 0] 27)
                rw [World.size_alloc] at h
                exact h
              have hstart : RefI ws w x0 0 ((w.alloc (.cells #[.int .i64 0, .slice none 0 0] 27)).alloc (.cells #[.int .i64 (x0 : Int), .slice none 0 0] 27)) :=
                ⟨_, hRs, World.ownsRow_nil _ _ _ _, (Below.heap_alloc _ _ _ (by simp)).trans (heap_alloc_new w _), ((Below.refl _ w).alloc (Nat.le_refl _) _).alloc (by simp) _, by simp, fun j hj => by omega⟩
              clear hRs c0 c1
              generalize (w.alloc (.cells #[.int .i64 0, .slice none 0 0] 27)).alloc (.cells #[.int .i64 (x0 : Int), .slice none 0 0] 27) = w2 at *
              go_loopg [7, 8, 9, 10] m (fun g s7 _ _ _ wx => ∃ k : Nat, k + g = m ∧ s7 = .int .i64 k ∧ RefI ws w x0 k wx)
              case atStart => exact ⟨0, by omega, rfl, hstart⟩
              case round =>
                clear hstart
                obtain ⟨k, hk, rfl, v, hR, hown, hZ, hbel, hszr, hlow⟩ := hrel
                have hrw := HW.out.more hbel
                have q1 : wr.cell? ⟨ad.block, ad.off + 1, none⟩ = some (.int .u64 (m : Int)) := by
                  obtain ⟨_, e, _, h, _⟩ := hrw.2.2 1 (by omega)
                  cases e
                  rw [HX1.out] at h
                  rw [show (⟨ad.block, ad.off + 1, none⟩ : Addr) = ad.add 1 by simp [Addr.add]]
                  exact h
                have HRW := Lib.hid hrw
                have HOwn := Lib.hid hown
                have HZ := Lib.hid hZ
                have HR := Lib.hid hR
                have HLow := Lib.hid hlow
                clear hrw hown hZ hR hlow
                have s27 : (Try.prog.info? 27).map (·.size) = some (#[.int .i64 0, .slice none 0 0] : Array Value).size := by rw [size27]; rfl
                cases gk with
                | zero =>
                  have hge : ¬ ((k : Int) < (m : Int)) := by omega
                  have hps : (psOf ws).take k = psOf ws := List.take_of_length_le (by unfold psOf; rw [HX1.out]; simp; omega)
                  have h2' := HOwn.out
                  rw [hps] at h2'
                  obtain rfl : k = m := by omega
                  have hwo := reads_wordsOk HW.out
                  obtain ⟨A2, c2', rfl, hrp⟩ := own_readsP h2' (fun p hp => by
                    unfold psOf at hp
                    obtain ⟨i, _, rfl⟩ := List.mem_map.1 hp
                    exact pgAt_ok ws hwo i) (by omega)
                  have hRlt := (Array.getElem?_eq_some_iff.1 HR.out).1
                  have HRP := Lib.hid hrp
                  have g0 : wr.cell? ⟨w.heap.size + 1, 0, none⟩ = some (.int .i64 (x0 : Int)) := by simp [World.cell?, HR.out]
                  have g1 : wr.cell? ⟨w.heap.size + 1, 1, none⟩ = some (.slice A2 k c2') := by simp [World.cell?, HR.out]
                  have hvl := fun W' (hb : Below wr.heap.size wr W') => validrecord_x (x0 : Int) l k c2' A2 (psOf ws) W' (HRP.out.more hb)
                  have hbd := fun W' (hb : Below wr.heap.size wr W') => refbody_r (x0 : Int) k c2' A2 (psOf ws) W' (HRP.out.more hb)
                  have HRec : Hid (recOk ws l = ((validN (x0 : Int) (psOf ws) l == 0) && (bodyN (x0 : Int) (psOf ws) == ws.take (3 + 9 * k)))) := by
                    show _ = _
                    unfold recOk
                    rw [HX0.out, HX1.out]
                  have HShT := Lib.hid (show shapeOk ws = true by rw [HSh.out, decide_eq_true h3', decide_eq_true h4, decide_eq_true h5]; rfl)
                  have h61 : (0 : Int) ≤ 3 + 9 * (k : Int) := by omega
                  have h62 : (3 : Int) + 9 * (k : Int) ≤ (cap : Int) := by omega
                  have g01 : wr.drew.cell? ⟨w.heap.size + 1, 0, none⟩ = some (.int .i64 (x0 : Int)) ∧ wr.drew.cell? ⟨w.heap.size + 1, 1, none⟩ = some (.slice A2 k c2') ∧ Below wr.heap.size wr wr.drew := ⟨g0, g1, (Below.refl _ wr).drew⟩
                  have HG01 := Lib.hid g01
                  have HBD := Lib.hid hbd
                  clear hps h2' hrp g0 g1 hbd g01 hk
                  cases hvv : (validN (x0 : Int) (psOf ws) l == 0)
                  · have HN := Lib.hid (show parseOk ws l = false by rw [hpok.out, HRec.out, hvv, Bool.false_and, Bool.and_false])
                    have hne := validN_not _ _ _ hvv
                    clear hvv
                    generalize validN (x0 : Int) (psOf ws) l = vr at hvl hne
                    have HHV := Lib.hid hvl
                    clear hvl
                    rcases hne with rfl | rfl | rfl
                    all_goals
                      go_wp2_with fail
                      obtain ⟨C, hC⟩ : ∃ C : World → Prop, C = fun w' => Below wr.heap.size wr w' := ⟨_, rfl⟩
                      have hex : ∃ x, C x := ⟨wr, by rw [hC]; exact Below.refl _ _⟩
                      have hCs : C { wr with drawn := wr.drawn + 1 } := by rw [hC]; exact (Below.refl _ _).drew
                      have HC := Lib.hid hC
                      clear hC
                      have hL : ∀ w', C w' → ∀ (j : Nat) (v : Value), #[.int .i64 (x0 : Int), .slice A2 k c2'][j]? = some v → w'.cell? ((⟨w.heap.size + 1, 0, none⟩ : Addr).add j) = some v := by
                        intro w' hc
                        rw [HC.out] at hc
                        exact cells_in ((hc.block _ hRlt).trans HR.out)
                      have HL := Lib.hid hL
                      clear hL
                      refine wp_region_quiet (C := C) (by kernel_rfl) (by kernel_rfl) hCs ?_
                      clear hCs
                      simp only
                      repeat (first
                        | go_big_quiet_skip
                        | (go_big_quiet_want; first
                          | (refine quiet_load 27 _ rfl ⟨w.heap.size + 1, 0, none⟩ rfl #[.int .i64 (x0 : Int), .slice A2 k c2'] _ HL.out Try.underlying27 rfl (by rw [size27]; rfl) ?_; simp only [Act.put, List.setIfInBounds_toArray, List.set_cons_succ, List.set_cons_zero]; go_big_quiet_on)
                          | (go_big_quiet_op; first | go_big_quiet_on | go_big_quiet_call (first | (intro _; with_reducible rfl) | (intro hc; go_at_call 24; rw [HC.out] at hc ⊢; exact (HHV.out _ hc).mono fun _ _ ⟨he, h⟩ => ⟨he, hc.trans (h.mono hc.size)⟩)))))
                      refine wpQuiet_nil ?_
                      intro w' hc
                      rw [HC.out] at hc
                      have hf4' := (hc.block w.heap.size (by omega)).trans HZ.out
                      have HF4' := Lib.hid hf4'
                      clear hf4'
                      go_wp2_with (first | (refine wpList_store_row rfl 27 _ _ rfl w.heap.size #[.int .i64 0, .slice none 0 0] rfl rfl 27 _ HF4'.out s27 rfl (ones_rec _ _ _ _) ?_) | fail)
                      exact HEnd.out _ _ HN.out (setRow_heap _ _ _ _ _ _ HF4'.out) (below_setRow (hbel.trans (hc.mono (by omega))) (Nat.le_refl _) _) (by rfl) (by rfl)
                  · have hv0 : validN (x0 : Int) (psOf ws) l = 0 := by simpa using hvv
                    rw [hv0] at hvl
                    have HV0 := Lib.hid hv0
                    have HHV := Lib.hid hvl
                    clear hvv hv0 hvl
                    cases hbq : (bodyN (x0 : Int) (psOf ws) == ws.take (3 + 9 * k))
                    all_goals
                      have HBQ := Lib.hid hbq
                      clear hbq
                      go_wp2_with fail
                      have e9 : IntKind.i64.wrap (9 * (k : Int)) = 9 * (k : Int) := IntWalk.i64_in _ ⟨by omega, by omega⟩
                      have e39 : IntKind.i64.wrap (3 + 9 * (k : Int)) = 3 + 9 * (k : Int) := IntWalk.i64_in _ ⟨by clear e9; omega, by clear e9; omega⟩
                      go_region_held3 (fun w' => w'.cell? ⟨w.heap.size + 1, 0, none⟩ = some (.int .i64 (x0 : Int)) ∧ w'.cell? ⟨w.heap.size + 1, 1, none⟩ = some (.slice A2 k c2') ∧ Below wr.heap.size wr w')
                        (first | (exact HG01.out) | assumption | (exact keepRS hRlt ‹_› hb5) | (exact keepRS hRlt ‹_› hb4) | (exact keepRS hRlt ‹_› hb3) | fail)
                        (first
                          | (go_at_call 24; refine (HHV.out _ (‹_ ∧ _ ∧ Below wr.heap.size wr _›).2.2).mono ?_; rintro e w3 ⟨rfl, hb3⟩)
                          | (go_at_call 26; refine (HBD.out _ (‹_ ∧ _ ∧ Below wr.heap.size wr _›).2.2).mono ?_; rintro e w4 ⟨A3, c3, rfl, hr4, hb4⟩)
                          | (go_at_call 25; refine (samewords_b _ _ _ _ _ _ _ _ _ _ HBQ.out hr4 (reads_take' (HRW.out.more (‹_ ∧ _ ∧ Below wr.heap.size wr _›).2.2) _ (3 + 9 * k) (toN k) h5)).mono ?_; rintro e w5 ⟨rfl, hb5⟩))
                      clear e9 e39
                      have hS := (‹_ ∧ _ ∧ Below wr.heap.size wr w5›).2.2
                      have hf4' := (hS.block w.heap.size (by omega)).trans HZ.out
                      have hr' := (hS.block (w.heap.size + 1) (by omega)).trans HR.out
                      have HF4' := Lib.hid hf4'
                      have HR' := Lib.hid hr'
                      clear hf4' hr'
                    · have HN := Lib.hid (show parseOk ws l = false by rw [hpok.out, HRec.out, HBQ.out, Bool.and_false, Bool.and_false])
                      go_wp2_with (first | (refine wpList_store_row rfl 27 _ _ rfl w.heap.size #[.int .i64 0, .slice none 0 0] rfl rfl 27 _ HF4'.out s27 rfl (ones_rec _ _ _ _) ?_) | fail)
                      exact HEnd.out _ _ HN.out (setRow_heap _ _ _ _ _ _ HF4'.out) (below_setRow (hbel.trans (hS.mono (by omega))) (Nat.le_refl _) _) (by rfl) (by rfl)
                    · have HN := Lib.hid (show parseOk ws l = true by rw [hpok.out, HShT.out, HRec.out, HBQ.out, HV0.out]; rfl)
                      go_wp2_with (first
                        | (refine wpList_load_row rfl 27 _ rfl (w.heap.size + 1) rfl 27 #[.int .i64 (x0 : Int), .slice A2 k c2'] (0, 0) _ HR'.out Try.underlying27 rfl s27 ?_)
                        | (refine wpList_store_row rfl 27 _ _ rfl w.heap.size #[.int .i64 (x0 : Int), .slice A2 k c2'] rfl rfl 27 _ HF4'.out s27 rfl (ones_rec _ _ _ _) ?_) | fail)
                      have hfin := parseR_ok (c := c2') (HE0.out HN.out) (by rw [HRP.out.1]; exact (HRP.out.more hS).row w.heap.size 27 _ _ #[.int .i64 (x0 : Int), .slice A2 k c2'] HF4'.out) (below_setRow (hbel.trans (hS.mono (by omega))) (Nat.le_refl _) #[.int .i64 (x0 : Int), .slice A2 k c2'])
                      rw [HRP.out.1, HX0.out] at hfin
                      exact bodyPost_ret (v := .tuple #[.agg #[.int .i64 (x0 : Int), .slice A2 k c2'], .int .i64 0]) (res_two rfl _ _ w.heap.size _ _ (by rfl) (by rfl) (lv27 _ _ _ _ (setRow_heap _ _ _ _ _ _ HF4'.out))) rfl hfin
                | succ g =>
                  have hlt : (k : Int) < (m : Int) := by omega
                  have hc9 : (2 : Int) + 9 * (k : Int) ≤ (N : Int) := by omega
                  have hc9' : (2 : Int) + 9 * (k : Int) < (cap : Int) := by omega
                  have hcne : ¬ cap = 2 + 9 * k := by omega
                  obtain ⟨n9, hn9⟩ : ∃ n, N - (2 + 9 * k) = n := ⟨_, rfl⟩
                  have hn0 : (0 : Int) < (n9 : Int) := by omega
                  have hn0n : 0 < n9 := by omega
                  have hn1 : (1 : Int) < (n9 : Int) := by omega
                  have hn8 : (9 : Int) ≤ (n9 : Int) := by omega
                  obtain ⟨ad2, had2⟩ : ∃ a2, ad.add (2 + 9 * k) = a2 := ⟨_, rfl⟩
                  have hrd : ∀ j, j < 9 → ad2.block = ad.block ∧ wr.cell? (ad2.add j) = some (.int .u64 ((ws.getD (2 + 9 * k + j) 0 : Nat) : Int)) := by
                    intro j hj
                    obtain ⟨_, e, _, h, _⟩ := HRW.out.2.2 (2 + 9 * k + j) (by omega)
                    cases e
                    rw [← had2]
                    refine ⟨block_add _ _, ?_⟩
                    rw [← h]
                    congr 1
                    unfold Addr.add
                    by_cases hj0 : j = 0 <;> simp [hj0, Nat.add_assoc]
                  have q2 := (hrd 0 (by omega)).2
                  have q3 := (hrd 1 (by omega)).2
                  have hb2 := (hrd 0 (by omega)).1
                  have HRD := Lib.hid hrd
                  have HB2 := Lib.hid hb2
                  clear hrd hb2
                  rw [Nat.add_zero, Addr.add_zero'] at q2
                  rw [show ad2.add 1 = ⟨ad2.block, ad2.off + 1, none⟩ by simp [Addr.add]] at q3
                  generalize hy0 : ws.getD (2 + 9 * k) 0 = y0 at *
                  have HY0 := Lib.hid hy0
                  generalize hy1 : ws.getD (2 + 9 * k + 1) 0 = y1 at *
                  have HY1 := Lib.hid hy1
                  clear hy0 hy1
                  by_cases hy : y0 < 256
                  · have dy : decide ((256 : Int) ≤ (y0 : Int)) = false := decide_eq_false (by omega)
                    have n2 := World.new_ne wr _ q2
                    have n3 := World.new_ne wr _ q3
                    go_wp2_with fail
                    go_region_held3 (fun w' => w'.cell? ad2 = some (.int .u64 (y0 : Int)) ∧ w'.cell? ⟨ad2.block, ad2.off + 1, none⟩ = some (.int .u64 (y1 : Int)))
                      (go_keep)
                      ((fail))
                    have hwr : IntKind.i64.wrap (y0 : Int) = (y0 : Int) := IntWalk.i64_in _ ⟨by omega, by omega⟩
                    rw [hwr]
                    clear hwr
                    obtain ⟨p, hpp⟩ : ∃ p, p = pgAt ws k := ⟨_, rfl⟩
                    have hpl : p.line = (y0 : Int) := by rw [hpp, pgAt_line, HY0.out]; omega
                    have hph : p.head = y1 := by rw [hpp, pgAt_head, HY1.out]
                    have hpd : ∀ j, j < 7 → p.d j = ws.getD (2 + 9 * k + (2 + j)) 0 := fun j hj => by rw [hpp]; exact pgAt_d ws k j hj
                    have HPP := Lib.hid hpp
                    have HPd := Lib.hid hpd
                    obtain ⟨B, hB⟩ : ∃ B, wr.heap.size = B := ⟨_, rfl⟩
                    have hg2 : (wr.alloc (.cells #[.int .i64 (y0 : Int), .int .u64 (y1 : Int), .int .u64 0, .int .u64 0, .int .u64 0, .int .u64 0, .int .u64 0, .int .u64 0, .int .u64 0] 49)).drew.heap[B]? = some (.cells (pgJ p 0).cells 49 (0, 0)) := by
                      rw [pgJ_zero, hpl, hph, ← hB]; exact heap_alloc_new wr _
                    have hb3 : Below B wr (wr.alloc (.cells #[.int .i64 (y0 : Int), .int .u64 (y1 : Int), .int .u64 0, .int .u64 0, .int .u64 0, .int .u64 0, .int .u64 0, .int .u64 0, .int .u64 0] 49)).drew := by
                      rw [← hB]; exact ((Below.refl _ wr).alloc (Nat.le_refl _) _).drew
                    have hsz3 : B + 1 ≤ (wr.alloc (.cells #[.int .i64 (y0 : Int), .int .u64 (y1 : Int), .int .u64 0, .int .u64 0, .int .u64 0, .int .u64 0, .int .u64 0, .int .u64 0, .int .u64 0] 49)).drew.heap.size := by simp; omega
                    generalize (wr.alloc (.cells #[.int .i64 (y0 : Int), .int .u64 (y1 : Int), .int .u64 0, .int .u64 0, .int .u64 0, .int .u64 0, .int .u64 0, .int .u64 0, .int .u64 0] 49)).drew = w3 at *
                    have hRD : ∀ j, j < 9 → ∀ W, Below B wr W → W.cell? (ad2.add j) = some (.int .u64 ((ws.getD (2 + 9 * k + j) 0 : Nat) : Int)) := by
                      intro j hj W hbW
                      have h := HRD.out j hj
                      exact (hbW.cell (by rw [block_add, h.1]; omega)).trans h.2
                    have hBR : ∀ W, Below B wr W → W.heap[w.heap.size + 1]? = some (.cells #[.int .i64 (x0 : Int), v] 27 (0, 0)) := fun W hbW => (hbW.block _ (by omega)).trans HR.out
                    have hBZ : ∀ W, Below B wr W → W.heap[w.heap.size]? = some (.cells #[.int .i64 0, .slice none 0 0] 27 (0, 0)) := fun W hbW => (hbW.block _ (by omega)).trans HZ.out
                    have hBO : ∀ W, Below B wr W → W.ownsRow (w.heap.size + 2) 49 9 v k (pcells ((psOf ws).take k)) := fun W hbW => own_below HOwn.out (by rw [hB]; exact hbW)
                    have hBW : ∀ W, Below B wr W → Below w.heap.size w W := fun W hbW => hbel.trans (hbW.mono (by omega))
                    have HRD' := Lib.hid hRD
                    have HBR := Lib.hid hBR
                    have HBZ := Lib.hid hBZ
                    have HBO := Lib.hid hBO
                    have HBW := Lib.hid hBW
                    have hszB : w.heap.size + 2 ≤ B := by omega
                    clear hRD hBR hBZ hBO hBW hpl hph hpd hpp n2 n3 q1 q2 q3 hbel hszr
                    rw [hB]
                    clear hB
                    generalize wr = wo at *
                    go_wp2
                    go_loopg [10] 7 (fun g2 s10 wx => ∃ j : Nat, j + g2 = 7 ∧ s10 = .int .i64 j ∧ wx.heap[B]? = some (.cells (pgJ p j).cells 49 (0, 0)) ∧ Below B wo wx ∧ B + 1 ≤ wx.heap.size)
                    case atStart => exact ⟨0, by omega, rfl, hg2, hb3, hsz3⟩
                    case round =>
                      clear hg2 hb3 hsz3
                      obtain ⟨j, hj, rfl, hgj, hbj, hszj⟩ := hrel
                      have HGJ := Lib.hid hgj
                      clear hgj
                      cases gk with
                      | zero =>
                        have hj7 : j = 7 := by omega
                        have hge : ¬ ((j : Int) < 7) := by omega
                        have hgf : wr.heap[B]? = some (.cells #[.int .i64 p.line, .int .u64 (p.head : Int), .int .u64 (p.d 0 : Int), .int .u64 (p.d 1 : Int), .int .u64 (p.d 2 : Int), .int .u64 (p.d 3 : Int), .int .u64 (p.d 4 : Int), .int .u64 (p.d 5 : Int), .int .u64 (p.d 6 : Int)] 49 (0, 0)) := by
                          have h := HGJ.out
                          rw [hj7, pgJ_seven] at h
                          exact h
                        have hR4 := HBR.out _ hbj
                        have cR : wr.cell? ⟨w.heap.size + 1, 1, none⟩ = some v := by simp [World.cell?, hR4]
                        have hs9 : (Try.prog.info? 49).map (·.size) = some p.cells.size := by rw [size49]; rfl
                        obtain ⟨i9, hi9, hz90, hz91, hz92⟩ := info_parts info49b
                        have HGF := Lib.hid hgf
                        have HR4 := Lib.hid hR4
                        have hvne : v.ownBlock ≠ some (w.heap.size + 1) := by intro e; have := ((HBO.out _ hbj).lt _ e).1; omega
                        have hvnz : v.ownBlock ≠ some w.heap.size := by intro e; have := ((HBO.out _ hbj).lt _ e).1; omega
                        have HS := Lib.hid (show (psOf ws).take (k + 1) = (psOf ws).take k ++ [p] by
                          rw [List.take_add_one, HPP.out]
                          unfold psOf
                          rw [HX1.out, List.getElem?_map, List.getElem?_range (by omega)]
                          rfl)
                        clear hgf hR4 hj7
                        go_wp2_with (first
                          | (refine wpList_load_row rfl 49 _ rfl B rfl 49 #[.int .i64 p.line, .int .u64 (p.head : Int), .int .u64 (p.d 0 : Int), .int .u64 (p.d 1 : Int), .int .u64 (p.d 2 : Int), .int .u64 (p.d 3 : Int), .int .u64 (p.d 4 : Int), .int .u64 (p.d 5 : Int), .int .u64 (p.d 6 : Int)] (0, 0) _ HGF.out Try.underlying49 rfl hs9 ?_)
                          | (at_builtin; refine wpList_append_lies _ rfl _ _ 25 rfl (w.heap.size + 2) 49 i9 _ 9 72 Try.underlying25 hi9 hz90 hz91 hz92 rfl (by decide) v k _ rfl ((HBO.out _ hbj).alloc _) ⟨wr.heap.size, 0, none⟩ 1 1 p.cells.toList rfl rfl (page_cells wr p) (page_one p) (by omega) (by unfold maxLen; omega) (by omega) (by simp; omega) (wr.heap.size + 1) (by simp) ?_)
                          | fail)
                        intro g5 cp5 w5 hown5 hgrow5 _ _
                        have hhR5 : w5.heap[w.heap.size + 1]? = some (.cells #[.int .i64 (x0 : Int), v] 27 (0, 0)) :=
                          (hgrow5.block _ (by simp; omega) (by intro e; exact hvne e.symm)).trans ((Below.heap_alloc _ _ _ (by omega)).trans HR4.out)
                        have hhZ5 : w5.heap[w.heap.size]? = some (.cells #[.int .i64 0, .slice none 0 0] 27 (0, 0)) :=
                          (hgrow5.block _ (by simp; omega) (by intro e; exact hvnz e.symm)).trans ((Below.heap_alloc _ _ _ (by omega)).trans (HBZ.out _ hbj))
                        have hcR5 : w5.cell? ⟨w.heap.size + 1, 1, none⟩ = some v := by simp [World.cell?, hhR5]
                        have hfR5 : w5.frozen? ⟨w.heap.size + 1, 1, none⟩ = false := by simp [World.frozen?, hhR5]
                        have hbW5 : Below w.heap.size w w5 := (((HBW.out _ hbj).alloc (by omega) _).grown hgrow5 (by simp; omega) (fun b e => by have := ((HBO.out _ hbj).lt _ e).1; omega))
                        have hsz5 : w.heap.size + 2 ≤ w5.heap.size := by have := hgrow5.size; simp at this; omega
                        have HO5 := Lib.hid hown5
                        have HH5 := Lib.hid hhR5
                        have HZ5 := Lib.hid hhZ5
                        clear hown5 hhR5 hhZ5 hgrow5
                        go_wp2
                        go_roundg g
                        case measure => omega
                        case rel =>
                          refine ⟨k + 1, by omega, by go_num, _, heap_setCell_same w5 _ 1 _ 27 _ HH5.out, ?_, ?_, ?_, ?_, ?_⟩
                          · rw [HS.out, pcells_snoc]
                            exact ownsRow_setCell_below HO5.out (by simp) _
                          · exact (Below.heap_setCell _ _ _ _ (by simp)).trans HZ5.out
                          · exact hbW5.setCell (p := ⟨w.heap.size + 1, 1, none⟩) (by simp) _
                          · simp; omega
                          · intro i hi
                            by_cases e : i = k
                            · rw [e, HY0.out]; exact hy
                            · exact HLow.out i (by omega)
                      | succ g2 =>
                        have hlt2 : (j : Int) < 7 := by omega
                        have qd := HRD'.out (2 + j) (by omega) _ hbj
                        obtain ⟨vj, hvj⟩ := pgJ_cell p j (by omega)
                        have cj : wr.cell? ⟨B, 2 + j, none⟩ = some vj := by simp [World.cell?, HGJ.out, hvj]
                        have fj : wr.frozen? ⟨B, 2 + j, none⟩ = false := by simp [World.frozen?, HGJ.out]
                        clear hvj
                        rw [show (ws.getD (2 + 9 * k + (2 + j)) 0) = p.d j from (HPd.out j (by omega)).symm] at qd
                        go_wp2_with fail
                        go_roundg g2
                        case measure => omega
                        case rel =>
                          refine ⟨j + 1, by omega, by go_num, ?_, hbj.setCell (p := ⟨B, 2 + j, none⟩) (Nat.le_refl _) _, by simp; omega⟩
                          rw [← pgJ_set p j (by omega)]
                          exact heap_setCell_same wr B (2 + j) _ 49 _ HGJ.out
                  · have dy : decide ((256 : Int) ≤ (y0 : Int)) = true := decide_eq_true (by omega)
                    have HN := Lib.hid (show parseOk ws l = false by rw [hpok.out, rec_low ws l k hl2 (by rw [HX1.out]; omega) (by rw [HY0.out]; exact hy), Bool.and_false])
                    go_wp2_with (first | (refine wpList_store_row rfl 27 _ _ rfl w.heap.size #[.int .i64 0, .slice none 0 0] rfl rfl 27 _ HZ.out s27 rfl (ones_rec _ _ _ _) ?_) | fail)
                    exact HEnd.out _ _ HN.out (setRow_heap _ _ _ _ _ _ HZ.out) (below_setRow hbel (Nat.le_refl _) _) (by rfl) (by rfl)
            · have HN := Lib.hid (show parseOk ws l = false by rw [hpok.out, HSh.out, decide_eq_false h5, Bool.and_false, Bool.and_false, Bool.false_and])
              have h5' : (N : Int) < 3 + 9 * (m : Int) := by omega
              have d5 : decide ((N : Int) < 3 + 9 * (m : Int)) = true := decide_eq_true (by omega)
              go_enter Try.func28, Try.ntmps28
              go_wp2
              exact HEnd.out _ _ HN.out (heap_alloc_new w _) ((Below.refl _ w).alloc (Nat.le_refl _) _) (by rfl) (by rfl)
          · have d4 : decide ((12 : Int) < (m : Int)) = true := decide_eq_true (by omega)
            have HN := Lib.hid (show parseOk ws l = false by rw [hpok.out, HSh.out, decide_eq_false h4, Bool.false_and, Bool.and_false, Bool.false_and])
            go_enter Try.func28, Try.ntmps28
            go_wp2
            exact HEnd.out _ _ HN.out (heap_alloc_new w _) ((Below.refl _ w).alloc (Nat.le_refl _) _) (by rfl) (by rfl)
        · have d0 : decide ((m : Int) < 1) = true := decide_eq_true (by omega)
          have HN := Lib.hid (show parseOk ws l = false by rw [hpok.out, HMZ.out (by omega), Bool.and_false])
          go_enter Try.func28, Try.ntmps28
          go_wp2
          exact HEnd.out _ _ HN.out (heap_alloc_new w _) ((Below.refl _ w).alloc (Nat.le_refl _) _) (by rfl) (by rfl)
      · have d3 : decide ((1073741824 : Int) ≤ (x0 : Int)) = true := decide_eq_true (by omega)
        have HN := Lib.hid (show parseOk ws l = false by rw [hpok.out, HSh.out, decide_eq_false h3', Bool.false_and, Bool.false_and])
        go_enter Try.func28, Try.ntmps28
        go_wp2
        exact HEnd.out _ _ HN.out (heap_alloc_new w _) ((Below.refl _ w).alloc (Nat.le_refl _) _) (by rfl) (by rfl)
    · have c2 : decide ((N : Int) < 3) = true := decide_eq_true (by omega)
      have HN := Lib.hid (show parseOk ws l = false by
        unfold parseOk shapeOk recOk
        rw [HLen.out]
        by_cases hz : ws.getD 1 0 = 0
        · have : validN (ws.getD 0 0 : Nat) (psOf ws) l = 1 := validN_1 _ _ _ (by unfold isLinesB; exact decide_eq_true ⟨hl1, hl2⟩) (by unfold psOf; rw [hz]; simp)
          rw [this]; simp
        · rw [decide_eq_false (show ¬ 3 + 9 * ws.getD 1 0 ≤ N by omega), Bool.and_false, Bool.and_false, Bool.and_false, Bool.false_and])
      go_enter Try.func28, Try.ntmps28
      go_wp2
      exact HEnd.out _ _ HN.out (heap_alloc_new w _) ((Below.refl _ w).alloc (Nat.le_refl _) _) (by rfl) (by rfl)
end Go.Proofs.Ytmeppeadfhifeaa
