/- The words of a record: logrec.Body. Conditions: the writes read as pages. -/
import Derived.Test.YtmeppeadfhifeaaValid3
namespace Go.Proofs.Ytmeppeadfhifeaa
open Go.RowKit
set_option linter.unusedVariables false
set_option linter.unusedSimpArgs false

def pageW (p : Pg) : List Nat := [p.line.toNat, p.head, p.d 0, p.d 1, p.d 2, p.d 3, p.d 4, p.d 5, p.d 6]
def preW (seq : Int) (ps : List Pg) : List Nat := [seq.toNat, ps.length] ++ ps.flatMap pageW
def bodyN (seq : Int) (ps : List Pg) : List Nat := if validN seq ps 256 = 0 then preW seq ps ++ [Crc.words (preW seq ps)] else []
def wcells (ws : List Nat) : List Value := ws.map fun (x : Nat) => Value.int .u64 (x : Int)
def WordsOk (ws : List Nat) : Prop := ∀ x ∈ ws, x < 18446744073709551616

theorem pageW_length (p : Pg) : (pageW p).length = 9 := rfl
theorem flat_length (ps : List Pg) : (ps.flatMap pageW).length = 9 * ps.length := by
  induction ps with
  | nil => rfl
  | cons p ps ih => rw [List.flatMap_cons, List.length_append, ih, pageW_length, List.length_cons]; omega
theorem preW_length (seq : Int) (ps : List Pg) : (preW seq ps).length = 2 + 9 * ps.length := by rw [preW, List.length_append, flat_length]; rfl
theorem wcells_append (a b : List Nat) : wcells (a ++ b) = wcells a ++ wcells b := by simp [wcells]
theorem wcells_length (a : List Nat) : (wcells a).length = a.length := by simp [wcells]

theorem validN_0 (seq : Int) (ps : List Pg) (l : Int) (h : validN seq ps l = 0) : (98 ≤ l ∧ l ≤ 256) ∧ (1 ≤ seq ∧ seq < 1073741824) ∧ (1 ≤ ps.length ∧ ps.length ≤ 12) ∧ (∀ p ∈ ps, 96 ≤ p.line ∧ p.line < l) ∧ upB ps = true ∧ ps.all headOk = true := by
  unfold validN at h
  split at h
  · omega
  · rename_i h1
    split at h
    · omega
    · rename_i h2
      split at h
      · omega
      · rename_i h3
        split at h
        · rename_i h4
          simp only [Bool.not_eq_false, Bool.and_eq_true, decide_eq_true_eq] at h2 h4
          refine ⟨of_decide_eq_true (p := 98 ≤ l ∧ l ≤ 256) (by unfold isLinesB at h1; simpa using h1), h2.1, h2.2, fun p hp => ?_, h4.1, h4.2⟩
          have : badLine l p = false := by
            rw [Bool.eq_false_iff]; intro hb
            exact h3 (List.any_eq_true.2 ⟨p, hp, hb⟩)
          unfold badLine at this
          simp at this
          omega
        · omega

theorem info23 : (Try.prog.info? 23).map (fun i => (i.zero, i.size, i.bytes)) = some (some (.int .u64 0), 1, 8) := by kernel_rfl
theorem own_readsW {w : World} {base n : Nat} {v : Value} {ws : List Nat} (h : w.ownsRow base 23 1 v n (wcells ws)) (hb : WordsOk ws) (hn : (n : Int) ≤ 1000000) :
    ∃ A cap, v = .slice A n cap ∧ ReadsW w A n ws := by
  have hl : ws.length = n := by have := h.1; simpa [wcells] using this
  rcases h.2 with ⟨rfl, rfl⟩ | ⟨g, cap, cur, rfl, hbg, hg, hnc, hcm, hcs, htake⟩
  · obtain rfl : ws = [] := List.eq_nil_of_length_eq_zero hl
    exact ⟨none, 0, rfl, rfl, by omega, fun k hk => by omega⟩
  · refine ⟨some ⟨g, 0, none⟩, cap, rfl, hl, hn, fun k hk => ⟨_, rfl, (Array.getElem?_eq_some_iff.1 hg).1, ?_, ?_⟩⟩
    · have e : (⟨g, 0, none⟩ : Addr).add k = ⟨g, k, none⟩ := by unfold Addr.add; split <;> simp_all
      rw [e, h.cellAt k (by omega), wcells, List.getElem?_map, List.getElem?_eq_getElem (by omega), List.getD_eq_getElem?_getD, List.getElem?_eq_getElem (by omega)]
      rfl
    · rw [List.getD_eq_getElem?_getD, List.getElem?_eq_getElem (by omega)]
      exact hb _ (List.getElem_mem _)

theorem pageW_ok (p : Pg) (h : p.ok) (hl : 96 ≤ p.line ∧ p.line < 256) : WordsOk (pageW p) := by
  have h7 := h.2.2.2
  have := h7 0 (by omega)
  have := h7 1 (by omega)
  have := h7 2 (by omega)
  have := h7 3 (by omega)
  have := h7 4 (by omega)
  have := h7 5 (by omega)
  have := h7 6 (by omega)
  have := h.2.2.1
  intro x hx
  simp only [pageW, List.mem_cons, List.not_mem_nil, or_false] at hx
  omega
theorem preW_ok (seq : Int) (ps : List Pg) (hs : 1 ≤ seq ∧ seq < 1073741824) (hn : ps.length ≤ 12) (hp : ∀ p ∈ ps, p.ok ∧ 96 ≤ p.line ∧ p.line < 256) : WordsOk (preW seq ps) := by
  intro x hx
  simp only [preW, List.cons_append, List.nil_append, List.mem_cons, List.mem_flatMap] at hx
  rcases hx with rfl | rfl | ⟨p, hm, hx⟩
  · omega
  · omega
  · exact pageW_ok p (hp p hm).1 (hp p hm).2 x hx
theorem cells_in {w : World} {g : Nat} {cs : Array Value} {t : TypeId} (h : w.heap[g]? = some (.cells cs t (0, 0))) : ∀ j v, cs[j]? = some v → w.cell? ((⟨g, 0, none⟩ : Addr).add j) = some v := by
  intro j v hj
  rw [show (⟨g, 0, none⟩ : Addr).add j = ⟨g, j, none⟩ by unfold Addr.add; split <;> simp_all]
  simp [World.cell?, h, hj]

theorem own_below {w w' : World} {base n : Nat} {e : TypeId} {size : Nat} {v : Value} {xs : List Value} (h : w.ownsRow base e size v n xs) (hb : Below w.heap.size w w') : w'.ownsRow base e size v n xs := by
  refine ⟨h.1, ?_⟩
  rcases h.2 with hn | ⟨g, cap, cur, hv, hbg, hg, rest⟩
  · exact .inl hn
  · exact .inr ⟨g, cap, cur, hv, hbg, (hb.block g (Array.getElem?_eq_some_iff.1 hg).1).trans hg, rest⟩
theorem cell_one23 (w : World) (u : Value) : ∀ (j : Nat) (x : Value), [u][j]? = some x → (w.alloc (.cells #[u] 23)).cell? ((⟨w.heap.size, 0, none⟩ : Addr).add j) = some x := by
  intro j x hj
  match j, hj with
  | 0, hj => simp at hj; subst hj; simp [Addr.add]
theorem cell_two23 (w : World) (u v : Value) : ∀ (j : Nat) (x : Value), [u, v][j]? = some x → (w.alloc (.cells #[u, v] 23)).cell? ((⟨w.heap.size, 0, none⟩ : Addr).add j) = some x := by
  intro j x hj
  match j, hj with
  | 0, hj => simp at hj; subst hj; simp [Addr.add]
  | 1, hj => simp at hj; subst hj; simp [Addr.add]

def dataC (p : Pg) : List Value := [.int .u64 (p.d 0 : Int), .int .u64 (p.d 1 : Int), .int .u64 (p.d 2 : Int), .int .u64 (p.d 3 : Int), .int .u64 (p.d 4 : Int), .int .u64 (p.d 5 : Int), .int .u64 (p.d 6 : Int)]
theorem data_cells (w : World) (p : Pg) : ∀ j u, (dataC p)[j]? = some u → (w.alloc (.cells p.cells 49)).cell? ((⟨w.heap.size, 2, none⟩ : Addr).add j) = some u := by
  intro j u hj
  unfold dataC at hj
  match j, hj with
  | 0, hj => simp at hj; subst hj; simp [Addr.add, Pg.cells]
  | 1, hj => simp at hj; subst hj; simp [Addr.add, Pg.cells]
  | 2, hj => simp at hj; subst hj; simp [Addr.add, Pg.cells]
  | 3, hj => simp at hj; subst hj; simp [Addr.add, Pg.cells]
  | 4, hj => simp at hj; subst hj; simp [Addr.add, Pg.cells]
  | 5, hj => simp at hj; subst hj; simp [Addr.add, Pg.cells]
  | 6, hj => simp at hj; subst hj; simp [Addr.add, Pg.cells]
  | j + 7, hj => simp at hj
theorem dataC_one (p : Pg) : ∀ u ∈ dataC p, u.oneCell' = true := by
  intro u hu
  simp only [dataC, List.mem_cons, List.not_mem_nil, or_false] at hu
  rcases hu with rfl | rfl | rfl | rfl | rfl | rfl | rfl <;> rfl
theorem pageW_cells (p : Pg) (h : 0 ≤ p.line) : wcells (pageW p) = [.int .u64 p.line, .int .u64 (p.head : Int)] ++ dataC p := by
  simp [wcells, pageW, dataC, Int.toNat_of_nonneg h]

set_option maxHeartbeats 4000000 in
theorem body_x (seq : Int) (n cap : Nat) (A : Option Addr) (ps : List Pg) (w : World) (hp : ReadsP w A n ps) :
    Calls Try.prog 22 #[.agg #[.int .i64 seq, .slice A n cap]] w fun e w' => (∃ v, e = .returned v ∧ w'.ownsRow w.heap.size 23 1 v (bodyN seq ps).length (wcells (bodyN seq ps))) ∧ Below w.heap.size w w' := by
  obtain ⟨i0, hi, hz0, hz1, hz2⟩ := info_parts info23
  have hn := hp.2.1
  have HP := Lib.hid hp
  have hb0 : Below w.heap.size w (w.alloc (.cells #[.int .i64 seq, .slice A n cap] 34)) := (Below.refl _ w).alloc (Nat.le_refl _) _
  have hv := valid_x seq 256 n cap A ps _ (HP.out.more hb0)
  by_cases hval : validN seq ps 256 = 0
  · have hbn : bodyN seq ps = preW seq ps ++ [Crc.words (preW seq ps)] := if_pos hval
    rw [hbn, show (preW seq ps ++ [Crc.words (preW seq ps)]).length = 2 + 9 * n + 1 by rw [List.length_append, preW_length, hp.1]; rfl]
    generalize hpre : preW seq ps = pre
    have HPRE := Lib.hid hpre
    clear hpre
    rw [hval] at hv
    obtain ⟨_, ⟨h1, h2⟩, ⟨h3, h4⟩, h5, _, _⟩ := validN_0 _ _ _ hval
    have HL5 := Lib.hid h5
    have HLen := Lib.hid hp.1
    rw [hp.1] at h3 h4
    clear hp h5 hbn hval
    go_enter Try.func22, Try.ntmps22
    go_wp2_with (first
      | (go_at_call 23; refine hv.mono ?_; rintro e w1 ⟨rfl, hb1⟩
         have g0 : w1.cell? ⟨w.heap.size, 0, none⟩ = some (.int .i64 seq) := (hb1.cell (p := ⟨w.heap.size, 0, none⟩) (by simp)).trans (by simp)
         have g1 : w1.cell? ⟨w.heap.size, 1, none⟩ = some (.slice A n cap) := (hb1.cell (p := ⟨w.heap.size, 1, none⟩) (by simp)).trans (by simp)
         have g2 : (w1.alloc (.cells #[.int .u64 seq, .int .u64 (n : Int)] 23)).cell? ⟨w.heap.size, 1, none⟩ = some (.slice A n cap) := (((Below.refl _ w1).alloc (Nat.le_refl _) _).cell (p := ⟨w.heap.size, 1, none⟩) (by have := hb1.size; simp at this; simp; omega)).trans g1)
      | fail)
    have hbw := hb0.trans (hb1.mono hb0.size)
    have hown0 : (w1.alloc (.cells #[.int .u64 seq, .int .u64 (n : Int)] 23)).ownsRow w.heap.size 23 1 (.slice (some ⟨w1.heap.size, 0, none⟩) 2 2) 2 (wcells [seq.toNat, ps.length]) := by
      have := World.ownsRow_lit (base := w.heap.size) (size := 1) (e := 23) w1 #[.int .u64 seq, .int .u64 (n : Int)] 2 hbw.size (by unfold maxLen; omega) rfl
      rw [show wcells [seq.toNat, ps.length] = [.int .u64 seq, .int .u64 (n : Int)] by simp only [wcells, List.map_cons, List.map_nil]; rw [HLen.out, Int.toNat_of_nonneg (by omega)]]
      exact this
    have hbel0 : Below w.heap.size w (w1.alloc (.cells #[.int .u64 seq, .int .u64 (n : Int)] 23)) := hbw.alloc hbw.size _
    clear g0 g1 g2 hbw hb1 hv
    generalize w1.alloc (.cells #[.int .u64 seq, .int .u64 (n : Int)] 23) = w2 at *
    go_loopg [3, 5, 20] n (fun g s3 _ s20 wx => ∃ k : Nat, k + g = n ∧ s20 = .int .i64 k ∧ wx.ownsRow w.heap.size 23 1 s3 (2 + 9 * k) (wcells ([seq.toNat, ps.length] ++ (ps.take k).flatMap pageW)) ∧ Below w.heap.size w wx)
    case atStart => exact ⟨0, by omega, rfl, by simpa using hown0, hbel0⟩
    case round =>
      obtain ⟨k, hk, rfl, hown, hbel⟩ := hrel
      clear hown0 hbel0
      cases gk with
      | zero =>
        have hge : ¬ ((k : Int) < (n : Int)) := by omega
        have e : ps.take k = ps := List.take_of_length_le (by have := HLen.out; omega)
        rw [e] at hown
        have hlen9 := preW_length seq ps
        rw [HLen.out] at hlen9
        have hpo := preW_ok seq ps ⟨h1, h2⟩ (by have := HLen.out; omega) (fun p hm => ⟨HP.out.2.2.1 p hm, HL5.out p hm⟩)
        rw [show [seq.toNat, ps.length] ++ ps.flatMap pageW = preW seq ps from rfl, HPRE.out] at hown
        rw [HPRE.out] at hpo hlen9
        obtain ⟨A1, c1, rfl, hr⟩ := own_readsW hown hpo (by omega)
        have HR := Lib.hid hr
        have HO := Lib.hid hown
        have HKN := Lib.hid (show k = n by omega)
        clear hr hown e hlen9
        go_wp2_with (first
          | (go_at_call 38; refine (words_x _ _ _ _ _ HR.out).mono ?_; rintro e w3 ⟨rfl, hb3⟩)
          | (at_builtin; refine wpList_append_own _ rfl _ _ 24 rfl w.heap.size 23 i0 (.int .u64 0) 1 8 Try.underlying24 hi hz0 hz1 hz2 rfl (by decide) _ _ _ rfl ((own_below HO.out hb3).alloc _) ⟨w3.heap.size, 0, none⟩ 1 1 [.int .u64 ((Crc.words pre : Nat) : Int)] rfl rfl ?c1 ?c2 ?c3 ?c4 ?c5 ?_)
          | fail)
        case c1 => exact cell_one23 _ _
        case c2 => intro u hu; simp at hu; subst hu; rfl
        case c3 => unfold maxLen; omega
        case c4 => omega
        case c5 => have := hbel.size; have := hb3.size; simp; omega
        intro v' w4 hown4 hgrow4 _
        have hbel3 := hbel.trans (hb3.mono hbel.size)
        have hbel4 := (hbel3.alloc hbel3.size _).grown hgrow4 (by have := hbel3.size; simp; omega) (fun k e => ((own_below HO.out hb3).lt k e).1)
        clear hgrow4
        go_wp2
        go_ret
        refine ⟨⟨v', rfl, ?_⟩, hbel4⟩
        rw [wcells_append, ← HKN.out]
        exact hown4
      | succ g =>
        have hlt : (k : Int) < (n : Int) := by omega
        obtain ⟨p, hp⟩ := get_of_lt ps k (by have := HLen.out; omega)
        obtain ⟨b, o, rfl, hbl, hc⟩ := (HP.out.more hbel).2.2.2 k (by omega)
        have hpok := HP.out.2.2.1 p (List.mem_of_getElem? hp)
        have hpl := HL5.out p (List.mem_of_getElem? hp)
        have l1 : ∀ (j : Nat) (v : Value), p.cells[j]? = some v → wr.cell? ((⟨b, o + k * 9, none⟩ : Addr).add j) = some v := by
          intro j v hv
          rw [Addr.add_mid]; exact hc p hp j v hv
        have L1 := Lib.hid l1
        have q0 : (wr.alloc (.cells p.cells 49)).cell? ⟨wr.heap.size, 0, none⟩ = some (.int .i64 p.line) := by simp [Pg.cells]
        have q1 : (wr.alloc (.cells p.cells 49)).cell? ⟨wr.heap.size, 1, none⟩ = some (.int .u64 (p.head : Int)) := by simp [Pg.cells]
        have HS := Lib.hid (show ps.take (k + 1) = ps.take k ++ [p] by
          rw [List.take_add_one, hp]; rfl)
        have HO := Lib.hid hown
        obtain ⟨hpl1, hpl2⟩ := hpl
        have e27 : IntKind.u64.wrap p.line = p.line := IntWalk.u64_in _ ⟨by omega, by omega⟩
        clear l1 hc hp hpok hown
        go_wp2_with (first
          | (refine wpList_load_addr rfl 49 _ rfl ⟨b, o + k * 9, none⟩ rfl p.cells _ L1.out Try.underlying49 rfl (by rw [size49]; rfl) ?_)
          | (refine wpList_store_new2 rfl 49 _ _ rfl wr _ rfl _ p.cells rfl rfl rfl (by rw [size49]; rfl) rfl (cells_one p) ?_)
          | (at_builtin; refine wpList_append_own _ rfl _ _ 24 rfl w.heap.size 23 i0 (.int .u64 0) 1 8 Try.underlying24 hi hz0 hz1 hz2 rfl (by decide) _ _ _ rfl ((HO.out.alloc _).alloc _) ⟨wr.heap.size + 1, 0, none⟩ 2 2 [.int .u64 p.line, .int .u64 (p.head : Int)] rfl rfl ?c1 ?c2 ?c3 ?c4 ?c5 ?_)
          | fail)
        case c1 =>
          have := cell_two23 (wr.alloc (.cells p.cells 49)) (.int .u64 p.line) (.int .u64 (p.head : Int))
          simpa using this
        case c2 => intro u hu; simp at hu; rcases hu with rfl | rfl <;> rfl
        case c3 => unfold maxLen; omega
        case c4 => omega
        case c5 => have := hbel.size; simp; omega
        intro v' w4 hown4 hgrow4 _
        have hw3 : Below wr.heap.size wr ((wr.alloc (.cells p.cells 49)).alloc (.cells #[.int .u64 p.line, .int .u64 (p.head : Int)] 23)) := ((Below.refl _ wr).alloc (Nat.le_refl _) _).alloc (by simp) _
        have hbel3 := hbel.trans (hw3.mono hbel.size)
        have hbel4 := hbel3.grown hgrow4 hbel3.size (fun k e => (HO.out.lt k e).1)
        clear hw3
        have hcd : ∀ j u, (dataC p)[j]? = some u → w4.cell? ((⟨wr.heap.size, 2, none⟩ : Addr).add j) = some u := by
          intro j u hj
          refine hgrow4.cell ?_ ?_
          · exact (((Below.refl _ (wr.alloc (.cells p.cells 49))).alloc (Nat.le_refl _) _).cell (by rw [block_add]; simp)).trans (data_cells wr p j u hj)
          · rw [block_add]
            intro e
            have := (HO.out.lt _ e.symm).2
            simp at this
        have HCD := Lib.hid hcd
        have HO4 := Lib.hid hown4
        clear hgrow4 hcd hown4
        go_wp2_with (first
          | (at_builtin; refine wpList_append_own _ rfl _ _ 24 rfl w.heap.size 23 i0 (.int .u64 0) 1 8 Try.underlying24 hi hz0 hz1 hz2 rfl (by decide) _ _ _ rfl HO4.out ⟨wr.heap.size, 2, none⟩ 7 7 (dataC p) rfl rfl HCD.out (dataC_one p) ?c3 ?c4 ?c5 ?_)
          | fail)
        case c3 => unfold maxLen; omega
        case c4 => omega
        case c5 => have := hbel4.size; omega
        intro v5 w5 hown5 hgrow5 _
        have hbel5 := hbel4.grown hgrow5 hbel4.size (fun k e => (HO4.out.lt k e).1)
        have hown6 : w5.ownsRow w.heap.size 23 1 v5 (2 + 9 * (k + 1)) (wcells ([seq.toNat, ps.length] ++ (ps.take (k + 1)).flatMap pageW)) := by
          rw [show 2 + 9 * (k + 1) = 2 + 9 * k + 2 + 7 by omega, HS.out, List.flatMap_append, ← List.append_assoc, wcells_append, List.flatMap_cons, List.flatMap_nil, List.append_nil, pageW_cells p (by omega)]
          simpa using hown5
        have HO6 := Lib.hid hown6
        clear hown5 hgrow5 hown6 HO4 HCD
        go_wp2
        go_roundg g
        case measure => omega
        case rel => exact ⟨k + 1, by omega, by go_num, HO6.out, hbel5⟩
  · have hbn : bodyN seq ps = [] := if_neg hval
    rw [hbn]
    have hbne : (validN seq ps 256 != 0) = true := by rw [bne_iff_ne]; exact hval
    clear hp hbn hval
    generalize validN seq ps 256 = r at hv hbne
    go_enter Try.func22, Try.ntmps22
    go_wp2_with (first | (go_at_call 23; refine hv.mono ?_; rintro e w1 ⟨rfl, hb1⟩) | fail)
    go_ret
    exact ⟨⟨_, rfl, World.ownsRow_nil _ _ _ _⟩, hb0.trans (hb1.mono hb0.size)⟩
end Go.Proofs.Ytmeppeadfhifeaa
