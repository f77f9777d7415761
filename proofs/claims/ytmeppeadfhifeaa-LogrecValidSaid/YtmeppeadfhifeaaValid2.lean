/- logrec.Valid: its two loops. Conditions: the writes read as pages. -/
import Derived.Test.YtmeppeadfhifeaaValid
namespace Go.Proofs.Ytmeppeadfhifeaa
open Go.RowKit
set_option linter.unusedVariables false
set_option linter.unusedSimpArgs false

theorem cells_one (p : Pg) : p.cells.all (·.oneCell') = true := by simp [Pg.cells, Value.oneCell']

theorem wpList_store_new2 {P : Program} {ops : Array Oper} {rest : List Oper} {o : Oper} {a : Act} {w1 : World} {Q : Exit → Act → World → Prop} (hgd : o.guard = none) (t : TypeId) (x y : Operand) (ho : o.op = .store t x y)
    (w : World) (g : Nat) (hgw : g = w.heap.size) (c c' : Array Value) (hx : a.eval x = .pointer (some ⟨g, 0, none⟩)) (hy : a.eval y = .agg c') (hw1 : w1 = w.alloc (.cells c t))
    (hi : (P.info? t).map (·.size) = some c'.size) (hs : c.size = c'.size) (h1 : c'.all (·.oneCell') = true)
    (h : wpList P ops Q rest (a.put o.dst undef) (w.alloc (.cells c' t))) : wpList P ops Q (o :: rest) a w1 := by
  subst hw1
  exact wpList_store_new hgd t x y ho w g hgw c c' hx hy hi hs h1 h

theorem validN_18 (seq : Int) (ps : List Pg) (l : Int) (h : isLinesB l = false) : validN seq ps l = 18 := by unfold validN; rw [if_pos h]
theorem validN_1 (seq : Int) (ps : List Pg) (l : Int) (h : isLinesB l = true) (h1 : ¬ (1 ≤ seq ∧ seq < 1073741824 ∧ 1 ≤ ps.length ∧ ps.length ≤ 12)) : validN seq ps l = 1 := by
  unfold validN
  rw [if_neg (by simp [h]), if_pos (by rw [Bool.eq_false_iff]; intro hh; simp only [Bool.and_eq_true, decide_eq_true_eq] at hh; exact h1 ⟨hh.1.1, hh.1.2, hh.2.1, hh.2.2⟩)]
theorem validN_in (seq : Int) (ps : List Pg) (l : Int) (h : isLinesB l = true) (h1 : 1 ≤ seq ∧ seq < 1073741824 ∧ 1 ≤ ps.length ∧ ps.length ≤ 12) :
    validN seq ps l = if ps.any (badLine l) = true then 2 else if (upB ps && ps.all headOk) = true then 0 else 1 := by
  unfold validN
  rw [if_neg (by simp [h]), if_neg (by rw [decide_eq_true ⟨h1.1, h1.2.1⟩, decide_eq_true h1.2.2]; decide)]

set_option maxHeartbeats 4000000 in
theorem valid_x (seq l : Int) (n cap : Nat) (A : Option Addr) (ps : List Pg) (w : World) (hp : ReadsP w A n ps) :
    Calls Try.prog 23 #[.agg #[.int .i64 seq, .slice A n cap], .int .i64 l] w fun e w' => e = .returned (.int .i64 (validN seq ps l)) ∧ Below w.heap.size w w' := by
  have hn := hp.2.1
  have HP := Lib.hid hp
  have hlen := hp.1
  clear hp
  obtain ⟨W0, hW0⟩ : ∃ W0, W0 = (w.alloc (.cells #[.int .i64 seq, .slice A n cap] 34)).alloc (.cells #[.int .i64 l] 3) := ⟨_, rfl⟩
  have hb0 : Below w.heap.size w W0 := by rw [hW0]; exact ((Below.refl _ w).alloc (Nat.le_refl _) _).alloc (by simp) _
  have hsz : W0.heap.size = w.heap.size + 2 := by rw [hW0]; simp
  have f0 : W0.cell? ⟨w.heap.size, 0, none⟩ = some (.int .i64 seq) := by rw [hW0]; simp
  have f1 : W0.cell? ⟨w.heap.size, 1, none⟩ = some (.slice A n cap) := by rw [hW0]; simp
  have f2 : W0.cell? ⟨w.heap.size + 1, 0, none⟩ = some (.int .i64 l) := by rw [hW0]; simp
  have HW := Lib.hid hW0
  clear hW0
  cases hl : isLinesB l
  · rw [validN_18 _ _ _ hl]
    have hx : ∀ W, Calls Try.prog 39 #[.int .i64 l] W fun e w' => e = .returned (.bool false) ∧ W = w' := fun W => by have := islines_x l W; rwa [hl] at this
    go_enter Try.func23, Try.ntmps23
    go_wp2_with fail
    rw [← HW.out]
    refine (hx _).mono ?_
    rintro e w1 ⟨rfl, rfl⟩
    go_wp2
    go_ret
    exact ⟨rfl, hb0⟩
  have hx : ∀ W, Calls Try.prog 39 #[.int .i64 l] W fun e w' => e = .returned (.bool true) ∧ W = w' := fun W => by have := islines_x l W; rwa [hl] at this
  have HL := Lib.hid hl
  clear hl
  by_cases h1 : 1 ≤ seq ∧ seq < 1073741824 ∧ 1 ≤ ps.length ∧ ps.length ≤ 12
  · rw [validN_in _ _ _ HL.out h1]
    rw [hlen] at h1
    obtain ⟨h1, h2, h3, h4⟩ := h1
    have h5 : (1 : Int) ≤ n := by omega
    have h6 : (n : Int) ≤ 12 := by omega
    have hcf : ∀ W, Below w.heap.size W0 W → True := fun _ _ => trivial
    clear hcf
    have hc := containsfunc_x n cap A ps l (w.heap.size + 1) W0 (HP.out.more hb0) (by omega) f2
    have HLen := Lib.hid hlen
    clear hlen
    cases hbad : ps.any (badLine l)
    · rw [hbad] at hc
      simp only [Bool.false_eq_true, if_false]
      generalize hr : (if (upB ps && ps.all headOk) = true then (0 : Int) else 1) = r
      have HR := Lib.hid hr
      clear hr
      go_enter Try.func23, Try.ntmps23
      go_wp2_with fail
      rw [← HW.out]
      refine (hx _).mono ?_
      rintro e w1 ⟨rfl, rfl⟩
      go_wp2_with fail
      refine hc.mono ?_
      rintro e w1 ⟨rfl, hb1⟩
      have g1 : w1.cell? ⟨w.heap.size, 1, none⟩ = some (.slice A n cap) := (hb1.cell (p := ⟨w.heap.size, 1, none⟩) (by simp; omega)).trans f1
      have hbw := hb0.trans (hb1.mono hb0.size)
      have hsz1 : w.heap.size + 2 ≤ w1.heap.size := by have := hb1.size; omega
      clear hc hx f0 f2
      go_wp2
      have HP1 := Lib.hid (HP.out.more hbw)
      have HB := Lib.hid hbad
      clear hbad
      go_loopg [5, 6, 44] n (fun g _ _ s44 wx => ∃ k : Nat, k + g = n ∧ s44 = .int .i64 k ∧ (∀ j p q, j + 1 < k → ps[j]? = some p → ps[j + 1]? = some q → p.line < q.line) ∧ Below w1.heap.size w1 wx)
      case atStart => exact ⟨0, by omega, rfl, fun j p q hj => by omega, Below.refl _ _⟩
      case round =>
        obtain ⟨k, hk, rfl, hall, hbel⟩ := hrel
        have HA := Lib.hid hall
        clear hall
        cases gk with
        | zero =>
          have hge : ¬ ((k : Int) < (n : Int)) := by omega
          have HUP := Lib.hid ((upB_at ps).2 (fun j p q hp hq => HA.out j p q (by have := (List.getElem?_eq_some_iff.1 hq).1; have := HLen.out; omega) hp hq))
          have g2 : wr.cell? ⟨w.heap.size, 1, none⟩ = some (.slice A n cap) := (hbel.cell (p := ⟨w.heap.size, 1, none⟩) (by simp; omega)).trans g1
          go_wp2
          have HP2 := Lib.hid (HP1.out.more hbel)
          have hbw2 := hbw.trans (hbel.mono hbw.size)
          clear hge hn h5 h6
          go_loopg [8, 9, 10, 67] n (fun g _ _ _ s67 wx => ∃ k : Nat, k + g = n ∧ s67 = .int .i64 k ∧ (∀ j p, j < k → ps[j]? = some p → headOk p = true) ∧ Below wr.heap.size wr wx)
          case atStart => exact ⟨0, by omega, rfl, fun j p hj => by omega, Below.refl _ _⟩
          case round =>
            obtain ⟨k, hk, rfl, hall, hbel2⟩ := hrel
            have HA2 := Lib.hid hall
            clear hall
            cases gk with
            | zero =>
              have hge : ¬ ((k : Int) < (n : Int)) := by omega
              go_wp2
              go_ret
              refine ⟨?_, hbw2.trans (hbel2.mono hbw2.size)⟩
              have hah : ps.all headOk = true := by
                rw [List.all_eq_true]
                intro p hm
                obtain ⟨j, hj, rfl⟩ := List.getElem_of_mem hm
                exact HA2.out j _ (by have := HLen.out; omega) (List.getElem?_eq_getElem hj)
              rw [← HR.out, HUP.out, hah]
              rfl
            | succ g =>
              have hlt : (k : Int) < (n : Int) := by omega
              obtain ⟨p, hp⟩ := get_of_lt ps k (by have := HLen.out; omega)
              obtain ⟨b, o, rfl, hbl, hc⟩ := (HP2.out.more hbel2).2.2.2 k (by omega)
              have hpok := HP2.out.2.2.1 p (List.mem_of_getElem? hp)
              have hpl : p.head < 18446744073709551616 := hpok.2.2.1
              have l1 : ∀ (j : Nat) (v : Value), p.cells[j]? = some v → wr.cell? ((⟨b, o + k * 9, none⟩ : Addr).add j) = some v := by
                intro j v hv
                rw [Addr.add_mid]; exact hc p hp j v hv
              have L1 := Lib.hid l1
              have q2 : (wr.alloc (.cells p.cells 49)).cell? ⟨wr.heap.size, 1, none⟩ = some (.int .u64 (p.head : Int)) := by simp [Pg.cells]
              have HPp := Lib.hid hp
              clear l1 hc hp hpok
              have hnx := fun W => next_x p.head W hpl
              have hul := fun W => unlocked_x p.head W hpl
              cases hno : nextOk p.head
              · have e2 : nextE p.head = 2 := by unfold nextE; rw [hno]; rfl
                rw [e2] at hnx
                have HF := Lib.hid (show headOk p = false by unfold headOk; rw [hno]; rfl)
                clear hno e2
                go_wp2_with (first
                  | (go_at_call 42; refine (hnx _).mono ?_; rintro e w' ⟨rfl, rfl⟩)
                  | (refine wpList_load_addr rfl 49 _ rfl ⟨b, o + k * 9, none⟩ rfl p.cells _ L1.out Try.underlying49 rfl (by rw [size49]; rfl) ?_)
                  | (refine wpList_store_new2 rfl 49 _ _ rfl wr _ rfl _ p.cells rfl rfl rfl (by rw [size49]; rfl) rfl (cells_one p) ?_)
                  | fail)
                go_ret
                refine ⟨?_, hbw2.trans ((hbel2.alloc hbel2.size _).mono hbw2.size)⟩
                have hah : ps.all headOk = false := by
                  rw [Bool.eq_false_iff, Ne, List.all_eq_true]
                  intro ha
                  have := ha p (List.mem_of_getElem? HPp.out)
                  rw [HF.out] at this
                  exact absurd this (by decide)
                rw [← HR.out, hah, Bool.and_false]
                rfl
              · have e2 : nextE p.head = 0 := by unfold nextE; rw [hno]; rfl
                rw [e2] at hnx
                have HT := Lib.hid (show headOk p = free p.head by unfold headOk; rw [hno]; rfl)
                clear hno e2
                cases hfr : free p.head
                · rw [hfr] at hul
                  have HF := Lib.hid (HT.out.trans hfr)
                  clear hfr
                  go_wp2_with (first
                    | (go_at_call 42; refine (hnx _).mono ?_; rintro e w' ⟨rfl, rfl⟩)
                    | (go_at_call 43; refine (hul _).mono ?_; rintro e w' ⟨rfl, rfl⟩)
                    | (refine wpList_load_addr rfl 49 _ rfl ⟨b, o + k * 9, none⟩ rfl p.cells _ L1.out Try.underlying49 rfl (by rw [size49]; rfl) ?_)
                    | (refine wpList_store_new2 rfl 49 _ _ rfl wr _ rfl _ p.cells rfl rfl rfl (by rw [size49]; rfl) rfl (cells_one p) ?_)
                    | fail)
                  go_ret
                  refine ⟨?_, hbw2.trans ((hbel2.alloc hbel2.size _).mono hbw2.size)⟩
                  have hah : ps.all headOk = false := by
                    rw [Bool.eq_false_iff, Ne, List.all_eq_true]
                    intro ha
                    have := ha p (List.mem_of_getElem? HPp.out)
                    rw [HF.out] at this
                    exact absurd this (by decide)
                  rw [← HR.out, hah, Bool.and_false]
                  rfl
                · rw [hfr] at hul
                  have HF := Lib.hid (HT.out.trans hfr)
                  clear hfr
                  go_wp2_with (first
                    | (go_at_call 42; refine (hnx _).mono ?_; rintro e w' ⟨rfl, rfl⟩)
                    | (go_at_call 43; refine (hul _).mono ?_; rintro e w' ⟨rfl, rfl⟩)
                    | (refine wpList_load_addr rfl 49 _ rfl ⟨b, o + k * 9, none⟩ rfl p.cells _ L1.out Try.underlying49 rfl (by rw [size49]; rfl) ?_)
                    | (refine wpList_store_new2 rfl 49 _ _ rfl wr _ rfl _ p.cells rfl rfl rfl (by rw [size49]; rfl) rfl (cells_one p) ?_)
                    | fail)
                  go_roundg g
                  case measure => omega
                  case rel =>
                    refine ⟨k + 1, by omega, by go_num, fun j q hj hq => ?_, hbel2.alloc hbel2.size _⟩
                    by_cases e : j = k
                    · subst e; rw [HPp.out] at hq; injection hq with hq; subst hq; exact HF.out
                    · exact HA2.out j q (by omega) hq
        | succ g =>
          have hlt : (k : Int) < (n : Int) := by omega
          obtain ⟨p, hp⟩ := get_of_lt ps k (by have := HLen.out; omega)
          obtain ⟨b, o, rfl, hbl, hc⟩ := (HP1.out.more hbel).2.2.2 k (by omega)
          have l1 : ∀ (j : Nat) (v : Value), p.cells[j]? = some v → wr.cell? ((⟨b, o + k * 9, none⟩ : Addr).add j) = some v := by
            intro j v hv
            rw [Addr.add_mid]; exact hc p hp j v hv
          have L1 := Lib.hid l1
          have q1 : (wr.alloc (.cells p.cells 49)).cell? ⟨w.heap.size, 1, none⟩ = some (.slice (some ⟨b, o, none⟩) n cap) :=
            (((Below.refl _ wr).alloc (Nat.le_refl _) _).cell (p := ⟨w.heap.size, 1, none⟩) (by have := hbel.size; simp; omega)).trans ((hbel.cell (p := ⟨w.heap.size, 1, none⟩) (by simp; omega)).trans g1)
          have q2 : (wr.alloc (.cells p.cells 49)).cell? ⟨wr.heap.size, 0, none⟩ = some (.int .i64 p.line) := by simp [Pg.cells]
          clear l1
          by_cases hk0 : k = 0
          · have d0 : decide ((0 : Int) < (k : Int)) = false := decide_eq_false (by omega)
            have d1 : decide (0 < k) = false := decide_eq_false (by omega)
            have HK0 := Lib.hid hk0
            clear hk0
            go_wp2_with (first
              | (refine wpList_load_addr rfl 49 _ rfl ⟨b, o + k * 9, none⟩ rfl p.cells _ L1.out Try.underlying49 rfl (by rw [size49]; rfl) ?_)
              | (refine wpList_store_new2 rfl 49 _ _ rfl wr _ rfl _ p.cells rfl rfl rfl (by rw [size49]; rfl) rfl (cells_one p) ?_)
              | fail)
            try simp only [Act.put]
            go_big_quiet (fail)
            go_wp2
            go_roundg g
            case measure => omega
            case rel => exact ⟨k + 1, by omega, by go_num, fun j p q hj => by have := HK0.out; omega, below_drewN (hbel.alloc hbel.size _) _⟩
          · obtain ⟨i, rfl⟩ : ∃ i, k = i + 1 := ⟨k - 1, by omega⟩
            obtain ⟨q, hq⟩ := get_of_lt ps i (by have := HLen.out; omega)
            have e0 : decide ((0 : Int) < (i : Int) + 1) = true := decide_eq_true (by omega)
            have e1 : (i : Int) + 1 - 1 = (i : Int) := by omega
            have hi : (0 : Int) ≤ (i : Int) ∧ (i : Int) < n := by omega
            have q3 : (wr.alloc (.cells p.cells 49)).cell? ⟨b, o + i * 9, none⟩ = some (.int .i64 q.line) := by
              obtain ⟨b', o', e', _, hc'⟩ := (HP1.out.more hbel).2.2.2 i (by omega)
              cases e'
              exact (((Below.refl _ wr).alloc (Nat.le_refl _) _).cell (p := ⟨b, _, none⟩) hbl).trans (hc' q hq 0 _ rfl)
            have HQ := Lib.hid hq
            have HPp := Lib.hid hp
            clear hc hq hp
            by_cases hpq : q.line < p.line
            · have d1 : decide (p.line ≤ q.line) = false := decide_eq_false (by omega)
              go_wp2_with (first
                | (refine wpList_load_addr rfl 49 _ rfl ⟨b, o + (i + 1) * 9, none⟩ rfl p.cells _ L1.out Try.underlying49 rfl (by rw [size49]; rfl) ?_)
                | (refine wpList_store_new2 rfl 49 _ _ rfl wr _ rfl _ p.cells rfl rfl rfl (by rw [size49]; rfl) rfl (cells_one p) ?_)
                | fail)
              try simp only [Act.put]
              go_big_quiet (fail)
              go_wp2
              go_roundg g
              case measure => omega
              case rel =>
                refine ⟨i + 1 + 1, by omega, by go_num, fun j x y hj hx hy => ?_, below_drewN (hbel.alloc hbel.size _) _⟩
                by_cases e : j = i
                · subst e; rw [HQ.out] at hx; rw [HPp.out] at hy; injection hx with hx; injection hy with hy; subst hx hy; exact hpq
                · exact HA.out j x y (by omega) hx hy
            · have hge : p.line ≤ q.line := by omega
              have d1 : decide (p.line ≤ q.line) = true := decide_eq_true hge
              have HNot := Lib.hid hge
              clear hpq hge
              go_wp2_with (first
                | (refine wpList_load_addr rfl 49 _ rfl ⟨b, o + (i + 1) * 9, none⟩ rfl p.cells _ L1.out Try.underlying49 rfl (by rw [size49]; rfl) ?_)
                | (refine wpList_store_new2 rfl 49 _ _ rfl wr _ rfl _ p.cells rfl rfl rfl (by rw [size49]; rfl) rfl (cells_one p) ?_)
                | fail)
              try simp only [Act.put]
              go_big_quiet (fail)
              go_wp2
              go_ret
              refine ⟨?_, hbw.trans (below_drewN ((hbel.alloc hbel.size _).mono hbw.size) _)⟩
              have hup : upB ps = false := by
                rw [Bool.eq_false_iff]; intro hh
                have := (upB_at ps).1 hh i q p HQ.out HPp.out
                have := HNot.out
                omega
              rw [← HR.out, hup]
              rfl
    · rw [hbad] at hc
      simp only [if_true]
      go_enter Try.func23, Try.ntmps23
      go_wp2_with fail
      rw [← HW.out]
      refine (hx _).mono ?_
      rintro e w1 ⟨rfl, rfl⟩
      go_wp2_with fail
      refine hc.mono ?_
      rintro e w1 ⟨rfl, hb1⟩
      go_wp2
      go_ret
      exact ⟨rfl, hb0.trans (hb1.mono hb0.size)⟩
  · rw [validN_1 _ _ _ HL.out h1]
    have h2 : seq < 1 ∨ (1 ≤ seq ∧ 1073741824 ≤ seq) ∨ (1 ≤ seq ∧ seq < 1073741824 ∧ (n : Int) < 1) ∨ (1 ≤ seq ∧ seq < 1073741824 ∧ 1 ≤ (n : Int) ∧ 12 < (n : Int)) := by omega
    clear h1 hlen
    rcases h2 with h2 | ⟨h2, h3⟩ | ⟨h2, h3, h4⟩ | ⟨h2, h3, h4, h5⟩
    all_goals
      go_enter Try.func23, Try.ntmps23
      go_wp2_with fail
      rw [← HW.out]
      refine (hx _).mono ?_
      rintro e w1 ⟨rfl, rfl⟩
      go_wp2
      go_ret
      exact ⟨rfl, hb0⟩
end Go.Proofs.Ytmeppeadfhifeaa
