/- The reference's ValidRecord: its two loops. Conditions: the writes read as pages. -/
import Derived.Test.YtmeppeadfhifeaaValid2
namespace Go.Proofs.Ytmeppeadfhifeaa
open Go.RowKit
set_option linter.unusedVariables false
set_option linter.unusedSimpArgs false

set_option maxHeartbeats 4000000 in
theorem validrecord_x (seq l : Int) (n cap : Nat) (A : Option Addr) (ps : List Pg) (w : World) (hp : ReadsP w A n ps) :
    Calls Try.prog 24 #[.agg #[.int .i64 seq, .slice A n cap], .int .i64 l] w fun e w' => e = .returned (.int .i64 (validN seq ps l)) ∧ Below w.heap.size w w' := by
  have hn := hp.2.1
  have HP := Lib.hid hp
  have hlen := hp.1
  clear hp
  obtain ⟨W0, hW0⟩ : ∃ W0, W0 = w.alloc (.cells #[.int .i64 seq, .slice A n cap] 27) := ⟨_, rfl⟩
  have hb0 : Below w.heap.size w W0 := by rw [hW0]; exact (Below.refl _ w).alloc (Nat.le_refl _) _
  have hsz : W0.heap.size = w.heap.size + 1 := by rw [hW0]; simp
  have f1 : W0.cell? ⟨w.heap.size, 1, none⟩ = some (.slice A n cap) := by rw [hW0]; simp
  have HW := Lib.hid hW0
  cases hl : isLinesB l
  · rw [validN_18 _ _ _ hl]
    have hl2 : l < 98 ∨ (98 ≤ l ∧ 256 < l) := by
      unfold isLinesB at hl
      have := of_decide_eq_false hl
      omega
    clear hW0
    rcases hl2 with h | ⟨h, h2⟩
    all_goals
      go_enter Try.func24, Try.ntmps24
      go_wp2
      go_ret
      rw [← HW.out]
      exact ⟨rfl, hb0⟩
  have hl1 : 98 ≤ l ∧ l ≤ 256 := of_decide_eq_true hl
  have HL := Lib.hid hl
  clear hl
  obtain ⟨hla, hlb⟩ := hl1
  by_cases h1 : 1 ≤ seq ∧ seq < 1073741824 ∧ 1 ≤ ps.length ∧ ps.length ≤ 12
  · rw [validN_in _ _ _ HL.out h1]
    rw [hlen] at h1
    obtain ⟨h1, h2, h3, h4⟩ := h1
    have h5 : (1 : Int) ≤ n := by omega
    have h6 : (n : Int) ≤ 12 := by omega
    have HLen := Lib.hid hlen
    clear hlen
    generalize hr : (if ps.any (badLine l) = true then (2 : Int) else if (upB ps && ps.all headOk) = true then 0 else 1) = r
    have HR := Lib.hid hr
    clear hr
    have HP0 := Lib.hid (HP.out.more hb0)
    have f0 : W0.cell? ⟨w.heap.size, 0, none⟩ = some (.int .i64 seq) := by rw [hW0]; simp
    go_enter Try.func24, Try.ntmps24
    go_wp2
    rw [← hW0]
    clear hW0
    clear f0
    go_loopg [5] n (fun g s5 wx => ∃ k : Nat, k + g = n ∧ s5 = .int .i64 k ∧ (∀ j p, j < k → ps[j]? = some p → badLine l p = false) ∧ Below W0.heap.size W0 wx)
    case atStart => exact ⟨0, by omega, rfl, fun j p hj => by omega, Below.refl _ _⟩
    case round =>
      obtain ⟨k, hk, rfl, hall, hbel⟩ := hrel
      have HA := Lib.hid hall
      clear hall
      have g2 : wr.cell? ⟨w.heap.size, 1, none⟩ = some (.slice A n cap) := (hbel.cell (p := ⟨w.heap.size, 1, none⟩) (by simp; omega)).trans f1
      cases gk with
      | zero =>
        have hge : ¬ ((k : Int) < (n : Int)) := by omega
        have HB := Lib.hid (show ps.any (badLine l) = false by
          rw [Bool.eq_false_iff]
          intro ha
          obtain ⟨p, hm, hb⟩ := List.any_eq_true.1 ha
          obtain ⟨j, hj, rfl⟩ := List.getElem_of_mem hm
          have := HA.out j _ (by have := HLen.out; omega) (List.getElem?_eq_getElem hj)
          rw [this] at hb
          exact absurd hb (by decide))
        have HP2 := Lib.hid (HP0.out.more hbel)
        have hbw2 := hb0.trans (hbel.mono hb0.size)
        have hsz2 : w.heap.size < wr.heap.size := by have := hbel.size; omega
        go_wp2
        clear hge hn
        go_loopg [6, 7, 8] n (fun g s6 _ _ wx => ∃ k : Nat, k + g = n ∧ s6 = .int .i64 k ∧ (∀ j p, j < k → ps[j]? = some p → headOk p = true) ∧ (∀ j p q, j + 1 < k → ps[j]? = some p → ps[j + 1]? = some q → p.line < q.line) ∧ Below wr.heap.size wr wx)
        case atStart => exact ⟨0, by omega, rfl, fun j p hj => by omega, fun j p q hj => by omega, Below.refl _ _⟩
        case round =>
          obtain ⟨k, hk, rfl, hall, hall2, hbel2⟩ := hrel
          have HA2 := Lib.hid hall
          have HA3 := Lib.hid hall2
          clear hall hall2
          have g3 : wr.cell? ⟨w.heap.size, 1, none⟩ = some (.slice A n cap) := (hbel2.cell (p := ⟨w.heap.size, 1, none⟩) hsz2).trans g2
          cases gk with
          | zero =>
            have hge : ¬ ((k : Int) < (n : Int)) := by omega
            go_wp2
            go_ret
            refine ⟨?_, hbw2.trans (hbel2.mono hbw2.size)⟩
            have hah : ps.all headOk = true := by
              rw [List.all_eq_true]
              intro p hm
              obtain ⟨j, hj, rfl⟩ := List.getElem_of_mem hm
              exact HA2.out j _ (by have := HLen.out; omega) (List.getElem?_eq_getElem hj)
            have hup : upB ps = true := (upB_at ps).2 (fun j p q hp hq => HA3.out j p q (by have := (List.getElem?_eq_some_iff.1 hq).1; have := HLen.out; omega) hp hq)
            rw [← HR.out, HB.out, hup, hah]
            rfl
          | succ g =>
            have hlt : (k : Int) < (n : Int) := by omega
            obtain ⟨p, hp⟩ := get_of_lt ps k (by have := HLen.out; omega)
            obtain ⟨b, o, rfl, hbl, hc⟩ := (HP2.out.more hbel2).2.2.2 k (by omega)
            have hpok := HP2.out.2.2.1 p (List.mem_of_getElem? hp)
            have hpl : p.head < 18446744073709551616 := hpok.2.2.1
            have q1 : wr.cell? ⟨b, o + k * 9, none⟩ = some (.int .i64 p.line) := hc p hp 0 _ rfl
            have q2 : wr.cell? ⟨b, o + k * 9 + 1, none⟩ = some (.int .u64 (p.head : Int)) := hc p hp 1 _ rfl
            have HPp := Lib.hid hp
            clear hc hp hpok
            have hnx := fun W => rnext_x p.head W hpl
            have hul : ∀ W, Calls Try.prog 46 #[.int .u64 (p.head : Int)] W fun e w' => e = .returned (.bool (free p.head)) ∧ w' = W := fun W => (runlocked_x p.head W hpl).mono fun _ _ ⟨h1, h2⟩ => ⟨h1, h2.symm⟩
            have HbadUp : upB ps = false → r = 1 := by
              intro h
              rw [← HR.out, HB.out, h]
              rfl
            have HbadUp := Lib.hid HbadUp
            have HbadHd : headOk p = false → r = 1 := by
              intro h
              have hah : ps.all headOk = false := by
                rw [Bool.eq_false_iff, Ne, List.all_eq_true]
                intro ha
                have := ha p (List.mem_of_getElem? HPp.out)
                rw [h] at this
                exact absurd this (by decide)
              rw [← HR.out, HB.out, hah, Bool.and_false]
              rfl
            have HbadHd := Lib.hid HbadHd
            have hgood : headOk p = true → (∀ i q, k = i + 1 → ps[i]? = some q → q.line < p.line) → (∀ j p, j < k + 1 → ps[j]? = some p → headOk p = true) ∧ (∀ j p q, j + 1 < k + 1 → ps[j]? = some p → ps[j + 1]? = some q → p.line < q.line) := by
              intro h1 h2
              refine ⟨fun j q hj hq => ?_, fun j x y hj hx hy => ?_⟩
              · by_cases e : j = k
                · subst e; rw [HPp.out] at hq; injection hq with hq; subst hq; exact h1
                · exact HA2.out j q (by omega) hq
              · by_cases e : j + 1 = k
                · rw [e, HPp.out] at hy; injection hy with hy; subst hy; exact h2 j x e.symm hx
                · exact HA3.out j x y (by omega) hx hy
            have HG := Lib.hid hgood
            clear hgood
            by_cases hk0 : k = 0
            · have d0 : decide ((0 : Int) < (k : Int)) = false := decide_eq_false (by omega)
              have d1 : decide (0 < k) = false := decide_eq_false (by omega)
              have HK0 := Lib.hid hk0
              clear hk0
              cases hfr : free p.head
              · have HE := Lib.hid (HbadHd.out (show headOk p = false by unfold headOk; rw [hfr, Bool.and_false]))
                rw [hfr] at hul
                clear hfr
                generalize nextE p.head = ne at hnx
                go_wp2_with (first | (go_at_call 45; refine (hnx _).mono ?_; rintro e w' ⟨rfl, rfl⟩) | fail)
                try simp only [Act.put]
                go_big_quiet ((go_at_call 46; exact Calls.quiet_of_same (hul _)))
                go_wp2
                go_ret
                exact ⟨by rw [HE.out]; rfl, hbw2.trans (below_drewN (hbel2.mono hbw2.size) _)⟩
              · cases hno : nextOk p.head
                · have HE := Lib.hid (HbadHd.out (show headOk p = false by unfold headOk; rw [hno, Bool.false_and]))
                  have e2 : nextE p.head = 2 := by unfold nextE; rw [hno]; rfl
                  rw [hfr] at hul
                  rw [e2] at hnx
                  clear hfr hno e2
                  go_wp2_with (first | (go_at_call 45; refine (hnx _).mono ?_; rintro e w' ⟨rfl, rfl⟩) | fail)
                  try simp only [Act.put]
                  go_big_quiet ((go_at_call 46; exact Calls.quiet_of_same (hul _)))
                  go_wp2
                  go_ret
                  exact ⟨by rw [HE.out]; rfl, hbw2.trans (below_drewN (hbel2.mono hbw2.size) _)⟩
                · have HE := Lib.hid (HG.out (show headOk p = true by unfold headOk; rw [hno, hfr]; rfl) (fun i q hi => by have := HK0.out; omega))
                  have e2 : nextE p.head = 0 := by unfold nextE; rw [hno]; rfl
                  rw [hfr] at hul
                  rw [e2] at hnx
                  clear hfr hno e2
                  go_wp2_with (first | (go_at_call 45; refine (hnx _).mono ?_; rintro e w' ⟨rfl, rfl⟩) | fail)
                  try simp only [Act.put]
                  go_big_quiet ((go_at_call 46; exact Calls.quiet_of_same (hul _)))
                  go_wp2
                  go_roundg g
                  case measure => omega
                  case rel => exact ⟨k + 1, by omega, by go_num, HE.out.1, HE.out.2, below_drewN hbel2 _⟩
            · obtain ⟨i, hik⟩ : ∃ i, k = i + 1 := ⟨k - 1, by omega⟩
              obtain ⟨q, hq⟩ := get_of_lt ps i (by have := HLen.out; omega)
              have d0 : decide ((0 : Int) < (k : Int)) = true := decide_eq_true (by omega)
              have d1 : decide (0 < k) = true := decide_eq_true (by omega)
              have e1 : (k : Int) - 1 = (i : Int) := by omega
              have hi : (0 : Int) ≤ (i : Int) ∧ (i : Int) < n := by omega
              have q3 : wr.cell? ⟨b, o + i * 9, none⟩ = some (.int .i64 q.line) := by
                obtain ⟨b', o', e', _, hc'⟩ := (HP2.out.more hbel2).2.2.2 i (by omega)
                cases e'
                exact hc' q hq 0 _ rfl
              have HQ := Lib.hid hq
              have HIK := Lib.hid hik
              clear hq hk0 hik
              by_cases hpq : q.line < p.line
              · have d3 : decide (p.line ≤ q.line) = false := decide_eq_false (by omega)
                have HPQ := Lib.hid hpq
                clear hpq
                cases hfr : free p.head
                · have HE := Lib.hid (HbadHd.out (show headOk p = false by unfold headOk; rw [hfr, Bool.and_false]))
                  rw [hfr] at hul
                  clear hfr
                  generalize nextE p.head = ne at hnx
                  go_wp2_with (first | (go_at_call 45; refine (hnx _).mono ?_; rintro e w' ⟨rfl, rfl⟩) | fail)
                  try simp only [Act.put]
                  go_big_quiet ((go_at_call 46; exact Calls.quiet_of_same (hul _)))
                  go_wp2
                  go_ret
                  exact ⟨by rw [HE.out]; rfl, hbw2.trans (below_drewN (hbel2.mono hbw2.size) _)⟩
                · cases hno : nextOk p.head
                  · have HE := Lib.hid (HbadHd.out (show headOk p = false by unfold headOk; rw [hno, Bool.false_and]))
                    have e2 : nextE p.head = 2 := by unfold nextE; rw [hno]; rfl
                    rw [hfr] at hul
                    rw [e2] at hnx
                    clear hfr hno e2
                    go_wp2_with (first | (go_at_call 45; refine (hnx _).mono ?_; rintro e w' ⟨rfl, rfl⟩) | fail)
                    try simp only [Act.put]
                    go_big_quiet ((go_at_call 46; exact Calls.quiet_of_same (hul _)))
                    go_wp2
                    go_ret
                    exact ⟨by rw [HE.out]; rfl, hbw2.trans (below_drewN (hbel2.mono hbw2.size) _)⟩
                  · have HE := Lib.hid (HG.out (show headOk p = true by unfold headOk; rw [hno, hfr]; rfl) (fun i2 q2 hi hq => by have e := HIK.out; have e2 : i2 = i := (by omega); subst e2; rw [HQ.out] at hq; injection hq with hq; subst hq; exact HPQ.out))
                    have e2 : nextE p.head = 0 := by unfold nextE; rw [hno]; rfl
                    rw [hfr] at hul
                    rw [e2] at hnx
                    clear hfr hno e2
                    go_wp2_with (first | (go_at_call 45; refine (hnx _).mono ?_; rintro e w' ⟨rfl, rfl⟩) | fail)
                    try simp only [Act.put]
                    go_big_quiet ((go_at_call 46; exact Calls.quiet_of_same (hul _)))
                    go_wp2
                    go_roundg g
                    case measure => omega
                    case rel => exact ⟨k + 1, by omega, by go_num, HE.out.1, HE.out.2, below_drewN hbel2 _⟩
              · have d3 : decide (p.line ≤ q.line) = true := decide_eq_true (by omega)
                have HE := Lib.hid (HbadUp.out (by
                  rw [Bool.eq_false_iff]; intro hh
                  have := (upB_at ps).1 hh i q p HQ.out (by rw [← HIK.out]; exact HPp.out)
                  omega))
                clear hpq
                generalize nextE p.head = ne at hnx
                go_wp2_with (first | (go_at_call 45; refine (hnx _).mono ?_; rintro e w' ⟨rfl, rfl⟩) | fail)
                try simp only [Act.put]
                go_big_quiet ((go_at_call 46; exact Calls.quiet_of_same (hul _)))
                go_wp2
                go_ret
                exact ⟨by rw [HE.out]; rfl, hbw2.trans (below_drewN (hbel2.mono hbw2.size) _)⟩
      | succ g =>
        have hlt : (k : Int) < (n : Int) := by omega
        obtain ⟨p, hp⟩ := get_of_lt ps k (by have := HLen.out; omega)
        obtain ⟨b, o, rfl, hbl, hc⟩ := (HP0.out.more hbel).2.2.2 k (by omega)
        have q1 : wr.cell? ⟨b, o + k * 9, none⟩ = some (.int .i64 p.line) := hc p hp 0 _ rfl
        have hih := fun W => inheap_x p.line l W hla hlb
        rw [inHeapB_bad] at hih
        have HPp := Lib.hid hp
        clear hc hp
        cases hbd : badLine l p
        · rw [hbd] at hih
          have HBD := Lib.hid hbd
          clear hbd
          go_wp2_with (first | (go_at_call 44; refine (hih _).mono ?_; rintro e w' ⟨rfl, rfl⟩) | fail)
          go_roundg g
          case measure => omega
          case rel =>
            refine ⟨k + 1, by omega, by go_num, fun j q hj hq => ?_, hbel⟩
            by_cases e : j = k
            · subst e; rw [HPp.out] at hq; injection hq with hq; subst hq; exact HBD.out
            · exact HA.out j q (by omega) hq
        · rw [hbd] at hih
          have HBD := Lib.hid hbd
          clear hbd
          go_wp2_with (first | (go_at_call 44; refine (hih _).mono ?_; rintro e w' ⟨rfl, rfl⟩) | fail)
          go_ret
          refine ⟨?_, hb0.trans (hbel.mono hb0.size)⟩
          rw [← HR.out, show ps.any (badLine l) = true from List.any_eq_true.2 ⟨p, List.mem_of_getElem? HPp.out, HBD.out⟩]
          rfl
  · rw [validN_1 _ _ _ HL.out h1]
    have h2 : seq < 1 ∨ (1 ≤ seq ∧ 1073741824 ≤ seq) ∨ (1 ≤ seq ∧ seq < 1073741824 ∧ (n : Int) < 1) ∨ (1 ≤ seq ∧ seq < 1073741824 ∧ 1 ≤ (n : Int) ∧ 12 < (n : Int)) := by omega
    clear h1 hlen hW0
    rcases h2 with h2 | ⟨h2, h3⟩ | ⟨h2, h3, h4⟩ | ⟨h2, h3, h4, h5⟩
    all_goals
      go_enter Try.func24, Try.ntmps24
      go_wp2
      go_ret
      rw [← HW.out]
      exact ⟨rfl, hb0⟩
end Go.Proofs.Ytmeppeadfhifeaa
