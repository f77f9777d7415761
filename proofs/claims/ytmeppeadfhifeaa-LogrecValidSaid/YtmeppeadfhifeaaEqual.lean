/- Whether two rows of words are the same: the reference's SameWords, slices.Equal. Conditions: the slices read as words. -/
import Derived.Test.YtmeppeadfhifeaaSame
namespace Go.Proofs.Ytmeppeadfhifeaa
open Go.RowKit
set_option linter.unusedVariables false
set_option linter.unusedSimpArgs false

set_option maxHeartbeats 1000000 in
theorem samewords_x (n m cap cap' : Nat) (A B : Option Addr) (ps qs : List Nat) (w : World) (hp : ReadsW w A n ps) (hq : ReadsW w B m qs) :
    Calls Try.prog 25 #[.slice A n cap, .slice B m cap'] w fun e w' => e = .returned (.bool (ps == qs)) ∧ Below w.heap.size w w' := by
  have hn := hp.2.1
  by_cases hnm : n = m
  · subst hnm
    have HP := Lib.hid hp
    have HQ := Lib.hid hq
    clear hp hq
    generalize hr : (ps == qs) = r
    have HR := Lib.hid hr
    clear hr
    go_enter Try.func25, Try.ntmps25
    go_wp2
    go_loopg [5] n (fun g s5 wx => ∃ k : Nat, k + g = n ∧ s5 = .int .i64 k ∧ (∀ j, j < k → ps.getD j 0 = qs.getD j 0) ∧ Below w.heap.size w wx)
    case atStart => exact ⟨0, by omega, rfl, fun j hj => by omega, Below.refl _ _⟩
    case round =>
      obtain ⟨k, hk, rfl, hall, hbel⟩ := hrel
      have HA := Lib.hid hall
      clear hall
      cases gk with
      | zero =>
        have hge : ¬ ((k : Int) < (n : Int)) := by omega
        go_wp2
        go_ret
        refine ⟨?_, hbel⟩
        have hpq : ps = qs := by
          apply List.ext_getElem?
          intro j
          have h1 := HP.out.1
          have h2 := HQ.out.1
          by_cases hj : j < n
          · have := HA.out j (by omega)
            rw [List.getD_eq_getElem?_getD, List.getD_eq_getElem?_getD, List.getElem?_eq_getElem (by omega), List.getElem?_eq_getElem (by omega)] at this
            rw [List.getElem?_eq_getElem (by omega), List.getElem?_eq_getElem (by omega)]
            exact congrArg some this
          · rw [List.getElem?_eq_none (by omega), List.getElem?_eq_none (by omega)]
        rw [← HR.out, hpq, beq_self_eq_true]
        rfl
      | succ g =>
        have hlt : (k : Int) < (n : Int) := by omega
        obtain ⟨ad, rfl, _, hc, _⟩ := (HP.out.more hbel).2.2 k (by omega)
        obtain ⟨bd, rfl, _, hc', _⟩ := (HQ.out.more hbel).2.2 k (by omega)
        have ht : ∀ j, j < k + 1 → ps.getD k 0 = qs.getD k 0 → ps.getD j 0 = qs.getD j 0 := by
          intro j hj hs
          by_cases e : j = k
          · subst e; exact hs
          · exact HA.out j (by omega)
        have HT := Lib.hid ht
        have HF := Lib.hid (show ps.getD k 0 ≠ qs.getD k 0 → r = false by
          intro hs
          rw [← HR.out, beq_eq_false_iff_ne]
          intro e
          exact hs (by rw [e]))
        clear ht
        generalize ps.getD k 0 = x at *
        generalize qs.getD k 0 = y at *
        by_cases hs : x = y
        · have HT' := Lib.hid (fun j hj => HT.out j hj hs)
          subst hs
          go_wp2
          try simp only [Act.put]
          go_big_quiet (fail)
          go_wp2
          go_roundg g
          case measure => omega
          case rel => exact ⟨k + 1, by omega, by go_num, HT'.out, below_drewN hbel _⟩
        · have HF' := Lib.hid (HF.out hs)
          have d1 : ((x : Int) != (y : Int)) = true := by rw [bne_iff_ne]; omega
          clear hs
          go_wp2
          try simp only [Act.put]
          go_big_quiet (fail)
          go_wp2
          go_ret
          exact ⟨by rw [HF'.out]; rfl, below_drewN hbel _⟩
  · have hs : (ps == qs) = false := by
      rw [beq_eq_false_iff_ne]; intro e
      exact hnm (by rw [← hp.1, ← hq.1, e])
    rw [hs]
    have hb : ((n : Int) != (m : Int)) = true := by rw [bne_iff_ne]; omega
    clear hp hq hs
    go_enter Try.func25, Try.ntmps25
    go_wp2
    go_ret
    exact ⟨rfl, Below.refl _ _⟩

set_option maxHeartbeats 1000000 in
theorem equalwords_x (n m cap cap' : Nat) (A B : Option Addr) (ps qs : List Nat) (w : World) (hp : ReadsW w A n ps) (hq : ReadsW w B m qs) :
    Calls Try.prog 50 #[.slice A n cap, .slice B m cap'] w fun e w' => e = .returned (.bool (ps == qs)) ∧ Below w.heap.size w w' := by
  have hn := hp.2.1
  by_cases hnm : n = m
  · subst hnm
    have HP := Lib.hid hp
    have HQ := Lib.hid hq
    clear hp hq
    generalize hr : (ps == qs) = r
    have HR := Lib.hid hr
    clear hr
    go_enter Try.func50, Try.ntmps50
    go_wp2
    go_loopg [5, 13] n (fun g _ s5 wx => ∃ k : Nat, k + g = n ∧ s5 = .int .i64 k ∧ (∀ j, j < k → ps.getD j 0 = qs.getD j 0) ∧ Below w.heap.size w wx)
    case atStart => exact ⟨0, by omega, rfl, fun j hj => by omega, Below.refl _ _⟩
    case round =>
      obtain ⟨k, hk, rfl, hall, hbel⟩ := hrel
      have HA := Lib.hid hall
      clear hall
      cases gk with
      | zero =>
        have hge : ¬ ((k : Int) < (n : Int)) := by omega
        go_wp2
        go_ret
        refine ⟨?_, hbel⟩
        have hpq : ps = qs := by
          apply List.ext_getElem?
          intro j
          have h1 := HP.out.1
          have h2 := HQ.out.1
          by_cases hj : j < n
          · have := HA.out j (by omega)
            rw [List.getD_eq_getElem?_getD, List.getD_eq_getElem?_getD, List.getElem?_eq_getElem (by omega), List.getElem?_eq_getElem (by omega)] at this
            rw [List.getElem?_eq_getElem (by omega), List.getElem?_eq_getElem (by omega)]
            exact congrArg some this
          · rw [List.getElem?_eq_none (by omega), List.getElem?_eq_none (by omega)]
        rw [← HR.out, hpq, beq_self_eq_true]
        rfl
      | succ g =>
        have hlt : (k : Int) < (n : Int) := by omega
        obtain ⟨ad, rfl, _, hc, _⟩ := (HP.out.more hbel).2.2 k (by omega)
        obtain ⟨bd, rfl, _, hc', _⟩ := (HQ.out.more hbel).2.2 k (by omega)
        have ht : ∀ j, j < k + 1 → ps.getD k 0 = qs.getD k 0 → ps.getD j 0 = qs.getD j 0 := by
          intro j hj hs
          by_cases e : j = k
          · subst e; exact hs
          · exact HA.out j (by omega)
        have HT := Lib.hid ht
        have HF := Lib.hid (show ps.getD k 0 ≠ qs.getD k 0 → r = false by
          intro hs
          rw [← HR.out, beq_eq_false_iff_ne]
          intro e
          exact hs (by rw [e]))
        clear ht
        generalize ps.getD k 0 = x at *
        generalize qs.getD k 0 = y at *
        by_cases hs : x = y
        · have HT' := Lib.hid (fun j hj => HT.out j hj hs)
          subst hs
          go_wp2
          try simp only [Act.put]
          go_big_quiet (fail)
          go_wp2
          go_roundg g
          case measure => omega
          case rel => exact ⟨k + 1, by omega, by go_num, HT'.out, below_drewN hbel _⟩
        · have HF' := Lib.hid (HF.out hs)
          have d1 : ((x : Int) != (y : Int)) = true := by rw [bne_iff_ne]; omega
          clear hs
          go_wp2
          try simp only [Act.put]
          go_big_quiet (fail)
          go_wp2
          go_ret
          exact ⟨by rw [HF'.out]; rfl, below_drewN hbel _⟩
  · have hs : (ps == qs) = false := by
      rw [beq_eq_false_iff_ne]; intro e
      exact hnm (by rw [← hp.1, ← hq.1, e])
    rw [hs]
    have hb : ((n : Int) != (m : Int)) = true := by rw [bne_iff_ne]; omega
    clear hp hq hs
    go_enter Try.func50, Try.ntmps50
    go_wp2
    go_ret
    exact ⟨rfl, Below.refl _ _⟩

end Go.Proofs.Ytmeppeadfhifeaa
