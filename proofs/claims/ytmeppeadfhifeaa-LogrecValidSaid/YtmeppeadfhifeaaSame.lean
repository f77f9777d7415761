/- slices.Equal on pages, SamePages, logrec.Same and SameRecord: whether two lists of pages, two records are the same. Conditions: the slices read as pages. -/
import Derived.Test.YtmeppeadfhifeaaRec
namespace Go.Proofs.Ytmeppeadfhifeaa
open Go.RowKit
set_option linter.unusedVariables false
set_option linter.unusedSimpArgs false

def samePs : List Pg → List Pg → Bool
  | [], [] => true
  | p :: ps, q :: qs => sameP p q && samePs ps qs
  | _, _ => false
theorem samePs_len (ps qs : List Pg) (h : ps.length ≠ qs.length) : samePs ps qs = false := by
  induction ps generalizing qs with
  | nil => cases qs with | nil => simp at h | cons => rfl
  | cons p ps ih =>
    cases qs with
    | nil => rfl
    | cons q qs =>
      simp only [samePs]
      rw [ih qs (by simpa using h), Bool.and_false]
theorem samePs_at (ps qs : List Pg) (h : ps.length = qs.length) : samePs ps qs = true ↔ ∀ (k : Nat) (p q : Pg), ps[k]? = some p → qs[k]? = some q → sameP p q = true := by
  induction ps generalizing qs with
  | nil => cases qs with | nil => simp [samePs] | cons => simp at h
  | cons p ps ih =>
    cases qs with
    | nil => simp at h
    | cons q qs =>
      simp only [samePs, Bool.and_eq_true, ih qs (by simpa using h)]
      constructor
      · rintro ⟨h0, h1⟩ k x y hx hy
        cases k with
        | zero => simp at hx hy; subst hx hy; exact h0
        | succ k => exact h1 k x y (by simpa using hx) (by simpa using hy)
      · intro hh
        exact ⟨hh 0 p q rfl rfl, fun k x y hx hy => hh (k + 1) x y (by simpa using hx) (by simpa using hy)⟩

theorem get_of_lt {α : Type} (l : List α) (k : Nat) (h : k < l.length) : ∃ x, l[k]? = some x := ⟨_, List.getElem?_eq_getElem h⟩

set_option maxHeartbeats 1000000 in
theorem samepages_x (n m cap cap' : Nat) (A B : Option Addr) (ps qs : List Pg) (w : World) (hp : ReadsP w A n ps) (hq : ReadsP w B m qs) :
    Calls Try.prog 36 #[.slice A n cap, .slice B m cap'] w fun e w' => e = .returned (.bool (samePs ps qs)) ∧ Below w.heap.size w w' := by
  have hn := hp.2.1
  by_cases hnm : n = m
  · subst hnm
    have HP := Lib.hid hp
    have HQ := Lib.hid hq
    clear hp hq
    go_enter Try.func36, Try.ntmps36
    go_wp2
    go_loopg [5] n (fun g s5 wx => ∃ k : Nat, k + g = n ∧ s5 = .int .i64 k ∧ (∀ j p q, j < k → ps[j]? = some p → qs[j]? = some q → sameP p q = true) ∧ Below w.heap.size w wx)
    case atStart => exact ⟨0, by omega, rfl, fun j p q hj => by omega, Below.refl _ _⟩
    case round =>
      obtain ⟨k, hk, rfl, hall, hbel⟩ := hrel
      have HA := Lib.hid hall
      clear hall
      cases gk with
      | zero =>
        have hge : ¬ ((k : Int) < (n : Int)) := by omega
        go_wp2
        go_ret
        refine ⟨?_, hbel⟩
        rw [(samePs_at ps qs (HP.out.1.trans HQ.out.1.symm)).2 (fun j p q hp hq => HA.out j p q (by have := (List.getElem?_eq_some_iff.1 hp).1; have := HP.out.1; omega) hp hq)]
        rfl
      | succ g =>
        have hlt : (k : Int) < (n : Int) := by omega
        obtain ⟨p, hp⟩ := get_of_lt ps k (by have := HP.out.1; omega)
        obtain ⟨q, hq⟩ := get_of_lt qs k (by have := HQ.out.1; omega)
        obtain ⟨b, o, rfl, _, hc⟩ := (HP.out.more hbel).2.2.2 k (by omega)
        obtain ⟨b', o', rfl, _, hc'⟩ := (HQ.out.more hbel).2.2.2 k (by omega)
        have l1 : ∀ W, (∃ nn, W = wr.drewN nn) → ∀ (j : Nat) (v : Value), p.cells[j]? = some v → W.cell? ((⟨b, o + k * 9, none⟩ : Addr).add j) = some v := by
          rintro W ⟨nn, rfl⟩ j v hv
          rw [Addr.add_mid]; exact hc p hp j v hv
        have l2 : ∀ W, (∃ nn, W = wr.drewN nn) → ∀ (j : Nat) (v : Value), q.cells[j]? = some v → W.cell? ((⟨b', o' + k * 9, none⟩ : Addr).add j) = some v := by
          rintro W ⟨nn, rfl⟩ j v hv
          rw [Addr.add_mid]; exact hc' q hq j v hv
        have L1 := Lib.hid l1
        have L2 := Lib.hid l2
        clear l1 l2
        have l3 := fun W => run_neq49 W p q
        have ht : ∀ j x y, j < k + 1 → sameP p q = true → ps[j]? = some x → qs[j]? = some y → sameP x y = true := by
          intro j x y hj hs hx hy
          by_cases e : j = k
          · subst e; rw [hp] at hx; rw [hq] at hy; injection hx with hx; injection hy with hy; subst hx hy; exact hs
          · exact HA.out j x y (by omega) hx hy
        have HT := Lib.hid ht
        have hf : sameP p q = false → samePs ps qs = false := by
          intro hs
          rw [Bool.eq_false_iff]
          intro hh
          rw [(samePs_at ps qs (HP.out.1.trans HQ.out.1.symm)).1 hh k p q hp hq] at hs
          exact absurd hs (by decide)
        have HF := Lib.hid hf
        clear ht hf hp hq hc hc'
        cases hs : sameP p q
        · rw [hs] at l3
          have HF' := Lib.hid (HF.out hs)
          clear hs
          go_wp2
          refine wp_region_quiet_lit (by kernel_rfl) (by kernel_rfl) ?_
          repeat (first
            | go_big_quiet_skip
            | (go_big_quiet_want; first
              | (refine quiet_load 49 _ rfl ⟨b, o + k * 9, none⟩ rfl p.cells _ L1.out Try.underlying49 rfl (by rw [size49]; rfl) ?_; simp only [Act.put, List.setIfInBounds_toArray, List.set_cons_succ, List.set_cons_zero]; go_big_quiet_on)
              | (refine quiet_load 49 _ rfl ⟨b', o' + k * 9, none⟩ rfl q.cells _ L2.out Try.underlying49 rfl (by rw [size49]; rfl) ?_; simp only [Act.put, List.setIfInBounds_toArray, List.set_cons_succ, List.set_cons_zero]; go_big_quiet_on)
              | (go_big_quiet_op; go_big_quiet_on)))
          refine wpQuiet_nil ?_
          rintro W ⟨nq, rfl⟩
          go_wp2
          go_ret
          exact ⟨by rw [HF'.out]; rfl, below_drewN hbel _⟩
        · rw [hs] at l3
          have HT' := Lib.hid (fun j x y hj => HT.out j x y hj hs)
          clear hs
          go_wp2
          refine wp_region_quiet_lit (by kernel_rfl) (by kernel_rfl) ?_
          repeat (first
            | go_big_quiet_skip
            | (go_big_quiet_want; first
              | (refine quiet_load 49 _ rfl ⟨b, o + k * 9, none⟩ rfl p.cells _ L1.out Try.underlying49 rfl (by rw [size49]; rfl) ?_; simp only [Act.put, List.setIfInBounds_toArray, List.set_cons_succ, List.set_cons_zero]; go_big_quiet_on)
              | (refine quiet_load 49 _ rfl ⟨b', o' + k * 9, none⟩ rfl q.cells _ L2.out Try.underlying49 rfl (by rw [size49]; rfl) ?_; simp only [Act.put, List.setIfInBounds_toArray, List.set_cons_succ, List.set_cons_zero]; go_big_quiet_on)
              | (go_big_quiet_op; go_big_quiet_on)))
          refine wpQuiet_nil ?_
          rintro W ⟨nq, rfl⟩
          go_wp2
          go_roundg g
          case measure => omega
          case rel => exact ⟨k + 1, by omega, by go_num, HT'.out, below_drewN hbel _⟩
  · have hs := samePs_len ps qs (by rw [hp.1, hq.1]; exact hnm)
    rw [hs]
    have hb : ((n : Int) != (m : Int)) = true := by rw [bne_iff_ne]; omega
    clear hp hq hs
    go_enter Try.func36, Try.ntmps36
    go_wp2
    go_ret
    exact ⟨rfl, Below.refl _ _⟩
set_option maxHeartbeats 1000000 in
theorem equalpages_x (n m cap cap' : Nat) (A B : Option Addr) (ps qs : List Pg) (w : World) (hp : ReadsP w A n ps) (hq : ReadsP w B m qs) :
    Calls Try.prog 37 #[.slice A n cap, .slice B m cap'] w fun e w' => e = .returned (.bool (samePs ps qs)) ∧ Below w.heap.size w w' := by
  have hn := hp.2.1
  by_cases hnm : n = m
  · subst hnm
    have HP := Lib.hid hp
    have HQ := Lib.hid hq
    clear hp hq
    go_enter Try.func37, Try.ntmps37
    go_wp2
    go_loopg [13] n (fun g s5 wx => ∃ k : Nat, k + g = n ∧ s5 = .int .i64 k ∧ (∀ j p q, j < k → ps[j]? = some p → qs[j]? = some q → sameP p q = true) ∧ Below w.heap.size w wx)
    case atStart => exact ⟨0, by omega, rfl, fun j p q hj => by omega, Below.refl _ _⟩
    case round =>
      obtain ⟨k, hk, rfl, hall, hbel⟩ := hrel
      have HA := Lib.hid hall
      clear hall
      cases gk with
      | zero =>
        have hge : ¬ ((k : Int) < (n : Int)) := by omega
        go_wp2
        go_ret
        refine ⟨?_, hbel⟩
        rw [(samePs_at ps qs (HP.out.1.trans HQ.out.1.symm)).2 (fun j p q hp hq => HA.out j p q (by have := (List.getElem?_eq_some_iff.1 hp).1; have := HP.out.1; omega) hp hq)]
        rfl
      | succ g =>
        have hlt : (k : Int) < (n : Int) := by omega
        obtain ⟨p, hp⟩ := get_of_lt ps k (by have := HP.out.1; omega)
        obtain ⟨q, hq⟩ := get_of_lt qs k (by have := HQ.out.1; omega)
        obtain ⟨b, o, rfl, _, hc⟩ := (HP.out.more hbel).2.2.2 k (by omega)
        obtain ⟨b', o', rfl, _, hc'⟩ := (HQ.out.more hbel).2.2.2 k (by omega)
        have l1 : ∀ W, (∃ nn, W = wr.drewN nn) → ∀ (j : Nat) (v : Value), p.cells[j]? = some v → W.cell? ((⟨b, o + k * 9, none⟩ : Addr).add j) = some v := by
          rintro W ⟨nn, rfl⟩ j v hv
          rw [Addr.add_mid]; exact hc p hp j v hv
        have l2 : ∀ W, (∃ nn, W = wr.drewN nn) → ∀ (j : Nat) (v : Value), q.cells[j]? = some v → W.cell? ((⟨b', o' + k * 9, none⟩ : Addr).add j) = some v := by
          rintro W ⟨nn, rfl⟩ j v hv
          rw [Addr.add_mid]; exact hc' q hq j v hv
        have L1 := Lib.hid l1
        have L2 := Lib.hid l2
        clear l1 l2
        have l3 := fun W => run_neq49 W p q
        have ht : ∀ j x y, j < k + 1 → sameP p q = true → ps[j]? = some x → qs[j]? = some y → sameP x y = true := by
          intro j x y hj hs hx hy
          by_cases e : j = k
          · subst e; rw [hp] at hx; rw [hq] at hy; injection hx with hx; injection hy with hy; subst hx hy; exact hs
          · exact HA.out j x y (by omega) hx hy
        have HT := Lib.hid ht
        have hf : sameP p q = false → samePs ps qs = false := by
          intro hs
          rw [Bool.eq_false_iff]
          intro hh
          rw [(samePs_at ps qs (HP.out.1.trans HQ.out.1.symm)).1 hh k p q hp hq] at hs
          exact absurd hs (by decide)
        have HF := Lib.hid hf
        clear ht hf hp hq hc hc'
        cases hs : sameP p q
        · rw [hs] at l3
          have HF' := Lib.hid (HF.out hs)
          clear hs
          go_wp2
          refine wp_region_quiet_lit (by kernel_rfl) (by kernel_rfl) ?_
          repeat (first
            | go_big_quiet_skip
            | (go_big_quiet_want; first
              | (refine quiet_load 49 _ rfl ⟨b, o + k * 9, none⟩ rfl p.cells _ L1.out Try.underlying49 rfl (by rw [size49]; rfl) ?_; simp only [Act.put, List.setIfInBounds_toArray, List.set_cons_succ, List.set_cons_zero]; go_big_quiet_on)
              | (refine quiet_load 49 _ rfl ⟨b', o' + k * 9, none⟩ rfl q.cells _ L2.out Try.underlying49 rfl (by rw [size49]; rfl) ?_; simp only [Act.put, List.setIfInBounds_toArray, List.set_cons_succ, List.set_cons_zero]; go_big_quiet_on)
              | (go_big_quiet_op; go_big_quiet_on)))
          refine wpQuiet_nil ?_
          rintro W ⟨nq, rfl⟩
          go_wp2
          go_ret
          exact ⟨by rw [HF'.out]; rfl, below_drewN hbel _⟩
        · rw [hs] at l3
          have HT' := Lib.hid (fun j x y hj => HT.out j x y hj hs)
          clear hs
          go_wp2
          refine wp_region_quiet_lit (by kernel_rfl) (by kernel_rfl) ?_
          repeat (first
            | go_big_quiet_skip
            | (go_big_quiet_want; first
              | (refine quiet_load 49 _ rfl ⟨b, o + k * 9, none⟩ rfl p.cells _ L1.out Try.underlying49 rfl (by rw [size49]; rfl) ?_; simp only [Act.put, List.setIfInBounds_toArray, List.set_cons_succ, List.set_cons_zero]; go_big_quiet_on)
              | (refine quiet_load 49 _ rfl ⟨b', o' + k * 9, none⟩ rfl q.cells _ L2.out Try.underlying49 rfl (by rw [size49]; rfl) ?_; simp only [Act.put, List.setIfInBounds_toArray, List.set_cons_succ, List.set_cons_zero]; go_big_quiet_on)
              | (go_big_quiet_op; go_big_quiet_on)))
          refine wpQuiet_nil ?_
          rintro W ⟨nq, rfl⟩
          go_wp2
          go_roundg g
          case measure => omega
          case rel => exact ⟨k + 1, by omega, by go_num, HT'.out, below_drewN hbel _⟩
  · have hs := samePs_len ps qs (by rw [hp.1, hq.1]; exact hnm)
    rw [hs]
    have hb : ((n : Int) != (m : Int)) = true := by rw [bne_iff_ne]; omega
    clear hp hq hs
    go_enter Try.func37, Try.ntmps37
    go_wp2
    go_ret
    exact ⟨rfl, Below.refl _ _⟩

set_option maxHeartbeats 1000000 in
theorem same_x (a b : Int) (n m cap cap' : Nat) (A B : Option Addr) (ps qs : List Pg) (w : World) (hp : ReadsP w A n ps) (hq : ReadsP w B m qs) :
    Calls Try.prog 20 #[.agg #[.int .i64 a, .slice A n cap], .agg #[.int .i64 b, .slice B m cap']] w fun e w' => e = .returned (.bool (a == b && samePs ps qs)) ∧ Below w.heap.size w w' := by
  have HP := Lib.hid hp
  have HQ := Lib.hid hq
  clear hp hq
  cases hab : (a == b)
  · go_enter Try.func20, Try.ntmps20
    go_wp2
    go_ret
    exact ⟨rfl, ((Below.refl _ w).alloc (Nat.le_refl _) _).alloc (by simp) _⟩
  · go_enter Try.func20, Try.ntmps20
    go_wp2_with fail
    have hb := ((Below.refl _ w).alloc (Nat.le_refl _) (.cells #[.int .i64 a, .slice A n cap] 34)).alloc (by simp) (.cells #[.int .i64 b, .slice B m cap'] 34)
    refine (equalpages_x _ _ _ _ _ _ _ _ _ (HP.out.more hb) (HQ.out.more hb)).mono ?_
    rintro e w1 ⟨rfl, hw1⟩
    go_wp2
    go_ret
    exact ⟨by simp, hb.trans (hw1.mono hb.size)⟩
set_option maxHeartbeats 1000000 in
theorem samerecord_x (a b : Int) (n m cap cap' : Nat) (A B : Option Addr) (ps qs : List Pg) (w : World) (hp : ReadsP w A n ps) (hq : ReadsP w B m qs) :
    Calls Try.prog 17 #[.agg #[.int .i64 a, .slice A n cap], .agg #[.int .i64 b, .slice B m cap']] w fun e w' => e = .returned (.bool (a == b && samePs ps qs)) ∧ Below w.heap.size w w' := by
  have HP := Lib.hid hp
  have HQ := Lib.hid hq
  clear hp hq
  cases hab : (a == b)
  · go_enter Try.func17, Try.ntmps17
    go_wp2
    go_ret
    exact ⟨rfl, ((Below.refl _ w).alloc (Nat.le_refl _) _).alloc (by simp) _⟩
  · go_enter Try.func17, Try.ntmps17
    go_wp2_with fail
    have hb := ((Below.refl _ w).alloc (Nat.le_refl _) (.cells #[.int .i64 a, .slice A n cap] 27)).alloc (by simp) (.cells #[.int .i64 b, .slice B m cap'] 27)
    refine (samepages_x _ _ _ _ _ _ _ _ _ (HP.out.more hb) (HQ.out.more hb)).mono ?_
    rintro e w1 ⟨rfl, hw1⟩
    go_wp2
    go_ret
    exact ⟨by simp, hb.trans (hw1.mono hb.size)⟩
end Go.Proofs.Ytmeppeadfhifeaa
