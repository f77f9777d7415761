/- logrec.Valid and the reference's ValidRecord: what is wrong with a record. Conditions: the writes read as pages. -/
import Derived.Test.YtmeppeadfhifeaaWord
import Derived.Test.YtmeppeadfhifeaaSame
namespace Go.Proofs.Ytmeppeadfhifeaa
open Go.RowKit
set_option linter.unusedVariables false
set_option linter.unusedSimpArgs false

def badLine (l : Int) (p : Pg) : Bool := decide (p.line < 96) || decide (l ≤ p.line)
def headOk (p : Pg) : Bool := nextOk p.head && free p.head
def upB : List Pg → Bool
  | p :: q :: ps => decide (p.line < q.line) && upB (q :: ps)
  | _ => true
def validN (seq : Int) (ps : List Pg) (l : Int) : Int :=
  if isLinesB l = false then 18
  else if (decide (1 ≤ seq ∧ seq < 1073741824) && decide (1 ≤ ps.length ∧ ps.length ≤ 12)) = false then 1
  else if ps.any (badLine l) = true then 2
  else if (upB ps && ps.all headOk) = true then 0 else 1

theorem upB_at (ps : List Pg) : upB ps = true ↔ ∀ (j : Nat) (p q : Pg), ps[j]? = some p → ps[j + 1]? = some q → p.line < q.line := by
  induction ps with
  | nil => simp [upB]
  | cons p ps ih =>
    cases ps with
    | nil => simp [upB]
    | cons q ps =>
      simp only [upB, Bool.and_eq_true, ih, decide_eq_true_eq]
      constructor
      · rintro ⟨h0, h1⟩ j x y hx hy
        cases j with
        | zero => simp at hx hy; subst hx hy; exact h0
        | succ j => exact h1 j x y (by simpa using hx) (by simpa using hy)
      · intro h
        exact ⟨h 0 p q rfl rfl, fun j x y hx hy => h (j + 1) x y (by simpa using hx) (by simpa using hy)⟩

theorem inHeapB_bad (p : Pg) (l : Int) : inHeapB p.line l = !badLine l p := by
  unfold inHeapB badLine
  by_cases a : p.line < 96 <;> by_cases b : l ≤ p.line <;> simp_all <;> omega

set_option maxHeartbeats 1000000 in
theorem pred_x (p : Pg) (l : Int) (B : Nat) (w : World) (hB : B < w.heap.size) (hcell : w.cell? ⟨B, 0, none⟩ = some (.int .i64 l)) :
    Calls Try.prog 41 #[.agg p.cells, .pointer (some ⟨B, 0, none⟩)] w fun e w' => e = .returned (.bool (badLine l p)) ∧ Below w.heap.size w w' := by
  have hne : B ≠ w.heap.size := by omega
  by_cases c1 : p.line < 96
  · rw [show badLine l p = true by simp [badLine, c1]]
    unfold Pg.cells
    go_enter Try.func41, Try.ntmps41
    go_wp2
    go_ret
    exact ⟨rfl, (Below.refl _ w).alloc (Nat.le_refl _) _⟩
  · have c2 : decide (p.line < 96) = false := decide_eq_false c1
    rw [show badLine l p = decide (l ≤ p.line) by simp [badLine, c1]]
    unfold Pg.cells
    go_enter Try.func41, Try.ntmps41
    go_wp2
    go_ret
    exact ⟨by simp, (Below.refl _ w).alloc (Nat.le_refl _) _⟩

set_option maxHeartbeats 1000000 in
theorem indexfunc_x (n cap : Nat) (A : Option Addr) (ps : List Pg) (l : Int) (B : Nat) (w : World) (hp : ReadsP w A n ps) (hB : B < w.heap.size) (hcell : w.cell? ⟨B, 0, none⟩ = some (.int .i64 l)) :
    Calls Try.prog 55 #[.slice A n cap, .func (.func 41) #[] #[.pointer (some ⟨B, 0, none⟩)]] w fun e w' => (∃ r : Int, e = .returned (.int .i64 r) ∧ decide (0 ≤ r) = ps.any (badLine l)) ∧ Below w.heap.size w w' := by
  have hn := hp.2.1
  have HP := Lib.hid hp
  have HC := Lib.hid hcell
  clear hp hcell
  go_enter Try.func55, Try.ntmps55
  go_wp2
  go_loopg [5, 8] n (fun g _ s8 wx => ∃ k : Nat, k + g = n ∧ s8 = .int .i64 k ∧ (∀ j p, j < k → ps[j]? = some p → badLine l p = false) ∧ Below w.heap.size w wx)
  case atStart => exact ⟨0, by omega, rfl, fun j p hj => by omega, Below.refl _ _⟩
  case round =>
    obtain ⟨k, hk, rfl, hall, hbel⟩ := hrel
    have HA := Lib.hid hall
    clear hall
    cases gk with
    | zero =>
      have hge : ¬ ((k : Int) < (n : Int)) := by omega
      go_wp2
      go_ret
      refine ⟨⟨-1, rfl, ?_⟩, hbel⟩
      symm
      simp only [show ¬ (0 : Int) ≤ -1 by omega, decide_false]
      rw [Bool.eq_false_iff]
      intro ha
      obtain ⟨p, hm, hb⟩ := List.any_eq_true.1 ha
      obtain ⟨j, hj, rfl⟩ := List.getElem_of_mem hm
      have := HA.out j _ (by have := HP.out.1; omega) (List.getElem?_eq_getElem hj)
      rw [this] at hb
      exact absurd hb (by decide)
    | succ g =>
      have hlt : (k : Int) < (n : Int) := by omega
      obtain ⟨p, hp⟩ := get_of_lt ps k (by have := HP.out.1; omega)
      obtain ⟨b, o, rfl, _, hc⟩ := (HP.out.more hbel).2.2.2 k (by omega)
      have l1 : ∀ (j : Nat) (v : Value), p.cells[j]? = some v → wr.cell? ((⟨b, o + k * 9, none⟩ : Addr).add j) = some v := by
        intro j v hv
        rw [Addr.add_mid]; exact hc p hp j v hv
      have L1 := Lib.hid l1
      have HP1 := Lib.hid hp
      have hcall := pred_x p l B wr (Nat.lt_of_lt_of_le hB hbel.size) ((hbel.cell (p := ⟨B, 0, none⟩) hB).trans HC.out)
      clear l1 hc hp
      cases hb : badLine l p
      · rw [hb] at hcall
        have HB := Lib.hid hb
        clear hb
        go_wp2_with (first
          | (go_at_call 41; refine hcall.mono ?_; rintro e w' ⟨rfl, hb'⟩)
          | (refine wpList_load_addr rfl 49 _ rfl ⟨b, o + k * 9, none⟩ rfl p.cells _ L1.out Try.underlying49 rfl (by rw [size49]; rfl) ?_)
          | fail)
        go_roundg g
        case measure => omega
        case rel =>
          refine ⟨k + 1, by omega, by go_num, fun j q hj hq => ?_, hbel.trans (hb'.mono hbel.size)⟩
          by_cases e : j = k
          · subst e; rw [HP1.out] at hq; injection hq with hq; subst hq; exact HB.out
          · exact HA.out j q (by omega) hq
      · rw [hb] at hcall
        have HB := Lib.hid hb
        clear hb
        go_wp2_with (first
          | (go_at_call 41; refine hcall.mono ?_; rintro e w' ⟨rfl, hb'⟩)
          | (refine wpList_load_addr rfl 49 _ rfl ⟨b, o + k * 9, none⟩ rfl p.cells _ L1.out Try.underlying49 rfl (by rw [size49]; rfl) ?_)
          | fail)
        go_ret
        refine ⟨⟨(k : Int), rfl, ?_⟩, hbel.trans (hb'.mono hbel.size)⟩
        rw [decide_eq_true (by omega : (0 : Int) ≤ (k : Int))]
        symm
        exact List.any_eq_true.2 ⟨p, List.mem_of_getElem? HP1.out, HB.out⟩

set_option maxHeartbeats 1000000 in
theorem containsfunc_x (n cap : Nat) (A : Option Addr) (ps : List Pg) (l : Int) (B : Nat) (w : World) (hp : ReadsP w A n ps) (hB : B < w.heap.size) (hcell : w.cell? ⟨B, 0, none⟩ = some (.int .i64 l)) :
    Calls Try.prog 40 #[.slice A n cap, .func (.func 41) #[] #[.pointer (some ⟨B, 0, none⟩)]] w fun e w' => e = .returned (.bool (ps.any (badLine l))) ∧ Below w.heap.size w w' := by
  have HP := Lib.hid hp
  have HC := Lib.hid hcell
  clear hp hcell
  go_enter Try.func40, Try.ntmps40
  go_wp2_with (first
    | (go_at_call 55; refine (indexfunc_x _ _ _ _ _ _ _ HP.out hB HC.out).mono ?_; rintro e w' ⟨⟨r, rfl, hr⟩, hb'⟩)
    | fail)
  go_ret
  exact ⟨by simp [← hr], hb'⟩
end Go.Proofs.Ytmeppeadfhifeaa
