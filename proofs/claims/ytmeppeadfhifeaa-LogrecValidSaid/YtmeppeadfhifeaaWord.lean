/- What logrec uses of package word and of its reference: next headers, locks, marks. Conditions: the words are words. -/
import Derived.Test.YtmeppeadfhifeaaRec
namespace Go.Proofs.Ytmeppeadfhifeaa
open Go.RowKit
set_option linter.unusedVariables false
set_option linter.unusedSimpArgs false

def nextOk (h : Nat) : Bool := decide (1 ≤ h / 256 ∧ h / 256 ≤ 281474976710654)
def nextV (h : Nat) : Nat := if nextOk h then (h / 256 + 1) * 256 else 0
def nextE (h : Nat) : Int := if nextOk h then 0 else 2
def free (h : Nat) : Bool := h % 256 == 0

theorem and255w (h : Nat) (h1 : h < 18446744073709551616) : bits .and .u64 (h : Int) 255 = ((h % 256 : Nat) : Int) := by
  have := u64_and_nat h 255 h1 (by omega)
  rwa [Go.nat_mask8] at this


set_option maxHeartbeats 1000000 in
theorem next_x (h : Nat) (w : World) (h1 : h < 18446744073709551616) :
    Calls Try.prog 42 #[.int .u64 (h : Int)] w fun e w' => e = .returned (.tuple #[.int .u64 (nextV h : Int), .int .i64 (nextE h)]) ∧ w = w' := by
  have ha := and255w h h1
  have hb : (h : Int) / 256 ≤ 72057594037927935 := by omega
  by_cases c1 : 1 ≤ h / 256
  · by_cases c2 : h / 256 ≤ 281474976710654
    · have e1 : ((nextV h : Nat) : Int) = ((h : Int) / 256 + 1) * 256 := by unfold nextV nextOk; rw [decide_eq_true ⟨c1, c2⟩]; simp only [if_true]; omega
      have e2 : nextE h = 0 := by unfold nextE nextOk; rw [decide_eq_true ⟨c1, c2⟩]; rfl
      rw [e1, e2]
      clear e1 e2
      have d1 : (1 : Int) ≤ (h : Int) / 256 := by omega
      have d2 : (h : Int) / 256 ≤ 281474976710654 := by omega
      go_enter Try.func42, Try.ntmps42
      go_wp2
      go_ret2
      exact ⟨rfl, rfl⟩
    · have hn : nextOk h = false := by unfold nextOk; rw [decide_eq_false]; omega
      have e1 : ((nextV h : Nat) : Int) = 0 := by unfold nextV; rw [hn]; rfl
      have e2 : nextE h = 2 := by unfold nextE; rw [hn]; rfl
      rw [e1, e2]
      clear e1 e2 hn
      have d1 : (1 : Int) ≤ (h : Int) / 256 := by omega
      have d2 : (281474976710654 : Int) < (h : Int) / 256 := by omega
      have d3 : decide ((h : Int) / 256 ≤ 281474976710654) = false := decide_eq_false (by omega)
      go_enter Try.func42, Try.ntmps42
      go_wp2
      go_ret2
      exact ⟨rfl, rfl⟩
  · have hn : nextOk h = false := by unfold nextOk; rw [decide_eq_false]; omega
    have e1 : ((nextV h : Nat) : Int) = 0 := by unfold nextV; rw [hn]; rfl
    have e2 : nextE h = 2 := by unfold nextE; rw [hn]; rfl
    rw [e1, e2]
    clear e1 e2 hn
    have d1 : (h : Int) / 256 < 1 := by omega
    go_enter Try.func42, Try.ntmps42
    go_wp2
    go_ret2
    exact ⟨rfl, rfl⟩

set_option maxHeartbeats 1000000 in
theorem rnext_x (h : Nat) (w : World) (h1 : h < 18446744073709551616) :
    Calls Try.prog 45 #[.int .u64 (h : Int)] w fun e w' => e = .returned (.tuple #[.int .u64 (nextV h : Int), .int .i64 (nextE h)]) ∧ w = w' := by
  have ha := and255w h h1
  have hb : (h : Int) / 256 ≤ 72057594037927935 := by omega
  by_cases c1 : 1 ≤ h / 256
  · by_cases c2 : h / 256 ≤ 281474976710654
    · have e1 : ((nextV h : Nat) : Int) = ((h : Int) / 256 + 1) * 256 := by unfold nextV nextOk; rw [decide_eq_true ⟨c1, c2⟩]; simp only [if_true]; omega
      have e2 : nextE h = 0 := by unfold nextE nextOk; rw [decide_eq_true ⟨c1, c2⟩]; rfl
      rw [e1, e2]
      clear e1 e2
      have d1 : (1 : Int) ≤ (h : Int) / 256 := by omega
      have d2 : (h : Int) / 256 ≤ 281474976710654 := by omega
      go_enter Try.func45, Try.ntmps45
      go_wp2
      go_ret2
      exact ⟨rfl, rfl⟩
    · have hn : nextOk h = false := by unfold nextOk; rw [decide_eq_false]; omega
      have e1 : ((nextV h : Nat) : Int) = 0 := by unfold nextV; rw [hn]; rfl
      have e2 : nextE h = 2 := by unfold nextE; rw [hn]; rfl
      rw [e1, e2]
      clear e1 e2 hn
      have d1 : (1 : Int) ≤ (h : Int) / 256 := by omega
      have d2 : (281474976710654 : Int) < (h : Int) / 256 := by omega
      have d3 : decide ((h : Int) / 256 ≤ 281474976710654) = false := decide_eq_false (by omega)
      go_enter Try.func45, Try.ntmps45
      go_wp2
      go_ret2
      exact ⟨rfl, rfl⟩
  · have hn : nextOk h = false := by unfold nextOk; rw [decide_eq_false]; omega
    have e1 : ((nextV h : Nat) : Int) = 0 := by unfold nextV; rw [hn]; rfl
    have e2 : nextE h = 2 := by unfold nextE; rw [hn]; rfl
    rw [e1, e2]
    clear e1 e2 hn
    have d1 : (h : Int) / 256 < 1 := by omega
    go_enter Try.func45, Try.ntmps45
    go_wp2
    go_ret2
    exact ⟨rfl, rfl⟩

set_option maxHeartbeats 1000000 in
theorem unlocked_x (h : Nat) (w : World) (h1 : h < 18446744073709551616) :
    Calls Try.prog 43 #[.int .u64 (h : Int)] w fun e w' => e = .returned (.bool (free h)) ∧ w = w' := by
  have ha := and255w h h1
  have hf : free h = (((h % 256 : Nat) : Int) == 0) := by unfold free; rw [Bool.eq_iff_iff, beq_iff_eq, beq_iff_eq]; omega
  rw [hf]
  clear hf
  go_enter Try.func43, Try.ntmps43
  go_wp2
  go_ret
  exact ⟨rfl, rfl⟩

set_option maxHeartbeats 1000000 in
theorem runlocked_x (h : Nat) (w : World) (h1 : h < 18446744073709551616) :
    Calls Try.prog 46 #[.int .u64 (h : Int)] w fun e w' => e = .returned (.bool (free h)) ∧ w = w' := by
  have ha := and255w h h1
  have hf : free h = (((h % 256 : Nat) : Int) == 0) := by unfold free; rw [Bool.eq_iff_iff, beq_iff_eq, beq_iff_eq]; omega
  rw [hf]
  clear hf
  go_enter Try.func46, Try.ntmps46
  go_wp2
  go_ret
  exact ⟨rfl, rfl⟩

def isLinesB (l : Int) : Bool := decide (98 ≤ l ∧ l ≤ 256)
set_option maxHeartbeats 1000000 in
theorem islines_x (l : Int) (w : World) : Calls Try.prog 39 #[.int .i64 l] w fun e w' => e = .returned (.bool (isLinesB l)) ∧ w = w' := by
  by_cases c1 : 98 ≤ l
  · by_cases c2 : l ≤ 256
    · rw [show isLinesB l = true from decide_eq_true ⟨c1, c2⟩]
      go_enter Try.func39, Try.ntmps39
      go_wp2
      go_ret
      exact ⟨rfl, rfl⟩
    · rw [show isLinesB l = false from decide_eq_false (fun h => c2 h.2)]
      go_enter Try.func39, Try.ntmps39
      go_wp2
      go_ret
      exact ⟨rfl, rfl⟩
  · rw [show isLinesB l = false from decide_eq_false (fun h => c1 h.1)]
    go_enter Try.func39, Try.ntmps39
    go_wp2
    go_ret
    exact ⟨rfl, rfl⟩

def inHeapB (x l : Int) : Bool := decide (96 ≤ x ∧ x < l)
set_option maxHeartbeats 1000000 in
theorem inheap_x (x l : Int) (w : World) (c1 : 98 ≤ l) (c2 : l ≤ 256) : Calls Try.prog 44 #[.int .i64 x, .int .i64 l] w fun e w' => e = .returned (.bool (inHeapB x l)) ∧ w = w' := by
  by_cases c3 : 96 ≤ x
  · by_cases c4 : x < l
    · rw [show inHeapB x l = true from decide_eq_true ⟨c3, c4⟩]
      go_enter Try.func44, Try.ntmps44
      go_wp2
      go_ret
      exact ⟨rfl, rfl⟩
    · rw [show inHeapB x l = false from decide_eq_false (fun h => c4 h.2)]
      go_enter Try.func44, Try.ntmps44
      go_wp2
      go_ret
      exact ⟨rfl, rfl⟩
  · rw [show inHeapB x l = false from decide_eq_false (fun h => c3 h.1)]
    go_enter Try.func44, Try.ntmps44
    go_wp2
    go_ret
    exact ⟨rfl, rfl⟩
end Go.Proofs.Ytmeppeadfhifeaa
