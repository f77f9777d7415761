/- Marks and locks, in package word and in its reference; logrec.Locked and the reference's. Conditions: a header is a word. -/
import Derived.Test.YtmeppeadfhifeaaWord
namespace Go.Proofs.Ytmeppeadfhifeaa
open Go.RowKit
set_option linter.unusedVariables false
set_option linter.unusedSimpArgs false

theorem or_add (i : Nat) (a b : Int) (h0 : 0 ≤ a) (h1 : a < 18446744073709551616) (h2 : 0 ≤ b) (h3 : b < 18446744073709551616) (hm : a.toNat % 2 ^ i = 0) (hb : b.toNat < 2 ^ i) :
    Go.bits .or .u64 a b = a + b := by
  have e := u64_or_nat a.toNat b.toNat (by omega) (by omega)
  rw [Int.toNat_of_nonneg h0, Int.toNat_of_nonneg h2] at e
  have e2 := Nat.two_pow_add_eq_or_of_lt hb (a.toNat / 2 ^ i)
  have e3 : 2 ^ i * (a.toNat / 2 ^ i) = a.toNat := Nat.mul_div_cancel' (Nat.dvd_of_mod_eq_zero hm)
  rw [e3] at e2
  rw [e, ← e2]
  omega

def markOk (n : Int) : Bool := decide (1 ≤ n ∧ n < 1073741824)
def markV (n : Int) : Int := if markOk n then n * 4 + 2 else 0
def markE (n : Int) : Int := if markOk n then 0 else 2

set_option maxHeartbeats 1000000 in
theorem mark_x (n : Int) (w : World) : Calls Try.prog 35 #[.int .i64 n] w fun e w' => e = .returned (.tuple #[.int .u64 (markV n), .int .i64 (markE n)]) ∧ w = w' := by
  by_cases c1 : 1 ≤ n
  · by_cases c2 : n < 1073741824
    · have hm : markOk n = true := decide_eq_true ⟨c1, c2⟩
      have ho := or_add 2 (n * 4) 2 (by omega) (by omega) (by omega) (by omega) (by omega) (by omega)
      rw [show markV n = n * 4 + 2 by unfold markV; rw [hm]; rfl, show markE n = 0 by unfold markE; rw [hm]; rfl]
      clear hm
      have d1 : decide (n ≤ 1073741823) = true := decide_eq_true (by omega)
      go_enter Try.func35, Try.ntmps35
      go_wp2
      go_ret2
      exact ⟨rfl, rfl⟩
    · have hm : markOk n = false := decide_eq_false (by omega)
      rw [show markV n = 0 by unfold markV; rw [hm]; rfl, show markE n = 2 by unfold markE; rw [hm]; rfl]
      clear hm
      have c3 : decide (n ≤ 1073741823) = false := decide_eq_false (by omega)
      go_enter Try.func35, Try.ntmps35
      go_wp2
      go_ret2
      exact ⟨rfl, rfl⟩
  · have hm : markOk n = false := decide_eq_false (by omega)
    rw [show markV n = 0 by unfold markV; rw [hm]; rfl, show markE n = 2 by unfold markE; rw [hm]; rfl]
    clear hm
    go_enter Try.func35, Try.ntmps35
    go_wp2
    go_ret2
    exact ⟨rfl, rfl⟩
set_option maxHeartbeats 1000000 in
theorem rmark_x (n : Int) (w : World) : Calls Try.prog 10 #[.int .i64 n] w fun e w' => e = .returned (.tuple #[.int .u64 (markV n), .int .i64 (markE n)]) ∧ w = w' := by
  by_cases c1 : 1 ≤ n
  · by_cases c2 : n < 1073741824
    · have hm : markOk n = true := decide_eq_true ⟨c1, c2⟩
      have ho := or_add 2 (n * 4) 2 (by omega) (by omega) (by omega) (by omega) (by omega) (by omega)
      rw [show markV n = n * 4 + 2 by unfold markV; rw [hm]; rfl, show markE n = 0 by unfold markE; rw [hm]; rfl]
      clear hm
      go_enter Try.func10, Try.ntmps10
      go_wp2
      go_ret2
      exact ⟨rfl, rfl⟩
    · have hm : markOk n = false := decide_eq_false (by omega)
      rw [show markV n = 0 by unfold markV; rw [hm]; rfl, show markE n = 2 by unfold markE; rw [hm]; rfl]
      clear hm
      have c3 : 1073741823 < n := by omega
      go_enter Try.func10, Try.ntmps10
      go_wp2
      go_ret2
      exact ⟨rfl, rfl⟩
  · have hm : markOk n = false := decide_eq_false (by omega)
    rw [show markV n = 0 by unfold markV; rw [hm]; rfl, show markE n = 2 by unfold markE; rw [hm]; rfl]
    clear hm
    go_enter Try.func10, Try.ntmps10
    go_wp2
    go_ret2
    exact ⟨rfl, rfl⟩

def lockE (h : Nat) (c : Int) : Int := if decide (0 ≤ c ∧ c ≤ 5) then (if free h then 0 else 3) else 1
def lockV (h : Nat) (c : Int) : Int := if decide (0 ≤ c ∧ c ≤ 5) then (if free h then h + (c + 1) else 0) else 0
set_option maxHeartbeats 1000000 in
theorem lock_x (h : Nat) (c : Int) (w : World) (hh : h < 18446744073709551616) : Calls Try.prog 51 #[.int .u64 (h : Int), .int .i64 c] w fun e w' => e = .returned (.tuple #[.int .u64 (lockV h c), .int .i64 (lockE h c)]) ∧ w = w' := by
  have ha := and255w h hh
  have hu := fun W => unlocked_x h W hh
  by_cases c1 : 0 ≤ c
  · by_cases c2 : c ≤ 5
    · have d1 : decide (c ≤ 5) = true := decide_eq_true c2
      have hc : decide (0 ≤ c ∧ c ≤ 5) = true := decide_eq_true ⟨c1, c2⟩
      cases hf : free h
      · rw [show lockV h c = 0 by unfold lockV; rw [hc, hf]; rfl, show lockE h c = 3 by unfold lockE; rw [hc, hf]; rfl]
        rw [hf] at hu
        clear hc hf
        go_enter Try.func51, Try.ntmps51
        go_wp2_with (first | (go_at_call 43; refine (hu _).mono ?_; rintro e w' ⟨rfl, rfl⟩) | go_in)
        go_ret2
        exact ⟨rfl, rfl⟩
      · have hm : h % 256 = 0 := by unfold free at hf; simpa using hf
        have ho := or_add 8 (h : Int) (c + 1) (by omega) (by omega) (by omega) (by omega) (by rw [Int.toNat_natCast]; exact hm) (by omega)
        rw [show lockV h c = h + (c + 1) by unfold lockV; rw [hc, hf]; rfl, show lockE h c = 0 by unfold lockE; rw [hc, hf]; rfl]
        rw [hf] at hu
        clear hc hf hm
        go_enter Try.func51, Try.ntmps51
        go_wp2_with (first | (go_at_call 43; refine (hu _).mono ?_; rintro e w' ⟨rfl, rfl⟩) | go_in)
        go_ret2
        exact ⟨rfl, rfl⟩
    · have d1 : decide (c ≤ 5) = false := decide_eq_false c2
      have hc : decide (0 ≤ c ∧ c ≤ 5) = false := decide_eq_false (by omega)
      rw [show lockV h c = 0 by unfold lockV; rw [hc]; rfl, show lockE h c = 1 by unfold lockE; rw [hc]; rfl]
      clear hc
      go_enter Try.func51, Try.ntmps51
      go_wp2
      go_ret2
      exact ⟨rfl, rfl⟩
  · have hc : decide (0 ≤ c ∧ c ≤ 5) = false := decide_eq_false (by omega)
    rw [show lockV h c = 0 by unfold lockV; rw [hc]; rfl, show lockE h c = 1 by unfold lockE; rw [hc]; rfl]
    clear hc
    go_enter Try.func51, Try.ntmps51
    go_wp2
    go_ret2
    exact ⟨rfl, rfl⟩

set_option maxHeartbeats 1000000 in
theorem rlock_x (h : Nat) (c : Int) (w : World) (hh : h < 18446744073709551616) : Calls Try.prog 52 #[.int .u64 (h : Int), .int .i64 c] w fun e w' => e = .returned (.tuple #[.int .u64 (lockV h c), .int .i64 (lockE h c)]) ∧ w = w' := by
  have ha := and255w h hh
  have hu := fun W => runlocked_x h W hh
  by_cases c1 : 0 ≤ c
  · by_cases c2 : c ≤ 5
    · have d1 : decide (c < 6) = true := decide_eq_true (by omega)
      have hc : decide (0 ≤ c ∧ c ≤ 5) = true := decide_eq_true ⟨c1, c2⟩
      cases hf : free h
      · rw [show lockV h c = 0 by unfold lockV; rw [hc, hf]; rfl, show lockE h c = 3 by unfold lockE; rw [hc, hf]; rfl]
        rw [hf] at hu
        clear hc hf
        go_enter Try.func52, Try.ntmps52
        go_wp2_with (first | (go_at_call 46; refine (hu _).mono ?_; rintro e w' ⟨rfl, rfl⟩) | go_in)
        go_ret2
        exact ⟨rfl, rfl⟩
      · have hm : h % 256 = 0 := by unfold free at hf; simpa using hf
        have ho := or_add 8 (h : Int) (c + 1) (by omega) (by omega) (by omega) (by omega) (by rw [Int.toNat_natCast]; exact hm) (by omega)
        rw [show lockV h c = h + (c + 1) by unfold lockV; rw [hc, hf]; rfl, show lockE h c = 0 by unfold lockE; rw [hc, hf]; rfl]
        rw [hf] at hu
        clear hc hf hm
        go_enter Try.func52, Try.ntmps52
        go_wp2_with (first | (go_at_call 46; refine (hu _).mono ?_; rintro e w' ⟨rfl, rfl⟩) | go_in)
        go_ret2
        exact ⟨rfl, rfl⟩
    · have d1 : decide (c < 6) = false := decide_eq_false (by omega)
      have hc : decide (0 ≤ c ∧ c ≤ 5) = false := decide_eq_false (by omega)
      rw [show lockV h c = 0 by unfold lockV; rw [hc]; rfl, show lockE h c = 1 by unfold lockE; rw [hc]; rfl]
      clear hc
      go_enter Try.func52, Try.ntmps52
      go_wp2
      go_ret2
      exact ⟨rfl, rfl⟩
  · have hc : decide (0 ≤ c ∧ c ≤ 5) = false := decide_eq_false (by omega)
    rw [show lockV h c = 0 by unfold lockV; rw [hc]; rfl, show lockE h c = 1 by unfold lockE; rw [hc]; rfl]
    clear hc
    go_enter Try.func52, Try.ntmps52
    go_wp2
    go_ret2
    exact ⟨rfl, rfl⟩

set_option maxHeartbeats 1000000 in
theorem locked_x (p : Pg) (c : Int) (w : World) (hp : p.ok) : Calls Try.prog 30 #[.agg p.cells, .int .i64 c] w fun e w' => e = .returned (.tuple #[.int .u64 (lockV p.head c), .int .i64 (lockE p.head c)]) ∧ Below w.heap.size w w' := by
  have hl := fun W => lock_x p.head c W hp.2.2.1
  clear hp
  unfold Pg.cells
  go_enter Try.func30, Try.ntmps30
  go_wp2_with (first | (go_at_call 51; refine (hl _).mono ?_; rintro e w' ⟨rfl, rfl⟩) | fail)
  go_ret2
  exact ⟨rfl, (Below.refl _ w).alloc (Nat.le_refl _) _⟩

set_option maxHeartbeats 1000000 in
theorem rlocked_x (p : Pg) (c : Int) (w : World) (hp : p.ok) : Calls Try.prog 31 #[.agg p.cells, .int .i64 c] w fun e w' => e = .returned (.tuple #[.int .u64 (lockV p.head c), .int .i64 (lockE p.head c)]) ∧ Below w.heap.size w w' := by
  have hl := fun W => rlock_x p.head c W hp.2.2.1
  clear hp
  unfold Pg.cells
  go_enter Try.func31, Try.ntmps31
  go_wp2_with (first | (go_at_call 52; refine (hl _).mono ?_; rintro e w' ⟨rfl, rfl⟩) | fail)
  go_ret2
  exact ⟨rfl, (Below.refl _ w).alloc (Nat.le_refl _) _⟩

end Go.Proofs.Ytmeppeadfhifeaa
