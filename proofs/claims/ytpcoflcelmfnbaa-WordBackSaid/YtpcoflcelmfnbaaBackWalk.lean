/- The walk of the law WordBack: it returns true for all arguments. -/
import Derived.Test.YtpcoflcelmfnbaaBackNum
import Derived.WalkSpells
import Derived.WalkLawsBesides
import Derived.Lib.Hide
namespace Go.Proofs.Ytpcoflcelmfnbaa.Back
open Go.RowKit Go.Proofs.Ytpcoflcelmfnbaa.PWordBack Go.Proofs.YtpcoflcelmfnbaaW.PrintWords Go.Proofs.Ytpcoflcelmfnbaa.Num

def kw (n : Int) (b : Bool) : Int := n * 2 + (if b = true then 1 else 0)
def mw (s : Int) : Int := s * 4 + 2
def tw (i c : Int) : Int := i * 256 + (c + 1)
def lw (i u : Int) : Int := i * 4294967296 + u
def bw (r c : Int) : Int := r * 8 + c + 1

theorem pickc (n k : Int) (h1 : 1 ≤ k) (h2 : k ≤ 1099511627776) (w : World) : Calls Try.prog 22 #[.int .i64 n, .int .i64 k] w fun e w' => ∃ m : Int, 0 ≤ m ∧ m < k ∧ e = .returned (.int .i64 m) ∧ Drawn0 w w' :=
  (bodegahand_Pick.calls n k _ w (pick_ n k h1 h2)).mono fun _ _ ⟨he, hw⟩ => ⟨n % k, Int.emod_nonneg n (by omega), Int.emod_lt_of_pos n (by omega), he, hw⟩
theorem keyc (n : Int) (b : Bool) (h : 0 ≤ n ∧ n ≤ 15) (w : World) : Calls Try.prog 24 #[.int .i64 n, .bool b] w fun e w' => e = .returned (.tuple #[.int .u64 (kw n b), .int .i64 0]) ∧ Drawn0 w w' :=
  word_Key.calls n b _ _ w (key_in n b h)
theorem skeyc (n : Int) (b : Bool) (h : 0 ≤ n ∧ n ≤ 15) (w : World) : Calls Try.prog 39 #[.int .u64 (kw n b)] w fun e w' => e = .returned (.tuple #[.int .u64 n, .bool b]) ∧ Drawn0 w w' :=
  word_SplitKey.calls _ _ _ w (splitKey_in n b h)
theorem markc (s : Int) (h : 1 ≤ s ∧ s ≤ 1073741823) (w : World) : Calls Try.prog 26 #[.int .i64 s] w fun e w' => e = .returned (.tuple #[.int .u64 (mw s), .int .i64 0]) ∧ Drawn0 w w' :=
  word_Mark.calls s _ _ w (mark_in s h)
theorem smarkc (s : Int) (h : 1 ≤ s ∧ s ≤ 1073741823) (w : World) : Calls Try.prog 40 #[.int .u64 (mw s)] w fun e w' => e = .returned (.tuple #[.int .i64 s, .bool true]) ∧ Drawn0 w w' :=
  word_SplitMark.calls _ _ _ w (splitMark_in s h)
theorem tagc (i c : Int) (h : inc i) (hc : 0 ≤ c ∧ c ≤ 5) (w : World) : Calls Try.prog 28 #[.int .i64 i, .int .i64 c] w fun e w' => e = .returned (.tuple #[.int .u64 (tw i c), .int .i64 0]) ∧ Drawn0 w w' :=
  word_Tag.calls i c _ _ w (tag_in i c h hc)
theorem stagc (i c : Int) (h : inc i) (hc : 0 ≤ c ∧ c ≤ 5) (w : World) : Calls Try.prog 41 #[.int .u64 (tw i c)] w fun e w' => e = .returned (.tuple #[.int .i64 i, .int .i64 c, .bool true]) ∧ Drawn0 w w' :=
  word_SplitTag.calls _ _ _ _ w (splitTag_in i c h hc)
theorem leasec (i u : Int) (h : inc i) (hu : 0 ≤ u ∧ u ≤ 4294967295) (w : World) : Calls Try.prog 30 #[.int .i64 i, .int .i64 u] w fun e w' => e = .returned (.tuple #[.int .u64 (lw i u), .int .i64 0]) ∧ Drawn0 w w' :=
  word_Lease.calls i u _ _ w (lease_in i u h hu)
theorem sleasec (i u : Int) (h : inc i) (hu : 0 ≤ u ∧ u ≤ 4294967295) (w : World) : Calls Try.prog 42 #[.int .u64 (lw i u)] w fun e w' => e = .returned (.tuple #[.int .i64 i, .int .i64 u, .bool true]) ∧ Drawn0 w w' :=
  word_SplitLease.calls _ _ _ _ w (splitLease_in i u h hu)
theorem ballotc (r c : Int) (h : 1 ≤ r ∧ r ≤ 500) (hc : 0 ≤ c ∧ c ≤ 5) (w : World) : Calls Try.prog 23 #[.int .i64 r, .int .i64 c] w fun e w' => e = .returned (.tuple #[.int .u64 (bw r c), .int .i64 0]) ∧ Drawn0 w w' :=
  word_Ballot.calls r c _ _ w (ballot_in r c h hc)
theorem sballotc (r c : Int) (h : 1 ≤ r ∧ r ≤ 500) (hc : 0 ≤ c ∧ c ≤ 5) (w : World) : Calls Try.prog 43 #[.int .u64 (bw r c)] w fun e w' => e = .returned (.tuple #[.int .i64 r, .int .i64 c, .bool true]) ∧ Drawn0 w w' :=
  word_SplitBallot.calls _ _ _ _ w (splitBallot_in r c h hc)
theorem awakec (w : World) : Calls Try.prog 19 #[] w fun e w' => e = .returned (.bool true) ∧ Drawn0 w w' := bodegalaw1_awake.calls true w awake_

set_option maxHeartbeats 2000000 in
set_option maxRecDepth 100000 in
theorem back_walk (a0 : Int) (a1 : Bool) (a2 : Int) (a3 : Int) (a4 : Int) (a5 : Int) (a6 : Int) (a7 : Int) (_w0 : (Lit.int .i64 a0).wf = true) (_w2 : (Lit.int .i64 a2).wf = true) (_w3 : (Lit.int .i64 a3).wf = true) (_w4 : (Lit.int .i64 a4).wf = true) (_w5 : (Lit.int .i64 a5).wf = true) (_w6 : (Lit.int .i64 a6).wf = true) (_w7 : (Lit.int .i64 a7).wf = true) (w : World) :
    Calls Try.prog 9 #[.int .i64 a0, .bool a1, .int .i64 a2, .int .i64 a3, .int .i64 a4, .int .i64 a5, .int .i64 a6, .int .i64 a7] w fun e w' => e = .returned (.bool true) ∧ Grown w w' := by
  clear _w0 _w2 _w3 _w4 _w5 _w6 _w7
  go_enter Try.func9, Try.ntmps9
  go_wp2_with fail
  refine (pickc _ _ (by omega) (by omega) _).mono ?_
  rintro e w' ⟨n, hn0, hn1, rfl, ⟨d0, rfl⟩⟩
  go_wp2_with fail
  refine (pickc _ _ (by omega) (by omega) _).mono ?_
  rintro e w' ⟨s, hs0, hs1, rfl, ⟨d1, rfl⟩⟩
  go_wp2_with fail
  refine (pickc _ _ (by omega) (by omega) _).mono ?_
  rintro e w' ⟨i, hi0, hi1, rfl, ⟨d2, rfl⟩⟩
  go_wp2_with fail
  refine (pickc _ _ (by omega) (by omega) _).mono ?_
  rintro e w' ⟨c, hc0, hc1, rfl, ⟨d3, rfl⟩⟩
  go_wp2_with fail
  refine (pickc _ _ (by omega) (by omega) _).mono ?_
  rintro e w' ⟨u, hu0, hu1, rfl, ⟨d4, rfl⟩⟩
  go_wp2_with fail
  refine (pickc _ _ (by omega) (by omega) _).mono ?_
  rintro e w' ⟨r, hr0, hr1, rfl, ⟨d5, rfl⟩⟩
  have hI : inc (2 * i + 1) := by unfold inc; omega
  have HI := Lib.hid hI
  clear hI
  go_wp2_with fail
  refine (keyc _ _ (by omega) _).mono ?_
  rintro e w' ⟨rfl, ⟨d6, rfl⟩⟩
  go_wp2_with fail
  refine (markc _ (by omega) _).mono ?_
  rintro e w' ⟨rfl, ⟨d7, rfl⟩⟩
  go_wp2_with fail
  refine (tagc _ _ HI.out (by omega) _).mono ?_
  rintro e w' ⟨rfl, ⟨d8, rfl⟩⟩
  go_wp2_with fail
  refine (leasec _ _ HI.out (by omega) _).mono ?_
  rintro e w' ⟨rfl, ⟨d9, rfl⟩⟩
  go_wp2_with fail
  refine (ballotc _ _ (by omega) (by omega) _).mono ?_
  rintro e w' ⟨rfl, ⟨d10, rfl⟩⟩
  go_wp2_with fail
  refine (awakec _).mono ?_
  rintro e w' ⟨rfl, ⟨d11, rfl⟩⟩
  go_wp2_with fail
  refine (skeyc _ _ (by omega) _).mono ?_
  rintro e w' ⟨rfl, ⟨d12, rfl⟩⟩
  go_wp2_with fail
  refine (smarkc _ (by omega) _).mono ?_
  rintro e w' ⟨rfl, ⟨d13, rfl⟩⟩
  go_wp2_with fail
  refine (stagc _ _ HI.out (by omega) _).mono ?_
  rintro e w' ⟨rfl, ⟨d14, rfl⟩⟩
  go_wp2_with fail
  refine (sleasec _ _ HI.out (by omega) _).mono ?_
  rintro e w' ⟨rfl, ⟨d15, rfl⟩⟩
  go_wp2_with fail
  refine (sballotc _ _ (by omega) (by omega) _).mono ?_
  rintro e w' ⟨rfl, ⟨d16, rfl⟩⟩
  have hb1 : bw (r + 1) c < 4096 := by unfold bw; omega
  go_wp2_with fail
  refine (pickc _ _ (by omega) (by omega) _).mono ?_
  rintro e w' ⟨o, ho0, ho1, rfl, ⟨d17, rfl⟩⟩
  have heq : (mw (o + 1) == mw (s + 1)) = (o + 1 == s + 1) := by
    rw [Bool.eq_iff_iff, beq_iff_eq, beq_iff_eq]; unfold mw; omega
  go_wp2_with fail
  refine (markc _ (by omega) _).mono ?_
  rintro e w' ⟨rfl, ⟨d18, rfl⟩⟩
  go_wp2
  go_ret
  exact ⟨rfl, (Drawn0.mk ⟨_, rfl⟩).grown⟩
end Go.Proofs.Ytpcoflcelmfnbaa.Back
