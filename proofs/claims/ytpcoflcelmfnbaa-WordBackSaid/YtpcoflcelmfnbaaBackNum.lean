/- The parts of what was packed, as the printed functions answer them. No condition. -/
import Derived.Test.YtpcoflcelmfnbaaPWordBackx2
import Derived.Test.YtpcoflcelmfnbaaNum
import Derived.OpenShut
namespace Go.Proofs.Ytpcoflcelmfnbaa.Back
open Go.RowKit Go.Proofs.Ytpcoflcelmfnbaa.PWordBack Go.Proofs.YtpcoflcelmfnbaaW.PrintWords Go.Proofs.YtpcoflcelmfnbaaW.PrintLast Go.Proofs.YtpcoflcelmfnbaaW.PrintMore Go.Proofs.Ytpcoflcelmfnbaa.Num

theorem within_i (a b c : Int) : word_within_int.f a b c = some (decide (b ≤ a ∧ a ≤ c)) := by
  unfold word_within_int.f
  by_cases h : b ≤ a <;> simp [h]
theorem within_u (a b c : Int) : word_within_uint64.f a b c = some (decide (b ≤ a ∧ a ≤ c)) := by
  unfold word_within_uint64.f
  by_cases h : b ≤ a <;> simp [h]
theorem client_ (c : Int) : word_isClient.f c = some (decide (0 ≤ c ∧ c ≤ 5)) := by
  unfold word_isClient.f
  rw [within_i]; rfl
theorem inc_ (i : Int) : word_isInc.f i = some (decide (inc i)) := by
  unfold word_isInc.f
  rw [within_i, Option.bind_some]
  by_cases h : 1 ≤ i ∧ i ≤ 59
  · rw [if_pos (decide_eq_true h), tmod2 i h.1]
    congr 2
    simp only [inc, eq_iff_iff]
    omega
  · rw [if_neg (by rw [decide_eq_true_eq]; exact h)]
    congr 1
    symm
    rw [decide_eq_false_iff_not]
    unfold inc
    omega
theorem header_ (v o : Int) : word_Header.f v o = some (hdr v o) := by
  unfold word_Header.f hdr
  rw [within_u, Option.bind_some, within_i]
  by_cases h : 1 ≤ v ∧ v ≤ 281474976710655
  · by_cases h2 : 0 ≤ o ∧ o ≤ 6
    · simp [h, h2, hdr_eq v o h h2]
    · simp [h, h2]
  · simp [h]
theorem unlocked_ (h : Int) (h0 : 0 ≤ h) (h1 : h < 18446744073709551616) : word_Unlocked.f h = some (decide (h % 256 = 0)) := by
  unfold word_Unlocked.f
  rw [and255 h h0 h1]
  rfl
theorem lock_ (h c : Int) (h0 : 0 ≤ h) (h1 : h < 18446744073709551616) : word_Lock.f h c = some (lock h c) := by
  unfold word_Lock.f lock
  rw [client_, Option.bind_some, unlocked_ h h0 h1]
  by_cases h2 : 0 ≤ c ∧ c ≤ 5
  · by_cases h3 : h % 256 = 0
    · simp [h2, h3, lock_eq h c h0 h1 h2 h3]
    · simp [h2, h3]
  · simp [h2]
theorem split_ (h : Int) (h0 : 0 ≤ h) (h1 : h < 18446744073709551616) : word_SplitHeader.f h = some (h / 256, h % 256) := by
  unfold word_SplitHeader.f
  rw [and255 h h0 h1, i64w _ (by omega) (by omega)]
theorem next_ (h : Int) (h0 : 0 ≤ h) (h1 : h < 18446744073709551616) : word_Next.f h = some (next h) := by
  unfold word_Next.f next
  rw [split_ h h0 h1, Option.bind_some]
  simp only [within_u, Option.bind_some]
  by_cases h2 : 1 ≤ h / 256 ∧ h / 256 ≤ 281474976710654
  · rw [if_pos (decide_eq_true h2), if_pos h2, next_eq h h2]
  · rw [if_neg (by rw [decide_eq_true_eq]; exact h2), if_neg h2]
theorem ballot_ (r c : Int) : word_Ballot.f r c = some (ballot r c) := by
  unfold word_Ballot.f ballot
  rw [within_i, Option.bind_some, client_]
  by_cases h : 1 ≤ r ∧ r ≤ 500
  · by_cases h2 : 0 ≤ c ∧ c ≤ 5
    · simp [h, h2, ballot_eq r c h h2]
    · simp [h, h2]
  · simp [h]
theorem key_ (n : Int) (b : Bool) : word_Key.f n b = some (key n b) := by
  unfold word_Key.f key
  rw [within_i, Option.bind_some]
  by_cases h : 0 ≤ n ∧ n ≤ 15
  · cases b
    · simp [h, key_eq n h]
    · simp [h, key_eq1 n h]
  · simp [h]
theorem mark_ (s : Int) : word_Mark.f s = some (markN s) := by
  unfold word_Mark.f markN
  rw [within_i, Option.bind_some]
  by_cases h : 1 ≤ s ∧ s ≤ 1073741823
  · simp [h, mark_eq s h]
  · simp [h]
theorem tag_ (i c : Int) : word_Tag.f i c = some (tag i c) := by
  unfold word_Tag.f tag
  rw [inc_, Option.bind_some, client_]
  by_cases h : inc i
  · by_cases h2 : 0 ≤ c ∧ c ≤ 5
    · simp [h, h2, tag_eq i c h h2]
    · simp [h, h2]
  · simp [h]
theorem awake_ : bodegalaw1_awake.f = some true := by
  unfold bodegalaw1_awake.f
  rw [header_, lock_ 256 2 (by omega) (by omega), next_ 259 (by omega) (by omega), key_, mark_, tag_, ballot_]
  decide

theorem pick_ (n k : Int) (h1 : 1 ≤ k) (h2 : k ≤ 1099511627776) : bodegahand_Pick.f n k = some (n % k) := by
  unfold bodegahand_Pick.f
  rw [if_neg (by omega), if_neg (by omega), pick_eq n k h1 h2]

theorem lease_ (i u : Int) : word_Lease.f i u = some (lease i u) := by
  unfold word_Lease.f lease
  rw [inc_, Option.bind_some, within_i]
  by_cases h : inc i
  · by_cases h2 : 0 ≤ u ∧ u ≤ 4294967295
    · simp [h, h2, lease_eq i u h h2]
    · simp [h, h2]
  · simp [h]

theorem splitKey_ (w : Int) (h0 : 0 ≤ w) (h1 : w < 18446744073709551616) : word_SplitKey.f w = some (w / 2, decide (w % 2 = 1)) := by
  unfold word_SplitKey.f
  rw [Int.tdiv_eq_ediv_of_nonneg h0, Int.tmod_eq_emod_of_nonneg h0, u64w _ (by omega) (by omega)]
  rfl
def smark (w : Int) : Int × Bool := if w % 4 = 2 ∧ 1 ≤ w / 4 ∧ w / 4 ≤ 1073741823 then (w / 4, true) else (0, false)
theorem splitMark_ (w : Int) (h0 : 0 ≤ w) (h1 : w < 18446744073709551616) : word_SplitMark.f w = some (smark w) := by
  unfold word_SplitMark.f smark
  rw [mark_, mark_]
  simp only [Option.bind_some]
  by_cases h : w / 4 < 1073741824
  · rw [if_pos h, i64w (w / 4) (by omega) (by omega)]
    unfold markN
    by_cases h2 : 1 ≤ w / 4 ∧ w / 4 ≤ 1073741823
    · rw [if_pos h2]
      simp only [if_true]
      by_cases h3 : w % 4 = 2
      · rw [if_pos (show w / 4 * 4 + 2 = w by omega), if_pos ⟨h3, h2⟩]
      · rw [if_neg (show ¬ w / 4 * 4 + 2 = w by omega), if_neg (fun h => h3 h.1)]
    · rw [if_neg h2, if_neg (show ¬ (2 : Int) = 0 by omega), if_neg (fun h => h2 h.2)]
  · rw [if_neg h]
    have e : markN 0 = (0, 2) := by decide
    rw [e, if_neg (show ¬ (2 : Int) = 0 by omega), if_neg (by omega)]
theorem mask8 : word_mask.f 8 = some 255 := by decide +kernel
theorem mask32 : word_mask.f 32 = some 4294967295 := by decide +kernel
def stag (w : Int) : Int × Int × Bool := if inc (w / 256) ∧ 1 ≤ w % 256 ∧ w % 256 ≤ 6 then (w / 256, w % 256 - 1, true) else (0, 0, false)
theorem splitTag_ (w : Int) (h0 : 0 ≤ w) (h1 : w < 18446744073709551616) : word_SplitTag.f w = some (stag w) := by
  unfold word_SplitTag.f stag
  rw [mask8]
  simp only [Option.bind_some, tag_]
  rw [and255 w h0 h1]
  by_cases h : w / 256 ≤ 59
  · rw [if_pos h, i64w (w / 256) (by omega) (by omega), i64w (w % 256) (by omega) (by omega), i64w (w % 256 - 1) (by omega) (by omega)]
    unfold tag
    by_cases h2 : inc (w / 256)
    · rw [if_pos h2]
      by_cases h3 : 0 ≤ w % 256 - 1 ∧ w % 256 - 1 ≤ 5
      · rw [if_pos h3]
        simp only [if_true]
        rw [if_pos (show w / 256 * 256 + (w % 256 - 1 + 1) = w by omega), if_pos ⟨h2, by omega⟩]
      · rw [if_neg h3, if_neg (show ¬ (1 : Int) = 0 by omega), if_neg (by omega)]
    · rw [if_neg h2, if_neg (show ¬ (2 : Int) = 0 by omega), if_neg (fun h => h2 h.1)]
  · rw [if_neg h]
    have e : tag 0 0 = (0, 2) := by decide
    rw [e, if_neg (show ¬ (2 : Int) = 0 by omega), if_neg (by unfold inc; omega)]
def slease (w : Int) : Int × Int × Bool := if inc (w / 4294967296) then (w / 4294967296, w % 4294967296, true) else (0, 0, false)
theorem splitLease_ (w : Int) (h0 : 0 ≤ w) (h1 : w < 18446744073709551616) : word_SplitLease.f w = some (slease w) := by
  unfold word_SplitLease.f slease
  rw [mask32]
  simp only [Option.bind_some, lease_]
  rw [and32 w h0 h1]
  by_cases h : w / 4294967296 ≤ 59
  · rw [if_pos h, i64w (w / 4294967296) (by omega) (by omega), i64w (w % 4294967296) (by omega) (by omega)]
    unfold lease
    by_cases h2 : inc (w / 4294967296)
    · rw [if_pos h2, if_pos (show 0 ≤ w % 4294967296 ∧ w % 4294967296 ≤ 4294967295 by omega)]
      simp only [if_true]
      rw [if_pos (show w / 4294967296 * 4294967296 + w % 4294967296 = w by omega), if_pos h2]
    · rw [if_neg h2, if_neg (show ¬ (2 : Int) = 0 by omega), if_neg h2]
  · rw [if_neg h]
    have e : lease 0 0 = (0, 2) := by decide
    rw [e, if_neg (show ¬ (2 : Int) = 0 by omega), if_neg (by unfold inc; omega)]
def sballot (w : Int) : Int × Int × Bool := if w < 4096 ∧ 1 ≤ w / 8 ∧ w / 8 ≤ 500 ∧ 1 ≤ w % 8 ∧ w % 8 ≤ 6 then (w / 8, w % 8 - 1, true) else (0, 0, false)
theorem splitBallot_ (w : Int) (h0 : 0 ≤ w) (_h1 : w < 18446744073709551616) : word_SplitBallot.f w = some (sballot w) := by
  unfold word_SplitBallot.f sballot
  simp only [ballot_, Option.bind_some]
  rw [Int.tdiv_eq_ediv_of_nonneg h0, Int.tmod_eq_emod_of_nonneg h0]
  by_cases h : w < 4096
  · rw [if_pos h, u64w (w / 8) (by omega) (by omega), i64w (w / 8) (by omega) (by omega), i64w (w % 8) (by omega) (by omega), i64w (w % 8 - 1) (by omega) (by omega)]
    unfold ballot
    by_cases h2 : 1 ≤ w / 8 ∧ w / 8 ≤ 500
    · rw [if_pos h2]
      by_cases h3 : 0 ≤ w % 8 - 1 ∧ w % 8 - 1 ≤ 5
      · rw [if_pos h3]
        simp only [if_true]
        rw [if_pos (show w / 8 * 8 + (w % 8 - 1) + 1 = w by omega), if_pos (by omega)]
      · rw [if_neg h3, if_neg (show ¬ (1 : Int) = 0 by omega), if_neg (by omega)]
    · rw [if_neg h2, if_neg (show ¬ (2 : Int) = 0 by omega), if_neg (by omega)]
  · rw [if_neg h]
    have e : ballot 0 0 = (0, 2) := by decide
    rw [e, if_neg (show ¬ (2 : Int) = 0 by omega), if_neg (by omega)]

/-! What was packed, split. -/
theorem key_in (n : Int) (b : Bool) (h : 0 ≤ n ∧ n ≤ 15) : word_Key.f n b = some (n * 2 + (if b = true then 1 else 0), 0) := by
  rw [key_]; unfold key; rw [if_pos h]; cases b <;> simp
theorem splitKey_in (n : Int) (b : Bool) (h : 0 ≤ n ∧ n ≤ 15) : word_SplitKey.f (n * 2 + (if b = true then 1 else 0)) = some (n, b) := by
  rw [splitKey_ _ (by split <;> omega) (by split <;> omega)]
  cases b
  · simp only [Bool.false_eq_true, if_false]
    rw [show (n * 2 + 0) / 2 = n by omega, decide_eq_false (show ¬ (n * 2 + 0) % 2 = 1 by omega)]
  · simp only [if_true]
    rw [show (n * 2 + 1) / 2 = n by omega, decide_eq_true (show (n * 2 + 1) % 2 = 1 by omega)]
theorem mark_in (s : Int) (h : 1 ≤ s ∧ s ≤ 1073741823) : word_Mark.f s = some (s * 4 + 2, 0) := by
  rw [mark_]; unfold markN; rw [if_pos h]
theorem splitMark_in (s : Int) (h : 1 ≤ s ∧ s ≤ 1073741823) : word_SplitMark.f (s * 4 + 2) = some (s, true) := by
  rw [splitMark_ _ (by omega) (by omega)]; unfold smark; rw [if_pos (by omega), show (s * 4 + 2) / 4 = s by omega]
theorem tag_in (i c : Int) (h : inc i) (hc : 0 ≤ c ∧ c ≤ 5) : word_Tag.f i c = some (i * 256 + (c + 1), 0) := by
  rw [tag_]; unfold tag; rw [if_pos h, if_pos hc]
theorem splitTag_in (i c : Int) (h : inc i) (hc : 0 ≤ c ∧ c ≤ 5) : word_SplitTag.f (i * 256 + (c + 1)) = some (i, c, true) := by
  have h' := h
  unfold inc at h'
  rw [splitTag_ _ (by omega) (by omega)]
  unfold stag
  rw [show (i * 256 + (c + 1)) / 256 = i by omega, show (i * 256 + (c + 1)) % 256 = c + 1 by omega, if_pos ⟨h, by omega, by omega⟩, show c + 1 - 1 = c by omega]
theorem lease_in (i u : Int) (h : inc i) (hu : 0 ≤ u ∧ u ≤ 4294967295) : word_Lease.f i u = some (i * 4294967296 + u, 0) := by
  rw [lease_]; unfold lease; rw [if_pos h, if_pos hu]
theorem splitLease_in (i u : Int) (h : inc i) (hu : 0 ≤ u ∧ u ≤ 4294967295) : word_SplitLease.f (i * 4294967296 + u) = some (i, u, true) := by
  have h' := h
  unfold inc at h'
  rw [splitLease_ _ (by omega) (by omega)]
  unfold slease
  rw [show (i * 4294967296 + u) / 4294967296 = i by omega, show (i * 4294967296 + u) % 4294967296 = u by omega, if_pos h]
theorem ballot_in (r c : Int) (h : 1 ≤ r ∧ r ≤ 500) (hc : 0 ≤ c ∧ c ≤ 5) : word_Ballot.f r c = some (r * 8 + c + 1, 0) := by
  rw [ballot_]; unfold ballot; rw [if_pos h, if_pos hc]
theorem splitBallot_in (r c : Int) (h : 1 ≤ r ∧ r ≤ 500) (hc : 0 ≤ c ∧ c ≤ 5) : word_SplitBallot.f (r * 8 + c + 1) = some (r, c, true) := by
  rw [splitBallot_ _ (by omega) (by omega)]
  unfold sballot
  rw [show (r * 8 + c + 1) / 8 = r by omega, show (r * 8 + c + 1) % 8 = c + 1 by omega, if_pos ⟨by omega, by omega, by omega, by omega, by omega⟩, show c + 1 - 1 = c by omega]

end Go.Proofs.Ytpcoflcelmfnbaa.Back
