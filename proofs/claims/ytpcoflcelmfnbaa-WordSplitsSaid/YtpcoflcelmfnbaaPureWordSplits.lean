/- Every word is split as the reference says, whatever it is. No condition. -/
import Derived.Test.YtpcoflcelmfnbaaPWordSplitsx3
import Derived.Test.YtpcoflcelmfnbaaNum
import Derived.OpenShut
namespace Go.Proofs.Ytpcoflcelmfnbaa.Pure
open Go.RowKit Go.Proofs.Ytpcoflcelmfnbaa.PWordSplits Go.Proofs.YtpcoflcelmfnbaaW.PrintWords Go.Proofs.YtpcoflcelmfnbaaW.PrintLast Go.Proofs.YtpcoflcelmfnbaaW.PrintMore Go.Proofs.Ytpcoflcelmfnbaa.Num

theorem within_i (a b c : Int) : word_within_int.f a b c = some (decide (b ≤ a ∧ a ≤ c)) := by
  unfold word_within_int.f
  by_cases h : b ≤ a <;> simp [h]
theorem within_u (a b c : Int) : word_within_uint64.f a b c = some (decide (b ≤ a ∧ a ≤ c)) := by
  unfold word_within_uint64.f
  by_cases h : b ≤ a <;> simp [h]
theorem client_ (c : Int) : word_isClient.f c = some (decide (0 ≤ c ∧ c ≤ 5)) := by
  unfold word_isClient.f
  rw [within_i]; rfl
theorem inc_ (i : Int) : word_isInc.f i = some (decide (inc i)) := by
  unfold word_isInc.f
  rw [within_i, Option.bind_some]
  by_cases h : 1 ≤ i ∧ i ≤ 59
  · rw [if_pos (decide_eq_true h), tmod2 i h.1]
    congr 2
    simp only [inc, eq_iff_iff]
    omega
  · rw [if_neg (by rw [decide_eq_true_eq]; exact h)]
    congr 1
    symm
    rw [decide_eq_false_iff_not]
    unfold inc
    omega
theorem header_ (v o : Int) : word_Header.f v o = some (hdr v o) := by
  unfold word_Header.f hdr
  rw [within_u, Option.bind_some, within_i]
  by_cases h : 1 ≤ v ∧ v ≤ 281474976710655
  · by_cases h2 : 0 ≤ o ∧ o ≤ 6
    · simp [h, h2, hdr_eq v o h h2]
    · simp [h, h2]
  · simp [h]
theorem unlocked_ (h : Int) (h0 : 0 ≤ h) (h1 : h < 18446744073709551616) : word_Unlocked.f h = some (decide (h % 256 = 0)) := by
  unfold word_Unlocked.f
  rw [and255 h h0 h1]
  rfl
theorem lock_ (h c : Int) (h0 : 0 ≤ h) (h1 : h < 18446744073709551616) : word_Lock.f h c = some (lock h c) := by
  unfold word_Lock.f lock
  rw [client_, Option.bind_some, unlocked_ h h0 h1]
  by_cases h2 : 0 ≤ c ∧ c ≤ 5
  · by_cases h3 : h % 256 = 0
    · simp [h2, h3, lock_eq h c h0 h1 h2 h3]
    · simp [h2, h3]
  · simp [h2]
theorem split_ (h : Int) (h0 : 0 ≤ h) (h1 : h < 18446744073709551616) : word_SplitHeader.f h = some (h / 256, h % 256) := by
  unfold word_SplitHeader.f
  rw [and255 h h0 h1, i64w _ (by omega) (by omega)]
theorem next_ (h : Int) (h0 : 0 ≤ h) (h1 : h < 18446744073709551616) : word_Next.f h = some (next h) := by
  unfold word_Next.f next
  rw [split_ h h0 h1, Option.bind_some]
  simp only [within_u, Option.bind_some]
  by_cases h2 : 1 ≤ h / 256 ∧ h / 256 ≤ 281474976710654
  · rw [if_pos (decide_eq_true h2), if_pos h2, next_eq h h2]
  · rw [if_neg (by rw [decide_eq_true_eq]; exact h2), if_neg h2]
theorem ballot_ (r c : Int) : word_Ballot.f r c = some (ballot r c) := by
  unfold word_Ballot.f ballot
  rw [within_i, Option.bind_some, client_]
  by_cases h : 1 ≤ r ∧ r ≤ 500
  · by_cases h2 : 0 ≤ c ∧ c ≤ 5
    · simp [h, h2, ballot_eq r c h h2]
    · simp [h, h2]
  · simp [h]
theorem key_ (n : Int) (b : Bool) : word_Key.f n b = some (key n b) := by
  unfold word_Key.f key
  rw [within_i, Option.bind_some]
  by_cases h : 0 ≤ n ∧ n ≤ 15
  · cases b
    · simp [h, key_eq n h]
    · simp [h, key_eq1 n h]
  · simp [h]
theorem mark_ (s : Int) : word_Mark.f s = some (markN s) := by
  unfold word_Mark.f markN
  rw [within_i, Option.bind_some]
  by_cases h : 1 ≤ s ∧ s ≤ 1073741823
  · simp [h, mark_eq s h]
  · simp [h]
theorem tag_ (i c : Int) : word_Tag.f i c = some (tag i c) := by
  unfold word_Tag.f tag
  rw [inc_, Option.bind_some, client_]
  by_cases h : inc i
  · by_cases h2 : 0 ≤ c ∧ c ≤ 5
    · simp [h, h2, tag_eq i c h h2]
    · simp [h, h2]
  · simp [h]
theorem awake_ : bodegalaw1_awake.f = some true := by
  unfold bodegalaw1_awake.f
  rw [header_, lock_ 256 2 (by omega) (by omega), next_ 259 (by omega) (by omega), key_, mark_, tag_, ballot_]
  decide

theorem lease_ (i u : Int) : word_Lease.f i u = some (lease i u) := by
  unfold word_Lease.f lease
  rw [inc_, Option.bind_some, within_i]
  by_cases h : inc i
  · by_cases h2 : 0 ≤ u ∧ u ≤ 4294967295
    · simp [h, h2, lease_eq i u h h2]
    · simp [h, h2]
  · simp [h]

theorem rclient_ (c : Int) : bodegaref1_Client.f c = some (decide (0 ≤ c ∧ c ≤ 5)) := by
  unfold bodegaref1_Client.f
  by_cases h : 0 ≤ c
  · rw [if_pos h]; congr 2; simp only [h, true_and, eq_iff_iff]; omega
  · rw [if_neg h]; simp [h]

theorem rinc_ (i : Int) : bodegaref1_Inc.f i = some (decide (inc i)) := by
  unfold bodegaref1_Inc.f
  by_cases h : 1 ≤ i
  · by_cases h2 : i ≤ 59
    · rw [if_pos h, if_pos h2, tmod2 i h]
      congr 2
      simp only [inc, eq_iff_iff]
      omega
    · rw [if_pos h, if_neg h2]
      simp [inc, h2]
  · rw [if_neg h]
    simp [inc, h]

theorem rtag_ (i c : Int) : bodegaref1_Tag.f i c = some (tag i c) := by
  unfold bodegaref1_Tag.f tag
  rw [rinc_, Option.bind_some, rclient_]
  by_cases h : inc i
  · by_cases h2 : 0 ≤ c ∧ c ≤ 5
    · simp [h, h2, tag_eq i c h h2]
    · simp [h, h2]
  · simp [h]

theorem rballot_ (k : Nat) (r c : Int) : bodegaref1_Ballot.f (k + 1) r c = some (ballot r c) := by
  unfold bodegaref1_Ballot.f ballot
  by_cases h : 1 ≤ r
  · rw [if_neg (by omega)]
    simp only [bodegaref1_Ballot.j0]
    by_cases h2 : r ≤ 500
    · rw [if_neg (by rw [decide_eq_true_eq]; omega), rclient_, Option.bind_some]
      by_cases h3 : 0 ≤ c ∧ c ≤ 5
      · simp [h, h2, h3, ballot_eq r c ⟨h, h2⟩ h3]
      · simp [h, h2, h3]
    · rw [if_pos (by rw [decide_eq_true_eq]; omega), if_neg (by omega)]
  · rw [if_pos (by omega), if_neg (by omega)]
    simp [bodegaref1_Ballot.j0]

theorem splitKey_ (w : Int) (h0 : 0 ≤ w) (h1 : w < 18446744073709551616) : word_SplitKey.f w = some (w / 2, decide (w % 2 = 1)) := by
  unfold word_SplitKey.f
  rw [Int.tdiv_eq_ediv_of_nonneg h0, Int.tmod_eq_emod_of_nonneg h0, u64w _ (by omega) (by omega)]
  rfl
def smark (w : Int) : Int × Bool := if w % 4 = 2 ∧ 1 ≤ w / 4 ∧ w / 4 ≤ 1073741823 then (w / 4, true) else (0, false)
theorem splitMark_ (w : Int) (h0 : 0 ≤ w) (h1 : w < 18446744073709551616) : word_SplitMark.f w = some (smark w) := by
  unfold word_SplitMark.f smark
  rw [mark_, mark_]
  simp only [Option.bind_some]
  by_cases h : w / 4 < 1073741824
  · rw [if_pos h, i64w (w / 4) (by omega) (by omega)]
    unfold markN
    by_cases h2 : 1 ≤ w / 4 ∧ w / 4 ≤ 1073741823
    · rw [if_pos h2]
      simp only [if_true]
      by_cases h3 : w % 4 = 2
      · rw [if_pos (show w / 4 * 4 + 2 = w by omega), if_pos ⟨h3, h2⟩]
      · rw [if_neg (show ¬ w / 4 * 4 + 2 = w by omega), if_neg (fun h => h3 h.1)]
    · rw [if_neg h2, if_neg (show ¬ (2 : Int) = 0 by omega), if_neg (fun h => h2 h.2)]
  · rw [if_neg h]
    have e : markN 0 = (0, 2) := by decide
    rw [e, if_neg (show ¬ (2 : Int) = 0 by omega), if_neg (by omega)]
theorem rsplitMark_ (w : Int) (h0 : 0 ≤ w) (h1 : w < 18446744073709551616) : bodegaref1_SplitMark.f w = some (smark w) := by
  unfold bodegaref1_SplitMark.f smark
  rw [and3 w h0 h1]
  by_cases h : w % 4 = 2
  · rw [if_pos h]
    by_cases h2 : w / 4 < 1
    · rw [if_pos h2, if_neg (by omega)]
    · rw [if_neg h2]
      by_cases h3 : w / 4 ≥ 1073741824
      · rw [if_pos h3, if_neg (by omega)]
      · rw [if_neg h3, if_pos (by omega), i64w (w / 4) (by omega) (by omega)]
  · rw [if_neg h, if_neg (fun h' => h h'.1)]
theorem mask8 : word_mask.f 8 = some 255 := by decide +kernel
theorem mask32 : word_mask.f 32 = some 4294967295 := by decide +kernel
theorem mask12 : word_mask.f 12 = some 4095 := by decide +kernel
theorem mask40 : word_mask.f 40 = some 1099511627775 := by decide +kernel
def stag (w : Int) : Int × Int × Bool := if inc (w / 256) ∧ 1 ≤ w % 256 ∧ w % 256 ≤ 6 then (w / 256, w % 256 - 1, true) else (0, 0, false)
theorem splitTag_ (w : Int) (h0 : 0 ≤ w) (h1 : w < 18446744073709551616) : word_SplitTag.f w = some (stag w) := by
  unfold word_SplitTag.f stag
  rw [mask8]
  simp only [Option.bind_some, tag_]
  rw [and255 w h0 h1]
  by_cases h : w / 256 ≤ 59
  · rw [if_pos h, i64w (w / 256) (by omega) (by omega), i64w (w % 256) (by omega) (by omega), i64w (w % 256 - 1) (by omega) (by omega)]
    unfold tag
    by_cases h2 : inc (w / 256)
    · rw [if_pos h2]
      by_cases h3 : 0 ≤ w % 256 - 1 ∧ w % 256 - 1 ≤ 5
      · rw [if_pos h3]
        simp only [if_true]
        rw [if_pos (show w / 256 * 256 + (w % 256 - 1 + 1) = w by omega), if_pos ⟨h2, by omega⟩]
      · rw [if_neg h3, if_neg (show ¬ (1 : Int) = 0 by omega), if_neg (by omega)]
    · rw [if_neg h2, if_neg (show ¬ (2 : Int) = 0 by omega), if_neg (fun h => h2 h.1)]
  · rw [if_neg h]
    have e : tag 0 0 = (0, 2) := by decide
    rw [e, if_neg (show ¬ (2 : Int) = 0 by omega), if_neg (by unfold inc; omega)]
theorem rsplitTag_ (w : Int) (h0 : 0 ≤ w) (h1 : w < 18446744073709551616) : bodegaref1_SplitTag.f w = some (stag w) := by
  unfold bodegaref1_SplitTag.f stag
  have hq0 := Int.emod_nonneg (w / 256) (show (16777216 : Int) ≠ 0 by decide)
  have hq1 := Int.emod_lt_of_pos (w / 256) (show (0 : Int) < 16777216 by decide)
  have hqs : w / 256 < 16777216 → w / 256 % 16777216 = w / 256 := fun h => Int.emod_eq_of_lt (by omega) h
  rw [and255 w h0 h1, and24 (w / 256) (by omega) (by omega)]
  generalize w / 256 % 16777216 = q at *
  rw [i64w q (by omega) (by omega), i64w (w % 256) (by omega) (by omega), i64w (w % 256 - 1) (by omega) (by omega), rtag_, Option.bind_some]
  unfold tag
  by_cases h2 : inc q
  · rw [if_pos h2]
    by_cases h3 : 0 ≤ w % 256 - 1 ∧ w % 256 - 1 ≤ 5
    · rw [if_pos h3]
      simp only [if_true]
      by_cases h4 : q * 256 + (w % 256 - 1 + 1) = w
      · have e : q = w / 256 := by clear hqs; omega
        rw [if_pos h4, e, if_pos ⟨by rw [← e]; exact h2, by omega⟩]
      · rw [if_neg h4, if_neg (fun h => h4 (by have := h.1; unfold inc at this; have := hqs (by omega); omega))]
    · rw [if_neg h3, if_neg (show ¬ (1 : Int) = 0 by omega), if_neg (fun h => h3 (by omega))]
  · rw [if_neg h2, if_neg (show ¬ (2 : Int) = 0 by omega), if_neg (fun h => h2 (by have h' := h.1; unfold inc at h'; rw [hqs (by omega)]; exact h.1))]
def slease (w : Int) : Int × Int × Bool := if inc (w / 4294967296) then (w / 4294967296, w % 4294967296, true) else (0, 0, false)
theorem splitLease_ (w : Int) (h0 : 0 ≤ w) (h1 : w < 18446744073709551616) : word_SplitLease.f w = some (slease w) := by
  unfold word_SplitLease.f slease
  rw [mask32]
  simp only [Option.bind_some, lease_]
  rw [and32 w h0 h1]
  by_cases h : w / 4294967296 ≤ 59
  · rw [if_pos h, i64w (w / 4294967296) (by omega) (by omega), i64w (w % 4294967296) (by omega) (by omega)]
    unfold lease
    by_cases h2 : inc (w / 4294967296)
    · rw [if_pos h2, if_pos (show 0 ≤ w % 4294967296 ∧ w % 4294967296 ≤ 4294967295 by omega)]
      simp only [if_true]
      rw [if_pos (show w / 4294967296 * 4294967296 + w % 4294967296 = w by omega), if_pos h2]
    · rw [if_neg h2, if_neg (show ¬ (2 : Int) = 0 by omega), if_neg h2]
  · rw [if_neg h]
    have e : lease 0 0 = (0, 2) := by decide
    rw [e, if_neg (show ¬ (2 : Int) = 0 by omega), if_neg (by unfold inc; omega)]
theorem rsplitLease_ (w : Int) (h0 : 0 ≤ w) (h1 : w < 18446744073709551616) : bodegaref1_SplitLease.f w = some (slease w) := by
  unfold bodegaref1_SplitLease.f slease
  rw [rinc_, and32 w h0 h1, i64w (w / 4294967296) (by omega) (by omega), i64w (w % 4294967296) (by omega) (by omega)]
  simp only [Option.bind_some]
  by_cases h2 : inc (w / 4294967296)
  · rw [if_pos (decide_eq_true h2), if_pos h2]
  · rw [if_neg (by rw [decide_eq_true_eq]; exact h2), if_neg h2]
def sballot (w : Int) : Int × Int × Bool := if w < 4096 ∧ 1 ≤ w / 8 ∧ w / 8 ≤ 500 ∧ 1 ≤ w % 8 ∧ w % 8 ≤ 6 then (w / 8, w % 8 - 1, true) else (0, 0, false)
theorem splitBallot_ (w : Int) (h0 : 0 ≤ w) (_h1 : w < 18446744073709551616) : word_SplitBallot.f w = some (sballot w) := by
  unfold word_SplitBallot.f sballot
  simp only [ballot_, Option.bind_some]
  rw [Int.tdiv_eq_ediv_of_nonneg h0, Int.tmod_eq_emod_of_nonneg h0]
  by_cases h : w < 4096
  · rw [if_pos h, u64w (w / 8) (by omega) (by omega), i64w (w / 8) (by omega) (by omega), i64w (w % 8) (by omega) (by omega), i64w (w % 8 - 1) (by omega) (by omega)]
    unfold ballot
    by_cases h2 : 1 ≤ w / 8 ∧ w / 8 ≤ 500
    · rw [if_pos h2]
      by_cases h3 : 0 ≤ w % 8 - 1 ∧ w % 8 - 1 ≤ 5
      · rw [if_pos h3]
        simp only [if_true]
        rw [if_pos (show w / 8 * 8 + (w % 8 - 1) + 1 = w by omega), if_pos (by omega)]
      · rw [if_neg h3, if_neg (show ¬ (1 : Int) = 0 by omega), if_neg (by omega)]
    · rw [if_neg h2, if_neg (show ¬ (2 : Int) = 0 by omega), if_neg (by omega)]
  · rw [if_neg h]
    have e : ballot 0 0 = (0, 2) := by decide
    rw [e, if_neg (show ¬ (2 : Int) = 0 by omega), if_neg (by omega)]
theorem rsplitBallot_ (k : Nat) (w : Int) (h0 : 0 ≤ w) (_h1 : w < 18446744073709551616) : bodegaref1_SplitBallot.f (k + 1) w = some (sballot w) := by
  unfold bodegaref1_SplitBallot.f sballot
  simp only [rballot_ k, Option.bind_some]
  rw [Int.tdiv_eq_ediv_of_nonneg h0, Int.tmod_eq_emod_of_nonneg h0]
  by_cases h : w > 4095
  · rw [if_pos h, if_neg (by omega)]
  · rw [if_neg h, u64w (w / 8) (by omega) (by omega), i64w (w / 8) (by omega) (by omega), i64w (w % 8) (by omega) (by omega), i64w (w % 8 - 1) (by omega) (by omega)]
    unfold ballot
    by_cases h2 : 1 ≤ w / 8 ∧ w / 8 ≤ 500
    · rw [if_pos h2]
      by_cases h3 : 0 ≤ w % 8 - 1 ∧ w % 8 - 1 ≤ 5
      · rw [if_pos h3]
        simp only [if_true]
        rw [if_pos (by omega)]
      · rw [if_neg h3, if_neg (show ¬ (1 : Int) = 0 by omega), if_neg (by omega)]
    · rw [if_neg h2, if_neg (show ¬ (2 : Int) = 0 by omega), if_neg (by omega)]
theorem splitConsensus_ (w : Int) : word_SplitConsensus.f w = bodegaref1_SplitConsensus.f w := by
  unfold word_SplitConsensus.f bodegaref1_SplitConsensus.f
  rw [mask12, mask40]
  rfl
theorem WordSplits : bodegalaw1_WordSplits.Pure := by
  intro w hw
  have hb := bounds_u64 hw
  have h0 : 0 ≤ w := hb.1
  have h1 : w < 18446744073709551616 := by omega
  refine ⟨4, ?_⟩
  unfold bodegalaw1_WordSplits.f
  rw [splitKey_ w h0 h1, splitMark_ w h0 h1, rsplitMark_ w h0 h1, awake_, Int.tdiv_eq_ediv_of_nonneg h0, Int.tmod_eq_emod_of_nonneg h0]
  simp only [Option.bind_some, if_true, u64w (w / 2) (by omega) (by omega), bne_self_eq_false]
  rw [show (decide (w % 2 = 1) != (w % 2 == 1)) = false by cases h : decide (w % 2 = 1) <;> simp_all]
  simp only [Bool.false_eq_true, if_false, bodegalaw1_WordSplits.j0]
  rw [splitTag_ w h0 h1, rsplitTag_ w h0 h1]
  simp only [Option.bind_some, if_true, bne_self_eq_false, Bool.false_eq_true, if_false, bodegalaw1_WordSplits.j1]
  rw [splitLease_ w h0 h1, rsplitLease_ w h0 h1]
  simp only [Option.bind_some, if_true, bne_self_eq_false, Bool.false_eq_true, if_false, bodegalaw1_WordSplits.j2]
  rw [splitBallot_ w h0 h1, rsplitBallot_ 0 w h0 h1, splitConsensus_]
  unfold bodegaref1_SplitConsensus.f
  simp

end Go.Proofs.Ytpcoflcelmfnbaa.Pure
