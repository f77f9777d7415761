/- Keys, marks, tags, leases, ballots and consensus words are packed as the reference says, for all arguments. No condition. -/
import Derived.Test.YtpcoflcelmfnbaaPWordPacksx2
import Derived.Test.YtpcoflcelmfnbaaNum
import Derived.OpenShut
namespace Go.Proofs.Ytpcoflcelmfnbaa.Pure
open Go.RowKit Go.Proofs.Ytpcoflcelmfnbaa.PWordPacks Go.Proofs.YtpcoflcelmfnbaaW.PrintWords Go.Proofs.YtpcoflcelmfnbaaW.PrintLast Go.Proofs.YtpcoflcelmfnbaaW.PrintMore Go.Proofs.Ytpcoflcelmfnbaa.Num

theorem within_i (a b c : Int) : word_within_int.f a b c = some (decide (b ≤ a ∧ a ≤ c)) := by
  unfold word_within_int.f
  by_cases h : b ≤ a <;> simp [h]
theorem within_u (a b c : Int) : word_within_uint64.f a b c = some (decide (b ≤ a ∧ a ≤ c)) := by
  unfold word_within_uint64.f
  by_cases h : b ≤ a <;> simp [h]
theorem client_ (c : Int) : word_isClient.f c = some (decide (0 ≤ c ∧ c ≤ 5)) := by
  unfold word_isClient.f
  rw [within_i]; rfl
theorem inc_ (i : Int) : word_isInc.f i = some (decide (inc i)) := by
  unfold word_isInc.f
  rw [within_i, Option.bind_some]
  by_cases h : 1 ≤ i ∧ i ≤ 59
  · rw [if_pos (decide_eq_true h), tmod2 i h.1]
    congr 2
    simp only [inc, eq_iff_iff]
    omega
  · rw [if_neg (by rw [decide_eq_true_eq]; exact h)]
    congr 1
    symm
    rw [decide_eq_false_iff_not]
    unfold inc
    omega
theorem header_ (v o : Int) : word_Header.f v o = some (hdr v o) := by
  unfold word_Header.f hdr
  rw [within_u, Option.bind_some, within_i]
  by_cases h : 1 ≤ v ∧ v ≤ 281474976710655
  · by_cases h2 : 0 ≤ o ∧ o ≤ 6
    · simp [h, h2, hdr_eq v o h h2]
    · simp [h, h2]
  · simp [h]
theorem unlocked_ (h : Int) (h0 : 0 ≤ h) (h1 : h < 18446744073709551616) : word_Unlocked.f h = some (decide (h % 256 = 0)) := by
  unfold word_Unlocked.f
  rw [and255 h h0 h1]
  rfl
theorem lock_ (h c : Int) (h0 : 0 ≤ h) (h1 : h < 18446744073709551616) : word_Lock.f h c = some (lock h c) := by
  unfold word_Lock.f lock
  rw [client_, Option.bind_some, unlocked_ h h0 h1]
  by_cases h2 : 0 ≤ c ∧ c ≤ 5
  · by_cases h3 : h % 256 = 0
    · simp [h2, h3, lock_eq h c h0 h1 h2 h3]
    · simp [h2, h3]
  · simp [h2]
theorem split_ (h : Int) (h0 : 0 ≤ h) (h1 : h < 18446744073709551616) : word_SplitHeader.f h = some (h / 256, h % 256) := by
  unfold word_SplitHeader.f
  rw [and255 h h0 h1, i64w _ (by omega) (by omega)]
theorem next_ (h : Int) (h0 : 0 ≤ h) (h1 : h < 18446744073709551616) : word_Next.f h = some (next h) := by
  unfold word_Next.f next
  rw [split_ h h0 h1, Option.bind_some]
  simp only [within_u, Option.bind_some]
  by_cases h2 : 1 ≤ h / 256 ∧ h / 256 ≤ 281474976710654
  · rw [if_pos (decide_eq_true h2), if_pos h2, next_eq h h2]
  · rw [if_neg (by rw [decide_eq_true_eq]; exact h2), if_neg h2]
theorem ballot_ (r c : Int) : word_Ballot.f r c = some (ballot r c) := by
  unfold word_Ballot.f ballot
  rw [within_i, Option.bind_some, client_]
  by_cases h : 1 ≤ r ∧ r ≤ 500
  · by_cases h2 : 0 ≤ c ∧ c ≤ 5
    · simp [h, h2, ballot_eq r c h h2]
    · simp [h, h2]
  · simp [h]
theorem key_ (n : Int) (b : Bool) : word_Key.f n b = some (key n b) := by
  unfold word_Key.f key
  rw [within_i, Option.bind_some]
  by_cases h : 0 ≤ n ∧ n ≤ 15
  · cases b
    · simp [h, key_eq n h]
    · simp [h, key_eq1 n h]
  · simp [h]
theorem mark_ (s : Int) : word_Mark.f s = some (markN s) := by
  unfold word_Mark.f markN
  rw [within_i, Option.bind_some]
  by_cases h : 1 ≤ s ∧ s ≤ 1073741823
  · simp [h, mark_eq s h]
  · simp [h]
theorem tag_ (i c : Int) : word_Tag.f i c = some (tag i c) := by
  unfold word_Tag.f tag
  rw [inc_, Option.bind_some, client_]
  by_cases h : inc i
  · by_cases h2 : 0 ≤ c ∧ c ≤ 5
    · simp [h, h2, tag_eq i c h h2]
    · simp [h, h2]
  · simp [h]
theorem awake_ : bodegalaw1_awake.f = some true := by
  unfold bodegalaw1_awake.f
  rw [header_, lock_ 256 2 (by omega) (by omega), next_ 259 (by omega) (by omega), key_, mark_, tag_, ballot_]
  decide

theorem lease_ (i u : Int) : word_Lease.f i u = some (lease i u) := by
  unfold word_Lease.f lease
  rw [inc_, Option.bind_some, within_i]
  by_cases h : inc i
  · by_cases h2 : 0 ≤ u ∧ u ≤ 4294967295
    · simp [h, h2, lease_eq i u h h2]
    · simp [h, h2]
  · simp [h]

theorem rclient_ (c : Int) : bodegaref1_Client.f c = some (decide (0 ≤ c ∧ c ≤ 5)) := by
  unfold bodegaref1_Client.f
  by_cases h : 0 ≤ c
  · rw [if_pos h]; congr 2; simp only [h, true_and, eq_iff_iff]; omega
  · rw [if_neg h]; simp [h]

theorem rinc_ (i : Int) : bodegaref1_Inc.f i = some (decide (inc i)) := by
  unfold bodegaref1_Inc.f
  by_cases h : 1 ≤ i
  · by_cases h2 : i ≤ 59
    · rw [if_pos h, if_pos h2, tmod2 i h]
      congr 2
      simp only [inc, eq_iff_iff]
      omega
    · rw [if_pos h, if_neg h2]
      simp [inc, h2]
  · rw [if_neg h]
    simp [inc, h]

theorem rtag_ (i c : Int) : bodegaref1_Tag.f i c = some (tag i c) := by
  unfold bodegaref1_Tag.f tag
  rw [rinc_, Option.bind_some, rclient_]
  by_cases h : inc i
  · by_cases h2 : 0 ≤ c ∧ c ≤ 5
    · simp [h, h2, tag_eq i c h h2]
    · simp [h, h2]
  · simp [h]

theorem rballot_ (k : Nat) (r c : Int) : bodegaref1_Ballot.f (k + 1) r c = some (ballot r c) := by
  unfold bodegaref1_Ballot.f ballot
  by_cases h : 1 ≤ r
  · rw [if_neg (by omega)]
    simp only [bodegaref1_Ballot.j0]
    by_cases h2 : r ≤ 500
    · rw [if_neg (by rw [decide_eq_true_eq]; omega), rclient_, Option.bind_some]
      by_cases h3 : 0 ≤ c ∧ c ≤ 5
      · simp [h, h2, h3, ballot_eq r c ⟨h, h2⟩ h3]
      · simp [h, h2, h3]
    · rw [if_pos (by rw [decide_eq_true_eq]; omega), if_neg (by omega)]
  · rw [if_pos (by omega), if_neg (by omega)]
    simp [bodegaref1_Ballot.j0]

theorem rmark_ (s : Int) : bodegaref1_Mark.f s = some (markN s) := by
  unfold bodegaref1_Mark.f markN
  by_cases h : 1 ≤ s
  · by_cases h2 : s ≤ 1073741823
    · rw [if_neg (by omega), if_neg (by omega), if_pos ⟨h, h2⟩, mark_eq s ⟨h, h2⟩]
    · rw [if_neg (by omega), if_pos (by omega), if_neg (by omega)]
  · rw [if_pos (by omega), if_neg (by omega)]

theorem rkey_ (k : Nat) (n : Int) (b : Bool) : bodegaref1_Key.f (k + 1) n b = some (key n b) := by
  unfold bodegaref1_Key.f key
  by_cases h : 0 ≤ n
  · rw [if_neg (by omega)]
    simp only [bodegaref1_Key.j0]
    by_cases h2 : n ≤ 15
    · rw [if_neg (by rw [decide_eq_true_eq]; omega), i64w (2 * n) (by omega) (by omega), u64w (2 * n) (by omega) (by omega), u64w (2 * n + 1) (by omega) (by omega), Int.mul_comm 2 n]
      cases b <;> simp [h, h2]
    · rw [if_pos (by rw [decide_eq_true_eq]; omega), if_neg (by omega)]
  · rw [if_pos (by omega), if_neg (by omega)]
    simp [bodegaref1_Key.j0]

theorem rlease_ (i u : Int) : bodegaref1_Lease.f i u = some (lease i u) := by
  unfold bodegaref1_Lease.f lease
  rw [rinc_, Option.bind_some]
  by_cases h : inc i
  · rw [if_pos (decide_eq_true h)]
    by_cases h2 : 0 ≤ u
    · by_cases h3 : u ≤ 4294967295
      · rw [if_neg (by omega), if_neg (by omega), if_pos h, if_pos ⟨h2, h3⟩, lease_eq i u h ⟨h2, h3⟩]
      · rw [if_neg (by omega), if_pos (by omega), if_pos h, if_neg (by omega)]
    · rw [if_pos (by omega), if_pos h, if_neg (by omega)]
  · rw [if_neg (by rw [decide_eq_true_eq]; exact h), if_neg h]

theorem consensus_ (a b c : Int) : word_Consensus.f a b c = bodegaref1_Consensus.f a b c := rfl
theorem consensus_some (a b c : Int) : ∃ r, bodegaref1_Consensus.f a b c = some r := by
  unfold bodegaref1_Consensus.f
  by_cases h1 : a ≥ 4096
  · rw [if_pos h1]; exact ⟨_, rfl⟩
  · rw [if_neg h1]
    by_cases h2 : b ≥ 4096
    · rw [if_pos h2]; exact ⟨_, rfl⟩
    · rw [if_neg h2]
      by_cases h3 : c ≥ 1099511627776
      · rw [if_pos h3]; exact ⟨_, rfl⟩
      · rw [if_neg h3]; exact ⟨_, rfl⟩
theorem WordPacks : bodegalaw1_WordPacks.Pure := by
  intro n b s i c u r p a v _ _ _ _ _ _ _ _ _
  refine ⟨2, ?_⟩
  obtain ⟨x, hx⟩ := consensus_some p a v
  unfold bodegalaw1_WordPacks.f
  rw [key_, rkey_ 1, mark_, rmark_, tag_, rtag_, awake_]
  simp only [Option.bind_some, if_true, bne_self_eq_false, bodegalaw1_WordPacks.j0]
  rw [lease_, rlease_, ballot_, rballot_ 0, consensus_, hx]
  simp

end Go.Proofs.Ytpcoflcelmfnbaa.Pure
