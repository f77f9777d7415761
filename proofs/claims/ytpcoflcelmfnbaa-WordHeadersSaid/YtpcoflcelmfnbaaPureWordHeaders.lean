/- Headers are made, split, locked and advanced as the reference says, for all arguments. No condition. -/
import Derived.Test.YtpcoflcelmfnbaaPWordHeadersx2
import Derived.Test.YtpcoflcelmfnbaaNum
import Derived.OpenShut
namespace Go.Proofs.Ytpcoflcelmfnbaa.Pure
open Go.RowKit Go.Proofs.Ytpcoflcelmfnbaa.PWordHeaders Go.Proofs.YtpcoflcelmfnbaaW.PrintWords Go.Proofs.YtpcoflcelmfnbaaW.PrintLast Go.Proofs.YtpcoflcelmfnbaaW.PrintMore Go.Proofs.Ytpcoflcelmfnbaa.Num

theorem within_i (a b c : Int) : word_within_int.f a b c = some (decide (b ≤ a ∧ a ≤ c)) := by
  unfold word_within_int.f
  by_cases h : b ≤ a <;> simp [h]
theorem within_u (a b c : Int) : word_within_uint64.f a b c = some (decide (b ≤ a ∧ a ≤ c)) := by
  unfold word_within_uint64.f
  by_cases h : b ≤ a <;> simp [h]
theorem client_ (c : Int) : word_isClient.f c = some (decide (0 ≤ c ∧ c ≤ 5)) := by
  unfold word_isClient.f
  rw [within_i]; rfl
theorem inc_ (i : Int) : word_isInc.f i = some (decide (inc i)) := by
  unfold word_isInc.f
  rw [within_i, Option.bind_some]
  by_cases h : 1 ≤ i ∧ i ≤ 59
  · rw [if_pos (decide_eq_true h), tmod2 i h.1]
    congr 2
    simp only [inc, eq_iff_iff]
    omega
  · rw [if_neg (by rw [decide_eq_true_eq]; exact h)]
    congr 1
    symm
    rw [decide_eq_false_iff_not]
    unfold inc
    omega
theorem header_ (v o : Int) : word_Header.f v o = some (hdr v o) := by
  unfold word_Header.f hdr
  rw [within_u, Option.bind_some, within_i]
  by_cases h : 1 ≤ v ∧ v ≤ 281474976710655
  · by_cases h2 : 0 ≤ o ∧ o ≤ 6
    · simp [h, h2, hdr_eq v o h h2]
    · simp [h, h2]
  · simp [h]
theorem unlocked_ (h : Int) (h0 : 0 ≤ h) (h1 : h < 18446744073709551616) : word_Unlocked.f h = some (decide (h % 256 = 0)) := by
  unfold word_Unlocked.f
  rw [and255 h h0 h1]
  rfl
theorem lock_ (h c : Int) (h0 : 0 ≤ h) (h1 : h < 18446744073709551616) : word_Lock.f h c = some (lock h c) := by
  unfold word_Lock.f lock
  rw [client_, Option.bind_some, unlocked_ h h0 h1]
  by_cases h2 : 0 ≤ c ∧ c ≤ 5
  · by_cases h3 : h % 256 = 0
    · simp [h2, h3, lock_eq h c h0 h1 h2 h3]
    · simp [h2, h3]
  · simp [h2]
theorem split_ (h : Int) (h0 : 0 ≤ h) (h1 : h < 18446744073709551616) : word_SplitHeader.f h = some (h / 256, h % 256) := by
  unfold word_SplitHeader.f
  rw [and255 h h0 h1, i64w _ (by omega) (by omega)]
theorem next_ (h : Int) (h0 : 0 ≤ h) (h1 : h < 18446744073709551616) : word_Next.f h = some (next h) := by
  unfold word_Next.f next
  rw [split_ h h0 h1, Option.bind_some]
  simp only [within_u, Option.bind_some]
  by_cases h2 : 1 ≤ h / 256 ∧ h / 256 ≤ 281474976710654
  · rw [if_pos (decide_eq_true h2), if_pos h2, next_eq h h2]
  · rw [if_neg (by rw [decide_eq_true_eq]; exact h2), if_neg h2]
theorem ballot_ (r c : Int) : word_Ballot.f r c = some (ballot r c) := by
  unfold word_Ballot.f ballot
  rw [within_i, Option.bind_some, client_]
  by_cases h : 1 ≤ r ∧ r ≤ 500
  · by_cases h2 : 0 ≤ c ∧ c ≤ 5
    · simp [h, h2, ballot_eq r c h h2]
    · simp [h, h2]
  · simp [h]
theorem key_ (n : Int) (b : Bool) : word_Key.f n b = some (key n b) := by
  unfold word_Key.f key
  rw [within_i, Option.bind_some]
  by_cases h : 0 ≤ n ∧ n ≤ 15
  · cases b
    · simp [h, key_eq n h]
    · simp [h, key_eq1 n h]
  · simp [h]
theorem mark_ (s : Int) : word_Mark.f s = some (markN s) := by
  unfold word_Mark.f markN
  rw [within_i, Option.bind_some]
  by_cases h : 1 ≤ s ∧ s ≤ 1073741823
  · simp [h, mark_eq s h]
  · simp [h]
theorem tag_ (i c : Int) : word_Tag.f i c = some (tag i c) := by
  unfold word_Tag.f tag
  rw [inc_, Option.bind_some, client_]
  by_cases h : inc i
  · by_cases h2 : 0 ≤ c ∧ c ≤ 5
    · simp [h, h2, tag_eq i c h h2]
    · simp [h, h2]
  · simp [h]
theorem awake_ : bodegalaw1_awake.f = some true := by
  unfold bodegalaw1_awake.f
  rw [header_, lock_ 256 2 (by omega) (by omega), next_ 259 (by omega) (by omega), key_, mark_, tag_, ballot_]
  decide

theorem rclient_ (c : Int) : bodegaref1_Client.f c = some (decide (0 ≤ c ∧ c ≤ 5)) := by
  unfold bodegaref1_Client.f
  by_cases h : 0 ≤ c
  · rw [if_pos h]; congr 2; simp only [h, true_and, eq_iff_iff]; omega
  · rw [if_neg h]; simp [h]

theorem rheader_ (k : Nat) (v o : Int) : bodegaref1_Header.f (k + 1) v o = some (hdr v o) := by
  unfold bodegaref1_Header.f hdr
  by_cases h : 1 ≤ v
  · rw [if_neg (by omega)]
    simp only [bodegaref1_Header.j0]
    by_cases h2 : v ≤ 281474976710655
    · rw [if_neg (by rw [decide_eq_true_eq]; omega)]
      by_cases h3 : 0 ≤ o
      · by_cases h4 : o ≤ 6
        · rw [if_neg (by omega), if_neg (by omega), if_pos ⟨h, h2⟩, if_pos ⟨h3, h4⟩, hdr_eq v o ⟨h, h2⟩ ⟨h3, h4⟩]
        · rw [if_neg (by omega), if_pos (by omega), if_pos ⟨h, h2⟩, if_neg (by omega)]
      · rw [if_pos (by omega), if_pos ⟨h, h2⟩, if_neg (by omega)]
    · rw [if_pos (by rw [decide_eq_true_eq]; omega), if_neg (by omega)]
  · rw [if_pos (by omega), if_neg (by omega)]
    simp [bodegaref1_Header.j0]
theorem rsplit_ (h : Int) (h0 : 0 ≤ h) (h1 : h < 18446744073709551616) : bodegaref1_SplitHeader.f h = some (h / 256, h % 256) := by
  unfold bodegaref1_SplitHeader.f
  rw [and255 h h0 h1, i64w _ (by omega) (by omega)]
theorem runlocked_ (h : Int) (h0 : 0 ≤ h) (h1 : h < 18446744073709551616) : bodegaref1_Unlocked.f h = some (decide (h % 256 = 0)) := by
  unfold bodegaref1_Unlocked.f
  rw [and255 h h0 h1]
  rfl
theorem rlock_ (h c : Int) (h0 : 0 ≤ h) (h1 : h < 18446744073709551616) : bodegaref1_Lock.f h c = some (lock h c) := by
  unfold bodegaref1_Lock.f lock
  rw [rclient_, Option.bind_some, runlocked_ h h0 h1]
  by_cases h2 : 0 ≤ c ∧ c ≤ 5
  · by_cases h3 : h % 256 = 0
    · simp [h2, h3, lock_eq h c h0 h1 h2 h3]
    · simp [h2, h3]
  · simp [h2]
theorem rnext_ (h : Int) (h0 : 0 ≤ h) (h1 : h < 18446744073709551616) : bodegaref1_Next.f h = some (next h) := by
  unfold bodegaref1_Next.f next
  by_cases h2 : 1 ≤ h / 256
  · rw [if_neg (by omega)]
    by_cases h3 : h / 256 ≤ 281474976710654
    · rw [next_eq h ⟨h2, h3⟩, u64w (h / 256 + 1) (by omega) (by omega), if_neg (by omega), if_pos ⟨h2, h3⟩]
    · rw [u64w (h / 256 + 1) (by omega) (by omega), if_pos (by omega), if_neg (by omega)]
  · rw [if_pos (by omega), if_neg (by omega)]

theorem WordHeaders : bodegalaw1_WordHeaders.Pure := by
  intro v o h c _ _ hh _
  have hb := bounds_u64 hh
  refine ⟨1, ?_⟩
  unfold bodegalaw1_WordHeaders.f
  rw [header_, rheader_ 0, split_ h (by omega) (by omega), rsplit_ h (by omega) (by omega), lock_ h c (by omega) (by omega), rlock_ h c (by omega) (by omega), next_ h (by omega) (by omega), rnext_ h (by omega) (by omega), awake_,
    unlocked_ h (by omega) (by omega), runlocked_ h (by omega) (by omega)]
  simp

end Go.Proofs.Ytpcoflcelmfnbaa.Pure
