/- Of ballots the greater round has the greater one, and ballots of different rounds or compute nodes differ: for all arguments. No condition. -/
import Derived.Test.YtpcoflcelmfnbaaPWordBallotsx2
import Derived.Test.YtpcoflcelmfnbaaNum
import Derived.OpenShut
namespace Go.Proofs.Ytpcoflcelmfnbaa.Pure
open Go.RowKit Go.Proofs.Ytpcoflcelmfnbaa.PWordBallots Go.Proofs.YtpcoflcelmfnbaaW.PrintWords Go.Proofs.YtpcoflcelmfnbaaW.PrintLast Go.Proofs.YtpcoflcelmfnbaaW.PrintMore Go.Proofs.Ytpcoflcelmfnbaa.Num

theorem within_i (a b c : Int) : word_within_int.f a b c = some (decide (b ≤ a ∧ a ≤ c)) := by
  unfold word_within_int.f
  by_cases h : b ≤ a <;> simp [h]
theorem within_u (a b c : Int) : word_within_uint64.f a b c = some (decide (b ≤ a ∧ a ≤ c)) := by
  unfold word_within_uint64.f
  by_cases h : b ≤ a <;> simp [h]
theorem client_ (c : Int) : word_isClient.f c = some (decide (0 ≤ c ∧ c ≤ 5)) := by
  unfold word_isClient.f
  rw [within_i]; rfl
theorem inc_ (i : Int) : word_isInc.f i = some (decide (inc i)) := by
  unfold word_isInc.f
  rw [within_i, Option.bind_some]
  by_cases h : 1 ≤ i ∧ i ≤ 59
  · rw [if_pos (decide_eq_true h), tmod2 i h.1]
    congr 2
    simp only [inc, eq_iff_iff]
    omega
  · rw [if_neg (by rw [decide_eq_true_eq]; exact h)]
    congr 1
    symm
    rw [decide_eq_false_iff_not]
    unfold inc
    omega
theorem header_ (v o : Int) : word_Header.f v o = some (hdr v o) := by
  unfold word_Header.f hdr
  rw [within_u, Option.bind_some, within_i]
  by_cases h : 1 ≤ v ∧ v ≤ 281474976710655
  · by_cases h2 : 0 ≤ o ∧ o ≤ 6
    · simp [h, h2, hdr_eq v o h h2]
    · simp [h, h2]
  · simp [h]
theorem unlocked_ (h : Int) (h0 : 0 ≤ h) (h1 : h < 18446744073709551616) : word_Unlocked.f h = some (decide (h % 256 = 0)) := by
  unfold word_Unlocked.f
  rw [and255 h h0 h1]
  rfl
theorem lock_ (h c : Int) (h0 : 0 ≤ h) (h1 : h < 18446744073709551616) : word_Lock.f h c = some (lock h c) := by
  unfold word_Lock.f lock
  rw [client_, Option.bind_some, unlocked_ h h0 h1]
  by_cases h2 : 0 ≤ c ∧ c ≤ 5
  · by_cases h3 : h % 256 = 0
    · simp [h2, h3, lock_eq h c h0 h1 h2 h3]
    · simp [h2, h3]
  · simp [h2]
theorem split_ (h : Int) (h0 : 0 ≤ h) (h1 : h < 18446744073709551616) : word_SplitHeader.f h = some (h / 256, h % 256) := by
  unfold word_SplitHeader.f
  rw [and255 h h0 h1, i64w _ (by omega) (by omega)]
theorem next_ (h : Int) (h0 : 0 ≤ h) (h1 : h < 18446744073709551616) : word_Next.f h = some (next h) := by
  unfold word_Next.f next
  rw [split_ h h0 h1, Option.bind_some]
  simp only [within_u, Option.bind_some]
  by_cases h2 : 1 ≤ h / 256 ∧ h / 256 ≤ 281474976710654
  · rw [if_pos (decide_eq_true h2), if_pos h2, next_eq h h2]
  · rw [if_neg (by rw [decide_eq_true_eq]; exact h2), if_neg h2]
theorem ballot_ (r c : Int) : word_Ballot.f r c = some (ballot r c) := by
  unfold word_Ballot.f ballot
  rw [within_i, Option.bind_some, client_]
  by_cases h : 1 ≤ r ∧ r ≤ 500
  · by_cases h2 : 0 ≤ c ∧ c ≤ 5
    · simp [h, h2, ballot_eq r c h h2]
    · simp [h, h2]
  · simp [h]
theorem key_ (n : Int) (b : Bool) : word_Key.f n b = some (key n b) := by
  unfold word_Key.f key
  rw [within_i, Option.bind_some]
  by_cases h : 0 ≤ n ∧ n ≤ 15
  · cases b
    · simp [h, key_eq n h]
    · simp [h, key_eq1 n h]
  · simp [h]
theorem mark_ (s : Int) : word_Mark.f s = some (markN s) := by
  unfold word_Mark.f markN
  rw [within_i, Option.bind_some]
  by_cases h : 1 ≤ s ∧ s ≤ 1073741823
  · simp [h, mark_eq s h]
  · simp [h]
theorem tag_ (i c : Int) : word_Tag.f i c = some (tag i c) := by
  unfold word_Tag.f tag
  rw [inc_, Option.bind_some, client_]
  by_cases h : inc i
  · by_cases h2 : 0 ≤ c ∧ c ≤ 5
    · simp [h, h2, tag_eq i c h h2]
    · simp [h, h2]
  · simp [h]
theorem awake_ : bodegalaw1_awake.f = some true := by
  unfold bodegalaw1_awake.f
  rw [header_, lock_ 256 2 (by omega) (by omega), next_ 259 (by omega) (by omega), key_, mark_, tag_, ballot_]
  decide

theorem pick_ (n k : Int) (h1 : 1 ≤ k) (h2 : k ≤ 1099511627776) : bodegahand_Pick.f n k = some (n % k) := by
  unfold bodegahand_Pick.f
  rw [if_neg (by omega), if_neg (by omega), pick_eq n k h1 h2]

theorem WordBallots : bodegalaw1_WordBallots.Pure := by
  intro a b c d _ _ _ _
  refine ⟨1, ?_⟩
  unfold bodegalaw1_WordBallots.f
  have ha := Int.emod_nonneg a (show (500 : Int) ≠ 0 by omega)
  have ha' := Int.emod_lt_of_pos a (show (0 : Int) < 500 by omega)
  have hb := Int.emod_nonneg b (show (500 : Int) ≠ 0 by omega)
  have hb' := Int.emod_lt_of_pos b (show (0 : Int) < 500 by omega)
  have hc := Int.emod_nonneg c (show (6 : Int) ≠ 0 by omega)
  have hc' := Int.emod_lt_of_pos c (show (0 : Int) < 6 by omega)
  have hd := Int.emod_nonneg d (show (6 : Int) ≠ 0 by omega)
  have hd' := Int.emod_lt_of_pos d (show (0 : Int) < 6 by omega)
  rw [pick_ a 500 (by omega) (by omega), pick_ b 500 (by omega) (by omega), pick_ c 6 (by omega) (by omega), pick_ d 6 (by omega) (by omega), awake_]
  simp only [Option.bind_some, ballot_]
  generalize a % 500 = a at *
  generalize b % 500 = b at *
  generalize c % 6 = c at *
  generalize d % 6 = d at *
  rw [i64w (a + 1) (by omega) (by omega), i64w (b + 1) (by omega) (by omega)]
  have e1 : ballot (a + 1) c = ((a + 1) * 8 + c + 1, 0) := by unfold ballot; rw [if_pos (by omega), if_pos (by omega)]
  have e2 : ballot (b + 1) d = ((b + 1) * 8 + d + 1, 0) := by unfold ballot; rw [if_pos (by omega), if_pos (by omega)]
  rw [e1, e2]
  simp only [if_true, bodegalaw1_WordBallots.j0]
  rw [if_neg (by decide)]
  by_cases h : a + 1 = b + 1
  · rw [if_pos h]
    have k1 : decide ((a + 1) * 8 + c + 1 < (b + 1) * 8 + d + 1) = decide (c < d) := by
      rw [decide_eq_decide]; omega
    have k2 : ((a + 1) * 8 + c + 1 == (b + 1) * 8 + d + 1) = (c == d) := by
      rw [Bool.eq_iff_iff, beq_iff_eq, beq_iff_eq]; omega
    rw [k1, k2]
    simp
  · rw [if_neg h]
    have k1 : decide ((a + 1) * 8 + c + 1 < (b + 1) * 8 + d + 1) = decide (a + 1 < b + 1) := by
      rw [decide_eq_decide]; omega
    have k2 : ((a + 1) * 8 + c + 1 != (b + 1) * 8 + d + 1) = true := by
      rw [bne_iff_ne]; omega
    rw [k1, k2]
    simp

end Go.Proofs.Ytpcoflcelmfnbaa.Pure
