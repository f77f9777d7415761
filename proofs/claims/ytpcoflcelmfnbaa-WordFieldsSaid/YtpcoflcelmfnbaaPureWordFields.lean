/- Field and SetField agree with the reference for all arguments. No condition. -/
import Derived.Test.YtpcoflcelmfnbaaPWordFieldsx2
import Derived.Test.YtpcoflcelmfnbaaNum
import Derived.OpenShut
namespace Go.Proofs.Ytpcoflcelmfnbaa.Pure
open Go.RowKit Go.Proofs.Ytpcoflcelmfnbaa.PWordFields Go.Proofs.YtpcoflcelmfnbaaW.PrintWords Go.Proofs.YtpcoflcelmfnbaaW.PrintLast Go.Proofs.YtpcoflcelmfnbaaW.PrintMore Go.Proofs.Ytpcoflcelmfnbaa.Num

theorem within_i (a b c : Int) : word_within_int.f a b c = some (decide (b ≤ a ∧ a ≤ c)) := by
  unfold word_within_int.f
  by_cases h : b ≤ a <;> simp [h]
theorem within_u (a b c : Int) : word_within_uint64.f a b c = some (decide (b ≤ a ∧ a ≤ c)) := by
  unfold word_within_uint64.f
  by_cases h : b ≤ a <;> simp [h]
theorem client_ (c : Int) : word_isClient.f c = some (decide (0 ≤ c ∧ c ≤ 5)) := by
  unfold word_isClient.f
  rw [within_i]; rfl
theorem inc_ (i : Int) : word_isInc.f i = some (decide (inc i)) := by
  unfold word_isInc.f
  rw [within_i, Option.bind_some]
  by_cases h : 1 ≤ i ∧ i ≤ 59
  · rw [if_pos (decide_eq_true h), tmod2 i h.1]
    congr 2
    simp only [inc, eq_iff_iff]
    omega
  · rw [if_neg (by rw [decide_eq_true_eq]; exact h)]
    congr 1
    symm
    rw [decide_eq_false_iff_not]
    unfold inc
    omega
theorem header_ (v o : Int) : word_Header.f v o = some (hdr v o) := by
  unfold word_Header.f hdr
  rw [within_u, Option.bind_some, within_i]
  by_cases h : 1 ≤ v ∧ v ≤ 281474976710655
  · by_cases h2 : 0 ≤ o ∧ o ≤ 6
    · simp [h, h2, hdr_eq v o h h2]
    · simp [h, h2]
  · simp [h]
theorem unlocked_ (h : Int) (h0 : 0 ≤ h) (h1 : h < 18446744073709551616) : word_Unlocked.f h = some (decide (h % 256 = 0)) := by
  unfold word_Unlocked.f
  rw [and255 h h0 h1]
  rfl
theorem lock_ (h c : Int) (h0 : 0 ≤ h) (h1 : h < 18446744073709551616) : word_Lock.f h c = some (lock h c) := by
  unfold word_Lock.f lock
  rw [client_, Option.bind_some, unlocked_ h h0 h1]
  by_cases h2 : 0 ≤ c ∧ c ≤ 5
  · by_cases h3 : h % 256 = 0
    · simp [h2, h3, lock_eq h c h0 h1 h2 h3]
    · simp [h2, h3]
  · simp [h2]
theorem split_ (h : Int) (h0 : 0 ≤ h) (h1 : h < 18446744073709551616) : word_SplitHeader.f h = some (h / 256, h % 256) := by
  unfold word_SplitHeader.f
  rw [and255 h h0 h1, i64w _ (by omega) (by omega)]
theorem next_ (h : Int) (h0 : 0 ≤ h) (h1 : h < 18446744073709551616) : word_Next.f h = some (next h) := by
  unfold word_Next.f next
  rw [split_ h h0 h1, Option.bind_some]
  simp only [within_u, Option.bind_some]
  by_cases h2 : 1 ≤ h / 256 ∧ h / 256 ≤ 281474976710654
  · rw [if_pos (decide_eq_true h2), if_pos h2, next_eq h h2]
  · rw [if_neg (by rw [decide_eq_true_eq]; exact h2), if_neg h2]
theorem ballot_ (r c : Int) : word_Ballot.f r c = some (ballot r c) := by
  unfold word_Ballot.f ballot
  rw [within_i, Option.bind_some, client_]
  by_cases h : 1 ≤ r ∧ r ≤ 500
  · by_cases h2 : 0 ≤ c ∧ c ≤ 5
    · simp [h, h2, ballot_eq r c h h2]
    · simp [h, h2]
  · simp [h]
theorem key_ (n : Int) (b : Bool) : word_Key.f n b = some (key n b) := by
  unfold word_Key.f key
  rw [within_i, Option.bind_some]
  by_cases h : 0 ≤ n ∧ n ≤ 15
  · cases b
    · simp [h, key_eq n h]
    · simp [h, key_eq1 n h]
  · simp [h]
theorem mark_ (s : Int) : word_Mark.f s = some (markN s) := by
  unfold word_Mark.f markN
  rw [within_i, Option.bind_some]
  by_cases h : 1 ≤ s ∧ s ≤ 1073741823
  · simp [h, mark_eq s h]
  · simp [h]
theorem tag_ (i c : Int) : word_Tag.f i c = some (tag i c) := by
  unfold word_Tag.f tag
  rw [inc_, Option.bind_some, client_]
  by_cases h : inc i
  · by_cases h2 : 0 ≤ c ∧ c ≤ 5
    · simp [h, h2, tag_eq i c h h2]
    · simp [h, h2]
  · simp [h]
theorem awake_ : bodegalaw1_awake.f = some true := by
  unfold bodegalaw1_awake.f
  rw [header_, lock_ 256 2 (by omega) (by omega), next_ 259 (by omega) (by omega), key_, mark_, tag_, ballot_]
  decide

theorem mask_ones (n : Int) (h1 : 1 ≤ n) (h2 : n ≤ 64) : word_mask.f n = bodegaref1_ones.f n := by
  unfold word_mask.f bodegaref1_ones.f
  by_cases h : n ≥ 64
  · obtain rfl : n = 64 := by omega
    decide +kernel
  · rw [if_neg h]
theorem ones_some (n : Int) (h1 : 1 ≤ n) (h2 : n ≤ 64) : ∃ m, bodegaref1_ones.f n = some m := by
  unfold bodegaref1_ones.f
  rw [u64w n (by omega) (by omega)]
  by_cases h : n ≥ 64
  · rw [if_pos h]; exact ⟨_, rfl⟩
  · rw [if_neg h, if_pos (by omega)]; exact ⟨_, rfl⟩
theorem isField_ (at_ n : Int) : word_isField.f at_ n = some (decide (1 ≤ n ∧ n ≤ 64 ∧ 0 ≤ at_ ∧ at_ ≤ 64 - n)) := by
  unfold word_isField.f
  by_cases h1 : 1 ≤ n
  · by_cases h2 : n ≤ 64
    · by_cases h3 : 0 ≤ at_
      · rw [if_pos h1, if_pos h2, if_pos h3, i64w (64 - n) (by omega) (by omega)]; simp [h1, h2, h3]
      · rw [if_pos h1, if_pos h2, if_neg h3]; simp [h3]
    · rw [if_pos h1, if_neg h2]; simp [h2]
  · rw [if_neg h1]; simp [h1]
theorem field_ (w at_ n : Int) : word_Field.f w at_ n = bodegaref1_Field.f w at_ n ∧ ∃ r, bodegaref1_Field.f w at_ n = some r := by
  unfold word_Field.f bodegaref1_Field.f
  rw [isField_, Option.bind_some]
  by_cases h1 : 1 ≤ n
  · by_cases h2 : n ≤ 64
    · by_cases h3 : 0 ≤ at_
      · by_cases h4 : at_ ≤ 64 - n
        · obtain ⟨m, hm⟩ := ones_some n h1 h2
          rw [if_pos (by simp only [decide_eq_true_eq]; omega), u64w at_ (by omega) (by omega), if_pos h3, mask_ones n h1 h2, hm, if_neg (by omega), if_neg (by omega), if_neg (by omega), i64w (64 - n) (by omega) (by omega), if_neg (by omega), if_pos h3]
          exact ⟨rfl, _, rfl⟩
        · rw [if_neg (by simp only [decide_eq_true_eq]; omega), if_neg (by omega), if_neg (by omega), if_neg (by omega), i64w (64 - n) (by omega) (by omega), if_pos (by omega)]
          exact ⟨rfl, _, rfl⟩
      · rw [if_neg (by simp only [decide_eq_true_eq]; omega), if_neg (by omega), if_neg (by omega), if_pos (by omega)]
        exact ⟨rfl, _, rfl⟩
    · rw [if_neg (by simp only [decide_eq_true_eq]; omega), if_neg (by omega), if_pos (by omega)]
      exact ⟨rfl, _, rfl⟩
  · rw [if_neg (by simp only [decide_eq_true_eq]; omega), if_pos (by omega)]
    exact ⟨rfl, _, rfl⟩
theorem setField_ (k : Nat) (w at_ n v : Int) : word_SetField.f w at_ n v = bodegaref1_SetField.f (k + 1) w at_ n v ∧ ∃ r, bodegaref1_SetField.f (k + 1) w at_ n v = some r := by
  unfold word_SetField.f bodegaref1_SetField.f
  rw [isField_, Option.bind_some]
  simp only [bodegaref1_SetField.j0]
  by_cases h1 : 1 ≤ n
  · by_cases h2 : n ≤ 64
    · by_cases h3 : 0 ≤ at_
      · by_cases h4 : at_ ≤ 64 - n
        · obtain ⟨m, hm⟩ := ones_some n h1 h2
          rw [if_pos (by simp only [decide_eq_true_eq]; omega), mask_ones n h1 h2, hm, u64w at_ (by omega) (by omega)]
          simp only [Option.bind_some]
          rw [if_neg (show ¬ n < 1 by omega), if_neg (show ¬ n > 64 by omega), if_neg (show ¬ at_ < 0 by omega), i64w (64 - n) (by omega) (by omega), if_neg (show ¬ (decide (at_ > 64 - n) = true) by rw [decide_eq_true_eq]; omega)]
          by_cases h5 : v > m
          · rw [if_pos h5]; exact ⟨rfl, _, rfl⟩
          · rw [if_neg h5, if_pos h3]; exact ⟨rfl, _, rfl⟩
        · rw [if_neg (by simp only [decide_eq_true_eq]; omega), if_neg (by omega), if_neg (by omega), if_neg (by omega), i64w (64 - n) (by omega) (by omega), if_pos (by rw [decide_eq_true_eq]; omega)]
          exact ⟨rfl, _, rfl⟩
      · rw [if_neg (by simp only [decide_eq_true_eq]; omega), if_neg (by omega), if_neg (by omega), if_pos (by omega), if_pos trivial]
        exact ⟨rfl, _, rfl⟩
    · rw [if_neg (by simp only [decide_eq_true_eq]; omega), if_neg (by omega), if_pos (by omega), if_pos trivial]
      exact ⟨rfl, _, rfl⟩
  · rw [if_neg (by simp only [decide_eq_true_eq]; omega), if_pos (by omega), if_pos trivial]
    exact ⟨rfl, _, rfl⟩
theorem WordFields : bodegalaw1_WordFields.Pure := by
  intro w at_ n v _ _ _ _
  refine ⟨1, ?_⟩
  obtain ⟨e1, x, hx⟩ := field_ w at_ n
  obtain ⟨e2, y, hy⟩ := setField_ 0 w at_ n v
  unfold bodegalaw1_WordFields.f
  rw [e1, hx, e2, hy, awake_]
  simp

end Go.Proofs.Ytpcoflcelmfnbaa.Pure
