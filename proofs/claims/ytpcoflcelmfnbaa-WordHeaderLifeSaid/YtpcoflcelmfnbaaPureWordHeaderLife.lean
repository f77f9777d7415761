/- A header goes from unlocked to locked to the next version, unlocked, and a locked header cannot be locked again: for all arguments. No condition. -/
import Derived.Test.YtpcoflcelmfnbaaPWordHeaderLifex2
import Derived.Test.YtpcoflcelmfnbaaNum
import Derived.OpenShut
namespace Go.Proofs.Ytpcoflcelmfnbaa.Pure
open Go.RowKit Go.Proofs.Ytpcoflcelmfnbaa.PWordHeaderLife Go.Proofs.YtpcoflcelmfnbaaW.PrintWords Go.Proofs.YtpcoflcelmfnbaaW.PrintLast Go.Proofs.YtpcoflcelmfnbaaW.PrintMore Go.Proofs.Ytpcoflcelmfnbaa.Num

theorem within_i (a b c : Int) : word_within_int.f a b c = some (decide (b ≤ a ∧ a ≤ c)) := by
  unfold word_within_int.f
  by_cases h : b ≤ a <;> simp [h]
theorem within_u (a b c : Int) : word_within_uint64.f a b c = some (decide (b ≤ a ∧ a ≤ c)) := by
  unfold word_within_uint64.f
  by_cases h : b ≤ a <;> simp [h]
theorem client_ (c : Int) : word_isClient.f c = some (decide (0 ≤ c ∧ c ≤ 5)) := by
  unfold word_isClient.f
  rw [within_i]; rfl
theorem inc_ (i : Int) : word_isInc.f i = some (decide (inc i)) := by
  unfold word_isInc.f
  rw [within_i, Option.bind_some]
  by_cases h : 1 ≤ i ∧ i ≤ 59
  · rw [if_pos (decide_eq_true h), tmod2 i h.1]
    congr 2
    simp only [inc, eq_iff_iff]
    omega
  · rw [if_neg (by rw [decide_eq_true_eq]; exact h)]
    congr 1
    symm
    rw [decide_eq_false_iff_not]
    unfold inc
    omega
theorem header_ (v o : Int) : word_Header.f v o = some (hdr v o) := by
  unfold word_Header.f hdr
  rw [within_u, Option.bind_some, within_i]
  by_cases h : 1 ≤ v ∧ v ≤ 281474976710655
  · by_cases h2 : 0 ≤ o ∧ o ≤ 6
    · simp [h, h2, hdr_eq v o h h2]
    · simp [h, h2]
  · simp [h]
theorem unlocked_ (h : Int) (h0 : 0 ≤ h) (h1 : h < 18446744073709551616) : word_Unlocked.f h = some (decide (h % 256 = 0)) := by
  unfold word_Unlocked.f
  rw [and255 h h0 h1]
  rfl
theorem lock_ (h c : Int) (h0 : 0 ≤ h) (h1 : h < 18446744073709551616) : word_Lock.f h c = some (lock h c) := by
  unfold word_Lock.f lock
  rw [client_, Option.bind_some, unlocked_ h h0 h1]
  by_cases h2 : 0 ≤ c ∧ c ≤ 5
  · by_cases h3 : h % 256 = 0
    · simp [h2, h3, lock_eq h c h0 h1 h2 h3]
    · simp [h2, h3]
  · simp [h2]
theorem split_ (h : Int) (h0 : 0 ≤ h) (h1 : h < 18446744073709551616) : word_SplitHeader.f h = some (h / 256, h % 256) := by
  unfold word_SplitHeader.f
  rw [and255 h h0 h1, i64w _ (by omega) (by omega)]
theorem next_ (h : Int) (h0 : 0 ≤ h) (h1 : h < 18446744073709551616) : word_Next.f h = some (next h) := by
  unfold word_Next.f next
  rw [split_ h h0 h1, Option.bind_some]
  simp only [within_u, Option.bind_some]
  by_cases h2 : 1 ≤ h / 256 ∧ h / 256 ≤ 281474976710654
  · rw [if_pos (decide_eq_true h2), if_pos h2, next_eq h h2]
  · rw [if_neg (by rw [decide_eq_true_eq]; exact h2), if_neg h2]
theorem ballot_ (r c : Int) : word_Ballot.f r c = some (ballot r c) := by
  unfold word_Ballot.f ballot
  rw [within_i, Option.bind_some, client_]
  by_cases h : 1 ≤ r ∧ r ≤ 500
  · by_cases h2 : 0 ≤ c ∧ c ≤ 5
    · simp [h, h2, ballot_eq r c h h2]
    · simp [h, h2]
  · simp [h]
theorem key_ (n : Int) (b : Bool) : word_Key.f n b = some (key n b) := by
  unfold word_Key.f key
  rw [within_i, Option.bind_some]
  by_cases h : 0 ≤ n ∧ n ≤ 15
  · cases b
    · simp [h, key_eq n h]
    · simp [h, key_eq1 n h]
  · simp [h]
theorem mark_ (s : Int) : word_Mark.f s = some (markN s) := by
  unfold word_Mark.f markN
  rw [within_i, Option.bind_some]
  by_cases h : 1 ≤ s ∧ s ≤ 1073741823
  · simp [h, mark_eq s h]
  · simp [h]
theorem tag_ (i c : Int) : word_Tag.f i c = some (tag i c) := by
  unfold word_Tag.f tag
  rw [inc_, Option.bind_some, client_]
  by_cases h : inc i
  · by_cases h2 : 0 ≤ c ∧ c ≤ 5
    · simp [h, h2, tag_eq i c h h2]
    · simp [h, h2]
  · simp [h]
theorem awake_ : bodegalaw1_awake.f = some true := by
  unfold bodegalaw1_awake.f
  rw [header_, lock_ 256 2 (by omega) (by omega), next_ 259 (by omega) (by omega), key_, mark_, tag_, ballot_]
  decide

theorem pick_ (n k : Int) (h1 : 1 ≤ k) (h2 : k ≤ 1099511627776) : bodegahand_Pick.f n k = some (n % k) := by
  unfold bodegahand_Pick.f
  rw [if_neg (by omega), if_neg (by omega), pick_eq n k h1 h2]

theorem lock_free (h c : Int) (h1 : h % 256 = 0) (h2 : 0 ≤ c ∧ c ≤ 5) : lock h c = (h + (c + 1), 0) := by unfold lock; rw [if_pos h2, if_pos h1]
theorem lock_busy (h c : Int) (h1 : ¬ h % 256 = 0) (h2 : 0 ≤ c ∧ c ≤ 5) : lock h c = (0, 3) := by unfold lock; rw [if_pos h2, if_neg h1]
theorem next_to (h v : Int) (h1 : h / 256 = v) (h2 : 1 ≤ v ∧ v ≤ 281474976710654) : next h = ((v + 1) * 256, 0) := by unfold next; rw [h1, if_pos h2]
theorem life (V c o r : Int) (hV : 1 ≤ V ∧ V ≤ 281474976710556) (hc : 0 ≤ c ∧ c ≤ 5) (ho : 0 ≤ o ∧ o ≤ 5) (d : Nat) :
    ∀ (k : Nat) (i : Int), 0 ≤ i → i + d = r % 40 → 2 * d < k → bodegalaw1_WordHeaderLife.l0 k V c o r ((V + i) * 256) i = some true := by
  have hr0 := Int.emod_nonneg r (show (40 : Int) ≠ 0 by decide)
  have hr1 := Int.emod_lt_of_pos r (show (0 : Int) < 40 by decide)
  have hp := pick_ r 40 (by omega) (by omega)
  generalize r % 40 = R at *
  induction d with
  | zero =>
    intro k i h0 hd hk
    obtain ⟨k, rfl⟩ : ∃ m, k = m + 1 := ⟨k - 1, by omega⟩
    simp only [bodegalaw1_WordHeaderLife.l0]
    rw [hp, Option.bind_some, if_neg (by omega), split_ _ (by omega) (by omega), Option.bind_some, Option.bind_some]
    rw [if_pos (show (V + i) * 256 % 256 = 0 by omega), u64w R (by omega) (by omega), u64w (V + R) (by omega) (by omega)]
    congr 1
    rw [beq_iff_eq]
    show (V + i) * 256 / 256 = V + R
    omega
  | succ d ih =>
    intro k i h0 hd hk
    obtain ⟨k, rfl⟩ : ∃ m, k = m + 2 := ⟨k - 2, by omega⟩
    have hn := ih k (i + 1) (by omega) (by omega) (by omega)
    simp only [bodegalaw1_WordHeaderLife.l0]
    rw [hp, Option.bind_some, if_pos (by omega), lock_ ((V + i) * 256) c (by omega) (by omega), lock_free _ _ (by omega) hc, Option.bind_some,
      lock_ ((V + i) * 256 + (c + 1)) o (by omega) (by omega), lock_busy _ _ (by omega) ho, Option.bind_some,
      split_ ((V + i) * 256 + (c + 1)) (by omega) (by omega), Option.bind_some, if_pos rfl, if_pos rfl,
      u64w i (by omega) (by omega), u64w (V + i) (by omega) (by omega), i64w (c + 1) (by omega) (by omega),
      if_pos (show ((V + i) * 256 + (c + 1)) / 256 = V + i by omega), if_pos (show ((V + i) * 256 + (c + 1)) % 256 = c + 1 by omega),
      unlocked_ ((V + i) * 256 + (c + 1)) (by omega) (by omega), Option.bind_some,
      if_neg (show ¬ (decide (((V + i) * 256 + (c + 1)) % 256 = 0) = true) by rw [decide_eq_true_eq]; omega),
      unlocked_ ((V + i) * 256) (by omega) (by omega), Option.bind_some]
    rw [show (!decide ((V + i) * 256 % 256 = 0)) = false by rw [decide_eq_true (show (V + i) * 256 % 256 = 0 by omega)]; rfl]
    simp only [bodegalaw1_WordHeaderLife.j2]
    rw [if_neg (by decide), next_ ((V + i) * 256 + (c + 1)) (by omega) (by omega), next_to _ (V + i) (by omega) (by omega), Option.bind_some,
      next_ ((V + i) * 256) (by omega) (by omega), next_to _ (V + i) (by omega) (by omega), Option.bind_some, if_pos rfl, if_pos rfl, if_pos rfl,
      if_neg (show ¬ ((V + i + 1) * 256 ≤ (V + i) * 256 + (c + 1)) by omega), i64w (i + 1) (by omega) (by omega)]
    rw [show V + (i + 1) = V + i + 1 by omega] at hn
    exact hn
theorem WordHeaderLife : bodegalaw1_WordHeaderLife.Pure := by
  intro v c o r hv _ _ _
  have hb := bounds_u64 hv
  have hc0 := Int.emod_nonneg c (show (6 : Int) ≠ 0 by decide)
  have hc1 := Int.emod_lt_of_pos c (show (0 : Int) < 6 by decide)
  have ho0 := Int.emod_nonneg o (show (6 : Int) ≠ 0 by decide)
  have ho1 := Int.emod_lt_of_pos o (show (0 : Int) < 6 by decide)
  have hr0 := Int.emod_nonneg r (show (40 : Int) ≠ 0 by decide)
  have hr1 := Int.emod_lt_of_pos r (show (0 : Int) < 40 by decide)
  have hv0 := Int.emod_nonneg v (show (281474976710556 : Int) ≠ 0 by decide)
  have hv1 := Int.emod_lt_of_pos v (show (0 : Int) < 281474976710556 by decide)
  refine ⟨82, ?_⟩
  unfold bodegalaw1_WordHeaderLife.f
  rw [Int.tmod_eq_emod_of_nonneg hb.1, pick_ c 6 (by omega) (by omega), pick_ o 6 (by omega) (by omega), Option.bind_some, Option.bind_some]
  generalize v % 281474976710556 = V at *
  generalize c % 6 = c at *
  generalize o % 6 = o at *
  rw [u64w (V + 1) (by omega) (by omega), header_, Option.bind_some]
  have e : hdr (V + 1) 0 = ((V + 1) * 256 + 0, 0) := by unfold hdr; rw [if_pos (by omega), if_pos (by omega)]
  rw [e, if_pos rfl, awake_, Option.bind_some]
  simp only [Bool.not_true, bodegalaw1_WordHeaderLife.j0]
  rw [if_neg (by decide)]
  have := life (V + 1) c o r (by omega) (by omega) (by omega) (r % 40).toNat 81 0 (by omega) (by omega) (by omega)
  rw [Int.add_zero] at this ⊢
  exact this

end Go.Proofs.Ytpcoflcelmfnbaa.Pure
