/- A field that was set is read back, and all other bits stay as they were: for all arguments. No condition. -/
import Derived.Test.YtpcoflcelmfnbaaPWordFieldsBackx2
import Derived.Test.YtpcoflcelmfnbaaNum
import Derived.OpenShut
namespace Go.Proofs.Ytpcoflcelmfnbaa.Pure
open Go.RowKit Go.Proofs.Ytpcoflcelmfnbaa.PWordFieldsBack Go.Proofs.YtpcoflcelmfnbaaW.PrintWords Go.Proofs.YtpcoflcelmfnbaaW.PrintLast Go.Proofs.YtpcoflcelmfnbaaW.PrintMore Go.Proofs.Ytpcoflcelmfnbaa.Num

theorem within_i (a b c : Int) : word_within_int.f a b c = some (decide (b ≤ a ∧ a ≤ c)) := by
  unfold word_within_int.f
  by_cases h : b ≤ a <;> simp [h]
theorem within_u (a b c : Int) : word_within_uint64.f a b c = some (decide (b ≤ a ∧ a ≤ c)) := by
  unfold word_within_uint64.f
  by_cases h : b ≤ a <;> simp [h]
theorem client_ (c : Int) : word_isClient.f c = some (decide (0 ≤ c ∧ c ≤ 5)) := by
  unfold word_isClient.f
  rw [within_i]; rfl
theorem inc_ (i : Int) : word_isInc.f i = some (decide (inc i)) := by
  unfold word_isInc.f
  rw [within_i, Option.bind_some]
  by_cases h : 1 ≤ i ∧ i ≤ 59
  · rw [if_pos (decide_eq_true h), tmod2 i h.1]
    congr 2
    simp only [inc, eq_iff_iff]
    omega
  · rw [if_neg (by rw [decide_eq_true_eq]; exact h)]
    congr 1
    symm
    rw [decide_eq_false_iff_not]
    unfold inc
    omega
theorem header_ (v o : Int) : word_Header.f v o = some (hdr v o) := by
  unfold word_Header.f hdr
  rw [within_u, Option.bind_some, within_i]
  by_cases h : 1 ≤ v ∧ v ≤ 281474976710655
  · by_cases h2 : 0 ≤ o ∧ o ≤ 6
    · simp [h, h2, hdr_eq v o h h2]
    · simp [h, h2]
  · simp [h]
theorem unlocked_ (h : Int) (h0 : 0 ≤ h) (h1 : h < 18446744073709551616) : word_Unlocked.f h = some (decide (h % 256 = 0)) := by
  unfold word_Unlocked.f
  rw [and255 h h0 h1]
  rfl
theorem lock_ (h c : Int) (h0 : 0 ≤ h) (h1 : h < 18446744073709551616) : word_Lock.f h c = some (lock h c) := by
  unfold word_Lock.f lock
  rw [client_, Option.bind_some, unlocked_ h h0 h1]
  by_cases h2 : 0 ≤ c ∧ c ≤ 5
  · by_cases h3 : h % 256 = 0
    · simp [h2, h3, lock_eq h c h0 h1 h2 h3]
    · simp [h2, h3]
  · simp [h2]
theorem split_ (h : Int) (h0 : 0 ≤ h) (h1 : h < 18446744073709551616) : word_SplitHeader.f h = some (h / 256, h % 256) := by
  unfold word_SplitHeader.f
  rw [and255 h h0 h1, i64w _ (by omega) (by omega)]
theorem next_ (h : Int) (h0 : 0 ≤ h) (h1 : h < 18446744073709551616) : word_Next.f h = some (next h) := by
  unfold word_Next.f next
  rw [split_ h h0 h1, Option.bind_some]
  simp only [within_u, Option.bind_some]
  by_cases h2 : 1 ≤ h / 256 ∧ h / 256 ≤ 281474976710654
  · rw [if_pos (decide_eq_true h2), if_pos h2, next_eq h h2]
  · rw [if_neg (by rw [decide_eq_true_eq]; exact h2), if_neg h2]
theorem ballot_ (r c : Int) : word_Ballot.f r c = some (ballot r c) := by
  unfold word_Ballot.f ballot
  rw [within_i, Option.bind_some, client_]
  by_cases h : 1 ≤ r ∧ r ≤ 500
  · by_cases h2 : 0 ≤ c ∧ c ≤ 5
    · simp [h, h2, ballot_eq r c h h2]
    · simp [h, h2]
  · simp [h]
theorem key_ (n : Int) (b : Bool) : word_Key.f n b = some (key n b) := by
  unfold word_Key.f key
  rw [within_i, Option.bind_some]
  by_cases h : 0 ≤ n ∧ n ≤ 15
  · cases b
    · simp [h, key_eq n h]
    · simp [h, key_eq1 n h]
  · simp [h]
theorem mark_ (s : Int) : word_Mark.f s = some (markN s) := by
  unfold word_Mark.f markN
  rw [within_i, Option.bind_some]
  by_cases h : 1 ≤ s ∧ s ≤ 1073741823
  · simp [h, mark_eq s h]
  · simp [h]
theorem tag_ (i c : Int) : word_Tag.f i c = some (tag i c) := by
  unfold word_Tag.f tag
  rw [inc_, Option.bind_some, client_]
  by_cases h : inc i
  · by_cases h2 : 0 ≤ c ∧ c ≤ 5
    · simp [h, h2, tag_eq i c h h2]
    · simp [h, h2]
  · simp [h]
theorem awake_ : bodegalaw1_awake.f = some true := by
  unfold bodegalaw1_awake.f
  rw [header_, lock_ 256 2 (by omega) (by omega), next_ 259 (by omega) (by omega), key_, mark_, tag_, ballot_]
  decide

theorem pick_ (n k : Int) (h1 : 1 ≤ k) (h2 : k ≤ 1099511627776) : bodegahand_Pick.f n k = some (n % k) := by
  unfold bodegahand_Pick.f
  rw [if_neg (by omega), if_neg (by omega), pick_eq n k h1 h2]

def fieldN (W P N : Nat) : Nat := W / 2 ^ P % 2 ^ N
def setN (W P N V : Nat) : Nat := (W &&& (18446744073709551615 - (2 ^ N - 1) * 2 ^ P)) ||| V * 2 ^ P
theorem bit_mul (a P i : Nat) : (a * 2 ^ P).testBit i = (decide (P ≤ i) && a.testBit (i - P)) := by
  rw [Nat.mul_comm, Nat.testBit_two_pow_mul]
theorem low_bits (V N i : Nat) (h : V < 2 ^ N) (hi : N ≤ i) : V.testBit i = false :=
  Nat.testBit_lt_two_pow (Nat.lt_of_lt_of_le h (Nat.pow_le_pow_right (by omega) hi))
theorem pow_fit (P N : Nat) (h : P + N ≤ 64) : 2 ^ N * 2 ^ P ≤ 18446744073709551616 := by
  rw [← Nat.pow_add]
  have : 2 ^ (N + P) ≤ 2 ^ 64 := Nat.pow_le_pow_right (by omega) (by omega)
  exact this
theorem mask_fit (P N : Nat) (h : P + N ≤ 64) : (2 ^ N - 1) * 2 ^ P < 18446744073709551616 := by
  have h1 := pow_fit P N h
  have h2 : (2 ^ N - 1) * 2 ^ P < 2 ^ N * 2 ^ P := Nat.mul_lt_mul_of_pos_right (by have := Nat.two_pow_pos N; omega) (Nat.two_pow_pos P)
  omega
theorem val_fit (P N V : Nat) (h : P + N ≤ 64) (hV : V < 2 ^ N) : V * 2 ^ P < 18446744073709551616 := by
  have h1 := pow_fit P N h
  have h2 : V * 2 ^ P < 2 ^ N * 2 ^ P := Nat.mul_lt_mul_of_pos_right hV (Nat.two_pow_pos P)
  omega
theorem setN_bit (W P N V i : Nat) (hW : W < 18446744073709551616) (h : P + N ≤ 64) (hV : V < 2 ^ N) :
    (setN W P N V).testBit i = if P ≤ i ∧ i < P + N then V.testBit (i - P) else W.testBit i := by
  unfold setN
  have hm := mask_fit P N h
  have h1 := Nat.testBit_two_pow_sub_succ (x := (2 ^ N - 1) * 2 ^ P) (n := 64) hm i
  rw [show (2 : Nat) ^ 64 - ((2 ^ N - 1) * 2 ^ P + 1) = 18446744073709551615 - (2 ^ N - 1) * 2 ^ P by omega] at h1
  rw [Nat.testBit_or, Nat.testBit_and, h1, bit_mul, bit_mul, Nat.testBit_two_pow_sub_one]
  by_cases hp : P ≤ i
  · by_cases hn : i < P + N
    · rw [if_pos ⟨hp, hn⟩]
      simp [hp, show i - P < N by omega]
    · rw [if_neg (by omega), low_bits V N (i - P) hV (by omega)]
      by_cases h64 : i < 64
      · simp [hp, h64, show ¬ i - P < N by omega]
      · rw [low_bits W 64 i hW (by omega)]; simp
  · rw [if_neg (by omega)]
    by_cases h64 : i < 64
    · simp [hp, h64]
    · rw [low_bits W 64 i hW (by omega)]; simp [hp]
theorem fieldN_bit (W P N i : Nat) : (fieldN W P N).testBit i = (decide (i < N) && W.testBit (i + P)) := by
  unfold fieldN
  rw [Nat.testBit_mod_two_pow, Nat.testBit_div_two_pow]
theorem field_back (W P N V : Nat) (hW : W < 18446744073709551616) (h : P + N ≤ 64) (hV : V < 2 ^ N) : fieldN (setN W P N V) P N = V := by
  apply Nat.eq_of_testBit_eq
  intro i
  rw [fieldN_bit, setN_bit W P N V _ hW h hV]
  by_cases hi : i < N
  · rw [if_pos (by omega), Nat.add_sub_cancel]; simp [hi]
  · rw [low_bits V N i hV (by omega)]; simp [hi]
theorem other_back (W P N V O : Nat) (hW : W < 18446744073709551616) (h : P + N ≤ 64) (hV : V < 2 ^ N) (ho : O < P ∨ P + N ≤ O) : fieldN (setN W P N V) O 1 = fieldN W O 1 := by
  apply Nat.eq_of_testBit_eq
  intro i
  rw [fieldN_bit, fieldN_bit, setN_bit W P N V _ hW h hV]
  by_cases hi : i < 1
  · rw [if_neg (by omega)]
  · simp [hi]
theorem field_lt (W P N : Nat) : fieldN W P N < 2 ^ N := Nat.mod_lt _ (Nat.two_pow_pos N)
theorem setN_lt (W P N V : Nat) (h : P + N ≤ 64) (hV : V < 2 ^ N) : setN W P N V < 18446744073709551616 :=
  Nat.or_lt_two_pow (n := 64) (Nat.and_lt_two_pow _ (by omega)) (val_fit P N V h hV)
theorem set_back (W P N V : Nat) (hW : W < 18446744073709551616) (h : P + N ≤ 64) (hV : V < 2 ^ N) : setN (setN W P N V) P N (fieldN W P N) = W := by
  apply Nat.eq_of_testBit_eq
  intro i
  rw [setN_bit _ P N _ i (setN_lt W P N V h hV) h (field_lt W P N), setN_bit W P N V i hW h hV, fieldN_bit]
  by_cases hi : P ≤ i ∧ i < P + N
  · rw [if_pos hi, Nat.sub_add_cancel hi.1]
    simp [show i - P < N by omega]
  · rw [if_neg hi, if_neg hi]
theorem two_pow_cast (P : Nat) : (2 : Int) ^ P = ((2 ^ P : Nat) : Int) := by rw [Int.natCast_pow]; rfl
theorem mask_ (N : Nat) (h1 : N ≤ 64) : word_mask.f (N : Int) = some ((2 ^ N - 1 : Nat) : Int) := by
  unfold word_mask.f
  rw [u64w N (by omega) (by omega), if_pos (by omega)]
  congr 1
  by_cases h : N = 64
  · subst h; decide +kernel
  · have hp : 2 ^ N ≤ 2 ^ 63 := Nat.pow_le_pow_right (by omega) (by omega)
    have h63 : (2 : Nat) ^ 63 = 9223372036854775808 := rfl
    have hpos := Nat.two_pow_pos N
    have hs : shl .u64 1 (N : Int) = ((2 ^ N : Nat) : Int) := by
      unfold shl
      rw [Nat.min_eq_left (by show (N : Int).toNat ≤ 64; omega), Int.one_mul, Int.toNat_natCast, two_pow_cast]
      exact u64w _ (by omega) (by omega)
    rw [hs, u64w _ (by omega) (by omega)]
    omega
theorem isField_ (P N : Nat) (h1 : 1 ≤ N) (h2 : N ≤ 64) : word_isField.f P N = some (decide (P + N ≤ 64)) := by
  unfold word_isField.f
  rw [if_pos (by omega), if_pos (by omega), if_pos (by omega), i64w (64 - N) (by omega) (by omega)]
  congr 1
  rw [decide_eq_decide]
  omega
theorem shr_ (W P : Nat) (h : P ≤ 64) : shr .u64 (W : Int) (P : Int) = ((W / 2 ^ P : Nat) : Int) := by
  unfold shr
  rw [Nat.min_eq_left (by show (P : Int).toNat ≤ 64; omega), Int.toNat_natCast, two_pow_cast]
  rfl
theorem shl_ (V P : Nat) (h : P ≤ 64) (hf : V * 2 ^ P < 18446744073709551616) : shl .u64 (V : Int) (P : Int) = ((V * 2 ^ P : Nat) : Int) := by
  unfold shl
  rw [Nat.min_eq_left (by show (P : Int).toNat ≤ 64; omega), Int.toNat_natCast, two_pow_cast, ← Int.natCast_mul]
  exact u64w _ (by omega) (by omega)
theorem field_ (W P N : Nat) (hW : W < 18446744073709551616) (h1 : 1 ≤ N) (h : P + N ≤ 64) : word_Field.f W P N = some (((fieldN W P N : Nat) : Int), 0) := by
  unfold word_Field.f
  have hd : W / 2 ^ P ≤ W := Nat.div_le_self _ _
  rw [isField_ P N h1 (by omega), Option.bind_some, if_pos (decide_eq_true h), u64w P (by omega) (by omega), if_pos (by omega), mask_ N (by omega), Option.bind_some, shr_ W P (by omega),
    and_mask N _ _ rfl (by omega) (Int.natCast_nonneg _) (Int.ofNat_lt.2 (Nat.lt_of_le_of_lt hd hW)), Int.toNat_natCast]
  rfl
theorem setField_ (W P N V : Nat) (hW : W < 18446744073709551616) (h1 : 1 ≤ N) (h : P + N ≤ 64) (hV : V < 2 ^ N) : word_SetField.f W P N V = some (((setN W P N V : Nat) : Int), 0) := by
  unfold word_SetField.f
  have hm := mask_fit P N h
  have hv := val_fit P N V h hV
  have hand : W &&& (18446744073709551615 - (2 ^ N - 1) * 2 ^ P) < 18446744073709551616 := Nat.and_lt_two_pow (n := 64) _ (by omega)
  rw [isField_ P N h1 (by omega), Option.bind_some, if_pos (decide_eq_true h), mask_ N (by omega), Option.bind_some, if_neg (by omega), Option.bind_some, u64w P (by omega) (by omega), if_pos (by omega),
    shl_ _ P (by omega) hm, shl_ V P (by omega) hv, u64_andNot_nat _ _ hW hm, u64_or_nat _ _ hand hv]
  rfl
theorem setField_out (W P N V : Nat) (h1 : 1 ≤ N) (h2 : N ≤ 64) (h : ¬ P + N ≤ 64) : word_SetField.f W P N V = some (0, 1) := by
  unfold word_SetField.f
  rw [isField_ P N h1 h2, Option.bind_some, if_neg (by rw [decide_eq_true_eq]; exact h)]
theorem setField_big (W P N V : Nat) (h1 : 1 ≤ N) (h : P + N ≤ 64) (hV : ¬ V < 2 ^ N) : word_SetField.f W P N V = some (0, 2) := by
  unfold word_SetField.f
  have := Nat.two_pow_pos N
  rw [isField_ P N h1 (by omega), Option.bind_some, if_pos (decide_eq_true h), mask_ N (by omega), Option.bind_some, if_pos (by omega)]
theorem back (k : Nat) (W P N V : Nat) (hW : W < 18446744073709551616) (h1 : 1 ≤ N) (h : P + N ≤ 64) (hV : V < 2 ^ N) :
    bodegalaw1_WordFieldsBack.j1 (k + 1) W P N ((setN W P N V : Nat) : Int) false = some true := by
  simp only [bodegalaw1_WordFieldsBack.j1]
  rw [if_neg (by decide), field_ W P N hW h1 h, Option.bind_some, setField_ _ P N _ (setN_lt W P N V h hV) h1 h (field_lt W P N), Option.bind_some, if_pos rfl, set_back W P N V hW h hV]
  rw [beq_self_eq_true]
theorem WordFieldsBack : bodegalaw1_WordFieldsBack.Pure := by
  intro w p q v o _ hw _ _ hv _ _
  have hb := bounds_u64 hw
  have hbv := bounds_u64 hv
  have hp0 := Int.emod_nonneg p (show (64 : Int) ≠ 0 by decide)
  have hp1 := Int.emod_lt_of_pos p (show (0 : Int) < 64 by decide)
  have hq0 := Int.emod_nonneg q (show (64 : Int) ≠ 0 by decide)
  have hq1 := Int.emod_lt_of_pos q (show (0 : Int) < 64 by decide)
  have ho0 := Int.emod_nonneg o (show (64 : Int) ≠ 0 by decide)
  have ho1 := Int.emod_lt_of_pos o (show (0 : Int) < 64 by decide)
  have hpo := pick_ o 64 (by omega) (by omega)
  obtain ⟨W, rfl⟩ := Int.eq_ofNat_of_zero_le hb.1
  obtain ⟨V, rfl⟩ := Int.eq_ofNat_of_zero_le hbv.1
  refine ⟨2, ?_⟩
  unfold bodegalaw1_WordFieldsBack.f
  rw [pick_ p 64 (by omega) (by omega), pick_ q 64 (by omega) (by omega), Option.bind_some, Option.bind_some]
  obtain ⟨P, hP⟩ := Int.eq_ofNat_of_zero_le hp0
  obtain ⟨Q, hQ⟩ := Int.eq_ofNat_of_zero_le hq0
  obtain ⟨O, hO⟩ := Int.eq_ofNat_of_zero_le ho0
  rw [hO] at hpo
  rw [hP, hQ]
  rw [hP] at hp0 hp1
  rw [hQ] at hq0 hq1
  rw [hO] at ho0 ho1
  rw [i64w (Q + 1) (by omega) (by omega), show ((Q : Int) + 1) = ((Q + 1 : Nat) : Int) from rfl, i64w (64 - ((Q + 1 : Nat) : Int)) (by omega) (by omega)]
  have hN1 : 1 ≤ Q + 1 := by omega
  have hN2 : Q + 1 ≤ 64 := by omega
  generalize Q + 1 = N at *
  have hW : W < 18446744073709551616 := by omega
  by_cases h : P + N ≤ 64
  · by_cases hV : V < 2 ^ N
    · rw [setField_ W P N V hW hN1 h hV, Option.bind_some, if_pos rfl]
      rw [field_ _ P N (setN_lt W P N V h hV) hN1 h, Option.bind_some, if_pos rfl, field_back W P N V hW h hV, if_pos rfl, awake_, Option.bind_some]
      have hbk := back 0 W P N V hW hN1 h hV
      have hlt := setN_lt W P N V h hV
      simp only [Bool.not_true, bodegalaw1_WordFieldsBack.j0]
      rw [if_neg (by decide), hpo, Option.bind_some, show (1 : Int) = ((1 : Nat) : Int) from rfl, field_ W O 1 hW (by omega) (by omega), Option.bind_some, field_ _ O 1 hlt (by omega) (by omega), Option.bind_some,
        i64w (P + N) (by omega) (by omega)]
      by_cases c1 : (O : Int) < (P : Int)
      · rw [if_pos c1, other_back W P N V O hW h hV (by omega), bne_self_eq_false]
        exact hbk
      · rw [if_neg c1]
        by_cases c2 : (O : Int) ≥ (P : Int) + (N : Int)
        · rw [if_pos c2, other_back W P N V O hW h hV (by omega), bne_self_eq_false]
          exact hbk
        · rw [if_neg c2]
          exact hbk
    · rw [setField_big W P N V hN1 h hV, Option.bind_some, if_neg (by decide), awake_, Option.bind_some, if_pos rfl, if_pos rfl]
      rw [decide_eq_false (show ¬ ((P : Int) > 64 - (N : Int)) by omega)]
      rfl
  · rw [setField_out W P N V hN1 hN2 h, Option.bind_some, if_neg (by decide), awake_, Option.bind_some, if_pos rfl, if_pos rfl]
    rw [decide_eq_true (show ((P : Int) > 64 - (N : Int)) by omega)]
    rfl

end Go.Proofs.Ytpcoflcelmfnbaa.Pure
