/- A checksum of words tells a change of one word. Condition: the words are below 2 to the 64. -/
import Derived.Test.YtmeppeadfhifeaaMath
import Derived.Test.YtmeppeadfhifeaaWordsMath
namespace Go.Proofs.Ytmeppeadfhifeaa.Crc
set_option linter.unusedVariables false
set_option linter.unusedSimpArgs false

theorem st_zero (x : Nat) (h : x < 18446744073709551616) (hs : st x = 0) : x = 0 := by
  unfold st at hs
  split at hs
  · have : x / 2 = poly := by
      have e : x / 2 ^^^ poly ^^^ poly = 0 ^^^ poly := by rw [hs]
      rwa [Nat.xor_assoc, Nat.xor_self, Nat.xor_zero, Nat.zero_xor] at e
    unfold poly at this
    omega
  · omega
theorem xor_eq_zero' {a b : Nat} (h : a ^^^ b = 0) : a = b := by
  have e : a ^^^ b ^^^ b = 0 ^^^ b := by rw [h]
  rwa [Nat.xor_assoc, Nat.xor_self, Nat.xor_zero, Nat.zero_xor] at e
theorem xor_cancel {r a b : Nat} (h : r ^^^ a = r ^^^ b) : a = b := by
  have := congrArg (r ^^^ ·) h
  simpa [xor_can] using this
theorem st_inj (a b : Nat) (ha : a < 18446744073709551616) (hb : b < 18446744073709551616) (h : st a = st b) : a = b := by
  apply xor_eq_zero'
  apply st_zero _ (Nat.xor_lt_two_pow (n := 64) (by omega) (by omega))
  rw [st_xor, h, Nat.xor_self]
theorem stN_inj (k a b : Nat) (ha : a < 18446744073709551616) (hb : b < 18446744073709551616) (h : stN k a = stN k b) : a = b := by
  induction k with
  | zero => exact h
  | succ k ih => exact ih (st_inj _ _ (stN_lt k a ha) (stN_lt k b hb) h)
theorem upd_inj (r s x : Nat) (hr : r < 18446744073709551616) (hs : s < 18446744073709551616) (hx : x < 256) (h : upd r x = upd s x) : r = s := by
  have h2 := stN_inj 8 _ _ (Nat.xor_lt_two_pow (n := 64) (by omega) (by omega)) (Nat.xor_lt_two_pow (n := 64) (by omega) (by omega)) h
  rw [Nat.xor_comm r, Nat.xor_comm s] at h2
  exact xor_cancel h2
theorem reg_inj (b : List Nat) (hb : Bytes b) (r s : Nat) (hr : r < 18446744073709551616) (hs : s < 18446744073709551616) (h : reg r b = reg s b) : r = s := by
  induction b generalizing r s with
  | nil => exact h
  | cons x b ih =>
    have hx := hb x (by simp)
    exact upd_inj r s x hr hs hx (ih (fun y hy => hb y (by simp [hy])) (upd r x) (upd s x) (upd_lt r x hr hx) (upd_lt s x hs hx) h)
theorem stN_add (a b r : Nat) : stN (a + b) r = stN b (stN a r) := by
  induction b with
  | zero => rfl
  | succ b ih => rw [Nat.add_succ, stN, stN, ih]
theorem stN_word (r W : Nat) : stN 8 (r ^^^ W) = upd r (W % 256) ^^^ W / 256 := by
  have e : r ^^^ W = (r ^^^ W % 256) ^^^ 256 * (W / 256) := by
    rw [Nat.xor_assoc, Nat.xor_comm (W % 256), ← split256]
  rw [e, stN_xor, stN_high]
  rfl
theorem reg_bytes (r W k : Nat) : reg r ((List.range k).map (byteOf W)) ^^^ W / 256 ^ k = stN (8 * k) (r ^^^ W) := by
  induction k with
  | zero => simp [reg, stN]
  | succ k ih =>
    rw [List.range_succ, List.map_append, List.map_cons, List.map_nil, reg_snoc, show 8 * (k + 1) = 8 * k + 8 by omega, stN_add, ← ih, stN_word]
    rw [← shift_step]
    rfl
theorem reg_le8 (r W : Nat) (hW : W < 18446744073709551616) : reg r (le8 W) = stN 64 (r ^^^ W) := by
  have := reg_bytes r W 8
  rw [show W / 256 ^ 8 = 0 by omega, Nat.xor_zero] at this
  exact this
theorem words_inj (a c : List Nat) (x y : Nat) (hx : x < 18446744073709551616) (hy : y < 18446744073709551616) (h : words (a ++ x :: c) = words (a ++ y :: c)) : x = y := by
  unfold words at h
  rw [show a ++ x :: c = a ++ [x] ++ c by simp, show a ++ y :: c = a ++ [y] ++ c by simp, wbytes_append (a ++ [x]), wbytes_append (a ++ [y]), wbytes_snoc, wbytes_snoc] at h
  unfold ext at h
  have hba := wbytes_bytes a
  have hbc := wbytes_bytes c
  have hl : ∀ z, z < 18446744073709551616 → reg (nt 0) (wbytes a ++ le8 z) < 18446744073709551616 := fun z _ => reg_lt _ _ (fun t ht => by
    rcases List.mem_append.1 ht with ht | ht
    · exact hba t ht
    · exact le8_bytes z t ht) (nt_lt 0)
  have h2 : reg (nt 0) (wbytes a ++ le8 x ++ wbytes c) = reg (nt 0) (wbytes a ++ le8 y ++ wbytes c) := by
    rw [reg_append _ _ (wbytes c), reg_append _ _ (wbytes c)] at h ⊢
    have l1 := reg_lt _ _ hbc (hl x hx)
    have l2 := reg_lt _ _ hbc (hl y hy)
    unfold nt at h l1 l2 ⊢
    omega
  rw [reg_append _ _ (wbytes c), reg_append _ _ (wbytes c)] at h2
  have h3 := reg_inj _ hbc _ _ (hl x hx) (hl y hy) h2
  rw [reg_append, reg_append, reg_le8 _ _ hx, reg_le8 _ _ hy] at h3
  have ha := reg_lt _ _ hba (nt_lt 0)
  exact xor_cancel (stN_inj 64 _ _ (Nat.xor_lt_two_pow (n := 64) (by omega) (by omega)) (Nat.xor_lt_two_pow (n := 64) (by omega) (by omega)) h3)
end Go.Proofs.Ytmeppeadfhifeaa.Crc
