/- Plain mathematics of the CRC: one step of the register, the table's entry, the register after bytes. No condition. -/
import Derived.Laws.BitsAllLaws
namespace Go.Proofs.Ytmeppeadfhifeaa.Crc
set_option linter.unusedVariables false
set_option linter.unusedSimpArgs false

def poly : Nat := 14514072000185962306
def M64 : Nat := 18446744073709551616

/-- One step of the register. -/
def st (r : Nat) : Nat := if r % 2 = 1 then r / 2 ^^^ poly else r / 2
def stN : Nat → Nat → Nat
  | 0, r => r
  | k + 1, r => st (stN k r)
def tab (j : Nat) : Nat := stN 8 j

theorem st_lt (r : Nat) (h : r < 18446744073709551616) : st r < 18446744073709551616 := by
  unfold st
  split
  · exact Nat.xor_lt_two_pow (n := 64) (by omega) (by unfold poly; omega)
  · omega
theorem stN_lt (k r : Nat) (h : r < 18446744073709551616) : stN k r < 18446744073709551616 := by
  induction k with
  | zero => exact h
  | succ k ih => exact st_lt _ ih
theorem tab_lt (j : Nat) (h : j < 256) : tab j < 18446744073709551616 := stN_lt 8 j (by omega)

theorem xor_div2 (a b : Nat) : (a ^^^ b) / 2 = a / 2 ^^^ b / 2 := by
  have := Nat.shiftRight_xor_distrib (a := a) (b := b) (i := 1)
  simpa [Nat.shiftRight_eq_div_pow] using this
theorem xor_div256 (a b : Nat) : (a ^^^ b) / 256 = a / 256 ^^^ b / 256 := by
  have := Nat.shiftRight_xor_distrib (a := a) (b := b) (i := 8)
  simpa [Nat.shiftRight_eq_div_pow] using this
theorem xor_mod2 (a b : Nat) : (a ^^^ b) % 2 = (a % 2 + b % 2) % 2 := by
  have := Nat.xor_mod_two_pow (a := a) (b := b) (n := 1)
  simp at this
  rw [this]
  rcases Nat.mod_two_eq_zero_or_one a with ha | ha <;> rcases Nat.mod_two_eq_zero_or_one b with hb | hb <;> simp [ha, hb]
theorem xor_lc (a b c : Nat) : a ^^^ (b ^^^ c) = b ^^^ (a ^^^ c) := by rw [← Nat.xor_assoc, Nat.xor_comm a b, Nat.xor_assoc]
theorem xor_can (a b : Nat) : a ^^^ (a ^^^ b) = b := by rw [← Nat.xor_assoc, Nat.xor_self, Nat.zero_xor]
theorem st_xor (a b : Nat) : st (a ^^^ b) = st a ^^^ st b := by
  unfold st
  rw [xor_mod2, xor_div2]
  rcases Nat.mod_two_eq_zero_or_one a with ha | ha <;> rcases Nat.mod_two_eq_zero_or_one b with hb | hb <;> simp [ha, hb, Nat.xor_comm, xor_lc, xor_can]
theorem stN_xor (k a b : Nat) : stN k (a ^^^ b) = stN k a ^^^ stN k b := by
  induction k with
  | zero => rfl
  | succ k ih => simp only [stN, ih, st_xor]
theorem st_double (q : Nat) : st (2 * q) = q := by unfold st; rw [if_neg (by omega)]; omega
theorem stN_high (q : Nat) : stN 8 (256 * q) = q := by
  have h : 256 * q = 2 * (2 * (2 * (2 * (2 * (2 * (2 * (2 * q))))))) := by omega
  simp only [stN, h, st_double]
theorem split256 (r : Nat) : r = 256 * (r / 256) ^^^ r % 256 := by
  have h1 : 256 * (r / 256) ||| r % 256 = 256 * (r / 256) + r % 256 := Go.nat_join 8 _ _ (by omega) (by omega)
  have h2 : 256 * (r / 256) ^^^ r % 256 = 256 * (r / 256) ||| r % 256 := by
    apply Nat.eq_of_testBit_eq
    intro i
    rw [Nat.testBit_xor, Nat.testBit_or]
    by_cases hi : i < 8
    · have : (256 * (r / 256)).testBit i = false := by
        have := Nat.testBit_two_pow_mul (i := 8) (a := r / 256) (j := i)
        simp at this
        rw [this]; simp; omega
      simp [this]
    · have : (r % 256).testBit i = false := Nat.testBit_lt_two_pow (Nat.lt_of_lt_of_le (Nat.mod_lt _ (by omega)) (by
        have : 2 ^ 8 ≤ 2 ^ i := Nat.pow_le_pow_right (by omega) (by omega)
        simpa using this))
      simp [this]
  omega

/-- The register after one byte, bit by bit. -/
def upd (r x : Nat) : Nat := stN 8 (r ^^^ x)
/-- The same by the table. -/
theorem upd_tab (r x : Nat) : upd r x = r / 256 ^^^ tab (r % 256 ^^^ x) := by
  unfold upd tab
  have e : r ^^^ x = 256 * (r / 256) ^^^ (r % 256 ^^^ x) := by rw [← Nat.xor_assoc, ← split256]
  rw [e, stN_xor, stN_high]
theorem upd_lt (r x : Nat) (hr : r < 18446744073709551616) (hx : x < 256) : upd r x < 18446744073709551616 :=
  stN_lt 8 _ (Nat.xor_lt_two_pow (n := 64) (by omega) (by omega))
def reg (r : Nat) (b : List Nat) : Nat := b.foldl upd r
def Bytes (b : List Nat) : Prop := ∀ x ∈ b, x < 256
theorem reg_lt (r : Nat) (b : List Nat) (hb : Bytes b) (hr : r < 18446744073709551616) : reg r b < 18446744073709551616 := by
  induction b generalizing r with
  | nil => exact hr
  | cons x b ih => exact ih (upd r x) (fun y hy => hb y (by simp [hy])) (upd_lt r x hr (hb x (by simp)))
theorem reg_append (r : Nat) (a b : List Nat) : reg r (a ++ b) = reg (reg r a) b := by simp [reg]
theorem reg_snoc (r : Nat) (a : List Nat) (x : Nat) : reg r (a ++ [x]) = upd (reg r a) x := by simp [reg]
/-- The checksum, extended. -/
def nt (s : Nat) : Nat := 18446744073709551615 - s
theorem nt_lt (s : Nat) : nt s < 18446744073709551616 := by unfold nt; omega
theorem nt_nt (s : Nat) (h : s < 18446744073709551616) : nt (nt s) = s := by unfold nt; omega
def ext (s : Nat) (b : List Nat) : Nat := nt (reg (nt s) b)
theorem ext_lt (s : Nat) (b : List Nat) : ext s b < 18446744073709551616 := nt_lt _
theorem ext_append (s : Nat) (a b : List Nat) (ha : Bytes a) : ext s (a ++ b) = ext (ext s a) b := by
  unfold ext
  rw [reg_append, nt_nt _ (reg_lt (nt s) a ha (nt_lt s))]

/-! The operations as the walk writes them. -/
theorem and_one (r : Nat) (h : r < 18446744073709551616) : bits .and .u64 (r : Int) 1 = ((r % 2 : Nat) : Int) := by
  have := u64_and_nat r 1 h (by omega)
  rwa [Go.nat_mask1] at this
theorem test_odd (r : Nat) (h : r < 18446744073709551616) (ho : r % 2 = 1) : (bits .and .u64 (r : Int) 1 == 1) = true := by
  rw [and_one r h, ho]; rfl
theorem test_even (r : Nat) (h : r < 18446744073709551616) (ho : ¬ r % 2 = 1) : (bits .and .u64 (r : Int) 1 == 1) = false := by
  rw [and_one r h, show r % 2 = 0 by omega]; rfl
theorem st_odd (r : Nat) (h : r < 18446744073709551616) (ho : r % 2 = 1) : bits .xor .u64 ((r : Int) / 2) 14514072000185962306 = ((st r : Nat) : Int) := by
  have := u64_xor_nat (r / 2) poly (by omega) (by unfold poly; omega)
  unfold st
  rw [if_pos ho, ← this]
  rfl
theorem st_even (r : Nat) (ho : ¬ r % 2 = 1) : (r : Int) / 2 = ((st r : Nat) : Int) := by
  unfold st
  rw [if_neg ho]
  rfl
theorem idx_lt (R x : Nat) (hx : x < 256) : R % 256 ^^^ x < 256 := Nat.xor_lt_two_pow (n := 8) (by omega) (by omega)
theorem idx_walk (R x : Nat) (hx : x < 256) : bits .xor .u8 ((R : Int) % 256) (x : Int) = ((R % 256 ^^^ x : Nat) : Int) := by
  have := u8_xor_nat (R % 256) x (by omega) hx
  rw [← this]
  rfl
theorem upd_walk (R x : Nat) (hR : R < 18446744073709551616) (hx : x < 256) : bits .xor .u64 ((R : Int) / 256) ((tab (R % 256 ^^^ x) : Nat) : Int) = ((upd R x : Nat) : Int) := by
  rw [upd_tab, ← u64_xor_nat (R / 256) _ (by omega) (tab_lt _ (idx_lt R x hx))]
  rfl
theorem not_walk (s : Nat) (hs : s < 18446744073709551616) : bits .xor .u64 IntKind.u64.max (s : Int) = ((nt s : Nat) : Int) := by
  unfold nt
  rw [show IntKind.u64.max = 18446744073709551615 from rfl]
  have := u64_xor_nat 18446744073709551615 s (by omega) hs
  rw [show ((18446744073709551615 : Nat) : Int) = 18446744073709551615 from rfl] at this
  rw [this]
  congr 1
  apply Nat.eq_of_testBit_eq
  intro i
  have h1 := Nat.testBit_two_pow_sub_succ (x := s) (n := 64) (by omega) i
  have h2 := Nat.testBit_two_pow_sub_one 64 i
  simp only [Nat.reducePow, Nat.add_one_sub_one] at h1 h2
  rw [Nat.testBit_xor, show 18446744073709551615 - s = 18446744073709551616 - (s + 1) by omega, h1, show 18446744073709551615 = 18446744073709551616 - 1 from rfl, h2]
  by_cases hi : i < 64
  · simp [hi]
  · simp [hi]
    exact Nat.testBit_lt_two_pow (Nat.lt_of_lt_of_le hs (by
      have : 2 ^ 64 ≤ 2 ^ i := Nat.pow_le_pow_right (by omega) (by omega)
      simpa using this))

end Go.Proofs.Ytmeppeadfhifeaa.Crc
