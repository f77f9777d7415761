/- Plain numbers of chapter 1: what the packing functions answer, as sums and remainders. No condition. -/
import Derived.IntWalk
import Derived.Laws.BitsAllLaws
namespace Go.Proofs.Ytpcoflcelmfnbaa.Num
open Go.RowKit

theorem u64w (a : Int) (h0 : 0 ≤ a) (h1 : a ≤ 18446744073709551615) : IntKind.u64.wrap a = a := IntWalk.u64_in a ⟨h0, h1⟩
theorem i64w (a : Int) (h0 : -9223372036854775808 ≤ a) (h1 : a ≤ 9223372036854775807) : wrap64 a = a := IntWalk.wrap64_in a ⟨h0, h1⟩

/-- 'or' of a number with room below and one that fits there is their sum. -/
theorem or_add (i : Nat) (a b : Int) (h0 : 0 ≤ a) (h1 : a < 18446744073709551616) (h2 : 0 ≤ b) (h3 : b < 18446744073709551616) (hm : a.toNat % 2 ^ i = 0) (hb : b.toNat < 2 ^ i) :
    Go.bits .or .u64 a b = a + b := by
  rw [u64_or a b h0 h1 h2 h3, nat_join i _ _ hm hb]
  omega
theorem or256 (a b : Int) (h0 : 0 ≤ a) (h1 : a < 18446744073709551616) (h2 : 0 ≤ b) (h3 : b < 256) (hm : a % 256 = 0) : Go.bits .or .u64 a b = a + b :=
  or_add 8 a b h0 h1 h2 (by omega) (by omega) (by omega)
theorem or4 (a b : Int) (h0 : 0 ≤ a) (h1 : a < 18446744073709551616) (h2 : 0 ≤ b) (h3 : b < 4) (hm : a % 4 = 0) : Go.bits .or .u64 a b = a + b :=
  or_add 2 a b h0 h1 h2 (by omega) (by omega) (by omega)
theorem or32 (a b : Int) (h0 : 0 ≤ a) (h1 : a < 18446744073709551616) (h2 : 0 ≤ b) (h3 : b < 4294967296) (hm : a % 4294967296 = 0) : Go.bits .or .u64 a b = a + b :=
  or_add 32 a b h0 h1 h2 (by omega) (by omega) (by omega)
theorem and_mask (i : Nat) (m a : Int) (hm : m = ((2 ^ i - 1 : Nat) : Int)) (hi : i ≤ 64) (h0 : 0 ≤ a) (h1 : a < 18446744073709551616) : Go.bits .and .u64 a m = ((a.toNat % 2 ^ i : Nat) : Int) := by
  have hp : 2 ^ i ≤ 2 ^ 64 := Nat.pow_le_pow_right (by omega) hi
  have h64 : (2 : Nat) ^ 64 = 18446744073709551616 := rfl
  have hpos : 0 < 2 ^ i := Nat.two_pow_pos i
  rw [hm, u64_and a _ h0 h1 (by omega) (by omega), Int.toNat_natCast, Nat.and_two_pow_sub_one_eq_mod]
theorem and255 (a : Int) (h0 : 0 ≤ a) (h1 : a < 18446744073709551616) : Go.bits .and .u64 a 255 = a % 256 := by
  rw [and_mask 8 255 a rfl (by omega) h0 h1]; omega
theorem and3 (a : Int) (h0 : 0 ≤ a) (h1 : a < 18446744073709551616) : Go.bits .and .u64 a 3 = a % 4 := by
  rw [and_mask 2 3 a rfl (by omega) h0 h1]; omega
theorem and24 (a : Int) (h0 : 0 ≤ a) (h1 : a < 18446744073709551616) : Go.bits .and .u64 a 16777215 = a % 16777216 := by
  rw [and_mask 24 16777215 a rfl (by omega) h0 h1]; omega
theorem and32 (a : Int) (h0 : 0 ≤ a) (h1 : a < 18446744073709551616) : Go.bits .and .u64 a 4294967295 = a % 4294967296 := by
  rw [and_mask 32 4294967295 a rfl (by omega) h0 h1]; omega

/-! What the functions answer. -/
def inc (i : Int) : Prop := 1 ≤ i ∧ i ≤ 59 ∧ i % 2 = 1
instance (i : Int) : Decidable (inc i) := inferInstanceAs (Decidable (_ ∧ _ ∧ _))
def hdr (v o : Int) : Int × Int := if 1 ≤ v ∧ v ≤ 281474976710655 then (if 0 ≤ o ∧ o ≤ 6 then (v * 256 + o, 0) else (0, 1)) else (0, 2)
def lock (h c : Int) : Int × Int := if 0 ≤ c ∧ c ≤ 5 then (if h % 256 = 0 then (h + (c + 1), 0) else (0, 3)) else (0, 1)
def next (h : Int) : Int × Int := if 1 ≤ h / 256 ∧ h / 256 ≤ 281474976710654 then ((h / 256 + 1) * 256, 0) else (0, 2)
def ballot (r c : Int) : Int × Int := if 1 ≤ r ∧ r ≤ 500 then (if 0 ≤ c ∧ c ≤ 5 then (r * 8 + c + 1, 0) else (0, 1)) else (0, 2)
def markN (s : Int) : Int × Int := if 1 ≤ s ∧ s ≤ 1073741823 then (s * 4 + 2, 0) else (0, 2)
def key (n : Int) (b : Bool) : Int × Int := if 0 ≤ n ∧ n ≤ 15 then (if b = true then (n * 2 + 1, 0) else (n * 2, 0)) else (0, 2)
def tag (i c : Int) : Int × Int := if inc i then (if 0 ≤ c ∧ c ≤ 5 then (i * 256 + (c + 1), 0) else (0, 1)) else (0, 2)
def lease (i u : Int) : Int × Int := if inc i then (if 0 ≤ u ∧ u ≤ 4294967295 then (i * 4294967296 + u, 0) else (0, 1)) else (0, 2)

/-! The functions' own terms come to these. -/
theorem hdr_eq (v o : Int) (h1 : 1 ≤ v ∧ v ≤ 281474976710655) (h2 : 0 ≤ o ∧ o ≤ 6) : Go.bits .or .u64 (IntKind.u64.wrap (v * 256)) (IntKind.u64.wrap o) = v * 256 + o := by
  rw [u64w (v * 256) (by omega) (by omega), u64w o (by omega) (by omega), or256 _ _ (by omega) (by omega) (by omega) (by omega) (by omega)]
theorem lock_eq (h c : Int) (h0 : 0 ≤ h) (h1 : h < 18446744073709551616) (h2 : 0 ≤ c ∧ c ≤ 5) (hm : h % 256 = 0) : Go.bits .or .u64 h (IntKind.u64.wrap (wrap64 (c + 1))) = h + (c + 1) := by
  rw [i64w (c + 1) (by omega) (by omega), u64w (c + 1) (by omega) (by omega), or256 _ _ h0 h1 (by omega) (by omega) hm]
theorem next_eq (h : Int) (h2 : 1 ≤ h / 256 ∧ h / 256 ≤ 281474976710654) : IntKind.u64.wrap ((IntKind.u64.wrap (h / 256 + 1)) * 256) = (h / 256 + 1) * 256 := by
  rw [u64w (h / 256 + 1) (by omega) (by omega), u64w _ (by omega) (by omega)]
theorem ballot_eq (r c : Int) (h1 : 1 ≤ r ∧ r ≤ 500) (h2 : 0 ≤ c ∧ c ≤ 5) : IntKind.u64.wrap (wrap64 ((wrap64 ((wrap64 (r * 8)) + c)) + 1)) = r * 8 + c + 1 := by
  rw [i64w (r * 8) (by omega) (by omega), i64w (r * 8 + c) (by omega) (by omega), i64w (r * 8 + c + 1) (by omega) (by omega), u64w _ (by omega) (by omega)]
theorem mark_eq (s : Int) (h1 : 1 ≤ s ∧ s ≤ 1073741823) : Go.bits .or .u64 (IntKind.u64.wrap ((IntKind.u64.wrap s) * 4)) 2 = s * 4 + 2 := by
  rw [u64w s (by omega) (by omega), u64w (s * 4) (by omega) (by omega), or4 _ _ (by omega) (by omega) (by omega) (by omega) (by omega)]
theorem key_eq (n : Int) (h1 : 0 ≤ n ∧ n ≤ 15) : IntKind.u64.wrap ((IntKind.u64.wrap n) * 2) = n * 2 := by
  rw [u64w n (by omega) (by omega), u64w _ (by omega) (by omega)]
theorem key_eq1 (n : Int) (h1 : 0 ≤ n ∧ n ≤ 15) : IntKind.u64.wrap ((IntKind.u64.wrap ((IntKind.u64.wrap n) * 2)) + 1) = n * 2 + 1 := by
  rw [key_eq n h1, u64w _ (by omega) (by omega)]
theorem tag_eq (i c : Int) (h1 : inc i) (h2 : 0 ≤ c ∧ c ≤ 5) : Go.bits .or .u64 (IntKind.u64.wrap ((IntKind.u64.wrap i) * 256)) (IntKind.u64.wrap (wrap64 (c + 1))) = i * 256 + (c + 1) := by
  unfold inc at h1
  rw [u64w i (by omega) (by omega), u64w (i * 256) (by omega) (by omega), lock_eq _ _ (by omega) (by omega) h2 (by omega)]
theorem lease_eq (i u : Int) (h1 : inc i) (h2 : 0 ≤ u ∧ u ≤ 4294967295) : Go.bits .or .u64 (IntKind.u64.wrap ((IntKind.u64.wrap i) * 4294967296)) (IntKind.u64.wrap u) = i * 4294967296 + u := by
  unfold inc at h1
  rw [u64w i (by omega) (by omega), u64w (i * 4294967296) (by omega) (by omega), u64w u (by omega) (by omega), or32 _ _ (by omega) (by omega) (by omega) (by omega) (by omega)]
theorem tmod2 (i : Int) (h : 1 ≤ i) : (Int.tmod i 2 == 1) = decide (i % 2 = 1) := by
  rw [Int.tmod_eq_emod_of_nonneg (by omega)]
  rfl
theorem pick_eq (n k : Int) (h1 : 1 ≤ k) (h2 : k ≤ 1099511627776) : Int.tmod (wrap64 ((Int.tmod n k) + k)) k = n % k := by
  have h3 := Int.tmod_lt_of_pos n (show 0 < k by omega)
  have h4 := Int.lt_tmod_of_pos n (show 0 < k by omega)
  rw [i64w _ (by omega) (by omega), Int.tmod_eq_emod_of_nonneg (by omega), Int.add_emod_right, Int.tmod_def, Int.sub_mul_emod_self_left]

end Go.Proofs.Ytpcoflcelmfnbaa.Num
