/- Plain mathematics: the checksum is affine, so the exclusive-or of three inputs has the exclusive-or of their checksums. No condition. -/
import Derived.Test.YthdbjnlgcbmocaaMath
namespace Go.Proofs.Ythdbjnlgcbmocaa.Crc

theorem upd_xor (r s x y : Nat) : upd (r ^^^ s) (x ^^^ y) = upd r x ^^^ upd s y := by
  unfold upd
  rw [← stN_xor]
  congr 1
  rw [Nat.xor_assoc, Nat.xor_assoc, xor_lc s x y]
def zx (a b : List Nat) : List Nat := List.zipWith (fun x y => x ^^^ y) a b
theorem reg_zx (a : List Nat) : ∀ (b : List Nat) (r s : Nat), a.length = b.length → reg (r ^^^ s) (zx a b) = reg r a ^^^ reg s b := by
  induction a with
  | nil => intro b r s h; cases b with | nil => rfl | cons => simp at h
  | cons x a ih =>
    intro b r s h
    cases b with
    | nil => simp at h
    | cons y b =>
      have := ih b (upd r x) (upd s y) (by simpa using h)
      rw [← upd_xor] at this
      exact this
theorem nt_xor (s : Nat) (hs : s < 18446744073709551616) : nt s = 18446744073709551615 ^^^ s := by
  have h1 := not_walk s hs
  have h2 := u64_xor_nat 18446744073709551615 s (by omega) hs
  rw [show IntKind.u64.max = ((18446744073709551615 : Nat) : Int) from rfl, h2] at h1
  exact (Int.ofNat_inj.1 h1).symm
theorem ext_three (a b c : List Nat) (ha : Bytes a) (hb : Bytes b) (hc : Bytes c) (h1 : a.length = b.length) (h2 : b.length = c.length) :
    ext 0 (zx (zx a b) c) = ext 0 a ^^^ ext 0 b ^^^ ext 0 c := by
  have hl : (zx a b).length = c.length := by simp [zx]; omega
  have hr : reg (nt 0) (zx (zx a b) c) = reg (nt 0) a ^^^ reg (nt 0) b ^^^ reg (nt 0) c := by
    have e : nt 0 = (nt 0 ^^^ nt 0) ^^^ nt 0 := by rw [Nat.xor_self, Nat.zero_xor]
    rw [e, reg_zx _ _ _ _ hl, reg_zx _ _ _ _ h1, ← e]
  have la := reg_lt (nt 0) a ha (nt_lt 0)
  have lb := reg_lt (nt 0) b hb (nt_lt 0)
  have lc := reg_lt (nt 0) c hc (nt_lt 0)
  unfold ext
  rw [hr, nt_xor _ la, nt_xor _ lb, nt_xor _ lc, nt_xor _ (Nat.xor_lt_two_pow (n := 64) (Nat.xor_lt_two_pow (n := 64) la lb) lc)]
  generalize reg (nt 0) a = x
  generalize reg (nt 0) b = y
  generalize reg (nt 0) c = z
  generalize 18446744073709551615 = M
  simp [Nat.xor_comm, xor_lc]
theorem xor_walk (a b : List Nat) : bits .xor .u64 ((ext 0 a : Nat) : Int) ((ext 0 b : Nat) : Int) = ((ext 0 a ^^^ ext 0 b : Nat) : Int) :=
  u64_xor_nat _ _ (ext_lt _ _) (ext_lt _ _)
theorem xor_walk2 (x : Nat) (b : List Nat) (hx : x < 18446744073709551616) : bits .xor .u64 (x : Int) ((ext 0 b : Nat) : Int) = ((x ^^^ ext 0 b : Nat) : Int) :=
  u64_xor_nat _ _ hx (ext_lt _ _)

end Go.Proofs.Ythdbjnlgcbmocaa.Crc
