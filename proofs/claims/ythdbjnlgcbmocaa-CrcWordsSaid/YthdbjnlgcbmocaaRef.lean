/- bodegaref1.Extend and bodegaref1.Bytes compute the same CRC bit by bit; the sanity check holds. Conditions: the slice reads as bytes. -/
import Derived.Test.YthdbjnlgcbmocaaAdd
import Derived.Lib.SlBytesConst
namespace Go.Proofs.Ythdbjnlgcbmocaa
open Go.RowKit

set_option maxHeartbeats 1000000 in
set_option maxRecDepth 100000 in
theorem refextend_x (s n cap : Nat) (A : Option Addr) (bs : List Nat) (w : World) (hs : s < 18446744073709551616) (hb : ReadsB w A n bs) :
    Calls Try.prog 14 #[.int .u64 (s : Int), .slice A n cap] w fun e w' => e = .returned (.int .u64 ((Crc.ext s bs : Nat) : Int)) ∧ w = w' := by
  obtain ⟨hlen, hby, hn, hc⟩ := hb
  have HC := Lib.hid hc
  have HL := Lib.hid hlen
  clear hc hlen
  have hn1 := Crc.not_walk s hs
  have hn2 := Crc.not_walk (Crc.reg (Crc.nt s) bs) (Crc.reg_lt _ _ hby (Crc.nt_lt s))
  go_enter Try.func14, Try.ntmps14
  go_wp2
  go_loopg [5, 6] n (fun g s5 s6 wx => ∃ k : Nat, k + g = n ∧ s6 = .int .i64 k ∧ s5 = .int .u64 ((Crc.reg (Crc.nt s) (bs.take k) : Nat) : Int) ∧ wx = w)
  case atStart => exact ⟨0, by omega, rfl, rfl, rfl⟩
  case round =>
    obtain ⟨k, hk, rfl, rfl, rfl⟩ := hrel
    cases gk with
    | zero =>
      have hge : ¬ ((k : Int) < (n : Int)) := by omega
      have hk' : k = n := by omega
      have hl := HL.out
      have e : bs.take k = bs := List.take_of_length_le (by omega)
      rw [e]
      clear e hl hk'
      go_wp2
      go_ret
      exact ⟨rfl, rfl⟩
    | succ g =>
      have hlt : (k : Int) < (n : Int) := by omega
      obtain ⟨ad, rfl, _, hcell⟩ := HC.out k (by omega)
      have hx : bs.getD k 0 < 256 := by
        rw [List.getD_eq_getElem?_getD, List.getElem?_eq_getElem (by have := HL.out; omega)]
        exact hby _ (List.getElem_mem _)
      have hR := Crc.reg_lt (Crc.nt s) (bs.take k) (fun y hy => hby y (List.mem_of_mem_take hy)) (Crc.nt_lt s)
      have hsn : Crc.reg (Crc.nt s) (bs.take (k + 1)) = Crc.upd (Crc.reg (Crc.nt s) (bs.take k)) (bs.getD k 0) := by
        rw [List.take_succ_eq_append_getElem (by have := HL.out; omega), Crc.reg_snoc, List.getD_eq_getElem?_getD, List.getElem?_eq_getElem (by have := HL.out; omega)]
        rfl
      have HS := Lib.hid hsn
      clear hsn hn1 hn2
      generalize bs.getD k 0 = x at *
      generalize hRR : Crc.reg (Crc.nt s) (bs.take k) = R at *
      clear hRR
      have hxor := u64_xor_nat R x hR (by omega)
      have hq : R ^^^ x < 18446744073709551616 := Nat.xor_lt_two_pow (n := 64) (by omega) (by omega)
      have HS2 : Hid (Crc.reg (Crc.nt s) (bs.take (k + 1)) = Crc.stN 8 (R ^^^ x)) := HS.out
      clear HS
      generalize R ^^^ x = q at *
      go_wp2
      go_loopg [5, 7] 8 (fun g2 r c wx => ∃ m : Nat, m + g2 = 8 ∧ c = .int .i64 m ∧ r = .int .u64 (Crc.stN m q : Nat) ∧ wx = wr)
      case atStart => exact ⟨0, by omega, rfl, rfl, rfl⟩
      case round =>
        obtain ⟨m, hm, rfl, rfl, rfl⟩ := hrel
        cases gk with
        | zero =>
          obtain rfl : m = 8 := by omega
          go_wp2
          go_roundg g
          case measure => omega
          case rel => exact ⟨k + 1, by omega, by go_num, by rw [HS2.out], rfl⟩
        | succ g2 =>
          have hlt2 : (m : Int) < 8 := by omega
          have hr := Crc.stN_lt m q hq
          by_cases hb : Crc.stN m q % 2 = 1
          · have ht := Crc.test_odd _ hr hb
            have HS := Lib.hid (Crc.st_odd _ hr hb)
            clear hb
            go_wp2
            go_roundg g2
            case measure => omega
            case rel => exact ⟨m + 1, by omega, by go_num, by rw [HS.out]; rfl, rfl⟩
          · have ht := Crc.test_even _ hr hb
            have HS := Lib.hid (Crc.st_even _ hb)
            clear hb
            go_wp2
            go_roundg g2
            case measure => omega
            case rel => exact ⟨m + 1, by omega, by go_num, by rw [HS.out]; rfl, rfl⟩

set_option maxHeartbeats 1000000 in
theorem refbytes_x (n cap : Nat) (A : Option Addr) (bs : List Nat) (w : World) (hb : ReadsB w A n bs) :
    Calls Try.prog 9 #[.slice A n cap] w fun e w' => e = .returned (.int .u64 ((Crc.ext 0 bs : Nat) : Int)) ∧ w = w' := by
  have HB := Lib.hid hb
  clear hb
  go_enter Try.func9, Try.ntmps9
  go_wp2_with (go_at_call 14; refine (refextend_x 0 n cap A bs _ (by omega) HB.out).mono ?_; rintro e w' ⟨rfl, rfl⟩)
  go_ret
  exact ⟨rfl, rfl⟩

theorem check_value : Crc.ext 0 [49, 50, 51, 52, 53, 54, 55, 56, 57] = 11051210869376104954 := by decide +kernel

theorem reads_const (w : World) : ReadsB (w.alloc (.cells #[.int .u8 49, .int .u8 50, .int .u8 51, .int .u8 52, .int .u8 53, .int .u8 54, .int .u8 55, .int .u8 56, .int .u8 57] 5 (9, 10))) (some ⟨w.heap.size, 0, none⟩) 9 [49, 50, 51, 52, 53, 54, 55, 56, 57] :=
  ⟨rfl, by unfold Crc.Bytes; decide, by omega, fun k hk => ⟨_, rfl, by simp, by
    have e : (⟨w.heap.size, 0, none⟩ : Addr).add k = ⟨w.heap.size, k, none⟩ := by unfold Addr.add; split <;> simp_all
    rw [e, World.cell?_alloc_mark]
    match k, hk with
    | 0, _ => rfl
    | 1, _ => rfl
    | 2, _ => rfl
    | 3, _ => rfl
    | 4, _ => rfl
    | 5, _ => rfl
    | 6, _ => rfl
    | 7, _ => rfl
    | 8, _ => rfl⟩⟩

set_option maxHeartbeats 1000000 in
set_option maxRecDepth 100000 in
theorem awake_x (w : World) :
    Calls Try.prog 7 #[] w fun e w' => e = .returned (.bool true) ∧ Below w.heap.size w w' := by
  have kc := fun (w : World) (C : Array Value) (n c : Nat) => Lib.run_convert_bytes_const (P := Try.prog) w 22 5 C n c Try.underlying22 Try.underlying5
  go_enter Try.func7, Try.ntmps7
  go_wp2_with fail
  refine (bytes_x 9 9 _ [49, 50, 51, 52, 53, 54, 55, 56, 57] _ (reads_const w)).mono ?_
  rintro e w1 ⟨rfl, hw1⟩
  rw [check_value]
  have hw1' := ((Below.refl _ w).alloc (Nat.le_refl _) _).trans (hw1.mono (by simp))
  clear hw1
  go_wp2_with fail
  refine (bytes_x 0 0 none [] _ (ReadsB.nil _)).mono ?_
  rintro e w2 ⟨rfl, hw2⟩
  rw [ext_nil 0 (by omega)]
  go_wp2
  go_ret
  exact ⟨rfl, hw1'.trans (hw2.mono hw1'.size)⟩
end Go.Proofs.Ythdbjnlgcbmocaa
