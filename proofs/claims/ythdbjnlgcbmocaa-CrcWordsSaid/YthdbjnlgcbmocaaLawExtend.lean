/- The walk of the law CrcExtend: it returns true for every slice of bytes and every list of cuts. -/
import Derived.Test.YthdbjnlgcbmocaaRead
namespace Go.Proofs.Ythdbjnlgcbmocaa
open Go.RowKit

theorem pick_mod (n k : Int) : (n.tmod k + k) % k = n % k := by
  rw [Int.add_emod_right, Int.tmod_def, Int.sub_mul_emod_self_left]

set_option maxHeartbeats 1000000 in
theorem pick_x (n k : Int) (w : World) (h1 : 1 ≤ k) (h2 : k ≤ 1000000) (_hn : -9223372036854775808 ≤ n ∧ n ≤ 9223372036854775807) :
    Calls Try.prog 10 #[.int .i64 n, .int .i64 k] w fun e w' => e = .returned (.int .i64 (n % k)) ∧ w = w' := by
  have h3 := Int.tmod_lt_of_pos n (show 0 < k by omega)
  have h4 := Int.lt_tmod_of_pos n (show 0 < k by omega)
  have HM := Lib.hid (pick_mod n k)
  go_enter Try.func10, Try.ntmps10
  go_wp2
  go_ret
  exact ⟨by simp [HM.out], rfl⟩

theorem ReadsB.cut {w : World} {A : Option Addr} {n : Nat} {bs : List Nat} (h : ReadsB w A n bs) (lo hi : Nat) (h1 : lo ≤ hi) (h2 : hi ≤ n) :
    ReadsB w (Option.map (fun x => x.add lo) A) (hi - lo) ((bs.take hi).drop lo) := by
  obtain ⟨hl, hb, hn, hr⟩ := h
  refine ⟨by simp; omega, fun y hy => hb y (List.mem_of_mem_take (List.mem_of_mem_drop hy)), by omega, fun k hk => ?_⟩
  obtain ⟨ad, rfl, hlt, hcell⟩ := hr (lo + k) (by omega)
  refine ⟨ad.add lo, rfl, by rw [block_add]; exact hlt, ?_⟩
  have e : (ad.add lo).add k = ad.add (lo + k) := by
    unfold Addr.add
    by_cases h1 : lo = 0 <;> by_cases h2 : k = 0 <;> simp [h1, h2, Nat.add_assoc]
  have e2 : ((bs.take hi).drop lo).getD k 0 = bs.getD (lo + k) 0 := by
    simp only [List.getD_eq_getElem?_getD, List.getElem?_drop, List.getElem?_take_of_lt (show lo + k < hi by omega)]
  rw [e, e2]
  exact hcell
theorem ReadsB.cutEnd {w : World} {A : Option Addr} {n : Nat} {bs : List Nat} (h : ReadsB w A n bs) (lo hi : Nat) (h1 : lo ≤ hi) (h2 : hi ≤ n) (hc : n ≤ lo) :
    ReadsB w A (hi - lo) ((bs.take hi).drop lo) := by
  obtain ⟨hl, hb, hn, hr⟩ := h
  exact ⟨by simp; omega, fun y hy => hb y (List.mem_of_mem_take (List.mem_of_mem_drop hy)), by omega, fun k hk => by omega⟩

theorem ext_cut (bs : List Nat) (m hi : Nat) (hb : Crc.Bytes bs) (h : m ≤ hi) : Crc.ext (Crc.ext 0 (bs.take m)) ((bs.take hi).drop m) = Crc.ext 0 (bs.take hi) := by
  rw [← Crc.ext_append _ _ _ (fun y hy => hb y (List.mem_of_mem_take hy))]
  congr 1
  have : (bs.take hi).take m = bs.take m := by rw [List.take_take]; congr 1; omega
  rw [← this, List.take_append_drop]

set_option maxHeartbeats 4000000 in
theorem crcExtend_walk (a0 : Option Addr) (len0 cap0 : Nat) (z0 : List Int) (a1 : Option Addr) (len1 cap1 : Nat) (z1 : List Int) (w : World) (w0 : IsRow .u8 w a0 len0 cap0 z0) (w1 : IsRow .i64 w a1 len1 cap1 z1) :
    Calls Try.prog 4 #[.slice a0 len0 cap0, .slice a1 len1 cap1] w fun e w' => e = .returned (.bool true) ∧ Below w.heap.size w w' := by
  by_cases h0 : (1000 : Int) < (len0 : Int)
  · clear w0 w1
    go_enter Try.func4, Try.ntmps4
    go_wp2
    go_ret
    exact ⟨rfl, Below.refl _ _⟩
  by_cases h1 : (20 : Int) < (len1 : Int)
  · clear w0 w1
    go_enter Try.func4, Try.ntmps4
    go_wp2
    go_ret
    exact ⟨rfl, Below.refl _ _⟩
  have HB := Lib.hid (isrow_reads w0 (by omega))
  have hcap0 : len0 ≤ cap0 := by rcases w0 with ⟨_, h, h', _⟩ | ⟨_, _, h, _⟩ <;> omega
  have HC : Hid (∀ k, k < len1 → ∃ ad n, a1 = some ad ∧ w.cell? (ad.add k) = some (.int .i64 n) ∧ -9223372036854775808 ≤ n ∧ n ≤ 9223372036854775807) := by
    intro k hk
    rcases w1 with ⟨_, h, _⟩ | ⟨x, rfl, h1, h2, h3, h4, h5⟩
    · omega
    · have hm : z1.getD k 0 ∈ z1 := by rw [List.getD_eq_getElem?_getD, List.getElem?_eq_getElem (by omega)]; exact List.getElem_mem _
      exact ⟨x, _, rfl, h4 k (by omega), bounds_i64 (h5 _ hm)⟩
  clear w0 w1
  generalize (z0.take len0).map Int.toNat = bs at *
  go_enter Try.func4, Try.ntmps4
  go_wp2
  go_loopg [5, 6, 7] len1 (fun g s5 s6 s7 wx => ∃ k m : Nat, k + g = len1 ∧ m ≤ len0 ∧ s7 = .int .i64 k ∧ s6 = .int .i64 m ∧ s5 = .int .u64 ((Crc.ext 0 (bs.take m) : Nat) : Int) ∧ Below w.heap.size w wx)
  case atStart => exact ⟨0, 0, by omega, by omega, rfl, rfl, by rw [List.take_zero, ext_nil 0 (by omega)]; rfl, Below.refl _ _⟩
  case round =>
    obtain ⟨k, m, hk, hm, rfl, rfl, rfl, hbel⟩ := hrel
    have HBw := Lib.hid (HB.out.more hbel)
    cases gk with
    | zero =>
      have hge : ¬ ((k : Int) < (len1 : Int)) := by omega
      by_cases hcap : cap0 ≤ m
      · go_wp2_with fail
        refine (awake_x _).mono ?_
        rintro e w1 ⟨rfl, hw1⟩
        have HB1 := Lib.hid (HBw.out.more hw1)
        go_wp2_with fail
        refine (extend_x _ _ _ _ _ _ (Crc.ext_lt _ _) (HB1.out.cutEnd m len0 hm (Nat.le_refl _) (by omega))).mono ?_
        rintro e w2 ⟨rfl, hw2⟩
        have HB2 := Lib.hid (HB1.out.more hw2)
        rw [ext_cut bs m len0 HB1.out.2.1 hm, List.take_of_length_le (Nat.le_of_eq HB1.out.1)]
        go_wp2_with fail
        refine (bytes_x _ _ _ _ _ HB2.out).mono ?_
        rintro e w3 ⟨rfl, hw3⟩
        go_wp2
        go_ret
        exact ⟨rfl, hbel.trans ((hw1.mono hbel.size).trans ((hw2.mono (Nat.le_trans hbel.size hw1.size)).trans (hw3.mono (Nat.le_trans hbel.size (Nat.le_trans hw1.size hw2.size)))))⟩
      · have hcap' : ¬ cap0 = m := by omega
        go_wp2_with fail
        refine (awake_x _).mono ?_
        rintro e w1 ⟨rfl, hw1⟩
        have HB1 := Lib.hid (HBw.out.more hw1)
        go_wp2_with fail
        refine (extend_x _ _ _ _ _ _ (Crc.ext_lt _ _) (HB1.out.cut m len0 hm (Nat.le_refl _))).mono ?_
        rintro e w2 ⟨rfl, hw2⟩
        have HB2 := Lib.hid (HB1.out.more hw2)
        rw [ext_cut bs m len0 HB1.out.2.1 hm, List.take_of_length_le (Nat.le_of_eq HB1.out.1)]
        go_wp2_with fail
        refine (bytes_x _ _ _ _ _ HB2.out).mono ?_
        rintro e w3 ⟨rfl, hw3⟩
        go_wp2
        go_ret
        exact ⟨rfl, hbel.trans ((hw1.mono hbel.size).trans ((hw2.mono (Nat.le_trans hbel.size hw1.size)).trans (hw3.mono (Nat.le_trans hbel.size (Nat.le_trans hw1.size hw2.size)))))⟩
    | succ g =>
      have hlt : (k : Int) < (len1 : Int) := by omega
      obtain ⟨ad, c, rfl, hcell0, hc1, hc2⟩ := HC.out k (by omega)
      have hcell : wr.cell? (ad.add k) = some (.int .i64 c) := (hbel.cell (by have := block_lt_of_cell hcell0; exact this)).trans hcell0
      clear hcell0
      go_wp2_with fail
      refine (pick_x _ _ _ (by omega) (by omega) ⟨hc1, hc2⟩).mono ?_
      rintro e w1 ⟨rfl, rfl⟩
      have h5 := Int.emod_nonneg c (show (len0 : Int) - (m : Int) + 1 ≠ 0 by omega)
      have h6 := Int.emod_lt_of_pos c (show 0 < (len0 : Int) - (m : Int) + 1 by omega)
      obtain ⟨d, hd⟩ := Int.eq_ofNat_of_zero_le h5
      rw [hd] at h5 h6 ⊢
      clear hd
      by_cases hcap : cap0 ≤ m
      · have hD := HBw.out.cutEnd m (m + d) (by omega) (by omega) (by omega)
        rw [Nat.add_sub_cancel_left] at hD
        have HD := Lib.hid hD
        clear hD
        go_wp2_with fail
        refine (extend_x _ _ _ _ _ _ (Crc.ext_lt _ _) HD.out).mono ?_
        rintro e w2 ⟨rfl, hw2⟩
        rw [ext_cut bs m (m + d) HBw.out.2.1 (by omega)]
        go_wp2_with fail
        go_roundg g
        case measure => omega
        case rel => exact ⟨k + 1, m + d, by omega, by omega, by go_num, by go_num, rfl, hbel.trans (hw2.mono hbel.size)⟩
      · have hcap' : ¬ cap0 = m := by omega
        have hD := HBw.out.cut m (m + d) (by omega) (by omega)
        rw [Nat.add_sub_cancel_left] at hD
        have HD := Lib.hid hD
        clear hD
        go_wp2_with fail
        refine (extend_x _ _ _ _ _ _ (Crc.ext_lt _ _) HD.out).mono ?_
        rintro e w2 ⟨rfl, hw2⟩
        rw [ext_cut bs m (m + d) HBw.out.2.1 (by omega)]
        go_wp2_with fail
        go_roundg g
        case measure => omega
        case rel => exact ⟨k + 1, m + d, by omega, by omega, by go_num, by go_num, rfl, hbel.trans (hw2.mono hbel.size)⟩
end Go.Proofs.Ythdbjnlgcbmocaa
