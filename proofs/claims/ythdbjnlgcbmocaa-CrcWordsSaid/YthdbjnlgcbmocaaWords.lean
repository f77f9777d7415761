/- crc.Words, bodegaref1.Little and bodegaref1.Words compute the CRC of the words' bytes. Conditions: the slice reads as words and is within the model's reach. -/
import Derived.Test.YthdbjnlgcbmocaaLawLinear
import Derived.Test.YthdbjnlgcbmocaaWordsMath
namespace Go.Proofs.Ythdbjnlgcbmocaa
open Go.RowKit

/-- The slice (address A, n elements) reads as the words ws. -/
def ReadsW (w : World) (A : Option Addr) (n : Nat) (ws : List Nat) : Prop :=
  ws.length = n ∧ (n : Int) ≤ 1000000 ∧ ∀ k, k < n → ∃ ad, A = some ad ∧ ad.block < w.heap.size ∧ w.cell? (ad.add k) = some (.int .u64 ((ws.getD k 0 : Nat) : Int)) ∧ ws.getD k 0 < 18446744073709551616
theorem ReadsW.more {w w' : World} {A : Option Addr} {n : Nat} {ws : List Nat} (h : ReadsW w A n ws) (hb : Below w.heap.size w w') : ReadsW w' A n ws :=
  ⟨h.1, h.2.1, fun k hk => by
    obtain ⟨ad, e, hlt, hc, hv⟩ := h.2.2 k hk
    exact ⟨ad, e, Nat.lt_of_lt_of_le hlt hb.size, (hb.cell (by rw [block_add]; exact hlt)).trans hc, hv⟩⟩

def bcells (bs : List Nat) : List Value := bs.map fun (x : Nat) => Value.int .u8 (x : Int)
theorem bcells_snoc (bs : List Nat) (x : Nat) : bcells (bs ++ [x]) = bcells bs ++ [.int .u8 (x : Int)] := by simp [bcells]
theorem own_reads {w : World} {base n : Nat} {v : Value} {bs : List Nat} (h : w.ownsRow base 5 1 v n (bcells bs)) (hb : Crc.Bytes bs) (hn : n ≤ 140737488351232) :
    ∃ A cap, v = .slice A n cap ∧ ReadsB w A n bs := by
  have hl : bs.length = n := by have := h.1; simpa [bcells] using this
  rcases h.2 with ⟨rfl, rfl⟩ | ⟨g, cap, cur, rfl, hbg, hg, hnc, hcm, hcs, htake⟩
  · obtain rfl : bs = [] := List.eq_nil_of_length_eq_zero hl
    exact ⟨none, 0, rfl, ReadsB.nil w⟩
  · refine ⟨some ⟨g, 0, none⟩, cap, rfl, hl, hb, by omega, fun k hk => ⟨_, rfl, (Array.getElem?_eq_some_iff.1 hg).1, ?_⟩⟩
    have e : (⟨g, 0, none⟩ : Addr).add k = ⟨g, k, none⟩ := by unfold Addr.add; split <;> simp_all
    rw [e, h.cellAt k (by omega), bcells, List.getElem?_map, List.getElem?_eq_getElem (by omega), List.getD_eq_getElem?_getD, List.getElem?_eq_getElem (by omega)]
    rfl

theorem cell_one (w : World) (u : Value) : ∀ (j : Nat) (x : Value), [u][j]? = some x → (w.alloc (.cells #[u] 5)).cell? ((⟨w.heap.size, 0, none⟩ : Addr).add j) = some x := by
  intro j x hj
  match j, hj with
  | 0, hj => simp at hj; subst hj; simp [Addr.add]


set_option maxHeartbeats 1000000 in
theorem words_x (n cap : Nat) (A : Option Addr) (ws : List Nat) (w : World) (hw : ReadsW w A n ws) :
    Calls Try.prog 12 #[.slice A n cap] w fun e w' => e = .returned (.int .u64 ((Crc.words ws : Nat) : Int)) ∧ Below w.heap.size w w' := by
  obtain ⟨i0, hi, hz0, hz1, hz2⟩ := info_parts info5
  have hn := hw.2.1
  have HW := Lib.hid hw
  clear hw
  go_enter Try.func12, Try.ntmps12
  go_wp2_with (first
    | (at_make; refine wpList_make_own _ rfl _ _ 22 rfl w.heap.size 5 i0 (.int .u8 0) 1 Try.underlying22 hi hz0 hz1 .i64 .i64 _ (8 * n) rfl rfl (by omega) ?b2 ?b3 ?b4 ?_)
    | fail)
  case b2 => rw [hz2]; omega
  case b3 => unfold maxLen; omega
  case b4 => exact Nat.le_refl _
  intro w1 hown hgrow
  go_wp2
  have hbel : Below w.heap.size w w1 := (Below.refl _ w).grown hgrow (Nat.le_refl _) (fun k e => by cases e)
  clear hgrow
  go_loopg [3, 12] n (fun g s3 s12 wx => ∃ i : Nat, i + g = n ∧ s12 = .int .i64 i ∧ wx.ownsRow w.heap.size 5 1 s3 (8 * i) (bcells (Crc.wbytes (ws.take i))) ∧ Below w.heap.size w wx)
  case atStart => exact ⟨0, by omega, rfl, hown, hbel⟩
  case round =>
    obtain ⟨i, hig, rfl, hown1, hbel1⟩ := hrel
    clear hown hbel
    cases gk with
    | zero =>
      have hge : ¬ ((i : Int) < (n : Int)) := by omega
      have e : ws.take i = ws := List.take_of_length_le (by have := HW.out.1; omega)
      rw [e] at hown1
      obtain ⟨A1, c1, rfl, hr⟩ := own_reads hown1 (Crc.wbytes_bytes ws) (by omega)
      have HR := Lib.hid hr
      clear hr hown1 e
      go_wp2_with (go_at_call 8; refine (bytes_x _ _ _ _ _ HR.out).mono ?_; rintro e w2 ⟨rfl, hw2⟩)
      go_ret
      exact ⟨rfl, hbel1.trans (hw2.mono hbel1.size)⟩
    | succ g =>
      have hlt : (i : Int) < (n : Int) := by omega
      obtain ⟨ad, rfl, _, hcell, hW⟩ := (HW.out.more hbel1).2.2 i (by omega)
      generalize hWd : ws.getD i 0 = W at *
      have HWd := Lib.hid hWd
      clear hWd
      go_wp2
      go_loopg [3, 5, 16] 8 (fun g2 s3 s5 s16 wx => ∃ m : Nat, m + g2 = 8 ∧ s16 = .int .i64 m ∧ s5 = .int .u64 ((W / 256 ^ m : Nat) : Int) ∧ wx.ownsRow w.heap.size 5 1 s3 (8 * i + m) (bcells (Crc.part ws i m)) ∧ Below w.heap.size w wx)
      case atStart => exact ⟨0, by omega, rfl, by simp, by rw [Crc.part_zero]; exact hown1, hbel1⟩
      case round =>
        obtain ⟨m, hm, rfl, rfl, hown2, hbel2⟩ := hrel
        clear hown1 hbel1
        cases gk with
        | zero =>
          obtain rfl : m = 8 := by omega
          go_wp2
          go_roundg g
          case measure => omega
          case rel => exact ⟨i + 1, by omega, by go_num, by rw [← Crc.part_end ws i (by have := HW.out.1; omega)]; exact hown2, hbel2⟩
        | succ g2 =>
          have hlt2 : (m : Int) < 8 := by omega
          have hq : W / 256 ^ m < 18446744073709551616 := Nat.lt_of_le_of_lt (Nat.div_le_self _ _) hW
          have HS := Lib.hid (Crc.shift_step W m)
          have HP := Lib.hid (Crc.part_step ws i m (by omega))
          rw [HWd.out] at HP
          have hbo : Crc.byteOf W m = W / 256 ^ m % 256 := rfl
          have HBO := Lib.hid hbo
          clear hbo
          generalize W / 256 ^ m = q at *
          go_wp2_with (at_builtin; refine wpList_append_own _ rfl _ _ 22 rfl w.heap.size 5 i0 (.int .u8 0) 1 1 Try.underlying22 hi hz0 hz1 hz2 rfl (by decide) _ _ _ rfl (hown2.alloc _) ⟨wr.heap.size, 0, none⟩ 1 1 [.int .u8 ((q : Int) % 256)] rfl rfl ?c1 ?c2 ?c3 ?c4 ?c5 ?_)
          case c1 => exact cell_one _ _
          case c2 => intro u hu; simp at hu; subst hu; rfl
          case c3 => unfold maxLen; omega
          case c4 => omega
          case c5 => have := hbel2.size; simp; omega
          intro v' w2 hown3 hgrow3 _
          have hbel3 := (hbel2.alloc hbel2.size _).grown hgrow3 (by have := hbel2.size; simp; omega) (fun k e => (hown2.lt k e).1)
          clear hgrow3 hown2 hbel2
          go_wp2
          go_roundg g2
          case measure => omega
          case rel => exact ⟨m + 1, by omega, by go_num, by rw [← HS.out]; rfl, by rw [HP.out, HBO.out, bcells_snoc]; exact hown3, hbel3⟩

set_option maxHeartbeats 1000000 in
theorem little_x (W : Nat) (w : World) :
    Calls Try.prog 17 #[.int .u64 (W : Int)] w fun e w' => e = .returned (.slice (some ⟨w.heap.size, 0, none⟩) 8 8) ∧ w' = w.alloc (.cells (xcells 8 (Crc.byteOf W) 8) 5) := by
  obtain ⟨i0, hi, hz0, hz1, hz2⟩ := info_parts info5
  have hmk := fun W => run_make (P := Try.prog) W 22 5 i0 (.int .u8 0) Try.underlying22 hi hz0 .i64 .i64 8 8 (by omega) (by omega) (by rw [hz2]; omega) (by omega)
  rw [hz1] at hmk
  simp only [show (8 : Int).toNat = 8 from rfl, Nat.mul_one, show (Value.int .u8 0).cells = #[.int .u8 0] from rfl, xcells_zero 8 (Crc.byteOf W)] at hmk
  clear hi hz0 hz1 hz2
  go_enter Try.func17, Try.ntmps17
  go_wp2
  go_loopg [4] 8 (fun g s4 wx => ∃ m : Nat, m + g = 8 ∧ s4 = .int .i64 m ∧ wx = w.alloc (.cells (xcells 8 (Crc.byteOf W) m) 5))
  case atStart => exact ⟨0, by omega, rfl, rfl⟩
  case round =>
    obtain ⟨m, hm, rfl, rfl⟩ := hrel
    cases gk with
    | zero =>
      obtain rfl : m = 8 := by omega
      go_wp2
      go_ret
      exact ⟨rfl, rfl⟩
    | succ g =>
      have hlt : (m : Int) < 8 := by omega
      have hcell := xcells_at 8 (Crc.byteOf W) m m (by omega)
      rw [if_neg (by omega)] at hcell
      have HX := Lib.hid (xcells_set 8 (Crc.byteOf W) m (by omega))
      have HB := Lib.hid (Crc.byte_walk W m)
      go_wp2
      go_roundg g
      case measure => omega
      case rel => exact ⟨m + 1, by omega, by go_num, by rw [HB.out, HX.out]⟩

theorem little_reads (W : Nat) (w : World) : ReadsB (w.alloc (.cells (xcells 8 (Crc.byteOf W) 8) 5)) (some ⟨w.heap.size, 0, none⟩) 8 (Crc.le8 W) := by
  refine ⟨Crc.le8_length W, Crc.le8_bytes W, by omega, fun k hk => ⟨_, rfl, by simp, ?_⟩⟩
  have e : (⟨w.heap.size, 0, none⟩ : Addr).add k = ⟨w.heap.size, k, none⟩ := by unfold Addr.add; split <;> simp_all
  rw [e, World.cell?_alloc_at _ _ _ _ rfl, xcells_at _ _ _ _ hk, if_pos hk, Crc.le8_getD W k hk]

set_option maxHeartbeats 1000000 in
theorem refwords_x (n cap : Nat) (A : Option Addr) (ws : List Nat) (w : World) (hw : ReadsW w A n ws) :
    Calls Try.prog 13 #[.slice A n cap] w fun e w' => e = .returned (.int .u64 ((Crc.words ws : Nat) : Int)) ∧ Below w.heap.size w w' := by
  have hn := hw.2.1
  have HW := Lib.hid hw
  clear hw
  go_enter Try.func13, Try.ntmps13
  go_wp2
  go_loopg [3, 4] n (fun g s3 s4 wx => ∃ i : Nat, i + g = n ∧ s4 = .int .i64 i ∧ s3 = .int .u64 ((Crc.words (ws.take i) : Nat) : Int) ∧ Below w.heap.size w wx)
  case atStart => exact ⟨0, by omega, rfl, by rw [List.take_zero, Crc.words_nil]; rfl, Below.refl _ _⟩
  case round =>
    obtain ⟨i, hig, rfl, rfl, hbel⟩ := hrel
    cases gk with
    | zero =>
      have hge : ¬ ((i : Int) < (n : Int)) := by omega
      have e : ws.take i = ws := List.take_of_length_le (by have := HW.out.1; omega)
      rw [e]
      clear e
      go_wp2
      go_ret
      exact ⟨rfl, hbel⟩
    | succ g =>
      have hlt : (i : Int) < (n : Int) := by omega
      obtain ⟨ad, rfl, _, hcell, hW⟩ := (HW.out.more hbel).2.2 i (by omega)
      have HS := Lib.hid (Crc.words_step ws i (by have := HW.out.1; omega))
      generalize ws.getD i 0 = W at *
      go_wp2_with fail
      refine (little_x W _).mono ?_
      rintro e w1 ⟨rfl, rfl⟩
      go_wp2_with fail
      refine (refextend_x _ _ _ _ _ _ (Crc.ext_lt _ _) (little_reads W wr)).mono ?_
      rintro e w2 ⟨rfl, rfl⟩
      go_wp2
      go_roundg g
      case measure => omega
      case rel => exact ⟨i + 1, by omega, by go_num, by rw [HS.out]; rfl, hbel.alloc hbel.size _⟩
end Go.Proofs.Ythdbjnlgcbmocaa
