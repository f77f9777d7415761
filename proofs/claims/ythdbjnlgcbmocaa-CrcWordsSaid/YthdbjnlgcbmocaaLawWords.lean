/- The walk of the law CrcWords: it returns true for every slice of words. -/
import Derived.Test.YthdbjnlgcbmocaaWords
namespace Go.Proofs.Ythdbjnlgcbmocaa
open Go.RowKit

theorem isrow_readsW {w : World} {a : Option Addr} {len cap : Nat} {zs : List Int} (h : IsRow .u64 w a len cap zs) (hl : len ≤ 1000000) : ReadsW w a len ((zs.take len).map Int.toNat) := by
  rcases h with ⟨rfl, rfl, rfl, rfl⟩ | ⟨x, rfl, h1, h2, h3, h4, h5⟩
  · exact ⟨rfl, by omega, fun k hk => by omega⟩
  · refine ⟨by simp; omega, by omega, fun k hk => ⟨x, rfl, ?_, ?_⟩⟩
    · have := h4 k (by omega)
      have h := block_lt_of_cell this
      rwa [block_add] at h
    · have hz := bounds_u64 (h5 (zs.getD k 0) (by rw [List.getD_eq_getElem?_getD, List.getElem?_eq_getElem (by omega)]; exact List.getElem_mem _))
      rw [h4 k (by omega), getD_taken zs len k hk (by omega), Int.toNat_of_nonneg hz.1]
      exact ⟨rfl, by omega⟩

set_option maxHeartbeats 2000000 in
theorem crcWords_walk (a0 : Option Addr) (len0 cap0 : Nat) (z0 : List Int) (w : World) (w0 : IsRow .u64 w a0 len0 cap0 z0) :
    Calls Try.prog 6 #[.slice a0 len0 cap0] w fun e w' => e = .returned (.bool true) ∧ Below w.heap.size w w' := by
  obtain ⟨i0, hi, hz0, hz1, hz2⟩ := info_parts info5
  by_cases h0 : (300 : Int) < (len0 : Int)
  · clear w0
    go_enter Try.func6, Try.ntmps6
    go_wp2
    go_ret
    exact ⟨rfl, Below.refl _ _⟩
  have HW := Lib.hid (isrow_readsW w0 (by omega))
  clear w0
  generalize (z0.take len0).map Int.toNat = ws at *
  go_enter Try.func6, Try.ntmps6
  go_wp2
  go_loopg [3, 4] len0 (fun g s3 s4 wx => ∃ i : Nat, i + g = len0 ∧ s4 = .int .i64 i ∧ wx.ownsRow w.heap.size 5 1 s3 (8 * i) (bcells (Crc.wbytes (ws.take i))) ∧ Below w.heap.size w wx)
  case atStart => exact ⟨0, by omega, rfl, World.ownsRow_nil _ _ _ _, Below.refl _ _⟩
  case round =>
    obtain ⟨i, hig, rfl, hown1, hbel1⟩ := hrel
    cases gk with
    | zero =>
      have hge : ¬ ((i : Int) < (len0 : Int)) := by omega
      have e : ws.take i = ws := List.take_of_length_le (by have := HW.out.1; omega)
      rw [e] at hown1
      obtain ⟨A1, c1, rfl, hr⟩ := own_reads hown1 (Crc.wbytes_bytes ws) (by omega)
      have HR := Lib.hid hr
      clear hr hown1 e
      go_wp2_with fail
      refine (awake_x _).mono ?_
      rintro e w1 ⟨rfl, hw1⟩
      have hb1 := hbel1.trans (hw1.mono hbel1.size)
      go_wp2_with fail
      refine (words_x _ _ _ _ _ (HW.out.more hb1)).mono ?_
      rintro e w2 ⟨rfl, hw2⟩
      have hb2 := hb1.trans (hw2.mono hb1.size)
      go_wp2_with fail
      refine (bytes_x _ _ _ _ _ ((HR.out.more hw1).more hw2)).mono ?_
      rintro e w3 ⟨rfl, hw3⟩
      have hb3 := hb2.trans (hw3.mono hb2.size)
      have hE : ((Crc.words ws : Nat) : Int) = ((Crc.ext 0 (Crc.wbytes ws) : Nat) : Int) := rfl
      rw [← hE]
      clear hE
      go_wp2_with fail
      refine (words_x _ _ _ _ _ (HW.out.more hb3)).mono ?_
      rintro e w4 ⟨rfl, hw4⟩
      have hb4 := hb3.trans (hw4.mono hb3.size)
      go_wp2_with fail
      refine (refwords_x _ _ _ _ _ (HW.out.more hb4)).mono ?_
      rintro e w5 ⟨rfl, hw5⟩
      go_wp2
      go_ret
      exact ⟨rfl, hb4.trans (hw5.mono hb4.size)⟩
    | succ g =>
      have hlt : (i : Int) < (len0 : Int) := by omega
      go_wp2
      go_loopg [3, 5] 8 (fun g2 s3 s5 wx => ∃ m : Nat, m + g2 = 8 ∧ s5 = .int .i64 m ∧ wx.ownsRow w.heap.size 5 1 s3 (8 * i + m) (bcells (Crc.part ws i m)) ∧ Below w.heap.size w wx)
      case atStart => exact ⟨0, by omega, rfl, by rw [Crc.part_zero]; exact hown1, hbel1⟩
      case round =>
        obtain ⟨m, hm, rfl, hown2, hbel2⟩ := hrel
        clear hown1 hbel1
        cases gk with
        | zero =>
          obtain rfl : m = 8 := by omega
          go_wp2
          go_roundg g
          case measure => omega
          case rel => exact ⟨i + 1, by omega, by go_num, by rw [← Crc.part_end ws i (by have := HW.out.1; omega)]; exact hown2, hbel2⟩
        | succ g2 =>
          have hlt2 : (m : Int) < 8 := by omega
          obtain ⟨ad, rfl, _, hcell, hW⟩ := (HW.out.more hbel2).2.2 i (by omega)
          have HP := Lib.hid (Crc.part_step ws i m (by omega))
          generalize ws.getD i 0 = W at *
          have HB := Lib.hid (Crc.byte_walk W m)
          go_wp2_with (at_builtin; refine wpList_append_own _ rfl _ _ 22 rfl w.heap.size 5 i0 (.int .u8 0) 1 1 Try.underlying22 hi hz0 hz1 hz2 rfl (by decide) _ _ _ rfl (hown2.alloc _) ⟨wr.heap.size, 0, none⟩ 1 1 [.int .u8 ((W : Int) / 2 ^ (8 * m) % 256)] rfl rfl ?c1 ?c2 ?c3 ?c4 ?c5 ?_)
          case c1 => exact cell_one _ _
          case c2 => intro u hu; simp at hu; subst hu; rfl
          case c3 => unfold maxLen; omega
          case c4 => omega
          case c5 => have := hbel2.size; simp; omega
          intro v' w2 hown3 hgrow3 _
          have hbel3 := (hbel2.alloc hbel2.size _).grown hgrow3 (by have := hbel2.size; simp; omega) (fun k e => (hown2.lt k e).1)
          clear hgrow3 hown2 hbel2
          go_wp2
          go_roundg g2
          case measure => omega
          case rel => exact ⟨m + 1, by omega, by go_num, by rw [HP.out, bcells_snoc, ← HB.out]; exact hown3, hbel3⟩
end Go.Proofs.Ythdbjnlgcbmocaa
