/- The walk of the law CrcLinear: it returns true for every three slices of bytes. -/
import Derived.Test.YthdbjnlgcbmocaaLawExtend
import Derived.Test.YthdbjnlgcbmocaaLin
import Derived.Deep.RegionWith
import Derived.Deep.QuietTactic
import Derived.BigQuiet
namespace Go.Proofs.Ythdbjnlgcbmocaa
open Go.RowKit

/-- The cells of x when the first k are laid. -/
def xcells (n : Nat) (f : Nat → Nat) (k : Nat) : Array Value := ((List.range n).map fun j => Value.int .u8 (if j < k then (f j : Int) else 0)).toArray
theorem xcells_zero (n : Nat) (f : Nat → Nat) : madeCells #[.int .u8 0] n = xcells n f 0 := by
  apply Array.toList_inj.1
  rw [toList_madeCells_one]
  simp [xcells, List.map_const']
theorem xcells_at (n : Nat) (f : Nat → Nat) (k j : Nat) (h : j < n) : (xcells n f k)[j]? = some (.int .u8 (if j < k then (f j : Int) else 0)) := by
  simp [xcells, h]
theorem xcells_size (n : Nat) (f : Nat → Nat) (k : Nat) : (xcells n f k).size = n := by simp [xcells]
theorem xcells_set (n : Nat) (f : Nat → Nat) (k : Nat) (h : k < n) : (xcells n f k).setIfInBounds k (.int .u8 (f k : Int)) = xcells n f (k + 1) := by
  apply Array.ext_getElem?
  intro j
  rw [Array.getElem?_setIfInBounds, xcells_size]
  by_cases hj : j < n
  · rw [xcells_at n f (k + 1) j hj]
    by_cases e : k = j
    · subst e; simp [h]
    · rw [if_neg e, xcells_at n f k j hj]
      congr 3
      simp only [eq_iff_iff]; omega
  · have h1 : (xcells n f k)[j]? = none := Array.getElem?_eq_none (by rw [xcells_size]; omega)
    have h2 : (xcells n f (k + 1))[j]? = none := Array.getElem?_eq_none (by rw [xcells_size]; omega)
    rw [h1, h2, if_neg (by omega)]

theorem getD_lt {b : List Nat} (h : Crc.Bytes b) (k : Nat) : b.getD k 0 < 256 := by
  rw [List.getD_eq_getElem?_getD]
  cases e : b[k]? with
  | none => simp
  | some x => exact h x (List.mem_of_getElem? e)

theorem getD_zx (a b : List Nat) (h : a.length = b.length) (k : Nat) (hk : k < a.length) : (Crc.zx a b).getD k 0 = a.getD k 0 ^^^ b.getD k 0 := by
  simp only [List.getD_eq_getElem?_getD, Crc.zx, List.getElem?_zipWith, List.getElem?_eq_getElem hk, List.getElem?_eq_getElem (show k < b.length by omega), Option.getD_some]
theorem length_zx (a b : List Nat) (h : a.length = b.length) : (Crc.zx a b).length = a.length := by simp [Crc.zx]; omega
theorem bytes_zx {a b : List Nat} (ha : Crc.Bytes a) (hb : Crc.Bytes b) : Crc.Bytes (Crc.zx a b) := by
  intro y hy
  unfold Crc.zx at hy
  obtain ⟨i, hi, rfl⟩ := List.mem_iff_getElem.1 hy
  simp only [List.getElem_zipWith]
  exact Nat.xor_lt_two_pow (n := 8) (ha _ (List.getElem_mem _)) (hb _ (List.getElem_mem _))
theorem reads_x {w w0 : World} {a0 a1 a2 : Option Addr} {n : Nat} {b0 b1 b2 : List Nat} (r0 : ReadsB w a0 n b0) (r1 : ReadsB w a1 n b1) (r2 : ReadsB w a2 n b2)
    (h : w.heap[w0.heap.size]? = some (.cells (xcells n (fun j => b0.getD j 0 ^^^ b1.getD j 0 ^^^ b2.getD j 0) n) 5 (0, 0))) :
    ReadsB w (some ⟨w0.heap.size, 0, none⟩) n (Crc.zx (Crc.zx b0 b1) b2) := by
  have l0 := r0.1; have l1 := r1.1; have l2 := r2.1
  have l01 := length_zx b0 b1 (by omega)
  have l012 := length_zx (Crc.zx b0 b1) b2 (by omega)
  refine ⟨by omega, bytes_zx (bytes_zx r0.2.1 r1.2.1) r2.2.1, r0.2.2.1, fun k hk => ⟨_, rfl, ?_, ?_⟩⟩
  · exact (Array.getElem?_eq_some_iff.1 h).1
  · have e : (⟨w0.heap.size, 0, none⟩ : Addr).add k = ⟨w0.heap.size, k, none⟩ := by unfold Addr.add; split <;> simp_all
    rw [e, cell_of_row w _ k _ 5 (0, 0) h, xcells_at _ _ _ _ hk, if_pos hk, getD_zx _ _ (by omega) k (by omega), getD_zx _ _ (by omega) k (by omega)]

theorem info5 : (Try.prog.info? 5).map (fun i => (i.zero, i.size, i.bytes)) = some (some (.int .u8 0), 1, 1) := by kernel_rfl
theorem awake_at {w0 : World} (w : World) (hb : Below w0.heap.size w0 w) :
    Calls Try.prog 7 #[] w fun e w' => e = .returned (.bool true) ∧ Below w0.heap.size w0 w' :=
  (awake_x w).mono fun _ _ ⟨he, h⟩ => ⟨he, hb.trans (h.mono hb.size)⟩
theorem bytes_at {w0 : World} (n cap : Nat) (A : Option Addr) (bs : List Nat) (w : World) (hr : ReadsB w0 A n bs) (hb : Below w0.heap.size w0 w) :
    Calls Try.prog 8 #[.slice A n cap] w fun e w' => e = .returned (.int .u64 ((Crc.ext 0 bs : Nat) : Int)) ∧ Below w0.heap.size w0 w' :=
  (bytes_x n cap A bs w (hr.more hb)).mono fun _ _ ⟨he, h⟩ => ⟨he, hb.trans (h.mono hb.size)⟩
theorem size5 : Try.prog.elem 22 = 5 := by kernel_rfl
/-- The cut s[:n]: some slice that reads as the same n bytes. -/
theorem cut_fact {w : World} {A : Option Addr} {n len cap : Nat} {bs : List Nat} (h : ReadsB w A n bs) (hn : n ≤ cap) :
    ∃ (A' : Option Addr) (C' : Nat), (∀ W, (Instr.slice 22 (.slice A len cap) none (some (.int .i64 (n : Int))) none).run Try.prog W = .ok (.slice A' n C') W) ∧ ReadsB w A' n bs := by
  obtain ⟨i0, hi, hz0, hz1, hz2⟩ := info_parts info5
  have hu : Try.prog.underlying 22 = some (.slice (Try.prog.elem 22)) := by rw [size5]; exact Try.underlying22
  refine ⟨if cap = 0 then A else A.map (·.add (0 * 1)), cap, fun W => ?_, ?_⟩
  · rw [run_slice_h W 22 A len cap hu .i64 n (by omega) (by omega), size5]
    have hs : (sizeOf 5).run Try.prog W = .ok 1 W := by simp [sizeOf, typeInfo, hi, hz1]
    rw [hs]
    simp [Result.andThen, sliced]
  · obtain ⟨hl, hb, hm, hr⟩ := h
    refine ⟨hl, hb, hm, fun k hk => ?_⟩
    obtain ⟨ad, rfl, hlt, hc⟩ := hr k hk
    rw [if_neg (by omega)]
    exact ⟨ad, by simp [Addr.add], hlt, hc⟩


set_option maxHeartbeats 1000000 in
theorem linear_core (a0 a1 a2 : Option Addr) (len0 cap0 len1 cap1 len2 cap2 n m : Nat) (b0 b1 b2 : List Nat) (w : World)
    (hm : (if len2 < len1 then (len2 : Int) else (len1 : Int)) = (m : Int)) (hn : (if m < len0 then (m : Int) else (len0 : Int)) = (n : Int))
    (c0 : len0 ≤ cap0) (c1 : len1 ≤ cap1) (c2 : len2 ≤ cap2) (h400 : n ≤ 400)
    (r0 : ReadsB w a0 n b0) (r1 : ReadsB w a1 n b1) (r2 : ReadsB w a2 n b2) :
    Calls Try.prog 5 #[.slice a0 len0 cap0, .slice a1 len1 cap1, .slice a2 len2 cap2] w fun e w' => e = .returned (.bool true) ∧ Below w.heap.size w w' := by
  obtain ⟨i0, hi, hz0, hz1, hz2⟩ := info_parts info5
  have hl0 : n ≤ len0 := by split at hn <;> omega
  have hl1 : n ≤ len1 := by split at hn <;> split at hm <;> omega
  have hl2 : n ≤ len2 := by split at hn <;> split at hm <;> omega
  have hmk := fun W => run_make (P := Try.prog) W 22 5 i0 (.int .u8 0) Try.underlying22 hi hz0 .i64 .i64 n n (by omega) (by omega) (by rw [hz2]; omega) (by omega)
  simp only [Int.toNat_natCast, hz1, Nat.mul_one] at hmk
  clear hi hz0 hz1 hz2
  have R0 := Lib.hid r0
  have R1 := Lib.hid r1
  have R2 := Lib.hid r2
  clear r0 r1 r2
  have h4 : (n : Int) ≤ 400 := by omega
  go_enter Try.func5, Try.ntmps5
  go_wp2
  rw [xcells_zero n (fun j => b0.getD j 0 ^^^ b1.getD j 0 ^^^ b2.getD j 0)]
  generalize hf : (fun j => b0.getD j 0 ^^^ b1.getD j 0 ^^^ b2.getD j 0) = f
  have HF := Lib.hid hf
  clear hf hm hn hmk
  go_loopg [9] n (fun g s9 wx => ∃ k : Nat, k + g = n ∧ s9 = .int .i64 k ∧ wx.heap[w.heap.size]? = some (.cells (xcells n f k) 5 (0, 0)) ∧ Below w.heap.size w wx)
  case atStart => exact ⟨0, by omega, rfl, heap_alloc_last w _, (Below.refl _ w).alloc (Nat.le_refl _) _⟩
  case round =>
    obtain ⟨k, hk, rfl, hblk, hbel⟩ := hrel
    have P0 := Lib.hid (R0.out.more hbel)
    have P1 := Lib.hid (R1.out.more hbel)
    have P2 := Lib.hid (R2.out.more hbel)
    have HBL := Lib.hid hblk
    cases gk with
    | zero =>
      have hge : ¬ ((k : Int) < (n : Int)) := by omega
      have PX : Hid (ReadsB wr (some ⟨w.heap.size, 0, none⟩) n (Crc.zx (Crc.zx b0 b1) b2)) := by
        have hkn : k = n := by omega
        subst hkn
        refine reads_x P0.out P1.out P2.out ?_
        rw [HF.out]
        exact hblk
      clear hblk HBL
      have e3 := Crc.ext_three b0 b1 b2 P0.out.2.1 P1.out.2.1 P2.out.2.1 (P0.out.1.trans P1.out.1.symm) (P1.out.1.trans P2.out.1.symm)
      have HE := Lib.hid e3
      have hw1 := Crc.xor_walk b0 b1
      have hw2 := Crc.xor_walk2 _ b2 (Nat.xor_lt_two_pow (n := 64) (Crc.ext_lt 0 b0) (Crc.ext_lt 0 b1))
      clear e3
      obtain ⟨A0, C0, s0, Q0'⟩ := cut_fact (len := len0) P0.out (show n ≤ cap0 by omega)
      obtain ⟨A1, C1, s1, Q1'⟩ := cut_fact (len := len1) P1.out (show n ≤ cap1 by omega)
      obtain ⟨A2, C2, s2, Q2'⟩ := cut_fact (len := len2) P2.out (show n ≤ cap2 by omega)
      have Q0 := Lib.hid Q0'
      have Q1 := Lib.hid Q1'
      have Q2 := Lib.hid Q2'
      clear Q0' Q1' Q2' P0 P1 P2 R0 R1 R2
      go_wp2
      obtain ⟨C, hC⟩ : ∃ C : World → Prop, C = fun w' => Below wr.heap.size wr w' := ⟨_, rfl⟩
      have hex : ∃ x, C x := ⟨wr, by rw [hC]; exact Below.refl _ _⟩
      have hCs : C { wr with drawn := wr.drawn + 1 } := by rw [hC]; exact (Below.refl _ _).drew
      have HC := Lib.hid hC
      clear hC
      refine wp_region_quiet (C := C) (by kernel_rfl) (by kernel_rfl) hCs ?_
      clear hCs
      simp only
      repeat go_big_quiet_step (first
        | (intro _; with_reducible rfl)
        | (intro hc; go_at_call 7; rw [HC.out] at hc ⊢; exact awake_at (w0 := wr) _ hc)
        | (intro hc; go_at_call_of 8 w.heap.size; rw [HC.out] at hc ⊢; exact bytes_at (w0 := wr) _ _ _ _ _ PX.out hc)
        | (intro hc; go_at_call_of 8 A0; rw [HC.out] at hc ⊢; exact bytes_at (w0 := wr) _ _ _ _ _ Q0.out hc)
        | (intro hc; go_at_call_of 8 A1; rw [HC.out] at hc ⊢; exact bytes_at (w0 := wr) _ _ _ _ _ Q1.out hc)
        | (intro hc; go_at_call_of 8 A2; rw [HC.out] at hc ⊢; exact bytes_at (w0 := wr) _ _ _ _ _ Q2.out hc))
      refine wpQuiet_nil ?_
      intro w' hc
      rw [HC.out] at hc
      go_wp2
      go_ret
      exact ⟨by simp [HE.out], hbel.trans (hc.mono hbel.size)⟩
    | succ g =>
      have hlt : (k : Int) < (n : Int) := by omega
      obtain ⟨ad0, rfl, _, hx0⟩ := P0.out.2.2.2 k (by omega)
      obtain ⟨ad1, rfl, _, hx1⟩ := P1.out.2.2.2 k (by omega)
      obtain ⟨ad2, rfl, _, hx2⟩ := P2.out.2.2.2 k (by omega)
      have hfk : f k = b0.getD k 0 ^^^ b1.getD k 0 ^^^ b2.getD k 0 := by rw [← HF.out]
      have g0 := getD_lt P0.out.2.1 k
      have g1 := getD_lt P1.out.2.1 k
      have g2 := getD_lt P2.out.2.1 k
      generalize b0.getD k 0 = x0 at *
      generalize b1.getD k 0 = x1 at *
      generalize b2.getD k 0 = x2 at *
      have e01 := u8_xor_nat x0 x1 g0 g1
      have e012 := u8_xor_nat (x0 ^^^ x1) x2 (Nat.xor_lt_two_pow (n := 8) g0 g1) g2
      rw [← hfk] at e012
      have HX := Lib.hid (xcells_set n f k (by omega))
      have hcell : wr.cell? ⟨w.heap.size, k, none⟩ = some (.int .u8 0) := by
        rw [cell_of_row wr _ k _ 5 (0, 0) hblk, xcells_at n f k k (by omega), if_neg (by omega)]
      have hfro := frozen_of_row wr w.heap.size k _ 5 hblk
      clear hfk hblk
      go_wp2
      go_region
      all_goals go_wp2
      all_goals go_roundg g
      case measure => omega
      case rel => exact ⟨k + 1, by omega, by go_num, by rw [← HX.out]; exact heap_setCell_same wr _ k _ 5 _ HBL.out, (hbel.setCell (p := ⟨w.heap.size, k, none⟩) (Nat.le_refl _) _).drew⟩

set_option maxHeartbeats 1000000 in
theorem linear_long (a0 a1 a2 : Option Addr) (len0 cap0 len1 cap1 len2 cap2 n m : Nat) (w : World)
    (hm : (if len2 < len1 then (len2 : Int) else (len1 : Int)) = (m : Int)) (hn : (if m < len0 then (m : Int) else (len0 : Int)) = (n : Int)) (h400 : (400 : Int) < (n : Int)) :
    Calls Try.prog 5 #[.slice a0 len0 cap0, .slice a1 len1 cap1, .slice a2 len2 cap2] w fun e w' => e = .returned (.bool true) ∧ Below w.heap.size w w' := by
  go_enter Try.func5, Try.ntmps5
  go_wp2
  go_ret
  exact ⟨rfl, Below.refl _ _⟩

theorem isrow_part {w : World} {a : Option Addr} {len cap : Nat} {zs : List Int} (h : IsRow .u8 w a len cap zs) (k : Nat) (hk : k ≤ len) (hl : k ≤ 140737488351232) : ReadsB w a k ((zs.take k).map Int.toNat) := by
  rcases h with ⟨rfl, rfl, rfl, rfl⟩ | ⟨x, rfl, h1, h2, h3, h4, h5⟩
  · obtain rfl : k = 0 := by omega
    exact ReadsB.nil w
  · exact isrow_reads (cap := cap) (.inr ⟨x, rfl, by omega, h2, h3, h4, h5⟩) hl

theorem isrow_cap {k : IntKind} {w : World} {a : Option Addr} {len cap : Nat} {zs : List Int} (h : IsRow k w a len cap zs) : len ≤ cap := by
  rcases h with ⟨_, h, h', _⟩ | ⟨_, _, h, _⟩ <;> omega

theorem crcLinear_walk (a0 : Option Addr) (len0 cap0 : Nat) (z0 : List Int) (a1 : Option Addr) (len1 cap1 : Nat) (z1 : List Int) (a2 : Option Addr) (len2 cap2 : Nat) (z2 : List Int) (w : World)
    (w0 : IsRow .u8 w a0 len0 cap0 z0) (w1 : IsRow .u8 w a1 len1 cap1 z1) (w2 : IsRow .u8 w a2 len2 cap2 z2) :
    Calls Try.prog 5 #[.slice a0 len0 cap0, .slice a1 len1 cap1, .slice a2 len2 cap2] w fun e w' => e = .returned (.bool true) ∧ Below w.heap.size w w' := by
  obtain ⟨m, hm⟩ : ∃ m : Nat, (if len2 < len1 then (len2 : Int) else (len1 : Int)) = (m : Int) := ⟨if len2 < len1 then len2 else len1, by split <;> rfl⟩
  obtain ⟨n, hn⟩ : ∃ n : Nat, (if m < len0 then (m : Int) else (len0 : Int)) = (n : Int) := ⟨if m < len0 then m else len0, by split <;> rfl⟩
  have hl0 : n ≤ len0 := by split at hn <;> omega
  have hl1 : n ≤ len1 := by split at hn <;> split at hm <;> omega
  have hl2 : n ≤ len2 := by split at hn <;> split at hm <;> omega
  by_cases h400 : (400 : Int) < (n : Int)
  · exact linear_long a0 a1 a2 len0 cap0 len1 cap1 len2 cap2 n m w hm hn h400
  · exact linear_core a0 a1 a2 len0 cap0 len1 cap1 len2 cap2 n m _ _ _ w hm hn (isrow_cap w0) (isrow_cap w1) (isrow_cap w2) (by omega) (isrow_part w0 n hl0 (by omega)) (isrow_part w1 n hl1 (by omega)) (isrow_part w2 n hl2 (by omega))
end Go.Proofs.Ythdbjnlgcbmocaa
