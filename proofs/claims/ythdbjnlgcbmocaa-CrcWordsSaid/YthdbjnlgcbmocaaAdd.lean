/- crc.add, crc.Extend, crc.Bytes compute the CRC of the bytes that the slice reads as. Conditions: the slice reads as bytes and its length is within the model's reach. -/
import Derived.Test.YthdbjnlgcbmocaaTab
namespace Go.Proofs.Ythdbjnlgcbmocaa
open Go.RowKit

/-- The slice (address A, n elements) reads as the bytes bs. -/
def ReadsB (w : World) (A : Option Addr) (n : Nat) (bs : List Nat) : Prop :=
  bs.length = n ∧ Crc.Bytes bs ∧ (n : Int) ≤ 140737488351232 ∧ ∀ k, k < n → ∃ ad, A = some ad ∧ ad.block < w.heap.size ∧ w.cell? (ad.add k) = some (.int .u8 ((bs.getD k 0 : Nat) : Int))

set_option maxHeartbeats 1000000 in
set_option maxRecDepth 100000 in
theorem add_x (r T n cap : Nat) (A : Option Addr) (bs : List Nat) (w : World) (hr : r < 18446744073709551616)
    (hT : ∀ j : Nat, j < 256 → w.cell? ⟨T, j, none⟩ = some (.int .u64 ((Crc.tab j : Nat) : Int))) (hb : ReadsB w A n bs) :
    Calls Try.prog 16 #[.int .u64 (r : Int), .pointer (some ⟨T, 0, none⟩), .slice A n cap] w fun e w' => e = .returned (.int .u64 ((Crc.reg r bs : Nat) : Int)) ∧ w = w' := by
  obtain ⟨hlen, hby, hn, hc⟩ := hb
  have HC := Lib.hid hc
  have HT := Lib.hid hT
  have HL := Lib.hid hlen
  clear hc hT hlen
  go_enter Try.func16, Try.ntmps16
  go_wp2
  go_loopg [0, 11] n (fun g s0 s11 wx => ∃ k : Nat, k + g = n ∧ s11 = .int .i64 k ∧ s0 = .int .u64 ((Crc.reg r (bs.take k) : Nat) : Int) ∧ wx = w)
  case atStart => exact ⟨0, by omega, rfl, rfl, rfl⟩
  case round =>
    obtain ⟨k, hk, rfl, rfl, rfl⟩ := hrel
    cases gk with
    | zero =>
      have hge : ¬ ((k : Int) < (n : Int)) := by omega
      have hk' : k = n := by omega
      have hl := HL.out
      have e : bs.take k = bs := List.take_of_length_le (by omega)
      rw [e]
      clear e hl hk'
      go_wp2
      go_ret
      exact ⟨rfl, rfl⟩
    | succ g =>
      have hlt : (k : Int) < (n : Int) := by omega
      obtain ⟨ad, rfl, _, hcell⟩ := HC.out k (by omega)
      have hx : bs.getD k 0 < 256 := by
        rw [List.getD_eq_getElem?_getD, List.getElem?_eq_getElem (by have := HL.out; omega)]
        exact hby _ (List.getElem_mem _)
      have hR := Crc.reg_lt r (bs.take k) (fun y hy => hby y (List.mem_of_mem_take hy)) hr
      have hsn : Crc.reg r (bs.take (k + 1)) = Crc.upd (Crc.reg r (bs.take k)) (bs.getD k 0) := by
        rw [List.take_succ_eq_append_getElem (by have := HL.out; omega), Crc.reg_snoc, List.getD_eq_getElem?_getD, List.getElem?_eq_getElem (by have := HL.out; omega)]
        rfl
      have HS := Lib.hid hsn
      clear hsn
      generalize bs.getD k 0 = x at *
      generalize hRR : Crc.reg r (bs.take k) = R at *
      clear hRR
      have hcT := HT.out (R % 256 ^^^ x) (Crc.idx_lt R x hx)
      have hjl : ((R % 256 ^^^ x : Nat) : Int) < 256 := by have := Crc.idx_lt R x hx; omega
      have hix := Crc.idx_walk R x hx
      have HU := Lib.hid (Crc.upd_walk R x hR hx)
      generalize (R % 256 ^^^ x) = j at *
      go_wp2
      go_roundg g
      case measure => omega
      case rel => exact ⟨k + 1, by omega, by go_num, by rw [HS.out, HU.out], rfl⟩
theorem ReadsB.more {w w' : World} {A : Option Addr} {n : Nat} {bs : List Nat} (h : ReadsB w A n bs) (hb : Below w.heap.size w w') : ReadsB w' A n bs :=
  ⟨h.1, h.2.1, h.2.2.1, fun k hk => by
    obtain ⟨ad, e, hlt, hc⟩ := h.2.2.2 k hk
    have hblk : (ad.add k).block = ad.block := by unfold Addr.add; split <;> rfl
    exact ⟨ad, e, Nat.lt_of_lt_of_le hlt hb.size, (hb.cell (by rw [hblk]; exact hlt)).trans hc⟩⟩
theorem ReadsB.nil (w : World) : ReadsB w none 0 [] := ⟨rfl, fun _ h => by simp at h, by omega, fun k hk => by omega⟩

set_option maxHeartbeats 1000000 in
set_option maxRecDepth 100000 in
theorem extend_x (s n cap : Nat) (A : Option Addr) (bs : List Nat) (w : World) (hs : s < 18446744073709551616) (hb : ReadsB w A n bs) :
    Calls Try.prog 11 #[.int .u64 (s : Int), .slice A n cap] w fun e w' => e = .returned (.int .u64 ((Crc.ext s bs : Nat) : Int)) ∧ Below w.heap.size w w' := by
  obtain ⟨hz, hi⟩ := zero_of_info info36
  rw [show Array.replicate 256 (Value.int .u64 0) = tcells 0 from rfl] at hz
  have hi' : ∀ k, (Try.prog.info? 36).map (·.size) = some (tcells k).size := fun k => by rw [tcells_size]; exact hi
  have hn := Crc.not_walk s hs
  have hn2 := Crc.not_walk (Crc.reg (Crc.nt s) bs) (Crc.reg_lt _ _ hb.2.1 (Crc.nt_lt s))
  clear hi
  have hT : ∀ j : Nat, j < 256 → (((w.alloc (.cells (tcells 256) 36)).alloc (.cells (tcells 256) 36)).cell? ⟨w.heap.size + 1, j, none⟩ = some (.int .u64 ((Crc.tab j : Nat) : Int))) := fun j hj => by
    rw [World.cell?_alloc_at _ _ _ _ (by simp), tcells_at 256 j hj, if_pos hj]
  have HT := Lib.hid hT
  have HB := Lib.hid (hb.more (((Below.refl _ w).alloc (Nat.le_refl _) (.cells (tcells 256) 36)).alloc (by simp) (.cells (tcells 256) 36)))
  clear hT hb
  go_enter Try.func11, Try.ntmps11
  go_wp2_with (first
    | (go_at_call 15; refine (table_x _).mono ?_; rintro e w' ⟨rfl, rfl⟩)
    | (refine wpList_store_new rfl 36 _ _ rfl (w.alloc (.cells (tcells 256) 36)) (w.heap.size + 1) (by simp) (tcells 0) (tcells 256) rfl rfl (hi' 256) (by rw [tcells_size, tcells_size]) (tcells_one 256) ?_)
    | fail)
  refine (add_x (Crc.nt s) (w.heap.size + 1) n cap A bs _ (Crc.nt_lt s) HT.out HB.out).mono ?_
  rintro e w' ⟨rfl, rfl⟩
  go_wp2
  go_ret
  exact ⟨rfl, ((Below.refl _ w).alloc (Nat.le_refl _) _).alloc (by simp) _⟩

theorem ext_nil (s : Nat) (hs : s < 18446744073709551616) : Crc.ext s [] = s := Crc.nt_nt s hs

set_option maxHeartbeats 1000000 in
theorem bytes_x (n cap : Nat) (A : Option Addr) (bs : List Nat) (w : World) (hb : ReadsB w A n bs) :
    Calls Try.prog 8 #[.slice A n cap] w fun e w' => e = .returned (.int .u64 ((Crc.ext 0 bs : Nat) : Int)) ∧ Below w.heap.size w w' := by
  have HB := Lib.hid hb
  clear hb
  go_enter Try.func8, Try.ntmps8
  go_wp2_with (go_at_call 11; refine (extend_x 0 n cap A bs _ (by omega) HB.out).mono ?_; rintro e w' ⟨rfl, hw⟩)
  go_ret
  exact ⟨rfl, hw⟩
end Go.Proofs.Ythdbjnlgcbmocaa
