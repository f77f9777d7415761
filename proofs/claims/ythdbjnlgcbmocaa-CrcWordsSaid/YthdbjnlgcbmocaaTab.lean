/- crc.table returns the table of the 256 registers that eight steps make of each byte. No condition. -/
import Derived.Test.YthdbjnlgcbmocaaProg
import Derived.Test.YthdbjnlgcbmocaaMath
import Derived.WalkKit
import Derived.WalkSpells
import Derived.WalkLawsBesides
import Derived.Deep.LoopGhost
import Derived.Deep.WholeRow
import Derived.Lib.Hide
namespace Go.Proofs.Ythdbjnlgcbmocaa
open Go.RowKit

/-- The table's cells when the first k are laid. -/
def tcells : Nat → Array Value
  | 0 => Array.replicate 256 (.int .u64 0)
  | k + 1 => (tcells k).setIfInBounds k (.int .u64 (Crc.tab k))
theorem tcells_size (k : Nat) : (tcells k).size = 256 := by
  induction k with
  | zero => simp [tcells]
  | succ k ih => simp [tcells, ih]
theorem tcells_at (k j : Nat) (h : j < 256) : (tcells k)[j]? = some (.int .u64 (if j < k then (Crc.tab j : Int) else 0)) := by
  induction k with
  | zero => simp [tcells, h]
  | succ k ih =>
    simp only [tcells, Array.getElem?_setIfInBounds, tcells_size]
    by_cases e : k = j
    · subst e; simp [h]
    · rw [if_neg e, ih]
      by_cases e2 : j < k
      · rw [if_pos e2, if_pos (by omega)]
      · rw [if_neg e2, if_neg (by omega)]
theorem tcells_one (k : Nat) : (tcells k).all (·.oneCell') = true := by
  refine Array.all_eq_true_iff_forall_mem.2 fun v hv => ?_
  obtain ⟨j, hj, rfl⟩ := Array.mem_iff_getElem.1 hv
  have h := tcells_at k j (by rw [tcells_size] at hj; exact hj)
  rw [Array.getElem?_eq_getElem hj] at h
  injection h with h
  rw [h]; rfl

theorem info36 : (Try.prog.info? 36).map (fun i => (i.zero, i.size)) = some (some (.agg (Array.replicate 256 (.int .u64 0))), 256) := by kernel_rfl

theorem wpList_store_new {P : Program} {ops : Array Oper} {rest : List Oper} {o : Oper} {a : Act} {Q : Exit → Act → World → Prop} (hgd : o.guard = none) (t : TypeId) (x y : Operand) (ho : o.op = .store t x y)
    (w : World) (g : Nat) (hgw : g = w.heap.size) (c c' : Array Value) (hx : a.eval x = .pointer (some ⟨g, 0, none⟩)) (hy : a.eval y = .agg c')
    (hi : (P.info? t).map (·.size) = some c'.size) (hs : c.size = c'.size) (h1 : c'.all (·.oneCell') = true)
    (h : wpList P ops Q rest (a.put o.dst undef) (w.alloc (.cells c' t))) : wpList P ops Q (o :: rest) a (w.alloc (.cells c t)) :=
  wpList_plain hgd fun _ hK => by
    subst hgw
    unfold Oper.wp execOp
    simp only [ho, hx, hy, Sem.run_bind, Sem.run_pure, Result.andThen_ok, run_storeAt_new w t c c' hi hs h1]
    exact hK _ _ h

set_option maxHeartbeats 1000000 in
set_option maxRecDepth 100000 in
theorem table_x (w : World) :
    Calls Try.prog 15 #[] w fun e w' => e = .returned (.agg (tcells 256)) ∧ w' = w.alloc (.cells (tcells 256) 36) := by
  obtain ⟨hz, hi⟩ := zero_of_info info36
  rw [show Array.replicate 256 (Value.int .u64 0) = tcells 0 from rfl] at hz
  go_enter Try.func15, Try.ntmps15
  go_wp2
  go_loopg [3] 256 (fun g s3 wx => ∃ k : Nat, k + g = 256 ∧ s3 = .int .i64 k ∧ wx = w.alloc (.cells (tcells k) 36))
  case atStart => exact ⟨0, by omega, rfl, rfl⟩
  case round =>
    obtain ⟨k, hk, rfl, rfl⟩ := hrel
    cases gk with
    | zero =>
      have hge : (256 : Int) ≤ (k : Int) := by omega
      have HK := Lib.hid hk
      clear hk
      have hi' : (Try.prog.info? 36).map (·.size) = some (tcells k).size := by rw [tcells_size]; exact hi
      clear hi hz
      go_wp2_with (first
        | (refine wpList_load_row rfl 36 _ rfl w.heap.size rfl 36 (tcells k) (0, 0) _ (heap_alloc_last w _) Try.underlying36 rfl hi' ?_)
        | (refine wpList_store_new rfl 36 _ _ rfl w _ rfl (tcells k) (tcells k) rfl rfl hi' rfl (tcells_one k) ?_))
      have hk : k = 256 := by have := HK.out; omega
      refine bodyPost_ret (v := .agg (tcells k)) (results_cell_row rfl _ _ w.heap.size 36 (tcells k) (0, 0) _ rfl (heap_alloc_last w _) Try.underlying36 rfl hi') rfl ⟨?_, ?_⟩
      · rw [hk]
      · rw [hk]
    | succ g =>
      have hlt : (k : Int) < 256 := by omega
      go_wp2
      go_loopg [2, 8] 8 (fun g2 r c wx => ∃ m : Nat, m + g2 = 8 ∧ c = .int .i64 m ∧ r = .int .u64 (Crc.stN m k : Nat) ∧ wx = w.alloc (.cells (tcells k) 36))
      case atStart => exact ⟨0, by omega, rfl, rfl, rfl⟩
      case round =>
        obtain ⟨m, hm, rfl, rfl, rfl⟩ := hrel
        cases gk with
        | zero =>
          obtain rfl : m = 8 := by omega
          have hcell := tcells_at k k (by omega)
          rw [if_neg (by omega)] at hcell
          go_wp2
          go_roundg g
          case measure => omega
          case rel => exact ⟨k + 1, by omega, by go_num, rfl⟩
        | succ g2 =>
          have hlt2 : (m : Int) < 8 := by omega
          have hr := Crc.stN_lt m k (by omega)
          by_cases hb : Crc.stN m k % 2 = 1
          · have ht := Crc.test_odd _ hr hb
            have HS := Lib.hid (Crc.st_odd _ hr hb)
            clear hb
            go_wp2
            go_roundg g2
            case measure => omega
            case rel => exact ⟨m + 1, by omega, by go_num, by rw [HS.out]; rfl, rfl⟩
          · have ht := Crc.test_even _ hr hb
            have HS := Lib.hid (Crc.st_even _ hb)
            clear hb
            go_wp2
            go_roundg g2
            case measure => omega
            case rel => exact ⟨m + 1, by omega, by go_num, by rw [HS.out]; rfl, rfl⟩
end Go.Proofs.Ythdbjnlgcbmocaa
