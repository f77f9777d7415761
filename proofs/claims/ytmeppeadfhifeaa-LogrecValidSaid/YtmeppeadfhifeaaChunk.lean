/- slices.Chunk over words, nine at a time: the iterator's contract. Conditions: the slice's length is a multiple of nine. -/
import Derived.RangeFuncNested
import Derived.RangeFuncBound
import Derived.RangeFuncCalls
import Derived.RangeFuncLeaves
import Derived.Shelf.Abstract
import Derived.Shelf.RegionOpen
import Derived.WalkKit
import Derived.OwnWalkIn
import Derived.TacticsInMore
import Derived.LoopNIn
import Derived.LoopIn
import Derived.RegionIn
import Derived.Test.YtmeppeadfhifeaaPage
namespace Go.Proofs.Ytmeppeadfhifeaa
open Go.RowKit Go.Shelf
set_option linter.unusedVariables false
set_option linter.unusedSimpArgs false

/-- The two blocks lie as they lay. -/
def Keep2 (B1 B2 : Nat) (W W' : World) : Prop := W'.heap[B1]? = W.heap[B1]? ∧ W'.heap[B2]? = W.heap[B2]?
theorem Keep2.refl (B1 B2 : Nat) (W : World) : Keep2 B1 B2 W W := ⟨rfl, rfl⟩
theorem Keep2.trans {B1 B2 : Nat} {A B C : World} (h : Keep2 B1 B2 A B) (k : Keep2 B1 B2 B C) : Keep2 B1 B2 A C := ⟨k.1.trans h.1, k.2.trans h.2⟩
theorem Keep2.c1 {B1 B2 : Nat} {W W' : World} (h : Keep2 B1 B2 W W') : W'.cell? ⟨B1, 0, none⟩ = W.cell? ⟨B1, 0, none⟩ := World.cell?_of_block h.1
theorem Keep2.c2 {B1 B2 : Nat} {W W' : World} (h : Keep2 B1 B2 W W') : W'.cell? ⟨B2, 0, none⟩ = W.cell? ⟨B2, 0, none⟩ := World.cell?_of_block h.2
theorem Keep2.of_below {B1 B2 B : Nat} {W W' : World} (h : Below B W W') (h1 : B1 < B) (h2 : B2 < B) : Keep2 B1 B2 W W' := ⟨h.block _ h1, h.block _ h2⟩

def chunkV (b o m : Nat) (k : Nat) : Array Value := #[.slice (some ⟨b, o + min k (m - 1) * 9, none⟩) 9 9]

set_option maxRecDepth 100000 in
set_option maxHeartbeats 4000000 in
theorem chunk1_in (n : Nat) (hn : 1 ≤ n) (l B1 B2 b o m cap : Nat) (hm : m ≤ 12) (hcap : m * 9 ≤ cap) (J Jx : List Nat → World → Prop) (W : World) (hJ : AbidesFrom W.heap.size J)
    (hY : ∀ pre x W1, J pre W1 → pre.length < m → YieldAt Fence.wide (n - 1) Try.prog l (chunkV b o m x) W1 fun e W' =>
      (e = .returned (.bool true) ∧ J (pre ++ [x]) W' ∧ Keep2 B1 B2 W1 W') ∨ (e = .returned (.bool false) ∧ Jx (pre ++ [x]) W'))
    (h1 : W.cell? ⟨B1, 0, none⟩ = some (.slice (some ⟨b, o, none⟩) (m * 9) cap)) (h2 : W.cell? ⟨B2, 0, none⟩ = some (.int .i64 9)) (h0 : J [] W) :
    CallsIn Fence.wide n Try.prog 60 #[.func (.yield l) #[] #[], .pointer (some ⟨B1, 0, none⟩), .pointer (some ⟨B2, 0, none⟩)] W fun e W' => (∃ v, e = .returned v) ∧
      ((∃ ys, ys = List.range m ∧ J ys W') ∨ (∃ pre, (∃ k, k ≤ m ∧ pre = List.range k) ∧ Jx pre W')) := by
  refine callsIn_of_wp Try.func60 rfl trivial ?_ rfl
  simp only [Try.ntmps60, List.size_toArray, List.length_cons, List.length_nil, Nat.reduceAdd, Nat.reduceSub, Array.replicate_succ, Array.replicate_zero, List.push_toArray, List.append_toArray, List.nil_append, List.cons_append]
  gi_wp2
  gi_loopw [4, 5] (fun i _ wr => ∃ k : Nat, k ≤ m ∧ i = .int .i64 ((k * 9 : Nat) : Int) ∧ J (List.range k) wr ∧ Keep2 B1 B2 W wr)
    (fun i _ _ => m * 9 - (intOf i).toNat)
  case atStart => exact ⟨0, Nat.zero_le _, rfl, h0, Keep2.refl _ _ _⟩
  case round =>
    obtain ⟨k, hk, rfl, hJs, hnx⟩ := hrel
    have c1 := hnx.c1.trans h1
    have c2 := hnx.c2.trans h2
    by_cases hlt : k < m
    · have t1 : ((k * 9 : Nat) : Int) < ((m * 9 : Nat) : Int) := by omega
      have t2 : ¬ (((m * 9 - k * 9 : Nat) : Int) < 9) := by omega
      have t3 : ((k * 9 : Nat) : Int) ≤ ((m * 9 : Nat) : Int) := by omega
      have t4 : (0 : Int) ≤ ((k * 9 : Nat) : Int) := by omega
      gi_wp2
      refine wpIn_wide.2 ?_
      try simp only [Act.put]
      go_big_quiet (fail)
      have hJd : J (List.range k) (wr.drewN nq) := hJ _ _ _ none hJs ⟨rfl, rfl, rfl, Nat.le_refl _, fun _ _ _ => rfl⟩ (fun r e => by cases e)
      obtain ⟨fn, tmps, assign, body, hy, hR⟩ := hY _ k (wr.drewN nq) hJd (by rw [List.length_range]; exact hlt)
      dsimp only [chunkV] at hy
      rw [show min k (m - 1) = k by omega] at hy
      have c1d : (wr.drewN nq).cell? ⟨B1, 0, none⟩ = some (.slice (some ⟨b, o, none⟩) (m * 9) cap) := c1
      have c2d : (wr.drewN nq).cell? ⟨B2, 0, none⟩ = some (.int .i64 9) := c2
      have hc9 : k * 9 + 9 - k * 9 = 9 := by omega
      gi_wp2
      refine hR.mono ?_
      rintro e W3 (⟨rfl, hJ3, hk3⟩ | ⟨rfl, hJx3⟩)
      · have d2 := hk3.c2.trans c2d
        have hnd : Keep2 B1 B2 W (wr.drewN nq) := hnx
        gi_wp2
        go_roundw
        case rel => exact ⟨k + 1, by omega, by simp; omega, by rw [List.range_succ]; exact hJ3, hnd.trans hk3⟩
        case measure => simp [intOf]; omega
      · gi_wp2
        refine bodyPost_ret (results_none rfl _ _ _) rfl ?_
        exact ⟨⟨_, rfl⟩, .inr ⟨_, ⟨k + 1, by omega, List.range_succ.symm⟩, hJx3⟩⟩
    · obtain rfl : k = m := by omega
      gi_wp2
      go_end0
      exact ⟨⟨_, rfl⟩, .inl ⟨_, rfl, hJs⟩⟩

set_option maxRecDepth 100000 in
set_option maxHeartbeats 1000000 in
theorem chunk1_nil_in (n : Nat) (l B1 B2 cap : Nat) (A : Option Addr) (J : List Nat → World → Prop) (W : World) (h1 : W.cell? ⟨B1, 0, none⟩ = some (.slice A 0 cap)) (h0 : J [] W) :
    CallsIn Fence.wide n Try.prog 60 #[.func (.yield l) #[] #[], .pointer (some ⟨B1, 0, none⟩), .pointer (some ⟨B2, 0, none⟩)] W fun e W' => (∃ v, e = .returned v) ∧ J [] W' := by
  refine callsIn_of_wp Try.func60 rfl trivial ?_ rfl
  simp only [Try.ntmps60, List.size_toArray, List.length_cons, List.length_nil, Nat.reduceAdd, Nat.reduceSub, Array.replicate_succ, Array.replicate_zero, List.push_toArray, List.append_toArray, List.nil_append, List.cons_append]
  gi_wp2
  gi_loopw [4] (fun i wr => i = .int .i64 0 ∧ J [] wr ∧ wr.cell? ⟨B1, 0, none⟩ = some (.slice A 0 cap)) (fun _ _ => 0)
  case atStart => exact ⟨rfl, h0, h1⟩
  case round =>
    obtain ⟨rfl, hJs, hc⟩ := hrel
    gi_wp2
    go_end0
    exact ⟨⟨_, rfl⟩, hJs⟩

def ChunkS (b o m : Nat) (sv : Value) : Prop := (m = 0 ∧ ∃ A cap, sv = .slice A 0 cap) ∨ ∃ cap, m * 9 ≤ cap ∧ sv = .slice (some ⟨b, o, none⟩) (m * 9) cap

theorem chunk_stops (n : Nat) (hn : 1 ≤ n) (B1 B2 b o m : Nat) (hm : m ≤ 12) (sv : Value) (hs : ChunkS b o m sv) (w : World) (hB1 : B1 < w.heap.size) (hB2 : B2 < w.heap.size)
    (h1 : w.cell? ⟨B1, 0, none⟩ = some sv) (h2 : w.cell? ⟨B2, 0, none⟩ = some (.int .i64 9)) :
    SeqStopsK Fence.wide n Try.prog 60 #[.pointer (some ⟨B1, 0, none⟩), .pointer (some ⟨B2, 0, none⟩)] (chunkV b o m) (Keep2 B1 B2) (fun ys => ys = List.range m) (fun pre => ∃ k, k ≤ m ∧ pre = List.range k) m w := fun l J Jx W hW hJ _ hY h0 => by
  have h1' := (hW.cell (p := ⟨B1, 0, none⟩) hB1).trans h1
  have h2' := (hW.cell (p := ⟨B2, 0, none⟩) hB2).trans h2
  rcases hs with ⟨rfl, A, cap, rfl⟩ | ⟨cap, hcap, rfl⟩
  · exact (chunk1_nil_in n l B1 B2 cap A J W h1' h0).mono fun e W' ⟨he, hj⟩ => ⟨he, .inl ⟨_, rfl, hj⟩⟩
  · exact chunk1_in n hn l B1 B2 b o m cap hm hcap J Jx W hJ hY h1' h2' h0

set_option maxHeartbeats 1000000 in
theorem chunk_x (sv : Value) (A : Option Addr) (len cap : Nat) (hs : sv = .slice A len cap) (w : World) :
    Calls Try.prog 48 #[sv, .int .i64 9] w fun e w' => e = .returned (.func (.func 60) #[] #[.pointer (some ⟨w.heap.size, 0, none⟩), .pointer (some ⟨w.heap.size + 1, 0, none⟩)]) ∧ w' = (w.alloc (.cells #[sv] 24)).alloc (.cells #[.int .i64 9] 3) := by
  subst hs
  go_enter Try.func48, Try.ntmps48
  go_wp2
  go_ret
  exact ⟨rfl, rfl⟩
end Go.Proofs.Ytmeppeadfhifeaa
