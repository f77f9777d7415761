/- logrec.page: the write whose words begin a row of nine. Conditions: the row reads as words. -/
import Derived.Test.YtmeppeadfhifeaaRefBody
import Derived.Laws.CopyOwn
namespace Go.Proofs.Ytmeppeadfhifeaa
open Go.RowKit
set_option linter.unusedVariables false
set_option linter.unusedSimpArgs false

def pgOf (ws : List Nat) : Pg := ⟨(min (ws.getD 0 0) 256 : Nat), ws.getD 1 0, fun j => ws.getD (2 + j) 0⟩

set_option maxRecDepth 100000 in
set_option maxHeartbeats 4000000 in
theorem page_x (ad : Addr) (c : Nat) (ws : List Nat) (w : World) (hw : ReadsW w (some ad) 9 ws) (hc : 9 ≤ c) :
    Calls Try.prog 49 #[.slice (some ad) 9 c] w fun e w' => e = .returned (.agg (pgOf ws).cells) ∧ Below w.heap.size w w' := by
  have hr : ∀ k, k < 9 → ad.block < w.heap.size ∧ w.cell? (ad.add k) = some (.int .u64 ((ws.getD k 0 : Nat) : Int)) ∧ ws.getD k 0 < 18446744073709551616 := by
    intro k hk
    obtain ⟨_, e, h⟩ := hw.2.2 k hk
    cases e; exact h
  have hbl := (hr 0 (by omega)).1
  obtain ⟨W1, hW1⟩ : ∃ W1, W1 = w.alloc (.cells #[.int .i64 0, .int .u64 0, .int .u64 0, .int .u64 0, .int .u64 0, .int .u64 0, .int .u64 0, .int .u64 0, .int .u64 0] 49) := ⟨_, rfl⟩
  have hb1 : Below w.heap.size w W1 := by rw [hW1]; exact (Below.refl _ w).alloc (Nat.le_refl _) _
  have c0 : W1.cell? (ad.add 0) = some (.int .u64 ((ws.getD 0 0 : Nat) : Int)) := (hb1.cell (by rw [block_add]; exact hbl)).trans (hr 0 (by omega)).2.1
  have c1 : W1.cell? (ad.add 1) = some (.int .u64 ((ws.getD 1 0 : Nat) : Int)) := (hb1.cell (by rw [block_add]; exact hbl)).trans (hr 1 (by omega)).2.1
  rw [Addr.add_zero'] at c0
  rw [show ad.add 1 = ⟨ad.block, ad.off + 1, none⟩ by simp [Addr.add]] at c1
  have HR := Lib.hid hr
  have HW := Lib.hid hW1
  clear hr hw hW1
  have n0 := World.new_ne W1 _ c0
  have n1 := World.new_ne W1 _ c1
  go_enter Try.func49, Try.ntmps49
  go_wp2_with fail
  rw [← HW.out]
  generalize hx0 : ws.getD 0 0 = x0 at *
  generalize hx1 : ws.getD 1 0 = x1 at *
  have HX0 := Lib.hid hx0
  have HX1 := Lib.hid hx1
  clear hx0 hx1
  go_region_held3 (fun w' => w'.cell? ad = some (.int .u64 (x0 : Int)) ∧ w'.cell? ⟨ad.block, ad.off + 1, none⟩ = some (.int .u64 (x1 : Int)))
    (go_keep)
    ((fail))
  all_goals
    have hx0b : x0 < 18446744073709551616 := by rw [← HX0.out]; exact (HR.out 0 (by omega)).2.2
    have hmin : (if (256 : Int) < (x0 : Int) then (256 : Int) else (x0 : Int)) = ((min x0 256 : Nat) : Int) := by split <;> omega
    rw [hmin]
    have hwr : IntKind.i64.wrap ((min x0 256 : Nat) : Int) = ((min x0 256 : Nat) : Int) := IntWalk.i64_in _ ⟨by omega, by omega⟩
    rw [hwr]
    have hmb : min x0 256 ≤ 256 := by omega
    have HM := Lib.hid (show min x0 256 = min x0 256 from rfl)
    clear hmin hwr hx0b
    generalize hm : min x0 256 = m at *
    have HMM := Lib.hid hm
    clear hm HM
    have hb2 : Below W1.heap.size W1 (W1.alloc (.cells #[.int .i64 (m : Int), .int .u64 (x1 : Int), .int .u64 0, .int .u64 0, .int .u64 0, .int .u64 0, .int .u64 0, .int .u64 0, .int .u64 0] 49)).drew := ((Below.refl _ W1).alloc (Nat.le_refl _) _).drew
    have hg2 : (W1.alloc (.cells #[.int .i64 (m : Int), .int .u64 (x1 : Int), .int .u64 0, .int .u64 0, .int .u64 0, .int .u64 0, .int .u64 0, .int .u64 0, .int .u64 0] 49)).drew.heap[W1.heap.size]? = some (.cells ([.int .i64 (m : Int), .int .u64 (x1 : Int), .int .u64 0, .int .u64 0, .int .u64 0, .int .u64 0, .int .u64 0, .int .u64 0, .int .u64 0] : List Value).toArray 49 (0, 0)) := heap_alloc_new W1 _
    generalize (W1.alloc (.cells #[.int .i64 (m : Int), .int .u64 (x1 : Int), .int .u64 0, .int .u64 0, .int .u64 0, .int .u64 0, .int .u64 0, .int .u64 0, .int .u64 0] 49)).drew = w2 at *
    have hsz1 : W1.heap.size = w.heap.size + 1 := by rw [HW.out]; simp
    have hsrc : ∀ j v, (dataC (pgOf ws))[j]? = some v → w2.drew.cell? ((⟨ad.block, ad.off + 2, none⟩ : Addr).add j) = some v := by
      intro j v hj
      have hj7 : j < 7 := by have := (List.getElem?_eq_some_iff.1 hj).1; exact this
      have h2 := (HR.out (2 + j) (by omega)).2.1
      have e : (⟨ad.block, ad.off + 2, none⟩ : Addr).add j = ad.add (2 + j) := by
        unfold Addr.add
        by_cases h2 : j = 0 <;> simp [h2, Nat.add_assoc]
      rw [e, hb2.drew.cell (by rw [block_add]; omega), hb1.cell (by rw [block_add]; exact hbl), h2]
      match j, hj7 with
      | 0, _ => exact hj
      | 1, _ => exact hj
      | 2, _ => exact hj
      | 3, _ => exact hj
      | 4, _ => exact hj
      | 5, _ => exact hj
      | 6, _ => exact hj
    have HSR := Lib.hid hsrc
    have HG2 := Lib.hid hg2
    clear hsrc hg2 c0 c1 n0 n1
    have z23 : (Try.prog.info? 23).map (·.size) = some 1 := by kernel_rfl
    have hcc : (2 : Int) < (c : Int) := by omega
    have hc2 : ¬ c = 2 := by omega
    have HS1 := Lib.hid hsz1
    clear hsz1
    go_wp2_with fail
    go_region_law (refine step_copy_splice rfl (.tmp 14) (.tmp 16) 24 24 rfl 23 Try.underlying24 z23 _ _ 7 7 7 (c - 2) rfl rfl W1.heap.size 2 _ 49 HG2.out (dataC (pgOf ws)) rfl (fun _ => ⟨rfl, ⟨ad.block, ad.off + 2, none⟩, rfl, HSR.out⟩) (Nat.le_refl 9) (dataC_one _) W1.heap.size W1 hb2.drew (Nat.le_refl _) ?_; intro w4 hg4 hb4)
    have hgf : w4.heap[W1.heap.size]? = some (.cells (pgOf ws).cells 49 (0, 0)) := by
      rw [hg4.out]
      congr 2
      unfold pgOf Pg.cells splice dataC
      rw [HX0.out, HX1.out, HMM.out]
      rfl
    have hz : W1.heap[w.heap.size]? = some (.cells #[.int .i64 0, .int .u64 0, .int .u64 0, .int .u64 0, .int .u64 0, .int .u64 0, .int .u64 0, .int .u64 0, .int .u64 0] 49 (0, 0)) := by
      rw [HW.out]; exact heap_alloc_new w _
    have hz4 : w4.heap[w.heap.size]? = some (.cells #[.int .i64 0, .int .u64 0, .int .u64 0, .int .u64 0, .int .u64 0, .int .u64 0, .int .u64 0, .int .u64 0, .int .u64 0] 49 (0, 0)) :=
      (hb4.block _ (by rw [HS1.out]; omega)).trans hz
    have HGF := Lib.hid hgf
    have HZ4 := Lib.hid hz4
    have hbw4 := hb1.trans (hb4.mono hb1.size)
    have hs9 : (Try.prog.info? 49).map (·.size) = some (pgOf ws).cells.size := by rw [size49]; rfl
    clear hgf hz4 hz hg4
    go_wp2_with (first
      | (refine wpList_load_row rfl 49 _ rfl W1.heap.size rfl 49 (pgOf ws).cells (0, 0) _ HGF.out Try.underlying49 rfl hs9 ?_)
      | (refine wpList_store_row rfl 49 _ _ rfl w.heap.size (pgOf ws).cells rfl rfl 49 _ HZ4.out hs9 rfl (cells_one _) ?_)
      | fail)
    refine bodyPost_ret (v := .agg (pgOf ws).cells) (results_cell_row rfl _ _ w.heap.size 49 (pgOf ws).cells (0, 0) _ rfl (setRow_heap w4 _ _ _ _ _ HZ4.out) Try.underlying49 rfl hs9) rfl ⟨rfl, below_setRow hbw4 (Nat.le_refl _) _⟩
end Go.Proofs.Ytmeppeadfhifeaa
