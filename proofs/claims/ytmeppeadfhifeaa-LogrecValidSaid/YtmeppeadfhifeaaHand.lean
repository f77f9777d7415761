/- The hand-made page. Conditions: a number of lines from 97 to 1000. -/
import Derived.Test.YtmeppeadfhifeaaParseRef
namespace Go.Proofs.Ytmeppeadfhifeaa
open Go.RowKit Go.Shelf
set_option linter.unusedVariables false
set_option linter.unusedSimpArgs false

set_option maxHeartbeats 1000000 in
theorem pick2_x (n k : Int) (w : World) (h1 : 1 ≤ k) (h2 : k ≤ 2000000) :
    Calls Try.prog 12 #[.int .i64 n, .int .i64 k] w fun e w' => e = .returned (.int .i64 (n % k)) ∧ w = w' := by
  have h3 := Int.tmod_lt_of_pos n (show 0 < k by omega)
  have h4 := Int.lt_tmod_of_pos n (show 0 < k by omega)
  have HM := Lib.hid (pick_mod n k)
  go_enter Try.func12, Try.ntmps12
  go_wp2
  go_ret
  exact ⟨by simp [HM.out], rfl⟩
/-- The page that the hand makes of a number. -/
def hpage (n l : Int) : Pg := ⟨96 + n % (l - 96), ((n.tdiv 64 % 4).toNat + 1) * 256, fun k => (n % 1048576).toNat * (k + 3)⟩
theorem hpage_ok (n l : Int) (h1 : 97 ≤ l) (h2 : l ≤ 1000) : (hpage n l).ok := by
  have a1 := Int.emod_nonneg n (show l - 96 ≠ 0 by omega)
  have a2 := Int.emod_lt_of_pos n (show 0 < l - 96 by omega)
  refine ⟨by unfold hpage; simp only; omega, by unfold hpage; simp only; omega, by unfold hpage; simp only; omega, fun k hk => ?_⟩
  unfold hpage
  simp only
  have h3 : (n % 1048576).toNat < 1048576 := by omega
  have : (n % 1048576).toNat * (k + 3) ≤ 1048576 * 10 := Nat.mul_le_mul (by omega) (by omega)
  omega

set_option maxRecDepth 100000 in
set_option maxHeartbeats 4000000 in
theorem hpage_x (n l : Int) (w : World) (h1 : 97 ≤ l) (h2 : l ≤ 1000) (hn : -9223372036854775808 ≤ n ∧ n ≤ 9223372036854775807) :
    Calls Try.prog 29 #[.int .i64 n, .int .i64 l] w fun e w' => e = .returned (.agg (hpage n l).cells) ∧ Below w.heap.size w w' := by
  obtain ⟨a, ha⟩ : ∃ a : Nat, n % (l - 96) = (a : Int) := ⟨(n % (l - 96)).toNat, (Int.toNat_of_nonneg (Int.emod_nonneg n (by omega))).symm⟩
  have ha2 : (a : Int) < l - 96 := by rw [← ha]; exact Int.emod_lt_of_pos n (by omega)
  obtain ⟨b, hb⟩ : ∃ b : Nat, n.tdiv 64 % 4 = (b : Int) := ⟨(n.tdiv 64 % 4).toNat, by omega⟩
  have hb2 : b < 4 := by omega
  obtain ⟨c, hc⟩ : ∃ c : Nat, n % 1048576 = (c : Int) := ⟨(n % 1048576).toNat, by omega⟩
  have hc2 : c < 1048576 := by omega
  have hp : hpage n l = ⟨96 + (a : Int), (b + 1) * 256, fun k => c * (k + 3)⟩ := by
    unfold hpage; rw [ha, hb, hc]; rfl
  rw [hp]
  obtain ⟨p, hpp⟩ : ∃ p : Pg, p = ⟨96 + (a : Int), (b + 1) * 256, fun k => c * (k + 3)⟩ := ⟨_, rfl⟩
  rw [← hpp]
  have hpl : p.line = 96 + (a : Int) := by rw [hpp]
  have hph : (p.head : Int) = ((b : Int) + 1) * 256 := by rw [hpp]; push_cast; rfl
  have hpd : ∀ j, p.d j = c * (j + 3) := fun j => by rw [hpp]
  have HPD := Lib.hid hpd
  have HPL := Lib.hid hpl
  have HPH := Lib.hid hph
  clear hpp hpl hph hpd
  have hq : ∀ W, Calls Try.prog 12 #[.int .i64 (n.tdiv 64), .int .i64 4] W fun e w' => e = .returned (.int .i64 (b : Int)) ∧ W = w' := fun W => by
    rw [← hb]; exact pick2_x _ _ W (by omega) (by omega)
  have ha' : ∀ W, Calls Try.prog 12 #[.int .i64 n, .int .i64 (l - 96)] W fun e w' => e = .returned (.int .i64 (a : Int)) ∧ W = w' := fun W => by
    rw [← ha]; exact pick2_x _ _ W (by omega) (by omega)
  have hc' : ∀ W, Calls Try.prog 12 #[.int .i64 n, .int .i64 1048576] W fun e w' => e = .returned (.int .i64 (c : Int)) ∧ W = w' := fun W => by
    rw [← hc]; exact pick2_x _ _ W (by omega) (by omega)
  have HA := Lib.hid ha'
  have HB := Lib.hid hq
  have HC := Lib.hid hc'
  clear ha hb hc hp ha' hq hc'
  obtain ⟨hn1, hn2⟩ := hn
  have ha3 : (a : Int) < 1000 := by omega
  go_enter Try.func29, Try.ntmps29
  go_wp2_with (first
    | (go_at_call 12; (with_reducible refine (HA.out _).mono ?_); rintro e w' ⟨rfl, rfl⟩)
    | (go_at_call 12; (with_reducible refine (HB.out _).mono ?_); rintro e w' ⟨rfl, rfl⟩)
    | fail)
  have hz : ((w.alloc (.cells #[.int .i64 0, .int .u64 0, .int .u64 0, .int .u64 0, .int .u64 0, .int .u64 0, .int .u64 0, .int .u64 0, .int .u64 0] 49)).alloc (.cells #[.int .i64 (96 + (a : Int)), .int .u64 (((b : Int) + 1) * 256), .int .u64 0, .int .u64 0, .int .u64 0, .int .u64 0, .int .u64 0, .int .u64 0, .int .u64 0] 49)).heap[w.heap.size]? = some (.cells #[.int .i64 0, .int .u64 0, .int .u64 0, .int .u64 0, .int .u64 0, .int .u64 0, .int .u64 0, .int .u64 0, .int .u64 0] 49 (0, 0)) :=
    (Below.heap_alloc _ _ _ (by simp)).trans (heap_alloc_new w _)
  have hg : ((w.alloc (.cells #[.int .i64 0, .int .u64 0, .int .u64 0, .int .u64 0, .int .u64 0, .int .u64 0, .int .u64 0, .int .u64 0, .int .u64 0] 49)).alloc (.cells #[.int .i64 (96 + (a : Int)), .int .u64 (((b : Int) + 1) * 256), .int .u64 0, .int .u64 0, .int .u64 0, .int .u64 0, .int .u64 0, .int .u64 0, .int .u64 0] 49)).heap[w.heap.size + 1]? = some (.cells (pgJ p 0).cells 49 (0, 0)) := by
    rw [pgJ_zero, HPL.out, HPH.out]
    have h := heap_alloc_new (w.alloc (.cells #[.int .i64 0, .int .u64 0, .int .u64 0, .int .u64 0, .int .u64 0, .int .u64 0, .int .u64 0, .int .u64 0, .int .u64 0] 49)) (.cells #[.int .i64 (96 + (a : Int)), .int .u64 (((b : Int) + 1) * 256), .int .u64 0, .int .u64 0, .int .u64 0, .int .u64 0, .int .u64 0, .int .u64 0, .int .u64 0] 49)
    rw [World.size_alloc] at h
    exact h
  have hbel : Below w.heap.size w ((w.alloc (.cells #[.int .i64 0, .int .u64 0, .int .u64 0, .int .u64 0, .int .u64 0, .int .u64 0, .int .u64 0, .int .u64 0, .int .u64 0] 49)).alloc (.cells #[.int .i64 (96 + (a : Int)), .int .u64 (((b : Int) + 1) * 256), .int .u64 0, .int .u64 0, .int .u64 0, .int .u64 0, .int .u64 0, .int .u64 0, .int .u64 0] 49)) := ((Below.refl _ w).alloc (Nat.le_refl _) _).alloc (by simp) _
  generalize (w.alloc (.cells #[.int .i64 0, .int .u64 0, .int .u64 0, .int .u64 0, .int .u64 0, .int .u64 0, .int .u64 0, .int .u64 0, .int .u64 0] 49)).alloc (.cells #[.int .i64 (96 + (a : Int)), .int .u64 (((b : Int) + 1) * 256), .int .u64 0, .int .u64 0, .int .u64 0, .int .u64 0, .int .u64 0, .int .u64 0, .int .u64 0] 49) = w2 at *
  go_loopg [6] 7 (fun g s6 wx => ∃ j : Nat, j + g = 7 ∧ s6 = .int .i64 j ∧ wx.heap[w.heap.size + 1]? = some (.cells (pgJ p j).cells 49 (0, 0)) ∧ wx.heap[w.heap.size]? = some (.cells #[.int .i64 0, .int .u64 0, .int .u64 0, .int .u64 0, .int .u64 0, .int .u64 0, .int .u64 0, .int .u64 0, .int .u64 0] 49 (0, 0)) ∧ Below w.heap.size w wx)
  case atStart => exact ⟨0, by omega, rfl, hg, hz, hbel⟩
  case round =>
    clear hg hz hbel
    obtain ⟨j, hj, rfl, hgj, hz, hbel⟩ := hrel
    have HG := Lib.hid hgj
    have HZ := Lib.hid hz
    clear hgj hz
    cases gk with
    | zero =>
      have hj7 : j = 7 := by omega
      have hge : ¬ ((j : Int) < 7) := by omega
      have hgf : wr.heap[w.heap.size + 1]? = some (.cells p.cells 49 (0, 0)) := by
        have h := HG.out
        rw [hj7, pgJ_seven] at h
        exact h
      have hs9 : (Try.prog.info? 49).map (·.size) = some p.cells.size := by rw [size49]; rfl
      have HGF := Lib.hid hgf
      clear hgf hj7
      go_wp2_with (first
        | (refine wpList_load_row rfl 49 _ rfl (w.heap.size + 1) rfl 49 p.cells (0, 0) _ HGF.out Try.underlying49 rfl hs9 ?_)
        | (refine wpList_store_row rfl 49 _ _ rfl w.heap.size p.cells rfl rfl 49 _ HZ.out hs9 rfl (cells_one p) ?_)
        | fail)
      exact bodyPost_ret (v := .agg p.cells) (results_cell_row rfl _ _ w.heap.size 49 p.cells (0, 0) _ rfl (setRow_heap _ _ _ _ _ _ HZ.out) Try.underlying49 rfl hs9) rfl ⟨rfl, below_setRow hbel (Nat.le_refl _) _⟩
    | succ g =>
      have hlt : (j : Int) < 7 := by omega
      obtain ⟨vj, hvj⟩ := pgJ_cell p j (by omega)
      have cj : wr.cell? ⟨w.heap.size + 1, 2 + j, none⟩ = some vj := by simp [World.cell?, HG.out, hvj]
      have fj : wr.frozen? ⟨w.heap.size + 1, 2 + j, none⟩ = false := by simp [World.frozen?, HG.out]
      have hcj : IntKind.u64.wrap ((c : Int) * ((j : Int) + 3)) = ((p.d j : Nat) : Int) := by
        rw [HPD.out, show ((c : Int) * ((j : Int) + 3)) = ((c * (j + 3) : Nat) : Int) by push_cast; rfl]
        have : c * (j + 3) ≤ 1048576 * 10 := Nat.mul_le_mul (by omega) (by omega)
        exact IntWalk.u64_in _ ⟨by omega, by omega⟩
      clear hvj
      go_wp2_with (first
        | (go_at_call 12; (with_reducible refine (HC.out _).mono ?_); rintro e w' ⟨rfl, rfl⟩)
        | fail)
      go_roundg g
      case measure => omega
      case rel =>
        refine ⟨j + 1, by omega, by go_num, ?_, (Below.heap_setCell _ _ _ _ (by simp)).trans HZ.out, hbel.setCell (p := ⟨w.heap.size + 1, 2 + j, none⟩) (by simp) _⟩
        rw [← pgJ_set p j (by omega)]
        exact heap_setCell_same wr (w.heap.size + 1) (2 + j) _ 49 _ HG.out
end Go.Proofs.Ytmeppeadfhifeaa
