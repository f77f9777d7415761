/- The hand-made record. Conditions: a number of lines from 97 to 1000; the slice reads as numbers. -/
import Derived.Test.YtmeppeadfhifeaaPages
namespace Go.Proofs.Ytmeppeadfhifeaa
open Go.RowKit Go.Shelf
set_option linter.unusedVariables false
set_option linter.unusedSimpArgs false

def RecH (l : Int) (w : World) (e : Ending) (w' : World) : Prop :=
  (∃ (s : Int) (ps : List Pg) (A' : Option Addr) (c : Nat), e = .returned (.agg #[.int .i64 s, .slice A' ps.length c]) ∧ 1 ≤ s ∧ s ≤ 1000 ∧ 1 ≤ ps.length ∧ Good l ps ∧ ps.length ≤ c ∧ ReadsP w' A' ps.length ps) ∧ Below w.heap.size w w'
theorem reads_one {w : World} {p : Pg} (hp : p.ok) : ReadsP (w.alloc (.cells p.cells 49)) (some ⟨w.heap.size, 0, none⟩) 1 [p] := by
  refine ⟨rfl, by omega, fun q hq => by simp at hq; subst hq; exact hp, fun k hk => ⟨w.heap.size, 0, rfl, by simp, fun q hq j v hv => ?_⟩⟩
  obtain rfl : k = 0 := by omega
  simp at hq
  subst hq
  have := World.news_of_block (heap_alloc_new w (.cells p.cells 49)) j v (by simpa using hv)
  rw [show (⟨w.heap.size, 0, none⟩ : Addr).add j = ⟨w.heap.size, j, none⟩ by unfold Addr.add; split <;> simp_all] at this
  simpa using this

theorem reads_set {w : World} {A : Option Addr} {n : Nat} {ps : List Pg} (h : ReadsP w A n ps) (g i : Nat) (t : TypeId) (a b u : Value) (hg : w.heap[g]? = some (.cells #[a, b] t (0, 0))) : ReadsP (w.setCell ⟨g, i, none⟩ u) A n ps := by
  have hsz : (w.setCell ⟨g, i, none⟩ u).heap.size = w.heap.size := by simp [World.setCell]
  refine h.apart (by omega) (fun x y v hx hy hc => ?_)
  have h1 : x ≠ g := by
    intro e; subst e
    rw [World.cell?, hg] at hc
    simp at hc
    have := (List.getElem?_eq_some_iff.1 hc).1
    simp at this; omega
  exact Below.heap_setCell _ _ _ _ (by simpa using h1)

set_option maxRecDepth 100000 in
set_option maxHeartbeats 4000000 in
theorem hrecord_x (seq l : Int) (n cap : Nat) (A : Option Addr) (xs : List Int) (w : World) (h1 : 97 ≤ l) (h2 : l ≤ 1000) (hr : ReadsI w A n xs) (hs : -9223372036854775808 ≤ seq ∧ seq ≤ 9223372036854775807) :
    Calls Try.prog 9 #[.int .i64 seq, .slice A n cap, .int .i64 l] w (RecH l w) := by
  have hm0 := Int.emod_nonneg seq (show (1000 : Int) ≠ 0 by omega)
  have hm1 := Int.emod_lt_of_pos seq (show (0 : Int) < 1000 by omega)
  have hpk := fun W => pick_x seq 1000 W (by omega) (by omega) hs
  have hb0 : Below w.heap.size w (w.alloc (.cells #[.int .i64 0, .slice none 0 0] 27)) := (Below.refl _ w).alloc (Nat.le_refl _) _
  have hpgs := hpages_x l n cap A xs _ h1 h2 (hr.more hb0)
  have hpg := fun W => hpage_x seq l W h1 h2 hs
  have HPOK := Lib.hid (good_hpage seq l h1 h2)
  generalize hpage seq l = p at hpg HPOK
  generalize seq % 1000 = s0 at *
  have HPK := Lib.hid hpk
  have HPGS := Lib.hid hpgs
  unfold Pg.cells at hpg
  have HPG := Lib.hid hpg
  have HB0 := Lib.hid hb0
  clear hpk hpgs hpg hb0 hr
  have s27 : (Try.prog.info? 27).map (·.size) = some (#[.int .i64 0, .slice none 0 0] : Array Value).size := by rw [size27]; rfl
  go_enter Try.func9, Try.ntmps9
  go_wp2_with (first
    | (go_at_call 12; refine (HPK.out _).mono ?_; rintro e w' ⟨rfl, rfl⟩)
    | fail)
  go_at_call 34
  refine HPGS.out.mono ?_
  rintro e w3 ⟨⟨v, ps, rfl, ho, hg, hnil⟩, hb3⟩
  obtain ⟨A3, c3, rfl, hrp⟩ := own_readsP ho (fun p hp => (hg.2.2 p hp).1) (by have := hg.2.1; omega)
  have hcap := own_cap ho
  have HRP := Lib.hid hrp
  have HGd := Lib.hid hg
  have hsz3 : w.heap.size + 1 ≤ w3.heap.size := by have := hb3.size; simp at this; omega
  have hz3 : ∀ o, (w3.alloc o).heap[w.heap.size]? = some (.cells #[.int .i64 0, .slice none 0 0] 27 (0, 0)) := fun o =>
    (Below.heap_alloc _ _ _ (by omega)).trans ((hb3.block _ (by simp)).trans (heap_alloc_new w _))
  have hbw3 : ∀ o, Below w.heap.size w (w3.alloc o) := fun o => (HB0.out.trans (hb3.mono HB0.out.size)).alloc (by omega) _
  have HZ3 := Lib.hid hz3
  have HBW3 := Lib.hid hbw3
  by_cases hps : ps = []
  · subst hps
    have hv := hnil rfl
    simp only [List.length_nil, Value.slice.injEq, true_and] at hv
    obtain ⟨rfl, rfl⟩ := hv
    clear hrp hg ho hnil hz3 hbw3 hcap HRP HGd
    simp only [List.length_nil]
    go_wp2_with fail
    go_at_call 29
    refine (HPG.out _).mono ?_
    rintro e w5 ⟨rfl, hb5⟩
    have hR5 : w5.heap[w3.heap.size]? = some (.cells #[.int .i64 (s0 + 1), .slice none 0 0] 27 (0, 0)) := (hb5.block _ (by simp)).trans (heap_alloc_new w3 _)
    have hZ5 : w5.heap[w.heap.size]? = some (.cells #[.int .i64 0, .slice none 0 0] 27 (0, 0)) := (hb5.block _ (by simp; omega)).trans (HZ3.out _)
    have hbw5 : Below w.heap.size w w5 := (HBW3.out _).trans (hb5.mono (HBW3.out _).size)
    have hs5 : w3.heap.size + 1 ≤ w5.heap.size := by have := hb5.size; simpa using this
    have hR6 : (w5.alloc (.cells #[.int .i64 p.line, .int .u64 (p.head : Int), .int .u64 (p.d 0 : Int), .int .u64 (p.d 1 : Int), .int .u64 (p.d 2 : Int), .int .u64 (p.d 3 : Int), .int .u64 (p.d 4 : Int), .int .u64 (p.d 5 : Int), .int .u64 (p.d 6 : Int)] 49)).heap[w3.heap.size]? = some (.cells #[.int .i64 (s0 + 1), .slice none 0 0] 27 (0, 0)) := (Below.heap_alloc _ _ _ (by omega)).trans hR5
    have hZ6 : (w5.alloc (.cells #[.int .i64 p.line, .int .u64 (p.head : Int), .int .u64 (p.d 0 : Int), .int .u64 (p.d 1 : Int), .int .u64 (p.d 2 : Int), .int .u64 (p.d 3 : Int), .int .u64 (p.d 4 : Int), .int .u64 (p.d 5 : Int), .int .u64 (p.d 6 : Int)] 49)).heap[w.heap.size]? = some (.cells #[.int .i64 0, .slice none 0 0] 27 (0, 0)) := (Below.heap_alloc _ _ _ (by omega)).trans hZ5
    have hbw6 : Below w.heap.size w (w5.alloc (.cells #[.int .i64 p.line, .int .u64 (p.head : Int), .int .u64 (p.d 0 : Int), .int .u64 (p.d 1 : Int), .int .u64 (p.d 2 : Int), .int .u64 (p.d 3 : Int), .int .u64 (p.d 4 : Int), .int .u64 (p.d 5 : Int), .int .u64 (p.d 6 : Int)] 49)) := hbw5.alloc hbw5.size _
    have hr6 : ReadsP (w5.alloc (.cells #[.int .i64 p.line, .int .u64 (p.head : Int), .int .u64 (p.d 0 : Int), .int .u64 (p.d 1 : Int), .int .u64 (p.d 2 : Int), .int .u64 (p.d 3 : Int), .int .u64 (p.d 4 : Int), .int .u64 (p.d 5 : Int), .int .u64 (p.d 6 : Int)] 49)) (some ⟨w5.heap.size, 0, none⟩) 1 [p] := reads_one (w := w5) HPOK.out.1
    have hsz6 : (w5.alloc (.cells #[.int .i64 p.line, .int .u64 (p.head : Int), .int .u64 (p.d 0 : Int), .int .u64 (p.d 1 : Int), .int .u64 (p.d 2 : Int), .int .u64 (p.d 3 : Int), .int .u64 (p.d 4 : Int), .int .u64 (p.d 5 : Int), .int .u64 (p.d 6 : Int)] 49)).heap.size = w5.heap.size + 1 := World.size_alloc _ _
    have c61 : (w5.alloc (.cells #[.int .i64 p.line, .int .u64 (p.head : Int), .int .u64 (p.d 0 : Int), .int .u64 (p.d 1 : Int), .int .u64 (p.d 2 : Int), .int .u64 (p.d 3 : Int), .int .u64 (p.d 4 : Int), .int .u64 (p.d 5 : Int), .int .u64 (p.d 6 : Int)] 49)).cell? ⟨w3.heap.size, 1, none⟩ = some (.slice none 0 0) := by simp [World.cell?, hR6]
    have f61 : (w5.alloc (.cells #[.int .i64 p.line, .int .u64 (p.head : Int), .int .u64 (p.d 0 : Int), .int .u64 (p.d 1 : Int), .int .u64 (p.d 2 : Int), .int .u64 (p.d 3 : Int), .int .u64 (p.d 4 : Int), .int .u64 (p.d 5 : Int), .int .u64 (p.d 6 : Int)] 49)).frozen? ⟨w3.heap.size, 1, none⟩ = false := by simp [World.frozen?, hR6]
    have hne53 : w3.heap.size ≠ w5.heap.size := by omega
    have HR6 := Lib.hid hR6
    have HZ6 := Lib.hid hZ6
    have HBW6 := Lib.hid hbw6
    have HRD6 := Lib.hid hr6
    have HSZ6 := Lib.hid hsz6
    clear hR5 hZ5 hbw5 hb5 hR6 hZ6 hbw6 hr6 hsz6
    have hR7 := heap_setCell_same _ w3.heap.size 1 _ 27 (.slice (some ⟨w5.heap.size, 0, none⟩) 1 1) HR6.out
    have hZ7 := (Below.heap_setCell _ ⟨w3.heap.size, 1, none⟩ (.slice (some ⟨w5.heap.size, 0, none⟩) 1 1) w.heap.size (by simp; omega)).trans HZ6.out
    have hbw7 := HBW6.out.setCell (p := ⟨w3.heap.size, 1, none⟩) (by simp; omega) (.slice (some ⟨w5.heap.size, 0, none⟩) 1 1)
    have hr7 := reads_set (HRD6.out) w3.heap.size 1 27 _ _ (.slice (some ⟨w5.heap.size, 0, none⟩) 1 1) HR6.out
    have HR7 := Lib.hid hR7
    have HZ7 := Lib.hid hZ7
    have HBW7 := Lib.hid hbw7
    have HRD7 := Lib.hid hr7
    clear hR7 hZ7 hbw7 hr7
    go_wp2_with (first
      | (refine wpList_load_row rfl 27 _ rfl w3.heap.size rfl 27 #[.int .i64 (s0 + 1), .slice (some ⟨w5.heap.size, 0, none⟩) 1 1] (0, 0) _ HR7.out Try.underlying27 rfl s27 ?_)
      | (refine wpList_store_row rfl 27 _ _ rfl w.heap.size #[.int .i64 (s0 + 1), .slice (some ⟨w5.heap.size, 0, none⟩) 1 1] rfl rfl 27 _ HZ7.out s27 rfl (ones_rec _ _ _ _) ?_)
      | fail)
    exact bodyPost_ret (v := .agg #[.int .i64 (s0 + 1), .slice (some ⟨w5.heap.size, 0, none⟩) 1 1]) (results_cell_row rfl _ _ w.heap.size 27 #[.int .i64 (s0 + 1), .slice (some ⟨w5.heap.size, 0, none⟩) 1 1] (0, 0) _ (by rfl) (setRow_heap _ _ _ _ _ _ HZ7.out) Try.underlying27 rfl s27) rfl
      ⟨⟨s0 + 1, [p], some ⟨w5.heap.size, 0, none⟩, 1, rfl, by omega, by omega, by simp, good_one l p HPOK.out, by simp, HRD7.out.row w.heap.size 27 _ _ _ HZ7.out⟩, below_setRow HBW7.out (Nat.le_refl _) _⟩
  · have hpos : 0 < ps.length := List.length_pos_iff.2 hps
    have hne : ((ps.length : Int) == 0) = false := by rw [beq_eq_false_iff_ne]; omega
    clear hrp hg ho hnil hz3 hbw3
    go_wp2_with (first
      | (refine wpList_store_row rfl 27 _ _ rfl w.heap.size #[.int .i64 (s0 + 1), .slice A3 ps.length c3] rfl rfl 27 _ (HZ3.out _) s27 rfl (ones_rec _ _ _ _) ?_)
      | fail)
    have HX := Lib.hid hcap
    exact bodyPost_ret (v := .agg #[.int .i64 (s0 + 1), .slice A3 ps.length c3]) (results_cell_row rfl _ _ w.heap.size 27 #[.int .i64 (s0 + 1), .slice A3 ps.length c3] (0, 0) _ (by rfl) (setRow_heap _ _ _ _ _ _ (HZ3.out _)) Try.underlying27 rfl s27) rfl
      ⟨⟨s0 + 1, ps, A3, c3, rfl, by omega, by omega, hpos, HGd.out, HX.out, (HRP.out.more ((Below.refl _ w3).alloc (Nat.le_refl _) _)).row w.heap.size 27 _ _ _ (HZ3.out _)⟩, below_setRow (HBW3.out _) (Nat.le_refl _) _⟩
end Go.Proofs.Ytmeppeadfhifeaa
