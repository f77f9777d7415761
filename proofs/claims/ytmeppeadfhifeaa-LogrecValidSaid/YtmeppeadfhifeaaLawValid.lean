/- The law LogrecValid walked: it returns true. Conditions: the slices read as rows of pages and numbers. -/
import Derived.Test.YtmeppeadfhifeaaLawLogs
import Derived.Deep.CutBlock
namespace Go.Proofs.Ytmeppeadfhifeaa
open Go.RowKit Go.Shelf
set_option linter.unusedVariables false
set_option linter.unusedSimpArgs false

theorem reads_pcells {w : World} {b o n : Nat} {ps : List Pg} (h : ReadsP w (some ⟨b, o, none⟩) n ps) : ∀ j u, (pcells ps)[j]? = some u → w.cell? ((⟨b, o, none⟩ : Addr).add j) = some u := by
  intro j u hj
  have hjl : j < 9 * ps.length := by
    have := (List.getElem?_eq_some_iff.1 hj).1
    rw [pcells_length] at this
    omega
  have hm : j = j / 9 * 9 + j % 9 := by omega
  have hk : j / 9 < ps.length := by omega
  have hi : j % 9 < 9 := by omega
  generalize j / 9 = k at hm hk
  generalize j % 9 = i at hm hi
  subst hm
  obtain ⟨p, hp⟩ := get_of_lt ps k hk
  rw [pcells_at ps k i p hp hi] at hj
  obtain ⟨b', o', e, _, hc⟩ := h.2.2.2 k (by have := h.1; omega)
  cases e
  rw [show (⟨b, o, none⟩ : Addr).add (k * 9 + i) = ⟨b, o + k * 9 + i, none⟩ by unfold Addr.add; split <;> simp_all [Nat.add_assoc]]
  exact hc p hp i u hj
theorem pcells_set (ps : List Pg) (k i : Nat) (p p' : Pg) (v : Value) (hp : ps[k]? = some p) (hi : i < 9) (hc : ∀ r, r < 9 → p'.cells[r]? = if r = i then some v else p.cells[r]?) : pcells (ps.set k p') = (pcells ps).set (k * 9 + i) v := by
  apply List.ext_getElem?
  intro m
  have hk : k < ps.length := (List.getElem?_eq_some_iff.1 hp).1
  by_cases hm : m < 9 * ps.length
  · have hq : m / 9 < ps.length := by omega
    have hr : m % 9 < 9 := by omega
    have he : m = m / 9 * 9 + m % 9 := by omega
    generalize m / 9 = a at he hq
    generalize m % 9 = r at he hr
    subst he
    obtain ⟨q, hq'⟩ := get_of_lt ps a hq
    by_cases hak : k = a
    · subst hak
      rw [hp] at hq'
      cases hq'
      rw [pcells_at (ps.set k p') k r p' (by simp [hk]) hr, hc r hr, List.getElem?_set]
      by_cases hri : r = i
      · subst hri
        rw [if_pos rfl, if_pos rfl, if_pos (by rw [pcells_length]; omega)]
      · rw [if_neg hri, if_neg (by omega), pcells_at ps k r p hp hr]
    · rw [pcells_at (ps.set k p') a r q (by rw [List.getElem?_set_ne hak]; exact hq') hr, List.getElem?_set_ne (by omega), pcells_at ps a r q hq' hr]
  · rw [List.getElem?_eq_none (by rw [pcells_length, List.length_set]; omega), List.getElem?_eq_none (by rw [List.length_set, pcells_length]; omega)]
theorem own_put {w : World} {base n c g j : Nat} {xs : List Value} (v : Value) (h : w.ownsRow base 49 9 (.slice (some ⟨g, 0, none⟩) n c) n xs) :
    (w.setCell ⟨g, j, none⟩ v).ownsRow base 49 9 (.slice (some ⟨g, 0, none⟩) n c) n (xs.set j v) := by
  refine ⟨by have := h.1; simpa using this, ?_⟩
  rcases h.2 with ⟨hv, _⟩ | ⟨g', cap, cur, hv, hb, hg, hnc, hcm, hcs, ht⟩
  · cases hv
  · cases hv
    refine .inr ⟨g, c, cur.setIfInBounds j v, rfl, hb, heap_setCell_same w g j cur 49 _ hg, hnc, hcm, by simpa using hcs, ?_⟩
    rw [Array.toList_setIfInBounds, List.take_set, ht]
theorem own_frozenP {w : World} {base n c g k : Nat} {xs : List Value} (h : w.ownsRow base 49 9 (.slice (some ⟨g, 0, none⟩) n c) n xs) : w.frozen? ⟨g, k, none⟩ = false := by
  rcases h.2 with ⟨hv, _⟩ | ⟨g', cap, cur, hv, _, hg, _⟩
  · cases hv
  · cases hv
    simp [World.frozen?, hg]
theorem own_pcell {w : World} {base n c g k i : Nat} {ps : List Pg} {p : Pg} (h : w.ownsRow base 49 9 (.slice (some ⟨g, 0, none⟩) n c) n (pcells ps)) (hp : ps[k]? = some p) (hi : i < 9) : w.cell? ⟨g, k * 9 + i, none⟩ = p.cells[i]? := by
  have hl : ps.length = n := by have := h.1; rw [pcells_length] at this; omega
  have hk : k < ps.length := (List.getElem?_eq_some_iff.1 hp).1
  rw [h.cellAt _ (by omega), pcells_at ps k i p hp hi]
/-- One cell of one page of the row is written: the row reads as pages again. -/
theorem put_reads {w : World} {base n c g k i : Nat} {ps : List Pg} {p : Pg} (p' : Pg) (v : Value) (h : w.ownsRow base 49 9 (.slice (some ⟨g, 0, none⟩) n c) n (pcells ps)) (hp : ps[k]? = some p) (hi : i < 9)
    (hc : ∀ r, r < 9 → p'.cells[r]? = if r = i then some v else p.cells[r]?) (hok : ∀ q ∈ ps, q.ok) (hok' : p'.ok) (hn : (n : Int) ≤ 1000000) :
    ReadsP (w.setCell ⟨g, k * 9 + i, none⟩ v) (some ⟨g, 0, none⟩) n (ps.set k p') := by
  have h1 := own_put (j := k * 9 + i) v h
  rw [← pcells_set ps k i p p' v hp hi hc] at h1
  obtain ⟨A, cap, e, hr⟩ := own_readsP h1 (fun q hq => by
    rcases List.mem_or_eq_of_mem_set hq with hq | rfl
    · exact hok q hq
    · exact hok') hn
  cases e
  exact hr
theorem below_ga {wq w2 : World} (hg : wq.drew.grownBy w2 none) (o : Obj) : Below wq.heap.size wq (w2.alloc o) := by
  have h : Below wq.heap.size wq w2 := ((Below.refl _ wq).drew).grown hg (Nat.le_refl _) (fun k e => by cases e)
  exact h.alloc h.size o
theorem below_gr2 {wq w2 : World} {o : Obj} (hg : (wq.alloc o).drew.grownBy w2 none) (u v : Value) : Below wq.heap.size wq ((w2.setCell ⟨wq.heap.size, 0, none⟩ u).setCell ⟨wq.heap.size, 1, none⟩ v) := by
  have h : Below wq.heap.size wq w2 := (((Below.refl _ wq).alloc (Nat.le_refl _) o).drew).grown hg (by simp) (fun k e => by cases e)
  exact (h.setCell (p := ⟨wq.heap.size, 0, none⟩) (Nat.le_refl _) u).setCell (p := ⟨wq.heap.size, 1, none⟩) (Nat.le_refl _) v
theorem zero_gr {wq w2 : World} {cs : Array Value} {t : TypeId} (hg : (wq.alloc (.cells cs t)).drew.grownBy w2 none) : w2.heap[wq.heap.size]? = some (.cells cs t (0, 0)) :=
  (hg.block _ (by simp) (by simp)).trans (show (wq.alloc (.cells cs t)).drew.heap[wq.heap.size]? = _ from heap_alloc_new wq _)
theorem zero_c0 {w : World} {g : Nat} {a b : Value} {t : TypeId} (h : w.heap[g]? = some (.cells #[a, b] t (0, 0))) : w.cell? ⟨g, 0, none⟩ = some a := by simp [World.cell?, h]
theorem zero_c1 {w : World} {g : Nat} {a b : Value} {t : TypeId} (u : Value) (h : w.heap[g]? = some (.cells #[a, b] t (0, 0))) : (w.setCell ⟨g, 0, none⟩ u).cell? ⟨g, 1, none⟩ = some b := by
  have h1 := heap_setCell_same w g 0 _ t u h
  simp [World.cell?, h1]
theorem zero_f0 {w : World} {g : Nat} {a b : Value} {t : TypeId} (h : w.heap[g]? = some (.cells #[a, b] t (0, 0))) : w.frozen? ⟨g, 0, none⟩ = false := by simp [World.frozen?, h]
theorem zero_f1 {w : World} {g : Nat} {a b : Value} {t : TypeId} (u : Value) (h : w.heap[g]? = some (.cells #[a, b] t (0, 0))) : (w.setCell ⟨g, 0, none⟩ u).frozen? ⟨g, 1, none⟩ = false := by
  have h1 := heap_setCell_same w g 0 _ t u h
  simp [World.frozen?, h1]
theorem own_aside {w : World} {base n c g b i : Nat} {xs : List Value} (v : Value) (h : w.ownsRow base 49 9 (.slice (some ⟨g, 0, none⟩) n c) n xs) (hne : b ≠ g) :
    (w.setCell ⟨b, i, none⟩ v).ownsRow base 49 9 (.slice (some ⟨g, 0, none⟩) n c) n xs := by
  refine ⟨h.1, ?_⟩
  rcases h.2 with ⟨hv, _⟩ | ⟨g', cap, cur, hv, hb, hg, hnc, hcm, hcs, ht⟩
  · cases hv
  · cases hv
    exact .inr ⟨g, c, cur, rfl, hb, (Below.heap_setCell _ _ _ _ (by simpa using Ne.symm hne)).trans hg, hnc, hcm, hcs, ht⟩
/-- The record d: a block of its own and a row of its own. -/
def DRow (s : Int) (k : Nat) (ps : List Pg) (wq : World) (v : Value) (wc : World) : Prop :=
  ∃ D g c : Nat, v = .pointer (some ⟨D, 0, none⟩) ∧ wc.heap[D]? = some (.cells #[.int .i64 s, .slice (some ⟨g, 0, none⟩) k c] 27 (0, 0)) ∧ wc.ownsRow wq.heap.size 49 9 (.slice (some ⟨g, 0, none⟩) k c) k (pcells ps) ∧
    wq.heap.size ≤ D ∧ wq.heap.size ≤ g ∧ D ≠ g ∧ Below wq.heap.size wq wc
theorem drow_a {wq w2 : World} {s : Int} {g c k : Nat} {ps : List Pg} (hg : wq.drew.grownBy w2 none) (ho : w2.ownsRow wq.heap.size 49 9 (.slice (some ⟨g, 0, none⟩) (0 + k) c) (0 + k) ([] ++ pcells ps)) (h1 : wq.heap.size ≤ g) (h2 : g < w2.heap.size) :
    DRow s k ps wq (.pointer (some ⟨w2.heap.size, 0, none⟩)) (w2.alloc (.cells #[.int .i64 s, .slice (some ⟨g, 0, none⟩) k c] 27)) := by
  have hb := below_ga hg (.cells #[.int .i64 s, .slice (some ⟨g, 0, none⟩) k c] 27)
  have hs : wq.heap.size ≤ w2.heap.size := by omega
  rw [Nat.zero_add, List.nil_append] at ho
  exact ⟨w2.heap.size, g, c, rfl, heap_alloc_new w2 _, own_below ho ((Below.refl _ w2).alloc (Nat.le_refl _) _), hs, h1, by omega, hb⟩
theorem drow_b {wq w2 : World} {s : Int} {g c k : Nat} {ps : List Pg} (hg : (wq.alloc (.cells #[.int .i64 0, .slice none 0 0] 27)).drew.grownBy w2 none) (ho : w2.ownsRow wq.heap.size 49 9 (.slice (some ⟨g, 0, none⟩) (0 + k) c) (0 + k) ([] ++ pcells ps)) (h1 : wq.heap.size ≤ g)
    (hbl : (Value.slice (some ⟨g, 0, none⟩) (0 + k) c).ownBlock = (Value.slice none 0 0).ownBlock ∨ (Value.slice (some ⟨g, 0, none⟩) (0 + k) c).ownBlock = some (wq.alloc (.cells #[.int .i64 0, .slice none 0 0] 27)).drew.heap.size) :
    DRow s k ps wq (.pointer (some ⟨wq.heap.size, 0, none⟩)) ((w2.setCell ⟨wq.heap.size, 0, none⟩ (.int .i64 s)).setCell ⟨wq.heap.size, 1, none⟩ (.slice (some ⟨g, 0, none⟩) k c)) := by
  have hb := below_gr2 hg (.int .i64 s) (.slice (some ⟨g, 0, none⟩) k c)
  have hne : wq.heap.size ≠ g := by
    rcases hbl with h | h
    · simp [Value.ownBlock] at h
    · simp [Value.ownBlock, World.drew] at h
      omega
  rw [Nat.zero_add, List.nil_append] at ho
  have hz := zero_gr hg
  exact ⟨wq.heap.size, g, c, rfl, heap_setCell_same _ _ 1 _ 27 _ (heap_setCell_same _ _ 0 _ 27 _ hz), own_aside _ (own_aside _ ho hne) hne, Nat.le_refl _, h1, hne, hb⟩
/-- What the record d is behind the switch: a record, whatever it holds. -/
def DSt (wq : World) (D : Nat) (wd : World) : Prop :=
  ∃ (s' : Int) (n' c' : Nat) (A' : Option Addr) (ps' : List Pg), wd.heap[D]? = some (.cells #[.int .i64 s', .slice A' n' c'] 27 (0, 0)) ∧ ReadsP wd A' n' ps' ∧ Below wq.heap.size wq wd
theorem own_reads' {w : World} {base n c g : Nat} {ps : List Pg} (h : w.ownsRow base 49 9 (.slice (some ⟨g, 0, none⟩) n c) n (pcells ps)) (hok : ∀ q ∈ ps, q.ok) (hn : (n : Int) ≤ 1000000) : ReadsP w (some ⟨g, 0, none⟩) n ps := by
  obtain ⟨A, cap, e, hr⟩ := own_readsP h hok hn
  cases e
  exact hr
theorem below_drew {w : World} : Below w.heap.size w w.drew := (Below.refl _ w).drew
theorem dst_id {wq wc : World} {D n c : Nat} {s : Int} {A : Option Addr} {ps : List Pg} (hD : wc.heap[D]? = some (.cells #[.int .i64 s, .slice A n c] 27 (0, 0))) (hr : ReadsP wc A n ps) (hb : Below wq.heap.size wq wc) : DSt wq D wc := ⟨s, n, c, A, ps, hD, hr, hb⟩
theorem dst_seq {wq wc : World} {D n c : Nat} {s : Int} {A : Option Addr} {ps : List Pg} (hD : wc.heap[D]? = some (.cells #[.int .i64 s, .slice A n c] 27 (0, 0))) (hr : ReadsP wc A n ps) (hb : Below wq.heap.size wq wc) (hDw : wq.heap.size ≤ D) (x : Int) :
    DSt wq D (wc.setCell ⟨D, 0, none⟩ (.int .i64 x)) :=
  ⟨x, n, c, A, ps, heap_setCell_same wc D 0 _ 27 _ hD, reads_set hr D 0 27 _ _ _ hD, hb.setCell (p := ⟨D, 0, none⟩) hDw _⟩
theorem DSt.drew {wq wd : World} {D : Nat} (h : DSt wq D wd) : DSt wq D wd.drew := by
  obtain ⟨s', n', c', A', ps', h1, h2, h3⟩ := h
  exact ⟨s', n', c', A', ps', h1, h2.more below_drew, h3.trans (below_drew.mono h3.size)⟩
theorem dst_cut {wq wc : World} {D n c n' c' : Nat} {s : Int} {A A' : Option Addr} {ps' : List Pg} (hD : wc.heap[D]? = some (.cells #[.int .i64 s, .slice A n c] 27 (0, 0))) (hr : ReadsP wc A' n' ps') (hb : Below wq.heap.size wq wc) (hDw : wq.heap.size ≤ D) :
    DSt wq D (wc.setCell ⟨D, 1, none⟩ (.slice A' n' c')) :=
  ⟨s, n', c', A', ps', heap_setCell_same wc D 1 _ 27 _ hD, reads_set hr D 1 27 _ _ _ hD, hb.setCell (p := ⟨D, 1, none⟩) hDw _⟩
theorem dst_row {wq wc : World} {D g n c k i : Nat} {s : Int} {ps : List Pg} {p : Pg} (p' : Pg) (v : Value) (hD : wc.heap[D]? = some (.cells #[.int .i64 s, .slice (some ⟨g, 0, none⟩) n c] 27 (0, 0)))
    (hO : wc.ownsRow wq.heap.size 49 9 (.slice (some ⟨g, 0, none⟩) n c) n (pcells ps)) (hb : Below wq.heap.size wq wc) (hg : wq.heap.size ≤ g) (hDg : D ≠ g) (hp : ps[k]? = some p) (hi : i < 9)
    (hc : ∀ r, r < 9 → p'.cells[r]? = if r = i then some v else p.cells[r]?) (hok : ∀ q ∈ ps, q.ok) (hok' : p'.ok) (hn : (n : Int) ≤ 1000000) : DSt wq D (wc.setCell ⟨g, k * 9 + i, none⟩ v) :=
  ⟨s, n, c, _, _, (Below.heap_setCell _ _ _ _ (by simpa using hDg)).trans hD, put_reads p' v hO hp hi hc hok hok' hn, hb.setCell (p := ⟨g, k * 9 + i, none⟩) hg _⟩
theorem tail_reads {w : World} {base n c g : Nat} {ps : List Pg} {adt : Addr} (h : w.ownsRow base 49 9 (.slice (some ⟨g, 0, none⟩) n c) n (pcells ps)) (hok : ∀ q ∈ ps, q.ok) (hn : (n : Int) ≤ 1000000) (h1 : 1 ≤ n) (he : 1 = n ∨ adt = ⟨g, 1 * 9, none⟩) :
    ReadsP w (some adt) (n - 1) (ps.drop 1) := by
  have hr := own_reads' h hok hn
  refine ⟨by rw [List.length_drop, hr.1], by omega, fun q hq => hok q (List.mem_of_mem_drop hq), fun k hk => ?_⟩
  rcases he with he | rfl
  · omega
  · obtain ⟨b, o, e, hlt, hc⟩ := hr.2.2.2 (k + 1) (by omega)
    cases e
    refine ⟨g, 1 * 9, rfl, hlt, fun p hp j v hv => ?_⟩
    rw [List.getElem?_drop, Nat.add_comm] at hp
    have := hc p hp j v hv
    rw [show 0 + (k + 1) * 9 + j = 1 * 9 + k * 9 + j by omega] at this
    exact this
theorem u64_some (z : Int) : ∃ x : Nat, IntKind.u64.wrap z = (x : Int) ∧ x < 18446744073709551616 := by
  rw [IntKind.wrap_u64]
  exact ⟨(z % 18446744073709551616).toNat, by omega, by omega⟩
theorem put_line (p : Pg) (x : Int) : ∀ r, r < 9 → ({ p with line := x } : Pg).cells[r]? = if r = 0 then some (.int .i64 x) else p.cells[r]? := by
  intro r hr
  rcases r with _ | _ | _ | _ | _ | _ | _ | _ | _ | r <;> first | rfl | omega
theorem put_head (p : Pg) (x : Nat) : ∀ r, r < 9 → ({ p with head := x } : Pg).cells[r]? = if r = 1 then some (.int .u64 (x : Int)) else p.cells[r]? := by
  intro r hr
  rcases r with _ | _ | _ | _ | _ | _ | _ | _ | _ | r <;> first | rfl | omega
theorem put_d (p : Pg) (j x : Nat) (hj : j < 7) : ∀ r, r < 9 → ({ p with d := fun m => if m = j then x else p.d m } : Pg).cells[r]? = if r = 2 + j then some (.int .u64 (x : Int)) else p.cells[r]? := by
  intro r hr
  have : j = 0 ∨ j = 1 ∨ j = 2 ∨ j = 3 ∨ j = 4 ∨ j = 5 ∨ j = 6 := by omega
  rcases this with rfl | rfl | rfl | rfl | rfl | rfl | rfl <;> rcases r with _ | _ | _ | _ | _ | _ | _ | _ | _ | r <;> first | rfl | omega
theorem keep_store {w : World} {D g j : Nat} {v u : Value} (hne : D ≠ g) (h : w.cell? ⟨D, 1, none⟩ = some v) : (w.setCell ⟨g, j, none⟩ u).drew.cell? ⟨D, 1, none⟩ = some v := by
  show (w.setCell ⟨g, j, none⟩ u).cell? ⟨D, 1, none⟩ = some v
  rw [World.cell?_of_block (w := w) (Below.heap_setCell w ⟨g, j, none⟩ u D (by simpa using hne))]
  exact h
theorem keepV {wq w' : World} {R : Nat} {s sl : Value} (hR : wq.heap[R]? = some (.cells #[s, sl] 27 (0, 0))) (hb : Below wq.heap.size wq w') :
    w'.cell? ⟨R, 0, none⟩ = some s ∧ w'.cell? ⟨R, 1, none⟩ = some sl ∧ Below wq.heap.size wq w' := by
  have h := (hb.block R (Array.getElem?_eq_some_iff.1 hR).1).trans hR
  exact ⟨by simp [World.cell?, h], by simp [World.cell?, h], hb⟩

set_option maxRecDepth 100000 in
set_option maxHeartbeats 20000000 in
theorem valid_core (a0 a3 a5 : Int) (n1 cap1 n2 cap2 n4 cap4 : Nat) (A1 A2 A4 : Option Addr) (ps1 ps2 : List Pg) (xs : List Int) (w : World) (hp1 : ReadsP w A1 n1 ps1) (hp2 : ReadsP w A2 n2 ps2) (hx : ReadsI w A4 n4 xs)
    (h20 : ¬ (20 : Int) < (n1 : Int)) (h21 : ¬ (20 : Int) < (n2 : Int)) (h22 : ¬ (20 : Int) < (n4 : Int)) (ha0 : -9223372036854775808 ≤ a0 ∧ a0 ≤ 9223372036854775807) (ha3 : -9223372036854775808 ≤ a3 ∧ a3 ≤ 9223372036854775807) (ha5 : -9223372036854775808 ≤ a5 ∧ a5 ≤ 9223372036854775807) :
    Calls Try.prog 5 #[.int .i64 a0, .slice A1 n1 cap1, .slice A2 n2 cap2, .int .i64 a3, .slice A4 n4 cap4, .int .i64 a5] w fun e w' => e = .returned (.bool true) ∧ Below w.heap.size w w' := by
  obtain ⟨i9, hi9, hz90, hz91, hz92⟩ := info_parts info49b
  have hrec := fun W (hb : Below w.heap.size w W) => hrecord_x a0 256 n4 cap4 A4 xs W (by omega) (by omega) (hx.more hb) ha0
  obtain ⟨k3, hk3⟩ : ∃ k3 : Nat, a3 % 170 = (k3 : Int) := ⟨(a3 % 170).toNat, by omega⟩
  have hk3l : k3 < 170 := by omega
  have hpk3 := fun W => pick2_x a3 170 W (by omega) (by omega)
  rw [hk3] at hpk3
  obtain ⟨k7, hk7⟩ : ∃ k7 : Nat, (a5.tdiv 16) % 7 = (k7 : Int) := ⟨((a5.tdiv 16) % 7).toNat, by omega⟩
  have hk7l : k7 < 7 := by omega
  have hpk7 := fun W => pick2_x (a5.tdiv 16) 7 W (by omega) (by omega)
  rw [hk7] at hpk7
  have HPK3 := Lib.hid hpk3
  have HPK7 := Lib.hid hpk7
  have HREC := Lib.hid hrec
  have HP1 := Lib.hid hp1
  have HP2 := Lib.hid hp2
  clear hrec hx hpk3 hpk7 hk3 hk7 hp1 hp2
  have hb0 : Below w.heap.size w ((w.alloc (.cells #[.int .i64 a0, .slice A1 n1 cap1] 27)).alloc (.cells #[.int .i64 a0, .slice A2 n2 cap2] 27)) := ((Below.refl _ w).alloc (Nat.le_refl _) _).alloc (by simp) _
  have hX0 : ((w.alloc (.cells #[.int .i64 a0, .slice A1 n1 cap1] 27)).alloc (.cells #[.int .i64 a0, .slice A2 n2 cap2] 27)).heap[w.heap.size]? = some (.cells #[.int .i64 a0, .slice A1 n1 cap1] 27 (0, 0)) := (Below.heap_alloc _ _ _ (by simp)).trans (heap_alloc_new w _)
  have hY0 : ((w.alloc (.cells #[.int .i64 a0, .slice A1 n1 cap1] 27)).alloc (.cells #[.int .i64 a0, .slice A2 n2 cap2] 27)).heap[w.heap.size + 1]? = some (.cells #[.int .i64 a0, .slice A2 n2 cap2] 27 (0, 0)) := by
    have h := heap_alloc_new (w.alloc (.cells #[.int .i64 a0, .slice A1 n1 cap1] 27)) (.cells #[.int .i64 a0, .slice A2 n2 cap2] 27)
    rw [World.size_alloc] at h
    exact h
  have HB0 := Lib.hid hb0
  have HX0 := Lib.hid hX0
  have HY0 := Lib.hid hY0
  clear hb0 hX0 hY0
  go_enter Try.func5, Try.ntmps5
  go_wp2_with fail
  generalize ((w.alloc (.cells #[.int .i64 a0, .slice A1 n1 cap1] 27)).alloc (.cells #[.int .i64 a0, .slice A2 n2 cap2] 27)) = v0 at *
  obtain ⟨X, hX⟩ : ∃ X, w.heap.size = X := ⟨_, rfl⟩
  obtain ⟨Y, hY⟩ : ∃ Y, X + 1 = Y := ⟨_, rfl⟩
  rw [hX] at HX0 HY0 ⊢
  rw [hY] at HY0 ⊢
  have hwX : w.heap.size ≤ X := by omega
  have hXY : X < Y := by omega
  clear hX hY
  go_at_call 9
  refine (HREC.out _ HB0.out).mono ?_
  rintro e v1 ⟨⟨s, ps, A3, c3, rfl, hs1, hs2, hl1, hg, hc3, hrp⟩, hb1⟩
  have HX1 := Lib.hid ((hb1.block _ (Array.getElem?_eq_some_iff.1 HX0.out).1).trans HX0.out)
  have HY1 := Lib.hid ((hb1.block _ (Array.getElem?_eq_some_iff.1 HY0.out).1).trans HY0.out)
  have HB1 := Lib.hid (HB0.out.trans (hb1.mono HB0.out.size))
  obtain ⟨b3, o3, rfl, _, _⟩ := hrp.2.2.2 0 (by omega)
  obtain ⟨k, hk⟩ : ∃ k, ps.length = k := ⟨_, rfl⟩
  have hk12 : k ≤ 12 := by rw [← hk]; exact hg.2.1
  rw [hk] at hl1 hc3 hrp ⊢
  have HK := Lib.hid hk
  have HG := Lib.hid hg
  have hba : Below v1.heap.size v1 (v1.alloc (.cells #[.int .i64 s, .slice (some ⟨b3, o3, none⟩) k c3] 27)) := (Below.refl _ v1).alloc (Nat.le_refl _) _
  have HR1 := Lib.hid (heap_alloc_new v1 (.cells #[.int .i64 s, .slice (some ⟨b3, o3, none⟩) k c3] 27))
  have HX2 := Lib.hid ((hba.block _ (Array.getElem?_eq_some_iff.1 HX1.out).1).trans HX1.out)
  have HY2 := Lib.hid ((hba.block _ (Array.getElem?_eq_some_iff.1 HY1.out).1).trans HY1.out)
  have HB2 := Lib.hid (HB1.out.trans (hba.mono HB1.out.size))
  have HP3 := Lib.hid (hrp.more hba)
  clear hk hg hrp hb1 hba
  go_wp2_with fail
  generalize hwq : (v1.alloc (.cells #[.int .i64 s, .slice (some ⟨b3, o3, none⟩) k c3] 27)) = wq at *
  obtain ⟨R, hR⟩ : ∃ R, v1.heap.size = R := ⟨_, rfl⟩
  rw [hR] at HR1 ⊢
  have hRw : R < wq.heap.size := (Array.getElem?_eq_some_iff.1 HR1.out).1
  have hYw : Y < R := by rw [← hR]; exact (Array.getElem?_eq_some_iff.1 HY1.out).1
  clear hR hwq
  have s27 : ∀ x y : Value, (Try.prog.info? 27).map (·.size) = some (#[x, y] : Array Value).size := fun x y => by rw [size27]; rfl
  have HS0 := Lib.hid (keepV HR1.out ((Below.refl _ wq).drew))
  go_cut [16] from 19 (fun s16 wc => DRow s k ps wq s16 wc)
  case first =>
   go_region_held3 (fun w' => w'.cell? ⟨R, 0, none⟩ = some (.int .i64 s) ∧ w'.cell? ⟨R, 1, none⟩ = some (.slice (some ⟨b3, o3, none⟩) k c3) ∧ Below wq.heap.size wq w')
    (first | (exact HS0.out) | assumption | (exact keepV HR1.out (((‹_ ∧ _ ∧ Below wq.heap.size wq _›).2.2).alloc ((‹_ ∧ _ ∧ Below wq.heap.size wq _›).2.2).size _)) | (exact keepV HR1.out (((‹_ ∧ _ ∧ Below wq.heap.size wq _›).2.2).grown hgrow2 ((‹_ ∧ _ ∧ Below wq.heap.size wq _›).2.2).size (fun k e => by cases e))) | (exact keepV HR1.out (below_ga hgrow2 _)) | (exact keepV HR1.out (below_gr2 hgrow2 _ _)) | (exact keepV HR1.out (((Below.refl _ wq).alloc (Nat.le_refl _) _).drew)) | fail)
    (first | (refine step_append_at _ (by rfl) _ _ _ (by rfl) wq.heap.size 49 i9 _ 9 72 Try.underlying25 hi9 hz90 hz91 hz92 rfl (by omega) (.slice none 0 0) 0 [] (by rfl) (World.ownsRow_nil _ _ _ _) ⟨b3, o3, none⟩ k c3 (pcells ps) (by rfl) (by rw [pcells_length, HK.out]; omega) (reads_pcells (HP3.out.more ((‹_ ∧ _ ∧ Below wq.heap.size wq _›).2.2))) (pcells_one _) (by unfold maxLen; omega) (by omega) ((‹_ ∧ _ ∧ Below wq.heap.size wq _›).2.2).size ?_; intro t45 w2 hown2 hgrow2 hblk2; obtain ⟨g2, cp2, rfl, hgw2, hgl2⟩ := hown2.form (by omega); (try (have hzz := zero_gr hgrow2; have z0 := zero_c0 hzz; have z1 := zero_c1 (.int .i64 s) hzz; have z2 := zero_f0 hzz; have z3 := zero_f1 (.int .i64 s) hzz; clear hzz))) | fail)
   all_goals
     go_wp2_with fail
     go_meet
     case rel => first | (exact drow_a hgrow2 hown2 hgw2 hgl2) | (exact drow_b hgrow2 hown2 hgw2 hblk2)
  case rest =>
    obtain ⟨D, g, cd, rfl, hD, hO, hDw, hgw, hDg, hbc⟩ := hcut
    have hX3 := (hbc.block _ (Array.getElem?_eq_some_iff.1 HX2.out).1).trans HX2.out
    have hY3 := (hbc.block _ (Array.getElem?_eq_some_iff.1 HY2.out).1).trans HY2.out
    have c0 : wc.cell? ⟨D, 0, none⟩ = some (.int .i64 s) := by simp [World.cell?, hD]
    have c1 : wc.cell? ⟨D, 1, none⟩ = some (.slice (some ⟨g, 0, none⟩) k cd) := by simp [World.cell?, hD]
    have f0 : wc.frozen? ⟨D, 0, none⟩ = false := by simp [World.frozen?, hD]
    have f1 : wc.frozen? ⟨D, 1, none⟩ = false := by simp [World.frozen?, hD]
    have hok : ∀ q ∈ ps, q.ok := fun q hq => (HG.out.2.2 q hq).1
    obtain ⟨kp, hkp⟩ : ∃ kp : Nat, a5 % (k : Int) = (kp : Int) := ⟨(a5 % (k : Int)).toNat, (Int.toNat_of_nonneg (Int.emod_nonneg _ (by omega))).symm⟩
    have hkpl : kp < k := by have := Int.emod_lt_of_pos a5 (show (0 : Int) < (k : Int) by omega); omega
    have hpkp := fun W => pick2_x a5 (k : Int) W (by omega) (by omega)
    rw [hkp] at hpkp
    have HPKP := Lib.hid hpkp
    have HD := Lib.hid hD
    have HO := Lib.hid hO
    have HOK := Lib.hid hok
    have HX3 := Lib.hid hX3
    have HY3 := Lib.hid hY3
    have HBC := Lib.hid hbc
    clear hD hO hX3 hY3 hbc hkp hpkp hok
    go_upto_block 0 with (first
      | (go_at_call_of 12 k; refine (HPKP.out _).mono ?_; rintro e v' ⟨rfl, rfl⟩)
      | (go_at_call 12; refine (HPK7.out _).mono ?_; rintro e v' ⟨rfl, rfl⟩)
      | fail)
    go_cut [] from 19 (fun wc => DSt wq D wc)
    case first =>
      have hk7c : k7 = 0 ∨ k7 = 1 ∨ k7 = 2 ∨ k7 = 3 ∨ k7 = 4 ∨ k7 = 5 ∨ k7 = 6 := by omega
      obtain ⟨p, hp⟩ := get_of_lt ps kp (by rw [HK.out]; exact hkpl)
      obtain ⟨⟨pl1, pl2, ph, pd⟩, hl96, hl256, _⟩ := HG.out.2.2 p (List.mem_of_getElem? hp)
      have hadd : (⟨g, 0, none⟩ : Addr).add (kp * 9) = ⟨g, kp * 9, none⟩ := addr0 g (kp * 9)
      have hb1 : (0 : Int) ≤ (kp : Int) := Int.natCast_nonneg _
      have hb2 : (kp : Int) < (k : Int) := by omega
      have hkc : k ≤ cd := own_cap HO.out
      have HRO := Lib.hid (own_reads' HO.out HOK.out (by omega))
      clear hk7l
      rcases hk7c with rfl | rfl | rfl | rfl | rfl | rfl | rfl
      · as_aux_lemma =>
        obtain ⟨q, hq⟩ : ∃ q : Nat, a5 % 3 = (q : Int) := ⟨(a5 % 3).toNat, by omega⟩
        have hql : q < 3 := by omega
        have hpq := fun W => pick2_x a5 3 W (by omega) (by omega)
        rw [hq] at hpq
        have HPQ := Lib.hid hpq
        clear hq hpq
        have e1 : IntKind.i64.wrap (s - 1) = s - 1 := IntWalk.i64_in _ ⟨by omega, by omega⟩
        have e2 : IntKind.i64.wrap (s - 1 - (q : Int)) = s - 1 - (q : Int) := IntWalk.i64_in _ ⟨by clear e1; omega, by clear e1; omega⟩
        go_wp2_with fail
        go_region_with (go_at_call 12; refine (HPQ.out _).mono ?_; rintro e v' ⟨rfl, rfl⟩)
        all_goals
          go_wp2_with fail
          go_meet
          case rel => exact DSt.drew <| dst_seq HD.out HRO.out HBC.out hDw _
      · as_aux_lemma =>
        obtain ⟨q, hq⟩ : ∃ q : Nat, a5 % 9 = (q : Int) := ⟨(a5 % 9).toNat, by omega⟩
        have hql : q < 9 := by omega
        have hpq := fun W => pick2_x a5 9 W (by omega) (by omega)
        rw [hq] at hpq
        have HPQ := Lib.hid hpq
        clear hq hpq
        have e1 : IntKind.i64.wrap (p.line + (q : Int)) = p.line + (q : Int) := IntWalk.i64_in _ ⟨by omega, by omega⟩
        have e2 : IntKind.i64.wrap (p.line + (q : Int) - 4) = p.line + (q : Int) - 4 := IntWalk.i64_in _ ⟨by clear e1; omega, by clear e1; omega⟩
        have cL : wc.cell? ⟨g, kp * 9, none⟩ = some (.int .i64 p.line) := own_pcell (i := 0) HO.out hp (by omega)
        have fL : wc.frozen? ⟨g, kp * 9, none⟩ = false := own_frozenP HO.out
        go_wp2_with fail
        refine wp_region_noPanic ?_
        refine wp_region_held_drew (S := (fun w' => w'.cell? ⟨D, 1, none⟩ = some (.slice (some ⟨g, 0, none⟩) k cd))) (by kernel_rfl) ?_ (fun hHeld => ?_)
        · (try dsimp only)
          first | assumption | exact keep_store hDg c1 | go_keep
        refine wpAnyH_take (i := 0) (oi := ⟨_, _, _, _, _, _⟩) (v := ?_) rfl (by kernel_rfl) (by kernel_rfl) (by kernel_rfl) (fun _ _ _ h => h) (Or.inl ⟨by rfl, ?_⟩) (by assumption) ?_
        rotate_left
        · intro w' hSw
          (try dsimp only at hSw)
          go_simp <;> with_reducible rfl
        rotate_left
        (try simp only [Act.put, List.setIfInBounds_toArray, List.set_cons_zero, List.set_cons_succ])
        refine wpAnyH_take (i := 1) (oi := ⟨_, _, _, _, _, _⟩) (v := ?_) rfl (by kernel_rfl) (by kernel_rfl) (by kernel_rfl) (fun _ _ _ h => h) (Or.inl ⟨by rfl, ?_⟩) (by assumption) ?_
        rotate_left
        · intro w' hSw
          (try dsimp only at hSw)
          go_simp <;> with_reducible rfl
        rotate_left
        (try simp only [Act.put, List.setIfInBounds_toArray, List.set_cons_zero, List.set_cons_succ])
        refine wpAnyH_take (i := 2) (oi := ⟨_, _, _, _, _, _⟩) (v := ?_) rfl (by kernel_rfl) (by kernel_rfl) (by kernel_rfl) (fun _ _ _ h => h) (Or.inl ⟨by rfl, ?_⟩) (by assumption) ?_
        rotate_left
        · intro w' hSw
          (try dsimp only at hSw)
          go_simp <;> with_reducible rfl
        rotate_left
        (try simp only [Act.put, List.setIfInBounds_toArray, List.set_cons_zero, List.set_cons_succ])
        refine wpAnyH_take (i := 3) (oi := ⟨_, _, _, _, _, _⟩) (v := ?_) rfl (by kernel_rfl) (by kernel_rfl) (by kernel_rfl) (fun _ _ _ h => h) (Or.inl ⟨by rfl, ?_⟩) (by assumption) ?_
        rotate_left
        · intro w' hSw
          (try dsimp only at hSw)
          go_simp <;> with_reducible rfl
        rotate_left
        (try simp only [Act.put, List.setIfInBounds_toArray, List.set_cons_zero, List.set_cons_succ])
        refine wpAnyH_take (i := 4) (oi := ⟨_, _, _, _, _, _⟩) (v := ?_) rfl (by kernel_rfl) (by kernel_rfl) (by kernel_rfl) (fun _ _ _ h => h) (Or.inl ⟨by rfl, ?_⟩) (by assumption) ?_
        rotate_left
        · intro w' hSw
          (try dsimp only at hSw)
          go_simp <;> with_reducible rfl
        rotate_left
        (try simp only [Act.put, List.setIfInBounds_toArray, List.set_cons_zero, List.set_cons_succ])
        refine wpAnyH_take (i := 5) (oi := ⟨_, _, _, _, _, _⟩) (v := ?_) rfl (by kernel_rfl) (by kernel_rfl) (by kernel_rfl) (fun _ _ _ h => h) (Or.inl ⟨by rfl, ?_⟩) (by assumption) ?_
        rotate_left
        · intro w' hSw
          (try dsimp only at hSw)
          go_simp <;> with_reducible rfl
        rotate_left
        (try simp only [Act.put, List.setIfInBounds_toArray, List.set_cons_zero, List.set_cons_succ])
        refine wpAnyH_take (i := 6) (oi := ⟨_, _, _, _, _, _⟩) (v := ?_) rfl (by kernel_rfl) (by kernel_rfl) (by kernel_rfl) (fun _ _ _ h => h) (Or.inl ⟨by rfl, ?_⟩) (by assumption) ?_
        rotate_left
        · intro w' hSw
          (try dsimp only at hSw)
          go_simp <;> with_reducible rfl
        rotate_left
        (try simp only [Act.put, List.setIfInBounds_toArray, List.set_cons_zero, List.set_cons_succ])
        refine wpAnyH_take (i := 7) (oi := ⟨_, _, _, _, _, _⟩) (v := ?_) rfl (by kernel_rfl) (by kernel_rfl) (by kernel_rfl) (fun _ _ _ h => h) (Or.inl ⟨by rfl, ?_⟩) (by assumption) ?_
        rotate_left
        · intro w' hSw
          (try dsimp only at hSw)
          go_simp <;> with_reducible rfl
        rotate_left
        (try simp only [Act.put, List.setIfInBounds_toArray, List.set_cons_zero, List.set_cons_succ])
        refine wpAnyH_take (i := 9) (oi := ⟨_, _, _, _, _, _⟩) (v := ?_) rfl (by kernel_rfl) (by kernel_rfl) (by kernel_rfl) (fun _ _ _ h => h) (Or.inl ⟨by rfl, ?_⟩) (by assumption) ?_
        rotate_left
        · intro w' hSw
          (try dsimp only at hSw)
          go_simp <;> with_reducible rfl
        rotate_left
        (try simp only [Act.put, List.setIfInBounds_toArray, List.set_cons_zero, List.set_cons_succ])
        refine wpAnyH_ready (rs := [8, 10]) (by kernel_rfl) (by simp) ?_
        refine AllReadyH.cons (o := ⟨_, _, _, _, _, _⟩) rfl (fun K hK => ?_) (AllReadyH.cons (o := ⟨_, _, _, _, _, _⟩) rfl (fun K hK => ?_) AllReadyH.nil)
        · go_simp
          skip
          refine hK.out _ _ ?_ (fun hHeld => ?_)
          · (try dsimp only)
            first | assumption | exact keep_store hDg c1 | go_keep
          clear hK K
          (try simp only [Act.put, List.setIfInBounds_toArray, List.set_cons_zero, List.set_cons_succ])
          refine wpAnyH_ready (rs := [10]) (by kernel_rfl) (by simp) ?_
          refine AllReadyH.cons (o := ⟨_, _, _, _, _, _⟩) rfl (fun K hK => ?_) AllReadyH.nil
          go_simp
          go_wp2_with (go_at_call 12; refine (HPQ.out _).mono ?_; rintro e v' ⟨rfl, rfl⟩)
          refine hK.out _ _ ?_ (fun hHeld => ?_)
          · (try dsimp only)
            first | assumption | exact keep_store hDg c1 | go_keep
          clear hK K
          (try simp only [Act.put, List.setIfInBounds_toArray, List.set_cons_zero, List.set_cons_succ])
          refine wpAnyH_take (i := 11) (oi := ⟨_, _, _, _, _, _⟩) (v := ?_) rfl (by kernel_rfl) (by kernel_rfl) (by kernel_rfl) (fun _ _ _ h => h) (Or.inl ⟨by rfl, ?_⟩) (by assumption) ?_
          rotate_left
          · intro w' hSw
            (try dsimp only at hSw)
            go_simp <;> with_reducible rfl
          rotate_left
          (try simp only [Act.put, List.setIfInBounds_toArray, List.set_cons_zero, List.set_cons_succ])
          refine wpAnyH_take (i := 12) (oi := ⟨_, _, _, _, _, _⟩) (v := ?_) rfl (by kernel_rfl) (by kernel_rfl) (by kernel_rfl) (fun _ _ _ h => h) (Or.inl ⟨by rfl, ?_⟩) (by assumption) ?_
          rotate_left
          · intro w' hSw
            (try dsimp only at hSw)
            go_simp <;> with_reducible rfl
          rotate_left
          (try simp only [Act.put, List.setIfInBounds_toArray, List.set_cons_zero, List.set_cons_succ])
          refine wpAnyH_take (i := 13) (oi := ⟨_, _, _, _, _, _⟩) (v := ?_) rfl (by kernel_rfl) (by kernel_rfl) (by kernel_rfl) (fun _ _ _ h => h) (Or.inl ⟨by rfl, ?_⟩) (by assumption) ?_
          rotate_left
          · intro w' hSw
            (try dsimp only at hSw)
            go_simp <;> with_reducible rfl
          rotate_left
          (try simp only [Act.put, List.setIfInBounds_toArray, List.set_cons_zero, List.set_cons_succ])
          refine wpAnyH_take (i := 14) (oi := ⟨_, _, _, _, _, _⟩) (v := ?_) rfl (by kernel_rfl) (by kernel_rfl) (by kernel_rfl) (fun _ _ _ h => h) (Or.inl ⟨by rfl, ?_⟩) (by assumption) ?_
          rotate_left
          · intro w' hSw
            (try dsimp only at hSw)
            go_simp <;> with_reducible rfl
          rotate_left
          (try simp only [Act.put, List.setIfInBounds_toArray, List.set_cons_zero, List.set_cons_succ])
          refine wpAnyH_ready (rs := [15]) (by kernel_rfl) (by simp) ?_
          refine AllReadyH.cons (o := ⟨_, _, _, _, _, _⟩) rfl (fun K hK => ?_) AllReadyH.nil
          go_simp
          skip
          refine hK.out _ _ ?_ (fun hHeld => ?_)
          · (try dsimp only)
            first | assumption | exact keep_store hDg c1 | go_keep
          clear hK K
          (try simp only [Act.put, List.setIfInBounds_toArray, List.set_cons_zero, List.set_cons_succ])
          refine wpAnyH_done (by kernel_rfl) ?_ _
          refine NoPanic.normal ?_
          go_wp2_with fail
          go_meet
          case rel => exact DSt.drew <| dst_row (i := 0) { p with line := p.line + (q : Int) - 4 } _ HD.out HO.out HBC.out hgw hDg hp (by omega) (put_line p _) HOK.out ⟨by show _ ≤ p.line + (q : Int) - 4; clear e1 e2; omega, by show p.line + (q : Int) - 4 ≤ _; clear e1 e2; omega, ph, pd⟩ (by omega)
        · go_simp
          go_wp2_with (go_at_call 12; refine (HPQ.out _).mono ?_; rintro e v' ⟨rfl, rfl⟩)
          refine hK.out _ _ ?_ (fun hHeld => ?_)
          · (try dsimp only)
            first | assumption | exact keep_store hDg c1 | go_keep
          clear hK K
          (try simp only [Act.put, List.setIfInBounds_toArray, List.set_cons_zero, List.set_cons_succ])
          refine wpAnyH_ready (rs := [8]) (by kernel_rfl) (by simp) ?_
          refine AllReadyH.cons (o := ⟨_, _, _, _, _, _⟩) rfl (fun K hK => ?_) AllReadyH.nil
          go_simp
          skip
          refine hK.out _ _ ?_ (fun hHeld => ?_)
          · (try dsimp only)
            first | assumption | exact keep_store hDg c1 | go_keep
          clear hK K
          (try simp only [Act.put, List.setIfInBounds_toArray, List.set_cons_zero, List.set_cons_succ])
          refine wpAnyH_take (i := 11) (oi := ⟨_, _, _, _, _, _⟩) (v := ?_) rfl (by kernel_rfl) (by kernel_rfl) (by kernel_rfl) (fun _ _ _ h => h) (Or.inl ⟨by rfl, ?_⟩) (by assumption) ?_
          rotate_left
          · intro w' hSw
            (try dsimp only at hSw)
            go_simp <;> with_reducible rfl
          rotate_left
          (try simp only [Act.put, List.setIfInBounds_toArray, List.set_cons_zero, List.set_cons_succ])
          refine wpAnyH_take (i := 12) (oi := ⟨_, _, _, _, _, _⟩) (v := ?_) rfl (by kernel_rfl) (by kernel_rfl) (by kernel_rfl) (fun _ _ _ h => h) (Or.inl ⟨by rfl, ?_⟩) (by assumption) ?_
          rotate_left
          · intro w' hSw
            (try dsimp only at hSw)
            go_simp <;> with_reducible rfl
          rotate_left
          (try simp only [Act.put, List.setIfInBounds_toArray, List.set_cons_zero, List.set_cons_succ])
          refine wpAnyH_take (i := 13) (oi := ⟨_, _, _, _, _, _⟩) (v := ?_) rfl (by kernel_rfl) (by kernel_rfl) (by kernel_rfl) (fun _ _ _ h => h) (Or.inl ⟨by rfl, ?_⟩) (by assumption) ?_
          rotate_left
          · intro w' hSw
            (try dsimp only at hSw)
            go_simp <;> with_reducible rfl
          rotate_left
          (try simp only [Act.put, List.setIfInBounds_toArray, List.set_cons_zero, List.set_cons_succ])
          refine wpAnyH_take (i := 14) (oi := ⟨_, _, _, _, _, _⟩) (v := ?_) rfl (by kernel_rfl) (by kernel_rfl) (by kernel_rfl) (fun _ _ _ h => h) (Or.inl ⟨by rfl, ?_⟩) (by assumption) ?_
          rotate_left
          · intro w' hSw
            (try dsimp only at hSw)
            go_simp <;> with_reducible rfl
          rotate_left
          (try simp only [Act.put, List.setIfInBounds_toArray, List.set_cons_zero, List.set_cons_succ])
          refine wpAnyH_ready (rs := [15]) (by kernel_rfl) (by simp) ?_
          refine AllReadyH.cons (o := ⟨_, _, _, _, _, _⟩) rfl (fun K hK => ?_) AllReadyH.nil
          go_simp
          skip
          refine hK.out _ _ ?_ (fun hHeld => ?_)
          · (try dsimp only)
            first | assumption | exact keep_store hDg c1 | go_keep
          clear hK K
          (try simp only [Act.put, List.setIfInBounds_toArray, List.set_cons_zero, List.set_cons_succ])
          refine wpAnyH_done (by kernel_rfl) ?_ _
          refine NoPanic.normal ?_
          go_wp2_with fail
          go_meet
          case rel => exact DSt.drew <| dst_row (i := 0) { p with line := p.line + (q : Int) - 4 } _ HD.out HO.out HBC.out hgw hDg hp (by omega) (put_line p _) HOK.out ⟨by show _ ≤ p.line + (q : Int) - 4; clear e1 e2; omega, by show p.line + (q : Int) - 4 ≤ _; clear e1 e2; omega, ph, pd⟩ (by omega)
      · as_aux_lemma =>
        obtain ⟨q, hq⟩ : ∃ q : Nat, a5 % 3 = (q : Int) := ⟨(a5 % 3).toNat, by omega⟩
        have hql : q < 3 := by omega
        have hpq := fun W => pick2_x a5 3 W (by omega) (by omega)
        rw [hq] at hpq
        have HPQ := Lib.hid hpq
        clear hq hpq
        have e1 : IntKind.u64.wrap (q : Int) = (q : Int) := IntWalk.u64_in _ ⟨by omega, by omega⟩
        obtain ⟨x, e2, hx⟩ := u64_some ((p.head : Int) + (q : Int))
        have cL : wc.cell? ⟨g, kp * 9 + 1, none⟩ = some (.int .u64 (p.head : Int)) := own_pcell (i := 1) HO.out hp (by omega)
        have fL : wc.frozen? ⟨g, kp * 9 + 1, none⟩ = false := own_frozenP HO.out
        go_wp2_with fail
        refine wp_region_noPanic ?_
        refine wp_region_held_drew (S := (fun w' => w'.cell? ⟨D, 1, none⟩ = some (.slice (some ⟨g, 0, none⟩) k cd))) (by kernel_rfl) ?_ (fun hHeld => ?_)
        · (try dsimp only)
          first | assumption | exact keep_store hDg c1 | go_keep
        refine wpAnyH_take (i := 0) (oi := ⟨_, _, _, _, _, _⟩) (v := ?_) rfl (by kernel_rfl) (by kernel_rfl) (by kernel_rfl) (fun _ _ _ h => h) (Or.inl ⟨by rfl, ?_⟩) (by assumption) ?_
        rotate_left
        · intro w' hSw
          (try dsimp only at hSw)
          go_simp <;> with_reducible rfl
        rotate_left
        (try simp only [Act.put, List.setIfInBounds_toArray, List.set_cons_zero, List.set_cons_succ])
        refine wpAnyH_take (i := 1) (oi := ⟨_, _, _, _, _, _⟩) (v := ?_) rfl (by kernel_rfl) (by kernel_rfl) (by kernel_rfl) (fun _ _ _ h => h) (Or.inl ⟨by rfl, ?_⟩) (by assumption) ?_
        rotate_left
        · intro w' hSw
          (try dsimp only at hSw)
          go_simp <;> with_reducible rfl
        rotate_left
        (try simp only [Act.put, List.setIfInBounds_toArray, List.set_cons_zero, List.set_cons_succ])
        refine wpAnyH_take (i := 2) (oi := ⟨_, _, _, _, _, _⟩) (v := ?_) rfl (by kernel_rfl) (by kernel_rfl) (by kernel_rfl) (fun _ _ _ h => h) (Or.inl ⟨by rfl, ?_⟩) (by assumption) ?_
        rotate_left
        · intro w' hSw
          (try dsimp only at hSw)
          go_simp <;> with_reducible rfl
        rotate_left
        (try simp only [Act.put, List.setIfInBounds_toArray, List.set_cons_zero, List.set_cons_succ])
        refine wpAnyH_take (i := 3) (oi := ⟨_, _, _, _, _, _⟩) (v := ?_) rfl (by kernel_rfl) (by kernel_rfl) (by kernel_rfl) (fun _ _ _ h => h) (Or.inl ⟨by rfl, ?_⟩) (by assumption) ?_
        rotate_left
        · intro w' hSw
          (try dsimp only at hSw)
          go_simp <;> with_reducible rfl
        rotate_left
        (try simp only [Act.put, List.setIfInBounds_toArray, List.set_cons_zero, List.set_cons_succ])
        refine wpAnyH_take (i := 4) (oi := ⟨_, _, _, _, _, _⟩) (v := ?_) rfl (by kernel_rfl) (by kernel_rfl) (by kernel_rfl) (fun _ _ _ h => h) (Or.inl ⟨by rfl, ?_⟩) (by assumption) ?_
        rotate_left
        · intro w' hSw
          (try dsimp only at hSw)
          go_simp <;> with_reducible rfl
        rotate_left
        (try simp only [Act.put, List.setIfInBounds_toArray, List.set_cons_zero, List.set_cons_succ])
        refine wpAnyH_take (i := 5) (oi := ⟨_, _, _, _, _, _⟩) (v := ?_) rfl (by kernel_rfl) (by kernel_rfl) (by kernel_rfl) (fun _ _ _ h => h) (Or.inl ⟨by rfl, ?_⟩) (by assumption) ?_
        rotate_left
        · intro w' hSw
          (try dsimp only at hSw)
          go_simp <;> with_reducible rfl
        rotate_left
        (try simp only [Act.put, List.setIfInBounds_toArray, List.set_cons_zero, List.set_cons_succ])
        refine wpAnyH_take (i := 6) (oi := ⟨_, _, _, _, _, _⟩) (v := ?_) rfl (by kernel_rfl) (by kernel_rfl) (by kernel_rfl) (fun _ _ _ h => h) (Or.inl ⟨by rfl, ?_⟩) (by assumption) ?_
        rotate_left
        · intro w' hSw
          (try dsimp only at hSw)
          go_simp <;> with_reducible rfl
        rotate_left
        (try simp only [Act.put, List.setIfInBounds_toArray, List.set_cons_zero, List.set_cons_succ])
        refine wpAnyH_take (i := 7) (oi := ⟨_, _, _, _, _, _⟩) (v := ?_) rfl (by kernel_rfl) (by kernel_rfl) (by kernel_rfl) (fun _ _ _ h => h) (Or.inl ⟨by rfl, ?_⟩) (by assumption) ?_
        rotate_left
        · intro w' hSw
          (try dsimp only at hSw)
          go_simp <;> with_reducible rfl
        rotate_left
        (try simp only [Act.put, List.setIfInBounds_toArray, List.set_cons_zero, List.set_cons_succ])
        refine wpAnyH_take (i := 9) (oi := ⟨_, _, _, _, _, _⟩) (v := ?_) rfl (by kernel_rfl) (by kernel_rfl) (by kernel_rfl) (fun _ _ _ h => h) (Or.inl ⟨by rfl, ?_⟩) (by assumption) ?_
        rotate_left
        · intro w' hSw
          (try dsimp only at hSw)
          go_simp <;> with_reducible rfl
        rotate_left
        (try simp only [Act.put, List.setIfInBounds_toArray, List.set_cons_zero, List.set_cons_succ])
        refine wpAnyH_ready (rs := [8, 10]) (by kernel_rfl) (by simp) ?_
        refine AllReadyH.cons (o := ⟨_, _, _, _, _, _⟩) rfl (fun K hK => ?_) (AllReadyH.cons (o := ⟨_, _, _, _, _, _⟩) rfl (fun K hK => ?_) AllReadyH.nil)
        · go_simp
          skip
          refine hK.out _ _ ?_ (fun hHeld => ?_)
          · (try dsimp only)
            first | assumption | exact keep_store hDg c1 | go_keep
          clear hK K
          (try simp only [Act.put, List.setIfInBounds_toArray, List.set_cons_zero, List.set_cons_succ])
          refine wpAnyH_ready (rs := [10]) (by kernel_rfl) (by simp) ?_
          refine AllReadyH.cons (o := ⟨_, _, _, _, _, _⟩) rfl (fun K hK => ?_) AllReadyH.nil
          go_simp
          go_wp2_with (go_at_call 12; refine (HPQ.out _).mono ?_; rintro e v' ⟨rfl, rfl⟩)
          refine hK.out _ _ ?_ (fun hHeld => ?_)
          · (try dsimp only)
            first | assumption | exact keep_store hDg c1 | go_keep
          clear hK K
          (try simp only [Act.put, List.setIfInBounds_toArray, List.set_cons_zero, List.set_cons_succ])
          refine wpAnyH_take (i := 11) (oi := ⟨_, _, _, _, _, _⟩) (v := ?_) rfl (by kernel_rfl) (by kernel_rfl) (by kernel_rfl) (fun _ _ _ h => h) (Or.inl ⟨by rfl, ?_⟩) (by assumption) ?_
          rotate_left
          · intro w' hSw
            (try dsimp only at hSw)
            go_simp <;> with_reducible rfl
          rotate_left
          (try simp only [Act.put, List.setIfInBounds_toArray, List.set_cons_zero, List.set_cons_succ])
          refine wpAnyH_take (i := 12) (oi := ⟨_, _, _, _, _, _⟩) (v := ?_) rfl (by kernel_rfl) (by kernel_rfl) (by kernel_rfl) (fun _ _ _ h => h) (Or.inl ⟨by rfl, ?_⟩) (by assumption) ?_
          rotate_left
          · intro w' hSw
            (try dsimp only at hSw)
            go_simp <;> with_reducible rfl
          rotate_left
          (try simp only [Act.put, List.setIfInBounds_toArray, List.set_cons_zero, List.set_cons_succ])
          refine wpAnyH_take (i := 13) (oi := ⟨_, _, _, _, _, _⟩) (v := ?_) rfl (by kernel_rfl) (by kernel_rfl) (by kernel_rfl) (fun _ _ _ h => h) (Or.inl ⟨by rfl, ?_⟩) (by assumption) ?_
          rotate_left
          · intro w' hSw
            (try dsimp only at hSw)
            go_simp <;> with_reducible rfl
          rotate_left
          (try simp only [Act.put, List.setIfInBounds_toArray, List.set_cons_zero, List.set_cons_succ])
          refine wpAnyH_take (i := 14) (oi := ⟨_, _, _, _, _, _⟩) (v := ?_) rfl (by kernel_rfl) (by kernel_rfl) (by kernel_rfl) (fun _ _ _ h => h) (Or.inl ⟨by rfl, ?_⟩) (by assumption) ?_
          rotate_left
          · intro w' hSw
            (try dsimp only at hSw)
            go_simp <;> with_reducible rfl
          rotate_left
          (try simp only [Act.put, List.setIfInBounds_toArray, List.set_cons_zero, List.set_cons_succ])
          refine wpAnyH_ready (rs := [15]) (by kernel_rfl) (by simp) ?_
          refine AllReadyH.cons (o := ⟨_, _, _, _, _, _⟩) rfl (fun K hK => ?_) AllReadyH.nil
          go_simp
          skip
          refine hK.out _ _ ?_ (fun hHeld => ?_)
          · (try dsimp only)
            first | assumption | exact keep_store hDg c1 | go_keep
          clear hK K
          (try simp only [Act.put, List.setIfInBounds_toArray, List.set_cons_zero, List.set_cons_succ])
          refine wpAnyH_done (by kernel_rfl) ?_ _
          refine NoPanic.normal ?_
          go_wp2_with fail
          go_meet
          case rel => exact DSt.drew <| dst_row (i := 1) { p with head := x } _ HD.out HO.out HBC.out hgw hDg hp (by omega) (put_head p _) HOK.out ⟨pl1, pl2, hx, pd⟩ (by omega)
        · go_simp
          go_wp2_with (go_at_call 12; refine (HPQ.out _).mono ?_; rintro e v' ⟨rfl, rfl⟩)
          refine hK.out _ _ ?_ (fun hHeld => ?_)
          · (try dsimp only)
            first | assumption | exact keep_store hDg c1 | go_keep
          clear hK K
          (try simp only [Act.put, List.setIfInBounds_toArray, List.set_cons_zero, List.set_cons_succ])
          refine wpAnyH_take (i := 11) (oi := ⟨_, _, _, _, _, _⟩) (v := ?_) rfl (by kernel_rfl) (by kernel_rfl) (by kernel_rfl) (fun _ _ _ h => h) (Or.inl ⟨by rfl, ?_⟩) (by assumption) ?_
          rotate_left
          · intro w' hSw
            (try dsimp only at hSw)
            go_simp <;> with_reducible rfl
          rotate_left
          (try simp only [Act.put, List.setIfInBounds_toArray, List.set_cons_zero, List.set_cons_succ])
          refine wpAnyH_ready (rs := [8]) (by kernel_rfl) (by simp) ?_
          refine AllReadyH.cons (o := ⟨_, _, _, _, _, _⟩) rfl (fun K hK => ?_) AllReadyH.nil
          go_simp
          skip
          refine hK.out _ _ ?_ (fun hHeld => ?_)
          · (try dsimp only)
            first | assumption | exact keep_store hDg c1 | go_keep
          clear hK K
          (try simp only [Act.put, List.setIfInBounds_toArray, List.set_cons_zero, List.set_cons_succ])
          refine wpAnyH_take (i := 12) (oi := ⟨_, _, _, _, _, _⟩) (v := ?_) rfl (by kernel_rfl) (by kernel_rfl) (by kernel_rfl) (fun _ _ _ h => h) (Or.inl ⟨by rfl, ?_⟩) (by assumption) ?_
          rotate_left
          · intro w' hSw
            (try dsimp only at hSw)
            go_simp <;> with_reducible rfl
          rotate_left
          (try simp only [Act.put, List.setIfInBounds_toArray, List.set_cons_zero, List.set_cons_succ])
          refine wpAnyH_take (i := 13) (oi := ⟨_, _, _, _, _, _⟩) (v := ?_) rfl (by kernel_rfl) (by kernel_rfl) (by kernel_rfl) (fun _ _ _ h => h) (Or.inl ⟨by rfl, ?_⟩) (by assumption) ?_
          rotate_left
          · intro w' hSw
            (try dsimp only at hSw)
            go_simp <;> with_reducible rfl
          rotate_left
          (try simp only [Act.put, List.setIfInBounds_toArray, List.set_cons_zero, List.set_cons_succ])
          refine wpAnyH_take (i := 14) (oi := ⟨_, _, _, _, _, _⟩) (v := ?_) rfl (by kernel_rfl) (by kernel_rfl) (by kernel_rfl) (fun _ _ _ h => h) (Or.inl ⟨by rfl, ?_⟩) (by assumption) ?_
          rotate_left
          · intro w' hSw
            (try dsimp only at hSw)
            go_simp <;> with_reducible rfl
          rotate_left
          (try simp only [Act.put, List.setIfInBounds_toArray, List.set_cons_zero, List.set_cons_succ])
          refine wpAnyH_ready (rs := [15]) (by kernel_rfl) (by simp) ?_
          refine AllReadyH.cons (o := ⟨_, _, _, _, _, _⟩) rfl (fun K hK => ?_) AllReadyH.nil
          go_simp
          skip
          refine hK.out _ _ ?_ (fun hHeld => ?_)
          · (try dsimp only)
            first | assumption | exact keep_store hDg c1 | go_keep
          clear hK K
          (try simp only [Act.put, List.setIfInBounds_toArray, List.set_cons_zero, List.set_cons_succ])
          refine wpAnyH_done (by kernel_rfl) ?_ _
          refine NoPanic.normal ?_
          go_wp2_with fail
          go_meet
          case rel => exact DSt.drew <| dst_row (i := 1) { p with head := x } _ HD.out HO.out HBC.out hgw hDg hp (by omega) (put_head p _) HOK.out ⟨pl1, pl2, hx, pd⟩ (by omega)
      · as_aux_lemma =>
        obtain ⟨q, hq⟩ : ∃ q : Nat, a5 % 2 = (q : Int) := ⟨(a5 % 2).toNat, by omega⟩
        have hql : q < 2 := by omega
        have hpq := fun W => pick2_x a5 2 W (by omega) (by omega)
        rw [hq] at hpq
        have HPQ := Lib.hid hpq
        clear hq hpq
        have e1 : IntKind.u64.wrap (q : Int) = (q : Int) := IntWalk.u64_in _ ⟨by omega, by omega⟩
        obtain ⟨x, e2, hx⟩ := u64_some ((q : Int) * 72057594037927680)
        have fL : wc.frozen? ⟨g, kp * 9 + 1, none⟩ = false := own_frozenP HO.out
        have cL : wc.cell? ⟨g, kp * 9 + 1, none⟩ = some (.int .u64 (p.head : Int)) := own_pcell (i := 1) HO.out hp (by omega)
        go_wp2_with fail
        go_region_with (go_at_call 12; refine (HPQ.out _).mono ?_; rintro e v' ⟨rfl, rfl⟩)
        all_goals
          go_wp2_with fail
          go_meet
          case rel => exact DSt.drew <| dst_row (i := 1) { p with head := x } _ HD.out HO.out HBC.out hgw hDg hp (by omega) (put_head p _) HOK.out ⟨pl1, pl2, hx, pd⟩ (by omega)
      · as_aux_lemma =>
        obtain ⟨q, hq⟩ : ∃ q : Nat, a5 % 7 = (q : Int) := ⟨(a5 % 7).toNat, by omega⟩
        have hql : q < 7 := by omega
        have hpq := fun W => pick2_x a5 7 W (by omega) (by omega)
        rw [hq] at hpq
        have HPQ := Lib.hid hpq
        clear hq hpq
        obtain ⟨x, e2, hx⟩ := u64_some ((p.d q : Int) + 1)
        have cL : wc.cell? ⟨g, kp * 9 + 2 + q, none⟩ = some (.int .u64 (p.d q : Int)) := by
          rw [Nat.add_assoc, own_pcell (i := 2 + q) HO.out hp (by omega)]
          exact cells_d p q hql
        have fL : wc.frozen? ⟨g, kp * 9 + 2 + q, none⟩ = false := own_frozenP HO.out
        have b3 : (0 : Int) ≤ (q : Int) := Int.natCast_nonneg _
        have b4 : (q : Int) < 7 := by omega
        go_wp2_with fail
        go_region_with (go_at_call 12; refine (HPQ.out _).mono ?_; rintro e v' ⟨rfl, rfl⟩)
        all_goals
          go_wp2_with fail
          go_meet
          case rel => (rw [Nat.add_assoc]; exact DSt.drew <| dst_row (i := 2 + q) { p with d := fun m => if m = q then x else p.d m } _ HD.out HO.out HBC.out hgw hDg hp (by omega) (put_d p q x hql) HOK.out ⟨pl1, pl2, ph, fun m hm => by show (if m = q then x else p.d m) < _; split; exact hx; exact pd m hm⟩ (by omega))
      · as_aux_lemma =>
        obtain ⟨adt, hT, had⟩ := cut_tail g k cd 1 hl1 hkc
        rw [show ((1 : Nat) : Int) = 1 from rfl] at hT
        have HAD := Lib.hid had
        clear had
        go_wp2_with fail
        go_meet
        case rel => exact dst_cut HD.out (tail_reads HO.out HOK.out (by omega) hl1 HAD.out) HBC.out hDw
      · as_aux_lemma =>
        go_wp2_with fail
        go_meet
        case rel => exact dst_id HD.out HRO.out HBC.out
    case rest =>
     as_aux_lemma =>
      obtain ⟨s', n', c', A', ps', hD, hr, hbd⟩ := hcut
      have HXd := Lib.hid ((hbd.block _ (Array.getElem?_eq_some_iff.1 HX2.out).1).trans HX2.out)
      have HYd := Lib.hid ((hbd.block _ (Array.getElem?_eq_some_iff.1 HY2.out).1).trans HY2.out)
      have HRd := Lib.hid ((hbd.block _ hRw).trans HR1.out)
      have HDd := Lib.hid hD
      have HBd := Lib.hid (HB2.out.trans (hbd.mono HB2.out.size))
      have HP1d := Lib.hid (HP1.out.more HBd.out)
      have HP2d := Lib.hid (HP2.out.more HBd.out)
      have HP3d := Lib.hid (HP3.out.more hbd)
      have HP4d := Lib.hid hr
      clear c0 c1 f0 f1 hD hr hbd
      obtain ⟨V1, hV1⟩ : ∃ V, validN a0 ps1 a3 = V := ⟨_, rfl⟩
      obtain ⟨V2, hV2⟩ : ∃ V, validN a0 ps1 ((k3 : Int) + 94) = V := ⟨_, rfl⟩
      obtain ⟨V3, hV3⟩ : ∃ V, validN s' ps' ((k3 : Int) + 94) = V := ⟨_, rfl⟩
      obtain ⟨E1, hE1⟩ : ∃ E, (a0 == a0 && samePs ps1 ps2) = E := ⟨_, rfl⟩
      obtain ⟨E2, hE2⟩ : ∃ E, (s == s' && samePs ps ps') = E := ⟨_, rfl⟩
      have hva1 := fun W (h : Below wc.heap.size wc W) => valid_x a0 a3 n1 cap1 A1 ps1 W (HP1d.out.more h)
      have hva2 := fun W (h : Below wc.heap.size wc W) => valid_x a0 ((k3 : Int) + 94) n1 cap1 A1 ps1 W (HP1d.out.more h)
      have hva3 := fun W (h : Below wc.heap.size wc W) => valid_x s' ((k3 : Int) + 94) n' c' A' ps' W (HP4d.out.more h)
      have hvr1 := fun W (h : Below wc.heap.size wc W) => validrecord_x a0 a3 n1 cap1 A1 ps1 W (HP1d.out.more h)
      have hvr2 := fun W (h : Below wc.heap.size wc W) => validrecord_x a0 ((k3 : Int) + 94) n1 cap1 A1 ps1 W (HP1d.out.more h)
      have hvr3 := fun W (h : Below wc.heap.size wc W) => validrecord_x s' ((k3 : Int) + 94) n' c' A' ps' W (HP4d.out.more h)
      have hsa1 := fun W (h : Below wc.heap.size wc W) => same_x a0 a0 n1 n2 cap1 cap2 A1 A2 ps1 ps2 W (HP1d.out.more h) (HP2d.out.more h)
      have hsa2 := fun W (h : Below wc.heap.size wc W) => same_x s s' k n' c3 c' (some ⟨b3, o3, none⟩) A' ps ps' W (HP3d.out.more h) (HP4d.out.more h)
      have hsr1 := fun W (h : Below wc.heap.size wc W) => samerecord_x a0 a0 n1 n2 cap1 cap2 A1 A2 ps1 ps2 W (HP1d.out.more h) (HP2d.out.more h)
      have hsr2 := fun W (h : Below wc.heap.size wc W) => samerecord_x s s' k n' c3 c' (some ⟨b3, o3, none⟩) A' ps ps' W (HP3d.out.more h) (HP4d.out.more h)
      have hsa3 := fun W (h : Below wc.heap.size wc W) => same_t (a := s) (cap := c3) (cap' := c3) (HP3d.out.more h) (HP3d.out.more h) (samePs_refl ps)
      rw [hV1] at hva1 hvr1
      rw [hV2] at hva2 hvr2
      rw [hV3] at hva3 hvr3
      rw [hE1] at hsa1 hsr1
      rw [hE2] at hsa2 hsr2
      have HHva1 := Lib.hid hva1
      have HHva2 := Lib.hid hva2
      have HHva3 := Lib.hid hva3
      have HHvr1 := Lib.hid hvr1
      have HHvr2 := Lib.hid hvr2
      have HHvr3 := Lib.hid hvr3
      have HHsa1 := Lib.hid hsa1
      have HHsa2 := Lib.hid hsa2
      have HHsr1 := Lib.hid hsr1
      have HHsr2 := Lib.hid hsr2
      have HHsa3 := Lib.hid hsa3
      clear hva1 hva2 hva3 hvr1 hvr2 hvr3 hsa1 hsa2 hsr1 hsr2 hsa3 hV1 hV2 hV3 hE1 hE2
      go_wp2_with (first | (go_at_call 12; refine (HPK3.out _).mono ?_; rintro e v' ⟨rfl, rfl⟩) | fail)
      obtain ⟨C, hC⟩ : ∃ C : World → Prop, C = fun w' => Below wc.heap.size wc w' := ⟨_, rfl⟩
      have hex : ∃ x, C x := ⟨wc, by rw [hC]; exact Below.refl _ _⟩
      have hCs : C { wc with drawn := wc.drawn + 1 } := by rw [hC]; exact (Below.refl _ _).drew
      have HC := Lib.hid hC
      clear hC
      have hL : ∀ w', C w' → ∀ (j : Nat) (v : Value), #[.int .i64 a0, .slice A1 n1 cap1][j]? = some v → w'.cell? ((⟨X, 0, none⟩ : Addr).add j) = some v := by
        intro w' hc
        rw [HC.out] at hc
        exact cells_in ((hc.block _ (Array.getElem?_eq_some_iff.1 HXd.out).1).trans HXd.out)
      have HL0 := Lib.hid hL
      clear hL
      have hL : ∀ w', C w' → ∀ (j : Nat) (v : Value), #[.int .i64 a0, .slice A2 n2 cap2][j]? = some v → w'.cell? ((⟨Y, 0, none⟩ : Addr).add j) = some v := by
        intro w' hc
        rw [HC.out] at hc
        exact cells_in ((hc.block _ (Array.getElem?_eq_some_iff.1 HYd.out).1).trans HYd.out)
      have HL1 := Lib.hid hL
      clear hL
      have hL : ∀ w', C w' → ∀ (j : Nat) (v : Value), #[.int .i64 s, .slice (some ⟨b3, o3, none⟩) k c3][j]? = some v → w'.cell? ((⟨R, 0, none⟩ : Addr).add j) = some v := by
        intro w' hc
        rw [HC.out] at hc
        exact cells_in ((hc.block _ (Array.getElem?_eq_some_iff.1 HRd.out).1).trans HRd.out)
      have HL2 := Lib.hid hL
      clear hL
      have hL : ∀ w', C w' → ∀ (j : Nat) (v : Value), #[.int .i64 s', .slice A' n' c'][j]? = some v → w'.cell? ((⟨D, 0, none⟩ : Addr).add j) = some v := by
        intro w' hc
        rw [HC.out] at hc
        exact cells_in ((hc.block _ (Array.getElem?_eq_some_iff.1 HDd.out).1).trans HDd.out)
      have HL3 := Lib.hid hL
      clear hL
      refine wp_region_quiet (C := C) (by kernel_rfl) (by kernel_rfl) hCs ?_
      clear hCs
      simp only
      repeat (first
        | go_big_quiet_skip
        | (go_big_quiet_want; first
          | (refine quiet_load 27 _ rfl ⟨X, 0, none⟩ rfl #[.int .i64 a0, .slice A1 n1 cap1] _ HL0.out Try.underlying27 rfl (by rw [size27]; rfl) ?_; simp only [Act.put, List.setIfInBounds_toArray, List.set_cons_succ, List.set_cons_zero]; go_big_quiet_on)
          | (refine quiet_load 27 _ rfl ⟨Y, 0, none⟩ rfl #[.int .i64 a0, .slice A2 n2 cap2] _ HL1.out Try.underlying27 rfl (by rw [size27]; rfl) ?_; simp only [Act.put, List.setIfInBounds_toArray, List.set_cons_succ, List.set_cons_zero]; go_big_quiet_on)
          | (refine quiet_load 27 _ rfl ⟨R, 0, none⟩ rfl #[.int .i64 s, .slice (some ⟨b3, o3, none⟩) k c3] _ HL2.out Try.underlying27 rfl (by rw [size27]; rfl) ?_; simp only [Act.put, List.setIfInBounds_toArray, List.set_cons_succ, List.set_cons_zero]; go_big_quiet_on)
          | (refine quiet_load 27 _ rfl ⟨D, 0, none⟩ rfl #[.int .i64 s', .slice A' n' c'] _ HL3.out Try.underlying27 rfl (by rw [size27]; rfl) ?_; simp only [Act.put, List.setIfInBounds_toArray, List.set_cons_succ, List.set_cons_zero]; go_big_quiet_on)
          | (go_big_quiet_op; first | go_big_quiet_on | go_big_quiet_call (first
            | (intro _; with_reducible rfl)
            | (intro hc; go_at_call 19; rw [HC.out] at hc ⊢; exact (awake_x _).mono fun _ _ ⟨he, h⟩ => ⟨he, hc.trans (h.mono hc.size)⟩)
            | (intro hc; go_at_call 21; rw [HC.out] at hc ⊢; exact (in_x _ _ _ _ _).mono fun _ _ ⟨he, h⟩ => ⟨he, hc.trans (h.mono hc.size)⟩)
            | (intro hc; go_at_call_of 23 a3; rw [HC.out] at hc ⊢; exact (HHva1.out _ hc).mono fun _ _ ⟨he, h⟩ => ⟨he, hc.trans (h.mono hc.size)⟩)
            | (intro hc; go_at_call_of 23 A'; rw [HC.out] at hc ⊢; exact (HHva3.out _ hc).mono fun _ _ ⟨he, h⟩ => ⟨he, hc.trans (h.mono hc.size)⟩)
            | (intro hc; go_at_call_of 23 A1; rw [HC.out] at hc ⊢; exact (HHva2.out _ hc).mono fun _ _ ⟨he, h⟩ => ⟨he, hc.trans (h.mono hc.size)⟩)
            | (intro hc; go_at_call_of 24 a3; rw [HC.out] at hc ⊢; exact (HHvr1.out _ hc).mono fun _ _ ⟨he, h⟩ => ⟨he, hc.trans (h.mono hc.size)⟩)
            | (intro hc; go_at_call_of 24 A'; rw [HC.out] at hc ⊢; exact (HHvr3.out _ hc).mono fun _ _ ⟨he, h⟩ => ⟨he, hc.trans (h.mono hc.size)⟩)
            | (intro hc; go_at_call_of 24 A1; rw [HC.out] at hc ⊢; exact (HHvr2.out _ hc).mono fun _ _ ⟨he, h⟩ => ⟨he, hc.trans (h.mono hc.size)⟩)
            | (intro hc; go_at_call_of 20 A2; rw [HC.out] at hc ⊢; exact (HHsa1.out _ hc).mono fun _ _ ⟨he, h⟩ => ⟨he, hc.trans (h.mono hc.size)⟩)
            | (intro hc; go_at_call_of 20 A'; rw [HC.out] at hc ⊢; exact (HHsa2.out _ hc).mono fun _ _ ⟨he, h⟩ => ⟨he, hc.trans (h.mono hc.size)⟩)
            | (intro hc; go_at_call 20; rw [HC.out] at hc ⊢; exact (HHsa3.out _ hc).mono fun _ _ ⟨he, h⟩ => ⟨he, hc.trans (h.mono hc.size)⟩)
            | (intro hc; go_at_call_of 17 A2; rw [HC.out] at hc ⊢; exact (HHsr1.out _ hc).mono fun _ _ ⟨he, h⟩ => ⟨he, hc.trans (h.mono hc.size)⟩)
            | (intro hc; go_at_call_of 17 A'; rw [HC.out] at hc ⊢; exact (HHsr2.out _ hc).mono fun _ _ ⟨he, h⟩ => ⟨he, hc.trans (h.mono hc.size)⟩)
            | fail))))
      refine wpQuiet_nil ?_
      intro vq hcq
      rw [HC.out] at hcq
      clear hex HC
      go_wp2
      go_ret
      have hbb := HBd.out.trans (hcq.mono HBd.out.size)
      exact ⟨by rfl, hbb⟩

set_option maxRecDepth 100000 in
set_option maxHeartbeats 4000000 in
theorem valid_law (a0 : Int) (a1 : Option Addr) (len1 cap1 : Nat) (a2 : Option Addr) (len2 cap2 : Nat) (a3 : Int) (a4 : Option Addr) (len4 cap4 : Nat) (z4 : List Int) (a5 : Int) (w : World)
    (w0 : (Lit.int .i64 a0).wf = true) (w1 : (len1 : Int) ≤ 1000000 → ∃ ps, ReadsP w a1 len1 ps) (w2 : (len2 : Int) ≤ 1000000 → ∃ ps, ReadsP w a2 len2 ps) (w3 : (Lit.int .i64 a3).wf = true) (w4 : IsRow .i64 w a4 len4 cap4 z4) (w5 : (Lit.int .i64 a5).wf = true) :
    Calls Try.prog 5 #[.int .i64 a0, .slice a1 len1 cap1, .slice a2 len2 cap2, .int .i64 a3, .slice a4 len4 cap4, .int .i64 a5] w fun e w' => e = .returned (.bool true) ∧ Below w.heap.size w w' := by
  by_cases h20 : (20 : Int) < (len1 : Int)
  · clear w0 w1 w2 w3 w4 w5
    go_enter Try.func5, Try.ntmps5
    go_wp2
    go_ret
    exact ⟨rfl, Below.refl _ _⟩
  · by_cases h21 : (20 : Int) < (len2 : Int)
    · clear w0 w1 w2 w3 w4 w5
      go_enter Try.func5, Try.ntmps5
      go_wp2
      go_ret
      exact ⟨rfl, Below.refl _ _⟩
    · by_cases h22 : (20 : Int) < (len4 : Int)
      · clear w0 w1 w2 w3 w4 w5
        go_enter Try.func5, Try.ntmps5
        go_wp2
        go_ret
        exact ⟨rfl, Below.refl _ _⟩
      · obtain ⟨ps1, hp1⟩ := w1 (by omega)
        obtain ⟨ps2, hp2⟩ := w2 (by omega)
        exact valid_core a0 a3 a5 len1 cap1 len2 cap2 len4 cap4 a1 a2 a4 ps1 ps2 _ w hp1 hp2 (isrow_readsI w4 (by omega)) h20 h21 h22 (wf_i64 w0) (wf_i64 w3) (wf_i64 w5)
end Go.Proofs.Ytmeppeadfhifeaa
