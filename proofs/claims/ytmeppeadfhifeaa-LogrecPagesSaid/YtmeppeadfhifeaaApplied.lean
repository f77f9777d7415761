/- Applied, in package logrec and in the reference: a page's words after the transaction. Condition: the page's numbers are words. -/
import Derived.Test.YtmeppeadfhifeaaParse
namespace Go.Proofs.Ytmeppeadfhifeaa
open Go.RowKit Go.Shelf
set_option linter.unusedVariables false
set_option linter.unusedSimpArgs false

def apN (p : Pg) : List Nat := if nextOk p.head = true then nextV p.head :: dataW p 7 else []
def ApR (p : Pg) (w : World) (e : Ending) (w' : World) : Prop :=
  (∃ A c, e = .returned (.tuple #[.slice A (apN p).length c, .int .i64 (nextE p.head)]) ∧ ReadsW w' A (apN p).length (apN p)) ∧ Below w.heap.size w w'
theorem readsW_nil (w : World) : ReadsW w none 0 [] := ⟨rfl, by omega, fun k hk => by omega⟩
theorem apN_ok (p : Pg) (hp : p.ok) : WordsOk (nextV p.head :: dataW p 7) := by
  intro x hx
  rcases List.mem_cons.1 hx with rfl | hx
  · have := hp.2.2.1
    unfold nextV
    split
    · rename_i h
      unfold nextOk at h
      rw [decide_eq_true_eq] at h
      omega
    · omega
  · unfold dataW at hx
    obtain ⟨j, hj, rfl⟩ := List.mem_map.1 hx
    exact hp.2.2.2 j (List.mem_range.1 hj)
theorem own_lit1 (W : World) (base : Nat) (x : Nat) (hb : base ≤ W.heap.size) : (W.alloc (.cells #[.int .u64 (x : Int)] 23)).ownsRow base 23 1 (.slice (some ⟨W.heap.size, 0, none⟩) 1 1) 1 (wcells [x]) :=
  World.ownsRow_lit (base := base) (size := 1) (e := 23) W #[.int .u64 (x : Int)] 1 hb (by unfold maxLen; omega) rfl
theorem apR_no (p : Pg) (w w' : World) (h : nextOk p.head = false) (hb : Below w.heap.size w w') : ApR p w (.returned (.tuple #[.slice none 0 0, .int .i64 2])) w' := by
  have e1 : nextE p.head = 2 := by unfold nextE; rw [h]; rfl
  have e2 : apN p = [] := if_neg (by rw [h]; decide)
  refine ⟨⟨none, 0, ?_, ?_⟩, hb⟩
  · rw [e1, e2]; rfl
  · rw [e2]; exact readsW_nil _
theorem apR_yes (p : Pg) (w w' : World) (base : Nat) (v : Value) (hp : p.ok) (h : nextOk p.head = true) (ho : w'.ownsRow base 23 1 v 8 (wcells (nextV p.head :: dataW p 7))) (hb : Below w.heap.size w w') : ApR p w (.returned (.tuple #[v, .int .i64 0])) w' := by
  have e1 : nextE p.head = 0 := by unfold nextE; rw [h]; rfl
  have e2 : apN p = nextV p.head :: dataW p 7 := if_pos h
  obtain ⟨A, c, rfl, hr⟩ := own_readsW ho (apN_ok p hp) (by omega)
  refine ⟨⟨A, c, ?_, ?_⟩, hb⟩
  · rw [e1, e2]; rfl
  · rw [e2]; exact hr

set_option maxHeartbeats 4000000 in
theorem applied_x (p : Pg) (w : World) (hp : p.ok) : Calls Try.prog 32 #[.agg p.cells] w (ApR p w) := by
  obtain ⟨i0, hi, hz0, hz1, hz2⟩ := info_parts info23
  have hx := fun W => next_x p.head W hp.2.2.1
  cases hn : nextOk p.head
  · have HE := Lib.hid (fun w' hb => apR_no p w w' hn hb)
    have e1 : nextE p.head = 2 := by unfold nextE; rw [hn]; rfl
    rw [e1] at hx
    have HX := Lib.hid hx
    clear hp hn e1 hx
    unfold Pg.cells
    go_enter Try.func32, Try.ntmps32
    go_wp2_with (first | (go_at_call 42; refine (HX.out _).mono ?_; rintro e w' ⟨rfl, rfl⟩) | fail)
    go_ret2
    exact HE.out _ ((Below.refl _ w).alloc (Nat.le_refl _) _)
  · have HE := Lib.hid (fun w' base v ho hb => apR_yes p w w' base v hp hn ho hb)
    have e1 : nextE p.head = 0 := by unfold nextE; rw [hn]; rfl
    rw [e1] at hx
    have HX := Lib.hid hx
    clear hp hn e1 hx
    have hown := own_lit1 (w.alloc (.cells p.cells 49)) (w.heap.size + 1) (nextV p.head) (by simp)
    rw [World.size_alloc] at hown
    have hcd : ∀ j u, (dataC p)[j]? = some u → ((w.alloc (.cells p.cells 49)).alloc (.cells #[.int .u64 (nextV p.head : Int)] 23)).cell? ((⟨w.heap.size, 2, none⟩ : Addr).add j) = some u := by
      intro j u hj
      exact (((Below.refl _ (w.alloc (.cells p.cells 49))).alloc (Nat.le_refl _) _).cell (by rw [block_add]; simp)).trans (data_cells w p j u hj)
    have hbel : Below w.heap.size w ((w.alloc (.cells p.cells 49)).alloc (.cells #[.int .u64 (nextV p.head : Int)] 23)) := ((Below.refl _ w).alloc (Nat.le_refl _) _).alloc (by simp) _
    have HO := Lib.hid hown
    have HC := Lib.hid hcd
    have HB := Lib.hid hbel
    clear hown hcd hbel
    unfold Pg.cells at HO HC HB ⊢
    go_enter Try.func32, Try.ntmps32
    go_wp2_with (first
      | (go_at_call 42; refine (HX.out _).mono ?_; rintro e w' ⟨rfl, rfl⟩)
      | (at_builtin; refine wpList_append_own _ rfl _ _ 24 rfl (w.heap.size + 1) 23 i0 (.int .u64 0) 1 8 Try.underlying24 hi hz0 hz1 hz2 rfl (by decide) _ _ _ rfl HO.out ⟨w.heap.size, 2, none⟩ 7 7 (dataC p) rfl rfl HC.out (dataC_one p) (by unfold maxLen; omega) (by omega) (by simp) ?_)
      | fail)
    intro v' w4 hown4 hgrow4 _
    have hb4 := HB.out.grown hgrow4 (by simp; omega) (fun k e => by have := (HO.out.lt k e).1; omega)
    have HO4 := Lib.hid hown4
    clear hown4 hgrow4
    go_wp2
    go_ret2
    refine HE.out _ (w.heap.size + 1) v' ?_ hb4
    have h := HO4.out
    exact h

set_option maxHeartbeats 4000000 in
theorem rapplied_x (p : Pg) (w : World) (hp : p.ok) : Calls Try.prog 33 #[.agg p.cells] w (ApR p w) := by
  obtain ⟨i0, hi, hz0, hz1, hz2⟩ := info_parts info23
  have hx := fun W => rnext_x p.head W hp.2.2.1
  cases hn : nextOk p.head
  · have HE := Lib.hid (fun w' hb => apR_no p w w' hn hb)
    have e1 : nextE p.head = 2 := by unfold nextE; rw [hn]; rfl
    rw [e1] at hx
    have HX := Lib.hid hx
    clear hp hn e1 hx
    unfold Pg.cells
    go_enter Try.func33, Try.ntmps33
    go_wp2_with (first | (go_at_call 45; refine (HX.out _).mono ?_; rintro e w' ⟨rfl, rfl⟩) | fail)
    go_ret2
    exact HE.out _ ((Below.refl _ w).alloc (Nat.le_refl _) _)
  · have HE := Lib.hid (fun w' base v ho hb => apR_yes p w w' base v hp hn ho hb)
    have e1 : nextE p.head = 0 := by unfold nextE; rw [hn]; rfl
    rw [e1] at hx
    have HX := Lib.hid hx
    clear hp hn e1 hx
    have hown := own_lit1 (w.alloc (.cells p.cells 49)) (w.heap.size + 1) (nextV p.head) (by simp)
    rw [World.size_alloc] at hown
    have hbel : Below w.heap.size w ((w.alloc (.cells p.cells 49)).alloc (.cells #[.int .u64 (nextV p.head : Int)] 23)) := ((Below.refl _ w).alloc (Nat.le_refl _) _).alloc (by simp) _
    have hbox : ((w.alloc (.cells p.cells 49)).alloc (.cells #[.int .u64 (nextV p.head : Int)] 23)).heap[w.heap.size]? = some (.cells p.cells 49 (0, 0)) := (Below.heap_alloc _ _ _ (by simp)).trans (heap_alloc_new w _)
    have hsz : w.heap.size + 1 ≤ ((w.alloc (.cells p.cells 49)).alloc (.cells #[.int .u64 (nextV p.head : Int)] 23)).heap.size := by simp
    have HO := Lib.hid hown
    have HB := Lib.hid hbel
    have HX0 := Lib.hid hbox
    have HSZ := Lib.hid hsz
    clear hown hbel hbox hsz
    unfold Pg.cells at HO HB HX0 HSZ ⊢
    go_enter Try.func33, Try.ntmps33
    go_wp2_with (first
      | (go_at_call 45; refine (HX.out _).mono ?_; rintro e w' ⟨rfl, rfl⟩)
      | fail)
    generalize (w.alloc (.cells #[.int .i64 p.line, .int .u64 (p.head : Int), .int .u64 (p.d 0 : Int), .int .u64 (p.d 1 : Int), .int .u64 (p.d 2 : Int), .int .u64 (p.d 3 : Int), .int .u64 (p.d 4 : Int), .int .u64 (p.d 5 : Int), .int .u64 (p.d 6 : Int)] 49)).alloc (.cells #[.int .u64 (nextV p.head : Int)] 23) = w2 at *
    go_loopg [6, 7] 7 (fun g s6 s7 wx => ∃ j : Nat, j + g = 7 ∧ s7 = .int .i64 j ∧ wx.ownsRow (w.heap.size + 1) 23 1 s6 (1 + j) (wcells (nextV p.head :: dataW p j)) ∧ wx.heap[w.heap.size]? = some (.cells p.cells 49 (0, 0)) ∧ w.heap.size + 1 ≤ wx.heap.size ∧ Below w.heap.size w wx)
    case atStart => exact ⟨0, by omega, rfl, by simpa [dataW] using HO.out, HX0.out, HSZ.out, HB.out⟩
    case round =>
      obtain ⟨j, hj, rfl, hown, hbox, hszx, hbel⟩ := hrel
      clear HO HB HX0 HSZ
      have HO := Lib.hid hown
      have HX1 := Lib.hid hbox
      clear hown hbox
      cases gk with
      | zero =>
        have hge : ¬ ((j : Int) < 7) := by omega
        have HJ := Lib.hid (show j = 7 by omega)
        go_wp2
        go_ret2
        refine HE.out _ (w.heap.size + 1) _ ?_ hbel
        have h := HO.out
        rw [HJ.out] at h
        exact h
      | succ g =>
        have hlt : (j : Int) < 7 := by omega
        have qd : wr.cell? ⟨w.heap.size, 2 + j, none⟩ = some (.int .u64 (p.d j : Int)) := by
          simp [World.cell?, HX1.out, cells_d p j (by omega)]
        go_wp2_with (first
          | (at_builtin; refine wpList_append_own _ rfl _ _ 24 rfl (w.heap.size + 1) 23 i0 (.int .u64 0) 1 8 Try.underlying24 hi hz0 hz1 hz2 rfl (by decide) _ _ _ rfl (HO.out.alloc _) ⟨wr.heap.size, 0, none⟩ 1 1 [.int .u64 (p.d j : Int)] rfl rfl ?c1 ?c2 ?c3 ?c4 ?c5 ?_)
          | fail)
        case c1 => exact cell_one23 _ _
        case c2 => intro u hu; simp at hu; subst hu; rfl
        case c3 => unfold maxLen; omega
        case c4 => omega
        case c5 => simp; omega
        intro v' w6 hown6 hgrow6 _
        have hbel6 := (hbel.alloc hbel.size _).grown hgrow6 (by have := hbel.size; simp; omega) (fun k e => by have := (HO.out.lt k e).1; omega)
        have hbx6 : w6.heap[w.heap.size]? = some (.cells p.cells 49 (0, 0)) :=
          (hgrow6.block _ (by simp; omega) (by intro e; have := (HO.out.lt _ e.symm).1; omega)).trans ((Below.heap_alloc _ _ _ (by omega)).trans HX1.out)
        have hsz6 : w.heap.size + 1 ≤ w6.heap.size := by have := hgrow6.size; simp at this; omega
        have HO6 := Lib.hid hown6
        have HX6 := Lib.hid hbx6
        clear hgrow6 hown6 hbx6
        go_wp2
        go_roundg g
        case measure => omega
        case rel =>
          refine ⟨j + 1, by omega, by go_num, ?_, HX6.out, hsz6, hbel6⟩
          rw [dataW_succ, ← List.cons_append, wcells_snoc]
          exact HO6.out
end Go.Proofs.Ytmeppeadfhifeaa
