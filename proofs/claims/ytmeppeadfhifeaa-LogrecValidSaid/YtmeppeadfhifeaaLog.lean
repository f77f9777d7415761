/- The hand-made log. Conditions: the record is valid and its writes read as pages. -/
import Derived.Test.YtmeppeadfhifeaaRecord
namespace Go.Proofs.Ytmeppeadfhifeaa
open Go.RowKit Go.Shelf
set_option linter.unusedVariables false
set_option linter.unusedSimpArgs false

def wl (f : Nat → Nat) : List Nat := (List.range 120).map f
theorem wl_length (f : Nat → Nat) : (wl f).length = 120 := by simp [wl]
theorem wl_congr (f g : Nat → Nat) (h : ∀ j, j < 120 → f j = g j) : wl f = wl g := List.map_congr_left fun j hj => h j (List.mem_range.1 hj)
theorem wl_set (f : Nat → Nat) (k x : Nat) (hk : k < 120) : (wl f).set k x = wl (fun j => if j = k then x else f j) := by
  refine List.ext_getElem (by simp [wl]) (fun i h1 h2 => ?_)
  have hi : i < 120 := by simpa [wl] using h2
  rw [List.getElem_set]
  simp only [wl, List.getElem_map, List.getElem_range]
  by_cases e : k = i
  · simp [e]
  · rw [if_neg e, if_neg (fun h => e h.symm)]
theorem wl_getD (f : Nat → Nat) (j : Nat) (hj : j < 120) : (wl f).getD j 0 = f j := by
  rw [List.getD_eq_getElem?_getD, wl, List.getElem?_map, List.getElem?_range hj]; rfl
theorem wcells_set (ws : List Nat) (k x : Nat) : (wcells ws).toArray.setIfInBounds k (.int .u64 (x : Int)) = (wcells (ws.set k x)).toArray := by
  simp only [wcells, List.setIfInBounds_toArray, List.map_set]
theorem wcells_at (ws : List Nat) (k : Nat) (hk : k < ws.length) : (wcells ws).toArray[k]? = some (.int .u64 ((ws.getD k 0 : Nat) : Int)) := by
  simp [wcells, List.getD_eq_getElem?_getD, List.getElem?_eq_getElem hk]
/-- The words lie in a block of their own. -/
def Row (w : World) (g : Nat) (ws : List Nat) : Prop := w.heap[g]? = some (.cells (wcells ws).toArray 23 (0, 0))
theorem Row.cell {w : World} {g : Nat} {ws : List Nat} (h : Row w g ws) (k : Nat) (hk : k < ws.length) : w.cell? ⟨g, k, none⟩ = some (.int .u64 ((ws.getD k 0 : Nat) : Int)) := by
  unfold Row at h
  simp only [World.cell?, h]
  exact wcells_at ws k hk
theorem Row.frozen {w : World} {g : Nat} {ws : List Nat} (h : Row w g ws) (k : Nat) : w.frozen? ⟨g, k, none⟩ = false := by
  unfold Row at h
  simp [World.frozen?, h]
theorem Row.set {w : World} {g : Nat} {ws : List Nat} (h : Row w g ws) (k x : Nat) : Row (w.setCell ⟨g, k, none⟩ (.int .u64 (x : Int))) g (ws.set k x) := by
  unfold Row at h ⊢
  rw [← wcells_set]
  exact heap_setCell_same w g k _ 23 _ h
theorem Row.more {w w' : World} {g : Nat} {ws : List Nat} (h : Row w g ws) (hb : Below w.heap.size w w') : Row w' g ws := (hb.block g (Array.getElem?_eq_some_iff.1 h).1).trans h
theorem Row.lt {w : World} {g : Nat} {ws : List Nat} (h : Row w g ws) : g < w.heap.size := (Array.getElem?_eq_some_iff.1 h).1
theorem Row.reads {w : World} {g n : Nat} {ws : List Nat} (h : Row w g ws) (hn : ws.length = n) (hb : (n : Int) ≤ 1000000) (ho : WordsOk ws) : ReadsW w (some ⟨g, 0, none⟩) n ws := by
  refine ⟨hn, hb, fun k hk => ⟨_, rfl, h.lt, ?_, ?_⟩⟩
  · rw [show (⟨g, 0, none⟩ : Addr).add k = ⟨g, k, none⟩ by unfold Addr.add; split <;> simp_all]
    exact h.cell k (by omega)
  · rw [List.getD_eq_getElem?_getD, List.getElem?_eq_getElem (by omega)]
    exact ho _ (List.getElem_mem _)

def logF (mark rest : Nat) (body : List Nat) (j : Nat) : Nat := if j = 0 then mark else if j < 8 then 0 else if j < 8 + body.length then body.getD (j - 8) 0 else rest
def LogR (mark rest : Nat) (body : List Nat) (w : World) (e : Ending) (w' : World) : Prop :=
  (∃ g, e = .returned (.slice (some ⟨g, 0, none⟩) 120 120) ∧ w.heap.size ≤ g ∧ Row w' g (wl (logF mark rest body))) ∧ Below w.heap.size w w'

theorem made_zero : madeCells (Value.int IntKind.u64 0).cells (120 * 1) = (wcells (wl fun _ => 0)).toArray := by kernel_rfl
theorem body_len (s : Int) (ps : List Pg) (hv : validN s ps 256 = 0) : (bodyN s ps).length = 3 + 9 * ps.length ∧ 1 ≤ ps.length ∧ ps.length ≤ 12 := by
  obtain ⟨_, _, h3, _⟩ := validN_0 _ _ _ hv
  refine ⟨?_, h3.1, h3.2⟩
  unfold bodyN
  rw [if_pos hv, List.length_append, preW_length]
  simp; omega

set_option maxRecDepth 100000 in
set_option maxHeartbeats 4000000 in
theorem hlog_x (s : Int) (n cap mark rest : Nat) (A : Option Addr) (ps : List Pg) (w : World) (hp : ReadsP w A n ps) (hv : validN s ps 256 = 0) :
    Calls Try.prog 11 #[.agg #[.int .i64 s, .slice A n cap], .int .u64 (mark : Int), .int .u64 (rest : Int)] w (LogR mark rest (bodyN s ps) w) := by
  obtain ⟨i0, hi, hz0, hz1, hz2⟩ := info_parts info23
  have hmk := fun W => run_make (P := Try.prog) W 24 23 i0 (.int .u64 0) Try.underlying24 hi hz0 .i64 .i64 120 120 (by omega) (by omega) (by rw [hz2]; omega) (by omega)
  simp only [hz1, show (120 : Int).toNat = 120 from rfl] at hmk
  simp only [made_zero] at hmk
  have hbl := body_len s ps hv
  have hbo := (bodyN_ok s ps hp.2.2.1).1
  obtain ⟨Z, hZ⟩ : ∃ Z, Z = (wcells (wl fun _ => 0)).toArray := ⟨_, rfl⟩
  rw [← hZ] at hmk
  obtain ⟨W1, hW1⟩ : ∃ W1, W1 = (w.alloc (.cells #[.int .i64 s, .slice A n cap] 27)).alloc (.cells Z 23) := ⟨_, rfl⟩
  have hb1 : Below w.heap.size w W1 := by rw [hW1]; exact ((Below.refl _ w).alloc (Nat.le_refl _) _).alloc (by simp) _
  have hrow1 : Row W1 (w.heap.size + 1) (wl fun _ => 0) := by
    rw [hW1]
    have h := heap_alloc_new (w.alloc (.cells #[.int .i64 s, .slice A n cap] 27)) (.cells Z 23)
    rw [World.size_alloc] at h
    unfold Row
    rw [← hZ]
    exact h
  have hbox1 : W1.heap[w.heap.size]? = some (.cells #[.int .i64 s, .slice A n cap] 27 (0, 0)) := by
    rw [hW1]; exact (Below.heap_alloc _ _ _ (by simp)).trans (heap_alloc_new w _)
  have hsz1 : W1.heap.size = w.heap.size + 2 := by rw [hW1]; simp
  have hbdy := fun W (hb : Below w.heap.size w W) => refbody_x s n cap A ps W (hp.more hb)
  generalize bodyN s ps = body at *
  have HBd := Lib.hid hbdy
  have HW1 := Lib.hid hW1
  have HB1 := Lib.hid hb1
  have HR1 := Lib.hid hrow1
  have HX1 := Lib.hid hbox1
  have HS1 := Lib.hid hsz1
  have HBL := Lib.hid hbl
  have HBO := Lib.hid hbo
  have s27 : (Try.prog.info? 27).map (·.size) = some (#[.int .i64 s, .slice A n cap] : Array Value).size := by rw [size27]; rfl
  clear hZ hbdy hW1 hb1 hrow1 hbox1 hsz1 hbl hbo hp hv hi hz0 hz1 hz2
  go_enter Try.func11, Try.ntmps11
  go_wp2
  rw [← HW1.out]
  go_loopg [8] 112 (fun g s8 wx => ∃ k : Nat, k + g = 112 ∧ s8 = .int .i64 (8 + (k : Int)) ∧ Row wx (w.heap.size + 1) (wl fun j => if 8 ≤ j ∧ j < 8 + k then rest else 0) ∧ wx.heap[w.heap.size]? = some (.cells #[.int .i64 s, .slice A n cap] 27 (0, 0)) ∧ Below w.heap.size w wx)
  case atStart =>
    refine ⟨0, by omega, by simp, ?_, HX1.out, HB1.out⟩
    rw [wl_congr (fun j => if 8 ≤ j ∧ j < 8 + 0 then rest else 0) (fun _ => 0) (fun j _ => if_neg (by omega))]
    exact HR1.out
  case round =>
    obtain ⟨k, hk, rfl, hrow, hbox, hbel⟩ := hrel
    have HRow := Lib.hid hrow
    have HBox := Lib.hid hbox
    clear hrow hbox
    cases gk with
    | succ g =>
      have hlt : (8 : Int) + (k : Int) < 120 := by omega
      have h0 : (0 : Int) ≤ 8 + (k : Int) := by omega
      have hn8 : ((8 : Int) + (k : Int)).toNat = 8 + k := by omega
      have c1 : wr.cell? ⟨w.heap.size + 1, 8 + k, none⟩ = some (.int .u64 ((_ : Nat) : Int)) := HRow.out.cell (8 + k) (by rw [wl_length]; omega)
      have f1 : wr.frozen? ⟨w.heap.size + 1, 8 + k, none⟩ = false := HRow.out.frozen _
      go_wp2
      go_roundg g
      case measure => omega
      case rel =>
        refine ⟨k + 1, by omega, by go_num, ?_, (Below.heap_setCell _ _ _ _ (by simp)).trans HBox.out, hbel.setCell (p := ⟨w.heap.size + 1, 8 + k, none⟩) (by simp) _⟩
        have h := HRow.out.set (8 + k) rest
        rw [wl_set _ _ _ (by omega)] at h
        rw [wl_congr _ _ (fun j hj => ?_)]
        · exact h
        · try simp only []
          by_cases e : j = 8 + k
          · rw [if_pos ⟨by omega, by omega⟩, if_pos e]
          · rw [if_neg e]
            by_cases e2 : 8 ≤ j ∧ j < 8 + k
            · rw [if_pos e2, if_pos ⟨by omega, by omega⟩]
            · rw [if_neg e2, if_neg (by omega)]
    | zero =>
      obtain rfl : k = 112 := by omega
      have hge : ¬ ((8 : Int) + ((112 : Nat) : Int) < 120) := by omega
      have hbdw := HBd.out wr hbel
      have hszr : w.heap.size + 2 ≤ wr.heap.size := by
        have := HRow.out.lt
        omega
      have HBdw := Lib.hid hbdw
      clear hbdw
      go_wp2_with (first
        | (refine wpList_load_row rfl 27 _ rfl w.heap.size rfl 27 #[.int .i64 s, .slice A n cap] (0, 0) _ HBox.out Try.underlying27 rfl s27 ?_)
        | fail)
      go_at_call 26
      refine HBdw.out.mono ?_
      rintro e w3 ⟨⟨v, rfl, ho⟩, hb3⟩
      obtain ⟨gb, cb, rfl, hgb, hgb2⟩ := ho.form (by have := HBL.out; omega)
      have hrow3 := HRow.out.more hb3
      have hbel3 := hbel.trans (hb3.mono hbel.size)
      obtain ⟨bl, hbl⟩ : ∃ bl, bl = body.length := ⟨_, rfl⟩
      rw [← hbl] at ho ⊢
      have hb112 : bl ≤ 111 ∧ 12 ≤ bl := by have := HBL.out; omega
      obtain ⟨hb112, hb12⟩ := hb112
      have HBl := Lib.hid hbl
      have HRow3 := Lib.hid hrow3
      have HO := Lib.hid ho
      have hwb : w.heap.size + 2 ≤ gb := by omega
      clear hrow3 ho hbl hb3 hbel hgb2 hgb HBdw
      go_wp2
      go_loopg [10] bl (fun g s10 wx => ∃ i : Nat, i + g = bl ∧ s10 = .int .i64 i ∧ Row wx (w.heap.size + 1) (wl fun j => if j < 8 then 0 else if j < 8 + i then body.getD (j - 8) 0 else rest) ∧ wx.ownsRow (w.heap.size + 2) 23 1 (.slice (some ⟨gb, 0, none⟩) bl cb) bl (wcells body) ∧ Below w.heap.size w wx)
      case atStart =>
        refine ⟨0, by omega, rfl, ?_, own_mono HO.out (by omega), hbel3⟩
        rw [wl_congr _ (fun j => if 8 ≤ j ∧ j < 8 + 112 then rest else 0) (fun j hj => ?_)]
        · exact HRow3.out
        · try simp only []
          by_cases e : j < 8
          · rw [if_pos e, if_neg (by omega)]
          · rw [if_neg e, if_neg (by omega), if_pos ⟨by omega, by omega⟩]
      case round =>
        clear hbel3 HRow3 HO HRow HBox hszr
        obtain ⟨i, hi, rfl, hrow, ho, hbel⟩ := hrel
        have HRow := Lib.hid hrow
        have HO := Lib.hid ho
        clear hrow ho
        cases gk with
        | succ g =>
          have hlt : (i : Int) < (bl : Int) := by omega
          have hi0 : (0 : Int) ≤ (i : Int) := by omega
          have hi8 : (8 : Int) + (i : Int) < 120 := by omega
          have hi80 : (0 : Int) ≤ 8 + (i : Int) := by omega
          have cb1 : wr.cell? ⟨gb, i, none⟩ = some (.int .u64 ((body.getD i 0 : Nat) : Int)) := by
            rw [HO.out.cellAt i (by omega)]
            have := wcells_at body i (by have := HBl.out; omega)
            simpa using this
          have c1 : wr.cell? ⟨w.heap.size + 1, 8 + i, none⟩ = some (.int .u64 ((_ : Nat) : Int)) := HRow.out.cell (8 + i) (by rw [wl_length]; omega)
          have f1 : wr.frozen? ⟨w.heap.size + 1, 8 + i, none⟩ = false := HRow.out.frozen _
          have hadd : (⟨gb, 0, none⟩ : Addr).add i = ⟨gb, i, none⟩ := by unfold Addr.add; split <;> simp_all
          generalize hbi : body.getD i 0 = bi at cb1
          have HBi := Lib.hid hbi
          clear hbi
          go_wp2
          go_roundg g
          case measure => omega
          case rel =>
            refine ⟨i + 1, by omega, by go_num, ?_, ownsRow_setCell_below HO.out (by simp) _, hbel.setCell (p := ⟨w.heap.size + 1, 8 + i, none⟩) (by simp) _⟩
            have h := HRow.out.set (8 + i) bi
            rw [wl_set _ _ _ (by omega)] at h
            rw [wl_congr _ _ (fun j hj => ?_)]
            · exact h
            · try simp only []
              by_cases e : j = 8 + i
              · rw [if_pos e, if_neg (by omega), if_pos (by omega), ← HBi.out, e, Nat.add_sub_cancel_left]
              · rw [if_neg e]
                by_cases e1 : j < 8
                · rw [if_pos e1, if_pos e1]
                · rw [if_neg e1, if_neg e1]
                  by_cases e2 : j < 8 + i
                  · rw [if_pos e2, if_pos (by omega)]
                  · rw [if_neg e2, if_neg (by omega)]
        | zero =>
          obtain rfl : i = bl := by omega
          have hge2 : decide (i < i) = false := decide_eq_false (by omega)
          have c1 : wr.cell? ⟨w.heap.size + 1, 0, none⟩ = some (.int .u64 ((_ : Nat) : Int)) := HRow.out.cell 0 (by rw [wl_length]; omega)
          have f1 : wr.frozen? ⟨w.heap.size + 1, 0, none⟩ = false := HRow.out.frozen _
          go_wp2
          go_ret
          refine ⟨⟨w.heap.size + 1, rfl, by omega, ?_⟩, hbel.setCell (p := ⟨w.heap.size + 1, 0, none⟩) (by simp) _⟩
          have h := HRow.out.set 0 mark
          rw [wl_set _ _ _ (by omega)] at h
          rw [wl_congr _ _ (fun j hj => ?_)]
          · exact h
          · unfold logF
            rw [← HBl.out]
end Go.Proofs.Ytmeppeadfhifeaa
