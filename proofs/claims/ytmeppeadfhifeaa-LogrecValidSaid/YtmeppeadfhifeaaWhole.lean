/- in, out, Whole and Committed, in package logrec and in the reference. Conditions: the slices read as words or pages, no more than their capacity. -/
import Derived.Test.YtmeppeadfhifeaaParseRef
import Derived.Test.YtmeppeadfhifeaaMark
namespace Go.Proofs.Ytmeppeadfhifeaa
open Go.RowKit Go.Shelf
set_option linter.unusedVariables false
set_option linter.unusedSimpArgs false

set_option maxHeartbeats 1000000 in
theorem out_x (s : Int) (A : Option Addr) (n c : Nat) (w : World) :
    Calls Try.prog 18 #[.agg #[.int .i64 s, .slice A n c]] w fun e w' => e = .returned (.agg #[.int .i64 s, .slice A n c]) ∧ Below w.heap.size w w' := by
  have h1 : ((w.alloc (.cells #[.int .i64 s, .slice A n c] 34)).alloc (.cells #[.int .i64 s, .slice A n c] 27)).heap[w.heap.size + 1]? = some (.cells #[.int .i64 s, .slice A n c] 27 (0, 0)) := by
    have h := heap_alloc_new (w.alloc (.cells #[.int .i64 s, .slice A n c] 34)) (.cells #[.int .i64 s, .slice A n c] 27)
    rw [World.size_alloc] at h
    exact h
  have H1 := Lib.hid h1
  clear h1
  go_enter Try.func18, Try.ntmps18
  go_wp2
  exact bodyPost_ret (v := .agg #[.int .i64 s, .slice A n c]) (results_cell_row rfl _ _ (w.heap.size + 1) 27 #[.int .i64 s, .slice A n c] (0, 0) _ rfl H1.out Try.underlying27 rfl (by rw [size27]; rfl)) rfl ⟨rfl, ((Below.refl _ w).alloc (Nat.le_refl _) _).alloc (by simp) _⟩
set_option maxHeartbeats 1000000 in
theorem in_x (s : Int) (A : Option Addr) (n c : Nat) (w : World) :
    Calls Try.prog 21 #[.agg #[.int .i64 s, .slice A n c]] w fun e w' => e = .returned (.agg #[.int .i64 s, .slice A n c]) ∧ Below w.heap.size w w' := by
  have h1 : ((w.alloc (.cells #[.int .i64 s, .slice A n c] 27)).alloc (.cells #[.int .i64 s, .slice A n c] 34)).heap[w.heap.size + 1]? = some (.cells #[.int .i64 s, .slice A n c] 34 (0, 0)) := by
    have h := heap_alloc_new (w.alloc (.cells #[.int .i64 s, .slice A n c] 27)) (.cells #[.int .i64 s, .slice A n c] 34)
    rw [World.size_alloc] at h
    exact h
  have H1 := Lib.hid h1
  clear h1
  go_enter Try.func21, Try.ntmps21
  go_wp2
  exact bodyPost_ret (v := .agg #[.int .i64 s, .slice A n c]) (results_cell_row rfl _ _ (w.heap.size + 1) 34 #[.int .i64 s, .slice A n c] (0, 0) _ rfl H1.out Try.underlying34 rfl (by rw [size34]; rfl)) rfl ⟨rfl, ((Below.refl _ w).alloc (Nat.le_refl _) _).alloc (by simp) _⟩

def wholeOk (ws : List Nat) (l : Int) : Bool := decide (ws.length = 120) && (parseE (ws.drop 8) l == 0)
def wholeS (ws : List Nat) (l : Int) : Int := if ws.length = 120 then parseS (ws.drop 8) l else 0
def wholeP (ws : List Nat) (l : Int) : List Pg := if ws.length = 120 then parseP (ws.drop 8) l else []
def comOk (ws : List Nat) (l : Int) : Bool := wholeOk ws l && (markV (wholeS ws l) == (ws.getD 0 0 : Nat))
def comS (ws : List Nat) (l : Int) : Int := if comOk ws l = true then wholeS ws l else 0
def comP (ws : List Nat) (l : Int) : List Pg := if comOk ws l = true then wholeP ws l else []
/-- A record and a word of yes or no. -/
def RecR (s : Int) (ps : List Pg) (b : Bool) (w : World) (e : Ending) (w' : World) : Prop :=
  (∃ A' c, e = .returned (.tuple #[.agg #[.int .i64 s, .slice A' ps.length c], .bool b]) ∧ ReadsP w' A' ps.length ps) ∧ Below w.heap.size w w'

theorem reads_drop8 {w : World} {ad : Addr} {ws : List Nat} (h : ReadsW w (some ad) 120 ws) : ReadsW w (some ⟨ad.block, ad.off + 8, none⟩) 112 (ws.drop 8) := by
  have := reads_piece h 8 112 (by omega) (by omega)
  rwa [List.take_of_length_le (by simp; have := h.1; omega)] at this

theorem whole_at {F : FuncId} (hc : ∀ (l : Int) (N cap : Nat) (A : Option Addr) (ws : List Nat) (w : World), ReadsW w A N ws → N ≤ cap → Calls Try.prog F #[.slice A N cap, .int .i64 l] w (RecR (wholeS ws l) (wholeP ws l) (wholeOk ws l) w))
    (l : Int) (N cap : Nat) (A : Option Addr) (ws : List Nat) (w W : World) (hw : ReadsW w A N ws) (hcap : N ≤ cap) (hb : Below w.heap.size w W) : Calls Try.prog F #[.slice A N cap, .int .i64 l] W (RecR (wholeS ws l) (wholeP ws l) (wholeOk ws l) W) :=
  hc l N cap A ws W (hw.more hb) hcap

set_option maxRecDepth 100000 in
set_option maxHeartbeats 4000000 in
theorem whole_x (l : Int) (N cap : Nat) (A : Option Addr) (ws : List Nat) (w : World) (hw : ReadsW w A N ws) (hcap : N ≤ cap) :
    Calls Try.prog 13 #[.slice A N cap, .int .i64 l] w (RecR (wholeS ws l) (wholeP ws l) (wholeOk ws l) w) := by
  have hlen := hw.1
  have hN := hw.2.1
  by_cases h1 : N = 120
  · subst h1
    obtain ⟨ad, rfl, _⟩ := hw.2.2 0 (by omega)
    have hrd := reads_drop8 hw
    have HR := Lib.hid hrd
    have e1 : wholeS ws l = parseS (ws.drop 8) l := if_pos hlen
    have e2 : wholeP ws l = parseP (ws.drop 8) l := if_pos hlen
    have e3 : wholeOk ws l = (parseE (ws.drop 8) l == 0) := by unfold wholeOk; rw [decide_eq_true hlen, Bool.true_and]
    rw [e1, e2, e3]
    generalize ws.drop 8 = ds at *
    clear e1 e2 e3 hlen hrd hw
    have h8 : (8 : Int) ≤ (cap : Int) := by omega
    have hc8 : ¬ cap = 8 := by omega
    have hcl : 112 ≤ cap - 8 := by omega
    have hbw : Below w.heap.size w (w.alloc (.cells #[.int .i64 0, .slice none 0 0] 34)) := (Below.refl _ w).alloc (Nat.le_refl _) _
    have s34 : (Try.prog.info? 34).map (·.size) = some (#[.int .i64 0, .slice none 0 0] : Array Value).size := by rw [size34]; rfl
    have HBW := Lib.hid hbw
    clear hbw
    go_enter Try.func13, Try.ntmps13
    go_wp2_with (first
      | (go_at_call 27; refine (parse_x l 112 (cap - 8) _ ds _ (HR.out.more HBW.out) hcl).mono ?_; rintro e w3 ⟨⟨A', c', rfl, hr3⟩, hb3⟩
         have HZ : Hid ((w3.alloc (.cells #[.int .i64 (parseS ds l), .slice A' (parseP ds l).length c'] 34)).heap[w.heap.size]? = some (.cells #[.int .i64 0, .slice none 0 0] 34 (0, 0))) :=
           (Below.heap_alloc _ _ _ (by have := hb3.size; simp at this; omega)).trans ((hb3.block _ (by simp)).trans (heap_alloc_new w _)))
      | (refine wpList_store_row rfl 34 _ _ rfl w.heap.size #[.int .i64 (parseS ds l), .slice A' (parseP ds l).length c'] rfl rfl 34 _ HZ.out s34 rfl (ones_rec _ _ _ _) ?_)
      | fail)
    have hb4 : Below w.heap.size w (w3.alloc (.cells #[.int .i64 (parseS ds l), .slice A' (parseP ds l).length c'] 34)) := (HBW.out.trans (hb3.mono HBW.out.size)).alloc (by have := hb3.size; simp at this; omega) _
    exact bodyPost_ret (v := .tuple #[.agg #[.int .i64 (parseS ds l), .slice A' (parseP ds l).length c'], .bool (parseE ds l == 0)]) (res_two rfl _ _ w.heap.size _ _ (by rfl) (by rfl) (lv34 _ _ _ _ (setRow_heap _ _ _ _ _ _ HZ.out))) rfl
      ⟨⟨A', c', rfl, (hr3.more ((Below.refl _ w3).alloc (Nat.le_refl _) _)).row w.heap.size 34 _ _ _ HZ.out⟩, below_setRow hb4 (Nat.le_refl _) _⟩
  · have e1 : wholeS ws l = 0 := if_neg (by omega)
    have e2 : wholeP ws l = [] := if_neg (by omega)
    have e3 : wholeOk ws l = false := by unfold wholeOk; rw [decide_eq_false (by omega), Bool.false_and]
    rw [e1, e2, e3]
    have hne : ((N : Int) != 120) = true := by rw [bne_iff_ne]; omega
    clear e1 e2 e3 hlen hw
    go_enter Try.func13, Try.ntmps13
    go_wp2
    exact bodyPost_ret (v := .tuple #[.agg #[.int .i64 0, .slice none 0 0], .bool false]) (res_two rfl _ _ _ _ _ (by rfl) (by rfl) (lv34 _ _ _ _ (heap_alloc_new w _))) rfl ⟨⟨none, 0, rfl, ReadsP.nil _⟩, (Below.refl _ w).alloc (Nat.le_refl _) _⟩

set_option maxRecDepth 100000 in
set_option maxHeartbeats 4000000 in
theorem committed_x (l : Int) (N cap : Nat) (A : Option Addr) (ws : List Nat) (w : World) (hw : ReadsW w A N ws) (hcap : N ≤ cap) :
    Calls Try.prog 15 #[.slice A N cap, .int .i64 l] w (RecR (comS ws l) (comP ws l) (comOk ws l) w) := by
  have hbw : Below w.heap.size w (w.alloc (.cells #[.int .i64 0, .slice none 0 0] 34)) := (Below.refl _ w).alloc (Nat.le_refl _) _
  have s34 : (Try.prog.info? 34).map (·.size) = some (#[.int .i64 0, .slice none 0 0] : Array Value).size := by rw [size34]; rfl
  have hx := whole_at (F := 13) (whole_x) l N cap A ws w (w.alloc (.cells #[.int .i64 0, .slice none 0 0] 34)) hw hcap hbw
  have HBW := Lib.hid hbw
  have HX := Lib.hid hx
  clear hbw hx
  have hend : ∀ (w3 : World) (s : Int) (A' : Option Addr) (k c' : Nat) (tmps : Array Value), comOk ws l = false → Below (w.alloc (.cells #[.int .i64 0, .slice none 0 0] 34)).heap.size (w.alloc (.cells #[.int .i64 0, .slice none 0 0] 34)) w3 → (w3.alloc (.cells #[.int .i64 s, .slice A' k c'] 34)).heap[w.heap.size]? = some (.cells #[.int .i64 0, .slice none 0 0] 34 (0, 0)) →
      tmps.getD 4 undef = .pointer (some ⟨w.heap.size, 0, none⟩) → tmps.getD 5 undef = .bool false → bodyPost Try.prog Try.f15 (RecR (comS ws l) (comP ws l) (comOk ws l) w) .ret { tmps := tmps, defers := [] } ((w3.alloc (.cells #[.int .i64 s, .slice A' k c'] 34)).setRow w.heap.size #[.int .i64 0, .slice none 0 0]) := by
    intro w3 s A' k c' tmps hno hb3 hz h4 h5
    have e1 : comS ws l = 0 := if_neg (by rw [hno]; decide)
    have e2 : comP ws l = [] := if_neg (by rw [hno]; decide)
    rw [e1, e2, hno]
    exact bodyPost_ret (v := .tuple #[.agg #[.int .i64 0, .slice none 0 0], .bool false]) (res_two rfl _ _ w.heap.size _ _ h4 h5 (lv34 _ _ _ _ (setRow_heap _ _ _ _ _ _ hz))) rfl
      ⟨⟨none, 0, rfl, ReadsP.nil _⟩, below_setRow ((HBW.out.trans (hb3.mono HBW.out.size)).alloc (by have := hb3.size; simp at this; omega) _) (Nat.le_refl _) _⟩
  have HEnd := Lib.hid hend
  clear hend
  cases hok : wholeOk ws l
  · have HN := Lib.hid (show comOk ws l = false by unfold comOk; rw [hok, Bool.false_and])
    rw [hok] at HX
    clear hok
    generalize hs : wholeS ws l = s at HX
    generalize hp : wholeP ws l = ps at HX
    clear hs hp hw
    go_enter Try.func15, Try.ntmps15
    go_wp2_with (first
      | (go_at_call 13; refine HX.out.mono ?_; rintro e w3 ⟨⟨A', c', rfl, hr3⟩, hb3⟩
         have HZ : Hid ((w3.alloc (.cells #[.int .i64 s, .slice A' ps.length c'] 34)).heap[w.heap.size]? = some (.cells #[.int .i64 0, .slice none 0 0] 34 (0, 0))) :=
           (Below.heap_alloc _ _ _ (by have := hb3.size; simp at this; omega)).trans ((hb3.block _ (by simp)).trans (heap_alloc_new w _)))
      | (refine wpList_store_row rfl 34 _ _ rfl w.heap.size #[.int .i64 0, .slice none 0 0] rfl rfl 34 _ HZ.out s34 rfl (ones_rec _ _ _ _) ?_)
      | fail)
    exact HEnd.out _ _ _ _ _ _ HN.out hb3 HZ.out (by rfl) (by rfl)
  · have h120 : N = 120 := by
      have h := hok
      unfold wholeOk at h
      rw [Bool.and_eq_true, decide_eq_true_eq] at h
      have := hw.1
      omega
    subst h120
    obtain ⟨ad, rfl, hbl, hc0, hv0⟩ := hw.2.2 0 (by omega)
    rw [Addr.add_zero'] at hc0
    have HCom : Hid (comOk ws l = (markV (wholeS ws l) == ((ws.getD 0 0 : Nat) : Int))) := by
      show _ = _
      unfold comOk; rw [hok, Bool.true_and]
    have HCS : Hid (comOk ws l = true → comS ws l = wholeS ws l ∧ comP ws l = wholeP ws l) := fun h => ⟨if_pos h, if_pos h⟩
    rw [hok] at HX
    clear hok
    generalize hs : wholeS ws l = s at HX HCom HCS
    generalize hp : wholeP ws l = ps at HX HCS
    generalize hx0 : ws.getD 0 0 = x0 at *
    clear hs hp hx0 hw hcap
    have HC0 := Lib.hid hc0
    clear hc0
    cases hm : (markV s == (x0 : Int))
    · have hne : (markV s != (x0 : Int)) = true := by rw [bne, hm]; rfl
      have hne2 : ((x0 : Int) != markV s) = true := by rw [bne_iff_ne] at hne ⊢; exact Ne.symm hne
      have HN := Lib.hid (show comOk ws l = false by rw [HCom.out, hm])
      clear hm
      go_enter Try.func15, Try.ntmps15
      go_wp2_with (first
        | (go_at_call 13; refine HX.out.mono ?_; rintro e w3 ⟨⟨A', c', rfl, hr3⟩, hb3⟩
           have HZ : Hid ((w3.alloc (.cells #[.int .i64 s, .slice A' ps.length c'] 34)).heap[w.heap.size]? = some (.cells #[.int .i64 0, .slice none 0 0] 34 (0, 0))) :=
             (Below.heap_alloc _ _ _ (by have := hb3.size; simp at this; omega)).trans ((hb3.block _ (by simp)).trans (heap_alloc_new w _))
           have hcad : (w3.alloc (.cells #[.int .i64 s, .slice A' ps.length c'] 34)).cell? ad = some (.int .u64 (x0 : Int)) :=
             (((HBW.out.trans (hb3.mono HBW.out.size)).alloc (by have := hb3.size; simp at this; omega) _).cell hbl).trans HC0.out)
        | (go_at_call 35; refine (mark_x s _).mono ?_; rintro e w5 ⟨rfl, rfl⟩)
        | (refine wpList_store_row rfl 34 _ _ rfl w.heap.size #[.int .i64 0, .slice none 0 0] rfl rfl 34 _ HZ.out s34 rfl (ones_rec _ _ _ _) ?_)
        | fail)
      exact HEnd.out _ _ _ _ _ _ HN.out hb3 HZ.out (by rfl) (by rfl)
    · have hne : (markV s != (x0 : Int)) = false := by rw [bne, hm]; rfl
      have hne2 : ((x0 : Int) != markV s) = false := by rw [bne_eq_false_iff_eq] at hne ⊢; exact hne.symm
      have HN := Lib.hid (show comOk ws l = true by rw [HCom.out, hm])
      clear hm
      go_enter Try.func15, Try.ntmps15
      go_wp2_with (first
        | (go_at_call 13; refine HX.out.mono ?_; rintro e w3 ⟨⟨A', c', rfl, hr3⟩, hb3⟩
           have HZ : Hid ((w3.alloc (.cells #[.int .i64 s, .slice A' ps.length c'] 34)).heap[w.heap.size]? = some (.cells #[.int .i64 0, .slice none 0 0] 34 (0, 0))) :=
             (Below.heap_alloc _ _ _ (by have := hb3.size; simp at this; omega)).trans ((hb3.block _ (by simp)).trans (heap_alloc_new w _))
           have hcad : (w3.alloc (.cells #[.int .i64 s, .slice A' ps.length c'] 34)).cell? ad = some (.int .u64 (x0 : Int)) :=
             (((HBW.out.trans (hb3.mono HBW.out.size)).alloc (by have := hb3.size; simp at this; omega) _).cell hbl).trans HC0.out)
        | (go_at_call 35; refine (mark_x s _).mono ?_; rintro e w5 ⟨rfl, rfl⟩)
        | (refine wpList_store_row rfl 34 _ _ rfl w.heap.size #[.int .i64 s, .slice A' ps.length c'] rfl rfl 34 _ HZ.out s34 rfl (ones_rec _ _ _ _) ?_)
        | fail)
      have hb4 : Below w.heap.size w (w3.alloc (.cells #[.int .i64 s, .slice A' ps.length c'] 34)) := (HBW.out.trans (hb3.mono HBW.out.size)).alloc (by have := hb3.size; simp at this; omega) _
      rw [(HCS.out HN.out).1, (HCS.out HN.out).2, HN.out]
      exact bodyPost_ret (v := .tuple #[.agg #[.int .i64 s, .slice A' ps.length c'], .bool true]) (res_two rfl _ _ w.heap.size _ _ (by rfl) (by rfl) (lv34 _ _ _ _ (setRow_heap _ _ _ _ _ _ HZ.out))) rfl
        ⟨⟨A', c', rfl, (hr3.more ((Below.refl _ w3).alloc (Nat.le_refl _) _)).row w.heap.size 34 _ _ _ HZ.out⟩, below_setRow hb4 (Nat.le_refl _) _⟩

set_option maxRecDepth 100000 in
set_option maxHeartbeats 4000000 in
theorem rwhole_x (l : Int) (N cap : Nat) (A : Option Addr) (ws : List Nat) (w : World) (hw : ReadsW w A N ws) (hcap : N ≤ cap) :
    Calls Try.prog 14 #[.slice A N cap, .int .i64 l] w (RecR (wholeS ws l) (wholeP ws l) (wholeOk ws l) w) := by
  have hlen := hw.1
  have hN := hw.2.1
  by_cases h1 : N = 120
  · subst h1
    obtain ⟨ad, rfl, _⟩ := hw.2.2 0 (by omega)
    have hrd := reads_drop8 hw
    have HR := Lib.hid hrd
    have e1 : wholeS ws l = parseS (ws.drop 8) l := if_pos hlen
    have e2 : wholeP ws l = parseP (ws.drop 8) l := if_pos hlen
    have e3 : wholeOk ws l = (parseE (ws.drop 8) l == 0) := by unfold wholeOk; rw [decide_eq_true hlen, Bool.true_and]
    rw [e1, e2, e3]
    generalize ws.drop 8 = ds at *
    clear e1 e2 e3 hlen hrd hw
    have h8 : (8 : Int) ≤ (cap : Int) := by omega
    have hc8 : ¬ cap = 8 := by omega
    have hcl : 112 ≤ cap - 8 := by omega
    have hbw : Below w.heap.size w (w.alloc (.cells #[.int .i64 0, .slice none 0 0] 27)) := (Below.refl _ w).alloc (Nat.le_refl _) _
    have s34 : (Try.prog.info? 27).map (·.size) = some (#[.int .i64 0, .slice none 0 0] : Array Value).size := by rw [size27]; rfl
    have HBW := Lib.hid hbw
    clear hbw
    go_enter Try.func14, Try.ntmps14
    go_wp2_with (first
      | (go_at_call 28; refine (refparse_x l 112 (cap - 8) _ ds _ (HR.out.more HBW.out) hcl).mono ?_; rintro e w3 ⟨⟨A', c', rfl, hr3⟩, hb3⟩
         have HZ : Hid ((w3.alloc (.cells #[.int .i64 (parseS ds l), .slice A' (parseP ds l).length c'] 27)).heap[w.heap.size]? = some (.cells #[.int .i64 0, .slice none 0 0] 27 (0, 0))) :=
           (Below.heap_alloc _ _ _ (by have := hb3.size; simp at this; omega)).trans ((hb3.block _ (by simp)).trans (heap_alloc_new w _)))
      | (refine wpList_store_row rfl 27 _ _ rfl w.heap.size #[.int .i64 (parseS ds l), .slice A' (parseP ds l).length c'] rfl rfl 27 _ HZ.out s34 rfl (ones_rec _ _ _ _) ?_)
      | fail)
    have hb4 : Below w.heap.size w (w3.alloc (.cells #[.int .i64 (parseS ds l), .slice A' (parseP ds l).length c'] 27)) := (HBW.out.trans (hb3.mono HBW.out.size)).alloc (by have := hb3.size; simp at this; omega) _
    exact bodyPost_ret (v := .tuple #[.agg #[.int .i64 (parseS ds l), .slice A' (parseP ds l).length c'], .bool (parseE ds l == 0)]) (res_two rfl _ _ w.heap.size _ _ (by rfl) (by rfl) (lv27 _ _ _ _ (setRow_heap _ _ _ _ _ _ HZ.out))) rfl
      ⟨⟨A', c', rfl, (hr3.more ((Below.refl _ w3).alloc (Nat.le_refl _) _)).row w.heap.size 27 _ _ _ HZ.out⟩, below_setRow hb4 (Nat.le_refl _) _⟩
  · have e1 : wholeS ws l = 0 := if_neg (by omega)
    have e2 : wholeP ws l = [] := if_neg (by omega)
    have e3 : wholeOk ws l = false := by unfold wholeOk; rw [decide_eq_false (by omega), Bool.false_and]
    rw [e1, e2, e3]
    have hne : ((N : Int) != 120) = true := by rw [bne_iff_ne]; omega
    clear e1 e2 e3 hlen hw
    go_enter Try.func14, Try.ntmps14
    go_wp2
    exact bodyPost_ret (v := .tuple #[.agg #[.int .i64 0, .slice none 0 0], .bool false]) (res_two rfl _ _ _ _ _ (by rfl) (by rfl) (lv27 _ _ _ _ (heap_alloc_new w _))) rfl ⟨⟨none, 0, rfl, ReadsP.nil _⟩, (Below.refl _ w).alloc (Nat.le_refl _) _⟩

set_option maxRecDepth 100000 in
set_option maxHeartbeats 4000000 in
theorem rcommitted_x (l : Int) (N cap : Nat) (A : Option Addr) (ws : List Nat) (w : World) (hw : ReadsW w A N ws) (hcap : N ≤ cap) :
    Calls Try.prog 16 #[.slice A N cap, .int .i64 l] w (RecR (comS ws l) (comP ws l) (comOk ws l) w) := by
  have hbw : Below w.heap.size w (w.alloc (.cells #[.int .i64 0, .slice none 0 0] 27)) := (Below.refl _ w).alloc (Nat.le_refl _) _
  have s34 : (Try.prog.info? 27).map (·.size) = some (#[.int .i64 0, .slice none 0 0] : Array Value).size := by rw [size27]; rfl
  have hx := whole_at (F := 14) (rwhole_x) l N cap A ws w (w.alloc (.cells #[.int .i64 0, .slice none 0 0] 27)) hw hcap hbw
  have HBW := Lib.hid hbw
  have HX := Lib.hid hx
  clear hbw hx
  have hend : ∀ (w3 : World) (s : Int) (A' : Option Addr) (k c' : Nat) (tmps : Array Value), comOk ws l = false → Below (w.alloc (.cells #[.int .i64 0, .slice none 0 0] 27)).heap.size (w.alloc (.cells #[.int .i64 0, .slice none 0 0] 27)) w3 → (w3.alloc (.cells #[.int .i64 s, .slice A' k c'] 27)).heap[w.heap.size]? = some (.cells #[.int .i64 0, .slice none 0 0] 27 (0, 0)) →
      tmps.getD 4 undef = .pointer (some ⟨w.heap.size, 0, none⟩) → tmps.getD 5 undef = .bool false → bodyPost Try.prog Try.f16 (RecR (comS ws l) (comP ws l) (comOk ws l) w) .ret { tmps := tmps, defers := [] } ((w3.alloc (.cells #[.int .i64 s, .slice A' k c'] 27)).setRow w.heap.size #[.int .i64 0, .slice none 0 0]) := by
    intro w3 s A' k c' tmps hno hb3 hz h4 h5
    have e1 : comS ws l = 0 := if_neg (by rw [hno]; decide)
    have e2 : comP ws l = [] := if_neg (by rw [hno]; decide)
    rw [e1, e2, hno]
    exact bodyPost_ret (v := .tuple #[.agg #[.int .i64 0, .slice none 0 0], .bool false]) (res_two rfl _ _ w.heap.size _ _ h4 h5 (lv27 _ _ _ _ (setRow_heap _ _ _ _ _ _ hz))) rfl
      ⟨⟨none, 0, rfl, ReadsP.nil _⟩, below_setRow ((HBW.out.trans (hb3.mono HBW.out.size)).alloc (by have := hb3.size; simp at this; omega) _) (Nat.le_refl _) _⟩
  have HEnd := Lib.hid hend
  clear hend
  cases hok : wholeOk ws l
  · have HN := Lib.hid (show comOk ws l = false by unfold comOk; rw [hok, Bool.false_and])
    rw [hok] at HX
    clear hok
    generalize hs : wholeS ws l = s at HX
    generalize hp : wholeP ws l = ps at HX
    clear hs hp hw
    go_enter Try.func16, Try.ntmps16
    go_wp2_with (first
      | (go_at_call 14; refine HX.out.mono ?_; rintro e w3 ⟨⟨A', c', rfl, hr3⟩, hb3⟩
         have HZ : Hid ((w3.alloc (.cells #[.int .i64 s, .slice A' ps.length c'] 27)).heap[w.heap.size]? = some (.cells #[.int .i64 0, .slice none 0 0] 27 (0, 0))) :=
           (Below.heap_alloc _ _ _ (by have := hb3.size; simp at this; omega)).trans ((hb3.block _ (by simp)).trans (heap_alloc_new w _)))
      | (refine wpList_store_row rfl 27 _ _ rfl w.heap.size #[.int .i64 0, .slice none 0 0] rfl rfl 27 _ HZ.out s34 rfl (ones_rec _ _ _ _) ?_)
      | fail)
    exact HEnd.out _ _ _ _ _ _ HN.out hb3 HZ.out (by rfl) (by rfl)
  · have h120 : N = 120 := by
      have h := hok
      unfold wholeOk at h
      rw [Bool.and_eq_true, decide_eq_true_eq] at h
      have := hw.1
      omega
    subst h120
    obtain ⟨ad, rfl, hbl, hc0, hv0⟩ := hw.2.2 0 (by omega)
    rw [Addr.add_zero'] at hc0
    have HCom : Hid (comOk ws l = (markV (wholeS ws l) == ((ws.getD 0 0 : Nat) : Int))) := by
      show _ = _
      unfold comOk; rw [hok, Bool.true_and]
    have HCS : Hid (comOk ws l = true → comS ws l = wholeS ws l ∧ comP ws l = wholeP ws l) := fun h => ⟨if_pos h, if_pos h⟩
    rw [hok] at HX
    clear hok
    generalize hs : wholeS ws l = s at HX HCom HCS
    generalize hp : wholeP ws l = ps at HX HCS
    generalize hx0 : ws.getD 0 0 = x0 at *
    clear hs hp hx0 hw hcap
    have HC0 := Lib.hid hc0
    clear hc0
    cases hm : (markV s == (x0 : Int))
    · have hne : (markV s != (x0 : Int)) = true := by rw [bne, hm]; rfl
      have hne2 : ((x0 : Int) != markV s) = true := by rw [bne_iff_ne] at hne ⊢; exact Ne.symm hne
      have HN := Lib.hid (show comOk ws l = false by rw [HCom.out, hm])
      clear hm
      go_enter Try.func16, Try.ntmps16
      go_wp2_with (first
        | (go_at_call 14; refine HX.out.mono ?_; rintro e w3 ⟨⟨A', c', rfl, hr3⟩, hb3⟩
           have HZ : Hid ((w3.alloc (.cells #[.int .i64 s, .slice A' ps.length c'] 27)).heap[w.heap.size]? = some (.cells #[.int .i64 0, .slice none 0 0] 27 (0, 0))) :=
             (Below.heap_alloc _ _ _ (by have := hb3.size; simp at this; omega)).trans ((hb3.block _ (by simp)).trans (heap_alloc_new w _))
           have hcad : (w3.alloc (.cells #[.int .i64 s, .slice A' ps.length c'] 27)).cell? ad = some (.int .u64 (x0 : Int)) :=
             (((HBW.out.trans (hb3.mono HBW.out.size)).alloc (by have := hb3.size; simp at this; omega) _).cell hbl).trans HC0.out)
        | (go_at_call 10; refine (rmark_x s _).mono ?_; rintro e w5 ⟨rfl, rfl⟩)
        | (refine wpList_store_row rfl 27 _ _ rfl w.heap.size #[.int .i64 0, .slice none 0 0] rfl rfl 27 _ HZ.out s34 rfl (ones_rec _ _ _ _) ?_)
        | fail)
      exact HEnd.out _ _ _ _ _ _ HN.out hb3 HZ.out (by rfl) (by rfl)
    · have hne : (markV s != (x0 : Int)) = false := by rw [bne, hm]; rfl
      have hne2 : ((x0 : Int) != markV s) = false := by rw [bne_eq_false_iff_eq] at hne ⊢; exact hne.symm
      have HN := Lib.hid (show comOk ws l = true by rw [HCom.out, hm])
      clear hm
      go_enter Try.func16, Try.ntmps16
      go_wp2_with (first
        | (go_at_call 14; refine HX.out.mono ?_; rintro e w3 ⟨⟨A', c', rfl, hr3⟩, hb3⟩
           have HZ : Hid ((w3.alloc (.cells #[.int .i64 s, .slice A' ps.length c'] 27)).heap[w.heap.size]? = some (.cells #[.int .i64 0, .slice none 0 0] 27 (0, 0))) :=
             (Below.heap_alloc _ _ _ (by have := hb3.size; simp at this; omega)).trans ((hb3.block _ (by simp)).trans (heap_alloc_new w _))
           have hcad : (w3.alloc (.cells #[.int .i64 s, .slice A' ps.length c'] 27)).cell? ad = some (.int .u64 (x0 : Int)) :=
             (((HBW.out.trans (hb3.mono HBW.out.size)).alloc (by have := hb3.size; simp at this; omega) _).cell hbl).trans HC0.out)
        | (go_at_call 10; refine (rmark_x s _).mono ?_; rintro e w5 ⟨rfl, rfl⟩)
        | (refine wpList_store_row rfl 27 _ _ rfl w.heap.size #[.int .i64 s, .slice A' ps.length c'] rfl rfl 27 _ HZ.out s34 rfl (ones_rec _ _ _ _) ?_)
        | fail)
      have hb4 : Below w.heap.size w (w3.alloc (.cells #[.int .i64 s, .slice A' ps.length c'] 27)) := (HBW.out.trans (hb3.mono HBW.out.size)).alloc (by have := hb3.size; simp at this; omega) _
      rw [(HCS.out HN.out).1, (HCS.out HN.out).2, HN.out]
      exact bodyPost_ret (v := .tuple #[.agg #[.int .i64 s, .slice A' ps.length c'], .bool true]) (res_two rfl _ _ w.heap.size _ _ (by rfl) (by rfl) (lv27 _ _ _ _ (setRow_heap _ _ _ _ _ _ HZ.out))) rfl
        ⟨⟨A', c', rfl, (hr3.more ((Below.refl _ w3).alloc (Nat.le_refl _) _)).row w.heap.size 27 _ _ _ HZ.out⟩, below_setRow hb4 (Nat.le_refl _) _⟩

end Go.Proofs.Ytmeppeadfhifeaa
