/- The hand-made pages: in ascending order, each line once, at most twelve. Conditions: a number of lines from 97 to 1000; the slice reads as numbers. -/
import Derived.Test.YtmeppeadfhifeaaHand
import Derived.Test.YtmeppeadfhifeaaApp
import Derived.Deep.RegionHeld3
import Derived.Deep.MidRow
import Derived.Deep.AppendLies
namespace Go.Proofs.Ytmeppeadfhifeaa
open Go.RowKit Go.Shelf
set_option linter.unusedVariables false
set_option linter.unusedSimpArgs false

def ReadsI (w : World) (A : Option Addr) (n : Nat) (xs : List Int) : Prop :=
  xs.length = n ∧ (n : Int) ≤ 1000000 ∧ ∀ k, k < n → ∃ ad, A = some ad ∧ ad.block < w.heap.size ∧ w.cell? (ad.add k) = some (.int .i64 (xs.getD k 0)) ∧ -9223372036854775808 ≤ xs.getD k 0 ∧ xs.getD k 0 ≤ 9223372036854775807
theorem ReadsI.more {w w' : World} {A : Option Addr} {n : Nat} {xs : List Int} (h : ReadsI w A n xs) (hb : Below w.heap.size w w') : ReadsI w' A n xs :=
  ⟨h.1, h.2.1, fun k hk => by
    obtain ⟨ad, e, h1, h2, h3⟩ := h.2.2 k hk
    exact ⟨ad, e, Nat.lt_of_lt_of_le h1 hb.size, (hb.cell (by rw [block_add]; exact h1)).trans h2, h3⟩⟩
def GoodP (l : Int) (p : Pg) : Prop := p.ok ∧ 96 ≤ p.line ∧ p.line < l ∧ headOk p = true
def Good (l : Int) (ps : List Pg) : Prop := upB ps = true ∧ ps.length ≤ 12 ∧ ∀ p ∈ ps, GoodP l p
theorem good_hpage (n l : Int) (h1 : 97 ≤ l) (h2 : l ≤ 1000) : GoodP l (hpage n l) := by
  have a1 := Int.emod_nonneg n (show l - 96 ≠ 0 by omega)
  have a2 := Int.emod_lt_of_pos n (show 0 < l - 96 by omega)
  refine ⟨hpage_ok n l h1 h2, by unfold hpage; simp only; omega, by unfold hpage; simp only; omega, ?_⟩
  have hb : (n.tdiv 64 % 4).toNat < 4 := by omega
  unfold headOk hpage nextOk free
  simp only
  rw [Bool.and_eq_true, decide_eq_true_eq, beq_iff_eq]
  omega
theorem good_nil (l : Int) : Good l [] := ⟨rfl, by simp, fun p hp => by simp at hp⟩
theorem good_one (l : Int) (p : Pg) (h : GoodP l p) : Good l [p] := ⟨rfl, by simp, fun q hq => by simp at hq; subst hq; exact h⟩
theorem good_insert (l : Int) (ps : List Pg) (p : Pg) (k : Nat) (h : Good l ps) (hp : GoodP l p) (hk : k ≤ ps.length) (hlow : ∀ j q, j < k → ps[j]? = some q → q.line < p.line)
    (hup : ∀ q, ps[k]? = some q → p.line < q.line) (hlen : ps.length < 12) : Good l (ps.take k ++ [p] ++ ps.drop k) := by
  obtain ⟨h1, _, h3⟩ := h
  refine ⟨?_, by simp; omega, ?_⟩
  · rw [upB_at] at h1 ⊢
    intro j x y hx hy
    have hl : (ps.take k).length = k := by simp; omega
    have get : ∀ i z, (ps.take k ++ [p] ++ ps.drop k)[i]? = some z → (i < k ∧ ps[i]? = some z) ∨ (i = k ∧ z = p) ∨ (k < i ∧ ps[i - 1]? = some z) := by
      intro i z hz
      rcases Nat.lt_trichotomy i k with hi | hi | hi
      · left
        rw [List.append_assoc, List.getElem?_append_left (by omega), List.getElem?_take_of_lt hi] at hz
        exact ⟨hi, hz⟩
      · right; left
        subst hi
        rw [List.append_assoc, List.getElem?_append_right (by omega), hl, Nat.sub_self] at hz
        simp at hz
        exact ⟨rfl, hz.symm⟩
      · right; right
        rw [List.getElem?_append_right (by simp; omega), List.getElem?_drop] at hz
        rw [show k + (i - (ps.take k ++ [p]).length) = i - 1 by simp; omega] at hz
        exact ⟨hi, hz⟩
    rcases get j x hx with ⟨a1, a2⟩ | ⟨a1, a2⟩ | ⟨a1, a2⟩ <;> rcases get (j + 1) y hy with ⟨b1, b2⟩ | ⟨b1, b2⟩ | ⟨b1, b2⟩
    · exact h1 j x y a2 b2
    · subst b2; exact hlow j x a1 a2
    · omega
    · omega
    · omega
    · subst a2; subst a1
      exact hup y (by simpa using b2)
    · omega
    · omega
    · exact h1 (j - 1) x y a2 (by rw [show j - 1 + 1 = j + 1 - 1 by omega]; exact b2)
  · intro q hq
    simp only [List.append_assoc, List.mem_append, List.mem_singleton] at hq
    rcases hq with hq | rfl | hq
    · exact h3 q (List.mem_of_mem_take hq)
    · exact hp
    · exact h3 q (List.mem_of_mem_drop hq)

/-- What is left at a round. -/
def PagesI (l : Int) (w : World) (v : Value) (wx : World) : Prop :=
  ∃ ps, Good l ps ∧ wx.ownsRow w.heap.size 49 9 v ps.length (pcells ps) ∧ (ps = [] → v = .slice none 0 0) ∧ Below w.heap.size w wx

theorem pcells_take_len (ps : List Pg) (a : Nat) (h : a ≤ ps.length) : (pcells (ps.take a)).length = a * 9 := by rw [pcells_length, List.length_take]; omega
theorem pcells_drop_len (ps : List Pg) (a : Nat) : (pcells (ps.drop a)).length = (ps.length - a) * 9 := by rw [pcells_length, List.length_drop]; omega
theorem pcells_one (ps : List Pg) : ∀ u ∈ pcells ps, u.oneCell' = true := by
  intro u hu
  obtain ⟨p, _, hp⟩ := List.mem_flatMap.1 hu
  exact page_one p u hp
theorem pcells_append (a b : List Pg) : pcells (a ++ b) = pcells a ++ pcells b := by simp [pcells]
theorem news_take {w : World} {base N c g : Nat} {ps : List Pg} {a : Nat} (h : w.ownsRow base 49 9 (.slice (some ⟨g, 0, none⟩) N c) N (pcells ps)) (ha : a ≤ N) :
    ∀ j u, (pcells (ps.take a))[j]? = some u → w.cell? ((⟨g, 0, none⟩ : Addr).add j) = some u := by
  intro j u hj
  have hl : ps.length = N := by have := h.1; rw [pcells_length] at this; omega
  have hjl : j < a * 9 := by
    have := (List.getElem?_eq_some_iff.1 hj).1
    rw [pcells_take_len ps a (by omega)] at this
    exact this
  have e : (⟨g, 0, none⟩ : Addr).add j = ⟨g, j, none⟩ := by unfold Addr.add; split <;> simp_all
  rw [e, h.cellAt _ (by omega)]
  have hp : pcells ps = pcells (ps.take a) ++ pcells (ps.drop a) := by rw [← pcells_append, List.take_append_drop]
  rw [hp, List.getElem?_append_left (by rw [pcells_take_len ps a (by omega)]; exact hjl)]
  exact hj
theorem news_drop {w : World} {base N c g : Nat} {ps : List Pg} {a : Nat} (h : w.ownsRow base 49 9 (.slice (some ⟨g, 0, none⟩) N c) N (pcells ps)) (ha : a ≤ N) :
    ∀ j u, (pcells (ps.drop a))[j]? = some u → w.cell? ⟨g, a * 9 + j, none⟩ = some u := by
  intro j u hj
  have hl : ps.length = N := by have := h.1; rw [pcells_length] at this; omega
  have hjl : j < (N - a) * 9 := by
    have := (List.getElem?_eq_some_iff.1 hj).1
    rw [pcells_drop_len, hl] at this
    exact this
  rw [h.cellAt _ (by omega)]
  have hp : pcells ps = pcells (ps.take a) ++ pcells (ps.drop a) := by rw [← pcells_append, List.take_append_drop]
  rw [hp, List.getElem?_append_right (by rw [pcells_take_len ps a (by omega)]; omega), pcells_take_len ps a (by omega), Nat.add_sub_cancel_left]
  exact hj
theorem rangeB {wq w' : World} {B : Nat} {p : Pg} (hgq : wq.heap[B]? = some (.cells p.cells 49 (0, 0))) (hb : Below wq.heap.size wq w') : w'.rangeAt B 0 p.cells.toList := by
  intro j v hj
  have h := (hb.block B (Array.getElem?_eq_some_iff.1 hgq).1).trans hgq
  have := World.news_of_block h j v hj
  rw [show (⟨B, 0, none⟩ : Addr).add j = ⟨B, 0 + j, none⟩ by unfold Addr.add; split <;> simp_all] at this
  exact this
theorem cells9 {wq w' : World} {B : Nat} {p : Pg} (hgq : wq.heap[B]? = some (.cells p.cells 49 (0, 0))) (hb : Below wq.heap.size wq w') :
    w'.cell? ⟨B, 0, none⟩ = some (.int .i64 p.line) ∧ w'.cell? ⟨B, 1, none⟩ = some (.int .u64 (p.head : Int)) ∧ w'.cell? ⟨B, 2, none⟩ = some (.int .u64 (p.d 0 : Int)) ∧ w'.cell? ⟨B, 3, none⟩ = some (.int .u64 (p.d 1 : Int)) ∧ w'.cell? ⟨B, 4, none⟩ = some (.int .u64 (p.d 2 : Int)) ∧ w'.cell? ⟨B, 5, none⟩ = some (.int .u64 (p.d 3 : Int)) ∧ w'.cell? ⟨B, 6, none⟩ = some (.int .u64 (p.d 4 : Int)) ∧ w'.cell? ⟨B, 7, none⟩ = some (.int .u64 (p.d 5 : Int)) ∧ w'.cell? ⟨B, 8, none⟩ = some (.int .u64 (p.d 6 : Int)) ∧ Below wq.heap.size wq w' := by
  have h := (hb.block B (Array.getElem?_eq_some_iff.1 hgq).1).trans hgq
  refine ⟨?_, ?_, ?_, ?_, ?_, ?_, ?_, ?_, ?_, hb⟩ <;> simp [World.cell?, h, Pg.cells]
theorem kept3n {wq w w' : World} (hg : w.grownBy w' none) (hb : Below wq.heap.size wq w) : Below wq.heap.size wq w' := hb.grown hg hb.size (fun k e => by cases e)
theorem kept3 {wq w w' : World} {v : Value} {n : Nat} {xs : List Value} (hg : w.grownBy w' v.ownBlock) (hb : Below wq.heap.size wq w) (ho : w.ownsRow wq.heap.size 49 9 v n xs) : Below wq.heap.size wq w' := hb.grown hg hb.size (fun k e => (ho.lt k e).1)
theorem kept3a {wq w0 w w' : World} {v : Value} {n : Nat} {xs : List Value} (hg : w.grownBy w' v.ownBlock) (hb : Below wq.heap.size wq w) (ho : w0.ownsRow wq.heap.size 49 9 v n xs) : Below wq.heap.size wq w' := hb.grown hg hb.size (fun k e => (ho.lt k e).1)
theorem news_blk {wq w1 : World} (p : Pg) (hg : (wq.alloc (.cells p.cells 49)).drew.grownBy w1 none) : ∀ j u, p.cells.toList[j]? = some u → w1.cell? ((⟨wq.heap.size, 0, none⟩ : Addr).add j) = some u := by
  intro j u hj
  exact World.news_of_block ((hg.block _ (by simp) (by simp)).trans (show (wq.alloc (.cells p.cells 49)).drew.heap[wq.heap.size]? = _ from heap_alloc_new wq _)) j u hj
theorem elem25 : Try.prog.elem 25 = 49 := by kernel_rfl
theorem cut_tail (g N c a : Nat) (ha : a ≤ N) (hN : N ≤ c) :
    ∃ adt : Addr, (∀ W, (Instr.slice 25 (.slice (some ⟨g, 0, none⟩) N c) (some (.int .i64 (a : Int))) none none).run Try.prog W = .ok (.slice (some adt) (N - a) (c - a)) W) ∧ (a = N ∨ adt = ⟨g, a * 9, none⟩) := by
  have hs : ∀ W, (sizeOf 49).run Try.prog W = .ok 9 W := fun W => by kernel_rfl
  refine ⟨if c = a then ⟨g, 0, none⟩ else (⟨g, 0, none⟩ : Addr).add (a * 9), fun W => ?_, ?_⟩
  · have h1 : (0 : Int) ≤ (a : Int) ∧ (a : Int) ≤ (N : Int) := by omega
    simp only [Instr.slice, Sem.run_bind, run_underlying Try.underlying25, Result.andThen_ok, Instr.sliceBounds, Instr.sliceBound, asIntOf, Sem.run_pure, Sem.run_ite, if_pos h1, hs, Int.toNat_natCast]
    by_cases e : c = a <;> simp [e]
  · by_cases e : c = a
    · left; omega
    · right
      rw [if_neg e]
      unfold Addr.add
      split <;> simp_all
theorem news_drop' {w : World} {base N c g : Nat} {ps : List Pg} {a : Nat} {adt : Addr} (h : w.ownsRow base 49 9 (.slice (some ⟨g, 0, none⟩) N c) N (pcells ps)) (ha : a ≤ N) (he : a = N ∨ adt = ⟨g, a * 9, none⟩) :
    ∀ j u, (pcells (ps.drop a))[j]? = some u → w.cell? (adt.add j) = some u := by
  intro j u hj
  rcases he with he | he
  · have hl : ps.length = N := by have := h.1; rw [pcells_length] at this; omega
    have := (List.getElem?_eq_some_iff.1 hj).1
    rw [pcells_drop_len] at this
    omega
  rw [he]
  rw [show (⟨g, a * 9, none⟩ : Addr).add j = ⟨g, a * 9 + j, none⟩ by unfold Addr.add; split <;> simp_all]
  exact news_drop h ha j u hj
theorem news_blk0 {wq : World} (p : Pg) : ∀ j u, p.cells.toList[j]? = some u → (wq.alloc (.cells p.cells 49)).drew.cell? ((⟨wq.heap.size, 0, none⟩ : Addr).add j) = some u := by
  intro j u hj
  exact World.news_of_block (show (wq.alloc (.cells p.cells 49)).drew.heap[wq.heap.size]? = _ from heap_alloc_new wq _) j u hj
theorem own_fin {w3 : World} {base base' N0 a : Nat} {ps : List Pg} {p : Pg} {v : Value} (h : w3.ownsRow base 49 9 v (0 + a + 1 + (N0 - a)) ([] ++ pcells (ps.take a) ++ p.cells.toList ++ pcells (ps.drop a))) (ha : a ≤ N0) (hl : ps.length = N0) (hb : base' ≤ base) :
    w3.ownsRow base' 49 9 v (ps.take a ++ [p] ++ ps.drop a).length (pcells (ps.take a ++ [p] ++ ps.drop a)) := by
  have e1 : (ps.take a ++ [p] ++ ps.drop a).length = 0 + a + 1 + (N0 - a) := by simp; omega
  have e2 : pcells (ps.take a ++ [p] ++ ps.drop a) = [] ++ pcells (ps.take a) ++ p.cells.toList ++ pcells (ps.drop a) := by
    rw [pcells_append, pcells_snoc]; simp
  rw [e1, e2]
  exact own_mono h hb
def PagesR (l : Int) (w : World) (e : Ending) (w' : World) : Prop := (∃ v ps, e = .returned v ∧ w'.ownsRow w.heap.size 49 9 v ps.length (pcells ps) ∧ Good l ps ∧ (ps = [] → v = .slice none 0 0)) ∧ Below w.heap.size w w'

set_option maxRecDepth 100000 in
set_option maxHeartbeats 4000000 in
theorem hpages_x (l : Int) (n cap : Nat) (A : Option Addr) (xs : List Int) (w : World) (h1 : 97 ≤ l) (h2 : l ≤ 1000) (hr : ReadsI w A n xs) :
    Calls Try.prog 34 #[.slice A n cap, .int .i64 l, .int .i64 12] w (PagesR l w) := by
  have hn := hr.2.1
  have HR := Lib.hid hr
  clear hr
  go_enter Try.func34, Try.ntmps34
  go_wp2
  go_loopg [7, 8, 9, 10] n (fun g s7 s8 _ _ wx => ∃ k : Nat, k + g = n ∧ s8 = .int .i64 k ∧ PagesI l w s7 wx)
  case atStart => exact ⟨0, by omega, rfl, [], good_nil l, World.ownsRow_nil _ _ _ _, fun _ => rfl, Below.refl _ _⟩
  case round =>
    obtain ⟨k, hk, rfl, ps, hgood, hown, hnil, hbel⟩ := hrel
    have HO := Lib.hid hown
    have HGd := Lib.hid hgood
    clear hown hgood
    cases gk with
    | zero =>
      have hge : ¬ ((k : Int) < (n : Int)) := by omega
      have HNil := Lib.hid hnil
      clear hnil
      go_wp2
      go_ret
      exact ⟨⟨_, ps, rfl, HO.out, HGd.out, HNil.out⟩, hbel⟩
    | succ g =>
      have hlt : (k : Int) < (n : Int) := by omega
      obtain ⟨ad, rfl, hadb, hcx, hx1, hx2⟩ := HR.out.2.2 k (by omega)
      have hcx' : wr.cell? (ad.add k) = some (.int .i64 (xs.getD k 0)) := (hbel.cell (by rw [block_add]; exact hadb)).trans hcx
      generalize xs.getD k 0 = x at *
      have hpg := fun W => hpage_x x l W h1 h2 ⟨hx1, hx2⟩
      have HPOK := Lib.hid (good_hpage x l h1 h2)
      generalize hpage x l = p at hpg HPOK
      have HPG := Lib.hid hpg
      clear hpg hcx
      have hs9 : (Try.prog.info? 49).map (·.size) = some p.cells.size := by rw [size49]; rfl
      go_wp2_with (first
        | (go_at_call 29; refine (HPG.out _).mono ?_; rintro e w3 ⟨rfl, hb3⟩)
        | (refine wpList_store_new2 rfl 49 _ _ rfl w3 _ rfl _ p.cells rfl rfl rfl (by rw [size49]; rfl) rfl (cells_one p) ?_)
        | fail)
      have hb4 : Below wr.heap.size wr (w3.alloc (.cells p.cells 49)) := hb3.alloc hb3.size _
      have hg4 : (w3.alloc (.cells p.cells 49)).heap[w3.heap.size]? = some (.cells p.cells 49 (0, 0)) := heap_alloc_new w3 _
      have ho4 := own_below HO.out hb4
      have hsB : wr.heap.size ≤ w3.heap.size := hb3.size
      obtain ⟨B, hB⟩ : ∃ B, w3.heap.size = B := ⟨_, rfl⟩
      have hsz4 : (w3.alloc (.cells p.cells 49)).heap.size = B + 1 := by rw [World.size_alloc, hB]
      rw [hB] at hg4 hsB ⊢
      have hbw4 := hbel.trans (hb4.mono hbel.size)
      have hwB : w.heap.size ≤ B := Nat.le_trans hbel.size hsB
      have hgB : ∀ g, u7.ownBlock = some g → g < B := fun g e => Nat.lt_of_lt_of_le ((HO.out.lt _ e).2) hsB
      have HSZ := Lib.hid hsz4
      have HG4 := Lib.hid hg4
      have HO4 := Lib.hid ho4
      have HB4 := Lib.hid hbw4
      have HGB := Lib.hid hgB
      have HNil := Lib.hid hnil
      clear hb4 hg4 ho4 hsz4 hbw4 hgB hnil hB hb3 hsB hcx' hbel HO
      generalize w3.alloc (.cells p.cells 49) = w4 at *
      by_cases hps : ps = []
      · have hu := HNil.out hps
        subst hu
        subst hps
        have h00 : ¬ ((0 : Int) < 0) := by omega
        clear HNil HGB
        go_loopg [10] 0 (fun g2 s10 wx => g2 = 0 ∧ s10 = .int .i64 0 ∧ wx = w4)
        case atStart => exact ⟨rfl, rfl, rfl⟩
        case round =>
          obtain ⟨hg0, rfl, rfl⟩ := hrel
          go_wp2
          go_quiet (fail)
          go_wp2
          go_quiet (fail)
          go_wp2
          try simp only [World.drewN_drewN]
          generalize hwq : wr.drewN _ = wq
          have hbq : Below wr.heap.size wr wq := by rw [← hwq]; exact below_drewN (Below.refl _ _) _
          have hgq := (hbq.block B (Array.getElem?_eq_some_iff.1 HG4.out).1).trans HG4.out
          have hbwq : Below w.heap.size w wq := HB4.out.trans (hbq.mono HB4.out.size)
          have hBq : B < wq.heap.size := (Array.getElem?_eq_some_iff.1 hgq).1
          have HGq := Lib.hid hgq
          have HBq := Lib.hid hbwq
          have HST := Lib.hid (cells9 HGq.out ((Below.refl _ wq).drew))
          obtain ⟨i9, hi9, hz90, hz91, hz92⟩ := info_parts info49b
          clear hgq hbwq hbq hwq
          go_region_held3 (fun w' => w'.cell? ⟨B, 0, none⟩ = some (.int .i64 p.line) ∧ w'.cell? ⟨B, 1, none⟩ = some (.int .u64 (p.head : Int)) ∧ w'.cell? ⟨B, 2, none⟩ = some (.int .u64 (p.d 0 : Int)) ∧ w'.cell? ⟨B, 3, none⟩ = some (.int .u64 (p.d 1 : Int)) ∧ w'.cell? ⟨B, 4, none⟩ = some (.int .u64 (p.d 2 : Int)) ∧ w'.cell? ⟨B, 5, none⟩ = some (.int .u64 (p.d 3 : Int)) ∧ w'.cell? ⟨B, 6, none⟩ = some (.int .u64 (p.d 4 : Int)) ∧ w'.cell? ⟨B, 7, none⟩ = some (.int .u64 (p.d 5 : Int)) ∧ w'.cell? ⟨B, 8, none⟩ = some (.int .u64 (p.d 6 : Int)) ∧ Below wq.heap.size wq w')
            (first | (exact HST.out) | assumption | (exact cells9 HGq.out (((Below.refl _ wq).alloc (Nat.le_refl _) _).drew)) | (exact cells9 HGq.out (kept3n hgrow2 (‹_ ∧ _ ∧ _ ∧ _ ∧ _ ∧ _ ∧ _ ∧ _ ∧ _ ∧ Below wq.heap.size wq _›).2.2.2.2.2.2.2.2.2)) | fail)
            (first | (refine step_append_nil _ (by rfl) _ _ _ (by rfl) 49 9 Try.underlying25 size49 (some ⟨g2, 0, none⟩) (0 + 1) cp2 (by rfl) (own_cap hown2) (by rfl) ?_) | (refine step_append_nil _ (by rfl) _ _ _ (by rfl) 49 9 Try.underlying25 size49 none 0 0 (by rfl) (by omega) (by rfl) ?_) | (refine step_append_lies _ (by rfl) _ _ _ (by rfl) wq.heap.size 49 i9 _ 9 72 Try.underlying25 hi9 hz90 hz91 hz92 rfl (by omega) (.slice none 0 0) 0 [] (by rfl) (World.ownsRow_nil _ _ _ _) ⟨wq.heap.size, 0, none⟩ 1 1 p.cells.toList (by rfl) rfl (news_blk0 p) (page_one p) (by omega) (by unfold maxLen; omega) (by omega) ((‹_ ∧ _ ∧ _ ∧ _ ∧ _ ∧ _ ∧ _ ∧ _ ∧ _ ∧ Below wq.heap.size wq _›).2.2.2.2.2.2.2.2.2).size _ rfl ?_; intro g2 cp2 w2 hown2 hgrow2 hblk2 hlt2) | fail)
          all_goals
            have hS3 := (‹_ ∧ _ ∧ _ ∧ _ ∧ _ ∧ _ ∧ _ ∧ _ ∧ _ ∧ Below wq.heap.size wq w2›).2.2.2.2.2.2.2.2.2
            have HF := Lib.hid hown2
            clear hown2 hgrow2 hblk2 hlt2
            go_wp2
            go_roundg g
            case measure => omega
            case rel =>
              refine ⟨k + 1, by omega, by go_num, [p], good_one l p HPOK.out, ?_, fun e => absurd e (by simp), HBq.out.trans (hS3.mono HBq.out.size)⟩
              have h := own_mono HF.out HBq.out.size
              rw [List.nil_append] at h
              rw [show pcells [p] = p.cells.toList by simp [pcells]]
              exact h
      · have hpos : 0 < ps.length := List.length_pos_iff.2 hps
        obtain ⟨g0, c0, rfl, hwg, _⟩ := HO4.out.form hpos
        have hg0 : g0 < B := HGB.out g0 rfl
        obtain ⟨N0, hN0⟩ : ∃ N0, ps.length = N0 := ⟨_, rfl⟩
        have hN12 : N0 ≤ 12 := by rw [← hN0]; exact HGd.out.2.1
        rw [hN0] at HO4 hpos ⊢
        have HN0 := Lib.hid hN0
        clear hN0 hps HNil HGB
        go_loopg [10] N0 (fun g2 s10 wx => ∃ a : Nat, a + g2 = N0 ∧ s10 = .int .i64 a ∧ (∀ j q, j < a → ps[j]? = some q → q.line < p.line) ∧ Below w4.heap.size w4 wx)
        case atStart => exact ⟨0, by omega, rfl, fun j q hj => by omega, Below.refl _ _⟩
        case round =>
          obtain ⟨a, ha, rfl, hlow, hbr⟩ := hrel
          have ho5 := own_below HO4.out hbr
          have hg5 := (hbr.block B (by rw [HSZ.out]; omega)).trans HG4.out
          have cB : wr.cell? ⟨B, 0, none⟩ = some (.int .i64 p.line) := by simp [World.cell?, hg5, Pg.cells]
          have HO5 := Lib.hid ho5
          have HG5 := Lib.hid hg5
          have HLow := Lib.hid hlow
          clear ho5 hg5 hlow
          cases gk with
          | zero =>
            have haN : a = N0 := by omega
            have hda : decide (a < N0) = false := decide_eq_false (by omega)
            have HaN := Lib.hid haN
            have HUp : Hid (∀ q, ps[a]? = some q → p.line < q.line) := fun q hq => by
              have := (List.getElem?_eq_some_iff.1 hq).1
              have := HN0.out
              omega
            clear ha haN
            go_wp2
            go_quiet (fail)
            by_cases h12 : 12 ≤ N0
            · have d12 : decide ((12 : Int) ≤ (N0 : Int)) = true := decide_eq_true (by omega)
              go_wp2
              go_quiet (fail)
              go_wp2
              go_roundg g
              case measure => omega
              case rel =>
                refine ⟨k + 1, by omega, by go_num, ps, HGd.out, ?_, ?_, ?_⟩
                · rw [HN0.out]; exact own_below HO5.out (below_drewN (Below.refl _ _) _)
                · intro e
                  have := HN0.out
                  rw [e] at this
                  simp at this
                  omega
                · exact below_drewN (HB4.out.trans (hbr.mono HB4.out.size)) _
            · have d12 : decide ((12 : Int) ≤ (N0 : Int)) = false := decide_eq_false (by omega)
              go_wp2
              go_quiet (fail)
              go_wp2
              have haN := HaN.out
              have HLenA := Lib.hid (show a ≤ N0 by omega)
              have hi1 : (0 : Int) ≤ (a : Int) := by omega
              have hi2 : (a : Int) ≤ (N0 : Int) := by omega
              have hcc := HO5.out.2
              have hac : a ≤ c0 ∧ N0 ≤ c0 := by
                rcases hcc with ⟨h, _⟩ | ⟨g', cap', cur', h, _, _, h', _⟩
                · cases h
                · cases h; omega
              obtain ⟨hac1, hac2⟩ := hac
              have hi3 : (a : Int) ≤ (c0 : Int) := by omega
              have hi4 : (N0 : Int) ≤ (c0 : Int) := by omega
              clear hcc hda d12 haN
              obtain ⟨adt, hT, had⟩ := cut_tail g0 N0 c0 a HLenA.out hac2
              have HAD := Lib.hid had
              clear had
              try simp only [World.drewN_drewN]
              generalize hwq : wr.drewN _ = wq
              have hbq : Below wr.heap.size wr wq := by rw [← hwq]; exact below_drewN (Below.refl _ _) _
              have hoq := own_below HO5.out hbq
              have hgq := (hbq.block B (Array.getElem?_eq_some_iff.1 HG5.out).1).trans HG5.out
              have hbwq : Below w.heap.size w wq := HB4.out.trans ((hbr.trans (hbq.mono hbr.size)).mono HB4.out.size)
              have hBq : B < wq.heap.size := (Array.getElem?_eq_some_iff.1 hgq).1
              have HOq := Lib.hid hoq
              have HGq := Lib.hid hgq
              have HBq := Lib.hid hbwq
              have HST := Lib.hid (cells9 HGq.out ((Below.refl _ wq).drew))
              obtain ⟨i9, hi9, hz90, hz91, hz92⟩ := info_parts info49b
              clear hoq hgq hbwq hbq hwq cB
              go_region_held3 (fun w' => w'.cell? ⟨B, 0, none⟩ = some (.int .i64 p.line) ∧ w'.cell? ⟨B, 1, none⟩ = some (.int .u64 (p.head : Int)) ∧ w'.cell? ⟨B, 2, none⟩ = some (.int .u64 (p.d 0 : Int)) ∧ w'.cell? ⟨B, 3, none⟩ = some (.int .u64 (p.d 1 : Int)) ∧ w'.cell? ⟨B, 4, none⟩ = some (.int .u64 (p.d 2 : Int)) ∧ w'.cell? ⟨B, 5, none⟩ = some (.int .u64 (p.d 3 : Int)) ∧ w'.cell? ⟨B, 6, none⟩ = some (.int .u64 (p.d 4 : Int)) ∧ w'.cell? ⟨B, 7, none⟩ = some (.int .u64 (p.d 5 : Int)) ∧ w'.cell? ⟨B, 8, none⟩ = some (.int .u64 (p.d 6 : Int)) ∧ Below wq.heap.size wq w')
                (first | (exact HST.out) | assumption | (exact cells9 HGq.out (((Below.refl _ wq).alloc (Nat.le_refl _) _).drew)) | (exact cells9 HGq.out (kept3 hgrow3 (‹_ ∧ _ ∧ _ ∧ _ ∧ _ ∧ _ ∧ _ ∧ _ ∧ _ ∧ Below wq.heap.size wq _›).2.2.2.2.2.2.2.2.2 hown2)) | (exact cells9 HGq.out (kept3 hgrow2 (‹_ ∧ _ ∧ _ ∧ _ ∧ _ ∧ _ ∧ _ ∧ _ ∧ _ ∧ Below wq.heap.size wq _›).2.2.2.2.2.2.2.2.2 hown1)) | (exact cells9 HGq.out (kept3a hgrow2 (‹_ ∧ _ ∧ _ ∧ _ ∧ _ ∧ _ ∧ _ ∧ _ ∧ _ ∧ Below wq.heap.size wq _›).2.2.2.2.2.2.2.2.2 hown1)) | (exact cells9 HGq.out (kept3n hgrow1 (‹_ ∧ _ ∧ _ ∧ _ ∧ _ ∧ _ ∧ _ ∧ _ ∧ _ ∧ Below wq.heap.size wq _›).2.2.2.2.2.2.2.2.2)) | (exact cells9 HGq.out (((‹_ ∧ _ ∧ _ ∧ _ ∧ _ ∧ _ ∧ _ ∧ _ ∧ _ ∧ Below wq.heap.size wq _›).2.2.2.2.2.2.2.2.2).alloc ((‹_ ∧ _ ∧ _ ∧ _ ∧ _ ∧ _ ∧ _ ∧ _ ∧ _ ∧ Below wq.heap.size wq _›).2.2.2.2.2.2.2.2.2).size _)) | fail)
                (first | (refine step_append_at _ (by rfl) _ _ _ (by rfl) wq.heap.size 49 i9 _ 9 72 Try.underlying25 hi9 hz90 hz91 hz92 rfl (by omega) (.slice none 0 0) 0 [] (by rfl) (World.ownsRow_nil _ _ _ _) ⟨g0, 0, none⟩ a c0 (pcells (ps.take a)) (by rfl) (pcells_take_len ps a (by rw [HN0.out]; exact HLenA.out)) (news_take (own_below HOq.out (‹_ ∧ _ ∧ _ ∧ _ ∧ _ ∧ _ ∧ _ ∧ _ ∧ _ ∧ Below wq.heap.size wq _›).2.2.2.2.2.2.2.2.2) HLenA.out) (pcells_one _) (by unfold maxLen; omega) (by omega) (‹_ ∧ _ ∧ _ ∧ _ ∧ _ ∧ _ ∧ _ ∧ _ ∧ _ ∧ Below wq.heap.size wq _›).2.2.2.2.2.2.2.2.2.size ?_; intro v1 w1 hown1 hgrow1 hblk1) | (refine step_append_at _ (by rfl) _ _ _ (by rfl) wq.heap.size 49 i9 _ 9 72 Try.underlying25 hi9 hz90 hz91 hz92 rfl (by omega) v1 (0 + a) _ (by rfl) (hown1.alloc _) ⟨w1.heap.size, 0, none⟩ 1 1 p.cells.toList (by rfl) rfl (page_cells w1 p) (page_one p) (by unfold maxLen; omega) (by omega) (‹_ ∧ _ ∧ _ ∧ _ ∧ _ ∧ _ ∧ _ ∧ _ ∧ _ ∧ Below wq.heap.size wq _›).2.2.2.2.2.2.2.2.2.size ?_; intro v2 w2 hown2 hgrow2 hblk2) | (refine step_append_at _ (by rfl) _ _ _ (by rfl) wq.heap.size 49 i9 _ 9 72 Try.underlying25 hi9 hz90 hz91 hz92 rfl (by omega) v1 (0 + a) _ (by rfl) hown1 ⟨wq.heap.size, 0, none⟩ 1 1 p.cells.toList (by rfl) rfl (news_blk p hgrow1) (page_one p) (by unfold maxLen; omega) (by omega) (‹_ ∧ _ ∧ _ ∧ _ ∧ _ ∧ _ ∧ _ ∧ _ ∧ _ ∧ Below wq.heap.size wq _›).2.2.2.2.2.2.2.2.2.size ?_; intro v2 w2 hown2 hgrow2 hblk2) | (refine step_append_at _ (by rfl) _ _ _ (by rfl) wq.heap.size 49 i9 _ 9 72 Try.underlying25 hi9 hz90 hz91 hz92 rfl (by omega) v2 (0 + a + 1) _ (by rfl) hown2 adt (N0 - a) (c0 - a) (pcells (ps.drop a)) (by rfl) (by rw [pcells_drop_len, HN0.out]) (news_drop' (own_below HOq.out (‹_ ∧ _ ∧ _ ∧ _ ∧ _ ∧ _ ∧ _ ∧ _ ∧ _ ∧ Below wq.heap.size wq _›).2.2.2.2.2.2.2.2.2) HLenA.out HAD.out) (pcells_one _) (by unfold maxLen; omega) (by omega) (‹_ ∧ _ ∧ _ ∧ _ ∧ _ ∧ _ ∧ _ ∧ _ ∧ _ ∧ Below wq.heap.size wq _›).2.2.2.2.2.2.2.2.2.size ?_; intro v3 w3 hown3 hgrow3 hblk3) | fail)
              all_goals
                have hS3 := (‹_ ∧ _ ∧ _ ∧ _ ∧ _ ∧ _ ∧ _ ∧ _ ∧ _ ∧ Below wq.heap.size wq w3›).2.2.2.2.2.2.2.2.2
                have hfin := own_fin hown3 HLenA.out HN0.out HBq.out.size
                have HF := Lib.hid hfin
                have hne : ps.take a ++ [p] ++ ps.drop a ≠ [] := by simp
                have HNE := Lib.hid hne
                clear hT hown3 hown2 hown1 hgrow1 hgrow2 hgrow3 hblk1 hblk2 hblk3 hfin hne
                go_wp2
                go_roundg g
                case measure => omega
                case rel =>
                  refine ⟨k + 1, by omega, by go_num, ps.take a ++ [p] ++ ps.drop a, ?_, HF.out, fun e => absurd e HNE.out, HBq.out.trans (hS3.mono HBq.out.size)⟩
                  exact good_insert l ps p a HGd.out HPOK.out (by rw [HN0.out]; exact HLenA.out) HLow.out HUp.out (by rw [HN0.out]; omega)
          | succ g2 =>
            have haN : a < N0 := by omega
            obtain ⟨q, hq⟩ := get_of_lt ps a (by have := HN0.out; omega)
            have cq : wr.cell? ⟨g0, a * 9, none⟩ = some (.int .i64 q.line) := by
              rw [HO5.out.cellAt _ (by omega)]
              exact pcells_at ps a 0 q hq (by omega)
            have hda : decide (a < N0) = true := decide_eq_true haN
            have hj1 : (0 : Int) ≤ (a : Int) := by omega
            have hj2 : (a : Int) < (N0 : Int) := by omega
            have HaN := Lib.hid haN
            have HAg := Lib.hid ha
            have HQ := Lib.hid hq
            clear hq ha haN
            by_cases hql : q.line < p.line
            · have dq : decide (q.line < p.line) = true := decide_eq_true hql
              go_wp2
              go_quiet (fail)
              go_wp2
              go_roundg g2
              case measure => omega
              case rel =>
                refine ⟨a + 1, by have := HAg.out; omega, by go_num, ?_, below_drewN hbr _⟩
                intro j z hj hz
                by_cases e : j = a
                · rw [e, HQ.out] at hz; cases hz; exact hql
                · exact HLow.out j z (by omega) hz
            · have dq : decide (q.line < p.line) = false := decide_eq_false hql
              go_wp2
              go_quiet (fail)
              clear dq
              by_cases hqe : q.line = p.line
              · have dq : (q.line == p.line) = true := beq_iff_eq.2 hqe
                clear hqe
                go_wp2
                go_quiet (fail)
                go_wp2
                go_roundg g
                case measure => omega
                case rel =>
                  refine ⟨k + 1, by omega, by go_num, ps, HGd.out, ?_, ?_, ?_⟩
                  · rw [HN0.out]; exact own_below HO5.out (below_drewN (Below.refl _ _) _)
                  · intro e
                    have := HN0.out
                    rw [e] at this
                    simp at this
                    omega
                  · exact below_drewN (HB4.out.trans (hbr.mono HB4.out.size)) _
              · have dq : (q.line == p.line) = false := by rw [beq_eq_false_iff_ne]; exact hqe
                have HUp : Hid (∀ z, ps[a]? = some z → p.line < z.line) := fun z hz => by rw [HQ.out] at hz; cases hz; omega
                clear hqe
                by_cases h12 : 12 ≤ N0
                · have d12 : decide ((12 : Int) ≤ (N0 : Int)) = true := decide_eq_true (by omega)
                  go_wp2
                  go_quiet (fail)
                  go_wp2
                  go_roundg g
                  case measure => omega
                  case rel =>
                    refine ⟨k + 1, by omega, by go_num, ps, HGd.out, ?_, ?_, ?_⟩
                    · rw [HN0.out]; exact own_below HO5.out (below_drewN (Below.refl _ _) _)
                    · intro e
                      have := HN0.out
                      rw [e] at this
                      simp at this
                      omega
                    · exact below_drewN (HB4.out.trans (hbr.mono HB4.out.size)) _
                · have d12 : decide ((12 : Int) ≤ (N0 : Int)) = false := decide_eq_false (by omega)
                  go_wp2
                  go_quiet (fail)
                  go_wp2
                  have haN := HaN.out
                  have HLenA := Lib.hid (show a ≤ N0 by omega)
                  have hi1 : (0 : Int) ≤ (a : Int) := by omega
                  have hi2 : (a : Int) ≤ (N0 : Int) := by omega
                  have hcc := HO5.out.2
                  have hac : a ≤ c0 ∧ N0 ≤ c0 := by
                    rcases hcc with ⟨h, _⟩ | ⟨g', cap', cur', h, _, _, h', _⟩
                    · cases h
                    · cases h; omega
                  obtain ⟨hac1, hac2⟩ := hac
                  have hi3 : (a : Int) ≤ (c0 : Int) := by omega
                  have hi4 : (N0 : Int) ≤ (c0 : Int) := by omega
                  clear hcc hda d12 haN
                  obtain ⟨adt, hT, had⟩ := cut_tail g0 N0 c0 a HLenA.out hac2
                  have HAD := Lib.hid had
                  clear had
                  try simp only [World.drewN_drewN]
                  generalize hwq : wr.drewN _ = wq
                  have hbq : Below wr.heap.size wr wq := by rw [← hwq]; exact below_drewN (Below.refl _ _) _
                  have hoq := own_below HO5.out hbq
                  have hgq := (hbq.block B (Array.getElem?_eq_some_iff.1 HG5.out).1).trans HG5.out
                  have hbwq : Below w.heap.size w wq := HB4.out.trans ((hbr.trans (hbq.mono hbr.size)).mono HB4.out.size)
                  have hBq : B < wq.heap.size := (Array.getElem?_eq_some_iff.1 hgq).1
                  have HOq := Lib.hid hoq
                  have HGq := Lib.hid hgq
                  have HBq := Lib.hid hbwq
                  have HST := Lib.hid (cells9 HGq.out ((Below.refl _ wq).drew))
                  obtain ⟨i9, hi9, hz90, hz91, hz92⟩ := info_parts info49b
                  clear hoq hgq hbwq hbq hwq cB
                  go_region_held3 (fun w' => w'.cell? ⟨B, 0, none⟩ = some (.int .i64 p.line) ∧ w'.cell? ⟨B, 1, none⟩ = some (.int .u64 (p.head : Int)) ∧ w'.cell? ⟨B, 2, none⟩ = some (.int .u64 (p.d 0 : Int)) ∧ w'.cell? ⟨B, 3, none⟩ = some (.int .u64 (p.d 1 : Int)) ∧ w'.cell? ⟨B, 4, none⟩ = some (.int .u64 (p.d 2 : Int)) ∧ w'.cell? ⟨B, 5, none⟩ = some (.int .u64 (p.d 3 : Int)) ∧ w'.cell? ⟨B, 6, none⟩ = some (.int .u64 (p.d 4 : Int)) ∧ w'.cell? ⟨B, 7, none⟩ = some (.int .u64 (p.d 5 : Int)) ∧ w'.cell? ⟨B, 8, none⟩ = some (.int .u64 (p.d 6 : Int)) ∧ Below wq.heap.size wq w')
                    (first | (exact HST.out) | assumption | (exact cells9 HGq.out (((Below.refl _ wq).alloc (Nat.le_refl _) _).drew)) | (exact cells9 HGq.out (kept3 hgrow3 (‹_ ∧ _ ∧ _ ∧ _ ∧ _ ∧ _ ∧ _ ∧ _ ∧ _ ∧ Below wq.heap.size wq _›).2.2.2.2.2.2.2.2.2 hown2)) | (exact cells9 HGq.out (kept3 hgrow2 (‹_ ∧ _ ∧ _ ∧ _ ∧ _ ∧ _ ∧ _ ∧ _ ∧ _ ∧ Below wq.heap.size wq _›).2.2.2.2.2.2.2.2.2 hown1)) | (exact cells9 HGq.out (kept3a hgrow2 (‹_ ∧ _ ∧ _ ∧ _ ∧ _ ∧ _ ∧ _ ∧ _ ∧ _ ∧ Below wq.heap.size wq _›).2.2.2.2.2.2.2.2.2 hown1)) | (exact cells9 HGq.out (kept3n hgrow1 (‹_ ∧ _ ∧ _ ∧ _ ∧ _ ∧ _ ∧ _ ∧ _ ∧ _ ∧ Below wq.heap.size wq _›).2.2.2.2.2.2.2.2.2)) | (exact cells9 HGq.out (((‹_ ∧ _ ∧ _ ∧ _ ∧ _ ∧ _ ∧ _ ∧ _ ∧ _ ∧ Below wq.heap.size wq _›).2.2.2.2.2.2.2.2.2).alloc ((‹_ ∧ _ ∧ _ ∧ _ ∧ _ ∧ _ ∧ _ ∧ _ ∧ _ ∧ Below wq.heap.size wq _›).2.2.2.2.2.2.2.2.2).size _)) | fail)
                    (first | (refine step_append_at _ (by rfl) _ _ _ (by rfl) wq.heap.size 49 i9 _ 9 72 Try.underlying25 hi9 hz90 hz91 hz92 rfl (by omega) (.slice none 0 0) 0 [] (by rfl) (World.ownsRow_nil _ _ _ _) ⟨g0, 0, none⟩ a c0 (pcells (ps.take a)) (by rfl) (pcells_take_len ps a (by rw [HN0.out]; exact HLenA.out)) (news_take (own_below HOq.out (‹_ ∧ _ ∧ _ ∧ _ ∧ _ ∧ _ ∧ _ ∧ _ ∧ _ ∧ Below wq.heap.size wq _›).2.2.2.2.2.2.2.2.2) HLenA.out) (pcells_one _) (by unfold maxLen; omega) (by omega) (‹_ ∧ _ ∧ _ ∧ _ ∧ _ ∧ _ ∧ _ ∧ _ ∧ _ ∧ Below wq.heap.size wq _›).2.2.2.2.2.2.2.2.2.size ?_; intro v1 w1 hown1 hgrow1 hblk1) | (refine step_append_at _ (by rfl) _ _ _ (by rfl) wq.heap.size 49 i9 _ 9 72 Try.underlying25 hi9 hz90 hz91 hz92 rfl (by omega) v1 (0 + a) _ (by rfl) (hown1.alloc _) ⟨w1.heap.size, 0, none⟩ 1 1 p.cells.toList (by rfl) rfl (page_cells w1 p) (page_one p) (by unfold maxLen; omega) (by omega) (‹_ ∧ _ ∧ _ ∧ _ ∧ _ ∧ _ ∧ _ ∧ _ ∧ _ ∧ Below wq.heap.size wq _›).2.2.2.2.2.2.2.2.2.size ?_; intro v2 w2 hown2 hgrow2 hblk2) | (refine step_append_at _ (by rfl) _ _ _ (by rfl) wq.heap.size 49 i9 _ 9 72 Try.underlying25 hi9 hz90 hz91 hz92 rfl (by omega) v1 (0 + a) _ (by rfl) hown1 ⟨wq.heap.size, 0, none⟩ 1 1 p.cells.toList (by rfl) rfl (news_blk p hgrow1) (page_one p) (by unfold maxLen; omega) (by omega) (‹_ ∧ _ ∧ _ ∧ _ ∧ _ ∧ _ ∧ _ ∧ _ ∧ _ ∧ Below wq.heap.size wq _›).2.2.2.2.2.2.2.2.2.size ?_; intro v2 w2 hown2 hgrow2 hblk2) | (refine step_append_at _ (by rfl) _ _ _ (by rfl) wq.heap.size 49 i9 _ 9 72 Try.underlying25 hi9 hz90 hz91 hz92 rfl (by omega) v2 (0 + a + 1) _ (by rfl) hown2 adt (N0 - a) (c0 - a) (pcells (ps.drop a)) (by rfl) (by rw [pcells_drop_len, HN0.out]) (news_drop' (own_below HOq.out (‹_ ∧ _ ∧ _ ∧ _ ∧ _ ∧ _ ∧ _ ∧ _ ∧ _ ∧ Below wq.heap.size wq _›).2.2.2.2.2.2.2.2.2) HLenA.out HAD.out) (pcells_one _) (by unfold maxLen; omega) (by omega) (‹_ ∧ _ ∧ _ ∧ _ ∧ _ ∧ _ ∧ _ ∧ _ ∧ _ ∧ Below wq.heap.size wq _›).2.2.2.2.2.2.2.2.2.size ?_; intro v3 w3 hown3 hgrow3 hblk3) | fail)
                  all_goals
                    have hS3 := (‹_ ∧ _ ∧ _ ∧ _ ∧ _ ∧ _ ∧ _ ∧ _ ∧ _ ∧ Below wq.heap.size wq w3›).2.2.2.2.2.2.2.2.2
                    have hfin := own_fin hown3 HLenA.out HN0.out HBq.out.size
                    have HF := Lib.hid hfin
                    have hne : ps.take a ++ [p] ++ ps.drop a ≠ [] := by simp
                    have HNE := Lib.hid hne
                    clear hT hown3 hown2 hown1 hgrow1 hgrow2 hgrow3 hblk1 hblk2 hblk3 hfin hne
                    go_wp2
                    go_roundg g
                    case measure => omega
                    case rel =>
                      refine ⟨k + 1, by omega, by go_num, ps.take a ++ [p] ++ ps.drop a, ?_, HF.out, fun e => absurd e HNE.out, HBq.out.trans (hS3.mono HBq.out.size)⟩
                      exact good_insert l ps p a HGd.out HPOK.out (by rw [HN0.out]; exact HLenA.out) HLow.out HUp.out (by rw [HN0.out]; omega)
end Go.Proofs.Ytmeppeadfhifeaa
