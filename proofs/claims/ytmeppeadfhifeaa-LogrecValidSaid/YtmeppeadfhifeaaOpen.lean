/- Arguments opened: a page by value, a slice of pages, words, numbers. Conditions: the arguments can be read as data. -/
import Derived.Test.YtmeppeadfhifeaaPages
import Derived.OpenShut
import Derived.Deep.Slices
import Derived.ChangeSame
import Derived.Lib.SmallJoins
namespace Go.Proofs.Ytmeppeadfhifeaa
open Go.ChangeShapes Go.WideShapes Go.RowKit Go.Deep
set_option linter.unusedVariables false
set_option linter.unusedSimpArgs false

section
variable {H : Type} {enc : TypeId × Value → H} {w : World} {base : Nat} {spare : Nat → Bool} {held : Bool}
theorem wf_u64 {n : Int} (h : (Lit.int .u64 n).wf = true) : 0 ≤ n ∧ n < 18446744073709551616 := by
  have := bounds_u64 h
  omega
theorem wf_i64 {n : Int} (h : (Lit.int .i64 n).wf = true) : -9223372036854775808 ≤ n ∧ n ≤ 9223372036854775807 := bounds_i64 h
theorem list9 {α : Type} {cs : List α} (h : cs.length = 9) : ∃ c0 c1 c2 c3 c4 c5 c6 c7 c8, cs = [c0, c1, c2, c3, c4, c5, c6, c7, c8] := by
  match cs, h with
  | [c0, c1, c2, c3, c4, c5, c6, c7, c8], _ => exact ⟨c0, c1, c2, c3, c4, c5, c6, c7, c8, rfl⟩
theorem trod_pg {fuel : Nat} {cs : List Value} {x : DataW H × List MemPlace} (h : DataW.trod enc Try.prog w base spare held fuel 49 cs = some x) : ∃ p : Pg, cs = p.cells.toList ∧ p.ok := by
  obtain ⟨xs, n, _, _, hl, hxl, hf⟩ := DataW.trod_struct Try.underlying49 h
  have c49 : Try.prog.cellsOf 49 = 9 := by kernel_rfl
  have c3 : Try.prog.cellsOf 3 = 1 := by kernel_rfl
  have c23 : Try.prog.cellsOf 23 = 1 := by kernel_rfl
  have c47 : Try.prog.cellsOf 47 = 7 := by kernel_rfl
  rw [c49] at hl
  obtain ⟨v0, v1, v2, v3, v4, v5, v6, v7, v8, rfl⟩ := list9 hl
  have hxs : ∀ i, i < 3 → ∃ y, xs[i]? = some y := fun i hi => ⟨_, List.getElem?_eq_getElem (by rw [hxl]; exact hi)⟩
  obtain ⟨y0, hy0⟩ := hxs 0 (by omega)
  obtain ⟨y1, hy1⟩ := hxs 1 (by omega)
  obtain ⟨y2, hy2⟩ := hxs 2 (by omega)
  have f0 : DataW.trod enc Try.prog w base spare held n 3 (([v0, v1, v2, v3, v4, v5, v6, v7, v8].drop 0).take (Try.prog.cellsOf 3)) = some y0 := (hf 0 _ rfl).trans hy0
  have f1 : DataW.trod enc Try.prog w base spare held n 23 (([v0, v1, v2, v3, v4, v5, v6, v7, v8].drop 1).take (Try.prog.cellsOf 23)) = some y1 := (hf 1 _ rfl).trans hy1
  have f2 : DataW.trod enc Try.prog w base spare held n 47 (([v0, v1, v2, v3, v4, v5, v6, v7, v8].drop 2).take (Try.prog.cellsOf 47)) = some y2 := (hf 2 _ rfl).trans hy2
  rw [c3] at f0
  rw [c23] at f1
  rw [c47] at f2
  obtain ⟨n0, e0, _, w0⟩ := DataW.trod_int Try.underlying3 f0
  obtain ⟨n1, e1, _, w1⟩ := DataW.trod_int Try.underlying23 f1
  obtain ⟨zs, m, _, _, _, hzl, hz⟩ := DataW.trod_array Try.underlying47 f2
  have hzs : ∀ i, i < 7 → ∃ d : Nat, ([v2, v3, v4, v5, v6, v7, v8] : List Value)[i]? = some (.int .u64 (d : Int)) ∧ d < 18446744073709551616 := by
    intro i hi
    have h1 := hz i hi
    rw [c23, List.getElem?_eq_getElem (by rw [hzl]; exact hi)] at h1
    obtain ⟨k, ek, _, wk⟩ := DataW.trod_int Try.underlying23 h1
    have hk := wf_u64 wk
    refine ⟨k.toNat, ?_, by omega⟩
    rw [Int.toNat_of_nonneg hk.1]
    match i, hi with
    | 0, _ => simpa using ek
    | 1, _ => simpa using ek
    | 2, _ => simpa using ek
    | 3, _ => simpa using ek
    | 4, _ => simpa using ek
    | 5, _ => simpa using ek
    | 6, _ => simpa using ek
  obtain ⟨d0, g0, l0⟩ := hzs 0 (by omega)
  obtain ⟨d1, g1, l1⟩ := hzs 1 (by omega)
  obtain ⟨d2, g2, l2⟩ := hzs 2 (by omega)
  obtain ⟨d3, g3, l3⟩ := hzs 3 (by omega)
  obtain ⟨d4, g4, l4⟩ := hzs 4 (by omega)
  obtain ⟨d5, g5, l5⟩ := hzs 5 (by omega)
  obtain ⟨d6, g6, l6⟩ := hzs 6 (by omega)
  simp at g0 g1 g2 g3 g4 g5 g6 e0 e1
  subst g0 g1 g2 g3 g4 g5 g6 e0 e1
  have a0 := wf_i64 w0
  have a1 := wf_u64 w1
  refine ⟨⟨n0, n1.toNat, fun j => [d0, d1, d2, d3, d4, d5, d6].getD j 0⟩, ?_, a0.1, a0.2, by show n1.toNat < _; omega, fun k hk => ?_⟩
  · simp [Pg.cells, Int.toNat_of_nonneg a1.1]
  · match k, hk with
    | 0, _ => exact l0
    | 1, _ => exact l1
    | 2, _ => exact l2
    | 3, _ => exact l3
    | 4, _ => exact l4
    | 5, _ => exact l5
    | 6, _ => exact l6
theorem open_page {r : Reach} {b0 : Nat} {v : Value} {d : DataW H} {p : List MemPlace} (hv : Value.okWide Try.prog w r b0 49 v) (h : DataW.Trod enc Try.prog w base spare held 49 v d p) : ∃ q : Pg, v = .agg q.cells ∧ q.ok := by
  obtain ⟨cs, rfl, _⟩ := okWide_struct Try.underlying49 hv
  obtain ⟨fuel, hf⟩ := h
  obtain ⟨q, hq, ho⟩ := trod_pg (by simpa [Value.cells] using hf)
  refine ⟨q, ?_, ho⟩
  congr 1
  apply Array.toList_inj.1
  exact hq
theorem open_pages {v : Value} {d : DataW H} {p : List MemPlace} {A : Option Addr} {len cap : Nat} (hv : v = .slice A len cap) (h : DataW.Trod enc Try.prog w base spare held 25 v d p) (hl : (len : Int) ≤ 1000000) : ∃ ps : List Pg, ReadsP w A len ps := by
  subst hv
  obtain ⟨fuel, hf⟩ := h
  have c49 : Try.prog.cellsOf 49 = 9 := by kernel_rfl
  rcases Go.Deep.open_slice Try.underlying25 hf with ⟨hcs, _⟩ | ⟨a, len', cap', m, n, D, Pl, hcs, hb, hlc, hm, hmm, hx, hi⟩
  · simp [Value.cells] at hcs
    obtain ⟨rfl, rfl, rfl⟩ := hcs
    exact ⟨[], ReadsP.nil w⟩
  · simp [Value.cells] at hcs
    obtain ⟨rfl, rfl, rfl⟩ := hcs
    have hml : len ≤ m := by rw [hmm]; split <;> omega
    have hall : ∀ i, i < len → ∃ p : Pg, p.ok ∧ a.spot = none ∧ a.block < w.heap.size ∧ ∀ j v, p.cells[j]? = some v → w.cell? ⟨a.block, a.off + i * 9 + j, none⟩ = some v := by
      intro i hil
      obtain ⟨cs', hc, ht⟩ := hi i (by omega)
      rw [c49] at hc
      obtain ⟨_, hcl, hat⟩ := World.cells?_some hc
      obtain ⟨p, hp, ho⟩ := trod_pg ht
      have hsome : ∀ j, j < 9 → ∃ v, w.cell? ((a.add (i * 9)).add j) = some v ∧ p.cells[j]? = some v := by
        intro j hj
        have h1 := hat j hj
        rw [hp, Array.getElem?_toList] at h1
        have h2 : p.cells[j]? = some (p.cells[j]'(by show j < 9; exact hj)) := Array.getElem?_eq_getElem (by show j < 9; exact hj)
        exact ⟨_, h1.trans h2, h2⟩
      have hadd : ∀ (b : Addr) (k : Nat), (b.add k).spot = none → (b.add k) = ⟨b.block, b.off + k, none⟩ := by
        intro b k hs
        unfold Addr.add at hs ⊢
        split
        · rename_i h0
          subst h0
          simp at hs
          cases b
          simp_all
        · rfl
      have hspot : ∀ (b : Addr) v, w.cell? b = some v → b.spot = none ∧ b.block < w.heap.size := by
        intro b v hbv
        unfold World.cell? at hbv
        split at hbv
        · rename_i c t f hh
          split at hbv
          · cases hbv
          · rename_i hs
            exact ⟨by simpa using hs, (Array.getElem?_eq_some_iff.1 hh).1⟩
        · cases hbv
      obtain ⟨v0, hv0, _⟩ := hsome 0 (by omega)
      rw [Addr.add_zero'] at hv0
      have hs0 := hspot _ _ hv0
      rw [block_add] at hs0
      have ea := hadd a (i * 9) hs0.1
      refine ⟨p, ho, ?_, hs0.2, fun j v hj => ?_⟩
      · by_cases hi0 : i = 0
        · subst hi0
          have := hs0.1
          simpa [Addr.add] using this
        · obtain ⟨cs0, hc0, ht0⟩ := hi 0 (by omega)
          rw [c49] at hc0
          obtain ⟨_, hcl0, hat0⟩ := World.cells?_some hc0
          obtain ⟨p0, hp0, _⟩ := trod_pg ht0
          have h1 := hat0 0 (by omega)
          rw [hp0, Array.getElem?_toList] at h1
          have h2 : p0.cells[0]? = some (p0.cells[0]'(by show 0 < 9; omega)) := Array.getElem?_eq_getElem (by show 0 < 9; omega)
          have := (hspot _ _ (h1.trans h2)).1
          simpa [Addr.add] using this
      · have hj9 : j < 9 := (Array.getElem?_eq_some_iff.1 hj).1
        obtain ⟨v', hv', hp'⟩ := hsome j hj9
        rw [hj] at hp'
        cases hp'
        have eb := hadd (a.add (i * 9)) j (hspot _ _ hv').1
        rw [eb, ea] at hv'
        exact hv'
    have hch : ∃ f : Nat → Pg, ∀ i, i < len → (f i).ok ∧ a.spot = none ∧ a.block < w.heap.size ∧ ∀ j v, (f i).cells[j]? = some v → w.cell? ⟨a.block, a.off + i * 9 + j, none⟩ = some v := by
      refine ⟨fun i => if h : i < len then Classical.choose (hall i h) else ⟨0, 0, fun _ => 0⟩, fun i h => ?_⟩
      simp only [dif_pos h]
      exact Classical.choose_spec (hall i h)
    obtain ⟨f, hf'⟩ := hch
    refine ⟨(List.range len).map f, by simp, hl, fun p hp => ?_, fun k hk => ?_⟩
    · obtain ⟨i, hi', rfl⟩ := List.mem_map.1 hp
      exact (hf' i (List.mem_range.1 hi')).1
    · obtain ⟨_, hs, hbl, hc⟩ := hf' k hk
      refine ⟨a.block, a.off, ?_, hbl, fun p hp j v hv => ?_⟩
      · cases a; simp at hs; subst hs; rfl
      · rw [List.getElem?_map, List.getElem?_range hk] at hp
        simp at hp
        subst hp
        exact hc j v hv
end

theorem isrow_readsW {w : World} {a : Option Addr} {len cap : Nat} {zs : List Int} (h : IsRow .u64 w a len cap zs) (hl : (len : Int) ≤ 1000000) : ReadsW w a len ((zs.take len).map Int.toNat) := by
  rcases h with ⟨rfl, rfl, rfl, rfl⟩ | ⟨x, rfl, h1, h2, h3, h4, h5⟩
  · exact ⟨rfl, by omega, fun k hk => by omega⟩
  · refine ⟨by simp; omega, by omega, fun k hk => ⟨x, rfl, ?_, ?_⟩⟩
    · have := h4 k (by omega)
      have h := block_lt_of_cell this
      rwa [block_add] at h
    · have hz := bounds_u64 (h5 (zs.getD k 0) (by rw [List.getD_eq_getElem?_getD, List.getElem?_eq_getElem (by omega)]; exact List.getElem_mem _))
      rw [h4 k (by omega), getD_taken zs len k hk (by omega), Int.toNat_of_nonneg hz.1]
      exact ⟨rfl, by omega⟩
theorem isrow_readsI {w : World} {a : Option Addr} {len cap : Nat} {zs : List Int} (h : IsRow .i64 w a len cap zs) (hl : (len : Int) ≤ 1000000) : ReadsI w a len (zs.take len) := by
  rcases h with ⟨rfl, rfl, rfl, rfl⟩ | ⟨x, rfl, h1, h2, h3, h4, h5⟩
  · exact ⟨rfl, by omega, fun k hk => by omega⟩
  · have hg : ∀ k, k < len → (zs.take len).getD k 0 = zs.getD k 0 := fun k hk => by
      simp only [List.getD_eq_getElem?_getD, List.getElem?_take_of_lt hk]
    refine ⟨by simp; omega, by omega, fun k hk => ⟨x, rfl, ?_, ?_, ?_⟩⟩
    · have := h4 k (by omega)
      have h := block_lt_of_cell this
      rwa [block_add] at h
    · rw [h4 k (by omega), hg k hk]
    · rw [hg k hk]
      exact bounds_i64 (h5 (zs.getD k 0) (by rw [List.getD_eq_getElem?_getD, List.getElem?_eq_getElem (by omega)]; exact List.getElem_mem _))
theorem isrow_cap {k : IntKind} {w : World} {a : Option Addr} {len cap : Nat} {zs : List Int} (h : IsRow k w a len cap zs) : len ≤ cap := by
  rcases h with ⟨_, h, h', _⟩ | ⟨_, _, h, _⟩ <;> omega
end Go.Proofs.Ytmeppeadfhifeaa
