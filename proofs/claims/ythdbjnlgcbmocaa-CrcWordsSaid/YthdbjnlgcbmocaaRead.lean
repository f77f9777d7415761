/- How a slice of bytes or words that came in reads as a list, for the crc laws. -/
import Derived.Test.YthdbjnlgcbmocaaRef
import Derived.OpenShut
namespace Go.Proofs.Ythdbjnlgcbmocaa
open Go.RowKit

/-- What the walk is told of a slice of integers that came in. -/
def IsRow (k : IntKind) (w : World) (a : Option Addr) (len cap : Nat) (zs : List Int) : Prop :=
  (a = none ∧ len = 0 ∧ cap = 0 ∧ zs = []) ∨
  ∃ x, a = some x ∧ len ≤ cap ∧ cap ≤ maxLen ∧ zs.length = cap ∧ (∀ i, i < zs.length → w.cell? (x.add i) = some (.int k (zs.getD i 0))) ∧ ∀ n ∈ zs, (Lit.int k n).wf = true

theorem block_add (a : Addr) (n : Nat) : (a.add n).block = a.block := by unfold Addr.add; split <;> rfl
theorem getD_taken (zs : List Int) (len k : Nat) (hk : k < len) (hl : len ≤ zs.length) : ((zs.take len).map Int.toNat).getD k 0 = (zs.getD k 0).toNat := by
  simp only [List.getD_eq_getElem?_getD, List.getElem?_map, List.getElem?_take_of_lt hk, List.getElem?_eq_getElem (show k < zs.length by omega), Option.map_some, Option.getD_some]
theorem isrow_reads {w : World} {a : Option Addr} {len cap : Nat} {zs : List Int} (h : IsRow .u8 w a len cap zs) (hl : len ≤ 140737488351232) : ReadsB w a len ((zs.take len).map Int.toNat) := by
  rcases h with ⟨rfl, rfl, rfl, rfl⟩ | ⟨x, rfl, h1, h2, h3, h4, h5⟩
  · exact ReadsB.nil w
  · have hb : ∀ n ∈ zs, 0 ≤ n ∧ n ≤ 255 := fun n hn => bounds_u8 (h5 n hn)
    refine ⟨by simp; omega, ?_, by omega, fun k hk => ⟨x, rfl, ?_, ?_⟩⟩
    · intro y hy
      simp only [List.mem_map] at hy
      obtain ⟨z, hz, rfl⟩ := hy
      have := hb z (List.mem_of_mem_take hz)
      omega
    · have := h4 k (by omega)
      have h := block_lt_of_cell this
      rwa [block_add] at h
    · rw [h4 k (by omega)]
      have hz := hb (zs.getD k 0) (by rw [List.getD_eq_getElem?_getD, List.getElem?_eq_getElem (by omega)]; exact List.getElem_mem _)
      rw [getD_taken zs len k hk (by omega), Int.toNat_of_nonneg hz.1]

end Go.Proofs.Ythdbjnlgcbmocaa
