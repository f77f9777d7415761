/- What is parsed: plain numbers, and how pages that the call made are read. No program. -/
import Derived.Test.YtmeppeadfhifeaaChunk
namespace Go.Proofs.Ytmeppeadfhifeaa
open Go.RowKit
set_option linter.unusedVariables false
set_option linter.unusedSimpArgs false

def pgAt (ws : List Nat) (k : Nat) : Pg := pgOf ((ws.drop (2 + k * 9)).take 9)
def psOf (ws : List Nat) : List Pg := (List.range (ws.getD 1 0)).map (pgAt ws)
def shapeOk (ws : List Nat) : Bool := decide (2 ≤ ws.length) && (decide (ws.getD 0 0 < 1073741824) && (decide (ws.getD 1 0 ≤ 12) && decide (3 + 9 * ws.getD 1 0 ≤ ws.length)))
def recOk (ws : List Nat) (l : Int) : Bool := (validN (ws.getD 0 0 : Nat) (psOf ws) l == 0) && (bodyN (ws.getD 0 0 : Nat) (psOf ws) == ws.take (3 + 9 * ws.getD 1 0))
def parseOk (ws : List Nat) (l : Int) : Bool := shapeOk ws && recOk ws l
def parseE (ws : List Nat) (l : Int) : Int := if isLinesB l = false then 18 else if parseOk ws l = true then 0 else 14
def parseS (ws : List Nat) (l : Int) : Int := if parseE ws l = 0 then (ws.getD 0 0 : Nat) else 0
def parseP (ws : List Nat) (l : Int) : List Pg := if parseE ws l = 0 then psOf ws else []

def pcells (ps : List Pg) : List Value := ps.flatMap fun p => p.cells.toList
theorem pcells_length (ps : List Pg) : (pcells ps).length = 9 * ps.length := by
  induction ps with
  | nil => rfl
  | cons p ps ih =>
    have e : pcells (p :: ps) = p.cells.toList ++ pcells ps := List.flatMap_cons
    rw [e, List.length_append, ih, show p.cells.toList.length = 9 from rfl, List.length_cons]; omega
theorem pcells_snoc (ps : List Pg) (p : Pg) : pcells (ps ++ [p]) = pcells ps ++ p.cells.toList := by simp [pcells]
theorem pcells_at (ps : List Pg) (k j : Nat) (p : Pg) (hk : ps[k]? = some p) (hj : j < 9) : (pcells ps)[k * 9 + j]? = p.cells[j]? := by
  induction ps generalizing k with
  | nil => simp at hk
  | cons q ps ih =>
    have e : pcells (q :: ps) = q.cells.toList ++ pcells ps := List.flatMap_cons
    have hl : q.cells.toList.length = 9 := rfl
    rw [e]
    cases k with
    | zero =>
      simp at hk; subst hk
      rw [List.getElem?_append_left (by omega), Nat.zero_mul, Nat.zero_add, Array.getElem?_toList]
    | succ k =>
      rw [List.getElem?_append_right (by omega), show (k + 1) * 9 + j - q.cells.toList.length = k * 9 + j by rw [hl]; omega]
      exact ih k (by simpa using hk)

theorem own_readsP {w : World} {base n : Nat} {v : Value} {ps : List Pg} (h : w.ownsRow base 49 9 v n (pcells ps)) (hb : ∀ p ∈ ps, p.ok) (hn : (n : Int) ≤ 1000000) :
    ∃ A cap, v = .slice A n cap ∧ ReadsP w A n ps := by
  have hl : ps.length = n := by have := h.1; rw [pcells_length] at this; omega
  rcases h.2 with ⟨rfl, rfl⟩ | ⟨g, cap, cur, rfl, hbg, hg, hnc, hcm, hcs, htake⟩
  · obtain rfl : ps = [] := List.eq_nil_of_length_eq_zero hl
    exact ⟨none, 0, rfl, ReadsP.nil w⟩
  · refine ⟨some ⟨g, 0, none⟩, cap, rfl, hl, hn, hb, fun k hk => ⟨g, 0, rfl, (Array.getElem?_eq_some_iff.1 hg).1, fun p hp j v hv => ?_⟩⟩
    have hj : j < 9 := (Array.getElem?_eq_some_iff.1 hv).1
    rw [show (⟨g, 0 + k * 9 + j, none⟩ : Addr) = ⟨g, k * 9 + j, none⟩ by simp, h.cellAt _ (by omega), pcells_at ps k j p hp hj, hv]

theorem pgAt_ok (ws : List Nat) (hw : WordsOk ws) (k : Nat) : (pgAt ws k).ok := by
  have h : ∀ j, ((ws.drop (2 + k * 9)).take 9).getD j 0 < 18446744073709551616 := by
    intro j
    rw [List.getD_eq_getElem?_getD]
    cases hq : ((ws.drop (2 + k * 9)).take 9)[j]? with
    | none => simp
    | some x => exact hw x (List.mem_of_mem_drop (List.mem_of_mem_take (List.mem_of_getElem? hq)))
  refine ⟨?_, ?_, h 1, fun j _ => h (2 + j)⟩
  · unfold pgAt pgOf
    simp only
    omega
  · unfold pgAt pgOf
    simp only
    omega
theorem reads_wordsOk {w : World} {A : Option Addr} {n : Nat} {ws : List Nat} (h : ReadsW w A n ws) : WordsOk ws := by
  intro x hx
  obtain ⟨i, hi, rfl⟩ := List.getElem_of_mem hx
  obtain ⟨_, _, _, _, hv⟩ := h.2.2 i (by rw [← h.1]; exact hi)
  rwa [List.getD_eq_getElem?_getD, List.getElem?_eq_getElem hi] at hv
/-- A piece of a slice of words, at a later place of it. -/
theorem reads_piece {w : World} {ad : Addr} {n : Nat} {ws : List Nat} (h : ReadsW w (some ad) n ws) (lo len : Nat) (hlo : 0 < lo) (hl : lo + len ≤ n) :
    ReadsW w (some ⟨ad.block, ad.off + lo, none⟩) len ((ws.drop lo).take len) := by
  refine ⟨by simp; have := h.1; omega, by have := h.2.1; omega, fun k hk => ?_⟩
  obtain ⟨_, e, hlt, hc, hv⟩ := h.2.2 (lo + k) (by omega)
  cases e
  have e1 : (⟨ad.block, ad.off + lo, none⟩ : Addr).add k = ad.add (lo + k) := by
    unfold Addr.add
    by_cases h2 : k = 0
    · subst h2; simp [show ¬ lo = 0 by omega]
    · simp [h2, Nat.add_assoc, show ¬ lo + k = 0 by omega]
  have e2 : ((ws.drop lo).take len).getD k 0 = ws.getD (lo + k) 0 := by
    simp only [List.getD_eq_getElem?_getD, List.getElem?_take_of_lt hk, List.getElem?_drop]
  refine ⟨_, rfl, hlt, ?_, ?_⟩
  · rw [e1, e2]; exact hc
  · rw [e2]; exact hv
end Go.Proofs.Ytmeppeadfhifeaa
