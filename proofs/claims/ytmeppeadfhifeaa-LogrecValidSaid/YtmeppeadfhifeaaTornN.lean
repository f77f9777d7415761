/- Logs as rows of 120 words: which are whole, which are committed, plain. Conditions: the records are valid. -/
import Derived.Test.YtmeppeadfhifeaaLawKit
namespace Go.Proofs.Ytmeppeadfhifeaa
open Go.RowKit
set_option linter.unusedVariables false
set_option linter.unusedSimpArgs false

theorem wl_ok (f : Nat → Nat) (h : ∀ j, j < 120 → f j < 18446744073709551616) : WordsOk (wl f) := by
  intro x hx
  obtain ⟨j, hj, rfl⟩ := List.mem_map.1 hx
  exact h j (List.mem_range.1 hj)
theorem wl_drop (f : Nat → Nat) (bs : List Nat) (hl : bs.length ≤ 112) (h : ∀ j, j < bs.length → f (8 + j) = bs.getD j 0) : ∃ more, (wl f).drop 8 = bs ++ more := by
  refine ⟨((wl f).drop 8).drop bs.length, ?_⟩
  have ht : ((wl f).drop 8).take bs.length = bs := by
    refine List.ext_getElem (by simp [wl]; omega) (fun i h1 h2 => ?_)
    have hi : i < bs.length := h2
    have := h i hi
    simp only [List.getElem_take, List.getElem_drop, wl, List.getElem_map, List.getElem_range]
    rw [this, List.getD_eq_getElem?_getD, List.getElem?_eq_getElem hi]
    rfl
  rw [← congrArg (· ++ ((wl f).drop 8).drop bs.length) ht]
  exact (List.take_append_drop _ _).symm
theorem markV_eq (s : Int) (h : 1 ≤ s ∧ s < 1073741824) : markV s = s * 4 + 2 := by unfold markV markOk; rw [decide_eq_true h]; rfl
theorem whole_body (f : Nat → Nat) (s l : Int) (ps : List Pg) (hv : validN s ps l = 0) (h : ∀ j, j < (bodyN s ps).length → f (8 + j) = (bodyN s ps).getD j 0) :
    wholeOk (wl f) l = true ∧ wholeS (wl f) l = s ∧ samePs (wholeP (wl f) l) ps = true := by
  have hbl := (body_facts s l ps hv).1
  have h12 := (validN_0 _ _ _ hv).2.2.1
  obtain ⟨more, hm⟩ := wl_drop f (bodyN s ps) (by omega) h
  have hp := parse_body s ps l more hv
  rw [← hm] at hp
  refine ⟨?_, ?_, ?_⟩
  · unfold wholeOk; rw [wl_length, hp.1]; decide
  · unfold wholeS; rw [if_pos (wl_length f)]; exact hp.2.1
  · unfold wholeP; rw [if_pos (wl_length f)]; exact hp.2.2
theorem com_body (f : Nat → Nat) (s l : Int) (ps : List Pg) (hv : validN s ps l = 0) (h : ∀ j, j < (bodyN s ps).length → f (8 + j) = (bodyN s ps).getD j 0) (h0 : (f 0 : Int) = markV s) :
    comOk (wl f) l = true ∧ comS (wl f) l = s ∧ samePs (comP (wl f) l) ps = true := by
  obtain ⟨h1, h2, h3⟩ := whole_body f s l ps hv h
  have hok : comOk (wl f) l = true := by
    unfold comOk
    rw [h1, h2, wl_getD f 0 (by omega), h0]
    simp
  exact ⟨hok, by unfold comS; rw [if_pos hok]; exact h2, by unfold comP; rw [if_pos hok]; exact h3⟩
theorem com_other (f : Nat → Nat) (s l : Int) (k : Nat) (h0 : (f 0 : Int) = markV s) (h8 : f 8 = k) (hs : 1 ≤ s ∧ s < 1073741824) (hk : (k : Int) ≠ s) (hk2 : 1 ≤ k ∧ k < 1073741824) : comOk (wl f) l = false := by
  rw [Bool.eq_false_iff]
  intro hc
  unfold comOk at hc
  rw [Bool.and_eq_true, beq_iff_eq] at hc
  obtain ⟨hw, hm⟩ := hc
  have hS : wholeS (wl f) l = (k : Int) := by
    unfold wholeS
    rw [if_pos (wl_length f)]
    unfold wholeOk at hw
    rw [Bool.and_eq_true, beq_iff_eq] at hw
    unfold parseS
    rw [if_pos hw.2]
    have : ((wl f).drop 8).getD 0 0 = f 8 := by
      rw [List.getD_eq_getElem?_getD, List.getElem?_drop, ← List.getD_eq_getElem?_getD, wl_getD f 8 (by omega)]
    rw [this, h8]
  rw [hS, wl_getD f 0 (by omega), h0, markV_eq s hs, markV_eq (k : Int) (by omega)] at hm
  omega
theorem com_false (ws : List Nat) (l : Int) (h : comOk ws l = false) : comS ws l = 0 ∧ comP ws l = [] :=
  ⟨by unfold comS; rw [if_neg (by rw [h]; decide)], by unfold comP; rw [if_neg (by rw [h]; decide)]⟩
theorem good_valid' (s l : Int) (ps : List Pg) (hl : 98 ≤ l ∧ l ≤ 256) (hs : 1 ≤ s ∧ s ≤ 2000) (hp : 1 ≤ ps.length) (hg : Good l ps) : validN s ps l = 0 :=
  validN_of s ps l hl (by omega) ⟨hp, hg.2.1⟩ (fun p hm => ⟨(hg.2.2 p hm).2.1, (hg.2.2 p hm).2.2.1⟩) hg.1 (List.all_eq_true.2 fun p hm => (hg.2.2 p hm).2.2.2)
/-- The log with a new body laid over it up to i words. -/
def tornF (mk : Nat) (b1 b2 : List Nat) (i j : Nat) : Nat := if 8 ≤ j ∧ j < 8 + i then b2.getD (j - 8) 0 else logF mk 0 b1 j
theorem tornF_zero (mk : Nat) (b1 b2 : List Nat) : wl (tornF mk b1 b2 0) = wl (logF mk 0 b1) := wl_congr _ _ fun j _ => by
  unfold tornF; rw [if_neg (by omega)]
theorem tornF_step (mk : Nat) (b1 b2 : List Nat) (i : Nat) (hi : 8 + i < 120) : (wl (tornF mk b1 b2 i)).set (8 + i) (b2.getD i 0) = wl (tornF mk b1 b2 (i + 1)) := by
  rw [wl_set _ _ _ hi]
  refine wl_congr _ _ fun j hj => ?_
  unfold tornF
  by_cases e : j = 8 + i
  · rw [if_pos e, if_pos (by omega), e, Nat.add_sub_cancel_left]
  · rw [if_neg e]
    by_cases e2 : 8 ≤ j ∧ j < 8 + i
    · rw [if_pos e2, if_pos (by omega)]
    · rw [if_neg e2, if_neg (by omega)]
theorem getD_ok (b : List Nat) (h : WordsOk b) (j : Nat) : b.getD j 0 < 18446744073709551616 := by
  rw [List.getD_eq_getElem?_getD]
  cases hq : b[j]? with
  | none => simp
  | some x => exact h x (List.mem_of_getElem? hq)
theorem logF_ok (mk rest : Nat) (b : List Nat) (hm : mk < 18446744073709551616) (hr : rest < 18446744073709551616) (hb : WordsOk b) (j : Nat) : logF mk rest b j < 18446744073709551616 := by
  unfold logF
  split
  · exact hm
  · split
    · omega
    · split
      · exact getD_ok b hb _
      · exact hr
theorem tornF_ok (mk : Nat) (b1 b2 : List Nat) (hm : mk < 18446744073709551616) (h1 : WordsOk b1) (h2 : WordsOk b2) (i j : Nat) : tornF mk b1 b2 i j < 18446744073709551616 := by
  unfold tornF
  split
  · exact getD_ok b2 h2 _
  · exact logF_ok mk 0 b1 hm (by omega) h1 j
end Go.Proofs.Ytmeppeadfhifeaa
