/- A record is parsed from its body; a body cut or changed at one word is no record. Plain lists and numbers. Conditions: the record is valid, its numbers are words. -/
import Derived.Test.YtmeppeadfhifeaaParseRef
import Derived.Test.YtmeppeadfhifeaaInj
namespace Go.Proofs.Ytmeppeadfhifeaa
open Go.RowKit
set_option linter.unusedVariables false
set_option linter.unusedSimpArgs false

theorem sameP_iff (p q : Pg) : sameP p q = true ↔ p.line = q.line ∧ p.head = q.head ∧ ∀ j, j < 7 → p.d j = q.d j := by
  unfold sameP
  simp only [Bool.and_eq_true, beq_iff_eq]
  constructor
  · rintro ⟨⟨⟨⟨⟨⟨⟨⟨a, b⟩, c0⟩, c1⟩, c2⟩, c3⟩, c4⟩, c5⟩, c6⟩
    refine ⟨a, b, fun j hj => ?_⟩
    match j, hj with
    | 0, _ => exact c0
    | 1, _ => exact c1
    | 2, _ => exact c2
    | 3, _ => exact c3
    | 4, _ => exact c4
    | 5, _ => exact c5
    | 6, _ => exact c6
  · rintro ⟨a, b, c⟩
    exact ⟨⟨⟨⟨⟨⟨⟨⟨a, b⟩, c 0 (by omega)⟩, c 1 (by omega)⟩, c 2 (by omega)⟩, c 3 (by omega)⟩, c 4 (by omega)⟩, c 5 (by omega)⟩, c 6 (by omega)⟩
theorem sameP_refl (p : Pg) : sameP p p = true := (sameP_iff p p).2 ⟨rfl, rfl, fun _ _ => rfl⟩
theorem samePs_refl (ps : List Pg) : samePs ps ps = true := by
  induction ps with
  | nil => rfl
  | cons p ps ih => simp only [samePs, sameP_refl, ih, Bool.and_self]
theorem sameP_symm (p q : Pg) (h : sameP p q = true) : sameP q p = true := by
  obtain ⟨a, b, c⟩ := (sameP_iff p q).1 h
  exact (sameP_iff q p).2 ⟨a.symm, b.symm, fun j hj => (c j hj).symm⟩
theorem samePs_symm (ps qs : List Pg) (h : samePs ps qs = true) : samePs qs ps = true := by
  induction ps generalizing qs with
  | nil => cases qs with | nil => rfl | cons => cases h
  | cons p ps ih =>
    cases qs with
    | nil => cases h
    | cons q qs =>
      simp only [samePs, Bool.and_eq_true] at h ⊢
      exact ⟨sameP_symm p q h.1, ih qs h.2⟩
theorem samePs_length (ps qs : List Pg) (h : samePs ps qs = true) : ps.length = qs.length := by
  by_cases e : ps.length = qs.length
  · exact e
  · rw [samePs_len ps qs e] at h; cases h
theorem same_pageW (p q : Pg) (h : sameP p q = true) : pageW p = pageW q := by
  obtain ⟨a, b, c⟩ := (sameP_iff p q).1 h
  unfold pageW
  rw [a, b, c 0 (by omega), c 1 (by omega), c 2 (by omega), c 3 (by omega), c 4 (by omega), c 5 (by omega), c 6 (by omega)]
theorem samePs_flat (ps qs : List Pg) (h : samePs ps qs = true) : ps.flatMap pageW = qs.flatMap pageW := by
  induction ps generalizing qs with
  | nil => cases qs with | nil => rfl | cons => cases h
  | cons p ps ih =>
    cases qs with
    | nil => cases h
    | cons q qs =>
      simp only [samePs, Bool.and_eq_true] at h
      rw [List.flatMap_cons, List.flatMap_cons, same_pageW p q h.1, ih qs h.2]
theorem samePs_any (ps qs : List Pg) (l : Int) (h : samePs ps qs = true) : ps.any (badLine l) = qs.any (badLine l) := by
  induction ps generalizing qs with
  | nil => cases qs with | nil => rfl | cons => cases h
  | cons p ps ih =>
    cases qs with
    | nil => cases h
    | cons q qs =>
      simp only [samePs, Bool.and_eq_true] at h
      rw [List.any_cons, List.any_cons, ih qs h.2]
      unfold badLine
      rw [((sameP_iff p q).1 h.1).1]
theorem samePs_all (ps qs : List Pg) (h : samePs ps qs = true) : ps.all headOk = qs.all headOk := by
  induction ps generalizing qs with
  | nil => cases qs with | nil => rfl | cons => cases h
  | cons p ps ih =>
    cases qs with
    | nil => cases h
    | cons q qs =>
      simp only [samePs, Bool.and_eq_true] at h
      rw [List.all_cons, List.all_cons, ih qs h.2]
      unfold headOk
      rw [((sameP_iff p q).1 h.1).2.1]
theorem samePs_up (ps qs : List Pg) (h : samePs ps qs = true) : upB ps = upB qs := by
  induction ps generalizing qs with
  | nil => cases qs with | nil => rfl | cons => cases h
  | cons p ps ih =>
    cases qs with
    | nil => cases h
    | cons q qs =>
      simp only [samePs, Bool.and_eq_true] at h
      have h2 := ih qs h.2
      cases ps with
      | nil => cases qs with | nil => rfl | cons => cases h.2
      | cons p' ps =>
        cases qs with
        | nil => cases h.2
        | cons q' qs =>
          have h3 := h.2
          simp only [samePs, Bool.and_eq_true] at h3
          simp only [upB]
          rw [h2, ((sameP_iff p q).1 h.1).1, ((sameP_iff p' q').1 h3.1).1]
theorem samePs_valid (s : Int) (ps qs : List Pg) (l : Int) (h : samePs ps qs = true) : validN s ps l = validN s qs l := by
  unfold validN
  rw [samePs_any ps qs l h, samePs_all ps qs h, samePs_up ps qs h, samePs_length ps qs h]
theorem samePs_body (s : Int) (ps qs : List Pg) (h : samePs ps qs = true) : bodyN s ps = bodyN s qs := by
  unfold bodyN preW
  rw [samePs_valid s ps qs 256 h, samePs_flat ps qs h, samePs_length ps qs h]

theorem validN_of (s : Int) (ps : List Pg) (l : Int) (h0 : 98 ≤ l ∧ l ≤ 256) (h1 : 1 ≤ s ∧ s < 1073741824) (h2 : 1 ≤ ps.length ∧ ps.length ≤ 12) (h3 : ∀ p ∈ ps, 96 ≤ p.line ∧ p.line < l) (h4 : upB ps = true) (h5 : ps.all headOk = true) : validN s ps l = 0 := by
  unfold validN isLinesB
  rw [if_neg (by rw [decide_eq_true h0]; decide), if_neg (by rw [decide_eq_true h1, decide_eq_true h2]; decide), if_neg ?_, if_pos (by rw [h4, h5]; rfl)]
  rw [Bool.not_eq_true, Bool.eq_false_iff]
  intro hb
  obtain ⟨p, hp, hb⟩ := List.any_eq_true.1 hb
  have := h3 p hp
  unfold badLine at hb
  simp at hb
  omega
theorem validN_256 (s : Int) (ps : List Pg) (l : Int) (h : validN s ps l = 0) : validN s ps 256 = 0 := by
  obtain ⟨a, b, c, d, e, f⟩ := validN_0 _ _ _ h
  exact validN_of s ps 256 (by omega) b c (fun p hp => by have := d p hp; omega) e f
theorem bodyN_eq (s : Int) (ps : List Pg) (h : validN s ps 256 = 0) : bodyN s ps = preW s ps ++ [Crc.words (preW s ps)] := if_pos h
theorem bodyN_length (s : Int) (ps : List Pg) (h : validN s ps 256 = 0) : (bodyN s ps).length = 3 + 9 * ps.length := by
  rw [bodyN_eq s ps h, List.length_append, preW_length]; simp; omega

theorem flat_getD (ps : List Pg) (k j : Nat) (p : Pg) (hk : ps[k]? = some p) (hj : j < 9) : (ps.flatMap pageW).getD (9 * k + j) 0 = (pageW p).getD j 0 := by
  induction ps generalizing k with
  | nil => simp at hk
  | cons q ps ih =>
    rw [List.flatMap_cons, List.getD_eq_getElem?_getD, List.getD_eq_getElem?_getD]
    cases k with
    | zero =>
      simp at hk; subst hk
      rw [List.getElem?_append_left (by rw [pageW_length]; omega)]
      simp
    | succ k =>
      rw [List.getElem?_append_right (by rw [pageW_length]; omega), pageW_length, show 9 * (k + 1) + j - 9 = 9 * k + j by omega]
      have := ih k (by simpa using hk)
      rwa [List.getD_eq_getElem?_getD, List.getD_eq_getElem?_getD] at this
theorem pre_getD (s : Int) (ps : List Pg) (more : List Nat) (k j : Nat) (p : Pg) (hk : ps[k]? = some p) (hj : j < 9) : (preW s ps ++ more).getD (2 + 9 * k + j) 0 = (pageW p).getD j 0 := by
  have hkl := (List.getElem?_eq_some_iff.1 hk).1
  have h := flat_getD ps k j p hk hj
  rw [← h, List.getD_eq_getElem?_getD, List.getD_eq_getElem?_getD, List.getElem?_append_left (by rw [preW_length]; omega)]
  unfold preW
  rw [List.getElem?_append_right (by simp; omega)]
  simp [show 2 + 9 * k + j - 2 = 9 * k + j by omega]
theorem pre_getD0 (s : Int) (ps : List Pg) (more : List Nat) : (preW s ps ++ more).getD 0 0 = s.toNat := rfl
theorem pre_getD1 (s : Int) (ps : List Pg) (more : List Nat) : (preW s ps ++ more).getD 1 0 = ps.length := rfl
theorem psOf_pre (s : Int) (ps : List Pg) (more : List Nat) (hp : ∀ p ∈ ps, 96 ≤ p.line ∧ p.line < 256) : samePs (psOf (preW s ps ++ more)) ps = true := by
  have hl : (psOf (preW s ps ++ more)).length = ps.length := by
    unfold psOf; rw [pre_getD1]; simp
  rw [samePs_at _ _ hl]
  intro k p q hpk hqk
  have hkl := (List.getElem?_eq_some_iff.1 hqk).1
  unfold psOf at hpk
  rw [pre_getD1, List.getElem?_map, List.getElem?_range hkl] at hpk
  simp only [Option.map_some, Option.some.injEq] at hpk
  subst hpk
  have hq := hp q (List.mem_of_getElem? hqk)
  rw [sameP_iff]
  refine ⟨?_, ?_, fun j hj => ?_⟩
  · rw [pgAt_line]
    have := pre_getD s ps more k 0 q hqk (by omega)
    rw [Nat.add_zero] at this
    rw [this]
    show ((min q.line.toNat 256 : Nat) : Int) = q.line
    omega
  · rw [pgAt_head, pre_getD s ps more k 1 q hqk (by omega)]; rfl
  · rw [pgAt_d _ _ _ hj, pre_getD s ps more k (2 + j) q hqk (by omega)]
    match j, hj with
    | 0, _ => rfl
    | 1, _ => rfl
    | 2, _ => rfl
    | 3, _ => rfl
    | 4, _ => rfl
    | 5, _ => rfl
    | 6, _ => rfl

theorem parse_body (s : Int) (ps : List Pg) (l : Int) (more : List Nat) (h : validN s ps l = 0) :
    parseE (bodyN s ps ++ more) l = 0 ∧ parseS (bodyN s ps ++ more) l = s ∧ samePs (parseP (bodyN s ps ++ more) l) ps = true := by
  obtain ⟨a, b, c, d, e, f⟩ := validN_0 _ _ _ h
  have h256 := validN_256 s ps l h
  have hb := bodyN_eq s ps h256
  have hlen := bodyN_length s ps h256
  have hws : bodyN s ps ++ more = preW s ps ++ ([Crc.words (preW s ps)] ++ more) := by rw [hb, List.append_assoc]
  have g0 : (bodyN s ps ++ more).getD 0 0 = s.toNat := by rw [hws]; rfl
  have g1 : (bodyN s ps ++ more).getD 1 0 = ps.length := by rw [hws]; rfl
  have hs := psOf_pre s ps ([Crc.words (preW s ps)] ++ more) (fun p hp => by have := d p hp; omega)
  rw [← hws] at hs
  have hst : ((s.toNat : Nat) : Int) = s := Int.toNat_of_nonneg (by omega)
  have hE : parseE (bodyN s ps ++ more) l = 0 := by
    unfold parseE
    rw [if_neg (by unfold isLinesB; rw [decide_eq_true a]; decide), if_pos]
    unfold parseOk shapeOk recOk
    rw [g0, g1, hst, samePs_valid s _ _ l hs, samePs_body s _ _ hs, h, List.take_append_of_le_length (by omega), List.take_of_length_le (by omega)]
    rw [decide_eq_true (show 2 ≤ (bodyN s ps ++ more).length by rw [List.length_append]; omega), decide_eq_true (show s.toNat < 1073741824 by omega), decide_eq_true (show ps.length ≤ 12 by omega), decide_eq_true (show 3 + 9 * ps.length ≤ (bodyN s ps ++ more).length by rw [List.length_append]; omega)]
    simp
  refine ⟨hE, ?_, ?_⟩
  · unfold parseS; rw [if_pos hE, g0, hst]
  · unfold parseP; rw [if_pos hE]; exact hs

theorem parse_ok_sum (ws : List Nat) (l : Int) (h : parseOk ws l = true) : 3 + 9 * ws.getD 1 0 ≤ ws.length ∧ ws.getD (2 + 9 * ws.getD 1 0) 0 = Crc.words (ws.take (2 + 9 * ws.getD 1 0)) := by
  unfold parseOk shapeOk recOk at h
  simp only [Bool.and_eq_true, decide_eq_true_eq, beq_iff_eq] at h
  obtain ⟨⟨_, _, _, h4⟩, h5, h6⟩ := h
  refine ⟨h4, ?_⟩
  have hb := bodyN_eq _ _ (validN_256 _ _ _ h5)
  rw [hb] at h6
  generalize hpre : preW ((ws.getD 0 0 : Nat) : Int) (psOf ws) = pre at h6
  have hpl : pre.length = 2 + 9 * ws.getD 1 0 := by
    rw [← hpre, preW_length]; unfold psOf; simp
  have t1 : ws.take (2 + 9 * ws.getD 1 0) = pre := by
    have := congrArg (List.take (2 + 9 * ws.getD 1 0)) h6
    rw [List.take_take, show min (2 + 9 * ws.getD 1 0) (3 + 9 * ws.getD 1 0) = 2 + 9 * ws.getD 1 0 by omega, List.take_append_of_le_length (by omega), List.take_of_length_le (by omega)] at this
    exact this.symm
  have t2 := congrArg (fun x : List Nat => x[2 + 9 * ws.getD 1 0]?) h6
  rw [List.getElem?_append_right (by omega), List.getElem?_take_of_lt (by omega)] at t2
  rw [show 2 + 9 * ws.getD 1 0 - pre.length = 0 by omega] at t2
  rw [List.getD_eq_getElem?_getD, ← t2, t1]
  rfl
theorem parse_cut (ws : List Nat) (l : Int) (hl : isLinesB l = true) (h : ws.length < 3 + 9 * ws.getD 1 0) : parseE ws l = 14 := by
  unfold parseE
  rw [if_neg (by rw [hl]; decide), if_neg]
  intro hb
  have := (parse_ok_sum ws l hb).1
  omega
theorem xor_self_eq (x b : Nat) (h : x = x ^^^ b) : b = 0 := by
  have e : x ^^^ x = x ^^^ (x ^^^ b) := by rw [← h]
  rw [Nat.xor_self, Crc.xor_can] at e
  exact e.symm
theorem parse_changed (ws : List Nat) (l : Int) (k b : Nat) (hl : isLinesB l = true) (hlen : ws.length = 3 + 9 * ws.getD 1 0) (hsum : ws.getD (2 + 9 * ws.getD 1 0) 0 = Crc.words (ws.take (2 + 9 * ws.getD 1 0)))
    (hk : k < ws.length) (hk1 : k ≠ 1) (hb : b ≠ 0) (hok : WordsOk ws) (hbo : b < 18446744073709551616) : parseE (ws.set k (ws.getD k 0 ^^^ b)) l = 14 := by
  unfold parseE
  rw [if_neg (by rw [hl]; decide), if_neg]
  intro hp
  obtain ⟨_, h2⟩ := parse_ok_sum _ l hp
  have hx : ws.getD k 0 < 18446744073709551616 := by
    rw [List.getD_eq_getElem?_getD, List.getElem?_eq_getElem hk]
    exact hok _ (List.getElem_mem _)
  have hxb : ws.getD k 0 ^^^ b < 18446744073709551616 := Nat.xor_lt_two_pow (n := 64) (by omega) (by omega)
  have e1 : (ws.set k (ws.getD k 0 ^^^ b)).getD 1 0 = ws.getD 1 0 := by
    rw [List.getD_eq_getElem?_getD, List.getElem?_set_ne hk1, ← List.getD_eq_getElem?_getD]
  rw [e1] at h2
  generalize hm : ws.getD 1 0 = m at *
  by_cases hkm : k = 2 + 9 * m
  · rw [hkm, List.take_set_of_le (by omega)] at h2
    rw [List.getD_eq_getElem?_getD (l := ws.set _ _), List.getElem?_set_self (by omega)] at h2
    rw [← hsum] at h2
    exact hb (xor_self_eq _ _ h2.symm)
  · have hk2 : k < 2 + 9 * m := by omega
    rw [List.getD_eq_getElem?_getD, List.getElem?_set_ne hkm, ← List.getD_eq_getElem?_getD, hsum, List.take_set] at h2
    have hkt : k < (ws.take (2 + 9 * m)).length := by simp; omega
    have hget : (ws.take (2 + 9 * m)).getD k 0 = ws.getD k 0 := by
      rw [List.getD_eq_getElem?_getD, List.getD_eq_getElem?_getD, List.getElem?_take_of_lt hk2]
    generalize hT : ws.take (2 + 9 * m) = T at *
    rw [← hget] at h2 hx hxb
    have hT2 : T = T.take k ++ T.getD k 0 :: T.drop (k + 1) := by
      have h := List.take_append_drop k T
      rw [List.drop_eq_getElem_cons hkt] at h
      rw [List.getD_eq_getElem?_getD, List.getElem?_eq_getElem hkt]
      exact h.symm
    have hT3 : T.set k (T.getD k 0 ^^^ b) = T.take k ++ (T.getD k 0 ^^^ b) :: T.drop (k + 1) := by
      rw [List.set_eq_take_append_cons_drop, if_pos hkt]
    rw [hT3] at h2
    rw [show Crc.words T = Crc.words (T.take k ++ T.getD k 0 :: T.drop (k + 1)) by rw [← hT2]] at h2
    exact hb (xor_self_eq _ _ (Crc.words_inj _ _ _ _ hx hxb h2))
end Go.Proofs.Ytmeppeadfhifeaa
