/- logrec.Parse. Conditions: the slice reads as words, no more than its capacity. -/
import Derived.Test.YtmeppeadfhifeaaParseN
import Derived.Test.YtmeppeadfhifeaaEqual
import Derived.Test.YtmeppeadfhifeaaLift
namespace Go.Proofs.Ytmeppeadfhifeaa
open Go.RowKit Go.Shelf
set_option linter.unusedVariables false
set_option linter.unusedSimpArgs false

theorem res_two {fn : Func} {ty : TypeId} (h : fn.results = #[.cell 4 ty, .tmp 5]) (tmps : Array Value) (w : World) (g : Nat) (cs : Array Value) (e : Value)
    (h4 : tmps.getD 4 undef = .pointer (some ⟨g, 0, none⟩)) (h5 : tmps.getD 5 undef = e) (hlv : (loadVar ty ⟨g, 0, none⟩).run Try.prog w = .ok (.agg cs) w) :
    (results fn tmps).run Try.prog w = .ok (.tuple #[.agg cs, e]) w := by
  have h4' : tmps[4]?.getD undef = .pointer (some ⟨g, 0, none⟩) := by simpa using h4
  have h5' : tmps[5]?.getD undef = e := by simpa using h5
  simp [results, h, h4', h5', asAddr, hlv]
theorem info49b : (Try.prog.info? 49).map (fun i => (i.zero, i.size, i.bytes)) = some (some (.agg #[.int .i64 0, .int .u64 0, .int .u64 0, .int .u64 0, .int .u64 0, .int .u64 0, .int .u64 0, .int .u64 0, .int .u64 0]), 9, 72) := by kernel_rfl
theorem page_cells (w : World) (p : Pg) : ∀ j u, p.cells.toList[j]? = some u → (w.alloc (.cells p.cells 49)).cell? ((⟨w.heap.size, 0, none⟩ : Addr).add j) = some u := by
  intro j u hj
  exact cells_in (heap_alloc_new w _) j u (by rw [← hj, Array.getElem?_toList])
theorem page_one (p : Pg) : ∀ u ∈ p.cells.toList, u.oneCell' = true := by
  intro u hu
  simp only [Pg.cells, List.mem_cons, List.not_mem_nil, or_false] at hu
  rcases hu with rfl | rfl | rfl | rfl | rfl | rfl | rfl | rfl | rfl <;> rfl
theorem size34 : (Try.prog.info? 34).map (·.size) = some 2 := by kernel_rfl
theorem size27 : (Try.prog.info? 27).map (·.size) = some 2 := by kernel_rfl

theorem lv34 (w : World) (g : Nat) (a b : Value) (hg : w.heap[g]? = some (.cells #[a, b] 34 (0, 0))) : (loadVar 34 ⟨g, 0, none⟩).run Try.prog w = .ok (.agg #[a, b]) w :=
  run_loadVar_row w g 34 34 #[a, b] (0, 0) _ hg Try.underlying34 rfl (by rw [size34]; rfl)
theorem lv27 (w : World) (g : Nat) (a b : Value) (hg : w.heap[g]? = some (.cells #[a, b] 27 (0, 0))) : (loadVar 27 ⟨g, 0, none⟩).run Try.prog w = .ok (.agg #[a, b]) w :=
  run_loadVar_row w g 27 27 #[a, b] (0, 0) _ hg Try.underlying27 rfl (by rw [size27]; rfl)
theorem range51 {n : Nat} {α : Type} {rg body : Code} {Q : Exit → Act → World → Prop} {a : Act} {w : World} (h1 : 1 ≤ n) {gf : Nat} {lb : Array Value} (hg : a.eval (.tmp 50) = .func (.func gf) #[] lb)
    (eg : ∀ args w, (callFunc gf args).run Try.prog w = .ok (.enter gf args) w) (enc : α → Value) {Kp : World → World → Prop} {S Sp : List α → Prop} {N : Nat}
    (hseq : SeqStopsK Fence.wide (n - 1) Try.prog gf lb (fun x => #[enc x]) Kp S Sp N w) (hKt : ∀ {A B C : World}, Kp A B → Kp B C → Kp A C)
    (hKb : ∀ (W : World) (l : Nat) (o o' : Obj), w.heap.size ≤ l → W.heap[l]? = some o → o.isCells = false → o.isWalk = false → Kp W (W.putObj l o'))
    (I : List α → World → Prop) (hI : OwnFrom w.heap.size I) (h0 : I [] w) (T : Array Value) (hT : a = { tmps := T, defers := [] })
    (hassign : ∀ (l : Nat) (x : α) (W : World) (K : Act → World → Prop), K { tmps := (T.setIfInBounds 51 (enc x)).setIfInBounds 8 (enc x), defers := [] } W →
      rg.wpIn (Fence.wide.inRound l) (n - 1 - 1) Try.prog (Exit.then K (fun _ _ _ => False)) { tmps := T.setIfInBounds 51 (enc x), defers := [] } W)
    (hbody : ∀ (l : Nat) (pre : List α) (x : α) (W : World), I pre W → pre.length < N → body.wpIn (Fence.wide.inRound l) (n - 1 - 1) Try.prog (ownPostK Kp I (fun _ _ _ => False) (pre ++ [x]) W) { tmps := (T.setIfInBounds 51 (enc x)).setIfInBounds 8 (enc x), defers := [] } W)
    (hdone : ∀ (D : Nat) (xs : List α) (W : World), w.heap.size ≤ D → S xs → I xs W → W.heap[D]? = some (.deferred (some [])) → Q .normal { a with defers := [{ target := .collected D, args := #[] }] } W) :
    (Code.rangeFunc (.tmp 50) #[51] rg body).wp Try.prog Q a w := by
  subst hT
  refine (wpIn_wide (n := n)).1 ?_
  exact wpIn_rangeFunc_ownF rfl h1 hg trivial eg hseq hKt hKb (Below.refl _ _) (fun _ => rfl) I (fun _ _ _ => False) hI (fun _ _ _ _ _ hs _ _ => hs) h0 (fun x => { tmps := (T.setIfInBounds 51 (enc x)).setIfInBounds 8 (enc x), defers := [] }) (fun l x W K hK => by simpa using hassign l x W K hK) hbody
    (fun D xs W hD hS hi hk => hdone D xs W hD hS hi hk) (fun _ _ _ _ _ _ h _ => h.elim)

theorem bodyN_ok (seq : Int) (ps : List Pg) (hp : ∀ p ∈ ps, p.ok) : WordsOk (bodyN seq ps) ∧ (bodyN seq ps).length ≤ 111 := by
  unfold bodyN
  split
  · rename_i h
    obtain ⟨_, h1, h2, h3, _, _⟩ := validN_0 _ _ _ h
    refine ⟨fun x hx => ?_, by rw [List.length_append, preW_length]; simp; omega⟩
    rcases List.mem_append.1 hx with hx | hx
    · exact preW_ok seq ps h1 h2.2 (fun p hm => ⟨hp p hm, h3 p hm⟩) x hx
    · simp at hx; subst hx; exact Crc.ext_lt _ _
  · exact ⟨fun x hx => by simp at hx, by simp⟩
theorem reads_take {w : World} {A : Option Addr} {n : Nat} {ws : List Nat} (h : ReadsW w A n ws) (k : Nat) (hk : k ≤ n) : ReadsW w A k (ws.take k) := by
  refine ⟨by simp; have := h.1; omega, by have := h.2.1; omega, fun j hj => ?_⟩
  obtain ⟨ad, e, h1, h2, h3⟩ := h.2.2 j (by omega)
  have e2 : (ws.take k).getD j 0 = ws.getD j 0 := by simp only [List.getD_eq_getElem?_getD, List.getElem?_take_of_lt hj]
  rw [e2]
  exact ⟨ad, e, h1, h2, h3⟩

theorem keepRS {W w1 w2 : World} {r : Nat} {a b : Value} (hr : r < W.heap.size) (h : w1.cell? ⟨r, 0, none⟩ = some a ∧ w1.cell? ⟨r, 1, none⟩ = some b ∧ Below W.heap.size W w1) (hb : Below w1.heap.size w1 w2) :
    w2.cell? ⟨r, 0, none⟩ = some a ∧ w2.cell? ⟨r, 1, none⟩ = some b ∧ Below W.heap.size W w2 :=
  ⟨(hb.cell (p := ⟨r, 0, none⟩) (Nat.lt_of_lt_of_le hr h.2.2.size)).trans h.1, (hb.cell (p := ⟨r, 1, none⟩) (Nat.lt_of_lt_of_le hr h.2.2.size)).trans h.2.1, h.2.2.trans (hb.mono h.2.2.size)⟩

theorem validN_not (seq : Int) (ps : List Pg) (l : Int) (h : (validN seq ps l == 0) = false) : validN seq ps l = 18 ∨ validN seq ps l = 1 ∨ validN seq ps l = 2 := by
  unfold validN at h ⊢
  split
  · exact .inl rfl
  · rename_i h1
    rw [if_neg h1] at h
    split
    · exact .inr (.inl rfl)
    · rename_i h2
      rw [if_neg h2] at h
      split
      · exact .inr (.inr rfl)
      · rename_i h3
        rw [if_neg h3] at h
        split
        · rename_i h4
          rw [if_pos h4] at h
          exact absurd h (by decide)
        · exact .inr (.inl rfl)
def ParseR (ws : List Nat) (l : Int) (w : World) (e : Ending) (w' : World) : Prop :=
  (∃ A' c, e = .returned (.tuple #[.agg #[.int .i64 (parseS ws l), .slice A' (parseP ws l).length c], .int .i64 (parseE ws l)]) ∧ ReadsP w' A' (parseP ws l).length (parseP ws l)) ∧ Below w.heap.size w w'
theorem parseR_err {ws : List Nat} {l e : Int} {w w' : World} (he : parseE ws l = e) (h0 : e ≠ 0) (hb : Below w.heap.size w w') :
    ParseR ws l w (.returned (.tuple #[.agg #[.int .i64 0, .slice none 0 0], .int .i64 e])) w' := by
  have hs : parseS ws l = 0 := by unfold parseS; rw [he, if_neg h0]
  have hp : parseP ws l = [] := by unfold parseP; rw [he, if_neg h0]
  refine ⟨⟨none, 0, ?_, ?_⟩, hb⟩
  · rw [hs, hp, he]; rfl
  · rw [hp]; exact ReadsP.nil _

theorem parse_leave (ws : List Nat) (l : Int) (w W : World) (D : Nat) (tmps : Array Value) (a b : Value) (e : Int) (hD : w.heap.size < D) (hk : W.heap[D]? = some (.deferred (some []))) (hc : W.heap[w.heap.size]? = some (.cells #[a, b] 34 (0, 0)))
    (h4 : tmps.getD 4 undef = .pointer (some ⟨w.heap.size, 0, none⟩)) (h5 : tmps.getD 5 undef = .int .i64 e) (hR : ParseR ws l w (.returned (.tuple #[.agg #[a, b], .int .i64 e])) (W.putObj D (.deferred none))) :
    bodyPostM Fence.wide 4 Try.prog Try.f27 (ParseR ws l w) .ret { tmps := tmps, defers := [{ target := .collected D, args := #[] }] } W := by
  refine ⟨by simp, .inl ⟨D, _, rfl, run_takeDeferred hk, ?_⟩⟩
  exact ⟨_, res_two rfl _ _ w.heap.size #[a, b] _ h4 h5 (lv34 _ _ _ _ (((grownBy_putObj' W D _).block _ (Array.getElem?_eq_some_iff.1 hc).1 (by intro e; injection e with e; omega)).trans hc)), hR⟩
theorem below_put {w W : World} {D : Nat} (o : Obj) (hb : Below w.heap.size w W) (hD : w.heap.size ≤ D) : Below w.heap.size w (W.putObj D o) :=
  hb.grown (grownBy_putObj' W D o) hb.size (fun k e => by injection e with e; omega)
theorem parseR_ok {ws : List Nat} {l : Int} {w w' : World} {A' : Option Addr} {c : Nat} (he : parseE ws l = 0) (hr : ReadsP w' A' (psOf ws).length (psOf ws)) (hb : Below w.heap.size w w') :
    ParseR ws l w (.returned (.tuple #[.agg #[.int .i64 ((ws.getD 0 0 : Nat) : Int), .slice A' (psOf ws).length c], .int .i64 0])) w' := by
  have hs : parseS ws l = (ws.getD 0 0 : Nat) := by unfold parseS; rw [if_pos he]
  have hp : parseP ws l = psOf ws := by unfold parseP; rw [if_pos he]
  refine ⟨⟨A', c, ?_, ?_⟩, hb⟩
  · rw [hs, hp, he]
  · rw [hp]; exact hr
theorem reads_take' {w : World} {A : Option Addr} {n : Nat} {ws : List Nat} (h : ReadsW w A n ws) (k' k : Nat) (e : k' = k) (hk : k ≤ n) : ReadsW w A k' (ws.take k) := by
  subst e; exact reads_take h _ hk
theorem body_r (seq : Int) (n cap : Nat) (A : Option Addr) (ps : List Pg) (w : World) (hp : ReadsP w A n ps) :
    Calls Try.prog 22 #[.agg #[.int .i64 seq, .slice A n cap]] w fun e w' => ∃ A' c', e = .returned (.slice A' (bodyN seq ps).length c') ∧ ReadsW w' A' (bodyN seq ps).length (bodyN seq ps) ∧ Below w.heap.size w w' := by
  refine (body_x seq n cap A ps w hp).mono ?_
  rintro e w' ⟨⟨v, rfl, ho⟩, hb⟩
  have hbo := bodyN_ok seq ps hp.2.2.1
  obtain ⟨A', c', rfl, hr⟩ := own_readsW ho hbo.1 (by have := hbo.2; omega)
  exact ⟨A', c', rfl, hr, hb⟩

theorem equalwords_b (n m cap cap' : Nat) (A B : Option Addr) (ps qs : List Nat) (w : World) (b : Bool) (hb : (ps == qs) = b) (hp : ReadsW w A n ps) (hq : ReadsW w B m qs) :
    Calls Try.prog 50 #[.slice A n cap, .slice B m cap'] w fun e w' => e = .returned (.bool b) ∧ Below w.heap.size w w' := by
  subst hb; exact equalwords_x n m cap cap' A B ps qs w hp hq
theorem ReadsP.apart {w w' : World} {A : Option Addr} {n : Nat} {ps : List Pg} (h : ReadsP w A n ps) (hs : w.heap.size ≤ w'.heap.size)
    (hk : ∀ (b o : Nat) (v : Value), b < w.heap.size → 2 ≤ o → w.cell? ⟨b, o, none⟩ = some v → w'.heap[b]? = w.heap[b]?) : ReadsP w' A n ps :=
  ⟨h.1, h.2.1, h.2.2.1, fun k hkn => by
    obtain ⟨b, o, e, hlt, hc⟩ := h.2.2.2 k hkn
    refine ⟨b, o, e, Nat.lt_of_lt_of_le hlt hs, fun p hp j v hv => ?_⟩
    have h8 := hc p hp 8 _ (show p.cells[8]? = some _ from rfl)
    have hb := hk b _ _ hlt (by omega) h8
    exact (World.cell?_of_block (w := w) (a := ⟨b, o + k * 9 + j, none⟩) hb).trans (hc p hp j v hv)⟩
theorem ReadsP.leave {w : World} {A : Option Addr} {n : Nat} {ps : List Pg} (h : ReadsP w A n ps) (g D : Nat) (a b : Value) (cs : Array Value) (o : Obj) (hg : w.heap[g]? = some (.cells #[a, b] 34 (0, 0))) (hD : w.heap[D]? = some (.deferred (some []))) :
    ReadsP ((w.setRow g cs).putObj D o) A n ps := by
  have hsz : (w.setRow g cs).heap.size = w.heap.size := by simp [World.setRow]
  have hgp := grownBy_putObj' (w.setRow g cs) D o
  refine h.apart (by have := hgp.size; omega) (fun x y v hx hy hc => ?_)
  have h1 : x ≠ g := by
    intro e; subst e
    rw [World.cell?, hg] at hc
    simp at hc
    have := (List.getElem?_eq_some_iff.1 hc).1
    simp at this; omega
  have h2 : x ≠ D := by
    intro e; subst e
    rw [World.cell?, hD] at hc
    simp at hc
  exact (hgp.block x (by omega) (by intro e; injection e with e; exact h2 e)).trans (setRow_other w g x cs h1)

theorem ones_rec (s : Int) (A : Option Addr) (n c : Nat) : (#[.int .i64 s, .slice A n c] : Array Value).all (·.oneCell') = true := by simp [Value.oneCell']
set_option maxRecDepth 100000 in
set_option maxHeartbeats 4000000 in
theorem parse_x (l : Int) (N cap : Nat) (A : Option Addr) (ws : List Nat) (w : World) (hw : ReadsW w A N ws) (hcap : N ≤ cap) :
    Calls Try.prog 27 #[.slice A N cap, .int .i64 l] w (ParseR ws l w) := by
  have hN := hw.2.1
  have HW := Lib.hid hw
  have hlen := hw.1
  clear hw
  refine (callsIn_wide (n := 4)).1 ?_
  refine callsIn_of_wp_marks Try.func27 rfl trivial ?_ rfl
  obtain ⟨Q, hQ⟩ : ∃ Q, Q = bodyPostM Fence.wide 4 Try.prog Try.f27 (ParseR ws l w) := ⟨_, rfl⟩
  rw [← hQ]
  have HQ := Lib.hid hQ
  clear hQ
  refine wpIn_wide.2 ?_
  simp only [Try.ntmps27, List.size_toArray, List.length_cons, List.length_nil, Nat.reduceAdd, Nat.reduceSub, Array.replicate_succ, Array.replicate_zero, List.push_toArray, List.append_toArray, List.nil_append, List.cons_append]
  cases hl : isLinesB l
  · have hx : ∀ W, Calls Try.prog 39 #[.int .i64 l] W fun e w' => e = .returned (.bool false) ∧ W = w' := fun W => by have := islines_x l W; rwa [hl] at this
    have HE := Lib.hid (show parseE ws l = 18 by unfold parseE; rw [if_pos hl])
    go_wp2_with (first
      | (go_at_call 39; refine (hx _).mono ?_; rintro e w1 ⟨rfl, rfl⟩)
      | fail)
    rw [HQ.out]
    exact ⟨_, res_two rfl _ _ w.heap.size #[.int .i64 0, .slice none 0 0] _ rfl rfl (lv34 _ _ _ _ (heap_alloc_new w _)), parseR_err HE.out (by decide) ((Below.refl _ w).alloc (Nat.le_refl _) _)⟩
  · have hx : ∀ W, Calls Try.prog 39 #[.int .i64 l] W fun e w' => e = .returned (.bool true) ∧ W = w' := fun W => by have := islines_x l W; rwa [hl] at this
    have HE : Hid (parseOk ws l = false → parseE ws l = 14) := fun h => by unfold parseE; rw [if_neg (by rw [hl]; decide), if_neg (by rw [h]; decide)]
    have HE0 : Hid (parseOk ws l = true → parseE ws l = 0) := fun h => by unfold parseE; rw [if_neg (by rw [hl]; decide), if_pos h]
    have hfin : ∀ W, W.heap[w.heap.size]? = some (.cells #[.int .i64 0, .slice none 0 0] 34 (0, 0)) → Below w.heap.size w W → parseOk ws l = false → ∀ tmps : Array Value, tmps.getD 4 undef = .pointer (some ⟨w.heap.size, 0, none⟩) → tmps.getD 5 undef = .int .i64 14 → Q .ret { tmps := tmps, defers := [] } W := by
      intro W hW hb hno tmps h4 h5
      rw [HQ.out]
      exact ⟨_, res_two rfl _ _ w.heap.size #[.int .i64 0, .slice none 0 0] _ h4 h5 (lv34 _ _ _ _ hW), parseR_err (HE.out hno) (by decide) hb⟩
    have HFin := Lib.hid hfin
    clear hfin hl
    by_cases h2 : 2 ≤ N
    · have c2 : decide ((N : Int) < 2) = false := decide_eq_false (by omega)
      obtain ⟨ad, rfl, hbl, hc0, hv0⟩ := HW.out.2.2 0 (by omega)
      obtain ⟨_, e1, _, hc1, hv1⟩ := HW.out.2.2 1 (by omega)
      cases e1
      have HSh : Hid (shapeOk ws = (decide (ws.getD 0 0 < 1073741824) && (decide (ws.getD 1 0 ≤ 12) && decide (3 + 9 * ws.getD 1 0 ≤ N)))) := by
        show _ = _
        unfold shapeOk; rw [decide_eq_true (by omega), Bool.true_and, hlen]
      rw [Addr.add_zero'] at hc0
      rw [show ad.add 1 = ⟨ad.block, ad.off + 1, none⟩ by simp [Addr.add]] at hc1
      have c0 : (w.alloc (.cells #[.int .i64 0, .slice none 0 0] 34)).cell? ad = some (.int .u64 ((ws.getD 0 0 : Nat) : Int)) := (((Below.refl _ w).alloc (Nat.le_refl _) _).cell hbl).trans hc0
      have c1 : (w.alloc (.cells #[.int .i64 0, .slice none 0 0] 34)).cell? ⟨ad.block, ad.off + 1, none⟩ = some (.int .u64 ((ws.getD 1 0 : Nat) : Int)) := (((Below.refl _ w).alloc (Nat.le_refl _) _).cell (p := ⟨ad.block, ad.off + 1, none⟩) hbl).trans hc1
      clear hc0 hc1
      have hpok : Hid (parseOk ws l = (shapeOk ws && recOk ws l)) := (rfl : parseOk ws l = (shapeOk ws && recOk ws l))
      generalize hx0 : ws.getD 0 0 = x0 at *
      generalize hx1 : ws.getD 1 0 = m at *
      have HX0 := Lib.hid hx0
      have HX1 := Lib.hid hx1
      clear hx0 hx1
      by_cases h3' : x0 < 1073741824
      · have d3 : decide ((1073741824 : Int) ≤ (x0 : Int)) = false := decide_eq_false (by omega)
        by_cases h4 : m ≤ 12
        · have d4 : decide ((12 : Int) < (m : Int)) = false := decide_eq_false (by omega)
          by_cases h5 : 3 + 9 * m ≤ N
          · have h5' : 2 + 9 * (m : Int) + 1 ≤ (N : Int) := by omega
            have h6 : 2 + 9 * (m : Int) + 1 ≤ (cap : Int) := by omega
            have hc2 : ¬ cap = 2 := by omega
            go_wp2_with (first
              | (go_at_call 39; refine (hx _).mono ?_; rintro e w1 ⟨rfl, rfl⟩)
              | (go_at_call 48; refine (chunk_x _ _ _ _ rfl _).mono ?_; rintro e w1 ⟨rfl, rfl⟩)
              | fail)
            obtain ⟨W2, hW2⟩ : ∃ W2, W2 = ((((w.alloc (.cells #[.int .i64 0, .slice none 0 0] 34)).alloc (.cells #[.int .i64 (x0 : Int), .slice none 0 0] 34)).alloc (.cells #[.slice (some ⟨ad.block, ad.off + 2, none⟩) (9 * m) (cap - 2)] 24)).alloc (.cells #[.int .i64 9] 3)) := ⟨_, rfl⟩
            rw [← hW2]
            have hsz : W2.heap.size = w.heap.size + 4 := by rw [hW2]; simp
            have hb2 : Below w.heap.size w W2 := by
              rw [hW2]
              exact ((((Below.refl _ w).alloc (Nat.le_refl _) _).alloc (by simp) _).alloc (by simp; omega) _).alloc (by simp; omega) _
            have f4 : W2.heap[w.heap.size]? = some (.cells #[.int .i64 0, .slice none 0 0] 34 (0, 0)) := by
              rw [hW2]
              refine (Below.heap_alloc _ _ _ ?_).trans ((Below.heap_alloc _ _ _ ?_).trans ((Below.heap_alloc _ _ _ ?_).trans (heap_alloc_new w _)))
              all_goals (try simp only [World.size_alloc])
              all_goals omega
            have fR : W2.heap[w.heap.size + 1]? = some (.cells #[.int .i64 (x0 : Int), .slice none 0 0] 34 (0, 0)) := by
              rw [hW2]
              have h := heap_alloc_new (w.alloc (.cells #[.int .i64 0, .slice none 0 0] 34)) (.cells #[.int .i64 (x0 : Int), .slice none 0 0] 34)
              rw [World.size_alloc] at h
              refine (Below.heap_alloc _ _ _ ?_).trans ((Below.heap_alloc _ _ _ ?_).trans h)
              all_goals (try simp only [World.size_alloc])
              all_goals omega
            have fB1 : W2.cell? ⟨w.heap.size + 2, 0, none⟩ = some (.slice (some ⟨ad.block, ad.off + 2, none⟩) (9 * m) (cap - 2)) := by
              have h : W2.heap[w.heap.size + 2]? = some (.cells #[.slice (some ⟨ad.block, ad.off + 2, none⟩) (9 * m) (cap - 2)] 24 (0, 0)) := by
                rw [hW2]
                have h := heap_alloc_new ((w.alloc (.cells #[.int .i64 0, .slice none 0 0] 34)).alloc (.cells #[.int .i64 (x0 : Int), .slice none 0 0] 34)) (.cells #[.slice (some ⟨ad.block, ad.off + 2, none⟩) (9 * m) (cap - 2)] 24)
                rw [World.size_alloc, World.size_alloc] at h
                refine (Below.heap_alloc _ _ _ ?_).trans h
                simp only [World.size_alloc]
                omega
              simp [World.cell?, h]
            have fB2 : W2.cell? ⟨w.heap.size + 3, 0, none⟩ = some (.int .i64 9) := by
              have h : W2.heap[w.heap.size + 3]? = some (.cells #[.int .i64 9] 3 (0, 0)) := by
                rw [hW2]
                have h := heap_alloc_new (((w.alloc (.cells #[.int .i64 0, .slice none 0 0] 34)).alloc (.cells #[.int .i64 (x0 : Int), .slice none 0 0] 34)).alloc (.cells #[.slice (some ⟨ad.block, ad.off + 2, none⟩) (9 * m) (cap - 2)] 24)) (.cells #[.int .i64 9] 3)
                rw [World.size_alloc, World.size_alloc, World.size_alloc] at h
                exact h
              simp [World.cell?, h]
            have HW2 := Lib.hid hW2
            clear hW2
            refine range51 (n := 4) (by omega) (gf := 60) (lb := #[.pointer (some ⟨w.heap.size + 2, 0, none⟩), .pointer (some ⟨w.heap.size + 3, 0, none⟩)]) rfl (enters_of Try.func60 (by kernel_rfl) rfl)
              (fun k => .slice (some ⟨ad.block, ad.off + 2 + min k (m - 1) * 9, none⟩) 9 9)
              (chunk_stops 3 (by omega) (w.heap.size + 2) (w.heap.size + 3) ad.block (ad.off + 2) m h4 _ (.inr ⟨cap - 2, by omega, by rw [Nat.mul_comm]⟩) W2 (by omega) (by omega) fB1 fB2)
              Keep2.trans ?hKb
              (fun pre W => (∃ v, W.heap[w.heap.size + 1]? = some (.cells #[.int .i64 (x0 : Int), v] 34 (0, 0)) ∧ W.ownsRow (w.heap.size + 4) 49 9 v pre.length (pcells (pre.map (fun k => pgAt ws (min k (m - 1)))))) ∧ Below (w.heap.size + 1) W2 W)
              ?hI ⟨⟨_, fR, World.ownsRow_nil _ _ _ _⟩, Below.refl _ _⟩ _ rfl
              ?hassign ?hbody ?hdone
            case hKb =>
              intro W l' o o' hl' hk' hc' hw'
              have hg := grownBy_putObj' W l' o'
              have hlt := (Array.getElem?_eq_some_iff.1 hk').1
              exact ⟨hg.block _ (by omega) (by intro e; injection e with e; omega), hg.block _ (by omega) (by intro e; injection e with e; omega)⟩
            case hI =>
              rintro pre W W' row ⟨⟨v, h1, h2⟩, h3⟩ hg hr
              have hRlt := (Array.getElem?_eq_some_iff.1 h1).1
              refine ⟨⟨v, (hg.block _ hRlt (by intro e; have := (hr _ e.symm).1; omega)).trans h1, h2.kept hg ?_⟩, h3.grown hg (by have := h3.size; omega) (fun k e => by have := (hr _ e).1; omega)⟩
              cases hv : v.ownBlock with
              | none => exact .inl rfl
              | some gb =>
                right
                intro e
                obtain ⟨_, ob, hob, hcells⟩ := hr gb e.symm
                rcases h2.2 with ⟨rfl, _⟩ | ⟨g, cp, cur, rfl, _, hg2, _⟩
                · simp [Value.ownBlock] at hv
                · simp only [Value.ownBlock, Option.some.injEq] at hv
                  subst hv
                  rw [hg2] at hob
                  injection hob with hob
                  subst hob
                  simp [Obj.isCells] at hcells
            case hassign =>
              intro l' x W K hK
              simp only [List.setIfInBounds_toArray, List.set_cons_succ, List.set_cons_zero] at hK ⊢
              gi_wp2
              exact hK
            case hbody =>
              rintro l' pre k W ⟨⟨v, h1, h2⟩, h3⟩ hlt
              simp only [List.setIfInBounds_toArray, List.set_cons_succ, List.set_cons_zero]
              have hk : min k (m - 1) < m := by omega
              generalize hqe : min k (m - 1) = q at *
              have HQE := Lib.hid hqe
              clear hqe
              have hszW : w.heap.size + 4 ≤ W.heap.size := by have := h3.size; omega
              have hcz : (1 : Nat) ≤ 4 - 1 - 1 := by omega
              have hrd := (reads_piece HW.out (2 + q * 9) 9 (by omega) (by omega)).more ((Below.refl w.heap.size w).trans (hb2.trans (h3.mono (by omega))))
              rw [show ad.off + (2 + q * 9) = ad.off + 2 + q * 9 by omega] at hrd
              have hpg := fun W' (hb : Below W.heap.size W W') => page_x ⟨ad.block, ad.off + 2 + q * 9, none⟩ 9 _ W' (hrd.more hb) (by omega)
              have HPG := Lib.hid hpg
              have H2 := Lib.hid h2
              have H3 := Lib.hid h3
              have hcR : W.cell? ⟨w.heap.size + 1, 1, none⟩ = some v := by simp [World.cell?, h1]
              have hmix : Try.prog.follows .mixedOrders = true := by kernel_rfl
              clear hpg hrd h2
              obtain ⟨i9, hi9, hz90, hz91, hz92⟩ := info_parts info49b
              obtain ⟨p, hpd⟩ : ∃ p, p = pgOf ((ws.drop (2 + q * 9)).take 9) := ⟨_, rfl⟩
              rw [← hpd] at HPG
              have HPG : ∀ W', Below W.heap.size W W' → Calls Try.prog 49 #[.slice (some ⟨ad.block, ad.off + 2 + q * 9, none⟩) 9 9] W' fun e w' => e = .returned (.agg #[.int .i64 p.line, .int .u64 (p.head : Int), .int .u64 (p.d 0 : Int), .int .u64 (p.d 1 : Int), .int .u64 (p.d 2 : Int), .int .u64 (p.d 3 : Int), .int .u64 (p.d 4 : Int), .int .u64 (p.d 5 : Int), .int .u64 (p.d 6 : Int)]) ∧ Below W'.heap.size W' w' := HPG.out
              have HPG := Lib.hid HPG
              have HPD := Lib.hid hpd
              clear hpd
              have hRW : w.heap.size + 1 < W.heap.size := (Array.getElem?_eq_some_iff.1 h1).1
              have hvne : v.ownBlock ≠ some (w.heap.size + 1) := by intro e; have := (H2.out.lt _ e).1; omega
              have hend : ∀ (w3 w5 : World) (g5 cp5 : Nat), Below W.heap.size W w3 → w5.ownsRow (w.heap.size + 4) 49 9 (.slice (some ⟨g5, 0, none⟩) (pre.length + 1) cp5) (pre.length + 1) (pcells (pre.map (fun k => pgAt ws (min k (m - 1)))) ++ p.cells.toList) →
                  (w3.alloc (.cells p.cells 49)).grownBy w5 v.ownBlock → w5.heap[w.heap.size + 1]? = some (.cells #[.int .i64 (x0 : Int), v] 34 (0, 0)) →
                  KeepsOthers W (w5.setCell ⟨w.heap.size + 1, 1, none⟩ (.slice (some ⟨g5, 0, none⟩) (pre.length + 1) cp5)) ∧
                  Keep2 (w.heap.size + 2) (w.heap.size + 3) W (w5.setCell ⟨w.heap.size + 1, 1, none⟩ (.slice (some ⟨g5, 0, none⟩) (pre.length + 1) cp5)) ∧
                  ((∃ v', (w5.setCell ⟨w.heap.size + 1, 1, none⟩ (.slice (some ⟨g5, 0, none⟩) (pre.length + 1) cp5)).heap[w.heap.size + 1]? = some (.cells #[.int .i64 (x0 : Int), v'] 34 (0, 0)) ∧
                    (w5.setCell ⟨w.heap.size + 1, 1, none⟩ (.slice (some ⟨g5, 0, none⟩) (pre.length + 1) cp5)).ownsRow (w.heap.size + 4) 49 9 v' (pre ++ [k]).length (pcells ((pre ++ [k]).map (fun k => pgAt ws (min k (m - 1)))))) ∧
                  Below (w.heap.size + 1) W2 (w5.setCell ⟨w.heap.size + 1, 1, none⟩ (.slice (some ⟨g5, 0, none⟩) (pre.length + 1) cp5))) := by
                intro w3 w5 g5 cp5 hbW3 hown5 hgrow5 hhR5
                have hs3 := hbW3.size
                have hown4 := (own_below H2.out hbW3).alloc (.cells p.cells 49)
                refine ⟨?_, ⟨?_, ?_⟩, ⟨_, heap_setCell_same w5 _ 1 _ 34 _ hhR5, ?_⟩, ?_⟩
                · refine KeepsOthers.trans (⟨hs3, fun k o hk _ => (hbW3.block k (Array.getElem?_eq_some_iff.1 hk).1).trans hk⟩ : KeepsOthers W w3) (KeepsOthers.trans (KeepsOthers.alloc _ _) (KeepsOthers.trans (KeepsOthers.of_grownBy hgrow5 ?_) (KeepsOthers.setCell _ _ _)))
                  intro j o hj ho
                  rcases hown4.2 with ⟨hv, _⟩ | ⟨g, cp, cur, hv, _, hg2, _⟩
                  · rw [hv] at hj; simp [Value.ownBlock] at hj
                  · rw [hv] at hj
                    simp only [Value.ownBlock, Option.some.injEq] at hj
                    subst hj
                    rw [hg2] at ho
                    injection ho with ho
                    subst ho
                    rfl
                · refine (Below.heap_setCell _ _ _ _ (by simp)).trans ((hgrow5.block _ (by simp; omega) ?_).trans ((Below.heap_alloc _ _ _ (by omega)).trans (hbW3.block _ (by omega))))
                  intro e; have := (H2.out.lt _ e.symm).1; omega
                · refine (Below.heap_setCell _ _ _ _ (by simp)).trans ((hgrow5.block _ (by simp; omega) ?_).trans ((Below.heap_alloc _ _ _ (by omega)).trans (hbW3.block _ (by omega))))
                  intro e; have := (H2.out.lt _ e.symm).1; omega
                · rw [List.length_append, List.map_append, List.map_cons, List.map_nil, pcells_snoc, HQE.out, show pgAt ws q = p from HPD.out.symm]
                  exact ownsRow_setCell_below hown5 (by simp) _
                · have b1 : Below (w.heap.size + 1) W w3 := hbW3.mono (by omega)
                  have b2 : Below (w.heap.size + 1) W (w3.alloc (.cells p.cells 49)) := b1.alloc (by omega) _
                  have b3 : Below (w.heap.size + 1) W w5 := b2.grown hgrow5 (by simp; omega) (fun k e => by have := (H2.out.lt _ e).1; omega)
                  exact h3.trans (b3.setCell (p := ⟨w.heap.size + 1, 1, none⟩) (Nat.le_refl _) _)
              have HEnd := Lib.hid hend
              clear hend
              gi_wp2
              refine region_round l' 2 (by omega) (by kernel_rfl) ?nd ?lo ?_
              case nd =>
                intro i o ho c
                match i, ho with
                | 0, h => cases h; exact nofun
                | 1, h => cases h; exact nofun
                | 2, h => cases h; exact nofun
                | 3, h => cases h; exact nofun
                | 4, h => cases h; exact nofun
                | 5, h => cases h; exact nofun
                | 6, h => cases h; exact nofun
                | 7, h => cases h; exact nofun
                | i + 8, h => cases h
              case lo =>
                rintro ⟨_, _, h⟩
                exact h
              refine wpAny_take (i := 0) (v := ?_) rfl (by kernel_rfl) (by kernel_rfl) (by kernel_rfl) (fun _ _ _ h => h) (Or.inl ⟨by rfl, ?y0⟩) ?_
              case y0 => (intro _; go_simp; try with_reducible rfl)
              refine wpAny_take (i := 2) (v := ?_) rfl (by kernel_rfl) (by kernel_rfl) (by kernel_rfl) (fun _ _ _ h => h) (Or.inl ⟨by rfl, ?y2⟩) ?_
              case y2 => (intro _; go_simp; try with_reducible rfl)
              refine wpAny_ready (rs := [1, 3]) (by kernel_rfl) (by simp) ?_
              refine AllReady.cons rfl (fun K hK => ?_) (AllReady.cons rfl (fun K hK => ?_) AllReady.nil)
              · skip
                go_simp
                refine hK _ _ ?_
                clear hK K
                refine wpAny_ready (rs := [3]) (by kernel_rfl) (by simp) ?_
                refine AllReady.cons rfl (fun K hK => ?_) AllReady.nil
                go_simp
                go_at_call 49
                refine (HPG.out _ (Below.refl _ W).drew).mono ?_
                rintro e w3 ⟨rfl, hb3⟩
                have hbW3 : Below W.heap.size W w3 := ⟨hb3.os, hb3.tape, hb3.output, hb3.size, hb3.block⟩
                have hcR3 : w3.cell? ⟨w.heap.size + 1, 1, none⟩ = some v := (hbW3.cell (p := ⟨w.heap.size + 1, 1, none⟩) hRW).trans hcR
                have hcR4 : (w3.alloc (.cells p.cells 49)).cell? ⟨w.heap.size + 1, 1, none⟩ = some v := (((Below.refl _ w3).alloc (Nat.le_refl _) _).cell (p := ⟨w.heap.size + 1, 1, none⟩) (by have := hbW3.size; simp; omega)).trans hcR3
                simp only [Pg.cells] at hcR4
                refine hK _ _ ?_
                clear hK K
                refine wpAny_ready (rs := [4]) (by kernel_rfl) (by simp) ?_
                refine AllReady.cons rfl (fun K hK => ?_) AllReady.nil
                go_simp
                refine hK _ _ ?_
                clear hK K
                refine wpAny_ready (rs := [5]) (by kernel_rfl) (by simp) ?_
                refine AllReady.cons rfl (fun K hK => ?_) AllReady.nil
                refine step_append_lies _ (by rfl) _ _ _ (by rfl) (w.heap.size + 4) 49 i9 _ 9 72 Try.underlying25 hi9 hz90 hz91 hz92 rfl (by omega) v pre.length _ (by rfl) ((own_below H2.out hbW3).alloc _)
                  ⟨w3.heap.size, 0, none⟩ 1 1 p.cells.toList (by rfl) (by rfl) (page_cells w3 p) (page_one p) (by omega) (by unfold maxLen; omega) (by omega) (by have := hbW3.size; simp; omega) (w3.heap.size + 1) (by simp) ?_
                intro g5 cp5 w5 hown5 hgrow5 hat5 hlt5
                have hhR5 : w5.heap[w.heap.size + 1]? = some (.cells #[.int .i64 (x0 : Int), v] 34 (0, 0)) :=
                  (hgrow5.block _ (by have := hbW3.size; simp; omega) (by intro e; exact hvne e.symm)).trans ((Below.heap_alloc _ _ _ (by have := hbW3.size; omega)).trans ((hbW3.block _ hRW).trans h1))
                have hcR5 : w5.cell? ⟨w.heap.size + 1, 1, none⟩ = some v := by simp [World.cell?, hhR5]
                have hfR5 : w5.frozen? ⟨w.heap.size + 1, 1, none⟩ = false := by simp [World.frozen?, hhR5]
                have HO5 := Lib.hid hown5
                have HG5 := Lib.hid hgrow5
                have HH5 := Lib.hid hhR5
                clear hown5 hgrow5 hhR5
                refine hK _ _ ?_
                clear hK K
                refine wpAny_ready (rs := [6]) (by kernel_rfl) (by simp) ?_
                refine AllReady.cons rfl (fun K hK => ?_) AllReady.nil
                go_simp
                refine hK _ _ ?_
                clear hK K
                refine wpAny_ready (rs := [7]) (by kernel_rfl) (by simp) ?_
                refine AllReady.cons rfl (fun K hK => ?_) AllReady.nil
                go_simp
                refine hK _ _ ?_
                clear hK K
                refine wpAny_done (by kernel_rfl) ?_ _
                exact HEnd.out w3 w5 g5 cp5 hbW3 HO5.out HG5.out HH5.out
              · skip
                go_simp
                go_at_call 49
                refine (HPG.out _ (Below.refl _ W).drew).mono ?_
                rintro e w3 ⟨rfl, hb3⟩
                have hbW3 : Below W.heap.size W w3 := ⟨hb3.os, hb3.tape, hb3.output, hb3.size, hb3.block⟩
                have hcR3 : w3.cell? ⟨w.heap.size + 1, 1, none⟩ = some v := (hbW3.cell (p := ⟨w.heap.size + 1, 1, none⟩) hRW).trans hcR
                have hcR4 : (w3.alloc (.cells p.cells 49)).cell? ⟨w.heap.size + 1, 1, none⟩ = some v := (((Below.refl _ w3).alloc (Nat.le_refl _) _).cell (p := ⟨w.heap.size + 1, 1, none⟩) (by have := hbW3.size; simp; omega)).trans hcR3
                simp only [Pg.cells] at hcR4
                refine hK _ _ ?_
                clear hK K
                refine wpAny_ready (rs := [1, 4]) (by kernel_rfl) (by simp) ?_
                refine AllReady.cons rfl (fun K hK => ?_) (AllReady.cons rfl (fun K hK => ?_) AllReady.nil)
                · skip
                  go_simp
                  refine hK _ _ ?_
                  clear hK K
                  refine wpAny_ready (rs := [4]) (by kernel_rfl) (by simp) ?_
                  refine AllReady.cons rfl (fun K hK => ?_) AllReady.nil
                  go_simp
                  refine hK _ _ ?_
                  clear hK K
                  refine wpAny_ready (rs := [5]) (by kernel_rfl) (by simp) ?_
                  refine AllReady.cons rfl (fun K hK => ?_) AllReady.nil
                  refine step_append_lies _ (by rfl) _ _ _ (by rfl) (w.heap.size + 4) 49 i9 _ 9 72 Try.underlying25 hi9 hz90 hz91 hz92 rfl (by omega) v pre.length _ (by rfl) ((own_below H2.out hbW3).alloc _)
                    ⟨w3.heap.size, 0, none⟩ 1 1 p.cells.toList (by rfl) (by rfl) (page_cells w3 p) (page_one p) (by omega) (by unfold maxLen; omega) (by omega) (by have := hbW3.size; simp; omega) (w3.heap.size + 1) (by simp) ?_
                  intro g5 cp5 w5 hown5 hgrow5 hat5 hlt5
                  have hhR5 : w5.heap[w.heap.size + 1]? = some (.cells #[.int .i64 (x0 : Int), v] 34 (0, 0)) :=
                    (hgrow5.block _ (by have := hbW3.size; simp; omega) (by intro e; exact hvne e.symm)).trans ((Below.heap_alloc _ _ _ (by have := hbW3.size; omega)).trans ((hbW3.block _ hRW).trans h1))
                  have hcR5 : w5.cell? ⟨w.heap.size + 1, 1, none⟩ = some v := by simp [World.cell?, hhR5]
                  have hfR5 : w5.frozen? ⟨w.heap.size + 1, 1, none⟩ = false := by simp [World.frozen?, hhR5]
                  have HO5 := Lib.hid hown5
                  have HG5 := Lib.hid hgrow5
                  have HH5 := Lib.hid hhR5
                  clear hown5 hgrow5 hhR5
                  refine hK _ _ ?_
                  clear hK K
                  refine wpAny_ready (rs := [6]) (by kernel_rfl) (by simp) ?_
                  refine AllReady.cons rfl (fun K hK => ?_) AllReady.nil
                  go_simp
                  refine hK _ _ ?_
                  clear hK K
                  refine wpAny_ready (rs := [7]) (by kernel_rfl) (by simp) ?_
                  refine AllReady.cons rfl (fun K hK => ?_) AllReady.nil
                  go_simp
                  refine hK _ _ ?_
                  clear hK K
                  refine wpAny_done (by kernel_rfl) ?_ _
                  exact HEnd.out w3 w5 g5 cp5 hbW3 HO5.out HG5.out HH5.out
                · skip
                  go_simp
                  refine hK _ _ ?_
                  clear hK K
                  refine wpAny_ready (rs := [1]) (by kernel_rfl) (by simp) ?_
                  refine AllReady.cons rfl (fun K hK => ?_) AllReady.nil
                  go_simp
                  refine hK _ _ ?_
                  clear hK K
                  refine wpAny_ready (rs := [5]) (by kernel_rfl) (by simp) ?_
                  refine AllReady.cons rfl (fun K hK => ?_) AllReady.nil
                  refine step_append_lies _ (by rfl) _ _ _ (by rfl) (w.heap.size + 4) 49 i9 _ 9 72 Try.underlying25 hi9 hz90 hz91 hz92 rfl (by omega) v pre.length _ (by rfl) ((own_below H2.out hbW3).alloc _)
                    ⟨w3.heap.size, 0, none⟩ 1 1 p.cells.toList (by rfl) (by rfl) (page_cells w3 p) (page_one p) (by omega) (by unfold maxLen; omega) (by omega) (by have := hbW3.size; simp; omega) (w3.heap.size + 1) (by simp) ?_
                  intro g5 cp5 w5 hown5 hgrow5 hat5 hlt5
                  have hhR5 : w5.heap[w.heap.size + 1]? = some (.cells #[.int .i64 (x0 : Int), v] 34 (0, 0)) :=
                    (hgrow5.block _ (by have := hbW3.size; simp; omega) (by intro e; exact hvne e.symm)).trans ((Below.heap_alloc _ _ _ (by have := hbW3.size; omega)).trans ((hbW3.block _ hRW).trans h1))
                  have hcR5 : w5.cell? ⟨w.heap.size + 1, 1, none⟩ = some v := by simp [World.cell?, hhR5]
                  have hfR5 : w5.frozen? ⟨w.heap.size + 1, 1, none⟩ = false := by simp [World.frozen?, hhR5]
                  have HO5 := Lib.hid hown5
                  have HG5 := Lib.hid hgrow5
                  have HH5 := Lib.hid hhR5
                  clear hown5 hgrow5 hhR5
                  refine hK _ _ ?_
                  clear hK K
                  refine wpAny_ready (rs := [6]) (by kernel_rfl) (by simp) ?_
                  refine AllReady.cons rfl (fun K hK => ?_) AllReady.nil
                  go_simp
                  refine hK _ _ ?_
                  clear hK K
                  refine wpAny_ready (rs := [7]) (by kernel_rfl) (by simp) ?_
                  refine AllReady.cons rfl (fun K hK => ?_) AllReady.nil
                  go_simp
                  refine hK _ _ ?_
                  clear hK K
                  refine wpAny_done (by kernel_rfl) ?_ _
                  exact HEnd.out w3 w5 g5 cp5 hbW3 HO5.out HG5.out HH5.out
            case hdone =>
              rintro D ys W hD rfl ⟨⟨v, h1, h2⟩, h3⟩ hK
              have hps : (List.range m).map (fun k => pgAt ws (min k (m - 1))) = psOf ws := by
                unfold psOf
                rw [HX1.out]
                refine List.map_congr_left (fun k hk => ?_)
                rw [show min k (m - 1) = k by have := List.mem_range.1 hk; omega]
              rw [hps, List.length_range] at h2
              have hwo := reads_wordsOk HW.out
              obtain ⟨A2, c2, rfl, hrp⟩ := own_readsP h2 (fun p hp => by
                unfold psOf at hp
                obtain ⟨k, _, rfl⟩ := List.mem_map.1 hp
                exact pgAt_ok ws hwo k) (by omega)
              have hWw : Below w.heap.size w W := hb2.trans (h3.mono (by omega))
              have hRlt := (Array.getElem?_eq_some_iff.1 h1).1
              have HRP := Lib.hid hrp
              have HRW := Lib.hid (HW.out.more hWw)
              have g0 : W.cell? ⟨w.heap.size + 1, 0, none⟩ = some (.int .i64 (x0 : Int)) := by simp [World.cell?, h1]
              have g1 : W.cell? ⟨w.heap.size + 1, 1, none⟩ = some (.slice A2 m c2) := by simp [World.cell?, h1]
              have hpsok : ∀ p ∈ psOf ws, p.ok := hrp.2.2.1
              clear hps hrp h2
              have hf4 : W.heap[w.heap.size]? = some (.cells #[.int .i64 0, .slice none 0 0] 34 (0, 0)) := (h3.block _ (by omega)).trans f4
              have hvl := fun W' (hb : Below W.heap.size W W') => valid_x (x0 : Int) l m c2 A2 (psOf ws) W' (HRP.out.more hb)
              have HRec : Hid (recOk ws l = ((validN (x0 : Int) (psOf ws) l == 0) && (bodyN (x0 : Int) (psOf ws) == ws.take (3 + 9 * m)))) := by
                show _ = _
                unfold recOk
                rw [HX0.out, HX1.out]
              have HShT := Lib.hid (show shapeOk ws = true by rw [HSh.out, decide_eq_true h3', decide_eq_true h4, decide_eq_true h5]; rfl)
              cases hvv : (validN (x0 : Int) (psOf ws) l == 0)
              · have HN := Lib.hid (show parseOk ws l = false by rw [hpok.out, HRec.out, hvv, Bool.false_and, Bool.and_false])
                have hne := validN_not _ _ _ hvv
                clear hvv
                generalize validN (x0 : Int) (psOf ws) l = vr at hvl hne
                have HHV := Lib.hid hvl
                have HF4 := Lib.hid hf4
                have HHK := Lib.hid hK
                have HH1 := Lib.hid h1
                have HG := Lib.hid (And.intro g0 g1)
                clear g0 g1
                clear hvl h1 hf4 hK fR fB1 fB2 f4 hbl c0 c1 hx
                have s34 : (Try.prog.info? 34).map (·.size) = some (#[.int .i64 0, .slice none 0 0] : Array Value).size := by rw [size34]; rfl
                rcases hne with rfl | rfl | rfl
                all_goals
                  go_wp2
                  obtain ⟨C, hC⟩ : ∃ C : World → Prop, C = fun w' => Below W.heap.size W w' := ⟨_, rfl⟩
                  have hex : ∃ x, C x := ⟨W, by rw [hC]; exact Below.refl _ _⟩
                  have hCs : C { W with drawn := W.drawn + 1 } := by rw [hC]; exact (Below.refl _ _).drew
                  have HC := Lib.hid hC
                  clear hC
                  have hL : ∀ w', C w' → ∀ (j : Nat) (v : Value), #[.int .i64 (x0 : Int), .slice A2 m c2][j]? = some v → w'.cell? ((⟨w.heap.size + 1, 0, none⟩ : Addr).add j) = some v := by
                    intro w' hc
                    rw [HC.out] at hc
                    exact cells_in ((hc.block _ hRlt).trans HH1.out)
                  have HL := Lib.hid hL
                  clear hL
                  refine wp_region_quiet (C := C) (by kernel_rfl) (by kernel_rfl) hCs ?_
                  clear hCs
                  simp only
                  repeat (first
                    | go_big_quiet_skip
                    | (go_big_quiet_want; first
                      | (refine quiet_load 34 _ rfl ⟨w.heap.size + 1, 0, none⟩ rfl #[.int .i64 (x0 : Int), .slice A2 m c2] _ HL.out Try.underlying34 rfl (by rw [size34]; rfl) ?_; simp only [Act.put, List.setIfInBounds_toArray, List.set_cons_succ, List.set_cons_zero]; go_big_quiet_on)
                      | (go_big_quiet_op; first | go_big_quiet_on | go_big_quiet_call (first | (intro _; with_reducible rfl) | (intro hc; go_at_call 23; rw [HC.out] at hc ⊢; exact (HHV.out _ hc).mono fun _ _ ⟨he, h⟩ => ⟨he, hc.trans (h.mono hc.size)⟩)))))
                  refine wpQuiet_nil ?_
                  intro w' hc
                  rw [HC.out] at hc
                  have hf4' := (hc.block w.heap.size (by omega)).trans HF4.out
                  have hk' := (hc.block D (Array.getElem?_eq_some_iff.1 HHK.out).1).trans HHK.out
                  have HF4' := Lib.hid hf4'
                  have HK' := Lib.hid hk'
                  clear hf4' hk'
                  go_wp2_with (first | (refine wpList_store_row rfl 34 _ _ rfl w.heap.size #[.int .i64 0, .slice none 0 0] rfl rfl 34 _ HF4'.out s34 rfl (ones_rec _ _ _ _) ?_) | fail)
                  rw [HQ.out]
                  exact parse_leave ws l w _ D _ _ _ 14 (by omega) ((setRow_other _ _ _ _ (by omega)).trans HK'.out) (setRow_heap _ _ _ _ _ _ HF4'.out) (by rfl) (by rfl) (parseR_err (HE.out HN.out) (by decide) (below_put _ (below_setRow (hWw.trans (hc.mono (by omega))) (Nat.le_refl _) _) (by omega)))

              · have hv0 : validN (x0 : Int) (psOf ws) l = 0 := by simpa using hvv
                rw [hv0] at hvl
                have HHV := Lib.hid hvl
                have HF4 := Lib.hid hf4
                have HHK := Lib.hid hK
                have HH1 := Lib.hid h1
                have g01 : W.drew.cell? ⟨w.heap.size + 1, 0, none⟩ = some (.int .i64 (x0 : Int)) ∧ W.drew.cell? ⟨w.heap.size + 1, 1, none⟩ = some (.slice A2 m c2) ∧ Below W.heap.size W W.drew := ⟨g0, g1, (Below.refl _ W).drew⟩
                have HG01 := Lib.hid g01
                have hbd := fun W' (hb : Below W.heap.size W W') => body_r (x0 : Int) m c2 A2 (psOf ws) W' (HRP.out.more hb)
                have HBD := Lib.hid hbd
                clear hbd g01 g0 g1
                clear hvl h1 hf4 hK fR fB1 fB2 f4 hbl c0 c1 hx
                have s34 : (Try.prog.info? 34).map (·.size) = some (#[.int .i64 0, .slice none 0 0] : Array Value).size := by rw [size34]; rfl
                have HV0 := Lib.hid hv0
                clear hvv hv0
                have h60 : (0 : Int) ≤ 2 + 9 * (m : Int) + 1 := by omega
                cases hbq : (bodyN (x0 : Int) (psOf ws) == ws.take (3 + 9 * m))
                · have HN := Lib.hid (show parseOk ws l = false by rw [hpok.out, HRec.out, hbq, Bool.and_false, Bool.and_false])
                  have HBQ := Lib.hid hbq
                  clear hbq
                  go_wp2
                  go_region_held3 (fun w' => w'.cell? ⟨w.heap.size + 1, 0, none⟩ = some (.int .i64 (x0 : Int)) ∧ w'.cell? ⟨w.heap.size + 1, 1, none⟩ = some (.slice A2 m c2) ∧ Below W.heap.size W w')
                        (first | (exact HG01.out) | assumption | (exact keepRS hRlt ‹_› hb5) | (exact keepRS hRlt ‹_› hb4) | (exact keepRS hRlt ‹_› hb3) | fail)
                        (first 
                          | (go_at_call 23; refine (HHV.out _ (‹_ ∧ _ ∧ Below W.heap.size W _›).2.2).mono ?_; rintro e w3 ⟨rfl, hb3⟩)
                          | (go_at_call 22; refine (HBD.out _ (‹_ ∧ _ ∧ Below W.heap.size W _›).2.2).mono ?_; rintro e w4 ⟨A3, c3, rfl, hr4, hb4⟩)
                          | (go_at_call 50; refine (equalwords_b _ _ _ _ _ _ _ _ _ _ HBQ.out hr4 (reads_take' (HRW.out.more (‹_ ∧ _ ∧ Below W.heap.size W _›).2.2) _ (3 + 9 * m) (by omega) (by omega))).mono ?_; rintro e w5 ⟨rfl, hb5⟩))
                  have hS := (‹_ ∧ _ ∧ Below W.heap.size W w5›).2.2
                  have hf4' := (hS.block w.heap.size (by omega)).trans HF4.out
                  have hk' := (hS.block D (Array.getElem?_eq_some_iff.1 HHK.out).1).trans HHK.out
                  have hr' := (hS.block (w.heap.size + 1) (by omega)).trans HH1.out
                  have HF4' := Lib.hid hf4'
                  have HK' := Lib.hid hk'
                  have HR' := Lib.hid hr'
                  clear hf4' hk' hr'
                  go_wp2_with (first | (refine wpList_store_row rfl 34 _ _ rfl w.heap.size #[.int .i64 0, .slice none 0 0] rfl rfl 34 _ HF4'.out s34 rfl (ones_rec _ _ _ _) ?_) | fail)
                  rw [HQ.out]
                  exact parse_leave ws l w _ D _ _ _ 14 (by omega) ((setRow_other _ _ _ _ (by omega)).trans HK'.out) (setRow_heap _ _ _ _ _ _ HF4'.out) (by rfl) (by rfl) (parseR_err (HE.out HN.out) (by decide) (below_put _ (below_setRow (hWw.trans (hS.mono (by omega))) (Nat.le_refl _) _) (by omega)))
                · have HN := Lib.hid (show parseOk ws l = true by rw [hpok.out, HShT.out, HRec.out, hbq, HV0.out]; rfl)
                  have HBQ := Lib.hid hbq
                  clear hbq
                  go_wp2
                  go_region_held3 (fun w' => w'.cell? ⟨w.heap.size + 1, 0, none⟩ = some (.int .i64 (x0 : Int)) ∧ w'.cell? ⟨w.heap.size + 1, 1, none⟩ = some (.slice A2 m c2) ∧ Below W.heap.size W w')
                        (first | (exact HG01.out) | assumption | (exact keepRS hRlt ‹_› hb5) | (exact keepRS hRlt ‹_› hb4) | (exact keepRS hRlt ‹_› hb3) | fail)
                        (first 
                          | (go_at_call 23; refine (HHV.out _ (‹_ ∧ _ ∧ Below W.heap.size W _›).2.2).mono ?_; rintro e w3 ⟨rfl, hb3⟩)
                          | (go_at_call 22; refine (HBD.out _ (‹_ ∧ _ ∧ Below W.heap.size W _›).2.2).mono ?_; rintro e w4 ⟨A3, c3, rfl, hr4, hb4⟩)
                          | (go_at_call 50; refine (equalwords_b _ _ _ _ _ _ _ _ _ _ HBQ.out hr4 (reads_take' (HRW.out.more (‹_ ∧ _ ∧ Below W.heap.size W _›).2.2) _ (3 + 9 * m) (by omega) (by omega))).mono ?_; rintro e w5 ⟨rfl, hb5⟩))
                  have hS := (‹_ ∧ _ ∧ Below W.heap.size W w5›).2.2
                  have hf4' := (hS.block w.heap.size (by omega)).trans HF4.out
                  have hk' := (hS.block D (Array.getElem?_eq_some_iff.1 HHK.out).1).trans HHK.out
                  have hr' := (hS.block (w.heap.size + 1) (by omega)).trans HH1.out
                  have HF4' := Lib.hid hf4'
                  have HK' := Lib.hid hk'
                  have HR' := Lib.hid hr'
                  clear hf4' hk' hr'
                  go_wp2_with (first
                    | (refine wpList_load_row rfl 34 _ rfl (w.heap.size + 1) rfl 34 #[.int .i64 (x0 : Int), .slice A2 m c2] (0, 0) _ HR'.out Try.underlying34 rfl s34 ?_)
                    | (refine wpList_store_row rfl 34 _ _ rfl w.heap.size #[.int .i64 (x0 : Int), .slice A2 m c2] rfl rfl 34 _ HF4'.out s34 rfl (ones_rec _ _ _ _) ?_) | fail)
                  rw [HQ.out]
                  have hfin := parseR_ok (c := c2) (HE0.out HN.out) (by rw [HRP.out.1]; exact (HRP.out.more hS).leave w.heap.size D _ _ #[.int .i64 (x0 : Int), .slice A2 m c2] (.deferred none) HF4'.out HK'.out) (below_put (.deferred none) (below_setRow (hWw.trans (hS.mono (by omega))) (Nat.le_refl _) #[.int .i64 (x0 : Int), .slice A2 m c2]) (by omega : w.heap.size ≤ D))
                  rw [HRP.out.1, HX0.out] at hfin
                  exact parse_leave ws l w _ D _ _ _ 0 (by omega) ((setRow_other _ _ _ _ (by omega)).trans HK'.out) (setRow_heap _ _ _ _ _ _ HF4'.out) (by rfl) (by rfl) hfin

          · have HN := Lib.hid (show parseOk ws l = false by rw [hpok.out, HSh.out, decide_eq_false h5, Bool.and_false, Bool.and_false, Bool.false_and])
            have h5' : (N : Int) < 2 + 9 * (m : Int) + 1 := by omega
            go_wp2_with (first
              | (go_at_call 39; refine (hx _).mono ?_; rintro e w1 ⟨rfl, rfl⟩)
              | fail)
            exact HFin.out _ ((Below.heap_alloc _ _ _ (by simp)).trans (heap_alloc_new w _)) (((Below.refl _ w).alloc (Nat.le_refl _) _).alloc (by simp) _) HN.out _ rfl rfl
        · have d4 : decide ((12 : Int) < (m : Int)) = true := decide_eq_true (by omega)
          have HN := Lib.hid (show parseOk ws l = false by rw [hpok.out, HSh.out, decide_eq_false h4, Bool.false_and, Bool.and_false, Bool.false_and])
          go_wp2_with (first
            | (go_at_call 39; refine (hx _).mono ?_; rintro e w1 ⟨rfl, rfl⟩)
            | fail)
          exact HFin.out _ (heap_alloc_new w _) ((Below.refl _ w).alloc (Nat.le_refl _) _) HN.out _ rfl rfl
      · have d3 : decide ((1073741824 : Int) ≤ (x0 : Int)) = true := decide_eq_true (by omega)
        have HN := Lib.hid (show parseOk ws l = false by rw [hpok.out, HSh.out, decide_eq_false h3', Bool.false_and, Bool.false_and])
        go_wp2_with (first
          | (go_at_call 39; refine (hx _).mono ?_; rintro e w1 ⟨rfl, rfl⟩)
          | fail)
        exact HFin.out _ (heap_alloc_new w _) ((Below.refl _ w).alloc (Nat.le_refl _) _) HN.out _ rfl rfl
    · have c2 : (N : Int) < 2 := by omega
      have HN := Lib.hid (show parseOk ws l = false by unfold parseOk shapeOk; rw [decide_eq_false (by omega), Bool.false_and, Bool.false_and])
      go_wp2_with (first
        | (go_at_call 39; refine (hx _).mono ?_; rintro e w1 ⟨rfl, rfl⟩)
        | fail)
      exact HFin.out _ (heap_alloc_new w _) ((Below.refl _ w).alloc (Nat.le_refl _) _) HN.out _ rfl rfl
end Go.Proofs.Ytmeppeadfhifeaa
