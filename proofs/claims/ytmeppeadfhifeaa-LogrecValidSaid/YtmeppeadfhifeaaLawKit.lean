/- What the walks of the laws share: appending, rows of words that the call owns, parsing with its answer known. No condition. -/
import Derived.Test.YtmeppeadfhifeaaAwake
import Derived.Test.YtmeppeadfhifeaaOpen
import Derived.Test.YtmeppeadfhifeaaLog
namespace Go.Proofs.Ytmeppeadfhifeaa
open Go.RowKit Go.Shelf
set_option linter.unusedVariables false
set_option linter.unusedSimpArgs false

theorem wpList_append_nil {P : Program} {ops : Array Oper} {rest : List Oper} {o : Oper} {a : Act} {w : World} {Q : Exit → Act → World → Prop} (hgd : o.guard = none) (s x : Operand) (t : TypeId)
    (ho : o.op = .call { callee := .builtin .append, args := #[s, x], argTypes := #[t, t] }) (e : TypeId) (size : Nat) (ht : P.underlying t = some (.slice e)) (hi : (P.info? e).map (·.size) = some size)
    (A : Option Addr) (n c : Nat) (hs : a.eval s = .slice A n c) (hc : n ≤ c) (hx : a.eval x = .slice none 0 0) (h : wpList P ops Q rest (a.put o.dst (.slice A n c)) w) : wpList P ops Q (o :: rest) a w :=
  wpList_plain hgd fun _ hK => by
    unfold Oper.wp execOp
    simp only [ho, resolve, invoke, builtin, Sem.run_bind, Sem.run_pure, Result.andThen_ok, List.map_toArray, List.map_cons, List.map_nil, hs, hx, run_append_nil w t o.type e size ht hi A n c hc]
    exact hK _ _ h
theorem reads_wcells {w : World} {ad : Addr} {n : Nat} {ws : List Nat} (h : ReadsW w (some ad) n ws) : ∀ j u, (wcells ws)[j]? = some u → w.cell? (ad.add j) = some u := by
  intro j u hj
  have hjl : j < ws.length := by
    have := (List.getElem?_eq_some_iff.1 hj).1
    rwa [wcells_length] at this
  rw [h.at j (by have := h.1; omega), ← hj, wcells, List.getElem?_map, List.getD_eq_getElem?_getD, List.getElem?_eq_getElem hjl]
  rfl
theorem wcells_one (ws : List Nat) : ∀ u ∈ wcells ws, u.oneCell' = true := by
  intro u hu
  obtain ⟨x, _, rfl⟩ := List.mem_map.1 hu
  rfl
theorem own_set {w : World} {base n c g k x : Nat} {ws : List Nat} (h : w.ownsRow base 23 1 (.slice (some ⟨g, 0, none⟩) n c) n (wcells ws)) (hk : k < n) :
    (w.setCell ⟨g, k, none⟩ (.int .u64 (x : Int))).ownsRow base 23 1 (.slice (some ⟨g, 0, none⟩) n c) n (wcells (ws.set k x)) := by
  refine ⟨by have := h.1; simpa [wcells] using this, ?_⟩
  rcases h.2 with ⟨hv, _⟩ | ⟨g', cap, cur, hv, hb, hg, hnc, hcm, hcs, ht⟩
  · cases hv
  · cases hv
    refine .inr ⟨g, c, cur.setIfInBounds k (.int .u64 (x : Int)), rfl, hb, heap_setCell_same w g k cur 23 _ hg, hnc, hcm, by simpa using hcs, ?_⟩
    rw [Array.toList_setIfInBounds, List.take_set, ht]
    simp only [wcells, List.map_set]
theorem own_frozen {w : World} {base n c g k : Nat} {xs : List Value} (h : w.ownsRow base 23 1 (.slice (some ⟨g, 0, none⟩) n c) n xs) : w.frozen? ⟨g, k, none⟩ = false := by
  rcases h.2 with ⟨hv, _⟩ | ⟨g', cap, cur, hv, _, hg, _⟩
  · cases hv
  · cases hv
    simp [World.frozen?, hg]
theorem own_word {w : World} {base n c g k : Nat} {ws : List Nat} (h : w.ownsRow base 23 1 (.slice (some ⟨g, 0, none⟩) n c) n (wcells ws)) (hk : k < n) : w.cell? ⟨g, k, none⟩ = some (.int .u64 ((ws.getD k 0 : Nat) : Int)) := by
  have hl : ws.length = n := by have := h.1; simpa [wcells] using this
  rw [h.cellAt k (by omega)]
  have := wcells_at ws k (by omega)
  simpa using this
theorem good_valid (s l : Int) (ps : List Pg) (hl : 98 ≤ l ∧ l ≤ 256) (hs : 1 ≤ s ∧ s ≤ 1000) (hp : 1 ≤ ps.length) (hg : Good l ps) : validN s ps l = 0 :=
  validN_of s ps l hl (by omega) ⟨hp, hg.2.1⟩ (fun p hm => ⟨(hg.2.2 p hm).2.1, (hg.2.2 p hm).2.2.1⟩) hg.1 (List.all_eq_true.2 fun p hm => (hg.2.2 p hm).2.2.2)


theorem run_append_src {P : Program} (w : World) (t ty e : TypeId) (base : Nat) (i : TypeInfo) (z : Value) (size bytes : Nat) (ht : P.underlying t = some (.slice e)) (hi : P.info? e = some i) (hz : i.zero = some z)
    (hsize : i.size = size) (hby : i.bytes = bytes) (hzs : z.cells.size = size) (hsz : 0 < size) (v : Value) (n : Nat) (xs : List Value) (hown : w.ownsRow base e size v n xs)
    (A : Option Addr) (m c : Nat) (news : List Value) (hA : (A = none ∧ m = 0 ∧ c = 0) ∨ ∃ ad, A = some ad ∧ ∀ j u, news[j]? = some u → w.cell? (ad.add j) = some u) (hl : news.length = m * size) (h1 : ∀ u ∈ news, u.oneCell' = true)
    (N : Nat) (hN : n + m = N) (h63 : N ≤ maxLen) (hbytes : N * bytes ≤ 140737488355328) (hbase : base ≤ w.heap.size) :
    ∃ v' w', (Builtin.append_ #[t, t] ty #[v, .slice A m c]).run P w = .ok v' w' ∧ w'.ownsRow base e size v' N (xs ++ news) ∧ w.grownBy w' v.ownBlock ∧ (v'.ownBlock = v.ownBlock ∨ v'.ownBlock = some w.heap.size) := by
  subst hN
  rcases hA with ⟨rfl, rfl, rfl⟩ | ⟨ad, rfl, hnews⟩
  · obtain rfl : news = [] := List.eq_nil_of_length_eq_zero (by omega)
    refine ⟨v, w, ?_, by simpa using hown, World.grownBy.refl _ _, .inl rfl⟩
    have hsz' : (P.info? e).map (·.size) = some size := by rw [hi, ← hsize]; rfl
    rcases hown.2 with ⟨rfl, h0⟩ | ⟨g, cap, cur, rfl, _, _, hnc, _⟩
    · subst h0; exact run_append_nil w t ty e size ht hsz' none 0 0 (Nat.le_refl _)
    · exact run_append_nil w t ty e size ht hsz' _ n cap hnc
  · obtain ⟨v', w', hr, h2, h3, _, h5⟩ := run_append_own_at (P := P) w base t ty e i z size bytes ht hi hz hsize hby hzs hsz v n xs hown ad m c news hl hnews h1 h63 hbytes hbase
    exact ⟨v', w', hr, h2, h3, h5⟩
theorem wpList_append_src {P : Program} {ops : Array Oper} {rest : List Oper} {o : Oper} {a : Act} {w : World} {Q : Exit → Act → World → Prop} (hgd : o.guard = none) (s x : Operand) (t : TypeId)
    (ho : o.op = .call { callee := .builtin .append, args := #[s, x], argTypes := #[t, t] }) (e : TypeId) (base : Nat) (i : TypeInfo) (z : Value) (size bytes : Nat) (ht : P.underlying t = some (.slice e)) (hi : P.info? e = some i) (hz : i.zero = some z)
    (hsize : i.size = size) (hby : i.bytes = bytes) (hzs : z.cells.size = size) (hsz : 0 < size) (v : Value) (n : Nat) (xs : List Value) (hs : a.eval s = v) (hown : w.ownsRow base e size v n xs)
    (A : Option Addr) (m c : Nat) (news : List Value) (hx : a.eval x = .slice A m c) (hA : (A = none ∧ m = 0 ∧ c = 0) ∨ ∃ ad, A = some ad ∧ ∀ j u, news[j]? = some u → w.cell? (ad.add j) = some u) (hl : news.length = m * size) (h1 : ∀ u ∈ news, u.oneCell' = true)
    (N : Nat) (hN : n + m = N) (h63 : N ≤ maxLen) (hbytes : N * bytes ≤ 140737488355328) (hbase : base ≤ w.heap.size)
    (h : ∀ v' w', w'.ownsRow base e size v' N (xs ++ news) → w.grownBy w' v.ownBlock → (v'.ownBlock = v.ownBlock ∨ v'.ownBlock = some w.heap.size) → wpList P ops Q rest (a.put o.dst v') w') : wpList P ops Q (o :: rest) a w :=
  wpList_plain hgd fun _ hK => by
    obtain ⟨v', w', hr, h2, h3, h5⟩ := run_append_src (P := P) w t o.type e base i z size bytes ht hi hz hsize hby hzs hsz v n xs hown A m c news hA hl h1 N hN h63 hbytes hbase
    unfold Oper.wp execOp
    simp only [ho, resolve, invoke, builtin, Sem.run_bind, Sem.run_pure, Result.andThen_ok, List.map_toArray, List.map_cons, List.map_nil, hs, hx, hr]
    exact hK _ _ (h v' w' h2 h3 h5)
/-- What is appended, out of a slice of words. -/
theorem words_src {w : World} {A : Option Addr} {n c : Nat} {ws : List Nat} (h : ReadsW w A n ws) (hc : A = none → n = 0 ∧ c = 0) : (A = none ∧ n = 0 ∧ c = 0) ∨ ∃ ad, A = some ad ∧ ∀ j u, (wcells ws)[j]? = some u → w.cell? (ad.add j) = some u := by
  cases A with
  | none => exact .inl ⟨rfl, hc rfl⟩
  | some ad => exact .inr ⟨ad, rfl, reads_wcells h⟩
theorem isrow_none {k : IntKind} {w : World} {a : Option Addr} {len cap : Nat} {zs : List Int} (h : IsRow k w a len cap zs) : a = none → len = 0 ∧ cap = 0 := by
  intro e
  rcases h with ⟨_, h1, h2, _⟩ | ⟨_, h1, _⟩
  · exact ⟨h1, h2⟩
  · rw [e] at h1; cases h1
/-- An append to nothing, or to a row of its own, leaves what lay before it. -/
theorem below_nil {w w' : World} (hg : w.grownBy w' none) : Below w.heap.size w w' := (Below.refl _ w).grown hg (Nat.le_refl _) (fun k e => by cases e)

/-- Parsing, its answer known. -/
def ParsedAs (F : FuncId) (s : Int) (ps : List Pg) (e0 : Int) (n : Nat) (ws : List Nat) (l : Int) : Prop :=
  ∀ (W : World) (A : Option Addr) (c : Nat), ReadsW W A n ws → n ≤ c → Calls Try.prog F #[.slice A n c, .int .i64 l] W fun e w' => (∃ A' c', e = .returned (.tuple #[.agg #[.int .i64 s, .slice A' ps.length c'], .int .i64 e0]) ∧ ReadsP w' A' ps.length ps) ∧ Below W.heap.size W w'
theorem parsed (l : Int) (n : Nat) (ws : List Nat) (s : Int) (ps : List Pg) (e0 : Int) (hs : parseS ws l = s) (hp : parseP ws l = ps) (he : parseE ws l = e0) : ParsedAs 27 s ps e0 n ws l := by
  intro W A c hr hc
  have h := parse_x l n c A ws W hr hc
  unfold ParseR at h
  rw [hs, hp, he] at h
  exact h
theorem rparsed (l : Int) (n : Nat) (ws : List Nat) (s : Int) (ps : List Pg) (e0 : Int) (hs : parseS ws l = s) (hp : parseP ws l = ps) (he : parseE ws l = e0) : ParsedAs 28 s ps e0 n ws l := by
  intro W A c hr hc
  have h := refparse_x l n c A ws W hr hc
  unfold ParseR at h
  rw [hs, hp, he] at h
  exact h
theorem parse_not (ws : List Nat) (l : Int) (e0 : Int) (h : parseE ws l = e0) (h0 : e0 ≠ 0) : parseS ws l = 0 ∧ parseP ws l = [] :=
  ⟨by unfold parseS; rw [if_neg (by rw [h]; exact h0)], by unfold parseP; rw [if_neg (by rw [h]; exact h0)]⟩
theorem parse_ok_of (ws : List Nat) (l : Int) (h : parseE ws l = 0) : parseOk ws l = true := by
  unfold parseE at h
  split at h
  · cases h
  · split at h
    · assumption
    · cases h
/-- What a valid record's body is. -/
theorem body_facts (s l : Int) (ps : List Pg) (h : validN s ps l = 0) : (bodyN s ps).length = 3 + 9 * ps.length ∧ (bodyN s ps).getD 1 0 = ps.length ∧ (bodyN s ps).getD 0 0 = s.toNat ∧
    (bodyN s ps).getD (2 + 9 * ps.length) 0 = Crc.words ((bodyN s ps).take (2 + 9 * ps.length)) ∧ parseE (bodyN s ps) l = 0 := by
  have hp := parse_body s ps l [] h
  rw [List.append_nil] at hp
  have hb := bodyN_eq s ps (validN_256 _ _ _ h)
  have h1 : (bodyN s ps).getD 1 0 = ps.length := by rw [hb]; rfl
  have h0 : (bodyN s ps).getD 0 0 = s.toNat := by rw [hb]; rfl
  have h2 := (parse_ok_sum _ l (parse_ok_of _ l hp.1)).2
  rw [h1] at h2
  exact ⟨bodyN_length s ps (validN_256 _ _ _ h), h1, h0, h2, hp.1⟩
/-- Body, of a record that is valid: a row of the call's own. -/
theorem body_o (F : FuncId) (hF : F = 22 ∨ F = 26) (s : Int) (n cap : Nat) (A : Option Addr) (ps : List Pg) (w : World) (hp : ReadsP w A n ps) (N : Nat) (hN : (bodyN s ps).length = N) (h0 : 0 < N) :
    Calls Try.prog F #[.agg #[.int .i64 s, .slice A n cap]] w fun e w' => ∃ g c, e = .returned (.slice (some ⟨g, 0, none⟩) N c) ∧ w.heap.size ≤ g ∧ g < w'.heap.size ∧ N ≤ c ∧ w'.ownsRow w.heap.size 23 1 (.slice (some ⟨g, 0, none⟩) N c) N (wcells (bodyN s ps)) ∧ ReadsW w' (some ⟨g, 0, none⟩) N (bodyN s ps) ∧ Below w.heap.size w w' := by
  subst hN
  have hbo := bodyN_ok s ps hp.2.2.1
  have fin : ∀ (e : Ending) (w' : World), ((∃ v, e = .returned v ∧ w'.ownsRow w.heap.size 23 1 v (bodyN s ps).length (wcells (bodyN s ps))) ∧ Below w.heap.size w w') → ∃ g c, e = .returned (.slice (some ⟨g, 0, none⟩) (bodyN s ps).length c) ∧ w.heap.size ≤ g ∧ g < w'.heap.size ∧ (bodyN s ps).length ≤ c ∧ w'.ownsRow w.heap.size 23 1 (.slice (some ⟨g, 0, none⟩) (bodyN s ps).length c) (bodyN s ps).length (wcells (bodyN s ps)) ∧ ReadsW w' (some ⟨g, 0, none⟩) (bodyN s ps).length (bodyN s ps) ∧ Below w.heap.size w w' := by
    rintro e w' ⟨⟨v, rfl, ho⟩, hb⟩
    obtain ⟨g, c, rfl, hg, hgl⟩ := ho.form h0
    obtain ⟨A', c', e', hr⟩ := own_readsW ho hbo.1 (by have := hbo.2; omega)
    cases e'
    exact ⟨g, c, rfl, hg, hgl, own_cap ho, ho, hr, hb⟩
  rcases hF with rfl | rfl
  · exact (body_x s n cap A ps w hp).mono fin
  · exact (refbody_x s n cap A ps w hp).mono fin
end Go.Proofs.Ytmeppeadfhifeaa
