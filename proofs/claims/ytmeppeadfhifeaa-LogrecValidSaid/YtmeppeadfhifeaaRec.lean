/- Pages as nine cells, slices of pages, and the laws on loading and comparing them. No condition. -/
import Derived.Test.YtmeppeadfhifeaaCrc
import Derived.Deep.MidRow
namespace Go.Proofs.Ytmeppeadfhifeaa
open Go.RowKit
set_option linter.unusedVariables false
set_option linter.unusedSimpArgs false

structure Pg where
  line : Int
  head : Nat
  d : Nat → Nat

def Pg.cells (p : Pg) : Array Value := #[.int .i64 p.line, .int .u64 (p.head : Int), .int .u64 (p.d 0 : Int), .int .u64 (p.d 1 : Int), .int .u64 (p.d 2 : Int), .int .u64 (p.d 3 : Int), .int .u64 (p.d 4 : Int), .int .u64 (p.d 5 : Int), .int .u64 (p.d 6 : Int)]
def Pg.ok (p : Pg) : Prop := -9223372036854775808 ≤ p.line ∧ p.line ≤ 9223372036854775807 ∧ p.head < 18446744073709551616 ∧ ∀ k, k < 7 → p.d k < 18446744073709551616
def sameP (p q : Pg) : Bool := p.line == q.line && p.head == q.head && p.d 0 == q.d 0 && p.d 1 == q.d 1 && p.d 2 == q.d 2 && p.d 3 == q.d 3 && p.d 4 == q.d 4 && p.d 5 == q.d 5 && p.d 6 == q.d 6

theorem info49 : (Try.prog.info? 49).map (fun i => (i.zero, i.size, i.bytes)) = some (some (.agg #[.int .i64 0, .int .u64 0, .int .u64 0, .int .u64 0, .int .u64 0, .int .u64 0, .int .u64 0, .int .u64 0, .int .u64 0]), 9, 72) := by kernel_rfl
theorem size49 : (Try.prog.info? 49).map (·.size) = some 9 := by kernel_rfl
theorem eqn_cast (a b : Nat) : ((a : Int) == (b : Int)) = (a == b) := by rw [Bool.eq_iff_iff, beq_iff_eq, beq_iff_eq]; omega

theorem run_all {P : Program} (pa pb : Nat → Sem Value) (eq : Value → Value → Sem Bool) (g : Nat → Bool) (w : World) : ∀ (l : List Nat),
    (∀ i ∈ l, ∃ x y, (pa i).run P w = .ok x w ∧ (pb i).run P w = .ok y w ∧ (eq x y).run P w = .ok (g i) w) →
    (Sem.run P (forIn l ((none : Option Bool), ()) fun i _ => do
      let a ← pa i
      let b ← pb i
      let r ← eq a b
      if (!r) = true then pure (ForInStep.done (some false, ())) else pure (ForInStep.yield (none, ()))) w) = .ok (if l.all g = true then (none, ()) else (some false, ())) w
  | [], _ => by simp
  | i :: l, h => by
    obtain ⟨x, y, h1, h2, h3⟩ := h i (by simp)
    have ih := run_all pa pb eq g w l (fun j hj => h j (by simp [hj]))
    simp only [List.forIn_cons, Sem.run_bind, h1, h2, h3, Result.andThen_ok]
    cases hg : g i
    · simp [hg]
    · simp only [Bool.not_true, Bool.false_eq_true, if_false, Sem.run_pure, Result.andThen_ok]
      rw [ih]
      simp [hg]

theorem run_eq47 (w : World) (D : Nat) (he : ∀ (w : World) (a b : Int), (Op.equalIn D 23 (.int .u64 a) (.int .u64 b)).run Try.prog w = .ok (a == b) w) (x0 x1 x2 x3 x4 x5 x6 y0 y1 y2 y3 y4 y5 y6 : Int) :
    (Op.equalIn (D + 1) 47 (.agg #[.int .u64 x0, .int .u64 x1, .int .u64 x2, .int .u64 x3, .int .u64 x4, .int .u64 x5, .int .u64 x6]) (.agg #[.int .u64 y0, .int .u64 y1, .int .u64 y2, .int .u64 y3, .int .u64 y4, .int .u64 y5, .int .u64 y6])).run Try.prog w =
      .ok (x0 == y0 && x1 == y1 && x2 == y2 && x3 == y3 && x4 == y4 && x5 == y5 && x6 == y6) w := by
  have hu := Try.underlying47
  have hz : ∀ w, (sizeOf 23).run Try.prog w = .ok 1 w := fun w => by kernel_rfl
  have ha : ∀ w, (isAgg 23).run Try.prog w = .ok false w := fun w => by kernel_rfl
  simp only [Op.equalIn, Sem.run_bind, run_underlying hu, Result.andThen_ok, hz]
  simp only [Std.Legacy.Range.forIn_eq_forIn_range', Std.Legacy.Range.size, Nat.sub_zero, Nat.add_sub_cancel, Nat.div_one]
  rw [run_all (fun i => part 23 #[.int .u64 x0, .int .u64 x1, .int .u64 x2, .int .u64 x3, .int .u64 x4, .int .u64 x5, .int .u64 x6] (i * 1)) (fun i => part 23 #[.int .u64 y0, .int .u64 y1, .int .u64 y2, .int .u64 y3, .int .u64 y4, .int .u64 y5, .int .u64 y6] (i * 1))
    (fun a b => Op.equalIn D 23 a b) (fun i => [x0, x1, x2, x3, x4, x5, x6].getD i 0 == [y0, y1, y2, y3, y4, y5, y6].getD i 0) w (List.range' 0 7) ?_]
  · simp only [List.range'_succ, List.range'_zero, List.all_cons, List.all_nil, Bool.and_true, Nat.zero_add, Nat.reduceAdd, List.getD_cons_zero, List.getD_cons_succ]
    split
    · rename_i h
      simp only [Bool.and_assoc]
      rw [h]; rfl
    · rename_i h
      simp only [Bool.and_assoc]
      rw [Bool.eq_false_iff.2 h]; rfl
  · intro i hi
    have hi7 : i < 7 := by simpa using List.mem_range'_1.1 hi
    match i, hi7 with
    | 0, _ => exact ⟨_, _, by simp [part, ha], by simp [part, ha], he w _ _⟩
    | 1, _ => exact ⟨_, _, by simp [part, ha], by simp [part, ha], he w _ _⟩
    | 2, _ => exact ⟨_, _, by simp [part, ha], by simp [part, ha], he w _ _⟩
    | 3, _ => exact ⟨_, _, by simp [part, ha], by simp [part, ha], he w _ _⟩
    | 4, _ => exact ⟨_, _, by simp [part, ha], by simp [part, ha], he w _ _⟩
    | 5, _ => exact ⟨_, _, by simp [part, ha], by simp [part, ha], he w _ _⟩
    | 6, _ => exact ⟨_, _, by simp [part, ha], by simp [part, ha], he w _ _⟩

theorem fields49 : Try.prog.underlying 49 = some (.struct (Try.prog.fieldsOf 49)) := by kernel_rfl
theorem run_neq49 (w : World) (p q : Pg) : (binOp .neq 49 (.agg p.cells) (.agg q.cells)).run Try.prog w = .ok (.bool (!sameP p q)) w := by
  have hin : Try.prog.stoodInHeld 49 = false := by kernel_rfl
  have he : ∀ (d : Nat) (w : World) (a b : Int), (Op.equalIn (d + 1) 23 (.int .u64 a) (.int .u64 b)).run Try.prog w = .ok (a == b) w := fun d w a b => run_equalIn_int (P := Try.prog) w d 23 .u64 .u64 a b Try.underlying23
  have h3 : ∀ (d : Nat) (w : World) (a b : Int), (Op.equalIn (d + 1) 3 (.int .i64 a) (.int .i64 b)).run Try.prog w = .ok (a == b) w := fun d w a b => run_equalIn_int (P := Try.prog) w d 3 .i64 .i64 a b Try.underlying3
  have hs := run_equalIn_struct (P := Try.prog) w 9999 49 p.cells q.cells fields49 hin
  have e : (Op.equalIn 10000 49 (.agg p.cells) (.agg q.cells)).run Try.prog w = .ok (sameP p q) w := by
    rw [show (10000 : Nat) = 9999 + 1 from rfl, hs]
    have a3 : ∀ w, (isAgg 3).run Try.prog w = .ok false w := fun w => by kernel_rfl
    have a23 : ∀ w, (isAgg 23).run Try.prog w = .ok false w := fun w => by kernel_rfl
    have a47 : ∀ w, (isAgg 47).run Try.prog w = .ok true w := fun w => by kernel_rfl
    have z47 : ∀ w, (sizeOf 47).run Try.prog w = .ok 7 w := fun w => by kernel_rfl
    have p0 : ∀ (p : Pg) w, (part 3 p.cells 0).run Try.prog w = .ok (.int .i64 p.line) w := fun p w => by simp [part, a3, Pg.cells]
    have p1 : ∀ (p : Pg) w, (part 23 p.cells 1).run Try.prog w = .ok (.int .u64 (p.head : Int)) w := fun p w => by simp [part, a23, Pg.cells]
    have p2 : ∀ (p : Pg) w, (part 47 p.cells 2).run Try.prog w = .ok (.agg #[.int .u64 (p.d 0 : Int), .int .u64 (p.d 1 : Int), .int .u64 (p.d 2 : Int), .int .u64 (p.d 3 : Int), .int .u64 (p.d 4 : Int), .int .u64 (p.d 5 : Int), .int .u64 (p.d 6 : Int)]) w := fun p w => by
      simp [part, a47, z47, Pg.cells]
    have e47 := fun (w : World) (x0 x1 x2 x3 x4 x5 x6 y0 y1 y2 y3 y4 y5 y6 : Int) => run_eq47 w 9998 (he 9997) x0 x1 x2 x3 x4 x5 x6 y0 y1 y2 y3 y4 y5 y6
    have h39 := h3 9998
    have h239 := he 9998
    rw [show (9998 : Nat) + 1 = 9999 from rfl] at h39 h239
    generalize hD : (9999 : Nat) = D at *
    rw [show (9998 : Nat) + 1 = D from hD] at e47
    simp only [Program.fieldsOf, Try.underlying49, Op.eqFields, Sem.run_bind, p0, p1, p2, Result.andThen_ok, h39, h239, e47, Sem.run_ite, Sem.run_pure]
    rw [if_pos (show "Line" ≠ "_" by decide), if_pos (show "Head" ≠ "_" by decide), if_pos (show "Data" ≠ "_" by decide)]
    simp only [eqn_cast]
    have hsp : sameP p q = (p.line == q.line && (p.head == q.head && (p.d 0 == q.d 0 && p.d 1 == q.d 1 && p.d 2 == q.d 2 && p.d 3 == q.d 3 && p.d 4 == q.d 4 && p.d 5 == q.d 5 && p.d 6 == q.d 6))) := by
      unfold sameP; simp only [Bool.and_assoc]
    rw [hsp]
    generalize (p.d 0 == q.d 0 && p.d 1 == q.d 1 && p.d 2 == q.d 2 && p.d 3 == q.d 3 && p.d 4 == q.d 4 && p.d 5 == q.d 5 && p.d 6 == q.d 6) = b2
    generalize (p.head == q.head) = b1
    generalize (p.line == q.line) = b0
    cases b0 <;> cases b1 <;> cases b2 <;> rfl
  simp only [binOp, Op.equal, Op.maxDepth, Sem.run_bind, e, Result.andThen_ok, Sem.run_pure]

/-! Loading an array or struct from any address. -/
theorem run_loadAt_addr {P : Program} (w : World) (ad : Addr) (ty : TypeId) (cs : Array Value) (d : TypeDesc) (hc : ∀ j v, cs[j]? = some v → w.cell? (ad.add j) = some v)
    (hu : P.underlying ty = some d) (hd : d.isRow = true) (hi : (P.info? ty).map (·.size) = some cs.size) : (Instr.loadAt ty (.pointer (some ad))).run P w = .ok (.agg cs) w := by
  have hl : (loadCells ad cs.toList.length).run P w = .ok cs.toList.toArray w := run_loadCells_list (P := P) w ad cs.toList (fun j v hv => hc j v (by simpa using hv))
  cases hq : P.info? ty with
  | none => simp [hq] at hi
  | some i =>
    have hs : i.size = cs.size := by simpa [hq] using hi
    have hagg : (isAgg ty).run P w = .ok true w := by
      unfold isAgg
      rw [Sem.run_bind, run_underlying hu w]
      cases d <;> simp_all
    simp only [Array.length_toList, Array.toArray_toList] at hl
    simp [Instr.loadAt, Instr.sureAddr, loadVar, Sem.run_bind, hagg, sizeOf, typeInfo, hq, hs, hl]

theorem wpList_load_addr {P : Program} {ops : Array Oper} {rest : List Oper} {op : Oper} {a : Act} {w : World} {Q : Exit → Act → World → Prop} (hgd : op.guard = none) (ty : TypeId) (x : Operand) (ho : op.op = .load ty x)
    (ad : Addr) (hx : a.eval x = .pointer (some ad)) (cs : Array Value) (d : TypeDesc) (hc : ∀ j v, cs[j]? = some v → w.cell? (ad.add j) = some v)
    (hu : P.underlying ty = some d) (hd : d.isRow = true) (hi : (P.info? ty).map (·.size) = some cs.size)
    (h : wpList P ops Q rest (a.put op.dst (.agg cs)) w) : wpList P ops Q (op :: rest) a w :=
  wpList_plain hgd fun _ hK => by
    unfold Oper.wp execOp
    simp only [ho, hx, Sem.run_bind, Sem.run_pure, Result.andThen_ok, run_loadAt_addr w ad ty cs d hc hu hd hi]
    exact hK _ _ h

theorem quiet_load {P : Program} {op : Oper} {a : Act} {C : World → Prop} {K : Act → Prop} (ty : TypeId) (x : Operand) (ho : op.op = .load ty x) (ad : Addr) (hx : a.eval x = .pointer (some ad)) (cs : Array Value) (d : TypeDesc)
    (hc : ∀ w, C w → ∀ j v, cs[j]? = some v → w.cell? (ad.add j) = some v) (hu : P.underlying ty = some d) (hd : d.isRow = true) (hi : (P.info? ty).map (·.size) = some cs.size)
    (hk : K (a.put op.dst (.agg cs))) : op.quiet P a C K :=
  ⟨_, fun w hw => by
    unfold Oper.quietAt execOp
    simp only [ho, hx, Sem.run_bind, Sem.run_pure, Result.andThen_ok, run_loadAt_addr w ad ty cs d (hc w hw) hu hd hi]
    exact ⟨rfl, rfl⟩, hk⟩

theorem below_drewN {B : Nat} {w w' : World} (h : Below B w w') (n : Nat) : Below B w (w'.drewN n) := ⟨h.os, h.tape, h.output, h.size, h.block⟩

/-- The slice (address A, n elements) reads as the pages ps. -/
def ReadsP (w : World) (A : Option Addr) (n : Nat) (ps : List Pg) : Prop :=
  ps.length = n ∧ (n : Int) ≤ 1000000 ∧ (∀ p ∈ ps, p.ok) ∧ ∀ k, k < n → ∃ b o, A = some ⟨b, o, none⟩ ∧ b < w.heap.size ∧ ∀ p, ps[k]? = some p → ∀ j v, p.cells[j]? = some v → w.cell? ⟨b, o + k * 9 + j, none⟩ = some v
theorem ReadsP.more {w w' : World} {A : Option Addr} {n : Nat} {ps : List Pg} (h : ReadsP w A n ps) (hb : Below w.heap.size w w') : ReadsP w' A n ps :=
  ⟨h.1, h.2.1, h.2.2.1, fun k hk => by
    obtain ⟨b, o, e, hlt, hc⟩ := h.2.2.2 k hk
    exact ⟨b, o, e, Nat.lt_of_lt_of_le hlt hb.size, fun p hp j v hv => (hb.cell (p := ⟨b, _, none⟩) hlt).trans (hc p hp j v hv)⟩⟩
theorem ReadsP.nil (w : World) : ReadsP w none 0 [] := ⟨rfl, by omega, fun _ h => by simp at h, fun k hk => by omega⟩
end Go.Proofs.Ytmeppeadfhifeaa
