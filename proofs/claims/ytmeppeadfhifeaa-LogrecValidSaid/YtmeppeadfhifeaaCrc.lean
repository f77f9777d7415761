/- The contracts of package crc and of its reference, and how slices of bytes and words read: as in the crc seat, at this translation's numbers. Conditions: the slices read as bytes, as words. -/
import Derived.Test.YtmeppeadfhifeaaProg
import Derived.Test.YtmeppeadfhifeaaMath
import Derived.Test.YtmeppeadfhifeaaWordsMath
import Derived.WalkKit
import Derived.WalkSpells
import Derived.WalkLawsBesides
import Derived.Deep.LoopGhost
import Derived.Deep.WholeRow
import Derived.Deep.QuietTactic
import Derived.BigQuiet
import Derived.Lib.Hide
import Derived.OpenShut
namespace Go.Proofs.Ytmeppeadfhifeaa
open Go.RowKit
set_option linter.unusedVariables false
set_option linter.unusedSimpArgs false

/-- The table's cells when the first k are laid. -/
def tcells : Nat → Array Value
  | 0 => Array.replicate 256 (.int .u64 0)
  | k + 1 => (tcells k).setIfInBounds k (.int .u64 (Crc.tab k))
theorem tcells_size (k : Nat) : (tcells k).size = 256 := by
  induction k with
  | zero => simp [tcells]
  | succ k ih => simp [tcells, ih]
theorem tcells_at (k j : Nat) (h : j < 256) : (tcells k)[j]? = some (.int .u64 (if j < k then (Crc.tab j : Int) else 0)) := by
  induction k with
  | zero => simp [tcells, h]
  | succ k ih =>
    simp only [tcells, Array.getElem?_setIfInBounds, tcells_size]
    by_cases e : k = j
    · subst e; simp [h]
    · rw [if_neg e, ih]
      by_cases e2 : j < k
      · rw [if_pos e2, if_pos (by omega)]
      · rw [if_neg e2, if_neg (by omega)]
theorem tcells_one (k : Nat) : (tcells k).all (·.oneCell') = true := by
  refine Array.all_eq_true_iff_forall_mem.2 fun v hv => ?_
  obtain ⟨j, hj, rfl⟩ := Array.mem_iff_getElem.1 hv
  have h := tcells_at k j (by rw [tcells_size] at hj; exact hj)
  rw [Array.getElem?_eq_getElem hj] at h
  injection h with h
  rw [h]; rfl

theorem info91 : (Try.prog.info? 91).map (fun i => (i.zero, i.size)) = some (some (.agg (Array.replicate 256 (.int .u64 0))), 256) := by kernel_rfl

theorem wpList_store_new {P : Program} {ops : Array Oper} {rest : List Oper} {o : Oper} {a : Act} {Q : Exit → Act → World → Prop} (hgd : o.guard = none) (t : TypeId) (x y : Operand) (ho : o.op = .store t x y)
    (w : World) (g : Nat) (hgw : g = w.heap.size) (c c' : Array Value) (hx : a.eval x = .pointer (some ⟨g, 0, none⟩)) (hy : a.eval y = .agg c')
    (hi : (P.info? t).map (·.size) = some c'.size) (hs : c.size = c'.size) (h1 : c'.all (·.oneCell') = true)
    (h : wpList P ops Q rest (a.put o.dst undef) (w.alloc (.cells c' t))) : wpList P ops Q (o :: rest) a (w.alloc (.cells c t)) :=
  wpList_plain hgd fun _ hK => by
    subst hgw
    unfold Oper.wp execOp
    simp only [ho, hx, hy, Sem.run_bind, Sem.run_pure, Result.andThen_ok, run_storeAt_new w t c c' hi hs h1]
    exact hK _ _ h

set_option maxHeartbeats 1000000 in
set_option maxRecDepth 100000 in
theorem table_x (w : World) :
    Calls Try.prog 64 #[] w fun e w' => e = .returned (.agg (tcells 256)) ∧ w' = w.alloc (.cells (tcells 256) 91) := by
  obtain ⟨hz, hi⟩ := zero_of_info info91
  rw [show Array.replicate 256 (Value.int .u64 0) = tcells 0 from rfl] at hz
  go_enter Try.func64, Try.ntmps64
  go_wp2
  go_loopg [3] 256 (fun g s3 wx => ∃ k : Nat, k + g = 256 ∧ s3 = .int .i64 k ∧ wx = w.alloc (.cells (tcells k) 91))
  case atStart => exact ⟨0, by omega, rfl, rfl⟩
  case round =>
    obtain ⟨k, hk, rfl, rfl⟩ := hrel
    cases gk with
    | zero =>
      have hge : (256 : Int) ≤ (k : Int) := by omega
      have HK := Lib.hid hk
      clear hk
      have hi' : (Try.prog.info? 91).map (·.size) = some (tcells k).size := by rw [tcells_size]; exact hi
      clear hi hz
      go_wp2_with (first
        | (refine wpList_load_row rfl 91 _ rfl w.heap.size rfl 91 (tcells k) (0, 0) _ (heap_alloc_last w _) Try.underlying91 rfl hi' ?_)
        | (refine wpList_store_new rfl 91 _ _ rfl w _ rfl (tcells k) (tcells k) rfl rfl hi' rfl (tcells_one k) ?_))
      have hk : k = 256 := by have := HK.out; omega
      refine bodyPost_ret (v := .agg (tcells k)) (results_cell_row rfl _ _ w.heap.size 91 (tcells k) (0, 0) _ rfl (heap_alloc_last w _) Try.underlying91 rfl hi') rfl ⟨?_, ?_⟩
      · rw [hk]
      · rw [hk]
    | succ g =>
      have hlt : (k : Int) < 256 := by omega
      go_wp2
      go_loopg [2, 8] 8 (fun g2 r c wx => ∃ m : Nat, m + g2 = 8 ∧ c = .int .i64 m ∧ r = .int .u64 (Crc.stN m k : Nat) ∧ wx = w.alloc (.cells (tcells k) 91))
      case atStart => exact ⟨0, by omega, rfl, rfl, rfl⟩
      case round =>
        obtain ⟨m, hm, rfl, rfl, rfl⟩ := hrel
        cases gk with
        | zero =>
          obtain rfl : m = 8 := by omega
          have hcell := tcells_at k k (by omega)
          rw [if_neg (by omega)] at hcell
          go_wp2
          go_roundg g
          case measure => omega
          case rel => exact ⟨k + 1, by omega, by go_num, rfl⟩
        | succ g2 =>
          have hlt2 : (m : Int) < 8 := by omega
          have hr := Crc.stN_lt m k (by omega)
          by_cases hb : Crc.stN m k % 2 = 1
          · have ht := Crc.test_odd _ hr hb
            have HS := Lib.hid (Crc.st_odd _ hr hb)
            clear hb
            go_wp2
            go_roundg g2
            case measure => omega
            case rel => exact ⟨m + 1, by omega, by go_num, by rw [HS.out]; rfl, rfl⟩
          · have ht := Crc.test_even _ hr hb
            have HS := Lib.hid (Crc.st_even _ hb)
            clear hb
            go_wp2
            go_roundg g2
            case measure => omega
            case rel => exact ⟨m + 1, by omega, by go_num, by rw [HS.out]; rfl, rfl⟩

/-- The slice (address A, n elements) reads as the bytes bs. -/
def ReadsB (w : World) (A : Option Addr) (n : Nat) (bs : List Nat) : Prop :=
  bs.length = n ∧ Crc.Bytes bs ∧ (n : Int) ≤ 140737488351232 ∧ ∀ k, k < n → ∃ ad, A = some ad ∧ ad.block < w.heap.size ∧ w.cell? (ad.add k) = some (.int .u8 ((bs.getD k 0 : Nat) : Int))

set_option maxHeartbeats 1000000 in
set_option maxRecDepth 100000 in
theorem add_x (r T n cap : Nat) (A : Option Addr) (bs : List Nat) (w : World) (hr : r < 18446744073709551616)
    (hT : ∀ j : Nat, j < 256 → w.cell? ⟨T, j, none⟩ = some (.int .u64 ((Crc.tab j : Nat) : Int))) (hb : ReadsB w A n bs) :
    Calls Try.prog 65 #[.int .u64 (r : Int), .pointer (some ⟨T, 0, none⟩), .slice A n cap] w fun e w' => e = .returned (.int .u64 ((Crc.reg r bs : Nat) : Int)) ∧ w = w' := by
  obtain ⟨hlen, hby, hn, hc⟩ := hb
  have HC := Lib.hid hc
  have HT := Lib.hid hT
  have HL := Lib.hid hlen
  clear hc hT hlen
  go_enter Try.func65, Try.ntmps65
  go_wp2
  go_loopg [0, 11] n (fun g s0 s11 wx => ∃ k : Nat, k + g = n ∧ s11 = .int .i64 k ∧ s0 = .int .u64 ((Crc.reg r (bs.take k) : Nat) : Int) ∧ wx = w)
  case atStart => exact ⟨0, by omega, rfl, rfl, rfl⟩
  case round =>
    obtain ⟨k, hk, rfl, rfl, rfl⟩ := hrel
    cases gk with
    | zero =>
      have hge : ¬ ((k : Int) < (n : Int)) := by omega
      have hk' : k = n := by omega
      have hl := HL.out
      have e : bs.take k = bs := List.take_of_length_le (by omega)
      rw [e]
      clear e hl hk'
      go_wp2
      go_ret
      exact ⟨rfl, rfl⟩
    | succ g =>
      have hlt : (k : Int) < (n : Int) := by omega
      obtain ⟨ad, rfl, _, hcell⟩ := HC.out k (by omega)
      have hx : bs.getD k 0 < 256 := by
        rw [List.getD_eq_getElem?_getD, List.getElem?_eq_getElem (by have := HL.out; omega)]
        exact hby _ (List.getElem_mem _)
      have hR := Crc.reg_lt r (bs.take k) (fun y hy => hby y (List.mem_of_mem_take hy)) hr
      have hsn : Crc.reg r (bs.take (k + 1)) = Crc.upd (Crc.reg r (bs.take k)) (bs.getD k 0) := by
        rw [List.take_succ_eq_append_getElem (by have := HL.out; omega), Crc.reg_snoc, List.getD_eq_getElem?_getD, List.getElem?_eq_getElem (by have := HL.out; omega)]
        rfl
      have HS := Lib.hid hsn
      clear hsn
      generalize bs.getD k 0 = x at *
      generalize hRR : Crc.reg r (bs.take k) = R at *
      clear hRR
      have hcT := HT.out (R % 256 ^^^ x) (Crc.idx_lt R x hx)
      have hjl : ((R % 256 ^^^ x : Nat) : Int) < 256 := by have := Crc.idx_lt R x hx; omega
      have hix := Crc.idx_walk R x hx
      have HU := Lib.hid (Crc.upd_walk R x hR hx)
      generalize (R % 256 ^^^ x) = j at *
      go_wp2
      go_roundg g
      case measure => omega
      case rel => exact ⟨k + 1, by omega, by go_num, by rw [HS.out, HU.out], rfl⟩
theorem ReadsB.more {w w' : World} {A : Option Addr} {n : Nat} {bs : List Nat} (h : ReadsB w A n bs) (hb : Below w.heap.size w w') : ReadsB w' A n bs :=
  ⟨h.1, h.2.1, h.2.2.1, fun k hk => by
    obtain ⟨ad, e, hlt, hc⟩ := h.2.2.2 k hk
    have hblk : (ad.add k).block = ad.block := by unfold Addr.add; split <;> rfl
    exact ⟨ad, e, Nat.lt_of_lt_of_le hlt hb.size, (hb.cell (by rw [hblk]; exact hlt)).trans hc⟩⟩
theorem ReadsB.nil (w : World) : ReadsB w none 0 [] := ⟨rfl, fun _ h => by simp at h, by omega, fun k hk => by omega⟩

set_option maxHeartbeats 1000000 in
set_option maxRecDepth 100000 in
theorem extend_x (s n cap : Nat) (A : Option Addr) (bs : List Nat) (w : World) (hs : s < 18446744073709551616) (hb : ReadsB w A n bs) :
    Calls Try.prog 63 #[.int .u64 (s : Int), .slice A n cap] w fun e w' => e = .returned (.int .u64 ((Crc.ext s bs : Nat) : Int)) ∧ Below w.heap.size w w' := by
  obtain ⟨hz, hi⟩ := zero_of_info info91
  rw [show Array.replicate 256 (Value.int .u64 0) = tcells 0 from rfl] at hz
  have hi' : ∀ k, (Try.prog.info? 91).map (·.size) = some (tcells k).size := fun k => by rw [tcells_size]; exact hi
  have hn := Crc.not_walk s hs
  have hn2 := Crc.not_walk (Crc.reg (Crc.nt s) bs) (Crc.reg_lt _ _ hb.2.1 (Crc.nt_lt s))
  clear hi
  have hT : ∀ j : Nat, j < 256 → (((w.alloc (.cells (tcells 256) 91)).alloc (.cells (tcells 256) 91)).cell? ⟨w.heap.size + 1, j, none⟩ = some (.int .u64 ((Crc.tab j : Nat) : Int))) := fun j hj => by
    rw [World.cell?_alloc_at _ _ _ _ (by simp), tcells_at 256 j hj, if_pos hj]
  have HT := Lib.hid hT
  have HB := Lib.hid (hb.more (((Below.refl _ w).alloc (Nat.le_refl _) (.cells (tcells 256) 91)).alloc (by simp) (.cells (tcells 256) 91)))
  clear hT hb
  go_enter Try.func63, Try.ntmps63
  go_wp2_with (first
    | (go_at_call 64; refine (table_x _).mono ?_; rintro e w' ⟨rfl, rfl⟩)
    | (refine wpList_store_new rfl 91 _ _ rfl (w.alloc (.cells (tcells 256) 91)) (w.heap.size + 1) (by simp) (tcells 0) (tcells 256) rfl rfl (hi' 256) (by rw [tcells_size, tcells_size]) (tcells_one 256) ?_)
    | fail)
  refine (add_x (Crc.nt s) (w.heap.size + 1) n cap A bs _ (Crc.nt_lt s) HT.out HB.out).mono ?_
  rintro e w' ⟨rfl, rfl⟩
  go_wp2
  go_ret
  exact ⟨rfl, ((Below.refl _ w).alloc (Nat.le_refl _) _).alloc (by simp) _⟩

theorem ext_nil (s : Nat) (hs : s < 18446744073709551616) : Crc.ext s [] = s := Crc.nt_nt s hs

set_option maxHeartbeats 1000000 in
theorem bytes_x (n cap : Nat) (A : Option Addr) (bs : List Nat) (w : World) (hb : ReadsB w A n bs) :
    Calls Try.prog 54 #[.slice A n cap] w fun e w' => e = .returned (.int .u64 ((Crc.ext 0 bs : Nat) : Int)) ∧ Below w.heap.size w w' := by
  have HB := Lib.hid hb
  clear hb
  go_enter Try.func54, Try.ntmps54
  go_wp2_with (go_at_call 63; refine (extend_x 0 n cap A bs _ (by omega) HB.out).mono ?_; rintro e w' ⟨rfl, hw⟩)
  go_ret
  exact ⟨rfl, hw⟩

set_option maxHeartbeats 1000000 in
set_option maxRecDepth 100000 in
theorem refextend_x (s n cap : Nat) (A : Option Addr) (bs : List Nat) (w : World) (hs : s < 18446744073709551616) (hb : ReadsB w A n bs) :
    Calls Try.prog 58 #[.int .u64 (s : Int), .slice A n cap] w fun e w' => e = .returned (.int .u64 ((Crc.ext s bs : Nat) : Int)) ∧ w = w' := by
  obtain ⟨hlen, hby, hn, hc⟩ := hb
  have HC := Lib.hid hc
  have HL := Lib.hid hlen
  clear hc hlen
  have hn1 := Crc.not_walk s hs
  have hn2 := Crc.not_walk (Crc.reg (Crc.nt s) bs) (Crc.reg_lt _ _ hby (Crc.nt_lt s))
  go_enter Try.func58, Try.ntmps58
  go_wp2
  go_loopg [5, 6] n (fun g s5 s6 wx => ∃ k : Nat, k + g = n ∧ s6 = .int .i64 k ∧ s5 = .int .u64 ((Crc.reg (Crc.nt s) (bs.take k) : Nat) : Int) ∧ wx = w)
  case atStart => exact ⟨0, by omega, rfl, rfl, rfl⟩
  case round =>
    obtain ⟨k, hk, rfl, rfl, rfl⟩ := hrel
    cases gk with
    | zero =>
      have hge : ¬ ((k : Int) < (n : Int)) := by omega
      have hk' : k = n := by omega
      have hl := HL.out
      have e : bs.take k = bs := List.take_of_length_le (by omega)
      rw [e]
      clear e hl hk'
      go_wp2
      go_ret
      exact ⟨rfl, rfl⟩
    | succ g =>
      have hlt : (k : Int) < (n : Int) := by omega
      obtain ⟨ad, rfl, _, hcell⟩ := HC.out k (by omega)
      have hx : bs.getD k 0 < 256 := by
        rw [List.getD_eq_getElem?_getD, List.getElem?_eq_getElem (by have := HL.out; omega)]
        exact hby _ (List.getElem_mem _)
      have hR := Crc.reg_lt (Crc.nt s) (bs.take k) (fun y hy => hby y (List.mem_of_mem_take hy)) (Crc.nt_lt s)
      have hsn : Crc.reg (Crc.nt s) (bs.take (k + 1)) = Crc.upd (Crc.reg (Crc.nt s) (bs.take k)) (bs.getD k 0) := by
        rw [List.take_succ_eq_append_getElem (by have := HL.out; omega), Crc.reg_snoc, List.getD_eq_getElem?_getD, List.getElem?_eq_getElem (by have := HL.out; omega)]
        rfl
      have HS := Lib.hid hsn
      clear hsn hn1 hn2
      generalize bs.getD k 0 = x at *
      generalize hRR : Crc.reg (Crc.nt s) (bs.take k) = R at *
      clear hRR
      have hxor := u64_xor_nat R x hR (by omega)
      have hq : R ^^^ x < 18446744073709551616 := Nat.xor_lt_two_pow (n := 64) (by omega) (by omega)
      have HS2 : Hid (Crc.reg (Crc.nt s) (bs.take (k + 1)) = Crc.stN 8 (R ^^^ x)) := HS.out
      clear HS
      generalize R ^^^ x = q at *
      go_wp2
      go_loopg [5, 7] 8 (fun g2 r c wx => ∃ m : Nat, m + g2 = 8 ∧ c = .int .i64 m ∧ r = .int .u64 (Crc.stN m q : Nat) ∧ wx = wr)
      case atStart => exact ⟨0, by omega, rfl, rfl, rfl⟩
      case round =>
        obtain ⟨m, hm, rfl, rfl, rfl⟩ := hrel
        cases gk with
        | zero =>
          obtain rfl : m = 8 := by omega
          go_wp2
          go_roundg g
          case measure => omega
          case rel => exact ⟨k + 1, by omega, by go_num, by rw [HS2.out], rfl⟩
        | succ g2 =>
          have hlt2 : (m : Int) < 8 := by omega
          have hr := Crc.stN_lt m q hq
          by_cases hb : Crc.stN m q % 2 = 1
          · have ht := Crc.test_odd _ hr hb
            have HS := Lib.hid (Crc.st_odd _ hr hb)
            clear hb
            go_wp2
            go_roundg g2
            case measure => omega
            case rel => exact ⟨m + 1, by omega, by go_num, by rw [HS.out]; rfl, rfl⟩
          · have ht := Crc.test_even _ hr hb
            have HS := Lib.hid (Crc.st_even _ hb)
            clear hb
            go_wp2
            go_roundg g2
            case measure => omega
            case rel => exact ⟨m + 1, by omega, by go_num, by rw [HS.out]; rfl, rfl⟩


/-- What the walk is told of a slice of integers that came in. -/
def IsRow (k : IntKind) (w : World) (a : Option Addr) (len cap : Nat) (zs : List Int) : Prop :=
  (a = none ∧ len = 0 ∧ cap = 0 ∧ zs = []) ∨
  ∃ x, a = some x ∧ len ≤ cap ∧ cap ≤ maxLen ∧ zs.length = cap ∧ (∀ i, i < zs.length → w.cell? (x.add i) = some (.int k (zs.getD i 0))) ∧ ∀ n ∈ zs, (Lit.int k n).wf = true

theorem block_add (a : Addr) (n : Nat) : (a.add n).block = a.block := by unfold Addr.add; split <;> rfl
theorem getD_taken (zs : List Int) (len k : Nat) (hk : k < len) (hl : len ≤ zs.length) : ((zs.take len).map Int.toNat).getD k 0 = (zs.getD k 0).toNat := by
  simp only [List.getD_eq_getElem?_getD, List.getElem?_map, List.getElem?_take_of_lt hk, List.getElem?_eq_getElem (show k < zs.length by omega), Option.map_some, Option.getD_some]
theorem isrow_reads {w : World} {a : Option Addr} {len cap : Nat} {zs : List Int} (h : IsRow .u8 w a len cap zs) (hl : len ≤ 140737488351232) : ReadsB w a len ((zs.take len).map Int.toNat) := by
  rcases h with ⟨rfl, rfl, rfl, rfl⟩ | ⟨x, rfl, h1, h2, h3, h4, h5⟩
  · exact ReadsB.nil w
  · have hb : ∀ n ∈ zs, 0 ≤ n ∧ n ≤ 255 := fun n hn => bounds_u8 (h5 n hn)
    refine ⟨by simp; omega, ?_, by omega, fun k hk => ⟨x, rfl, ?_, ?_⟩⟩
    · intro y hy
      simp only [List.mem_map] at hy
      obtain ⟨z, hz, rfl⟩ := hy
      have := hb z (List.mem_of_mem_take hz)
      omega
    · have := h4 k (by omega)
      have h := block_lt_of_cell this
      rwa [block_add] at h
    · rw [h4 k (by omega)]
      have hz := hb (zs.getD k 0) (by rw [List.getD_eq_getElem?_getD, List.getElem?_eq_getElem (by omega)]; exact List.getElem_mem _)
      rw [getD_taken zs len k hk (by omega), Int.toNat_of_nonneg hz.1]


theorem pick_mod (n k : Int) : (n.tmod k + k) % k = n % k := by
  rw [Int.add_emod_right, Int.tmod_def, Int.sub_mul_emod_self_left]

set_option maxHeartbeats 1000000 in
theorem pick_x (n k : Int) (w : World) (h1 : 1 ≤ k) (h2 : k ≤ 1000000) (_hn : -9223372036854775808 ≤ n ∧ n ≤ 9223372036854775807) :
    Calls Try.prog 12 #[.int .i64 n, .int .i64 k] w fun e w' => e = .returned (.int .i64 (n % k)) ∧ w = w' := by
  have h3 := Int.tmod_lt_of_pos n (show 0 < k by omega)
  have h4 := Int.lt_tmod_of_pos n (show 0 < k by omega)
  have HM := Lib.hid (pick_mod n k)
  go_enter Try.func12, Try.ntmps12
  go_wp2
  go_ret
  exact ⟨by simp [HM.out], rfl⟩

theorem ReadsB.cut {w : World} {A : Option Addr} {n : Nat} {bs : List Nat} (h : ReadsB w A n bs) (lo hi : Nat) (h1 : lo ≤ hi) (h2 : hi ≤ n) :
    ReadsB w (Option.map (fun x => x.add lo) A) (hi - lo) ((bs.take hi).drop lo) := by
  obtain ⟨hl, hb, hn, hr⟩ := h
  refine ⟨by simp; omega, fun y hy => hb y (List.mem_of_mem_take (List.mem_of_mem_drop hy)), by omega, fun k hk => ?_⟩
  obtain ⟨ad, rfl, hlt, hcell⟩ := hr (lo + k) (by omega)
  refine ⟨ad.add lo, rfl, by rw [block_add]; exact hlt, ?_⟩
  have e : (ad.add lo).add k = ad.add (lo + k) := by
    unfold Addr.add
    by_cases h1 : lo = 0 <;> by_cases h2 : k = 0 <;> simp [h1, h2, Nat.add_assoc]
  have e2 : ((bs.take hi).drop lo).getD k 0 = bs.getD (lo + k) 0 := by
    simp only [List.getD_eq_getElem?_getD, List.getElem?_drop, List.getElem?_take_of_lt (show lo + k < hi by omega)]
  rw [e, e2]
  exact hcell
theorem ReadsB.cutEnd {w : World} {A : Option Addr} {n : Nat} {bs : List Nat} (h : ReadsB w A n bs) (lo hi : Nat) (h1 : lo ≤ hi) (h2 : hi ≤ n) (hc : n ≤ lo) :
    ReadsB w A (hi - lo) ((bs.take hi).drop lo) := by
  obtain ⟨hl, hb, hn, hr⟩ := h
  exact ⟨by simp; omega, fun y hy => hb y (List.mem_of_mem_take (List.mem_of_mem_drop hy)), by omega, fun k hk => by omega⟩

theorem ext_cut (bs : List Nat) (m hi : Nat) (hb : Crc.Bytes bs) (h : m ≤ hi) : Crc.ext (Crc.ext 0 (bs.take m)) ((bs.take hi).drop m) = Crc.ext 0 (bs.take hi) := by
  rw [← Crc.ext_append _ _ _ (fun y hy => hb y (List.mem_of_mem_take hy))]
  congr 1
  have : (bs.take hi).take m = bs.take m := by rw [List.take_take]; congr 1; omega
  rw [← this, List.take_append_drop]


/-- The cells of x when the first k are laid. -/
def xcells (n : Nat) (f : Nat → Nat) (k : Nat) : Array Value := ((List.range n).map fun j => Value.int .u8 (if j < k then (f j : Int) else 0)).toArray
theorem xcells_zero (n : Nat) (f : Nat → Nat) : madeCells #[.int .u8 0] n = xcells n f 0 := by
  apply Array.toList_inj.1
  rw [toList_madeCells_one]
  simp [xcells, List.map_const']
theorem xcells_at (n : Nat) (f : Nat → Nat) (k j : Nat) (h : j < n) : (xcells n f k)[j]? = some (.int .u8 (if j < k then (f j : Int) else 0)) := by
  simp [xcells, h]
theorem xcells_size (n : Nat) (f : Nat → Nat) (k : Nat) : (xcells n f k).size = n := by simp [xcells]
theorem xcells_set (n : Nat) (f : Nat → Nat) (k : Nat) (h : k < n) : (xcells n f k).setIfInBounds k (.int .u8 (f k : Int)) = xcells n f (k + 1) := by
  apply Array.ext_getElem?
  intro j
  rw [Array.getElem?_setIfInBounds, xcells_size]
  by_cases hj : j < n
  · rw [xcells_at n f (k + 1) j hj]
    by_cases e : k = j
    · subst e; simp [h]
    · rw [if_neg e, xcells_at n f k j hj]
      congr 3
      simp only [eq_iff_iff]; omega
  · have h1 : (xcells n f k)[j]? = none := Array.getElem?_eq_none (by rw [xcells_size]; omega)
    have h2 : (xcells n f (k + 1))[j]? = none := Array.getElem?_eq_none (by rw [xcells_size]; omega)
    rw [h1, h2, if_neg (by omega)]

theorem info5 : (Try.prog.info? 5).map (fun i => (i.zero, i.size, i.bytes)) = some (some (.int .u8 0), 1, 1) := by kernel_rfl

/-- The slice (address A, n elements) reads as the words ws. -/
def ReadsW (w : World) (A : Option Addr) (n : Nat) (ws : List Nat) : Prop :=
  ws.length = n ∧ (n : Int) ≤ 1000000 ∧ ∀ k, k < n → ∃ ad, A = some ad ∧ ad.block < w.heap.size ∧ w.cell? (ad.add k) = some (.int .u64 ((ws.getD k 0 : Nat) : Int)) ∧ ws.getD k 0 < 18446744073709551616
theorem ReadsW.more {w w' : World} {A : Option Addr} {n : Nat} {ws : List Nat} (h : ReadsW w A n ws) (hb : Below w.heap.size w w') : ReadsW w' A n ws :=
  ⟨h.1, h.2.1, fun k hk => by
    obtain ⟨ad, e, hlt, hc, hv⟩ := h.2.2 k hk
    exact ⟨ad, e, Nat.lt_of_lt_of_le hlt hb.size, (hb.cell (by rw [block_add]; exact hlt)).trans hc, hv⟩⟩

def bcells (bs : List Nat) : List Value := bs.map fun (x : Nat) => Value.int .u8 (x : Int)
theorem bcells_snoc (bs : List Nat) (x : Nat) : bcells (bs ++ [x]) = bcells bs ++ [.int .u8 (x : Int)] := by simp [bcells]
theorem own_reads {w : World} {base n : Nat} {v : Value} {bs : List Nat} (h : w.ownsRow base 5 1 v n (bcells bs)) (hb : Crc.Bytes bs) (hn : n ≤ 140737488351232) :
    ∃ A cap, v = .slice A n cap ∧ ReadsB w A n bs := by
  have hl : bs.length = n := by have := h.1; simpa [bcells] using this
  rcases h.2 with ⟨rfl, rfl⟩ | ⟨g, cap, cur, rfl, hbg, hg, hnc, hcm, hcs, htake⟩
  · obtain rfl : bs = [] := List.eq_nil_of_length_eq_zero hl
    exact ⟨none, 0, rfl, ReadsB.nil w⟩
  · refine ⟨some ⟨g, 0, none⟩, cap, rfl, hl, hb, by omega, fun k hk => ⟨_, rfl, (Array.getElem?_eq_some_iff.1 hg).1, ?_⟩⟩
    have e : (⟨g, 0, none⟩ : Addr).add k = ⟨g, k, none⟩ := by unfold Addr.add; split <;> simp_all
    rw [e, h.cellAt k (by omega), bcells, List.getElem?_map, List.getElem?_eq_getElem (by omega), List.getD_eq_getElem?_getD, List.getElem?_eq_getElem (by omega)]
    rfl

theorem cell_one (w : World) (u : Value) : ∀ (j : Nat) (x : Value), [u][j]? = some x → (w.alloc (.cells #[u] 5)).cell? ((⟨w.heap.size, 0, none⟩ : Addr).add j) = some x := by
  intro j x hj
  match j, hj with
  | 0, hj => simp at hj; subst hj; simp [Addr.add]


set_option maxHeartbeats 1000000 in
theorem words_x (n cap : Nat) (A : Option Addr) (ws : List Nat) (w : World) (hw : ReadsW w A n ws) :
    Calls Try.prog 38 #[.slice A n cap] w fun e w' => e = .returned (.int .u64 ((Crc.words ws : Nat) : Int)) ∧ Below w.heap.size w w' := by
  obtain ⟨i0, hi, hz0, hz1, hz2⟩ := info_parts info5
  have hn := hw.2.1
  have HW := Lib.hid hw
  clear hw
  go_enter Try.func38, Try.ntmps38
  go_wp2_with (first
    | (at_make; refine wpList_make_own _ rfl _ _ 82 rfl w.heap.size 5 i0 (.int .u8 0) 1 Try.underlying82 hi hz0 hz1 .i64 .i64 _ (8 * n) rfl rfl (by omega) ?b2 ?b3 ?b4 ?_)
    | fail)
  case b2 => rw [hz2]; omega
  case b3 => unfold maxLen; omega
  case b4 => exact Nat.le_refl _
  intro w1 hown hgrow
  go_wp2
  have hbel : Below w.heap.size w w1 := (Below.refl _ w).grown hgrow (Nat.le_refl _) (fun k e => by cases e)
  clear hgrow
  go_loopg [3, 12] n (fun g s3 s12 wx => ∃ i : Nat, i + g = n ∧ s12 = .int .i64 i ∧ wx.ownsRow w.heap.size 5 1 s3 (8 * i) (bcells (Crc.wbytes (ws.take i))) ∧ Below w.heap.size w wx)
  case atStart => exact ⟨0, by omega, rfl, hown, hbel⟩
  case round =>
    obtain ⟨i, hig, rfl, hown1, hbel1⟩ := hrel
    clear hown hbel
    cases gk with
    | zero =>
      have hge : ¬ ((i : Int) < (n : Int)) := by omega
      have e : ws.take i = ws := List.take_of_length_le (by have := HW.out.1; omega)
      rw [e] at hown1
      obtain ⟨A1, c1, rfl, hr⟩ := own_reads hown1 (Crc.wbytes_bytes ws) (by omega)
      have HR := Lib.hid hr
      clear hr hown1 e
      go_wp2_with (go_at_call 54; refine (bytes_x _ _ _ _ _ HR.out).mono ?_; rintro e w2 ⟨rfl, hw2⟩)
      go_ret
      exact ⟨rfl, hbel1.trans (hw2.mono hbel1.size)⟩
    | succ g =>
      have hlt : (i : Int) < (n : Int) := by omega
      obtain ⟨ad, rfl, _, hcell, hW⟩ := (HW.out.more hbel1).2.2 i (by omega)
      generalize hWd : ws.getD i 0 = W at *
      have HWd := Lib.hid hWd
      clear hWd
      go_wp2
      go_loopg [3, 5, 16] 8 (fun g2 s3 s5 s16 wx => ∃ m : Nat, m + g2 = 8 ∧ s16 = .int .i64 m ∧ s5 = .int .u64 ((W / 256 ^ m : Nat) : Int) ∧ wx.ownsRow w.heap.size 5 1 s3 (8 * i + m) (bcells (Crc.part ws i m)) ∧ Below w.heap.size w wx)
      case atStart => exact ⟨0, by omega, rfl, by simp, by rw [Crc.part_zero]; exact hown1, hbel1⟩
      case round =>
        obtain ⟨m, hm, rfl, rfl, hown2, hbel2⟩ := hrel
        clear hown1 hbel1
        cases gk with
        | zero =>
          obtain rfl : m = 8 := by omega
          go_wp2
          go_roundg g
          case measure => omega
          case rel => exact ⟨i + 1, by omega, by go_num, by rw [← Crc.part_end ws i (by have := HW.out.1; omega)]; exact hown2, hbel2⟩
        | succ g2 =>
          have hlt2 : (m : Int) < 8 := by omega
          have hq : W / 256 ^ m < 18446744073709551616 := Nat.lt_of_le_of_lt (Nat.div_le_self _ _) hW
          have HS := Lib.hid (Crc.shift_step W m)
          have HP := Lib.hid (Crc.part_step ws i m (by omega))
          rw [HWd.out] at HP
          have hbo : Crc.byteOf W m = W / 256 ^ m % 256 := rfl
          have HBO := Lib.hid hbo
          clear hbo
          generalize W / 256 ^ m = q at *
          go_wp2_with (at_builtin; refine wpList_append_own _ rfl _ _ 82 rfl w.heap.size 5 i0 (.int .u8 0) 1 1 Try.underlying82 hi hz0 hz1 hz2 rfl (by decide) _ _ _ rfl (hown2.alloc _) ⟨wr.heap.size, 0, none⟩ 1 1 [.int .u8 ((q : Int) % 256)] rfl rfl ?c1 ?c2 ?c3 ?c4 ?c5 ?_)
          case c1 => exact cell_one _ _
          case c2 => intro u hu; simp at hu; subst hu; rfl
          case c3 => unfold maxLen; omega
          case c4 => omega
          case c5 => have := hbel2.size; simp; omega
          intro v' w2 hown3 hgrow3 _
          have hbel3 := (hbel2.alloc hbel2.size _).grown hgrow3 (by have := hbel2.size; simp; omega) (fun k e => (hown2.lt k e).1)
          clear hgrow3 hown2 hbel2
          go_wp2
          go_roundg g2
          case measure => omega
          case rel => exact ⟨m + 1, by omega, by go_num, by rw [← HS.out]; rfl, by rw [HP.out, HBO.out, bcells_snoc]; exact hown3, hbel3⟩

set_option maxHeartbeats 1000000 in
theorem little_x (W : Nat) (w : World) :
    Calls Try.prog 59 #[.int .u64 (W : Int)] w fun e w' => e = .returned (.slice (some ⟨w.heap.size, 0, none⟩) 8 8) ∧ w' = w.alloc (.cells (xcells 8 (Crc.byteOf W) 8) 5) := by
  obtain ⟨i0, hi, hz0, hz1, hz2⟩ := info_parts info5
  have hmk := fun W => run_make (P := Try.prog) W 82 5 i0 (.int .u8 0) Try.underlying82 hi hz0 .i64 .i64 8 8 (by omega) (by omega) (by rw [hz2]; omega) (by omega)
  rw [hz1] at hmk
  simp only [show (8 : Int).toNat = 8 from rfl, Nat.mul_one, show (Value.int .u8 0).cells = #[.int .u8 0] from rfl, xcells_zero 8 (Crc.byteOf W)] at hmk
  clear hi hz0 hz1 hz2
  go_enter Try.func59, Try.ntmps59
  go_wp2
  go_loopg [4] 8 (fun g s4 wx => ∃ m : Nat, m + g = 8 ∧ s4 = .int .i64 m ∧ wx = w.alloc (.cells (xcells 8 (Crc.byteOf W) m) 5))
  case atStart => exact ⟨0, by omega, rfl, rfl⟩
  case round =>
    obtain ⟨m, hm, rfl, rfl⟩ := hrel
    cases gk with
    | zero =>
      obtain rfl : m = 8 := by omega
      go_wp2
      go_ret
      exact ⟨rfl, rfl⟩
    | succ g =>
      have hlt : (m : Int) < 8 := by omega
      have hcell := xcells_at 8 (Crc.byteOf W) m m (by omega)
      rw [if_neg (by omega)] at hcell
      have HX := Lib.hid (xcells_set 8 (Crc.byteOf W) m (by omega))
      have HB := Lib.hid (Crc.byte_walk W m)
      go_wp2
      go_roundg g
      case measure => omega
      case rel => exact ⟨m + 1, by omega, by go_num, by rw [HB.out, HX.out]⟩

theorem little_reads (W : Nat) (w : World) : ReadsB (w.alloc (.cells (xcells 8 (Crc.byteOf W) 8) 5)) (some ⟨w.heap.size, 0, none⟩) 8 (Crc.le8 W) := by
  refine ⟨Crc.le8_length W, Crc.le8_bytes W, by omega, fun k hk => ⟨_, rfl, by simp, ?_⟩⟩
  have e : (⟨w.heap.size, 0, none⟩ : Addr).add k = ⟨w.heap.size, k, none⟩ := by unfold Addr.add; split <;> simp_all
  rw [e, World.cell?_alloc_at _ _ _ _ rfl, xcells_at _ _ _ _ hk, if_pos hk, Crc.le8_getD W k hk]

set_option maxHeartbeats 1000000 in
theorem refwords_x (n cap : Nat) (A : Option Addr) (ws : List Nat) (w : World) (hw : ReadsW w A n ws) :
    Calls Try.prog 47 #[.slice A n cap] w fun e w' => e = .returned (.int .u64 ((Crc.words ws : Nat) : Int)) ∧ Below w.heap.size w w' := by
  have hn := hw.2.1
  have HW := Lib.hid hw
  clear hw
  go_enter Try.func47, Try.ntmps47
  go_wp2
  go_loopg [3, 4] n (fun g s3 s4 wx => ∃ i : Nat, i + g = n ∧ s4 = .int .i64 i ∧ s3 = .int .u64 ((Crc.words (ws.take i) : Nat) : Int) ∧ Below w.heap.size w wx)
  case atStart => exact ⟨0, by omega, rfl, by rw [List.take_zero, Crc.words_nil]; rfl, Below.refl _ _⟩
  case round =>
    obtain ⟨i, hig, rfl, rfl, hbel⟩ := hrel
    cases gk with
    | zero =>
      have hge : ¬ ((i : Int) < (n : Int)) := by omega
      have e : ws.take i = ws := List.take_of_length_le (by have := HW.out.1; omega)
      rw [e]
      clear e
      go_wp2
      go_ret
      exact ⟨rfl, hbel⟩
    | succ g =>
      have hlt : (i : Int) < (n : Int) := by omega
      obtain ⟨ad, rfl, _, hcell, hW⟩ := (HW.out.more hbel).2.2 i (by omega)
      have HS := Lib.hid (Crc.words_step ws i (by have := HW.out.1; omega))
      generalize ws.getD i 0 = W at *
      go_wp2_with fail
      refine (little_x W _).mono ?_
      rintro e w1 ⟨rfl, rfl⟩
      go_wp2_with fail
      refine (refextend_x _ _ _ _ _ _ (Crc.ext_lt _ _) (little_reads W wr)).mono ?_
      rintro e w2 ⟨rfl, rfl⟩
      go_wp2
      go_roundg g
      case measure => omega
      case rel => exact ⟨i + 1, by omega, by go_num, by rw [HS.out]; rfl, hbel.alloc hbel.size _⟩
end Go.Proofs.Ytmeppeadfhifeaa
