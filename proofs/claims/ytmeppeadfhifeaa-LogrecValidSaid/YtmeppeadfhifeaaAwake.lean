/- The statements' own example is answered 'true'. No condition. -/
import Derived.Test.YtmeppeadfhifeaaBackN
import Derived.Test.YtmeppeadfhifeaaRecord
import Derived.Test.YtmeppeadfhifeaaWhole
namespace Go.Proofs.Ytmeppeadfhifeaa
open Go.RowKit Go.Shelf
set_option linter.unusedVariables false
set_option linter.unusedSimpArgs false

theorem body_c (seq : Int) (n cap : Nat) (A : Option Addr) (ps : List Pg) (w : World) (hp : ReadsP w A n ps) :
    Calls Try.prog 22 #[.agg #[.int .i64 seq, .slice A n cap]] w fun e w' => ∃ A' c', e = .returned (.slice A' (bodyN seq ps).length c') ∧ (bodyN seq ps).length ≤ c' ∧ ReadsW w' A' (bodyN seq ps).length (bodyN seq ps) ∧ Below w.heap.size w w' := by
  refine (body_x seq n cap A ps w hp).mono ?_
  rintro e w' ⟨⟨v, rfl, ho⟩, hb⟩
  have hbo := bodyN_ok seq ps hp.2.2.1
  obtain ⟨A', c', rfl, hr⟩ := own_readsW ho hbo.1 (by have := hbo.2; omega)
  exact ⟨A', c', rfl, own_cap ho, hr, hb⟩
theorem same_t {a : Int} {n m cap cap' : Nat} {A B : Option Addr} {ps qs : List Pg} {w : World} (hp : ReadsP w A n ps) (hq : ReadsP w B m qs) (h : samePs ps qs = true) :
    Calls Try.prog 20 #[.agg #[.int .i64 a, .slice A n cap], .agg #[.int .i64 a, .slice B m cap']] w fun e w' => e = .returned (.bool true) ∧ Below w.heap.size w w' := by
  have := same_x a a n m cap cap' A B ps qs w hp hq
  rw [h, beq_self_eq_true, Bool.and_self] at this
  exact this
def p0 : Pg := ⟨96, 256, fun _ => 0⟩
theorem p0_valid : validN 1 [p0] 98 = 0 := by kernel_rfl
theorem p0_ok : p0.ok := by
  refine ⟨by decide, by decide, by decide, fun k _ => ?_⟩
  show 0 < _
  omega
theorem ReadsW.at {w : World} {ad : Addr} {n : Nat} {ws : List Nat} (h : ReadsW w (some ad) n ws) (k : Nat) (hk : k < n) : w.cell? (ad.add k) = some (.int .u64 ((ws.getD k 0 : Nat) : Int)) := by
  obtain ⟨_, e, _, hc, _⟩ := h.2.2 k hk
  cases e; exact hc

set_option maxRecDepth 100000 in
set_option maxHeartbeats 4000000 in
theorem awake_x (w : World) : Calls Try.prog 19 #[] w fun e w' => e = .returned (.bool true) ∧ Below w.heap.size w w' := by
  have hpb := parse_body 1 [p0] 98 [] p0_valid
  rw [List.append_nil] at hpb
  have hlen : (bodyN 1 [p0]).length = 12 := bodyN_length 1 [p0] (validN_256 _ _ _ p0_valid)
  have e1 : (bodyN 1 [p0]).getD 0 0 = 1 ∧ (bodyN 1 [p0]).getD 1 0 = 1 ∧ (bodyN 1 [p0]).getD 2 0 = 96 ∧ (bodyN 1 [p0]).getD 3 0 = 256 := by
    rw [bodyN_eq 1 [p0] (validN_256 _ _ _ p0_valid)]
    exact ⟨rfl, rfl, rfl, rfl⟩
  have hrd := reads_one (w := w) p0_ok
  rw [show p0.cells = #[.int .i64 96, .int .u64 256, .int .u64 0, .int .u64 0, .int .u64 0, .int .u64 0, .int .u64 0, .int .u64 0, .int .u64 0] from rfl] at hrd
  obtain ⟨W1, hW1⟩ : ∃ W1, W1 = (w.alloc (.cells #[.int .i64 96, .int .u64 256, .int .u64 0, .int .u64 0, .int .u64 0, .int .u64 0, .int .u64 0, .int .u64 0, .int .u64 0] 49)).alloc (.cells #[.int .i64 1, .slice (some ⟨w.heap.size, 0, none⟩) 1 1] 34) := ⟨_, rfl⟩
  have hrd1 : ReadsP W1 (some ⟨w.heap.size, 0, none⟩) 1 [p0] := by rw [hW1]; exact hrd.more ((Below.refl _ _).alloc (Nat.le_refl _) _)
  have hR1 : W1.heap[w.heap.size + 1]? = some (.cells #[.int .i64 1, .slice (some ⟨w.heap.size, 0, none⟩) 1 1] 34 (0, 0)) := by
    rw [hW1]
    have h := heap_alloc_new (w.alloc (.cells #[.int .i64 96, .int .u64 256, .int .u64 0, .int .u64 0, .int .u64 0, .int .u64 0, .int .u64 0, .int .u64 0, .int .u64 0] 49)) (.cells #[.int .i64 1, .slice (some ⟨w.heap.size, 0, none⟩) 1 1] 34)
    rw [World.size_alloc] at h
    exact h
  have hb1 : Below w.heap.size w W1 := by rw [hW1]; exact ((Below.refl _ w).alloc (Nat.le_refl _) _).alloc (by simp) _
  have hbd := body_c 1 1 1 _ [p0] W1 hrd1
  rw [hlen] at hbd
  generalize bodyN 1 [p0] = b0 at *
  generalize hpS : parseS b0 98 = pS at hpb
  generalize hpP : parseP b0 98 = pP at hpb
  generalize hpE : parseE b0 98 = pE at hpb
  obtain ⟨rfl, rfl, hsame⟩ := hpb
  have hpx := fun W A c hr (hc : 12 ≤ c) => parse_x 98 12 c A b0 W hr hc
  unfold ParseR at hpx
  rw [hpS, hpP, hpE] at hpx
  have hvx := fun W (hb : Below W1.heap.size W1 W) => valid_x 1 98 1 1 _ [p0] W (hrd1.more hb)
  rw [p0_valid] at hvx
  have HW1 := Lib.hid hW1
  have HR1 := Lib.hid hR1
  have HB1 := Lib.hid hb1
  have HBD := Lib.hid hbd
  have HPX := Lib.hid hpx
  have HVX := Lib.hid hvx
  have HRD1 := Lib.hid hrd1
  have HSy := Lib.hid (samePs_symm _ _ hsame)
  have HE := Lib.hid e1
  clear hW1 hR1 hb1 hbd hpx hvx hrd1 hsame hpS hpP hpE hrd hlen e1
  have s34 : (Try.prog.info? 34).map (·.size) = some (#[.int .i64 1, .slice (some ⟨w.heap.size, 0, none⟩) 1 1] : Array Value).size := by rw [size34]; rfl
  go_enter Try.func19, Try.ntmps19
  go_wp2_with fail
  rw [← HW1.out]
  go_at_call 22
  refine HBD.out.mono ?_
  rintro e w3 ⟨A3, c3, rfl, hc3, hr3, hb3⟩
  have hR3 := (hb3.block _ (Array.getElem?_eq_some_iff.1 HR1.out).1).trans HR1.out
  have HR3 := Lib.hid hR3
  have HRW3 := Lib.hid hr3
  have HB3 := Lib.hid hb3
  clear hR3 hr3 hb3
  go_wp2_with fail
  go_at_call 27
  refine (HPX.out w3 A3 c3 HRW3.out hc3).mono ?_
  rintro e w5 ⟨⟨A5, c5, rfl, hr5⟩, hb5⟩
  have hb6 : Below w5.heap.size w5 (w5.alloc (.cells #[.int .i64 1, .slice A5 pP.length c5] 34)) := by exact (Below.refl _ w5).alloc (Nat.le_refl _) _
  have hb36 : Below w3.heap.size w3 (w5.alloc (.cells #[.int .i64 1, .slice A5 pP.length c5] 34)) := hb5.trans (hb6.mono hb5.size)
  have hb16 : Below W1.heap.size W1 (w5.alloc (.cells #[.int .i64 1, .slice A5 pP.length c5] 34)) := HB3.out.trans (hb36.mono HB3.out.size)
  have hR6 := (hb36.block _ (Array.getElem?_eq_some_iff.1 HR3.out).1).trans HR3.out
  have hT6 : (w5.alloc (.cells #[.int .i64 1, .slice A5 pP.length c5] 34)).heap[w5.heap.size]? = some (.cells #[.int .i64 1, .slice A5 pP.length c5] 34 (0, 0)) := by exact heap_alloc_new w5 _
  have HR6 := Lib.hid hR6
  have HT6 := Lib.hid hT6
  have HB16 := Lib.hid hb16
  have hrw6 := HRW3.out.more hb36
  obtain ⟨ad, rfl, hadb, _, _⟩ := hrw6.2.2 0 (by omega)
  have d0 := hrw6.at 0 (by omega)
  have d1 := hrw6.at 1 (by omega)
  have d2 := hrw6.at 2 (by omega)
  have d3 := hrw6.at 3 (by omega)
  rw [HE.out.1, Addr.add_zero'] at d0
  rw [HE.out.2.1, show ad.add 1 = ⟨ad.block, ad.off + 1, none⟩ by simp [Addr.add]] at d1
  rw [HE.out.2.2.1, show ad.add 2 = ⟨ad.block, ad.off + 2, none⟩ by simp [Addr.add]] at d2
  rw [HE.out.2.2.2, show ad.add 3 = ⟨ad.block, ad.off + 3, none⟩ by simp [Addr.add]] at d3
  have HRP6 := Lib.hid (hr5.more hb6)
  have HD := Lib.hid (And.intro d0 (And.intro d1 (And.intro d2 d3)))
  clear hb6 hb36 hb16 hR6 hT6 hr5 hb5 hrw6 d0 d1 d2 d3
  go_wp2_with (first
    | (refine wpList_load_row rfl 34 _ rfl (w.heap.size + 1) rfl 34 #[.int .i64 1, .slice (some ⟨w.heap.size, 0, none⟩) 1 1] (0, 0) _ HR6.out Try.underlying34 rfl s34 ?_)
    | (refine wpList_load_row rfl 34 _ rfl (w.heap.size + 1) rfl 34 #[.int .i64 1, .slice (some ⟨w.heap.size, 0, none⟩) 1 1] (0, 0) _ HR7.out Try.underlying34 rfl s34 ?_)
    | (refine wpList_load_row rfl 34 _ rfl w5.heap.size rfl 34 #[.int .i64 1, .slice A5 pP.length c5] (0, 0) _ HT7.out Try.underlying34 rfl s34 ?_)
    | (go_at_call 23; refine (HVX.out _ HB16.out).mono ?_; rintro e w7 ⟨rfl, hb7⟩
       have HR7 := Lib.hid ((hb7.block _ (Array.getElem?_eq_some_iff.1 HR6.out).1).trans HR6.out)
       have HT7 := Lib.hid ((hb7.block _ (Array.getElem?_eq_some_iff.1 HT6.out).1).trans HT6.out)
       have k0 : w7.cell? ⟨w.heap.size + 1, 0, none⟩ = some (.int .i64 1) := by simp [World.cell?, HR7.out]
       have k1 : w7.cell? ⟨w.heap.size + 1, 1, none⟩ = some (.slice (some ⟨w.heap.size, 0, none⟩) 1 1) := by simp [World.cell?, HR7.out]
       have k2 : w7.cell? ⟨w5.heap.size, 0, none⟩ = some (.int .i64 1) := by simp [World.cell?, HT7.out]
       have k3 : w7.cell? ⟨w5.heap.size, 1, none⟩ = some (.slice A5 pP.length c5) := by simp [World.cell?, HT7.out]
       have HB17 := Lib.hid (HB16.out.trans (hb7.mono HB16.out.size))
       have HRP7 := Lib.hid (HRP6.out.more hb7)
       have f0 := (hb7.cell (p := ad) hadb).trans HD.out.1
       have f1 := (hb7.cell (p := ⟨ad.block, ad.off + 1, none⟩) hadb).trans HD.out.2.1
       have f2 := (hb7.cell (p := ⟨ad.block, ad.off + 2, none⟩) hadb).trans HD.out.2.2.1
       have f3 := (hb7.cell (p := ⟨ad.block, ad.off + 3, none⟩) hadb).trans HD.out.2.2.2)
    | (go_at_call 20; refine (same_t (HRD1.out.more HB17.out) HRP7.out HSy.out).mono ?_; rintro e w9 ⟨rfl, hb9⟩)
    | fail)
  go_ret
  have hbb := HB1.out.trans (HB17.out.mono HB1.out.size)
  exact ⟨by rfl, hbb.trans (hb9.mono hbb.size)⟩
end Go.Proofs.Ytmeppeadfhifeaa
