/- The words of a record: the reference's Body. Conditions: the writes read as pages. -/
import Derived.Test.YtmeppeadfhifeaaBody
import Derived.Deep.RegionHeld3
import Derived.Deep.AppendLies
namespace Go.Proofs.Ytmeppeadfhifeaa
open Go.RowKit
set_option linter.unusedVariables false
set_option linter.unusedSimpArgs false

theorem cells_d (p : Pg) (j : Nat) (h : j < 7) : p.cells[2 + j]? = some (.int .u64 (p.d j : Int)) := by
  match j, h with
  | 0, _ => rfl
  | 1, _ => rfl
  | 2, _ => rfl
  | 3, _ => rfl
  | 4, _ => rfl
  | 5, _ => rfl
  | 6, _ => rfl
def dataW (p : Pg) (m : Nat) : List Nat := (List.range m).map p.d
theorem dataW_succ (p : Pg) (m : Nat) : dataW p (m + 1) = dataW p m ++ [p.d m] := by simp [dataW, List.range_succ]
theorem pageW_data (p : Pg) : pageW p = [p.line.toNat, p.head] ++ dataW p 7 := by simp [pageW, dataW, List.range_succ]
theorem wcells_snoc (ws : List Nat) (x : Nat) : wcells (ws ++ [x]) = wcells ws ++ [.int .u64 (x : Int)] := by simp [wcells]

theorem own_mono {w : World} {base base' n : Nat} {e : TypeId} {size : Nat} {v : Value} {xs : List Value} (h : w.ownsRow base e size v n xs) (hb : base' ≤ base) : w.ownsRow base' e size v n xs := by
  refine ⟨h.1, ?_⟩
  rcases h.2 with hn | ⟨g, cap, cur, hv, hbg, rest⟩
  · exact .inl hn
  · exact .inr ⟨g, cap, cur, hv, by omega, rest⟩
set_option maxHeartbeats 4000000 in
theorem refbody_x (seq : Int) (n cap : Nat) (A : Option Addr) (ps : List Pg) (w : World) (hp : ReadsP w A n ps) :
    Calls Try.prog 26 #[.agg #[.int .i64 seq, .slice A n cap]] w fun e w' => (∃ v, e = .returned v ∧ w'.ownsRow w.heap.size 23 1 v (bodyN seq ps).length (wcells (bodyN seq ps))) ∧ Below w.heap.size w w' := by
  obtain ⟨i0, hi, hz0, hz1, hz2⟩ := info_parts info23
  have hn := hp.2.1
  have HP := Lib.hid hp
  have hb0 : Below w.heap.size w (w.alloc (.cells #[.int .i64 seq, .slice A n cap] 27)) := (Below.refl _ w).alloc (Nat.le_refl _) _
  have hv := validrecord_x seq 256 n cap A ps _ (HP.out.more hb0)
  by_cases hval : validN seq ps 256 = 0
  · have hbn : bodyN seq ps = preW seq ps ++ [Crc.words (preW seq ps)] := if_pos hval
    rw [hbn, show (preW seq ps ++ [Crc.words (preW seq ps)]).length = 2 + 9 * n + 1 by rw [List.length_append, preW_length, hp.1]; rfl]
    generalize hpre : preW seq ps = pre
    have HPRE := Lib.hid hpre
    clear hpre
    rw [hval] at hv
    obtain ⟨_, ⟨h1, h2⟩, ⟨h3, h4⟩, h5, _, _⟩ := validN_0 _ _ _ hval
    have HL5 := Lib.hid h5
    have HLen := Lib.hid hp.1
    rw [hp.1] at h3 h4
    clear hp h5 hbn hval
    go_enter Try.func26, Try.ntmps26
    go_wp2_with (first
      | (go_at_call 24; refine hv.mono ?_; rintro e w1 ⟨rfl, hb1⟩
         have g0 : w1.cell? ⟨w.heap.size, 0, none⟩ = some (.int .i64 seq) := (hb1.cell (p := ⟨w.heap.size, 0, none⟩) (by simp)).trans (by simp)
         have g1 : w1.cell? ⟨w.heap.size, 1, none⟩ = some (.slice A n cap) := (hb1.cell (p := ⟨w.heap.size, 1, none⟩) (by simp)).trans (by simp)
         have g2 : (w1.alloc (.cells #[.int .u64 seq, .int .u64 (n : Int)] 23)).cell? ⟨w.heap.size, 1, none⟩ = some (.slice A n cap) := (((Below.refl _ w1).alloc (Nat.le_refl _) _).cell (p := ⟨w.heap.size, 1, none⟩) (by have := hb1.size; simp at this; simp; omega)).trans g1)
      | fail)
    have hbw := hb0.trans (hb1.mono hb0.size)
    have hsz1 : w.heap.size + 1 ≤ w1.heap.size := by have := hb1.size; simpa using this
    have hown0 : (w1.alloc (.cells #[.int .u64 seq, .int .u64 (n : Int)] 23)).ownsRow (w.heap.size + 1) 23 1 (.slice (some ⟨w1.heap.size, 0, none⟩) 2 2) 2 (wcells [seq.toNat, ps.length]) := by
      have := World.ownsRow_lit (base := w.heap.size + 1) (size := 1) (e := 23) w1 #[.int .u64 seq, .int .u64 (n : Int)] 2 hsz1 (by unfold maxLen; omega) rfl
      rw [show wcells [seq.toNat, ps.length] = [.int .u64 seq, .int .u64 (n : Int)] by simp only [wcells, List.map_cons, List.map_nil]; rw [HLen.out, Int.toNat_of_nonneg (by omega)]]
      exact this
    have hbel0 : Below w.heap.size w (w1.alloc (.cells #[.int .u64 seq, .int .u64 (n : Int)] 23)) := hbw.alloc hbw.size _
    have hsz2 : w.heap.size + 1 ≤ (w1.alloc (.cells #[.int .u64 seq, .int .u64 (n : Int)] 23)).heap.size := by simp; omega
    clear g0 g1 hbw hb1 hv hsz1
    generalize w1.alloc (.cells #[.int .u64 seq, .int .u64 (n : Int)] 23) = w2 at *
    go_loopg [3, 4, 5] n (fun g s3 s4 _ wx => ∃ k : Nat, k + g = n ∧ s4 = .int .i64 k ∧ wx.ownsRow (w.heap.size + 1) 23 1 s3 (2 + 9 * k) (wcells ([seq.toNat, ps.length] ++ (ps.take k).flatMap pageW)) ∧ wx.cell? ⟨w.heap.size, 1, none⟩ = some (.slice A n cap) ∧ w.heap.size + 1 ≤ wx.heap.size ∧ Below w.heap.size w wx)
    case atStart => exact ⟨0, by omega, rfl, by simpa using hown0, g2, hsz2, hbel0⟩
    case round =>
      obtain ⟨k, hk, rfl, hown, hbox, hszx, hbel⟩ := hrel
      clear hown0 hbel0 g2 hsz2
      cases gk with
      | zero =>
        have hge : ¬ ((k : Int) < (n : Int)) := by omega
        have e : ps.take k = ps := List.take_of_length_le (by have := HLen.out; omega)
        rw [e] at hown
        have hlen9 := preW_length seq ps
        rw [HLen.out] at hlen9
        have hpo := preW_ok seq ps ⟨h1, h2⟩ (by have := HLen.out; omega) (fun p hm => ⟨HP.out.2.2.1 p hm, HL5.out p hm⟩)
        rw [show [seq.toNat, ps.length] ++ ps.flatMap pageW = preW seq ps from rfl, HPRE.out] at hown
        rw [HPRE.out] at hpo hlen9
        obtain ⟨A1, c1, rfl, hr⟩ := own_readsW hown hpo (by omega)
        have HR := Lib.hid hr
        have HO := Lib.hid hown
        have HKN := Lib.hid (show k = n by omega)
        clear hr hown e hlen9
        go_wp2_with (first
          | (go_at_call 47; refine (refwords_x _ _ _ _ _ HR.out).mono ?_; rintro e w3 ⟨rfl, hb3⟩)
          | (at_builtin; refine wpList_append_own _ rfl _ _ 24 rfl (w.heap.size + 1) 23 i0 (.int .u64 0) 1 8 Try.underlying24 hi hz0 hz1 hz2 rfl (by decide) _ _ _ rfl ((own_below HO.out hb3).alloc _) ⟨w3.heap.size, 0, none⟩ 1 1 [.int .u64 ((Crc.words pre : Nat) : Int)] rfl rfl ?c1 ?c2 ?c3 ?c4 ?c5 ?_)
          | fail)
        case c1 => exact cell_one23 _ _
        case c2 => intro u hu; simp at hu; subst hu; rfl
        case c3 => unfold maxLen; omega
        case c4 => omega
        case c5 => have := hb3.size; simp; omega
        intro v' w4 hown4 hgrow4 _
        have hbel3 := hbel.trans (hb3.mono hbel.size)
        have hbel4 := (hbel3.alloc hbel3.size _).grown hgrow4 (by have := hbel3.size; simp; omega) (fun k e => by have := ((own_below HO.out hb3).lt k e).1; omega)
        clear hgrow4
        go_wp2
        go_ret
        refine ⟨⟨v', rfl, ?_⟩, hbel4⟩
        rw [wcells_append, ← HKN.out]
        exact own_mono hown4 (by omega)
      | succ g =>
        have hlt : (k : Int) < (n : Int) := by omega
        obtain ⟨p, hp⟩ := get_of_lt ps k (by have := HLen.out; omega)
        obtain ⟨b, o, rfl, hbl, hc⟩ := (HP.out.more hbel).2.2.2 k (by omega)
        have hbw : b < w.heap.size := by
          obtain ⟨b', o', e', hlt', _⟩ := HP.out.2.2.2 k (by omega)
          cases e'; exact hlt'
        have hpl := HL5.out p (List.mem_of_getElem? hp)
        have q0 : wr.cell? ⟨b, o + k * 9, none⟩ = some (.int .i64 p.line) := hc p hp 0 _ rfl
        have q1 : wr.cell? ⟨b, o + k * 9 + 1, none⟩ = some (.int .u64 (p.head : Int)) := hc p hp 1 _ rfl
        have hq : ∀ j, j < 7 → w.cell? ⟨b, o + k * 9 + (2 + j), none⟩ = some (.int .u64 (p.d j : Int)) := by
          intro j hj
          obtain ⟨b', o', e', hlt', hc'⟩ := HP.out.2.2.2 k (by omega)
          cases e'
          exact hc' p hp (2 + j) _ (cells_d p j hj)
        have HQ := Lib.hid hq
        have HS := Lib.hid (show ps.take (k + 1) = ps.take k ++ [p] by
          rw [List.take_add_one, hp]; rfl)
        have HO := Lib.hid hown
        obtain ⟨hpl1, hpl2⟩ := hpl
        have e27 : IntKind.u64.wrap p.line = p.line := IntWalk.u64_in _ ⟨by omega, by omega⟩
        clear hc hp hown hq
        have hi0' : (0 : Int) ≤ (k : Int) := Int.natCast_nonneg _
        have ag : u3.ownBlock ≠ some w.heap.size := by intro e; have := (HO.out.lt _ e).1; omega
        have ab : u3.ownBlock ≠ some b := by intro e; have := (HO.out.lt _ e).1; omega
        have hszw : w.heap.size < wr.heap.size := by omega
        go_wp2_with fail
        go_region_held3 (fun w' => w'.cell? ⟨w.heap.size, 1, none⟩ = some (.slice (some ⟨b, o, none⟩) n cap) ∧ w'.cell? ⟨b, o + k * 9, none⟩ = some (.int .i64 p.line) ∧
            w'.cell? ⟨b, o + k * 9 + 1, none⟩ = some (.int .u64 (p.head : Int)))
          (first
            | go_keep
            | (go_split_ands
               refine ⟨?_, ?_, ?_⟩
               · (rw [hgrow.cell_far _ (by simp; omega) (Ne.symm ag)]; assumption)
               · (rw [hgrow.cell_far _ (by simp; omega) (Ne.symm ab)]; assumption)
               · (rw [hgrow.cell_far _ (by simp; omega) (Ne.symm ab)]; assumption)))
          ((refine step_append_lies _ (by rfl) _ _ _ (by rfl) (w.heap.size + 1) 23 i0 (.int .u64 0) 1 8 Try.underlying24 hi hz0 hz1 hz2 rfl (by omega) u3 _ _ (by rfl) ((HO.out.alloc _).drew)
              ⟨wr.heap.size, 0, none⟩ 2 2 [.int .u64 p.line, .int .u64 (p.head : Int)] (by rfl) (by rfl) (cell_two23 wr _ _) (by simp [Value.oneCell'])
              (by omega) (by unfold maxLen; omega) (by omega) (by simp; omega) (wr.heap.size + 1) (by simp) ?_; intro gg cp w3 hown3 hgrow hat hlt3))
        have hbx := (show w3.cell? ⟨w.heap.size, 1, none⟩ = some (.slice (some ⟨b, o, none⟩) n cap) ∧ w3.cell? ⟨b, o + k * 9, none⟩ = some (.int .i64 p.line) ∧
            w3.cell? ⟨b, o + k * 9 + 1, none⟩ = some (.int .u64 (p.head : Int)) from by assumption).1
        have hbel3 : Below w.heap.size w w3 := ((hbel.alloc hbel.size _).drew).grown hgrow (by have := hbel.size; simp; omega) (fun k e => by have := (HO.out.lt k e).1; omega)
        have hsz3 : w.heap.size + 1 ≤ w3.heap.size := by have := hgrow.size; simp at this; omega
        have hw3 : wcells ([seq.toNat, ps.length] ++ List.flatMap pageW (List.take k ps)) ++ [Value.int IntKind.u64 p.line, Value.int IntKind.u64 ↑p.head] = wcells (([seq.toNat, ps.length] ++ List.flatMap pageW (List.take k ps)) ++ [p.line.toNat, p.head] ++ dataW p 0) := by
          simp [wcells, dataW, Int.toNat_of_nonneg (show 0 ≤ p.line by omega)]
        rw [hw3] at hown3
        have HST := Lib.hid (show [seq.toNat, ps.length] ++ (ps.take (k + 1)).flatMap pageW = ([seq.toNat, ps.length] ++ List.flatMap pageW (List.take k ps)) ++ [p.line.toNat, p.head] ++ dataW p 7 by
          rw [HS.out, List.flatMap_append, List.flatMap_cons, List.flatMap_nil, List.append_nil, pageW_data]
          simp only [List.append_assoc])
        generalize ([seq.toNat, ps.length] ++ List.flatMap pageW (List.take k ps)) ++ [p.line.toNat, p.head] = pk at hown3 HST
        have HO3 := Lib.hid hown3
        clear hw3 hown3 hgrow hat hlt3 q0 q1 e27 ag ab HO hbox
        go_wp2
        go_loopg [3, 5] 7 (fun g2 s3 s5 wx => ∃ m : Nat, m + g2 = 7 ∧ s5 = .int .i64 m ∧ wx.ownsRow (w.heap.size + 1) 23 1 s3 (2 + 9 * k + 2 + m) (wcells (pk ++ dataW p m)) ∧ wx.cell? ⟨w.heap.size, 1, none⟩ = some (.slice (some ⟨b, o, none⟩) n cap) ∧ w.heap.size + 1 ≤ wx.heap.size ∧ Below w.heap.size w wx)
        case atStart => exact ⟨0, by omega, rfl, HO3.out, hbx, hsz3, hbel3⟩
        case round =>
          obtain ⟨m, hm, rfl, hown5, hbx5, hsz5, hbel5⟩ := hrel
          clear hbx hsz3 hbel3
          have HO5 := Lib.hid hown5
          clear hown5
          cases gk with
          | zero =>
            have HM := Lib.hid (show m = 7 by omega)
            have hge : ¬ ((m : Int) < 7) := by omega
            go_wp2
            go_roundg g
            case measure => omega
            case rel =>
              refine ⟨k + 1, by omega, by go_num, ?_, hbx5, hsz5, hbel5⟩
              have h5 := HO5.out
              rw [HM.out] at h5
              rw [HST.out, show 2 + 9 * (k + 1) = 2 + 9 * k + 2 + 7 by omega]
              exact h5
          | succ g2 =>
            have hlt2 : (m : Int) < 7 := by omega
            have qd : wr.cell? ⟨b, o + k * 9 + 2 + m, none⟩ = some (.int .u64 (p.d m : Int)) := by
              rw [Nat.add_assoc (o + k * 9) 2 m]
              exact (hbel5.cell (p := ⟨b, _, none⟩) hbw).trans (HQ.out m (by omega))
            go_wp2_with (first
              | (at_builtin; refine wpList_append_own _ rfl _ _ 24 rfl (w.heap.size + 1) 23 i0 (.int .u64 0) 1 8 Try.underlying24 hi hz0 hz1 hz2 rfl (by decide) _ _ _ rfl (HO5.out.alloc _) ⟨wr.heap.size, 0, none⟩ 1 1 [.int .u64 (p.d m : Int)] rfl rfl ?c1 ?c2 ?c3 ?c4 ?c5 ?_)
              | fail)
            case c1 => exact cell_one23 _ _
            case c2 => intro u hu; simp at hu; subst hu; rfl
            case c3 => unfold maxLen; omega
            case c4 => omega
            case c5 => simp; omega
            intro v' w6 hown6 hgrow6 _
            have hbel6 := (hbel5.alloc hbel5.size _).grown hgrow6 (by have := hbel5.size; simp; omega) (fun k e => by have := (HO5.out.lt k e).1; omega)
            have hbx6 : w6.cell? ⟨w.heap.size, 1, none⟩ = some (.slice (some ⟨b, o, none⟩) n cap) :=
              hgrow6.cell ((((Below.refl _ wr).alloc (Nat.le_refl _) _).cell (p := ⟨w.heap.size, 1, none⟩) (by simp; omega)).trans hbx5) (by intro e; have := (HO5.out.lt _ e.symm).1; simp at this; omega)
            have hsz6 : w.heap.size + 1 ≤ w6.heap.size := by have := hgrow6.size; simp at this; omega
            have HO6 := Lib.hid hown6
            clear hgrow6 hown6
            go_wp2
            go_roundg g2
            case measure => omega
            case rel =>
              refine ⟨m + 1, by omega, by go_num, ?_, hbx6, hsz6, hbel6⟩
              rw [dataW_succ, ← List.append_assoc, wcells_snoc]
              exact HO6.out
  · have hbn : bodyN seq ps = [] := if_neg hval
    rw [hbn]
    have hbne : (validN seq ps 256 != 0) = true := by rw [bne_iff_ne]; exact hval
    clear hp hbn hval
    generalize validN seq ps 256 = r at hv hbne
    go_enter Try.func26, Try.ntmps26
    go_wp2_with (first | (go_at_call 24; refine hv.mono ?_; rintro e w1 ⟨rfl, hb1⟩) | fail)
    go_ret
    exact ⟨⟨_, rfl, World.ownsRow_nil _ _ _ _⟩, hb0.trans (hb1.mono hb0.size)⟩
end Go.Proofs.Ytmeppeadfhifeaa
