-- PRINTED BY print.sh 35421559b90ae4d0a3588c463048766b98c2df88dd9212a6774a882060cdf62d: not written by this session
import Derived.Test.YtpcoflcelmfnbaaPWordSplitsx0
import Derived.Test.YtpcoflcelmfnbaaPWordSplitsx1
import Derived.Test.YtpcoflcelmfnbaaPWordSplitsx2
namespace Go.Proofs.Ytpcoflcelmfnbaa.PWordSplits
open Go.RowKit Go.Proofs.YtpcoflcelmfnbaaW.PrintWords Go.Proofs.YtpcoflcelmfnbaaW.PrintLast Go.Proofs.YtpcoflcelmfnbaaW.PrintMore
attribute [local go_sem] max2_int min2_int max_two min_two max_three min_three max_four min_four   -- for this text's walks alone
set_option linter.unusedVariables false
set_option linter.unusedSimpArgs false

/-! ### bodegalaw1_WordSplits: function 10 -/
mutual
def bodegalaw1_WordSplits.j0 : Nat → Int → Bool → Option (Bool)
  | 0, _, _ => none
  | k + 1, x0, x60 => if x60 = true then (some false) else ((word_SplitTag.f x0).bind fun bt167 => ((bodegaref1_SplitTag.f x0).bind fun bt170 => (if bt167.1 = bt170.1 then (if bt167.2.1 = bt170.2.1 then (bodegalaw1_WordSplits.j1 k x0 (bt167.2.2 != bt170.2.2)) else (bodegalaw1_WordSplits.j1 k x0 true)) else (bodegalaw1_WordSplits.j1 k x0 true))))
def bodegalaw1_WordSplits.j1 : Nat → Int → Bool → Option (Bool)
  | 0, _, _ => none
  | k + 1, x0, x85 => if x85 = true then (some false) else ((word_SplitLease.f x0).bind fun bt173 => ((bodegaref1_SplitLease.f x0).bind fun bt176 => (if bt173.1 = bt176.1 then (if bt173.2.1 = bt176.2.1 then (bodegalaw1_WordSplits.j2 k x0 (bt173.2.2 != bt176.2.2)) else (bodegalaw1_WordSplits.j2 k x0 true)) else (bodegalaw1_WordSplits.j2 k x0 true))))
def bodegalaw1_WordSplits.j2 : Nat → Int → Bool → Option (Bool)
  | 0, _, _ => none
  | k + 1, x0, x110 => if x110 = true then (some false) else ((word_SplitBallot.f x0).bind fun bt179 => ((bodegaref1_SplitBallot.f k x0).bind fun bt182 => ((word_SplitConsensus.f x0).bind fun bt185 => ((bodegaref1_SplitConsensus.f x0).bind fun bt188 => (if bt179.1 = bt182.1 then (if bt179.2.1 = bt182.2.1 then (if (bt179.2.2 == bt182.2.2) = true then (if bt185.1 = bt188.1 then (if bt185.2.1 = bt188.2.1 then (some (bt185.2.2 == bt188.2.2)) else (some false)) else (some false)) else (some false)) else (some false)) else (some false))))))
end
def bodegalaw1_WordSplits.f (k : Nat) (a0 : Int) : Option (Bool) := (word_SplitKey.f a0).bind fun bt160 => ((word_SplitMark.f a0).bind fun bt162 => ((bodegaref1_SplitMark.f a0).bind fun bt164 => ((bodegalaw1_awake.f).bind fun t166 => (if t166 = true then (if bt160.1 = (IntKind.u64.wrap (Int.tdiv a0 2)) then (if (bt160.2 != ((Int.tmod a0 2) == 1)) = true then (bodegalaw1_WordSplits.j0 k a0 true) else (if bt162.1 = bt164.1 then (bodegalaw1_WordSplits.j0 k a0 (bt162.2 != bt164.2)) else (bodegalaw1_WordSplits.j0 k a0 true))) else (bodegalaw1_WordSplits.j0 k a0 true)) else (bodegalaw1_WordSplits.j0 k a0 true)))))
theorem bodegalaw1_WordSplits.mono_l : ∀ k, (∀ y0 y1, LeO (bodegalaw1_WordSplits.j0 k y0 y1) (bodegalaw1_WordSplits.j0 (k + 1) y0 y1)) ∧ (∀ y0 y1, LeO (bodegalaw1_WordSplits.j1 k y0 y1) (bodegalaw1_WordSplits.j1 (k + 1) y0 y1)) ∧ (∀ y0 y1, LeO (bodegalaw1_WordSplits.j2 k y0 y1) (bodegalaw1_WordSplits.j2 (k + 1) y0 y1))
  | 0 => ⟨fun _ _ r h => by simp [bodegalaw1_WordSplits.j0] at h, fun _ _ r h => by simp [bodegalaw1_WordSplits.j1] at h, fun _ _ r h => by simp [bodegalaw1_WordSplits.j2] at h⟩
  | k + 1 => by
    obtain ⟨ih0, ih1, ih2⟩ := bodegalaw1_WordSplits.mono_l k
    refine ⟨?_, ?_, ?_⟩
    · intro y0 y1
      unfold bodegalaw1_WordSplits.j0
      repeat' first
      | (with_reducible exact ih0 _ _)
      | (with_reducible exact ih1 _ _)
      | (with_reducible exact ih2 _ _)
      | (with_reducible exact bodegaref1_SplitBallot.mono _ _)
      | (with_reducible exact LeO.refl _)
      | (with_reducible exact LeO.none _)
      | (with_reducible refine LeO.ite ?_ ?_)
      | (with_reducible refine LeO.bind ?_ (fun _ => ?_))
      | exact ih0 _ _
      | exact ih1 _ _
      | exact ih2 _ _
      | exact bodegaref1_SplitBallot.mono _ _
      | exact LeO.none _
      | refine LeO.ite ?_ ?_
      | refine LeO.bind ?_ (fun _ => ?_)
    · intro y0 y1
      unfold bodegalaw1_WordSplits.j1
      repeat' first
      | (with_reducible exact ih0 _ _)
      | (with_reducible exact ih1 _ _)
      | (with_reducible exact ih2 _ _)
      | (with_reducible exact bodegaref1_SplitBallot.mono _ _)
      | (with_reducible exact LeO.refl _)
      | (with_reducible exact LeO.none _)
      | (with_reducible refine LeO.ite ?_ ?_)
      | (with_reducible refine LeO.bind ?_ (fun _ => ?_))
      | exact ih0 _ _
      | exact ih1 _ _
      | exact ih2 _ _
      | exact bodegaref1_SplitBallot.mono _ _
      | exact LeO.none _
      | refine LeO.ite ?_ ?_
      | refine LeO.bind ?_ (fun _ => ?_)
    · intro y0 y1
      unfold bodegalaw1_WordSplits.j2
      repeat' first
      | (with_reducible exact ih0 _ _)
      | (with_reducible exact ih1 _ _)
      | (with_reducible exact ih2 _ _)
      | (with_reducible exact bodegaref1_SplitBallot.mono _ _)
      | (with_reducible exact LeO.refl _)
      | (with_reducible exact LeO.none _)
      | (with_reducible refine LeO.ite ?_ ?_)
      | (with_reducible refine LeO.bind ?_ (fun _ => ?_))
      | exact ih0 _ _
      | exact ih1 _ _
      | exact ih2 _ _
      | exact bodegaref1_SplitBallot.mono _ _
      | exact LeO.none _
      | refine LeO.ite ?_ ?_
      | refine LeO.bind ?_ (fun _ => ?_)
theorem bodegalaw1_WordSplits.mono : ∀ a0 k, LeO (bodegalaw1_WordSplits.f k a0) (bodegalaw1_WordSplits.f (k + 1) a0) := by
  intro a0 k
  obtain ⟨ih0, ih1, ih2⟩ := bodegalaw1_WordSplits.mono_l k
  unfold bodegalaw1_WordSplits.f
  repeat' first
      | (with_reducible exact ih0 _ _)
      | (with_reducible exact ih1 _ _)
      | (with_reducible exact ih2 _ _)
      | (with_reducible exact bodegaref1_SplitBallot.mono _ _)
      | (with_reducible exact LeO.refl _)
      | (with_reducible exact LeO.none _)
      | (with_reducible refine LeO.ite ?_ ?_)
      | (with_reducible refine LeO.bind ?_ (fun _ => ?_))
      | exact ih0 _ _
      | exact ih1 _ _
      | exact ih2 _ _
      | exact bodegaref1_SplitBallot.mono _ _
      | exact LeO.none _
      | refine LeO.ite ?_ ?_
      | refine LeO.bind ?_ (fun _ => ?_)
set_option maxHeartbeats 8000000 in
set_option maxRecDepth 100000 in
theorem bodegalaw1_WordSplits.calls (k : Nat) (a0 : Int) (r : Bool) (w : World) (h : bodegalaw1_WordSplits.f k a0 = some r) :
    Calls Try.prog 10 #[.int .u64 a0] w fun e w' => e = .returned (.bool r) ∧ Drawn0 w w' := by
  have H : ((word_SplitKey.f a0).bind fun bt160 => ((word_SplitMark.f a0).bind fun bt162 => ((bodegaref1_SplitMark.f a0).bind fun bt164 => ((bodegalaw1_awake.f).bind fun t166 => (if t166 = true then (if bt160.1 = (IntKind.u64.wrap (Int.tdiv a0 2)) then (if (bt160.2 != ((Int.tmod a0 2) == 1)) = true then (bodegalaw1_WordSplits.j0 k a0 true) else (if bt162.1 = bt164.1 then (bodegalaw1_WordSplits.j0 k a0 (bt162.2 != bt164.2)) else (bodegalaw1_WordSplits.j0 k a0 true))) else (bodegalaw1_WordSplits.j0 k a0 true)) else (bodegalaw1_WordSplits.j0 k a0 true)))))) = some r := h
  clear h
  replace H := Option.bind_eq_some_iff.mp H
  obtain ⟨⟨t160, t161⟩, A20, H⟩ := H
  replace H : ((word_SplitMark.f a0).bind fun bt162 => ((bodegaref1_SplitMark.f a0).bind fun bt164 => ((bodegalaw1_awake.f).bind fun t166 => (if t166 = true then (if t160 = (IntKind.u64.wrap (Int.tdiv a0 2)) then (if (t161 != ((Int.tmod a0 2) == 1)) = true then (bodegalaw1_WordSplits.j0 k a0 true) else (if bt162.1 = bt164.1 then (bodegalaw1_WordSplits.j0 k a0 (bt162.2 != bt164.2)) else (bodegalaw1_WordSplits.j0 k a0 true))) else (bodegalaw1_WordSplits.j0 k a0 true)) else (bodegalaw1_WordSplits.j0 k a0 true))))) = some r := H
  have A2 := Aside0.mk A20
  clear A20
  replace H := Option.bind_eq_some_iff.mp H
  obtain ⟨⟨t162, t163⟩, A30, H⟩ := H
  replace H : ((bodegaref1_SplitMark.f a0).bind fun bt164 => ((bodegalaw1_awake.f).bind fun t166 => (if t166 = true then (if t160 = (IntKind.u64.wrap (Int.tdiv a0 2)) then (if (t161 != ((Int.tmod a0 2) == 1)) = true then (bodegalaw1_WordSplits.j0 k a0 true) else (if t162 = bt164.1 then (bodegalaw1_WordSplits.j0 k a0 (t163 != bt164.2)) else (bodegalaw1_WordSplits.j0 k a0 true))) else (bodegalaw1_WordSplits.j0 k a0 true)) else (bodegalaw1_WordSplits.j0 k a0 true)))) = some r := H
  have A3 := Aside0.mk A30
  clear A30
  replace H := Option.bind_eq_some_iff.mp H
  obtain ⟨⟨t164, t165⟩, A40, H⟩ := H
  replace H : ((bodegalaw1_awake.f).bind fun t166 => (if t166 = true then (if t160 = (IntKind.u64.wrap (Int.tdiv a0 2)) then (if (t161 != ((Int.tmod a0 2) == 1)) = true then (bodegalaw1_WordSplits.j0 k a0 true) else (if t162 = t164 then (bodegalaw1_WordSplits.j0 k a0 (t163 != t165)) else (bodegalaw1_WordSplits.j0 k a0 true))) else (bodegalaw1_WordSplits.j0 k a0 true)) else (bodegalaw1_WordSplits.j0 k a0 true))) = some r := H
  have A4 := Aside0.mk A40
  clear A40
  have HC5 := Aside0.mk H
  clear H
  go_enter Try.func10, Try.ntmps10
  go_upto_region 4 with (first | ((with_reducible refine gate_callee (f := 39) rfl ?_); refine goesL_ (some 23) rfl rfl Try.func39 (by kernel_rfl) rfl #[.int .u64 a0] rfl (by (try simp only [List.map_toArray, List.map_cons, List.map_nil]); first | done | rfl | (simp only [List.length_drop, List.length_take]; rfl)) ?_; (with_reducible refine (word_SplitKey.calls a0 t160 t161 _ A2.out).mono ?_); rintro e w' ⟨rfl, ⟨nd, rfl⟩⟩; refine ⟨_, rfl, ?_⟩) | ((with_reducible refine gate_callee (f := 40) rfl ?_); refine goesL_ (some 28) rfl rfl Try.func40 (by kernel_rfl) rfl #[.int .u64 a0] rfl (by (try simp only [List.map_toArray, List.map_cons, List.map_nil]); first | done | rfl | (simp only [List.length_drop, List.length_take]; rfl)) ?_; (with_reducible refine (word_SplitMark.calls a0 t162 t163 _ A3.out).mono ?_); rintro e w' ⟨rfl, ⟨nd, rfl⟩⟩; refine ⟨_, rfl, ?_⟩) | ((with_reducible refine gate_callee (f := 44) rfl ?_); refine goesL_ (some 33) rfl rfl Try.func44 (by kernel_rfl) rfl #[.int .u64 a0] rfl (by (try simp only [List.map_toArray, List.map_cons, List.map_nil]); first | done | rfl | (simp only [List.length_drop, List.length_take]; rfl)) ?_; (with_reducible refine (bodegaref1_SplitMark.calls a0 t164 t165 _ A4.out).mono ?_); rintro e w' ⟨rfl, ⟨nd, rfl⟩⟩; refine ⟨_, rfl, ?_⟩))
  (try simp only [Act.put, List.setIfInBounds_toArray, List.set_cons_zero, List.set_cons_succ])
  go_cut [60] (fun v60 wc => ∃ (kq : Nat) (x60_4 : Bool), v60 = .bool x60_4 ∧ Aside0 (bodegalaw1_WordSplits.j0 kq a0 x60_4 = some r) ∧ Aside0 (kq ≤ k) ∧ Drawn0 w wc)
  case first =>
    have H := HC5.out
    clear HC5
    replace H := Option.bind_eq_some_iff.mp H
    obtain ⟨t166, A60, H⟩ := H
    replace H : (if t166 = true then (if t160 = (IntKind.u64.wrap (Int.tdiv a0 2)) then (if (t161 != ((Int.tmod a0 2) == 1)) = true then (bodegalaw1_WordSplits.j0 k a0 true) else (if t162 = t164 then (bodegalaw1_WordSplits.j0 k a0 (t163 != t165)) else (bodegalaw1_WordSplits.j0 k a0 true))) else (bodegalaw1_WordSplits.j0 k a0 true)) else (bodegalaw1_WordSplits.j0 k a0 true)) = some r := H
    have A6 := Aside0.mk A60
    clear A60
    by_cases c7 : t166 = true
    · subst c7
      have H1 : (if t160 = (IntKind.u64.wrap (Int.tdiv a0 2)) then (if (t161 != ((Int.tmod a0 2) == 1)) = true then (bodegalaw1_WordSplits.j0 k a0 true) else (if t162 = t164 then (bodegalaw1_WordSplits.j0 k a0 (t163 != t165)) else (bodegalaw1_WordSplits.j0 k a0 true))) else (bodegalaw1_WordSplits.j0 k a0 true)) = some r := by rw [if_pos rfl] at H; exact H
      clear H
      have H := H1
      clear H1
      by_cases c8 : t160 = (IntKind.u64.wrap (Int.tdiv a0 2))
      · rw [if_pos c8] at H
        have c8b0 : (t160 == (IntKind.u64.wrap (Int.tdiv a0 2))) = true := beq_iff_eq.mpr c8
        have c8b1 : (t160 != (IntKind.u64.wrap (Int.tdiv a0 2))) = false := bne_eq_false_iff_eq.mpr c8
        clear c8
        (first | rw [c8b0] | (simp only [i64_w, i32_w]; rw [c8b0]) | skip)
        by_cases c9 : (t161 != ((Int.tmod a0 2) == 1)) = true
        · rw [if_pos c9] at H
          have c9b0 : (t161 != ((Int.tmod a0 2) == 1)) = true := c9
          (try (have c9b1 : decide (t161 = ((Int.tmod a0 2) == 1)) = false := by simpa using c9))
          (try (have c9b2 : (t161 == ((Int.tmod a0 2) == 1)) = false := by simpa using c9))
          (try (have c9b3 : ¬ (t161 = ((Int.tmod a0 2) == 1)) := by simpa using c9))
          clear c9
          have H' := Aside0.mk H
          clear H
          go_wp2_with (first | ((with_reducible refine gate_callee (f := 19) rfl ?_); refine goesL_ (some 36) rfl rfl Try.func19 (by kernel_rfl) rfl #[] rfl (by (try simp only [List.map_toArray, List.map_cons, List.map_nil]); first | done | rfl | (simp only [List.length_drop, List.length_take]; rfl)) ?_; (with_reducible refine (bodegalaw1_awake.calls  true _ A6.out).mono ?_); rintro e w' ⟨rfl, ⟨nd, rfl⟩⟩; refine ⟨_, rfl, ?_⟩))
          go_meet
          case rel => exact ⟨_, (true), (by first | rfl | (simp; done) | (simp [*]; done)), H', ⟨by first | omega | exact Nat.le_refl _⟩, by repeat (first | exact Drawn0.refl _ | apply Drawn0.step)⟩
        · rw [if_neg c9] at H
          have c9b0 : (t161 != ((Int.tmod a0 2) == 1)) = false := by simpa using c9
          (try (have c9b1 : decide (t161 = ((Int.tmod a0 2) == 1)) = true := by simpa using c9))
          (try (have c9b2 : (t161 == ((Int.tmod a0 2) == 1)) = true := by simpa using c9))
          clear c9
          by_cases c10 : t162 = t164
          · rw [if_pos c10] at H
            have c10b0 : (t162 == t164) = true := beq_iff_eq.mpr c10
            have c10b1 : (t162 != t164) = false := bne_eq_false_iff_eq.mpr c10
            clear c10
            have H' := Aside0.mk H
            clear H
            go_wp2_with (first | ((with_reducible refine gate_callee (f := 19) rfl ?_); refine goesL_ (some 36) rfl rfl Try.func19 (by kernel_rfl) rfl #[] rfl (by (try simp only [List.map_toArray, List.map_cons, List.map_nil]); first | done | rfl | (simp only [List.length_drop, List.length_take]; rfl)) ?_; (with_reducible refine (bodegalaw1_awake.calls  true _ A6.out).mono ?_); rintro e w' ⟨rfl, ⟨nd, rfl⟩⟩; refine ⟨_, rfl, ?_⟩))
            go_meet
            case rel => exact ⟨_, ((t163 != t165)), (by first | rfl | (simp; done) | (simp [*]; done)), H', ⟨by first | omega | exact Nat.le_refl _⟩, by repeat (first | exact Drawn0.refl _ | apply Drawn0.step)⟩
          · rw [if_neg c10] at H
            have c10b0 : (t162 == t164) = false := beq_eq_false_iff_ne.mpr c10
            have c10b1 : (t162 != t164) = true := bne_iff_ne.mpr c10
            have H' := Aside0.mk H
            clear H
            go_wp2_with (first | ((with_reducible refine gate_callee (f := 19) rfl ?_); refine goesL_ (some 36) rfl rfl Try.func19 (by kernel_rfl) rfl #[] rfl (by (try simp only [List.map_toArray, List.map_cons, List.map_nil]); first | done | rfl | (simp only [List.length_drop, List.length_take]; rfl)) ?_; (with_reducible refine (bodegalaw1_awake.calls  true _ A6.out).mono ?_); rintro e w' ⟨rfl, ⟨nd, rfl⟩⟩; refine ⟨_, rfl, ?_⟩))
            go_meet
            case rel => exact ⟨_, (true), (by first | rfl | (simp; done) | (simp [*]; done)), H', ⟨by first | omega | exact Nat.le_refl _⟩, by repeat (first | exact Drawn0.refl _ | apply Drawn0.step)⟩
      · rw [if_neg c8] at H
        have c8b0 : (t160 == (IntKind.u64.wrap (Int.tdiv a0 2))) = false := beq_eq_false_iff_ne.mpr c8
        have c8b1 : (t160 != (IntKind.u64.wrap (Int.tdiv a0 2))) = true := bne_iff_ne.mpr c8
        (first | rw [c8b0] | (simp only [i64_w, i32_w]; rw [c8b0]) | skip)
        have H' := Aside0.mk H
        clear H
        go_wp2_with (first | ((with_reducible refine gate_callee (f := 19) rfl ?_); refine goesL_ (some 36) rfl rfl Try.func19 (by kernel_rfl) rfl #[] rfl (by (try simp only [List.map_toArray, List.map_cons, List.map_nil]); first | done | rfl | (simp only [List.length_drop, List.length_take]; rfl)) ?_; (with_reducible refine (bodegalaw1_awake.calls  true _ A6.out).mono ?_); rintro e w' ⟨rfl, ⟨nd, rfl⟩⟩; refine ⟨_, rfl, ?_⟩))
        go_meet
        case rel => exact ⟨_, (true), (by first | rfl | (simp; done) | (simp [*]; done)), H', ⟨by first | omega | exact Nat.le_refl _⟩, by repeat (first | exact Drawn0.refl _ | apply Drawn0.step)⟩
    · replace c7 := Bool.eq_false_iff.mpr c7
      subst c7
      have H1 : (bodegalaw1_WordSplits.j0 k a0 true) = some r := by rw [if_neg (show ¬ (false = true) by decide)] at H; exact H
      clear H
      have H := H1
      clear H1
      have H' := Aside0.mk H
      clear H
      go_wp2_with (first | ((with_reducible refine gate_callee (f := 19) rfl ?_); refine goesL_ (some 36) rfl rfl Try.func19 (by kernel_rfl) rfl #[] rfl (by (try simp only [List.map_toArray, List.map_cons, List.map_nil]); first | done | rfl | (simp only [List.length_drop, List.length_take]; rfl)) ?_; (with_reducible refine (bodegalaw1_awake.calls  false _ A6.out).mono ?_); rintro e w' ⟨rfl, ⟨nd, rfl⟩⟩; refine ⟨_, rfl, ?_⟩))
      go_meet
      case rel => exact ⟨_, (true), (by first | rfl | (simp; done) | (simp [*]; done)), H', ⟨by first | omega | exact Nat.le_refl _⟩, by repeat (first | exact Drawn0.refl _ | apply Drawn0.step)⟩
  case rest =>
    clear HC5
    try clear c1
    try clear p2
    try clear c3
    try clear c4
    try clear c7
    try clear c8
    try clear c8b0
    try clear c8b1
    try clear c9
    try clear c9b0
    try clear c9b1
    try clear c9b2
    try clear c10
    try clear c10b0
    try clear c10b1
    obtain ⟨kq, x60_4, rfl, HA, HJ4, ⟨mc4, rfl⟩⟩ := hcut
    cases kq with
    | zero => exact absurd HA.out (by simp [bodegalaw1_WordSplits.j0])
    | succ kj4 =>
      have H := HA.out
      clear HA
      simp only [bodegalaw1_WordSplits.j0] at H
      by_cases c11 : x60_4 = true
      · subst c11
        have H1 : (some false) = some r := by rw [if_pos rfl] at H; exact H
        clear H
        have H := H1
        clear H1
        obtain rfl := Option.some.inj H
        go_wp2
        go_ret
        exact ⟨by first | rfl | (simp; done) | (simp [*]; done), by repeat (first | exact Drawn0.refl _ | apply Drawn0.step)⟩
      · replace c11 := Bool.eq_false_iff.mpr c11
        subst c11
        have H1 : ((word_SplitTag.f a0).bind fun bt167 => ((bodegaref1_SplitTag.f a0).bind fun bt170 => (if bt167.1 = bt170.1 then (if bt167.2.1 = bt170.2.1 then (bodegalaw1_WordSplits.j1 kj4 a0 (bt167.2.2 != bt170.2.2)) else (bodegalaw1_WordSplits.j1 kj4 a0 true)) else (bodegalaw1_WordSplits.j1 kj4 a0 true)))) = some r := by rw [if_neg (show ¬ (false = true) by decide)] at H; exact H
        clear H
        have H := H1
        clear H1
        replace H := Option.bind_eq_some_iff.mp H
        obtain ⟨⟨t167, t168, t169⟩, A120, H⟩ := H
        replace H : ((bodegaref1_SplitTag.f a0).bind fun bt170 => (if t167 = bt170.1 then (if t168 = bt170.2.1 then (bodegalaw1_WordSplits.j1 kj4 a0 (t169 != bt170.2.2)) else (bodegalaw1_WordSplits.j1 kj4 a0 true)) else (bodegalaw1_WordSplits.j1 kj4 a0 true))) = some r := H
        have A12 := Aside0.mk A120
        clear A120
        replace H := Option.bind_eq_some_iff.mp H
        obtain ⟨⟨t170, t171, t172⟩, A130, H⟩ := H
        replace H : (if t167 = t170 then (if t168 = t171 then (bodegalaw1_WordSplits.j1 kj4 a0 (t169 != t172)) else (bodegalaw1_WordSplits.j1 kj4 a0 true)) else (bodegalaw1_WordSplits.j1 kj4 a0 true)) = some r := H
        have A13 := Aside0.mk A130
        clear A130
        have HC14 := Aside0.mk H
        clear H
        go_upto_region 8 with (first | ((with_reducible refine gate_callee (f := 41) rfl ?_); refine goesL_ (some 63) rfl rfl Try.func41 (by kernel_rfl) rfl #[.int .u64 a0] rfl (by (try simp only [List.map_toArray, List.map_cons, List.map_nil]); first | done | rfl | (simp only [List.length_drop, List.length_take]; rfl)) ?_; (with_reducible refine (word_SplitTag.calls a0 t167 t168 t169 _ A12.out).mono ?_); rintro e w' ⟨rfl, ⟨nd, rfl⟩⟩; refine ⟨_, rfl, ?_⟩) | ((with_reducible refine gate_callee (f := 45) rfl ?_); refine goesL_ (some 69) rfl rfl Try.func45 (by kernel_rfl) rfl #[.int .u64 a0] rfl (by (try simp only [List.map_toArray, List.map_cons, List.map_nil]); first | done | rfl | (simp only [List.length_drop, List.length_take]; rfl)) ?_; (with_reducible refine (bodegaref1_SplitTag.calls a0 t170 t171 t172 _ A13.out).mono ?_); rintro e w' ⟨rfl, ⟨nd, rfl⟩⟩; refine ⟨_, rfl, ?_⟩))
        (try simp only [Act.put, List.setIfInBounds_toArray, List.set_cons_zero, List.set_cons_succ])
        go_cut [85] (fun v85 wc => ∃ (kq : Nat) (x85_13 : Bool), v85 = .bool x85_13 ∧ Aside0 (bodegalaw1_WordSplits.j1 kq a0 x85_13 = some r) ∧ Aside0 (kq ≤ kj4) ∧ Drawn0 w wc)
        case first =>
          have H := HC14.out
          clear HC14
          by_cases c15 : t167 = t170
          · rw [if_pos c15] at H
            have c15b0 : (t167 == t170) = true := beq_iff_eq.mpr c15
            have c15b1 : (t167 != t170) = false := bne_eq_false_iff_eq.mpr c15
            clear c15
            (first | rw [c15b0] | (simp only [i64_w, i32_w]; rw [c15b0]) | skip)
            by_cases c16 : t168 = t171
            · rw [if_pos c16] at H
              have c16b0 : (t168 == t171) = true := beq_iff_eq.mpr c16
              have c16b1 : (t168 != t171) = false := bne_eq_false_iff_eq.mpr c16
              clear c16
              have H' := Aside0.mk H
              clear H
              go_wp2
              go_meet
              case rel => exact ⟨_, ((t169 != t172)), (by first | rfl | (simp; done) | (simp [*]; done)), H', ⟨by have := HJ4.out; first | omega | exact Nat.le_refl _⟩, by repeat (first | exact Drawn0.refl _ | apply Drawn0.step)⟩
            · rw [if_neg c16] at H
              have c16b0 : (t168 == t171) = false := beq_eq_false_iff_ne.mpr c16
              have c16b1 : (t168 != t171) = true := bne_iff_ne.mpr c16
              have H' := Aside0.mk H
              clear H
              go_wp2
              go_meet
              case rel => exact ⟨_, (true), (by first | rfl | (simp; done) | (simp [*]; done)), H', ⟨by have := HJ4.out; first | omega | exact Nat.le_refl _⟩, by repeat (first | exact Drawn0.refl _ | apply Drawn0.step)⟩
          · rw [if_neg c15] at H
            have c15b0 : (t167 == t170) = false := beq_eq_false_iff_ne.mpr c15
            have c15b1 : (t167 != t170) = true := bne_iff_ne.mpr c15
            (first | rw [c15b0] | (simp only [i64_w, i32_w]; rw [c15b0]) | skip)
            have H' := Aside0.mk H
            clear H
            go_wp2
            go_meet
            case rel => exact ⟨_, (true), (by first | rfl | (simp; done) | (simp [*]; done)), H', ⟨by have := HJ4.out; first | omega | exact Nat.le_refl _⟩, by repeat (first | exact Drawn0.refl _ | apply Drawn0.step)⟩
        case rest =>
          clear HC14
          try clear c1
          try clear p2
          try clear c3
          try clear c4
          try clear c7
          try clear c8
          try clear c8b0
          try clear c8b1
          try clear c9
          try clear c9b0
          try clear c9b1
          try clear c9b2
          try clear c10
          try clear c10b0
          try clear c10b1
          try clear c11
          try clear c15
          try clear c15b0
          try clear c15b1
          try clear c16
          try clear c16b0
          try clear c16b1
          try clear p2
          obtain ⟨kq, x85_13, rfl, HA, HJ13, ⟨mc13, rfl⟩⟩ := hcut
          cases kq with
          | zero => exact absurd HA.out (by simp [bodegalaw1_WordSplits.j1])
          | succ kj13 =>
            have H := HA.out
            clear HA
            simp only [bodegalaw1_WordSplits.j1] at H
            by_cases c17 : x85_13 = true
            · subst c17
              have H1 : (some false) = some r := by rw [if_pos rfl] at H; exact H
              clear H
              have H := H1
              clear H1
              obtain rfl := Option.some.inj H
              go_wp2
              go_ret
              exact ⟨by first | rfl | (simp; done) | (simp [*]; done), by repeat (first | exact Drawn0.refl _ | apply Drawn0.step)⟩
            · replace c17 := Bool.eq_false_iff.mpr c17
              subst c17
              have H1 : ((word_SplitLease.f a0).bind fun bt173 => ((bodegaref1_SplitLease.f a0).bind fun bt176 => (if bt173.1 = bt176.1 then (if bt173.2.1 = bt176.2.1 then (bodegalaw1_WordSplits.j2 kj13 a0 (bt173.2.2 != bt176.2.2)) else (bodegalaw1_WordSplits.j2 kj13 a0 true)) else (bodegalaw1_WordSplits.j2 kj13 a0 true)))) = some r := by rw [if_neg (show ¬ (false = true) by decide)] at H; exact H
              clear H
              have H := H1
              clear H1
              replace H := Option.bind_eq_some_iff.mp H
              obtain ⟨⟨t173, t174, t175⟩, A180, H⟩ := H
              replace H : ((bodegaref1_SplitLease.f a0).bind fun bt176 => (if t173 = bt176.1 then (if t174 = bt176.2.1 then (bodegalaw1_WordSplits.j2 kj13 a0 (t175 != bt176.2.2)) else (bodegalaw1_WordSplits.j2 kj13 a0 true)) else (bodegalaw1_WordSplits.j2 kj13 a0 true))) = some r := H
              have A18 := Aside0.mk A180
              clear A180
              replace H := Option.bind_eq_some_iff.mp H
              obtain ⟨⟨t176, t177, t178⟩, A190, H⟩ := H
              replace H : (if t173 = t176 then (if t174 = t177 then (bodegalaw1_WordSplits.j2 kj13 a0 (t175 != t178)) else (bodegalaw1_WordSplits.j2 kj13 a0 true)) else (bodegalaw1_WordSplits.j2 kj13 a0 true)) = some r := H
              have A19 := Aside0.mk A190
              clear A190
              have HC20 := Aside0.mk H
              clear H
              go_upto_region 12 with (first | ((with_reducible refine gate_callee (f := 42) rfl ?_); refine goesL_ (some 88) rfl rfl Try.func42 (by kernel_rfl) rfl #[.int .u64 a0] rfl (by (try simp only [List.map_toArray, List.map_cons, List.map_nil]); first | done | rfl | (simp only [List.length_drop, List.length_take]; rfl)) ?_; (with_reducible refine (word_SplitLease.calls a0 t173 t174 t175 _ A18.out).mono ?_); rintro e w' ⟨rfl, ⟨nd, rfl⟩⟩; refine ⟨_, rfl, ?_⟩) | ((with_reducible refine gate_callee (f := 46) rfl ?_); refine goesL_ (some 94) rfl rfl Try.func46 (by kernel_rfl) rfl #[.int .u64 a0] rfl (by (try simp only [List.map_toArray, List.map_cons, List.map_nil]); first | done | rfl | (simp only [List.length_drop, List.length_take]; rfl)) ?_; (with_reducible refine (bodegaref1_SplitLease.calls a0 t176 t177 t178 _ A19.out).mono ?_); rintro e w' ⟨rfl, ⟨nd, rfl⟩⟩; refine ⟨_, rfl, ?_⟩))
              (try simp only [Act.put, List.setIfInBounds_toArray, List.set_cons_zero, List.set_cons_succ])
              go_cut [110] (fun v110 wc => ∃ (kq : Nat) (x110_19 : Bool), v110 = .bool x110_19 ∧ Aside0 (bodegalaw1_WordSplits.j2 kq a0 x110_19 = some r) ∧ Aside0 (kq ≤ kj13) ∧ Drawn0 w wc)
              case first =>
                have H := HC20.out
                clear HC20
                by_cases c21 : t173 = t176
                · rw [if_pos c21] at H
                  have c21b0 : (t173 == t176) = true := beq_iff_eq.mpr c21
                  have c21b1 : (t173 != t176) = false := bne_eq_false_iff_eq.mpr c21
                  clear c21
                  (first | rw [c21b0] | (simp only [i64_w, i32_w]; rw [c21b0]) | skip)
                  by_cases c22 : t174 = t177
                  · rw [if_pos c22] at H
                    have c22b0 : (t174 == t177) = true := beq_iff_eq.mpr c22
                    have c22b1 : (t174 != t177) = false := bne_eq_false_iff_eq.mpr c22
                    clear c22
                    have H' := Aside0.mk H
                    clear H
                    go_wp2
                    go_meet
                    case rel => exact ⟨_, ((t175 != t178)), (by first | rfl | (simp; done) | (simp [*]; done)), H', ⟨by have := HJ4.out; have := HJ13.out; first | omega | exact Nat.le_refl _⟩, by repeat (first | exact Drawn0.refl _ | apply Drawn0.step)⟩
                  · rw [if_neg c22] at H
                    have c22b0 : (t174 == t177) = false := beq_eq_false_iff_ne.mpr c22
                    have c22b1 : (t174 != t177) = true := bne_iff_ne.mpr c22
                    have H' := Aside0.mk H
                    clear H
                    go_wp2
                    go_meet
                    case rel => exact ⟨_, (true), (by first | rfl | (simp; done) | (simp [*]; done)), H', ⟨by have := HJ4.out; have := HJ13.out; first | omega | exact Nat.le_refl _⟩, by repeat (first | exact Drawn0.refl _ | apply Drawn0.step)⟩
                · rw [if_neg c21] at H
                  have c21b0 : (t173 == t176) = false := beq_eq_false_iff_ne.mpr c21
                  have c21b1 : (t173 != t176) = true := bne_iff_ne.mpr c21
                  (first | rw [c21b0] | (simp only [i64_w, i32_w]; rw [c21b0]) | skip)
                  have H' := Aside0.mk H
                  clear H
                  go_wp2
                  go_meet
                  case rel => exact ⟨_, (true), (by first | rfl | (simp; done) | (simp [*]; done)), H', ⟨by have := HJ4.out; have := HJ13.out; first | omega | exact Nat.le_refl _⟩, by repeat (first | exact Drawn0.refl _ | apply Drawn0.step)⟩
              case rest =>
                clear HC20
                try clear c1
                try clear c2
                try clear p2
                try clear c3
                try clear c4
                try clear c7
                try clear c8
                try clear c8b0
                try clear c8b1
                try clear c9
                try clear c9b0
                try clear c9b1
                try clear c9b2
                try clear c10
                try clear c10b0
                try clear c10b1
                try clear c11
                try clear c13
                try clear c15
                try clear c15b0
                try clear c15b1
                try clear c16
                try clear c16b0
                try clear c16b1
                try clear c17
                try clear c19
                try clear c21
                try clear c21b0
                try clear c21b1
                try clear c22
                try clear c22b0
                try clear c22b1
                try clear p2
                obtain ⟨kq, x110_19, rfl, HA, HJ19, ⟨mc19, rfl⟩⟩ := hcut
                cases kq with
                | zero => exact absurd HA.out (by simp [bodegalaw1_WordSplits.j2])
                | succ kj19 =>
                  have H := HA.out
                  clear HA
                  simp only [bodegalaw1_WordSplits.j2] at H
                  by_cases c23 : x110_19 = true
                  · subst c23
                    have H1 : (some false) = some r := by rw [if_pos rfl] at H; exact H
                    clear H
                    have H := H1
                    clear H1
                    obtain rfl := Option.some.inj H
                    go_wp2
                    go_ret
                    exact ⟨by first | rfl | (simp; done) | (simp [*]; done), by repeat (first | exact Drawn0.refl _ | apply Drawn0.step)⟩
                  · replace c23 := Bool.eq_false_iff.mpr c23
                    subst c23
                    have H1 : ((word_SplitBallot.f a0).bind fun bt179 => ((bodegaref1_SplitBallot.f kj19 a0).bind fun bt182 => ((word_SplitConsensus.f a0).bind fun bt185 => ((bodegaref1_SplitConsensus.f a0).bind fun bt188 => (if bt179.1 = bt182.1 then (if bt179.2.1 = bt182.2.1 then (if (bt179.2.2 == bt182.2.2) = true then (if bt185.1 = bt188.1 then (if bt185.2.1 = bt188.2.1 then (some (bt185.2.2 == bt188.2.2)) else (some false)) else (some false)) else (some false)) else (some false)) else (some false)))))) = some r := by rw [if_neg (show ¬ (false = true) by decide)] at H; exact H
                    clear H
                    have H := H1
                    clear H1
                    replace H := Option.bind_eq_some_iff.mp H
                    obtain ⟨⟨t179, t180, t181⟩, A240, H⟩ := H
                    replace H : ((bodegaref1_SplitBallot.f kj19 a0).bind fun bt182 => ((word_SplitConsensus.f a0).bind fun bt185 => ((bodegaref1_SplitConsensus.f a0).bind fun bt188 => (if t179 = bt182.1 then (if t180 = bt182.2.1 then (if (t181 == bt182.2.2) = true then (if bt185.1 = bt188.1 then (if bt185.2.1 = bt188.2.1 then (some (bt185.2.2 == bt188.2.2)) else (some false)) else (some false)) else (some false)) else (some false)) else (some false))))) = some r := H
                    have A24 := Aside0.mk A240
                    clear A240
                    replace H := Option.bind_eq_some_iff.mp H
                    obtain ⟨⟨t182, t183, t184⟩, A250, H⟩ := H
                    replace H : ((word_SplitConsensus.f a0).bind fun bt185 => ((bodegaref1_SplitConsensus.f a0).bind fun bt188 => (if t179 = t182 then (if t180 = t183 then (if (t181 == t184) = true then (if bt185.1 = bt188.1 then (if bt185.2.1 = bt188.2.1 then (some (bt185.2.2 == bt188.2.2)) else (some false)) else (some false)) else (some false)) else (some false)) else (some false)))) = some r := H
                    have A25 := Aside0.mk A250
                    clear A250
                    replace H := Option.bind_eq_some_iff.mp H
                    obtain ⟨⟨t185, t186, t187⟩, A260, H⟩ := H
                    replace H : ((bodegaref1_SplitConsensus.f a0).bind fun bt188 => (if t179 = t182 then (if t180 = t183 then (if (t181 == t184) = true then (if t185 = bt188.1 then (if t186 = bt188.2.1 then (some (t187 == bt188.2.2)) else (some false)) else (some false)) else (some false)) else (some false)) else (some false))) = some r := H
                    have A26 := Aside0.mk A260
                    clear A260
                    replace H := Option.bind_eq_some_iff.mp H
                    obtain ⟨⟨t188, t189, t190⟩, A270, H⟩ := H
                    replace H : (if t179 = t182 then (if t180 = t183 then (if (t181 == t184) = true then (if t185 = t188 then (if t186 = t189 then (some (t187 == t190)) else (some false)) else (some false)) else (some false)) else (some false)) else (some false)) = some r := H
                    have A27 := Aside0.mk A270
                    clear A270
                    by_cases c28 : t179 = t182
                    · rw [if_pos c28] at H
                      have c28b0 : (t179 == t182) = true := beq_iff_eq.mpr c28
                      have c28b1 : (t179 != t182) = false := bne_eq_false_iff_eq.mpr c28
                      clear c28
                      by_cases c29 : t180 = t183
                      · rw [if_pos c29] at H
                        have c29b0 : (t180 == t183) = true := beq_iff_eq.mpr c29
                        have c29b1 : (t180 != t183) = false := bne_eq_false_iff_eq.mpr c29
                        clear c29
                        by_cases c30 : (t181 == t184) = true
                        · rw [if_pos c30] at H
                          have c30b0 : (t181 == t184) = true := c30
                          (try (have c30b1 : decide (t181 = t184) = true := by simpa using c30))
                          (try (have c30b2 : (t181 == t184) = true := by simpa using c30))
                          clear c30
                          by_cases c31 : t185 = t188
                          · rw [if_pos c31] at H
                            have c31b0 : (t185 == t188) = true := beq_iff_eq.mpr c31
                            have c31b1 : (t185 != t188) = false := bne_eq_false_iff_eq.mpr c31
                            clear c31
                            by_cases c32 : t186 = t189
                            · rw [if_pos c32] at H
                              have c32b0 : (t186 == t189) = true := beq_iff_eq.mpr c32
                              have c32b1 : (t186 != t189) = false := bne_eq_false_iff_eq.mpr c32
                              clear c32
                              obtain rfl := Option.some.inj H
                              go_wp2_with (first | ((with_reducible refine gate_callee (f := 43) rfl ?_); refine goesL_ (some 113) rfl rfl Try.func43 (by kernel_rfl) rfl #[.int .u64 a0] rfl (by (try simp only [List.map_toArray, List.map_cons, List.map_nil]); first | done | rfl | (simp only [List.length_drop, List.length_take]; rfl)) ?_; (with_reducible refine (word_SplitBallot.calls a0 t179 t180 t181 _ A24.out).mono ?_); rintro e w' ⟨rfl, ⟨nd, rfl⟩⟩; refine ⟨_, rfl, ?_⟩) | ((with_reducible refine gate_callee (f := 47) rfl ?_); refine goesL_ (some 119) rfl rfl Try.func47 (by kernel_rfl) rfl #[.int .u64 a0] rfl (by (try simp only [List.map_toArray, List.map_cons, List.map_nil]); first | done | rfl | (simp only [List.length_drop, List.length_take]; rfl)) ?_; (with_reducible refine (bodegaref1_SplitBallot.calls kj19 a0 t182 t183 t184 _ A25.out).mono ?_); rintro e w' ⟨rfl, ⟨nd, rfl⟩⟩; refine ⟨_, rfl, ?_⟩) | ((with_reducible refine gate_callee (f := 48) rfl ?_); refine goesL_ (some 125) rfl rfl Try.func48 (by kernel_rfl) rfl #[.int .u64 a0] rfl (by (try simp only [List.map_toArray, List.map_cons, List.map_nil]); first | done | rfl | (simp only [List.length_drop, List.length_take]; rfl)) ?_; (with_reducible refine (word_SplitConsensus.calls a0 t185 t186 t187 _ A26.out).mono ?_); rintro e w' ⟨rfl, ⟨nd, rfl⟩⟩; refine ⟨_, rfl, ?_⟩) | ((with_reducible refine gate_callee (f := 49) rfl ?_); refine goesL_ (some 131) rfl rfl Try.func49 (by kernel_rfl) rfl #[.int .u64 a0] rfl (by (try simp only [List.map_toArray, List.map_cons, List.map_nil]); first | done | rfl | (simp only [List.length_drop, List.length_take]; rfl)) ?_; (with_reducible refine (bodegaref1_SplitConsensus.calls a0 t188 t189 t190 _ A27.out).mono ?_); rintro e w' ⟨rfl, ⟨nd, rfl⟩⟩; refine ⟨_, rfl, ?_⟩))
                              go_ret
                              exact ⟨by first | rfl | (simp; done) | (simp [*]; done), by repeat (first | exact Drawn0.refl _ | apply Drawn0.step)⟩
                            · rw [if_neg c32] at H
                              have c32b0 : (t186 == t189) = false := beq_eq_false_iff_ne.mpr c32
                              have c32b1 : (t186 != t189) = true := bne_iff_ne.mpr c32
                              obtain rfl := Option.some.inj H
                              go_wp2_with (first | ((with_reducible refine gate_callee (f := 43) rfl ?_); refine goesL_ (some 113) rfl rfl Try.func43 (by kernel_rfl) rfl #[.int .u64 a0] rfl (by (try simp only [List.map_toArray, List.map_cons, List.map_nil]); first | done | rfl | (simp only [List.length_drop, List.length_take]; rfl)) ?_; (with_reducible refine (word_SplitBallot.calls a0 t179 t180 t181 _ A24.out).mono ?_); rintro e w' ⟨rfl, ⟨nd, rfl⟩⟩; refine ⟨_, rfl, ?_⟩) | ((with_reducible refine gate_callee (f := 47) rfl ?_); refine goesL_ (some 119) rfl rfl Try.func47 (by kernel_rfl) rfl #[.int .u64 a0] rfl (by (try simp only [List.map_toArray, List.map_cons, List.map_nil]); first | done | rfl | (simp only [List.length_drop, List.length_take]; rfl)) ?_; (with_reducible refine (bodegaref1_SplitBallot.calls kj19 a0 t182 t183 t184 _ A25.out).mono ?_); rintro e w' ⟨rfl, ⟨nd, rfl⟩⟩; refine ⟨_, rfl, ?_⟩) | ((with_reducible refine gate_callee (f := 48) rfl ?_); refine goesL_ (some 125) rfl rfl Try.func48 (by kernel_rfl) rfl #[.int .u64 a0] rfl (by (try simp only [List.map_toArray, List.map_cons, List.map_nil]); first | done | rfl | (simp only [List.length_drop, List.length_take]; rfl)) ?_; (with_reducible refine (word_SplitConsensus.calls a0 t185 t186 t187 _ A26.out).mono ?_); rintro e w' ⟨rfl, ⟨nd, rfl⟩⟩; refine ⟨_, rfl, ?_⟩) | ((with_reducible refine gate_callee (f := 49) rfl ?_); refine goesL_ (some 131) rfl rfl Try.func49 (by kernel_rfl) rfl #[.int .u64 a0] rfl (by (try simp only [List.map_toArray, List.map_cons, List.map_nil]); first | done | rfl | (simp only [List.length_drop, List.length_take]; rfl)) ?_; (with_reducible refine (bodegaref1_SplitConsensus.calls a0 t188 t189 t190 _ A27.out).mono ?_); rintro e w' ⟨rfl, ⟨nd, rfl⟩⟩; refine ⟨_, rfl, ?_⟩))
                              go_ret
                              exact ⟨by first | rfl | (simp; done) | (simp [*]; done), by repeat (first | exact Drawn0.refl _ | apply Drawn0.step)⟩
                          · rw [if_neg c31] at H
                            have c31b0 : (t185 == t188) = false := beq_eq_false_iff_ne.mpr c31
                            have c31b1 : (t185 != t188) = true := bne_iff_ne.mpr c31
                            obtain rfl := Option.some.inj H
                            go_wp2_with (first | ((with_reducible refine gate_callee (f := 43) rfl ?_); refine goesL_ (some 113) rfl rfl Try.func43 (by kernel_rfl) rfl #[.int .u64 a0] rfl (by (try simp only [List.map_toArray, List.map_cons, List.map_nil]); first | done | rfl | (simp only [List.length_drop, List.length_take]; rfl)) ?_; (with_reducible refine (word_SplitBallot.calls a0 t179 t180 t181 _ A24.out).mono ?_); rintro e w' ⟨rfl, ⟨nd, rfl⟩⟩; refine ⟨_, rfl, ?_⟩) | ((with_reducible refine gate_callee (f := 47) rfl ?_); refine goesL_ (some 119) rfl rfl Try.func47 (by kernel_rfl) rfl #[.int .u64 a0] rfl (by (try simp only [List.map_toArray, List.map_cons, List.map_nil]); first | done | rfl | (simp only [List.length_drop, List.length_take]; rfl)) ?_; (with_reducible refine (bodegaref1_SplitBallot.calls kj19 a0 t182 t183 t184 _ A25.out).mono ?_); rintro e w' ⟨rfl, ⟨nd, rfl⟩⟩; refine ⟨_, rfl, ?_⟩) | ((with_reducible refine gate_callee (f := 48) rfl ?_); refine goesL_ (some 125) rfl rfl Try.func48 (by kernel_rfl) rfl #[.int .u64 a0] rfl (by (try simp only [List.map_toArray, List.map_cons, List.map_nil]); first | done | rfl | (simp only [List.length_drop, List.length_take]; rfl)) ?_; (with_reducible refine (word_SplitConsensus.calls a0 t185 t186 t187 _ A26.out).mono ?_); rintro e w' ⟨rfl, ⟨nd, rfl⟩⟩; refine ⟨_, rfl, ?_⟩) | ((with_reducible refine gate_callee (f := 49) rfl ?_); refine goesL_ (some 131) rfl rfl Try.func49 (by kernel_rfl) rfl #[.int .u64 a0] rfl (by (try simp only [List.map_toArray, List.map_cons, List.map_nil]); first | done | rfl | (simp only [List.length_drop, List.length_take]; rfl)) ?_; (with_reducible refine (bodegaref1_SplitConsensus.calls a0 t188 t189 t190 _ A27.out).mono ?_); rintro e w' ⟨rfl, ⟨nd, rfl⟩⟩; refine ⟨_, rfl, ?_⟩))
                            go_ret
                            exact ⟨by first | rfl | (simp; done) | (simp [*]; done), by repeat (first | exact Drawn0.refl _ | apply Drawn0.step)⟩
                        · rw [if_neg c30] at H
                          have c30b0 : (t181 == t184) = false := by simpa using c30
                          (try (have c30b1 : decide (t181 = t184) = false := by simpa using c30))
                          (try (have c30b2 : (t181 == t184) = false := by simpa using c30))
                          (try (have c30b3 : ¬ (t181 = t184) := by simpa using c30))
                          clear c30
                          obtain rfl := Option.some.inj H
                          go_wp2_with (first | ((with_reducible refine gate_callee (f := 43) rfl ?_); refine goesL_ (some 113) rfl rfl Try.func43 (by kernel_rfl) rfl #[.int .u64 a0] rfl (by (try simp only [List.map_toArray, List.map_cons, List.map_nil]); first | done | rfl | (simp only [List.length_drop, List.length_take]; rfl)) ?_; (with_reducible refine (word_SplitBallot.calls a0 t179 t180 t181 _ A24.out).mono ?_); rintro e w' ⟨rfl, ⟨nd, rfl⟩⟩; refine ⟨_, rfl, ?_⟩) | ((with_reducible refine gate_callee (f := 47) rfl ?_); refine goesL_ (some 119) rfl rfl Try.func47 (by kernel_rfl) rfl #[.int .u64 a0] rfl (by (try simp only [List.map_toArray, List.map_cons, List.map_nil]); first | done | rfl | (simp only [List.length_drop, List.length_take]; rfl)) ?_; (with_reducible refine (bodegaref1_SplitBallot.calls kj19 a0 t182 t183 t184 _ A25.out).mono ?_); rintro e w' ⟨rfl, ⟨nd, rfl⟩⟩; refine ⟨_, rfl, ?_⟩) | ((with_reducible refine gate_callee (f := 48) rfl ?_); refine goesL_ (some 125) rfl rfl Try.func48 (by kernel_rfl) rfl #[.int .u64 a0] rfl (by (try simp only [List.map_toArray, List.map_cons, List.map_nil]); first | done | rfl | (simp only [List.length_drop, List.length_take]; rfl)) ?_; (with_reducible refine (word_SplitConsensus.calls a0 t185 t186 t187 _ A26.out).mono ?_); rintro e w' ⟨rfl, ⟨nd, rfl⟩⟩; refine ⟨_, rfl, ?_⟩) | ((with_reducible refine gate_callee (f := 49) rfl ?_); refine goesL_ (some 131) rfl rfl Try.func49 (by kernel_rfl) rfl #[.int .u64 a0] rfl (by (try simp only [List.map_toArray, List.map_cons, List.map_nil]); first | done | rfl | (simp only [List.length_drop, List.length_take]; rfl)) ?_; (with_reducible refine (bodegaref1_SplitConsensus.calls a0 t188 t189 t190 _ A27.out).mono ?_); rintro e w' ⟨rfl, ⟨nd, rfl⟩⟩; refine ⟨_, rfl, ?_⟩))
                          go_ret
                          exact ⟨by first | rfl | (simp; done) | (simp [*]; done), by repeat (first | exact Drawn0.refl _ | apply Drawn0.step)⟩
                      · rw [if_neg c29] at H
                        have c29b0 : (t180 == t183) = false := beq_eq_false_iff_ne.mpr c29
                        have c29b1 : (t180 != t183) = true := bne_iff_ne.mpr c29
                        obtain rfl := Option.some.inj H
                        go_wp2_with (first | ((with_reducible refine gate_callee (f := 43) rfl ?_); refine goesL_ (some 113) rfl rfl Try.func43 (by kernel_rfl) rfl #[.int .u64 a0] rfl (by (try simp only [List.map_toArray, List.map_cons, List.map_nil]); first | done | rfl | (simp only [List.length_drop, List.length_take]; rfl)) ?_; (with_reducible refine (word_SplitBallot.calls a0 t179 t180 t181 _ A24.out).mono ?_); rintro e w' ⟨rfl, ⟨nd, rfl⟩⟩; refine ⟨_, rfl, ?_⟩) | ((with_reducible refine gate_callee (f := 47) rfl ?_); refine goesL_ (some 119) rfl rfl Try.func47 (by kernel_rfl) rfl #[.int .u64 a0] rfl (by (try simp only [List.map_toArray, List.map_cons, List.map_nil]); first | done | rfl | (simp only [List.length_drop, List.length_take]; rfl)) ?_; (with_reducible refine (bodegaref1_SplitBallot.calls kj19 a0 t182 t183 t184 _ A25.out).mono ?_); rintro e w' ⟨rfl, ⟨nd, rfl⟩⟩; refine ⟨_, rfl, ?_⟩) | ((with_reducible refine gate_callee (f := 48) rfl ?_); refine goesL_ (some 125) rfl rfl Try.func48 (by kernel_rfl) rfl #[.int .u64 a0] rfl (by (try simp only [List.map_toArray, List.map_cons, List.map_nil]); first | done | rfl | (simp only [List.length_drop, List.length_take]; rfl)) ?_; (with_reducible refine (word_SplitConsensus.calls a0 t185 t186 t187 _ A26.out).mono ?_); rintro e w' ⟨rfl, ⟨nd, rfl⟩⟩; refine ⟨_, rfl, ?_⟩) | ((with_reducible refine gate_callee (f := 49) rfl ?_); refine goesL_ (some 131) rfl rfl Try.func49 (by kernel_rfl) rfl #[.int .u64 a0] rfl (by (try simp only [List.map_toArray, List.map_cons, List.map_nil]); first | done | rfl | (simp only [List.length_drop, List.length_take]; rfl)) ?_; (with_reducible refine (bodegaref1_SplitConsensus.calls a0 t188 t189 t190 _ A27.out).mono ?_); rintro e w' ⟨rfl, ⟨nd, rfl⟩⟩; refine ⟨_, rfl, ?_⟩))
                        go_ret
                        exact ⟨by first | rfl | (simp; done) | (simp [*]; done), by repeat (first | exact Drawn0.refl _ | apply Drawn0.step)⟩
                    · rw [if_neg c28] at H
                      have c28b0 : (t179 == t182) = false := beq_eq_false_iff_ne.mpr c28
                      have c28b1 : (t179 != t182) = true := bne_iff_ne.mpr c28
                      obtain rfl := Option.some.inj H
                      go_wp2_with (first | ((with_reducible refine gate_callee (f := 43) rfl ?_); refine goesL_ (some 113) rfl rfl Try.func43 (by kernel_rfl) rfl #[.int .u64 a0] rfl (by (try simp only [List.map_toArray, List.map_cons, List.map_nil]); first | done | rfl | (simp only [List.length_drop, List.length_take]; rfl)) ?_; (with_reducible refine (word_SplitBallot.calls a0 t179 t180 t181 _ A24.out).mono ?_); rintro e w' ⟨rfl, ⟨nd, rfl⟩⟩; refine ⟨_, rfl, ?_⟩) | ((with_reducible refine gate_callee (f := 47) rfl ?_); refine goesL_ (some 119) rfl rfl Try.func47 (by kernel_rfl) rfl #[.int .u64 a0] rfl (by (try simp only [List.map_toArray, List.map_cons, List.map_nil]); first | done | rfl | (simp only [List.length_drop, List.length_take]; rfl)) ?_; (with_reducible refine (bodegaref1_SplitBallot.calls kj19 a0 t182 t183 t184 _ A25.out).mono ?_); rintro e w' ⟨rfl, ⟨nd, rfl⟩⟩; refine ⟨_, rfl, ?_⟩) | ((with_reducible refine gate_callee (f := 48) rfl ?_); refine goesL_ (some 125) rfl rfl Try.func48 (by kernel_rfl) rfl #[.int .u64 a0] rfl (by (try simp only [List.map_toArray, List.map_cons, List.map_nil]); first | done | rfl | (simp only [List.length_drop, List.length_take]; rfl)) ?_; (with_reducible refine (word_SplitConsensus.calls a0 t185 t186 t187 _ A26.out).mono ?_); rintro e w' ⟨rfl, ⟨nd, rfl⟩⟩; refine ⟨_, rfl, ?_⟩) | ((with_reducible refine gate_callee (f := 49) rfl ?_); refine goesL_ (some 131) rfl rfl Try.func49 (by kernel_rfl) rfl #[.int .u64 a0] rfl (by (try simp only [List.map_toArray, List.map_cons, List.map_nil]); first | done | rfl | (simp only [List.length_drop, List.length_take]; rfl)) ?_; (with_reducible refine (bodegaref1_SplitConsensus.calls a0 t188 t189 t190 _ A27.out).mono ?_); rintro e w' ⟨rfl, ⟨nd, rfl⟩⟩; refine ⟨_, rfl, ?_⟩))
                      go_ret
                      exact ⟨by first | rfl | (simp; done) | (simp [*]; done), by repeat (first | exact Drawn0.refl _ | apply Drawn0.step)⟩

/-- THE ONE PURE STATEMENT of bodegalaw1_WordSplits: yours. -/
def bodegalaw1_WordSplits.Pure : Prop := ∀ (a0 : Int), (Lit.int .u64 a0).wf = true → ∃ k, bodegalaw1_WordSplits.f k a0 = some true
theorem bodegalaw1_WordSplits.walk (P : bodegalaw1_WordSplits.Pure) (a0 : Int) (w : World) (w0 : (Lit.int .u64 a0).wf = true) :
    Calls Try.prog 10 #[.int .u64 a0] w fun e w' => e = .returned (.bool true) ∧ Below w.heap.size w w' := by
  obtain ⟨k, h⟩ := P a0 w0
  refine (bodegalaw1_WordSplits.calls k a0 true w h).mono ?_
  rintro e w' ⟨rfl, hd⟩
  exact ⟨rfl, hd.below⟩

end Go.Proofs.Ytpcoflcelmfnbaa.PWordSplits
