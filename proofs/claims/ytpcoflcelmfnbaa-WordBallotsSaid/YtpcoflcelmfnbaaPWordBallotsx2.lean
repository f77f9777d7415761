-- PRINTED BY print.sh 35421559b90ae4d0a3588c463048766b98c2df88dd9212a6774a882060cdf62d: not written by this session
import Derived.Test.YtpcoflcelmfnbaaPWordBallotsx0
import Derived.Test.YtpcoflcelmfnbaaPWordBallotsx1
namespace Go.Proofs.Ytpcoflcelmfnbaa.PWordBallots
open Go.RowKit Go.Proofs.YtpcoflcelmfnbaaW.PrintWords Go.Proofs.YtpcoflcelmfnbaaW.PrintLast Go.Proofs.YtpcoflcelmfnbaaW.PrintMore
attribute [local go_sem] max2_int min2_int max_two min_two max_three min_three max_four min_four   -- for this text's walks alone
set_option linter.unusedVariables false
set_option linter.unusedSimpArgs false

/-! ### bodegalaw1_WordBallots: function 5 -/
def bodegalaw1_WordBallots.j0 : Nat → Int → Int → Int → Int → Int → Int → Bool → Option (Bool)
  | 0, _, _, _, _, _, _, _ => none
  | k + 1, x0, x1, x2, x3, x9, x11, x44 => if x44 = true then (some false) else (if x0 = x1 then (if ((decide (x9 < x11)) == (decide (x2 < x3))) = true then (some ((x9 == x11) == (x2 == x3))) else (some false)) else (if ((decide (x9 < x11)) == (decide (x0 < x1))) = true then (some (x9 != x11)) else (some false)))
def bodegalaw1_WordBallots.f (k : Nat) (a0 : Int) (a1 : Int) (a2 : Int) (a3 : Int) : Option (Bool) := (bodegahand_Pick.f a0 500).bind fun t130 => ((bodegahand_Pick.f a1 500).bind fun t131 => ((bodegahand_Pick.f a2 6).bind fun t132 => ((bodegahand_Pick.f a3 6).bind fun t133 => ((word_Ballot.f (wrap64 (t130 + 1)) t132).bind fun bt134 => ((word_Ballot.f (wrap64 (t131 + 1)) t133).bind fun bt136 => ((bodegalaw1_awake.f).bind fun t138 => (if t138 = true then (if bt134.2 = 0 then (bodegalaw1_WordBallots.j0 k (wrap64 (t130 + 1)) (wrap64 (t131 + 1)) t132 t133 bt134.1 bt136.1 (bt136.2 != 0)) else (bodegalaw1_WordBallots.j0 k (wrap64 (t130 + 1)) (wrap64 (t131 + 1)) t132 t133 bt134.1 bt136.1 true)) else (bodegalaw1_WordBallots.j0 k (wrap64 (t130 + 1)) (wrap64 (t131 + 1)) t132 t133 bt134.1 bt136.1 true))))))))
theorem bodegalaw1_WordBallots.mono_l : ∀ k, (∀ y0 y1 y2 y3 y4 y5 y6, LeO (bodegalaw1_WordBallots.j0 k y0 y1 y2 y3 y4 y5 y6) (bodegalaw1_WordBallots.j0 (k + 1) y0 y1 y2 y3 y4 y5 y6))
  | 0 => fun _ _ _ _ _ _ _ r h => by simp [bodegalaw1_WordBallots.j0] at h
  | k + 1 => by
    have ih0 := bodegalaw1_WordBallots.mono_l k
    · intro y0 y1 y2 y3 y4 y5 y6
      unfold bodegalaw1_WordBallots.j0
      repeat' first
      | (with_reducible exact ih0 _ _ _ _ _ _ _)
      | (with_reducible exact LeO.refl _)
      | (with_reducible exact LeO.none _)
      | (with_reducible refine LeO.ite ?_ ?_)
      | (with_reducible refine LeO.bind ?_ (fun _ => ?_))
      | exact ih0 _ _ _ _ _ _ _
      | exact LeO.none _
      | refine LeO.ite ?_ ?_
      | refine LeO.bind ?_ (fun _ => ?_)
theorem bodegalaw1_WordBallots.mono : ∀ a0 a1 a2 a3 k, LeO (bodegalaw1_WordBallots.f k a0 a1 a2 a3) (bodegalaw1_WordBallots.f (k + 1) a0 a1 a2 a3) := by
  intro a0 a1 a2 a3 k
  have ih0 := bodegalaw1_WordBallots.mono_l k
  unfold bodegalaw1_WordBallots.f
  repeat' first
      | (with_reducible exact ih0 _ _ _ _ _ _ _)
      | (with_reducible exact LeO.refl _)
      | (with_reducible exact LeO.none _)
      | (with_reducible refine LeO.ite ?_ ?_)
      | (with_reducible refine LeO.bind ?_ (fun _ => ?_))
      | exact ih0 _ _ _ _ _ _ _
      | exact LeO.none _
      | refine LeO.ite ?_ ?_
      | refine LeO.bind ?_ (fun _ => ?_)
set_option maxHeartbeats 8000000 in
set_option maxRecDepth 100000 in
theorem bodegalaw1_WordBallots.calls (k : Nat) (a0 : Int) (a1 : Int) (a2 : Int) (a3 : Int) (r : Bool) (w : World) (h : bodegalaw1_WordBallots.f k a0 a1 a2 a3 = some r) :
    Calls Try.prog 5 #[.int .i64 a0, .int .i64 a1, .int .i64 a2, .int .i64 a3] w fun e w' => e = .returned (.bool r) ∧ Drawn0 w w' := by
  have H : ((bodegahand_Pick.f a0 500).bind fun t130 => ((bodegahand_Pick.f a1 500).bind fun t131 => ((bodegahand_Pick.f a2 6).bind fun t132 => ((bodegahand_Pick.f a3 6).bind fun t133 => ((word_Ballot.f (wrap64 (t130 + 1)) t132).bind fun bt134 => ((word_Ballot.f (wrap64 (t131 + 1)) t133).bind fun bt136 => ((bodegalaw1_awake.f).bind fun t138 => (if t138 = true then (if bt134.2 = 0 then (bodegalaw1_WordBallots.j0 k (wrap64 (t130 + 1)) (wrap64 (t131 + 1)) t132 t133 bt134.1 bt136.1 (bt136.2 != 0)) else (bodegalaw1_WordBallots.j0 k (wrap64 (t130 + 1)) (wrap64 (t131 + 1)) t132 t133 bt134.1 bt136.1 true)) else (bodegalaw1_WordBallots.j0 k (wrap64 (t130 + 1)) (wrap64 (t131 + 1)) t132 t133 bt134.1 bt136.1 true))))))))) = some r := h
  clear h
  replace H := Option.bind_eq_some_iff.mp H
  obtain ⟨t130, A50, H⟩ := H
  replace H : ((bodegahand_Pick.f a1 500).bind fun t131 => ((bodegahand_Pick.f a2 6).bind fun t132 => ((bodegahand_Pick.f a3 6).bind fun t133 => ((word_Ballot.f (wrap64 (t130 + 1)) t132).bind fun bt134 => ((word_Ballot.f (wrap64 (t131 + 1)) t133).bind fun bt136 => ((bodegalaw1_awake.f).bind fun t138 => (if t138 = true then (if bt134.2 = 0 then (bodegalaw1_WordBallots.j0 k (wrap64 (t130 + 1)) (wrap64 (t131 + 1)) t132 t133 bt134.1 bt136.1 (bt136.2 != 0)) else (bodegalaw1_WordBallots.j0 k (wrap64 (t130 + 1)) (wrap64 (t131 + 1)) t132 t133 bt134.1 bt136.1 true)) else (bodegalaw1_WordBallots.j0 k (wrap64 (t130 + 1)) (wrap64 (t131 + 1)) t132 t133 bt134.1 bt136.1 true)))))))) = some r := H
  have A5 := Aside0.mk A50
  clear A50
  replace H := Option.bind_eq_some_iff.mp H
  obtain ⟨t131, A60, H⟩ := H
  replace H : ((bodegahand_Pick.f a2 6).bind fun t132 => ((bodegahand_Pick.f a3 6).bind fun t133 => ((word_Ballot.f (wrap64 (t130 + 1)) t132).bind fun bt134 => ((word_Ballot.f (wrap64 (t131 + 1)) t133).bind fun bt136 => ((bodegalaw1_awake.f).bind fun t138 => (if t138 = true then (if bt134.2 = 0 then (bodegalaw1_WordBallots.j0 k (wrap64 (t130 + 1)) (wrap64 (t131 + 1)) t132 t133 bt134.1 bt136.1 (bt136.2 != 0)) else (bodegalaw1_WordBallots.j0 k (wrap64 (t130 + 1)) (wrap64 (t131 + 1)) t132 t133 bt134.1 bt136.1 true)) else (bodegalaw1_WordBallots.j0 k (wrap64 (t130 + 1)) (wrap64 (t131 + 1)) t132 t133 bt134.1 bt136.1 true))))))) = some r := H
  have A6 := Aside0.mk A60
  clear A60
  replace H := Option.bind_eq_some_iff.mp H
  obtain ⟨t132, A70, H⟩ := H
  replace H : ((bodegahand_Pick.f a3 6).bind fun t133 => ((word_Ballot.f (wrap64 (t130 + 1)) t132).bind fun bt134 => ((word_Ballot.f (wrap64 (t131 + 1)) t133).bind fun bt136 => ((bodegalaw1_awake.f).bind fun t138 => (if t138 = true then (if bt134.2 = 0 then (bodegalaw1_WordBallots.j0 k (wrap64 (t130 + 1)) (wrap64 (t131 + 1)) t132 t133 bt134.1 bt136.1 (bt136.2 != 0)) else (bodegalaw1_WordBallots.j0 k (wrap64 (t130 + 1)) (wrap64 (t131 + 1)) t132 t133 bt134.1 bt136.1 true)) else (bodegalaw1_WordBallots.j0 k (wrap64 (t130 + 1)) (wrap64 (t131 + 1)) t132 t133 bt134.1 bt136.1 true)))))) = some r := H
  have A7 := Aside0.mk A70
  clear A70
  replace H := Option.bind_eq_some_iff.mp H
  obtain ⟨t133, A80, H⟩ := H
  replace H : ((word_Ballot.f (wrap64 (t130 + 1)) t132).bind fun bt134 => ((word_Ballot.f (wrap64 (t131 + 1)) t133).bind fun bt136 => ((bodegalaw1_awake.f).bind fun t138 => (if t138 = true then (if bt134.2 = 0 then (bodegalaw1_WordBallots.j0 k (wrap64 (t130 + 1)) (wrap64 (t131 + 1)) t132 t133 bt134.1 bt136.1 (bt136.2 != 0)) else (bodegalaw1_WordBallots.j0 k (wrap64 (t130 + 1)) (wrap64 (t131 + 1)) t132 t133 bt134.1 bt136.1 true)) else (bodegalaw1_WordBallots.j0 k (wrap64 (t130 + 1)) (wrap64 (t131 + 1)) t132 t133 bt134.1 bt136.1 true))))) = some r := H
  have A8 := Aside0.mk A80
  clear A80
  replace H := Option.bind_eq_some_iff.mp H
  obtain ⟨⟨t134, t135⟩, A90, H⟩ := H
  replace H : ((word_Ballot.f (wrap64 (t131 + 1)) t133).bind fun bt136 => ((bodegalaw1_awake.f).bind fun t138 => (if t138 = true then (if t135 = 0 then (bodegalaw1_WordBallots.j0 k (wrap64 (t130 + 1)) (wrap64 (t131 + 1)) t132 t133 t134 bt136.1 (bt136.2 != 0)) else (bodegalaw1_WordBallots.j0 k (wrap64 (t130 + 1)) (wrap64 (t131 + 1)) t132 t133 t134 bt136.1 true)) else (bodegalaw1_WordBallots.j0 k (wrap64 (t130 + 1)) (wrap64 (t131 + 1)) t132 t133 t134 bt136.1 true)))) = some r := H
  have A9 := Aside0.mk A90
  clear A90
  replace H := Option.bind_eq_some_iff.mp H
  obtain ⟨⟨t136, t137⟩, A100, H⟩ := H
  replace H : ((bodegalaw1_awake.f).bind fun t138 => (if t138 = true then (if t135 = 0 then (bodegalaw1_WordBallots.j0 k (wrap64 (t130 + 1)) (wrap64 (t131 + 1)) t132 t133 t134 t136 (t137 != 0)) else (bodegalaw1_WordBallots.j0 k (wrap64 (t130 + 1)) (wrap64 (t131 + 1)) t132 t133 t134 t136 true)) else (bodegalaw1_WordBallots.j0 k (wrap64 (t130 + 1)) (wrap64 (t131 + 1)) t132 t133 t134 t136 true))) = some r := H
  have A10 := Aside0.mk A100
  clear A100
  have HC11 := Aside0.mk H
  clear H
  go_enter Try.func5, Try.ntmps5
  go_upto_region 5 with (first | ((with_reducible refine gate_callee (f := 22) rfl ?_); refine goesL_ (some 14) rfl rfl Try.func22 (by kernel_rfl) rfl #[.int .i64 a0, .int .i64 500] rfl (by (try simp only [List.map_toArray, List.map_cons, List.map_nil]); first | done | rfl | (simp only [List.length_drop, List.length_take]; rfl)) ?_; (with_reducible refine (bodegahand_Pick.calls a0 500 t130 _ A5.out).mono ?_); rintro e w' ⟨rfl, ⟨nd, rfl⟩⟩; refine ⟨_, rfl, ?_⟩) | ((with_reducible refine gate_callee (f := 22) rfl ?_); refine goesL_ (some 17) rfl rfl Try.func22 (by kernel_rfl) rfl #[.int .i64 a1, .int .i64 500] rfl (by (try simp only [List.map_toArray, List.map_cons, List.map_nil]); first | done | rfl | (simp only [List.length_drop, List.length_take]; rfl)) ?_; (with_reducible refine (bodegahand_Pick.calls a1 500 t131 _ A6.out).mono ?_); rintro e w' ⟨rfl, ⟨nd, rfl⟩⟩; refine ⟨_, rfl, ?_⟩) | ((with_reducible refine gate_callee (f := 22) rfl ?_); refine goesL_ (some 20) rfl rfl Try.func22 (by kernel_rfl) rfl #[.int .i64 a2, .int .i64 6] rfl (by (try simp only [List.map_toArray, List.map_cons, List.map_nil]); first | done | rfl | (simp only [List.length_drop, List.length_take]; rfl)) ?_; (with_reducible refine (bodegahand_Pick.calls a2 6 t132 _ A7.out).mono ?_); rintro e w' ⟨rfl, ⟨nd, rfl⟩⟩; refine ⟨_, rfl, ?_⟩) | ((with_reducible refine gate_callee (f := 22) rfl ?_); refine goesL_ (some 22) rfl rfl Try.func22 (by kernel_rfl) rfl #[.int .i64 a3, .int .i64 6] rfl (by (try simp only [List.map_toArray, List.map_cons, List.map_nil]); first | done | rfl | (simp only [List.length_drop, List.length_take]; rfl)) ?_; (with_reducible refine (bodegahand_Pick.calls a3 6 t133 _ A8.out).mono ?_); rintro e w' ⟨rfl, ⟨nd, rfl⟩⟩; refine ⟨_, rfl, ?_⟩) | ((with_reducible refine gate_callee (f := 23) rfl ?_); refine goesL_ (some 26) rfl rfl Try.func23 (by kernel_rfl) rfl #[.int .i64 (wrap64 (t130 + 1)), .int .i64 t132] rfl (by (try simp only [List.map_toArray, List.map_cons, List.map_nil]); first | done | rfl | (simp only [List.length_drop, List.length_take]; rfl)) ?_; (with_reducible refine (word_Ballot.calls (wrap64 (t130 + 1)) t132 t134 t135 _ A9.out).mono ?_); rintro e w' ⟨rfl, ⟨nd, rfl⟩⟩; refine ⟨_, rfl, ?_⟩) | ((with_reducible refine gate_callee (f := 23) rfl ?_); refine goesL_ (some 32) rfl rfl Try.func23 (by kernel_rfl) rfl #[.int .i64 (wrap64 (t131 + 1)), .int .i64 t133] rfl (by (try simp only [List.map_toArray, List.map_cons, List.map_nil]); first | done | rfl | (simp only [List.length_drop, List.length_take]; rfl)) ?_; (with_reducible refine (word_Ballot.calls (wrap64 (t131 + 1)) t133 t136 t137 _ A10.out).mono ?_); rintro e w' ⟨rfl, ⟨nd, rfl⟩⟩; refine ⟨_, rfl, ?_⟩))
  (try simp only [Act.put, List.setIfInBounds_toArray, List.set_cons_zero, List.set_cons_succ])
  go_cut [44] (fun v44 wc => ∃ (kq : Nat) (x44_10 : Bool), v44 = .bool x44_10 ∧ Aside0 (bodegalaw1_WordBallots.j0 kq (wrap64 (t130 + 1)) (wrap64 (t131 + 1)) t132 t133 t134 t136 x44_10 = some r) ∧ Aside0 (kq ≤ k) ∧ Drawn0 w wc)
  case first =>
    have H := HC11.out
    clear HC11
    replace H := Option.bind_eq_some_iff.mp H
    obtain ⟨t138, A120, H⟩ := H
    replace H : (if t138 = true then (if t135 = 0 then (bodegalaw1_WordBallots.j0 k (wrap64 (t130 + 1)) (wrap64 (t131 + 1)) t132 t133 t134 t136 (t137 != 0)) else (bodegalaw1_WordBallots.j0 k (wrap64 (t130 + 1)) (wrap64 (t131 + 1)) t132 t133 t134 t136 true)) else (bodegalaw1_WordBallots.j0 k (wrap64 (t130 + 1)) (wrap64 (t131 + 1)) t132 t133 t134 t136 true)) = some r := H
    have A12 := Aside0.mk A120
    clear A120
    by_cases c13 : t138 = true
    · subst c13
      have H1 : (if t135 = 0 then (bodegalaw1_WordBallots.j0 k (wrap64 (t130 + 1)) (wrap64 (t131 + 1)) t132 t133 t134 t136 (t137 != 0)) else (bodegalaw1_WordBallots.j0 k (wrap64 (t130 + 1)) (wrap64 (t131 + 1)) t132 t133 t134 t136 true)) = some r := by rw [if_pos rfl] at H; exact H
      clear H
      have H := H1
      clear H1
      by_cases c14 : t135 = 0
      · rw [if_pos c14] at H
        have c14b0 : (t135 == 0) = true := beq_iff_eq.mpr c14
        have c14b1 : (t135 != 0) = false := bne_eq_false_iff_eq.mpr c14
        clear c14
        (first | rw [c14b0] | (simp only [i64_w, i32_w]; rw [c14b0]) | skip)
        have H' := Aside0.mk H
        clear H
        go_wp2_with (first | ((with_reducible refine gate_callee (f := 19) rfl ?_); refine goesL_ (some 35) rfl rfl Try.func19 (by kernel_rfl) rfl #[] rfl (by (try simp only [List.map_toArray, List.map_cons, List.map_nil]); first | done | rfl | (simp only [List.length_drop, List.length_take]; rfl)) ?_; (with_reducible refine (bodegalaw1_awake.calls  true _ A12.out).mono ?_); rintro e w' ⟨rfl, ⟨nd, rfl⟩⟩; refine ⟨_, rfl, ?_⟩))
        go_meet
        case rel => exact ⟨_, ((t137 != 0)), (by first | rfl | (simp; done) | (simp [*]; done)), H', ⟨by first | omega | exact Nat.le_refl _⟩, by repeat (first | exact Drawn0.refl _ | apply Drawn0.step)⟩
      · rw [if_neg c14] at H
        have c14b0 : (t135 == 0) = false := beq_eq_false_iff_ne.mpr c14
        have c14b1 : (t135 != 0) = true := bne_iff_ne.mpr c14
        (first | rw [c14b0] | (simp only [i64_w, i32_w]; rw [c14b0]) | skip)
        have H' := Aside0.mk H
        clear H
        go_wp2_with (first | ((with_reducible refine gate_callee (f := 19) rfl ?_); refine goesL_ (some 35) rfl rfl Try.func19 (by kernel_rfl) rfl #[] rfl (by (try simp only [List.map_toArray, List.map_cons, List.map_nil]); first | done | rfl | (simp only [List.length_drop, List.length_take]; rfl)) ?_; (with_reducible refine (bodegalaw1_awake.calls  true _ A12.out).mono ?_); rintro e w' ⟨rfl, ⟨nd, rfl⟩⟩; refine ⟨_, rfl, ?_⟩))
        go_meet
        case rel => exact ⟨_, (true), (by first | rfl | (simp; done) | (simp [*]; done)), H', ⟨by first | omega | exact Nat.le_refl _⟩, by repeat (first | exact Drawn0.refl _ | apply Drawn0.step)⟩
    · replace c13 := Bool.eq_false_iff.mpr c13
      subst c13
      have H1 : (bodegalaw1_WordBallots.j0 k (wrap64 (t130 + 1)) (wrap64 (t131 + 1)) t132 t133 t134 t136 true) = some r := by rw [if_neg (show ¬ (false = true) by decide)] at H; exact H
      clear H
      have H := H1
      clear H1
      have H' := Aside0.mk H
      clear H
      go_wp2_with (first | ((with_reducible refine gate_callee (f := 19) rfl ?_); refine goesL_ (some 35) rfl rfl Try.func19 (by kernel_rfl) rfl #[] rfl (by (try simp only [List.map_toArray, List.map_cons, List.map_nil]); first | done | rfl | (simp only [List.length_drop, List.length_take]; rfl)) ?_; (with_reducible refine (bodegalaw1_awake.calls  false _ A12.out).mono ?_); rintro e w' ⟨rfl, ⟨nd, rfl⟩⟩; refine ⟨_, rfl, ?_⟩))
      go_meet
      case rel => exact ⟨_, (true), (by first | rfl | (simp; done) | (simp [*]; done)), H', ⟨by first | omega | exact Nat.le_refl _⟩, by repeat (first | exact Drawn0.refl _ | apply Drawn0.step)⟩
  case rest =>
    clear HC11
    try clear c1
    try clear c2
    try clear p2
    try clear c5
    try clear p6
    try clear c13
    try clear c14
    try clear c14b0
    try clear c14b1
    obtain ⟨kq, x44_10, rfl, HA, HJ10, ⟨mc10, rfl⟩⟩ := hcut
    cases kq with
    | zero => exact absurd HA.out (by simp [bodegalaw1_WordBallots.j0])
    | succ kj10 =>
      have H := HA.out
      clear HA
      simp only [bodegalaw1_WordBallots.j0] at H
      by_cases c15 : x44_10 = true
      · subst c15
        have H1 : (some false) = some r := by rw [if_pos rfl] at H; exact H
        clear H
        have H := H1
        clear H1
        obtain rfl := Option.some.inj H
        go_wp2
        go_ret
        exact ⟨by first | rfl | (simp; done) | (simp [*]; done), by repeat (first | exact Drawn0.refl _ | apply Drawn0.step)⟩
      · replace c15 := Bool.eq_false_iff.mpr c15
        subst c15
        have H1 : (if (wrap64 (t130 + 1)) = (wrap64 (t131 + 1)) then (if ((decide (t134 < t136)) == (decide (t132 < t133))) = true then (some ((t134 == t136) == (t132 == t133))) else (some false)) else (if ((decide (t134 < t136)) == (decide ((wrap64 (t130 + 1)) < (wrap64 (t131 + 1))))) = true then (some (t134 != t136)) else (some false))) = some r := by rw [if_neg (show ¬ (false = true) by decide)] at H; exact H
        clear H
        have H := H1
        clear H1
        by_cases c16 : (wrap64 (t130 + 1)) = (wrap64 (t131 + 1))
        · rw [if_pos c16] at H
          have c16b0 : ((wrap64 (t130 + 1)) == (wrap64 (t131 + 1))) = true := beq_iff_eq.mpr c16
          have c16b1 : ((wrap64 (t130 + 1)) != (wrap64 (t131 + 1))) = false := bne_eq_false_iff_eq.mpr c16
          clear c16
          by_cases c17 : ((decide (t134 < t136)) == (decide (t132 < t133))) = true
          · rw [if_pos c17] at H
            have c17b0 : ((decide (t134 < t136)) == (decide (t132 < t133))) = true := c17
            (try (have c17b1 : decide ((decide (t134 < t136)) = (decide (t132 < t133))) = true := by simpa using c17))
            (try (have c17b2 : ((decide (t134 < t136)) == (decide (t132 < t133))) = true := by simpa using c17))
            clear c17
            obtain rfl := Option.some.inj H
            go_wp2
            go_ret
            exact ⟨by first | rfl | (simp; done) | (simp [*]; done), by repeat (first | exact Drawn0.refl _ | apply Drawn0.step)⟩
          · rw [if_neg c17] at H
            have c17b0 : ((decide (t134 < t136)) == (decide (t132 < t133))) = false := by simpa using c17
            (try (have c17b1 : decide ((decide (t134 < t136)) = (decide (t132 < t133))) = false := by simpa using c17))
            (try (have c17b2 : ((decide (t134 < t136)) == (decide (t132 < t133))) = false := by simpa using c17))
            (try (have c17b3 : ¬ ((decide (t134 < t136)) = (decide (t132 < t133))) := by simpa using c17))
            clear c17
            obtain rfl := Option.some.inj H
            go_wp2
            go_ret
            exact ⟨by first | rfl | (simp; done) | (simp [*]; done), by repeat (first | exact Drawn0.refl _ | apply Drawn0.step)⟩
        · rw [if_neg c16] at H
          have c16b0 : ((wrap64 (t130 + 1)) == (wrap64 (t131 + 1))) = false := beq_eq_false_iff_ne.mpr c16
          have c16b1 : ((wrap64 (t130 + 1)) != (wrap64 (t131 + 1))) = true := bne_iff_ne.mpr c16
          by_cases c18 : ((decide (t134 < t136)) == (decide ((wrap64 (t130 + 1)) < (wrap64 (t131 + 1))))) = true
          · rw [if_pos c18] at H
            have c18b0 : ((decide (t134 < t136)) == (decide ((wrap64 (t130 + 1)) < (wrap64 (t131 + 1))))) = true := c18
            (try (have c18b1 : decide ((decide (t134 < t136)) = (decide ((wrap64 (t130 + 1)) < (wrap64 (t131 + 1))))) = true := by simpa using c18))
            (try (have c18b2 : ((decide (t134 < t136)) == (decide ((wrap64 (t130 + 1)) < (wrap64 (t131 + 1))))) = true := by simpa using c18))
            clear c18
            obtain rfl := Option.some.inj H
            go_wp2
            go_ret
            exact ⟨by first | rfl | (simp; done) | (simp [*]; done), by repeat (first | exact Drawn0.refl _ | apply Drawn0.step)⟩
          · rw [if_neg c18] at H
            have c18b0 : ((decide (t134 < t136)) == (decide ((wrap64 (t130 + 1)) < (wrap64 (t131 + 1))))) = false := by simpa using c18
            (try (have c18b1 : decide ((decide (t134 < t136)) = (decide ((wrap64 (t130 + 1)) < (wrap64 (t131 + 1))))) = false := by simpa using c18))
            (try (have c18b2 : ((decide (t134 < t136)) == (decide ((wrap64 (t130 + 1)) < (wrap64 (t131 + 1))))) = false := by simpa using c18))
            (try (have c18b3 : ¬ ((decide (t134 < t136)) = (decide ((wrap64 (t130 + 1)) < (wrap64 (t131 + 1))))) := by simpa using c18))
            clear c18
            obtain rfl := Option.some.inj H
            go_wp2
            go_ret
            exact ⟨by first | rfl | (simp; done) | (simp [*]; done), by repeat (first | exact Drawn0.refl _ | apply Drawn0.step)⟩

/-- THE ONE PURE STATEMENT of bodegalaw1_WordBallots: yours. -/
def bodegalaw1_WordBallots.Pure : Prop := ∀ (a0 : Int) (a1 : Int) (a2 : Int) (a3 : Int), (Lit.int .i64 a0).wf = true → (Lit.int .i64 a1).wf = true → (Lit.int .i64 a2).wf = true → (Lit.int .i64 a3).wf = true → ∃ k, bodegalaw1_WordBallots.f k a0 a1 a2 a3 = some true
theorem bodegalaw1_WordBallots.walk (P : bodegalaw1_WordBallots.Pure) (a0 : Int) (a1 : Int) (a2 : Int) (a3 : Int) (w : World) (w0 : (Lit.int .i64 a0).wf = true) (w1 : (Lit.int .i64 a1).wf = true) (w2 : (Lit.int .i64 a2).wf = true) (w3 : (Lit.int .i64 a3).wf = true) :
    Calls Try.prog 5 #[.int .i64 a0, .int .i64 a1, .int .i64 a2, .int .i64 a3] w fun e w' => e = .returned (.bool true) ∧ Below w.heap.size w w' := by
  obtain ⟨k, h⟩ := P a0 a1 a2 a3 w0 w1 w2 w3
  refine (bodegalaw1_WordBallots.calls k a0 a1 a2 a3 true w h).mono ?_
  rintro e w' ⟨rfl, hd⟩
  exact ⟨rfl, hd.below⟩

end Go.Proofs.Ytpcoflcelmfnbaa.PWordBallots
