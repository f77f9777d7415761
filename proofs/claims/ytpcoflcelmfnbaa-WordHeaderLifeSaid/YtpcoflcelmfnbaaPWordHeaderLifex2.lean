-- PRINTED BY print.sh 35421559b90ae4d0a3588c463048766b98c2df88dd9212a6774a882060cdf62d: not written by this session
import Derived.Test.YtpcoflcelmfnbaaPWordHeaderLifex0
import Derived.Test.YtpcoflcelmfnbaaPWordHeaderLifex1
namespace Go.Proofs.Ytpcoflcelmfnbaa.PWordHeaderLife
open Go.RowKit Go.Proofs.YtpcoflcelmfnbaaW.PrintWords Go.Proofs.YtpcoflcelmfnbaaW.PrintLast Go.Proofs.YtpcoflcelmfnbaaW.PrintMore
attribute [local go_sem] max2_int min2_int max_two min_two max_three min_three max_four min_four   -- for this text's walks alone
set_option linter.unusedVariables false
set_option linter.unusedSimpArgs false

/-! ### bodegalaw1_WordHeaderLife: function 4 -/
mutual
def bodegalaw1_WordHeaderLife.j0 : Nat → Int → Int → Int → Int → Int → Bool → Option (Bool)
  | 0, _, _, _, _, _, _ => none
  | k + 1, x0, x1, x2, x3, x9, x41 => if x41 = true then (some false) else (bodegalaw1_WordHeaderLife.l0 k x0 x1 x2 x3 x9 0)
def bodegalaw1_WordHeaderLife.l0 : Nat → Int → Int → Int → Int → Int → Int → Option (Bool)
  | 0, _, _, _, _, _, _ => none
  | k + 1, x0, x1, x2, x3, x9, x11 => (bodegahand_Pick.f x3 40).bind fun t135 => (if x11 < t135 then ((word_Lock.f x9 x1).bind fun bt139 => ((word_Lock.f bt139.1 x2).bind fun bt141 => ((word_SplitHeader.f bt139.1).bind fun bt143 => (if bt139.2 = 0 then (if bt141.2 = 3 then (if bt143.1 = (IntKind.u64.wrap (x0 + (IntKind.u64.wrap (x11)))) then (if bt143.2 = (wrap64 (x1 + 1)) then ((word_Unlocked.f bt139.1).bind fun t145 => (if t145 = true then (bodegalaw1_WordHeaderLife.j2 k x0 x1 x2 x3 x9 x11 bt139.1 true) else ((word_Unlocked.f x9).bind fun t146 => (bodegalaw1_WordHeaderLife.j2 k x0 x1 x2 x3 x9 x11 bt139.1 (!t146))))) else (bodegalaw1_WordHeaderLife.j2 k x0 x1 x2 x3 x9 x11 bt139.1 true)) else (bodegalaw1_WordHeaderLife.j2 k x0 x1 x2 x3 x9 x11 bt139.1 true)) else (bodegalaw1_WordHeaderLife.j2 k x0 x1 x2 x3 x9 x11 bt139.1 true)) else (bodegalaw1_WordHeaderLife.j2 k x0 x1 x2 x3 x9 x11 bt139.1 true))))) else ((word_SplitHeader.f x9).bind fun bt136 => (if bt136.2 = 0 then ((bodegahand_Pick.f x3 40).bind fun t138 => (some (bt136.1 == (IntKind.u64.wrap (x0 + (IntKind.u64.wrap (t138))))))) else (some false))))
def bodegalaw1_WordHeaderLife.j2 : Nat → Int → Int → Int → Int → Int → Int → Int → Bool → Option (Bool)
  | 0, _, _, _, _, _, _, _, _ => none
  | k + 1, x0, x1, x2, x3, x9, x11, x12, x93 => if x93 = true then (some false) else ((word_Next.f x12).bind fun bt147 => ((word_Next.f x9).bind fun bt149 => (if bt147.2 = 0 then (if bt149.2 = 0 then (if bt147.1 = bt149.1 then (if bt147.1 ≤ x12 then (some false) else (bodegalaw1_WordHeaderLife.l0 k x0 x1 x2 x3 bt147.1 (wrap64 (x11 + 1)))) else (some false)) else (some false)) else (some false))))
end
def bodegalaw1_WordHeaderLife.f (k : Nat) (a0 : Int) (a1 : Int) (a2 : Int) (a3 : Int) : Option (Bool) := (bodegahand_Pick.f a1 6).bind fun t130 => ((bodegahand_Pick.f a2 6).bind fun t131 => ((word_Header.f (IntKind.u64.wrap ((Int.tmod a0 281474976710556) + 1)) 0).bind fun bt132 => (if bt132.2 = 0 then ((bodegalaw1_awake.f).bind fun t134 => (bodegalaw1_WordHeaderLife.j0 k (IntKind.u64.wrap ((Int.tmod a0 281474976710556) + 1)) t130 t131 a3 bt132.1 (!t134))) else (bodegalaw1_WordHeaderLife.j0 k (IntKind.u64.wrap ((Int.tmod a0 281474976710556) + 1)) t130 t131 a3 bt132.1 true))))
theorem bodegalaw1_WordHeaderLife.mono_l : ∀ k, (∀ y0 y1 y2 y3 y4 y5, LeO (bodegalaw1_WordHeaderLife.j0 k y0 y1 y2 y3 y4 y5) (bodegalaw1_WordHeaderLife.j0 (k + 1) y0 y1 y2 y3 y4 y5)) ∧ (∀ y0 y1 y2 y3 y4 y5, LeO (bodegalaw1_WordHeaderLife.l0 k y0 y1 y2 y3 y4 y5) (bodegalaw1_WordHeaderLife.l0 (k + 1) y0 y1 y2 y3 y4 y5)) ∧ (∀ y0 y1 y2 y3 y4 y5 y6 y7, LeO (bodegalaw1_WordHeaderLife.j2 k y0 y1 y2 y3 y4 y5 y6 y7) (bodegalaw1_WordHeaderLife.j2 (k + 1) y0 y1 y2 y3 y4 y5 y6 y7))
  | 0 => ⟨fun _ _ _ _ _ _ r h => by simp [bodegalaw1_WordHeaderLife.j0] at h, fun _ _ _ _ _ _ r h => by simp [bodegalaw1_WordHeaderLife.l0] at h, fun _ _ _ _ _ _ _ _ r h => by simp [bodegalaw1_WordHeaderLife.j2] at h⟩
  | k + 1 => by
    obtain ⟨ih0, ih1, ih2⟩ := bodegalaw1_WordHeaderLife.mono_l k
    refine ⟨?_, ?_, ?_⟩
    · intro y0 y1 y2 y3 y4 y5
      unfold bodegalaw1_WordHeaderLife.j0
      repeat' first
      | (with_reducible exact ih0 _ _ _ _ _ _)
      | (with_reducible exact ih1 _ _ _ _ _ _)
      | (with_reducible exact ih2 _ _ _ _ _ _ _ _)
      | (with_reducible exact LeO.refl _)
      | (with_reducible exact LeO.none _)
      | (with_reducible refine LeO.ite ?_ ?_)
      | (with_reducible refine LeO.bind ?_ (fun _ => ?_))
      | exact ih0 _ _ _ _ _ _
      | exact ih1 _ _ _ _ _ _
      | exact ih2 _ _ _ _ _ _ _ _
      | exact LeO.none _
      | refine LeO.ite ?_ ?_
      | refine LeO.bind ?_ (fun _ => ?_)
    · intro y0 y1 y2 y3 y4 y5
      unfold bodegalaw1_WordHeaderLife.l0
      repeat' first
      | (with_reducible exact ih0 _ _ _ _ _ _)
      | (with_reducible exact ih1 _ _ _ _ _ _)
      | (with_reducible exact ih2 _ _ _ _ _ _ _ _)
      | (with_reducible exact LeO.refl _)
      | (with_reducible exact LeO.none _)
      | (with_reducible refine LeO.ite ?_ ?_)
      | (with_reducible refine LeO.bind ?_ (fun _ => ?_))
      | exact ih0 _ _ _ _ _ _
      | exact ih1 _ _ _ _ _ _
      | exact ih2 _ _ _ _ _ _ _ _
      | exact LeO.none _
      | refine LeO.ite ?_ ?_
      | refine LeO.bind ?_ (fun _ => ?_)
    · intro y0 y1 y2 y3 y4 y5 y6 y7
      unfold bodegalaw1_WordHeaderLife.j2
      repeat' first
      | (with_reducible exact ih0 _ _ _ _ _ _)
      | (with_reducible exact ih1 _ _ _ _ _ _)
      | (with_reducible exact ih2 _ _ _ _ _ _ _ _)
      | (with_reducible exact LeO.refl _)
      | (with_reducible exact LeO.none _)
      | (with_reducible refine LeO.ite ?_ ?_)
      | (with_reducible refine LeO.bind ?_ (fun _ => ?_))
      | exact ih0 _ _ _ _ _ _
      | exact ih1 _ _ _ _ _ _
      | exact ih2 _ _ _ _ _ _ _ _
      | exact LeO.none _
      | refine LeO.ite ?_ ?_
      | refine LeO.bind ?_ (fun _ => ?_)
theorem bodegalaw1_WordHeaderLife.mono : ∀ a0 a1 a2 a3 k, LeO (bodegalaw1_WordHeaderLife.f k a0 a1 a2 a3) (bodegalaw1_WordHeaderLife.f (k + 1) a0 a1 a2 a3) := by
  intro a0 a1 a2 a3 k
  obtain ⟨ih0, ih1, ih2⟩ := bodegalaw1_WordHeaderLife.mono_l k
  unfold bodegalaw1_WordHeaderLife.f
  repeat' first
      | (with_reducible exact ih0 _ _ _ _ _ _)
      | (with_reducible exact ih1 _ _ _ _ _ _)
      | (with_reducible exact ih2 _ _ _ _ _ _ _ _)
      | (with_reducible exact LeO.refl _)
      | (with_reducible exact LeO.none _)
      | (with_reducible refine LeO.ite ?_ ?_)
      | (with_reducible refine LeO.bind ?_ (fun _ => ?_))
      | exact ih0 _ _ _ _ _ _
      | exact ih1 _ _ _ _ _ _
      | exact ih2 _ _ _ _ _ _ _ _
      | exact LeO.none _
      | refine LeO.ite ?_ ?_
      | refine LeO.bind ?_ (fun _ => ?_)
set_option maxHeartbeats 8000000 in
set_option maxRecDepth 100000 in
theorem bodegalaw1_WordHeaderLife.calls (k : Nat) (a0 : Int) (a1 : Int) (a2 : Int) (a3 : Int) (r : Bool) (w : World) (h : bodegalaw1_WordHeaderLife.f k a0 a1 a2 a3 = some r) :
    Calls Try.prog 4 #[.int .u64 a0, .int .i64 a1, .int .i64 a2, .int .i64 a3] w fun e w' => e = .returned (.bool r) ∧ Drawn0 w w' := by
  have H : ((bodegahand_Pick.f a1 6).bind fun t130 => ((bodegahand_Pick.f a2 6).bind fun t131 => ((word_Header.f (IntKind.u64.wrap ((Int.tmod a0 281474976710556) + 1)) 0).bind fun bt132 => (if bt132.2 = 0 then ((bodegalaw1_awake.f).bind fun t134 => (bodegalaw1_WordHeaderLife.j0 k (IntKind.u64.wrap ((Int.tmod a0 281474976710556) + 1)) t130 t131 a3 bt132.1 (!t134))) else (bodegalaw1_WordHeaderLife.j0 k (IntKind.u64.wrap ((Int.tmod a0 281474976710556) + 1)) t130 t131 a3 bt132.1 true))))) = some r := h
  clear h
  replace H := Option.bind_eq_some_iff.mp H
  obtain ⟨t130, A50, H⟩ := H
  replace H : ((bodegahand_Pick.f a2 6).bind fun t131 => ((word_Header.f (IntKind.u64.wrap ((Int.tmod a0 281474976710556) + 1)) 0).bind fun bt132 => (if bt132.2 = 0 then ((bodegalaw1_awake.f).bind fun t134 => (bodegalaw1_WordHeaderLife.j0 k (IntKind.u64.wrap ((Int.tmod a0 281474976710556) + 1)) t130 t131 a3 bt132.1 (!t134))) else (bodegalaw1_WordHeaderLife.j0 k (IntKind.u64.wrap ((Int.tmod a0 281474976710556) + 1)) t130 t131 a3 bt132.1 true)))) = some r := H
  have A5 := Aside0.mk A50
  clear A50
  replace H := Option.bind_eq_some_iff.mp H
  obtain ⟨t131, A60, H⟩ := H
  replace H : ((word_Header.f (IntKind.u64.wrap ((Int.tmod a0 281474976710556) + 1)) 0).bind fun bt132 => (if bt132.2 = 0 then ((bodegalaw1_awake.f).bind fun t134 => (bodegalaw1_WordHeaderLife.j0 k (IntKind.u64.wrap ((Int.tmod a0 281474976710556) + 1)) t130 t131 a3 bt132.1 (!t134))) else (bodegalaw1_WordHeaderLife.j0 k (IntKind.u64.wrap ((Int.tmod a0 281474976710556) + 1)) t130 t131 a3 bt132.1 true))) = some r := H
  have A6 := Aside0.mk A60
  clear A60
  replace H := Option.bind_eq_some_iff.mp H
  obtain ⟨⟨t132, t133⟩, A70, H⟩ := H
  replace H : (if t133 = 0 then ((bodegalaw1_awake.f).bind fun t134 => (bodegalaw1_WordHeaderLife.j0 k (IntKind.u64.wrap ((Int.tmod a0 281474976710556) + 1)) t130 t131 a3 t132 (!t134))) else (bodegalaw1_WordHeaderLife.j0 k (IntKind.u64.wrap ((Int.tmod a0 281474976710556) + 1)) t130 t131 a3 t132 true)) = some r := H
  have A7 := Aside0.mk A70
  clear A70
  have HC8 := Aside0.mk H
  clear H
  go_enter Try.func4, Try.ntmps4
  go_upto_region 4 with (first | ((with_reducible refine gate_callee (f := 22) rfl ?_); refine goesL_ (some 28) rfl rfl Try.func22 (by kernel_rfl) rfl #[.int .i64 a1, .int .i64 6] rfl (by (try simp only [List.map_toArray, List.map_cons, List.map_nil]); first | done | rfl | (simp only [List.length_drop, List.length_take]; rfl)) ?_; (with_reducible refine (bodegahand_Pick.calls a1 6 t130 _ A5.out).mono ?_); rintro e w' ⟨rfl, ⟨nd, rfl⟩⟩; refine ⟨_, rfl, ?_⟩) | ((with_reducible refine gate_callee (f := 22) rfl ?_); refine goesL_ (some 30) rfl rfl Try.func22 (by kernel_rfl) rfl #[.int .i64 a2, .int .i64 6] rfl (by (try simp only [List.map_toArray, List.map_cons, List.map_nil]); first | done | rfl | (simp only [List.length_drop, List.length_take]; rfl)) ?_; (with_reducible refine (bodegahand_Pick.calls a2 6 t131 _ A6.out).mono ?_); rintro e w' ⟨rfl, ⟨nd, rfl⟩⟩; refine ⟨_, rfl, ?_⟩) | ((with_reducible refine gate_callee (f := 11) rfl ?_); refine goesL_ (some 33) rfl rfl Try.func11 (by kernel_rfl) rfl #[.int .u64 (IntKind.u64.wrap ((Int.tmod a0 281474976710556) + 1)), .int .i64 0] rfl (by (try simp only [List.map_toArray, List.map_cons, List.map_nil]); first | done | rfl | (simp only [List.length_drop, List.length_take]; rfl)) ?_; (with_reducible refine (word_Header.calls (IntKind.u64.wrap ((Int.tmod a0 281474976710556) + 1)) 0 t132 t133 _ A7.out).mono ?_); rintro e w' ⟨rfl, ⟨nd, rfl⟩⟩; refine ⟨_, rfl, ?_⟩))
  (try simp only [Act.put, List.setIfInBounds_toArray, List.set_cons_zero, List.set_cons_succ])
  go_cut [41] (fun v41 wc => ∃ (kq : Nat) (x41_7 : Bool), v41 = .bool x41_7 ∧ Aside0 (bodegalaw1_WordHeaderLife.j0 kq (IntKind.u64.wrap ((Int.tmod a0 281474976710556) + 1)) t130 t131 a3 t132 x41_7 = some r) ∧ Aside0 (kq ≤ k) ∧ Drawn0 w wc)
  case first =>
    have H := HC8.out
    clear HC8
    by_cases c9 : t133 = 0
    · rw [if_pos c9] at H
      have c9b0 : (t133 == 0) = true := beq_iff_eq.mpr c9
      have c9b1 : (t133 != 0) = false := bne_eq_false_iff_eq.mpr c9
      clear c9
      (first | rw [c9b0] | (simp only [i64_w, i32_w]; rw [c9b0]) | skip)
      replace H := Option.bind_eq_some_iff.mp H
      obtain ⟨t134, A100, H⟩ := H
      replace H : (bodegalaw1_WordHeaderLife.j0 k (IntKind.u64.wrap ((Int.tmod a0 281474976710556) + 1)) t130 t131 a3 t132 (!t134)) = some r := H
      have A10 := Aside0.mk A100
      clear A100
      have H' := Aside0.mk H
      clear H
      go_wp2_with (first | (go_at_call 19; (with_reducible refine (bodegalaw1_awake.calls  t134 _ A10.out).mono ?_); rintro e w' ⟨rfl, ⟨nd, rfl⟩⟩))
      go_meet
      case rel => exact ⟨_, (!t134), (by first | rfl | (simp; done) | (simp [*]; done)), H', ⟨by first | omega | exact Nat.le_refl _⟩, by repeat (first | exact Drawn0.refl _ | apply Drawn0.step)⟩
    · rw [if_neg c9] at H
      have c9b0 : (t133 == 0) = false := beq_eq_false_iff_ne.mpr c9
      have c9b1 : (t133 != 0) = true := bne_iff_ne.mpr c9
      (first | rw [c9b0] | (simp only [i64_w, i32_w]; rw [c9b0]) | skip)
      have H' := Aside0.mk H
      clear H
      go_wp2
      go_meet
      case rel => exact ⟨_, (true), (by first | rfl | (simp; done) | (simp [*]; done)), H', ⟨by first | omega | exact Nat.le_refl _⟩, by repeat (first | exact Drawn0.refl _ | apply Drawn0.step)⟩
  case rest =>
    clear HC8
    try clear c1
    try clear c2
    try clear p2
    try clear c4
    try clear c9
    try clear c9b0
    try clear c9b1
    obtain ⟨kq, x41_7, rfl, HA, HJ7, ⟨mc7, rfl⟩⟩ := hcut
    cases kq with
    | zero => exact absurd HA.out (by simp [bodegalaw1_WordHeaderLife.j0])
    | succ kj7 =>
      have H := HA.out
      clear HA
      simp only [bodegalaw1_WordHeaderLife.j0] at H
      by_cases c11 : x41_7 = true
      · subst c11
        have H1 : (some false) = some r := by rw [if_pos rfl] at H; exact H
        clear H
        have H := H1
        clear H1
        obtain rfl := Option.some.inj H
        go_wp2
        go_ret
        exact ⟨by first | rfl | (simp; done) | (simp [*]; done), by repeat (first | exact Drawn0.refl _ | apply Drawn0.step)⟩
      · replace c11 := Bool.eq_false_iff.mpr c11
        subst c11
        have H1 : (bodegalaw1_WordHeaderLife.l0 kj7 (IntKind.u64.wrap ((Int.tmod a0 281474976710556) + 1)) t130 t131 a3 t132 0) = some r := by rw [if_neg (show ¬ (false = true) by decide)] at H; exact H
        clear H
        have H := H1
        clear H1
        have H' := Aside0.mk H
        clear H
        go_wp2
        go_loopg [9, 11] kj7 (fun kq v9 v11 w' => ∃ (x9_2 : Int) (x11_2 : Int), v9 = .int .u64 x9_2 ∧ v11 = .int .i64 x11_2 ∧ Aside0 (bodegalaw1_WordHeaderLife.l0 kq (IntKind.u64.wrap ((Int.tmod a0 281474976710556) + 1)) t130 t131 a3 x9_2 x11_2 = some r) ∧ Aside0 (kq ≤ kj7) ∧ Drawn0 w w')
        case atStart => exact ⟨(t132), (0), (by first | rfl | (simp; done) | (simp [*]; done)), (by first | rfl | (simp; done) | (simp [*]; done)), H', ⟨Nat.le_refl _⟩, by repeat (first | exact Drawn0.refl _ | apply Drawn0.step)⟩
        case round =>
          clear H'
          try clear c1
          try clear c2
          try clear p2
          try clear c4
          try clear c7
          try clear c9
          try clear c9b0
          try clear c9b1
          try clear c11
          try clear p2
          obtain ⟨x9_2, x11_2, rfl, rfl, HA, HK2, ⟨m2, rfl⟩⟩ := hrel
          cases gk with
          | zero => exact absurd HA.out (by simp [bodegalaw1_WordHeaderLife.l0])
          | succ k2 =>
            have H := HA.out
            clear HA
            simp only [bodegalaw1_WordHeaderLife.l0] at H
            replace H := Option.bind_eq_some_iff.mp H
            obtain ⟨t135, A120, H⟩ := H
            replace H : (if x11_2 < t135 then ((word_Lock.f x9_2 t130).bind fun bt139 => ((word_Lock.f bt139.1 t131).bind fun bt141 => ((word_SplitHeader.f bt139.1).bind fun bt143 => (if bt139.2 = 0 then (if bt141.2 = 3 then (if bt143.1 = (IntKind.u64.wrap ((IntKind.u64.wrap ((Int.tmod a0 281474976710556) + 1)) + (IntKind.u64.wrap (x11_2)))) then (if bt143.2 = (wrap64 (t130 + 1)) then ((word_Unlocked.f bt139.1).bind fun t145 => (if t145 = true then (bodegalaw1_WordHeaderLife.j2 k2 (IntKind.u64.wrap ((Int.tmod a0 281474976710556) + 1)) t130 t131 a3 x9_2 x11_2 bt139.1 true) else ((word_Unlocked.f x9_2).bind fun t146 => (bodegalaw1_WordHeaderLife.j2 k2 (IntKind.u64.wrap ((Int.tmod a0 281474976710556) + 1)) t130 t131 a3 x9_2 x11_2 bt139.1 (!t146))))) else (bodegalaw1_WordHeaderLife.j2 k2 (IntKind.u64.wrap ((Int.tmod a0 281474976710556) + 1)) t130 t131 a3 x9_2 x11_2 bt139.1 true)) else (bodegalaw1_WordHeaderLife.j2 k2 (IntKind.u64.wrap ((Int.tmod a0 281474976710556) + 1)) t130 t131 a3 x9_2 x11_2 bt139.1 true)) else (bodegalaw1_WordHeaderLife.j2 k2 (IntKind.u64.wrap ((Int.tmod a0 281474976710556) + 1)) t130 t131 a3 x9_2 x11_2 bt139.1 true)) else (bodegalaw1_WordHeaderLife.j2 k2 (IntKind.u64.wrap ((Int.tmod a0 281474976710556) + 1)) t130 t131 a3 x9_2 x11_2 bt139.1 true))))) else ((word_SplitHeader.f x9_2).bind fun bt136 => (if bt136.2 = 0 then ((bodegahand_Pick.f a3 40).bind fun t138 => (some (bt136.1 == (IntKind.u64.wrap ((IntKind.u64.wrap ((Int.tmod a0 281474976710556) + 1)) + (IntKind.u64.wrap (t138))))))) else (some false)))) = some r := H
            have A12 := Aside0.mk A120
            clear A120
            by_cases c13 : x11_2 < t135
            · rw [if_pos c13] at H
              have c13b0 : decide (x11_2 < t135) = true := decide_eq_true c13
              clear c13
              replace H := Option.bind_eq_some_iff.mp H
              obtain ⟨⟨t139, t140⟩, A140, H⟩ := H
              replace H : ((word_Lock.f t139 t131).bind fun bt141 => ((word_SplitHeader.f t139).bind fun bt143 => (if t140 = 0 then (if bt141.2 = 3 then (if bt143.1 = (IntKind.u64.wrap ((IntKind.u64.wrap ((Int.tmod a0 281474976710556) + 1)) + (IntKind.u64.wrap (x11_2)))) then (if bt143.2 = (wrap64 (t130 + 1)) then ((word_Unlocked.f t139).bind fun t145 => (if t145 = true then (bodegalaw1_WordHeaderLife.j2 k2 (IntKind.u64.wrap ((Int.tmod a0 281474976710556) + 1)) t130 t131 a3 x9_2 x11_2 t139 true) else ((word_Unlocked.f x9_2).bind fun t146 => (bodegalaw1_WordHeaderLife.j2 k2 (IntKind.u64.wrap ((Int.tmod a0 281474976710556) + 1)) t130 t131 a3 x9_2 x11_2 t139 (!t146))))) else (bodegalaw1_WordHeaderLife.j2 k2 (IntKind.u64.wrap ((Int.tmod a0 281474976710556) + 1)) t130 t131 a3 x9_2 x11_2 t139 true)) else (bodegalaw1_WordHeaderLife.j2 k2 (IntKind.u64.wrap ((Int.tmod a0 281474976710556) + 1)) t130 t131 a3 x9_2 x11_2 t139 true)) else (bodegalaw1_WordHeaderLife.j2 k2 (IntKind.u64.wrap ((Int.tmod a0 281474976710556) + 1)) t130 t131 a3 x9_2 x11_2 t139 true)) else (bodegalaw1_WordHeaderLife.j2 k2 (IntKind.u64.wrap ((Int.tmod a0 281474976710556) + 1)) t130 t131 a3 x9_2 x11_2 t139 true)))) = some r := H
              have A14 := Aside0.mk A140
              clear A140
              replace H := Option.bind_eq_some_iff.mp H
              obtain ⟨⟨t141, t142⟩, A150, H⟩ := H
              replace H : ((word_SplitHeader.f t139).bind fun bt143 => (if t140 = 0 then (if t142 = 3 then (if bt143.1 = (IntKind.u64.wrap ((IntKind.u64.wrap ((Int.tmod a0 281474976710556) + 1)) + (IntKind.u64.wrap (x11_2)))) then (if bt143.2 = (wrap64 (t130 + 1)) then ((word_Unlocked.f t139).bind fun t145 => (if t145 = true then (bodegalaw1_WordHeaderLife.j2 k2 (IntKind.u64.wrap ((Int.tmod a0 281474976710556) + 1)) t130 t131 a3 x9_2 x11_2 t139 true) else ((word_Unlocked.f x9_2).bind fun t146 => (bodegalaw1_WordHeaderLife.j2 k2 (IntKind.u64.wrap ((Int.tmod a0 281474976710556) + 1)) t130 t131 a3 x9_2 x11_2 t139 (!t146))))) else (bodegalaw1_WordHeaderLife.j2 k2 (IntKind.u64.wrap ((Int.tmod a0 281474976710556) + 1)) t130 t131 a3 x9_2 x11_2 t139 true)) else (bodegalaw1_WordHeaderLife.j2 k2 (IntKind.u64.wrap ((Int.tmod a0 281474976710556) + 1)) t130 t131 a3 x9_2 x11_2 t139 true)) else (bodegalaw1_WordHeaderLife.j2 k2 (IntKind.u64.wrap ((Int.tmod a0 281474976710556) + 1)) t130 t131 a3 x9_2 x11_2 t139 true)) else (bodegalaw1_WordHeaderLife.j2 k2 (IntKind.u64.wrap ((Int.tmod a0 281474976710556) + 1)) t130 t131 a3 x9_2 x11_2 t139 true))) = some r := H
              have A15 := Aside0.mk A150
              clear A150
              replace H := Option.bind_eq_some_iff.mp H
              obtain ⟨⟨t143, t144⟩, A160, H⟩ := H
              replace H : (if t140 = 0 then (if t142 = 3 then (if t143 = (IntKind.u64.wrap ((IntKind.u64.wrap ((Int.tmod a0 281474976710556) + 1)) + (IntKind.u64.wrap (x11_2)))) then (if t144 = (wrap64 (t130 + 1)) then ((word_Unlocked.f t139).bind fun t145 => (if t145 = true then (bodegalaw1_WordHeaderLife.j2 k2 (IntKind.u64.wrap ((Int.tmod a0 281474976710556) + 1)) t130 t131 a3 x9_2 x11_2 t139 true) else ((word_Unlocked.f x9_2).bind fun t146 => (bodegalaw1_WordHeaderLife.j2 k2 (IntKind.u64.wrap ((Int.tmod a0 281474976710556) + 1)) t130 t131 a3 x9_2 x11_2 t139 (!t146))))) else (bodegalaw1_WordHeaderLife.j2 k2 (IntKind.u64.wrap ((Int.tmod a0 281474976710556) + 1)) t130 t131 a3 x9_2 x11_2 t139 true)) else (bodegalaw1_WordHeaderLife.j2 k2 (IntKind.u64.wrap ((Int.tmod a0 281474976710556) + 1)) t130 t131 a3 x9_2 x11_2 t139 true)) else (bodegalaw1_WordHeaderLife.j2 k2 (IntKind.u64.wrap ((Int.tmod a0 281474976710556) + 1)) t130 t131 a3 x9_2 x11_2 t139 true)) else (bodegalaw1_WordHeaderLife.j2 k2 (IntKind.u64.wrap ((Int.tmod a0 281474976710556) + 1)) t130 t131 a3 x9_2 x11_2 t139 true)) = some r := H
              have A16 := Aside0.mk A160
              clear A160
              have HC17 := Aside0.mk H
              clear H
              go_upto_region 12 with (first | ((with_reducible refine gate_callee (f := 22) rfl ?_); refine goesL_ (some 44) rfl rfl Try.func22 (by kernel_rfl) rfl #[.int .i64 a3, .int .i64 40] rfl (by (try simp only [List.map_toArray, List.map_cons, List.map_nil]); first | done | rfl | (simp only [List.length_drop, List.length_take]; rfl)) ?_; (with_reducible refine (bodegahand_Pick.calls a3 40 t135 _ A12.out).mono ?_); rintro e w' ⟨rfl, ⟨nd, rfl⟩⟩; refine ⟨_, rfl, ?_⟩) | ((with_reducible refine gate_callee (f := 15) rfl ?_); refine goesL_ (some 51) rfl rfl Try.func15 (by kernel_rfl) rfl #[.int .u64 x9_2, .int .i64 t130] rfl (by (try simp only [List.map_toArray, List.map_cons, List.map_nil]); first | done | rfl | (simp only [List.length_drop, List.length_take]; rfl)) ?_; (with_reducible refine (word_Lock.calls x9_2 t130 t139 t140 _ A14.out).mono ?_); rintro e w' ⟨rfl, ⟨nd, rfl⟩⟩; refine ⟨_, rfl, ?_⟩) | ((with_reducible refine gate_callee (f := 15) rfl ?_); refine goesL_ (some 57) rfl rfl Try.func15 (by kernel_rfl) rfl #[.int .u64 t139, .int .i64 t131] rfl (by (try simp only [List.map_toArray, List.map_cons, List.map_nil]); first | done | rfl | (simp only [List.length_drop, List.length_take]; rfl)) ?_; (with_reducible refine (word_Lock.calls t139 t131 t141 t142 _ A15.out).mono ?_); rintro e w' ⟨rfl, ⟨nd, rfl⟩⟩; refine ⟨_, rfl, ?_⟩) | ((with_reducible refine gate_callee (f := 13) rfl ?_); refine goesL_ (some 62) rfl rfl Try.func13 (by kernel_rfl) rfl #[.int .u64 t139] rfl (by (try simp only [List.map_toArray, List.map_cons, List.map_nil]); first | done | rfl | (simp only [List.length_drop, List.length_take]; rfl)) ?_; (with_reducible refine (word_SplitHeader.calls t139 t143 t144 _ A16.out).mono ?_); rintro e w' ⟨rfl, ⟨nd, rfl⟩⟩; refine ⟨_, rfl, ?_⟩))
              (try simp only [Act.put, List.setIfInBounds_toArray, List.set_cons_zero, List.set_cons_succ])
              go_cut [93] (fun v93 wc => ∃ (kq : Nat) (x93_16 : Bool), v93 = .bool x93_16 ∧ Aside0 (bodegalaw1_WordHeaderLife.j2 kq (IntKind.u64.wrap ((Int.tmod a0 281474976710556) + 1)) t130 t131 a3 x9_2 x11_2 t139 x93_16 = some r) ∧ Aside0 (kq ≤ k2) ∧ Drawn0 w wc)
              case first =>
                have H := HC17.out
                clear HC17
                by_cases c18 : t140 = 0
                · rw [if_pos c18] at H
                  have c18b0 : (t140 == 0) = true := beq_iff_eq.mpr c18
                  have c18b1 : (t140 != 0) = false := bne_eq_false_iff_eq.mpr c18
                  clear c18
                  (first | rw [c18b0] | (simp only [i64_w, i32_w]; rw [c18b0]) | skip)
                  by_cases c19 : t142 = 3
                  · rw [if_pos c19] at H
                    have c19b0 : (t142 == 3) = true := beq_iff_eq.mpr c19
                    have c19b1 : (t142 != 3) = false := bne_eq_false_iff_eq.mpr c19
                    clear c19
                    by_cases c20 : t143 = (IntKind.u64.wrap ((IntKind.u64.wrap ((Int.tmod a0 281474976710556) + 1)) + (IntKind.u64.wrap (x11_2))))
                    · rw [if_pos c20] at H
                      have c20b0 : (t143 == (IntKind.u64.wrap ((IntKind.u64.wrap ((Int.tmod a0 281474976710556) + 1)) + (IntKind.u64.wrap (x11_2))))) = true := beq_iff_eq.mpr c20
                      have c20b1 : (t143 != (IntKind.u64.wrap ((IntKind.u64.wrap ((Int.tmod a0 281474976710556) + 1)) + (IntKind.u64.wrap (x11_2))))) = false := bne_eq_false_iff_eq.mpr c20
                      clear c20
                      by_cases c21 : t144 = (wrap64 (t130 + 1))
                      · rw [if_pos c21] at H
                        have c21b0 : (t144 == (wrap64 (t130 + 1))) = true := beq_iff_eq.mpr c21
                        have c21b1 : (t144 != (wrap64 (t130 + 1))) = false := bne_eq_false_iff_eq.mpr c21
                        clear c21
                        replace H := Option.bind_eq_some_iff.mp H
                        obtain ⟨t145, A220, H⟩ := H
                        replace H : (if t145 = true then (bodegalaw1_WordHeaderLife.j2 k2 (IntKind.u64.wrap ((Int.tmod a0 281474976710556) + 1)) t130 t131 a3 x9_2 x11_2 t139 true) else ((word_Unlocked.f x9_2).bind fun t146 => (bodegalaw1_WordHeaderLife.j2 k2 (IntKind.u64.wrap ((Int.tmod a0 281474976710556) + 1)) t130 t131 a3 x9_2 x11_2 t139 (!t146)))) = some r := H
                        have A22 := Aside0.mk A220
                        clear A220
                        by_cases c23 : t145 = true
                        · subst c23
                          have H1 : (bodegalaw1_WordHeaderLife.j2 k2 (IntKind.u64.wrap ((Int.tmod a0 281474976710556) + 1)) t130 t131 a3 x9_2 x11_2 t139 true) = some r := by rw [if_pos rfl] at H; exact H
                          clear H
                          have H := H1
                          clear H1
                          have H' := Aside0.mk H
                          clear H
                          go_wp2_with (first | (go_at_call 20; (with_reducible refine (word_Unlocked.calls t139 true _ A22.out).mono ?_); rintro e w' ⟨rfl, ⟨nd, rfl⟩⟩))
                          go_meet
                          case rel => exact ⟨_, (true), (by first | rfl | (simp; done) | (simp [*]; done)), H', ⟨by have := HJ7.out; have := HK2.out; first | omega | exact Nat.le_refl _⟩, by repeat (first | exact Drawn0.refl _ | apply Drawn0.step)⟩
                        · replace c23 := Bool.eq_false_iff.mpr c23
                          subst c23
                          have H1 : ((word_Unlocked.f x9_2).bind fun t146 => (bodegalaw1_WordHeaderLife.j2 k2 (IntKind.u64.wrap ((Int.tmod a0 281474976710556) + 1)) t130 t131 a3 x9_2 x11_2 t139 (!t146))) = some r := by rw [if_neg (show ¬ (false = true) by decide)] at H; exact H
                          clear H
                          have H := H1
                          clear H1
                          replace H := Option.bind_eq_some_iff.mp H
                          obtain ⟨t146, A240, H⟩ := H
                          replace H : (bodegalaw1_WordHeaderLife.j2 k2 (IntKind.u64.wrap ((Int.tmod a0 281474976710556) + 1)) t130 t131 a3 x9_2 x11_2 t139 (!t146)) = some r := H
                          have A24 := Aside0.mk A240
                          clear A240
                          have H' := Aside0.mk H
                          clear H
                          go_wp2_with (first | (go_at_call 20; (with_reducible refine (word_Unlocked.calls t139 false _ A22.out).mono ?_); rintro e w' ⟨rfl, ⟨nd, rfl⟩⟩) | (go_at_call 20; (with_reducible refine (word_Unlocked.calls x9_2 t146 _ A24.out).mono ?_); rintro e w' ⟨rfl, ⟨nd, rfl⟩⟩))
                          go_meet
                          case rel => exact ⟨_, (!t146), (by first | rfl | (simp; done) | (simp [*]; done)), H', ⟨by have := HJ7.out; have := HK2.out; first | omega | exact Nat.le_refl _⟩, by repeat (first | exact Drawn0.refl _ | apply Drawn0.step)⟩
                      · rw [if_neg c21] at H
                        have c21b0 : (t144 == (wrap64 (t130 + 1))) = false := beq_eq_false_iff_ne.mpr c21
                        have c21b1 : (t144 != (wrap64 (t130 + 1))) = true := bne_iff_ne.mpr c21
                        have H' := Aside0.mk H
                        clear H
                        go_wp2
                        go_meet
                        case rel => exact ⟨_, (true), (by first | rfl | (simp; done) | (simp [*]; done)), H', ⟨by have := HJ7.out; have := HK2.out; first | omega | exact Nat.le_refl _⟩, by repeat (first | exact Drawn0.refl _ | apply Drawn0.step)⟩
                    · rw [if_neg c20] at H
                      have c20b0 : (t143 == (IntKind.u64.wrap ((IntKind.u64.wrap ((Int.tmod a0 281474976710556) + 1)) + (IntKind.u64.wrap (x11_2))))) = false := beq_eq_false_iff_ne.mpr c20
                      have c20b1 : (t143 != (IntKind.u64.wrap ((IntKind.u64.wrap ((Int.tmod a0 281474976710556) + 1)) + (IntKind.u64.wrap (x11_2))))) = true := bne_iff_ne.mpr c20
                      have H' := Aside0.mk H
                      clear H
                      go_wp2
                      go_meet
                      case rel => exact ⟨_, (true), (by first | rfl | (simp; done) | (simp [*]; done)), H', ⟨by have := HJ7.out; have := HK2.out; first | omega | exact Nat.le_refl _⟩, by repeat (first | exact Drawn0.refl _ | apply Drawn0.step)⟩
                  · rw [if_neg c19] at H
                    have c19b0 : (t142 == 3) = false := beq_eq_false_iff_ne.mpr c19
                    have c19b1 : (t142 != 3) = true := bne_iff_ne.mpr c19
                    have H' := Aside0.mk H
                    clear H
                    go_wp2
                    go_meet
                    case rel => exact ⟨_, (true), (by first | rfl | (simp; done) | (simp [*]; done)), H', ⟨by have := HJ7.out; have := HK2.out; first | omega | exact Nat.le_refl _⟩, by repeat (first | exact Drawn0.refl _ | apply Drawn0.step)⟩
                · rw [if_neg c18] at H
                  have c18b0 : (t140 == 0) = false := beq_eq_false_iff_ne.mpr c18
                  have c18b1 : (t140 != 0) = true := bne_iff_ne.mpr c18
                  (first | rw [c18b0] | (simp only [i64_w, i32_w]; rw [c18b0]) | skip)
                  have H' := Aside0.mk H
                  clear H
                  go_wp2
                  go_meet
                  case rel => exact ⟨_, (true), (by first | rfl | (simp; done) | (simp [*]; done)), H', ⟨by have := HJ7.out; have := HK2.out; first | omega | exact Nat.le_refl _⟩, by repeat (first | exact Drawn0.refl _ | apply Drawn0.step)⟩
              case rest =>
                clear HC17
                try clear c1
                try clear c2
                try clear p2
                try clear c4
                try clear p6
                try clear c7
                try clear c9
                try clear c9b0
                try clear c9b1
                try clear c11
                try clear c13
                try clear c13b0
                try clear c15
                try clear c18
                try clear c18b0
                try clear c18b1
                try clear c19
                try clear c19b0
                try clear c19b1
                try clear c20
                try clear c20b0
                try clear c20b1
                try clear c21
                try clear c21b0
                try clear c21b1
                try clear c22
                try clear c23
                try clear p2
                obtain ⟨kq, x93_16, rfl, HA, HJ16, ⟨mc16, rfl⟩⟩ := hcut
                cases kq with
                | zero => exact absurd HA.out (by simp [bodegalaw1_WordHeaderLife.j2])
                | succ kj16 =>
                  have H := HA.out
                  clear HA
                  simp only [bodegalaw1_WordHeaderLife.j2] at H
                  by_cases c25 : x93_16 = true
                  · subst c25
                    have H1 : (some false) = some r := by rw [if_pos rfl] at H; exact H
                    clear H
                    have H := H1
                    clear H1
                    obtain rfl := Option.some.inj H
                    go_wp2
                    go_ret
                    exact ⟨by first | rfl | (simp; done) | (simp [*]; done), by repeat (first | exact Drawn0.refl _ | apply Drawn0.step)⟩
                  · replace c25 := Bool.eq_false_iff.mpr c25
                    subst c25
                    have H1 : ((word_Next.f t139).bind fun bt147 => ((word_Next.f x9_2).bind fun bt149 => (if bt147.2 = 0 then (if bt149.2 = 0 then (if bt147.1 = bt149.1 then (if bt147.1 ≤ t139 then (some false) else (bodegalaw1_WordHeaderLife.l0 kj16 (IntKind.u64.wrap ((Int.tmod a0 281474976710556) + 1)) t130 t131 a3 bt147.1 (wrap64 (x11_2 + 1)))) else (some false)) else (some false)) else (some false)))) = some r := by rw [if_neg (show ¬ (false = true) by decide)] at H; exact H
                    clear H
                    have H := H1
                    clear H1
                    replace H := Option.bind_eq_some_iff.mp H
                    obtain ⟨⟨t147, t148⟩, A260, H⟩ := H
                    replace H : ((word_Next.f x9_2).bind fun bt149 => (if t148 = 0 then (if bt149.2 = 0 then (if t147 = bt149.1 then (if t147 ≤ t139 then (some false) else (bodegalaw1_WordHeaderLife.l0 kj16 (IntKind.u64.wrap ((Int.tmod a0 281474976710556) + 1)) t130 t131 a3 t147 (wrap64 (x11_2 + 1)))) else (some false)) else (some false)) else (some false))) = some r := H
                    have A26 := Aside0.mk A260
                    clear A260
                    replace H := Option.bind_eq_some_iff.mp H
                    obtain ⟨⟨t149, t150⟩, A270, H⟩ := H
                    replace H : (if t148 = 0 then (if t150 = 0 then (if t147 = t149 then (if t147 ≤ t139 then (some false) else (bodegalaw1_WordHeaderLife.l0 kj16 (IntKind.u64.wrap ((Int.tmod a0 281474976710556) + 1)) t130 t131 a3 t147 (wrap64 (x11_2 + 1)))) else (some false)) else (some false)) else (some false)) = some r := H
                    have A27 := Aside0.mk A270
                    clear A270
                    by_cases c28 : t148 = 0
                    · rw [if_pos c28] at H
                      have c28b0 : (t148 == 0) = true := beq_iff_eq.mpr c28
                      have c28b1 : (t148 != 0) = false := bne_eq_false_iff_eq.mpr c28
                      clear c28
                      by_cases c29 : t150 = 0
                      · rw [if_pos c29] at H
                        have c29b0 : (t150 == 0) = true := beq_iff_eq.mpr c29
                        have c29b1 : (t150 != 0) = false := bne_eq_false_iff_eq.mpr c29
                        clear c29
                        by_cases c30 : t147 = t149
                        · rw [if_pos c30] at H
                          have c30b0 : (t147 == t149) = true := beq_iff_eq.mpr c30
                          have c30b1 : (t147 != t149) = false := bne_eq_false_iff_eq.mpr c30
                          clear c30
                          by_cases c31 : t147 ≤ t139
                          · rw [if_pos c31] at H
                            have c31b0 : decide (t147 ≤ t139) = true := decide_eq_true c31
                            clear c31
                            obtain rfl := Option.some.inj H
                            go_wp2_with (first | ((with_reducible refine gate_callee (f := 17) rfl ?_); refine goesL_ (some 96) rfl rfl Try.func17 (by kernel_rfl) rfl #[.int .u64 t139] rfl (by (try simp only [List.map_toArray, List.map_cons, List.map_nil]); first | done | rfl | (simp only [List.length_drop, List.length_take]; rfl)) ?_; (with_reducible refine (word_Next.calls t139 t147 t148 _ A26.out).mono ?_); rintro e w' ⟨rfl, ⟨nd, rfl⟩⟩; refine ⟨_, rfl, ?_⟩) | ((with_reducible refine gate_callee (f := 17) rfl ?_); refine goesL_ (some 101) rfl rfl Try.func17 (by kernel_rfl) rfl #[.int .u64 x9_2] rfl (by (try simp only [List.map_toArray, List.map_cons, List.map_nil]); first | done | rfl | (simp only [List.length_drop, List.length_take]; rfl)) ?_; (with_reducible refine (word_Next.calls x9_2 t149 t150 _ A27.out).mono ?_); rintro e w' ⟨rfl, ⟨nd, rfl⟩⟩; refine ⟨_, rfl, ?_⟩))
                            go_ret
                            exact ⟨by first | rfl | (simp; done) | (simp [*]; done), by repeat (first | exact Drawn0.refl _ | apply Drawn0.step)⟩
                          · rw [if_neg c31] at H
                            have c31b0 : decide (t147 ≤ t139) = false := decide_eq_false c31
                            clear c31
                            have H' := Aside0.mk H
                            clear H
                            go_wp2_with (first | ((with_reducible refine gate_callee (f := 17) rfl ?_); refine goesL_ (some 96) rfl rfl Try.func17 (by kernel_rfl) rfl #[.int .u64 t139] rfl (by (try simp only [List.map_toArray, List.map_cons, List.map_nil]); first | done | rfl | (simp only [List.length_drop, List.length_take]; rfl)) ?_; (with_reducible refine (word_Next.calls t139 t147 t148 _ A26.out).mono ?_); rintro e w' ⟨rfl, ⟨nd, rfl⟩⟩; refine ⟨_, rfl, ?_⟩) | ((with_reducible refine gate_callee (f := 17) rfl ?_); refine goesL_ (some 101) rfl rfl Try.func17 (by kernel_rfl) rfl #[.int .u64 x9_2] rfl (by (try simp only [List.map_toArray, List.map_cons, List.map_nil]); first | done | rfl | (simp only [List.length_drop, List.length_take]; rfl)) ?_; (with_reducible refine (word_Next.calls x9_2 t149 t150 _ A27.out).mono ?_); rintro e w' ⟨rfl, ⟨nd, rfl⟩⟩; refine ⟨_, rfl, ?_⟩))
                            go_roundg kj16
                            case measure => have := HJ7.out; have := HK2.out; have := HJ16.out; omega
                            case rel => exact ⟨(t147), (wrap64 (x11_2 + 1)), (by first | rfl | (simp; done) | (simp [*]; done)), (by first | rfl | (simp; done) | (simp [*]; done)), H', ⟨by have := HJ7.out; have := HK2.out; have := HJ16.out; omega⟩, by repeat (first | exact Drawn0.refl _ | apply Drawn0.step)⟩
                        · rw [if_neg c30] at H
                          have c30b0 : (t147 == t149) = false := beq_eq_false_iff_ne.mpr c30
                          have c30b1 : (t147 != t149) = true := bne_iff_ne.mpr c30
                          obtain rfl := Option.some.inj H
                          go_wp2_with (first | ((with_reducible refine gate_callee (f := 17) rfl ?_); refine goesL_ (some 96) rfl rfl Try.func17 (by kernel_rfl) rfl #[.int .u64 t139] rfl (by (try simp only [List.map_toArray, List.map_cons, List.map_nil]); first | done | rfl | (simp only [List.length_drop, List.length_take]; rfl)) ?_; (with_reducible refine (word_Next.calls t139 t147 t148 _ A26.out).mono ?_); rintro e w' ⟨rfl, ⟨nd, rfl⟩⟩; refine ⟨_, rfl, ?_⟩) | ((with_reducible refine gate_callee (f := 17) rfl ?_); refine goesL_ (some 101) rfl rfl Try.func17 (by kernel_rfl) rfl #[.int .u64 x9_2] rfl (by (try simp only [List.map_toArray, List.map_cons, List.map_nil]); first | done | rfl | (simp only [List.length_drop, List.length_take]; rfl)) ?_; (with_reducible refine (word_Next.calls x9_2 t149 t150 _ A27.out).mono ?_); rintro e w' ⟨rfl, ⟨nd, rfl⟩⟩; refine ⟨_, rfl, ?_⟩))
                          go_ret
                          exact ⟨by first | rfl | (simp; done) | (simp [*]; done), by repeat (first | exact Drawn0.refl _ | apply Drawn0.step)⟩
                      · rw [if_neg c29] at H
                        have c29b0 : (t150 == 0) = false := beq_eq_false_iff_ne.mpr c29
                        have c29b1 : (t150 != 0) = true := bne_iff_ne.mpr c29
                        obtain rfl := Option.some.inj H
                        go_wp2_with (first | ((with_reducible refine gate_callee (f := 17) rfl ?_); refine goesL_ (some 96) rfl rfl Try.func17 (by kernel_rfl) rfl #[.int .u64 t139] rfl (by (try simp only [List.map_toArray, List.map_cons, List.map_nil]); first | done | rfl | (simp only [List.length_drop, List.length_take]; rfl)) ?_; (with_reducible refine (word_Next.calls t139 t147 t148 _ A26.out).mono ?_); rintro e w' ⟨rfl, ⟨nd, rfl⟩⟩; refine ⟨_, rfl, ?_⟩) | ((with_reducible refine gate_callee (f := 17) rfl ?_); refine goesL_ (some 101) rfl rfl Try.func17 (by kernel_rfl) rfl #[.int .u64 x9_2] rfl (by (try simp only [List.map_toArray, List.map_cons, List.map_nil]); first | done | rfl | (simp only [List.length_drop, List.length_take]; rfl)) ?_; (with_reducible refine (word_Next.calls x9_2 t149 t150 _ A27.out).mono ?_); rintro e w' ⟨rfl, ⟨nd, rfl⟩⟩; refine ⟨_, rfl, ?_⟩))
                        go_ret
                        exact ⟨by first | rfl | (simp; done) | (simp [*]; done), by repeat (first | exact Drawn0.refl _ | apply Drawn0.step)⟩
                    · rw [if_neg c28] at H
                      have c28b0 : (t148 == 0) = false := beq_eq_false_iff_ne.mpr c28
                      have c28b1 : (t148 != 0) = true := bne_iff_ne.mpr c28
                      obtain rfl := Option.some.inj H
                      go_wp2_with (first | ((with_reducible refine gate_callee (f := 17) rfl ?_); refine goesL_ (some 96) rfl rfl Try.func17 (by kernel_rfl) rfl #[.int .u64 t139] rfl (by (try simp only [List.map_toArray, List.map_cons, List.map_nil]); first | done | rfl | (simp only [List.length_drop, List.length_take]; rfl)) ?_; (with_reducible refine (word_Next.calls t139 t147 t148 _ A26.out).mono ?_); rintro e w' ⟨rfl, ⟨nd, rfl⟩⟩; refine ⟨_, rfl, ?_⟩) | ((with_reducible refine gate_callee (f := 17) rfl ?_); refine goesL_ (some 101) rfl rfl Try.func17 (by kernel_rfl) rfl #[.int .u64 x9_2] rfl (by (try simp only [List.map_toArray, List.map_cons, List.map_nil]); first | done | rfl | (simp only [List.length_drop, List.length_take]; rfl)) ?_; (with_reducible refine (word_Next.calls x9_2 t149 t150 _ A27.out).mono ?_); rintro e w' ⟨rfl, ⟨nd, rfl⟩⟩; refine ⟨_, rfl, ?_⟩))
                      go_ret
                      exact ⟨by first | rfl | (simp; done) | (simp [*]; done), by repeat (first | exact Drawn0.refl _ | apply Drawn0.step)⟩
            · rw [if_neg c13] at H
              have c13b0 : decide (x11_2 < t135) = false := decide_eq_false c13
              clear c13
              replace H := Option.bind_eq_some_iff.mp H
              obtain ⟨⟨t136, t137⟩, A320, H⟩ := H
              replace H : (if t137 = 0 then ((bodegahand_Pick.f a3 40).bind fun t138 => (some (t136 == (IntKind.u64.wrap ((IntKind.u64.wrap ((Int.tmod a0 281474976710556) + 1)) + (IntKind.u64.wrap (t138))))))) else (some false)) = some r := H
              have A32 := Aside0.mk A320
              clear A320
              by_cases c33 : t137 = 0
              · rw [if_pos c33] at H
                have c33b0 : (t137 == 0) = true := beq_iff_eq.mpr c33
                have c33b1 : (t137 != 0) = false := bne_eq_false_iff_eq.mpr c33
                clear c33
                replace H := Option.bind_eq_some_iff.mp H
                obtain ⟨t138, A340, H⟩ := H
                replace H : (some (t136 == (IntKind.u64.wrap ((IntKind.u64.wrap ((Int.tmod a0 281474976710556) + 1)) + (IntKind.u64.wrap (t138)))))) = some r := H
                have A34 := Aside0.mk A340
                clear A340
                obtain rfl := Option.some.inj H
                go_wp2_with (first | ((with_reducible refine gate_callee (f := 22) rfl ?_); refine goesL_ (some 44) rfl rfl Try.func22 (by kernel_rfl) rfl #[.int .i64 a3, .int .i64 40] rfl (by (try simp only [List.map_toArray, List.map_cons, List.map_nil]); first | done | rfl | (simp only [List.length_drop, List.length_take]; rfl)) ?_; (with_reducible refine (bodegahand_Pick.calls a3 40 t135 _ A12.out).mono ?_); rintro e w' ⟨rfl, ⟨nd, rfl⟩⟩; refine ⟨_, rfl, ?_⟩) | ((with_reducible refine gate_callee (f := 13) rfl ?_); refine goesL_ (some 123) rfl rfl Try.func13 (by kernel_rfl) rfl #[.int .u64 x9_2] rfl (by (try simp only [List.map_toArray, List.map_cons, List.map_nil]); first | done | rfl | (simp only [List.length_drop, List.length_take]; rfl)) ?_; (with_reducible refine (word_SplitHeader.calls x9_2 t136 t137 _ A32.out).mono ?_); rintro e w' ⟨rfl, ⟨nd, rfl⟩⟩; refine ⟨_, rfl, ?_⟩) | (go_at_call 22; (with_reducible refine (bodegahand_Pick.calls a3 40 t138 _ A34.out).mono ?_); rintro e w' ⟨rfl, ⟨nd, rfl⟩⟩))
                go_ret
                exact ⟨by first | rfl | (simp; done) | (simp [*]; done), by repeat (first | exact Drawn0.refl _ | apply Drawn0.step)⟩
              · rw [if_neg c33] at H
                have c33b0 : (t137 == 0) = false := beq_eq_false_iff_ne.mpr c33
                have c33b1 : (t137 != 0) = true := bne_iff_ne.mpr c33
                obtain rfl := Option.some.inj H
                go_wp2_with (first | ((with_reducible refine gate_callee (f := 22) rfl ?_); refine goesL_ (some 44) rfl rfl Try.func22 (by kernel_rfl) rfl #[.int .i64 a3, .int .i64 40] rfl (by (try simp only [List.map_toArray, List.map_cons, List.map_nil]); first | done | rfl | (simp only [List.length_drop, List.length_take]; rfl)) ?_; (with_reducible refine (bodegahand_Pick.calls a3 40 t135 _ A12.out).mono ?_); rintro e w' ⟨rfl, ⟨nd, rfl⟩⟩; refine ⟨_, rfl, ?_⟩) | ((with_reducible refine gate_callee (f := 13) rfl ?_); refine goesL_ (some 123) rfl rfl Try.func13 (by kernel_rfl) rfl #[.int .u64 x9_2] rfl (by (try simp only [List.map_toArray, List.map_cons, List.map_nil]); first | done | rfl | (simp only [List.length_drop, List.length_take]; rfl)) ?_; (with_reducible refine (word_SplitHeader.calls x9_2 t136 t137 _ A32.out).mono ?_); rintro e w' ⟨rfl, ⟨nd, rfl⟩⟩; refine ⟨_, rfl, ?_⟩))
                go_ret
                exact ⟨by first | rfl | (simp; done) | (simp [*]; done), by repeat (first | exact Drawn0.refl _ | apply Drawn0.step)⟩

/-- THE ONE PURE STATEMENT of bodegalaw1_WordHeaderLife: yours. -/
def bodegalaw1_WordHeaderLife.Pure : Prop := ∀ (a0 : Int) (a1 : Int) (a2 : Int) (a3 : Int), (Lit.int .u64 a0).wf = true → (Lit.int .i64 a1).wf = true → (Lit.int .i64 a2).wf = true → (Lit.int .i64 a3).wf = true → ∃ k, bodegalaw1_WordHeaderLife.f k a0 a1 a2 a3 = some true
theorem bodegalaw1_WordHeaderLife.walk (P : bodegalaw1_WordHeaderLife.Pure) (a0 : Int) (a1 : Int) (a2 : Int) (a3 : Int) (w : World) (w0 : (Lit.int .u64 a0).wf = true) (w1 : (Lit.int .i64 a1).wf = true) (w2 : (Lit.int .i64 a2).wf = true) (w3 : (Lit.int .i64 a3).wf = true) :
    Calls Try.prog 4 #[.int .u64 a0, .int .i64 a1, .int .i64 a2, .int .i64 a3] w fun e w' => e = .returned (.bool true) ∧ Below w.heap.size w w' := by
  obtain ⟨k, h⟩ := P a0 a1 a2 a3 w0 w1 w2 w3
  refine (bodegalaw1_WordHeaderLife.calls k a0 a1 a2 a3 true w h).mono ?_
  rintro e w' ⟨rfl, hd⟩
  exact ⟨rfl, hd.below⟩

end Go.Proofs.Ytpcoflcelmfnbaa.PWordHeaderLife
