-- PRINTED BY print.sh 35421559b90ae4d0a3588c463048766b98c2df88dd9212a6774a882060cdf62d: not written by this session
import Derived.Test.YtpcoflcelmfnbaaPWordFieldsBackx0
import Derived.Test.YtpcoflcelmfnbaaPWordFieldsBackx1
namespace Go.Proofs.Ytpcoflcelmfnbaa.PWordFieldsBack
open Go.RowKit Go.Proofs.YtpcoflcelmfnbaaW.PrintWords Go.Proofs.YtpcoflcelmfnbaaW.PrintLast Go.Proofs.YtpcoflcelmfnbaaW.PrintMore
attribute [local go_sem] max2_int min2_int max_two min_two max_three min_three max_four min_four   -- for this text's walks alone
set_option linter.unusedVariables false
set_option linter.unusedSimpArgs false

/-! ### word_SetField: function 37 -/
def word_SetField.f (a0 : Int) (a1 : Int) (a2 : Int) (a3 : Int) : Option (Int × Int) := (word_isField.f a1 a2).bind fun t132 => (if t132 = true then ((word_mask.f a2).bind fun t133 => (if a3 > t133 then (some (0, 2)) else ((word_mask.f a2).bind fun t134 => (if 0 ≤ (IntKind.u64.wrap (a1)) then (some (Go.bits .or .u64 (Go.bits .andNot .u64 a0 (shl .u64 t134 (IntKind.u64.wrap (a1)))) (shl .u64 a3 (IntKind.u64.wrap (a1))), 0)) else (none))))) else (some (0, 1)))
set_option maxHeartbeats 8000000 in
set_option maxRecDepth 100000 in
theorem word_SetField.calls (a0 : Int) (a1 : Int) (a2 : Int) (a3 : Int) (r1 : Int) (r2 : Int) (w : World) (h : word_SetField.f a0 a1 a2 a3 = some (r1, r2)) :
    Calls Try.prog 37 #[.int .u64 a0, .int .i64 a1, .int .i64 a2, .int .u64 a3] w fun e w' => e = .returned (.tuple #[.int .u64 r1, .int .i64 r2]) ∧ Drawn0 w w' := by
  have H : ((word_isField.f a1 a2).bind fun t132 => (if t132 = true then ((word_mask.f a2).bind fun t133 => (if a3 > t133 then (some (0, 2)) else ((word_mask.f a2).bind fun t134 => (if 0 ≤ (IntKind.u64.wrap (a1)) then (some (Go.bits .or .u64 (Go.bits .andNot .u64 a0 (shl .u64 t134 (IntKind.u64.wrap (a1)))) (shl .u64 a3 (IntKind.u64.wrap (a1))), 0)) else (none))))) else (some (0, 1)))) = some (r1, r2) := h
  clear h
  replace H := Option.bind_eq_some_iff.mp H
  obtain ⟨t132, A50, H⟩ := H
  replace H : (if t132 = true then ((word_mask.f a2).bind fun t133 => (if a3 > t133 then (some (0, 2)) else ((word_mask.f a2).bind fun t134 => (if 0 ≤ (IntKind.u64.wrap (a1)) then (some (Go.bits .or .u64 (Go.bits .andNot .u64 a0 (shl .u64 t134 (IntKind.u64.wrap (a1)))) (shl .u64 a3 (IntKind.u64.wrap (a1))), 0)) else (none))))) else (some (0, 1))) = some (r1, r2) := H
  have A5 := Aside0.mk A50
  clear A50
  by_cases c6 : t132 = true
  · subst c6
    have H1 : ((word_mask.f a2).bind fun t133 => (if a3 > t133 then (some (0, 2)) else ((word_mask.f a2).bind fun t134 => (if 0 ≤ (IntKind.u64.wrap (a1)) then (some (Go.bits .or .u64 (Go.bits .andNot .u64 a0 (shl .u64 t134 (IntKind.u64.wrap (a1)))) (shl .u64 a3 (IntKind.u64.wrap (a1))), 0)) else (none))))) = some (r1, r2) := by rw [if_pos rfl] at H; exact H
    clear H
    have H := H1
    clear H1
    replace H := Option.bind_eq_some_iff.mp H
    obtain ⟨t133, A70, H⟩ := H
    replace H : (if a3 > t133 then (some (0, 2)) else ((word_mask.f a2).bind fun t134 => (if 0 ≤ (IntKind.u64.wrap (a1)) then (some (Go.bits .or .u64 (Go.bits .andNot .u64 a0 (shl .u64 t134 (IntKind.u64.wrap (a1)))) (shl .u64 a3 (IntKind.u64.wrap (a1))), 0)) else (none)))) = some (r1, r2) := H
    have A7 := Aside0.mk A70
    clear A70
    by_cases c8 : a3 > t133
    · rw [if_pos c8] at H
      have c8b0 : decide (t133 < a3) = true := decide_eq_true c8
      clear c8
      simp only [Option.some.injEq, Prod.mk.injEq] at H
      obtain ⟨rfl, rfl⟩ := H
      go_enter Try.func37, Try.ntmps37
      go_wp2_with (first | ((with_reducible refine gate_callee (f := 56) rfl ?_); refine goesL_ (some 12) rfl rfl Try.func56 (by kernel_rfl) rfl #[.int .i64 a1, .int .i64 a2] rfl (by (try simp only [List.map_toArray, List.map_cons, List.map_nil]); first | done | rfl | (simp only [List.length_drop, List.length_take]; rfl)) ?_; (with_reducible refine (word_isField.calls a1 a2 true _ A5.out).mono ?_); rintro e w' ⟨rfl, ⟨nd, rfl⟩⟩; refine ⟨_, rfl, ?_⟩) | ((with_reducible refine gate_callee (f := 57) rfl ?_); refine goesL_ (some 16) rfl rfl Try.func57 (by kernel_rfl) rfl #[.int .i64 a2] rfl (by (try simp only [List.map_toArray, List.map_cons, List.map_nil]); first | done | rfl | (simp only [List.length_drop, List.length_take]; rfl)) ?_; (with_reducible refine (word_mask.calls a2 t133 _ A7.out).mono ?_); rintro e w' ⟨rfl, ⟨nd, rfl⟩⟩; refine ⟨_, rfl, ?_⟩))
      go_ret2
      exact ⟨by first | rfl | (simp; done) | (simp [*]; done), by repeat (first | exact Drawn0.refl _ | apply Drawn0.step)⟩
    · rw [if_neg c8] at H
      have c8b0 : decide (t133 < a3) = false := decide_eq_false c8
      clear c8
      replace H := Option.bind_eq_some_iff.mp H
      obtain ⟨t134, A90, H⟩ := H
      replace H : (if 0 ≤ (IntKind.u64.wrap (a1)) then (some (Go.bits .or .u64 (Go.bits .andNot .u64 a0 (shl .u64 t134 (IntKind.u64.wrap (a1)))) (shl .u64 a3 (IntKind.u64.wrap (a1))), 0)) else (none)) = some (r1, r2) := H
      have A9 := Aside0.mk A90
      clear A90
      obtain ⟨ji10, hji10⟩ : ∃ j_ : Int, (IntKind.u64.wrap (a1)) = j_ := ⟨_, rfl⟩
      replace H : (if 0 ≤ (ji10) then (some (Go.bits .or .u64 (Go.bits .andNot .u64 a0 (shl .u64 t134 (ji10))) (shl .u64 a3 (ji10)), 0)) else (none)) = some (r1, r2) := by first | (rw [hji10] at H; exact H) | (simp only [hji10] at H ⊢; exact H)
      (try rw [hji10] at A5)
      (try rw [hji10] at A7)
      (try rw [hji10] at A9)
      by_cases c11 : 0 ≤ (ji10)
      · rw [if_pos c11] at H
        have c11b0 := eq_true c11
        have c11b1 : decide (0 ≤ (ji10)) = true := decide_eq_true c11
        clear c11
        obtain ⟨ji12, hji12⟩ : ∃ j_ : Int, (shl .u64 t134 (ji10)) = j_ := ⟨_, rfl⟩
        replace H : (some (Go.bits .or .u64 (Go.bits .andNot .u64 a0 (ji12)) (shl .u64 a3 (ji10)), 0)) = some (r1, r2) := by first | (rw [hji12] at H; exact H) | (simp only [hji12] at H ⊢; exact H)
        (try rw [hji12] at A5)
        (try rw [hji12] at A7)
        (try rw [hji12] at A9)
        have hji12_ : (IntKind.u64.wrap (t134 * 2 ^ min (ji10).toNat 64)) = ji12 := hji12
        have hji12z : (ji10) ≤ 64 → (IntKind.u64.wrap (t134 * 2 ^ (ji10).toNat)) = ji12 := shl_small hji12
        have c13b0 := eq_true (of_decide_eq_true (by first | (with_reducible assumption) | assumption) : 0 ≤ (ji10))
        obtain ⟨ji14, hji14⟩ : ∃ j_ : Int, (shl .u64 a3 (ji10)) = j_ := ⟨_, rfl⟩
        replace H : (some (Go.bits .or .u64 (Go.bits .andNot .u64 a0 (ji12)) (ji14), 0)) = some (r1, r2) := by first | (rw [hji14] at H; exact H) | (simp only [hji14] at H ⊢; exact H)
        (try rw [hji14] at A5)
        (try rw [hji14] at A7)
        (try rw [hji14] at A9)
        have hji14_ : (IntKind.u64.wrap (a3 * 2 ^ min (ji10).toNat 64)) = ji14 := hji14
        have hji14z : (ji10) ≤ 64 → (IntKind.u64.wrap (a3 * 2 ^ (ji10).toNat)) = ji14 := shl_small hji14
        simp only [Option.some.injEq, Prod.mk.injEq] at H
        obtain ⟨rfl, rfl⟩ := H
        go_enter Try.func37, Try.ntmps37
        go_wp2_with (first | ((with_reducible refine gate_callee (f := 56) rfl ?_); refine goesL_ (some 12) rfl rfl Try.func56 (by kernel_rfl) rfl #[.int .i64 a1, .int .i64 a2] rfl (by (try simp only [List.map_toArray, List.map_cons, List.map_nil]); first | done | rfl | (simp only [List.length_drop, List.length_take]; rfl)) ?_; (with_reducible refine (word_isField.calls a1 a2 true _ A5.out).mono ?_); rintro e w' ⟨rfl, ⟨nd, rfl⟩⟩; refine ⟨_, rfl, ?_⟩) | ((with_reducible refine gate_callee (f := 57) rfl ?_); refine goesL_ (some 16) rfl rfl Try.func57 (by kernel_rfl) rfl #[.int .i64 a2] rfl (by (try simp only [List.map_toArray, List.map_cons, List.map_nil]); first | done | rfl | (simp only [List.length_drop, List.length_take]; rfl)) ?_; (with_reducible refine (word_mask.calls a2 t133 _ A7.out).mono ?_); rintro e w' ⟨rfl, ⟨nd, rfl⟩⟩; refine ⟨_, rfl, ?_⟩) | ((with_reducible refine gate_callee (f := 57) rfl ?_); refine goesL_ (some 20) rfl rfl Try.func57 (by kernel_rfl) rfl #[.int .i64 a2] rfl (by (try simp only [List.map_toArray, List.map_cons, List.map_nil]); first | done | rfl | (simp only [List.length_drop, List.length_take]; rfl)) ?_; (with_reducible refine (word_mask.calls a2 t134 _ A9.out).mono ?_); rintro e w' ⟨rfl, ⟨nd, rfl⟩⟩; refine ⟨_, rfl, ?_⟩))
        go_ret2
        exact ⟨by first | rfl | (simp; done) | (simp only [← hji10, ← hji12, ← hji14] <;> (first | rfl | simp)) | (simp [*]; done), by repeat (first | exact Drawn0.refl _ | apply Drawn0.step)⟩
      · rw [if_neg c11] at H
        exact absurd H (by simp)
  · replace c6 := Bool.eq_false_iff.mpr c6
    subst c6
    have H1 : (some (0, 1)) = some (r1, r2) := by rw [if_neg (show ¬ (false = true) by decide)] at H; exact H
    clear H
    have H := H1
    clear H1
    simp only [Option.some.injEq, Prod.mk.injEq] at H
    obtain ⟨rfl, rfl⟩ := H
    go_enter Try.func37, Try.ntmps37
    go_wp2_with (first | ((with_reducible refine gate_callee (f := 56) rfl ?_); refine goesL_ (some 12) rfl rfl Try.func56 (by kernel_rfl) rfl #[.int .i64 a1, .int .i64 a2] rfl (by (try simp only [List.map_toArray, List.map_cons, List.map_nil]); first | done | rfl | (simp only [List.length_drop, List.length_take]; rfl)) ?_; (with_reducible refine (word_isField.calls a1 a2 false _ A5.out).mono ?_); rintro e w' ⟨rfl, ⟨nd, rfl⟩⟩; refine ⟨_, rfl, ?_⟩))
    go_ret2
    exact ⟨by first | rfl | (simp; done) | (simp [*]; done), by repeat (first | exact Drawn0.refl _ | apply Drawn0.step)⟩

/-! ### bodegalaw1_WordFieldsBack: function 8 -/
mutual
def bodegalaw1_WordFieldsBack.j0 : Nat → Int → Int → Int → Int → Int → Bool → Option (Bool)
  | 0, _, _, _, _, _, _ => none
  | k + 1, x0, x1, x2, x4, x13, x71 => if x71 = true then (some false) else ((bodegahand_Pick.f x4 64).bind fun t143 => ((word_Field.f x0 t143 1).bind fun bt144 => ((word_Field.f x13 t143 1).bind fun bt146 => (if t143 < x1 then (bodegalaw1_WordFieldsBack.j1 k x0 x1 x2 x13 (bt144.1 != bt146.1)) else (if t143 ≥ (wrap64 (x1 + x2)) then (bodegalaw1_WordFieldsBack.j1 k x0 x1 x2 x13 (bt144.1 != bt146.1)) else (bodegalaw1_WordFieldsBack.j1 k x0 x1 x2 x13 false))))))
def bodegalaw1_WordFieldsBack.j1 : Nat → Int → Int → Int → Int → Bool → Option (Bool)
  | 0, _, _, _, _, _ => none
  | k + 1, x0, x1, x2, x13, x100 => if x100 = true then (some false) else ((word_Field.f x0 x1 x2).bind fun bt148 => ((word_SetField.f x13 x1 x2 bt148.1).bind fun bt150 => (if bt150.2 = 0 then (some (bt150.1 == x0)) else (some false))))
end
def bodegalaw1_WordFieldsBack.f (k : Nat) (a0 : Int) (a1 : Int) (a2 : Int) (a3 : Int) (a4 : Int) (a5 : Int) : Option (Bool) := (bodegahand_Pick.f a1 64).bind fun t135 => ((bodegahand_Pick.f a2 64).bind fun t136 => ((word_SetField.f a0 t135 (wrap64 (t136 + 1)) a3).bind fun bt137 => (if bt137.2 = 0 then ((word_Field.f bt137.1 t135 (wrap64 (t136 + 1))).bind fun bt140 => (if bt140.2 = 0 then (if bt140.1 = a3 then ((bodegalaw1_awake.f).bind fun t142 => (bodegalaw1_WordFieldsBack.j0 k a0 t135 (wrap64 (t136 + 1)) a4 bt137.1 (!t142))) else (bodegalaw1_WordFieldsBack.j0 k a0 t135 (wrap64 (t136 + 1)) a4 bt137.1 true)) else (bodegalaw1_WordFieldsBack.j0 k a0 t135 (wrap64 (t136 + 1)) a4 bt137.1 true))) else ((bodegalaw1_awake.f).bind fun t139 => (if t139 = true then (if bt137.1 = 0 then (some ((bt137.2 == 1) == (decide (t135 > (wrap64 (64 - (wrap64 (t136 + 1)))))))) else (some false)) else (some false))))))
theorem bodegalaw1_WordFieldsBack.mono_l : ∀ k, (∀ y0 y1 y2 y3 y4 y5, LeO (bodegalaw1_WordFieldsBack.j0 k y0 y1 y2 y3 y4 y5) (bodegalaw1_WordFieldsBack.j0 (k + 1) y0 y1 y2 y3 y4 y5)) ∧ (∀ y0 y1 y2 y3 y4, LeO (bodegalaw1_WordFieldsBack.j1 k y0 y1 y2 y3 y4) (bodegalaw1_WordFieldsBack.j1 (k + 1) y0 y1 y2 y3 y4))
  | 0 => ⟨fun _ _ _ _ _ _ r h => by simp [bodegalaw1_WordFieldsBack.j0] at h, fun _ _ _ _ _ r h => by simp [bodegalaw1_WordFieldsBack.j1] at h⟩
  | k + 1 => by
    obtain ⟨ih0, ih1⟩ := bodegalaw1_WordFieldsBack.mono_l k
    refine ⟨?_, ?_⟩
    · intro y0 y1 y2 y3 y4 y5
      unfold bodegalaw1_WordFieldsBack.j0
      repeat' first
      | (with_reducible exact ih0 _ _ _ _ _ _)
      | (with_reducible exact ih1 _ _ _ _ _)
      | (with_reducible exact LeO.refl _)
      | (with_reducible exact LeO.none _)
      | (with_reducible refine LeO.ite ?_ ?_)
      | (with_reducible refine LeO.bind ?_ (fun _ => ?_))
      | exact ih0 _ _ _ _ _ _
      | exact ih1 _ _ _ _ _
      | exact LeO.none _
      | refine LeO.ite ?_ ?_
      | refine LeO.bind ?_ (fun _ => ?_)
    · intro y0 y1 y2 y3 y4
      unfold bodegalaw1_WordFieldsBack.j1
      repeat' first
      | (with_reducible exact ih0 _ _ _ _ _ _)
      | (with_reducible exact ih1 _ _ _ _ _)
      | (with_reducible exact LeO.refl _)
      | (with_reducible exact LeO.none _)
      | (with_reducible refine LeO.ite ?_ ?_)
      | (with_reducible refine LeO.bind ?_ (fun _ => ?_))
      | exact ih0 _ _ _ _ _ _
      | exact ih1 _ _ _ _ _
      | exact LeO.none _
      | refine LeO.ite ?_ ?_
      | refine LeO.bind ?_ (fun _ => ?_)
theorem bodegalaw1_WordFieldsBack.mono : ∀ a0 a1 a2 a3 a4 a5 k, LeO (bodegalaw1_WordFieldsBack.f k a0 a1 a2 a3 a4 a5) (bodegalaw1_WordFieldsBack.f (k + 1) a0 a1 a2 a3 a4 a5) := by
  intro a0 a1 a2 a3 a4 a5 k
  obtain ⟨ih0, ih1⟩ := bodegalaw1_WordFieldsBack.mono_l k
  unfold bodegalaw1_WordFieldsBack.f
  repeat' first
      | (with_reducible exact ih0 _ _ _ _ _ _)
      | (with_reducible exact ih1 _ _ _ _ _)
      | (with_reducible exact LeO.refl _)
      | (with_reducible exact LeO.none _)
      | (with_reducible refine LeO.ite ?_ ?_)
      | (with_reducible refine LeO.bind ?_ (fun _ => ?_))
      | exact ih0 _ _ _ _ _ _
      | exact ih1 _ _ _ _ _
      | exact LeO.none _
      | refine LeO.ite ?_ ?_
      | refine LeO.bind ?_ (fun _ => ?_)
set_option maxHeartbeats 8000000 in
set_option maxRecDepth 100000 in
theorem bodegalaw1_WordFieldsBack.calls (k : Nat) (a0 : Int) (a1 : Int) (a2 : Int) (a3 : Int) (a4 : Int) (a5 : Int) (r : Bool) (w : World) (h : bodegalaw1_WordFieldsBack.f k a0 a1 a2 a3 a4 a5 = some r) :
    Calls Try.prog 8 #[.int .u64 a0, .int .i64 a1, .int .i64 a2, .int .u64 a3, .int .i64 a4, .int .i64 a5] w fun e w' => e = .returned (.bool r) ∧ Drawn0 w w' := by
  have H : ((bodegahand_Pick.f a1 64).bind fun t135 => ((bodegahand_Pick.f a2 64).bind fun t136 => ((word_SetField.f a0 t135 (wrap64 (t136 + 1)) a3).bind fun bt137 => (if bt137.2 = 0 then ((word_Field.f bt137.1 t135 (wrap64 (t136 + 1))).bind fun bt140 => (if bt140.2 = 0 then (if bt140.1 = a3 then ((bodegalaw1_awake.f).bind fun t142 => (bodegalaw1_WordFieldsBack.j0 k a0 t135 (wrap64 (t136 + 1)) a4 bt137.1 (!t142))) else (bodegalaw1_WordFieldsBack.j0 k a0 t135 (wrap64 (t136 + 1)) a4 bt137.1 true)) else (bodegalaw1_WordFieldsBack.j0 k a0 t135 (wrap64 (t136 + 1)) a4 bt137.1 true))) else ((bodegalaw1_awake.f).bind fun t139 => (if t139 = true then (if bt137.1 = 0 then (some ((bt137.2 == 1) == (decide (t135 > (wrap64 (64 - (wrap64 (t136 + 1)))))))) else (some false)) else (some false))))))) = some r := h
  clear h
  replace H := Option.bind_eq_some_iff.mp H
  obtain ⟨t135, A70, H⟩ := H
  replace H : ((bodegahand_Pick.f a2 64).bind fun t136 => ((word_SetField.f a0 t135 (wrap64 (t136 + 1)) a3).bind fun bt137 => (if bt137.2 = 0 then ((word_Field.f bt137.1 t135 (wrap64 (t136 + 1))).bind fun bt140 => (if bt140.2 = 0 then (if bt140.1 = a3 then ((bodegalaw1_awake.f).bind fun t142 => (bodegalaw1_WordFieldsBack.j0 k a0 t135 (wrap64 (t136 + 1)) a4 bt137.1 (!t142))) else (bodegalaw1_WordFieldsBack.j0 k a0 t135 (wrap64 (t136 + 1)) a4 bt137.1 true)) else (bodegalaw1_WordFieldsBack.j0 k a0 t135 (wrap64 (t136 + 1)) a4 bt137.1 true))) else ((bodegalaw1_awake.f).bind fun t139 => (if t139 = true then (if bt137.1 = 0 then (some ((bt137.2 == 1) == (decide (t135 > (wrap64 (64 - (wrap64 (t136 + 1)))))))) else (some false)) else (some false)))))) = some r := H
  have A7 := Aside0.mk A70
  clear A70
  replace H := Option.bind_eq_some_iff.mp H
  obtain ⟨t136, A80, H⟩ := H
  replace H : ((word_SetField.f a0 t135 (wrap64 (t136 + 1)) a3).bind fun bt137 => (if bt137.2 = 0 then ((word_Field.f bt137.1 t135 (wrap64 (t136 + 1))).bind fun bt140 => (if bt140.2 = 0 then (if bt140.1 = a3 then ((bodegalaw1_awake.f).bind fun t142 => (bodegalaw1_WordFieldsBack.j0 k a0 t135 (wrap64 (t136 + 1)) a4 bt137.1 (!t142))) else (bodegalaw1_WordFieldsBack.j0 k a0 t135 (wrap64 (t136 + 1)) a4 bt137.1 true)) else (bodegalaw1_WordFieldsBack.j0 k a0 t135 (wrap64 (t136 + 1)) a4 bt137.1 true))) else ((bodegalaw1_awake.f).bind fun t139 => (if t139 = true then (if bt137.1 = 0 then (some ((bt137.2 == 1) == (decide (t135 > (wrap64 (64 - (wrap64 (t136 + 1)))))))) else (some false)) else (some false))))) = some r := H
  have A8 := Aside0.mk A80
  clear A80
  replace H := Option.bind_eq_some_iff.mp H
  obtain ⟨⟨t137, t138⟩, A90, H⟩ := H
  replace H : (if t138 = 0 then ((word_Field.f t137 t135 (wrap64 (t136 + 1))).bind fun bt140 => (if bt140.2 = 0 then (if bt140.1 = a3 then ((bodegalaw1_awake.f).bind fun t142 => (bodegalaw1_WordFieldsBack.j0 k a0 t135 (wrap64 (t136 + 1)) a4 t137 (!t142))) else (bodegalaw1_WordFieldsBack.j0 k a0 t135 (wrap64 (t136 + 1)) a4 t137 true)) else (bodegalaw1_WordFieldsBack.j0 k a0 t135 (wrap64 (t136 + 1)) a4 t137 true))) else ((bodegalaw1_awake.f).bind fun t139 => (if t139 = true then (if t137 = 0 then (some ((t138 == 1) == (decide (t135 > (wrap64 (64 - (wrap64 (t136 + 1)))))))) else (some false)) else (some false)))) = some r := H
  have A9 := Aside0.mk A90
  clear A90
  by_cases c10 : t138 = 0
  · rw [if_pos c10] at H
    have c10b0 : (t138 == 0) = true := beq_iff_eq.mpr c10
    have c10b1 : (t138 != 0) = false := bne_eq_false_iff_eq.mpr c10
    clear c10
    replace H := Option.bind_eq_some_iff.mp H
    obtain ⟨⟨t140, t141⟩, A110, H⟩ := H
    replace H : (if t141 = 0 then (if t140 = a3 then ((bodegalaw1_awake.f).bind fun t142 => (bodegalaw1_WordFieldsBack.j0 k a0 t135 (wrap64 (t136 + 1)) a4 t137 (!t142))) else (bodegalaw1_WordFieldsBack.j0 k a0 t135 (wrap64 (t136 + 1)) a4 t137 true)) else (bodegalaw1_WordFieldsBack.j0 k a0 t135 (wrap64 (t136 + 1)) a4 t137 true)) = some r := H
    have A11 := Aside0.mk A110
    clear A110
    have HC12 := Aside0.mk H
    clear H
    go_enter Try.func8, Try.ntmps8
    go_upto_region 6 with (first | ((with_reducible refine gate_callee (f := 22) rfl ?_); refine goesL_ (some 26) rfl rfl Try.func22 (by kernel_rfl) rfl #[.int .i64 a1, .int .i64 64] rfl (by (try simp only [List.map_toArray, List.map_cons, List.map_nil]); first | done | rfl | (simp only [List.length_drop, List.length_take]; rfl)) ?_; (with_reducible refine (bodegahand_Pick.calls a1 64 t135 _ A7.out).mono ?_); rintro e w' ⟨rfl, ⟨nd, rfl⟩⟩; refine ⟨_, rfl, ?_⟩) | ((with_reducible refine gate_callee (f := 22) rfl ?_); refine goesL_ (some 28) rfl rfl Try.func22 (by kernel_rfl) rfl #[.int .i64 a2, .int .i64 64] rfl (by (try simp only [List.map_toArray, List.map_cons, List.map_nil]); first | done | rfl | (simp only [List.length_drop, List.length_take]; rfl)) ?_; (with_reducible refine (bodegahand_Pick.calls a2 64 t136 _ A8.out).mono ?_); rintro e w' ⟨rfl, ⟨nd, rfl⟩⟩; refine ⟨_, rfl, ?_⟩) | ((with_reducible refine gate_callee (f := 37) rfl ?_); refine goesL_ (some 35) rfl rfl Try.func37 (by kernel_rfl) rfl #[.int .u64 a0, .int .i64 t135, .int .i64 (wrap64 (t136 + 1)), .int .u64 a3] rfl (by (try simp only [List.map_toArray, List.map_cons, List.map_nil]); first | done | rfl | (simp only [List.length_drop, List.length_take]; rfl)) ?_; (with_reducible refine (word_SetField.calls a0 t135 (wrap64 (t136 + 1)) a3 t137 t138 _ A9.out).mono ?_); rintro e w' ⟨rfl, ⟨nd, rfl⟩⟩; refine ⟨_, rfl, ?_⟩) | ((with_reducible refine gate_callee (f := 35) rfl ?_); refine goesL_ (some 58) rfl rfl Try.func35 (by kernel_rfl) rfl #[.int .u64 t137, .int .i64 t135, .int .i64 (wrap64 (t136 + 1))] rfl (by (try simp only [List.map_toArray, List.map_cons, List.map_nil]); first | done | rfl | (simp only [List.length_drop, List.length_take]; rfl)) ?_; (with_reducible refine (word_Field.calls t137 t135 (wrap64 (t136 + 1)) t140 t141 _ A11.out).mono ?_); rintro e w' ⟨rfl, ⟨nd, rfl⟩⟩; refine ⟨_, rfl, ?_⟩))
    (try simp only [Act.put, List.setIfInBounds_toArray, List.set_cons_zero, List.set_cons_succ])
    go_cut [71] (fun v71 wc => ∃ (kq : Nat) (x71_11 : Bool), v71 = .bool x71_11 ∧ Aside0 (bodegalaw1_WordFieldsBack.j0 kq a0 t135 (wrap64 (t136 + 1)) a4 t137 x71_11 = some r) ∧ Aside0 (kq ≤ k) ∧ Drawn0 w wc)
    case first =>
      have H := HC12.out
      clear HC12
      by_cases c13 : t141 = 0
      · rw [if_pos c13] at H
        have c13b0 : (t141 == 0) = true := beq_iff_eq.mpr c13
        have c13b1 : (t141 != 0) = false := bne_eq_false_iff_eq.mpr c13
        clear c13
        (first | rw [c13b0] | (simp only [i64_w, i32_w]; rw [c13b0]) | skip)
        by_cases c14 : t140 = a3
        · rw [if_pos c14] at H
          have c14b0 : (t140 == a3) = true := beq_iff_eq.mpr c14
          have c14b1 : (t140 != a3) = false := bne_eq_false_iff_eq.mpr c14
          clear c14
          replace H := Option.bind_eq_some_iff.mp H
          obtain ⟨t142, A150, H⟩ := H
          replace H : (bodegalaw1_WordFieldsBack.j0 k a0 t135 (wrap64 (t136 + 1)) a4 t137 (!t142)) = some r := H
          have A15 := Aside0.mk A150
          clear A150
          have H' := Aside0.mk H
          clear H
          go_wp2_with (first | (go_at_call 19; (with_reducible refine (bodegalaw1_awake.calls  t142 _ A15.out).mono ?_); rintro e w' ⟨rfl, ⟨nd, rfl⟩⟩))
          go_meet
          case rel => exact ⟨_, (!t142), (by first | rfl | (simp; done) | (simp [*]; done)), H', ⟨by first | omega | exact Nat.le_refl _⟩, by repeat (first | exact Drawn0.refl _ | apply Drawn0.step)⟩
        · rw [if_neg c14] at H
          have c14b0 : (t140 == a3) = false := beq_eq_false_iff_ne.mpr c14
          have c14b1 : (t140 != a3) = true := bne_iff_ne.mpr c14
          have H' := Aside0.mk H
          clear H
          go_wp2
          go_meet
          case rel => exact ⟨_, (true), (by first | rfl | (simp; done) | (simp [*]; done)), H', ⟨by first | omega | exact Nat.le_refl _⟩, by repeat (first | exact Drawn0.refl _ | apply Drawn0.step)⟩
      · rw [if_neg c13] at H
        have c13b0 : (t141 == 0) = false := beq_eq_false_iff_ne.mpr c13
        have c13b1 : (t141 != 0) = true := bne_iff_ne.mpr c13
        (first | rw [c13b0] | (simp only [i64_w, i32_w]; rw [c13b0]) | skip)
        have H' := Aside0.mk H
        clear H
        go_wp2
        go_meet
        case rel => exact ⟨_, (true), (by first | rfl | (simp; done) | (simp [*]; done)), H', ⟨by first | omega | exact Nat.le_refl _⟩, by repeat (first | exact Drawn0.refl _ | apply Drawn0.step)⟩
    case rest =>
      clear HC12
      try clear c1
      try clear c2
      try clear p2
      try clear c3
      try clear p6
      try clear c8
      try clear c10
      try clear c10b0
      try clear c10b1
      try clear c13
      try clear c13b0
      try clear c13b1
      try clear c14
      try clear c14b0
      try clear c14b1
      obtain ⟨kq, x71_11, rfl, HA, HJ11, ⟨mc11, rfl⟩⟩ := hcut
      cases kq with
      | zero => exact absurd HA.out (by simp [bodegalaw1_WordFieldsBack.j0])
      | succ kj11 =>
        have H := HA.out
        clear HA
        simp only [bodegalaw1_WordFieldsBack.j0] at H
        by_cases c16 : x71_11 = true
        · subst c16
          have H1 : (some false) = some r := by rw [if_pos rfl] at H; exact H
          clear H
          have H := H1
          clear H1
          obtain rfl := Option.some.inj H
          go_wp2
          go_ret
          exact ⟨by first | rfl | (simp; done) | (simp [*]; done), by repeat (first | exact Drawn0.refl _ | apply Drawn0.step)⟩
        · replace c16 := Bool.eq_false_iff.mpr c16
          subst c16
          have H1 : ((bodegahand_Pick.f a4 64).bind fun t143 => ((word_Field.f a0 t143 1).bind fun bt144 => ((word_Field.f t137 t143 1).bind fun bt146 => (if t143 < t135 then (bodegalaw1_WordFieldsBack.j1 kj11 a0 t135 (wrap64 (t136 + 1)) t137 (bt144.1 != bt146.1)) else (if t143 ≥ (wrap64 (t135 + (wrap64 (t136 + 1)))) then (bodegalaw1_WordFieldsBack.j1 kj11 a0 t135 (wrap64 (t136 + 1)) t137 (bt144.1 != bt146.1)) else (bodegalaw1_WordFieldsBack.j1 kj11 a0 t135 (wrap64 (t136 + 1)) t137 false)))))) = some r := by rw [if_neg (show ¬ (false = true) by decide)] at H; exact H
          clear H
          have H := H1
          clear H1
          replace H := Option.bind_eq_some_iff.mp H
          obtain ⟨t143, A170, H⟩ := H
          replace H : ((word_Field.f a0 t143 1).bind fun bt144 => ((word_Field.f t137 t143 1).bind fun bt146 => (if t143 < t135 then (bodegalaw1_WordFieldsBack.j1 kj11 a0 t135 (wrap64 (t136 + 1)) t137 (bt144.1 != bt146.1)) else (if t143 ≥ (wrap64 (t135 + (wrap64 (t136 + 1)))) then (bodegalaw1_WordFieldsBack.j1 kj11 a0 t135 (wrap64 (t136 + 1)) t137 (bt144.1 != bt146.1)) else (bodegalaw1_WordFieldsBack.j1 kj11 a0 t135 (wrap64 (t136 + 1)) t137 false))))) = some r := H
          have A17 := Aside0.mk A170
          clear A170
          replace H := Option.bind_eq_some_iff.mp H
          obtain ⟨⟨t144, t145⟩, A180, H⟩ := H
          replace H : ((word_Field.f t137 t143 1).bind fun bt146 => (if t143 < t135 then (bodegalaw1_WordFieldsBack.j1 kj11 a0 t135 (wrap64 (t136 + 1)) t137 (t144 != bt146.1)) else (if t143 ≥ (wrap64 (t135 + (wrap64 (t136 + 1)))) then (bodegalaw1_WordFieldsBack.j1 kj11 a0 t135 (wrap64 (t136 + 1)) t137 (t144 != bt146.1)) else (bodegalaw1_WordFieldsBack.j1 kj11 a0 t135 (wrap64 (t136 + 1)) t137 false)))) = some r := H
          have A18 := Aside0.mk A180
          clear A180
          replace H := Option.bind_eq_some_iff.mp H
          obtain ⟨⟨t146, t147⟩, A190, H⟩ := H
          replace H : (if t143 < t135 then (bodegalaw1_WordFieldsBack.j1 kj11 a0 t135 (wrap64 (t136 + 1)) t137 (t144 != t146)) else (if t143 ≥ (wrap64 (t135 + (wrap64 (t136 + 1)))) then (bodegalaw1_WordFieldsBack.j1 kj11 a0 t135 (wrap64 (t136 + 1)) t137 (t144 != t146)) else (bodegalaw1_WordFieldsBack.j1 kj11 a0 t135 (wrap64 (t136 + 1)) t137 false))) = some r := H
          have A19 := Aside0.mk A190
          clear A190
          have HC20 := Aside0.mk H
          clear H
          go_upto_region 11 with (first | ((with_reducible refine gate_callee (f := 22) rfl ?_); refine goesL_ (some 73) rfl rfl Try.func22 (by kernel_rfl) rfl #[.int .i64 a4, .int .i64 64] rfl (by (try simp only [List.map_toArray, List.map_cons, List.map_nil]); first | done | rfl | (simp only [List.length_drop, List.length_take]; rfl)) ?_; (with_reducible refine (bodegahand_Pick.calls a4 64 t143 _ A17.out).mono ?_); rintro e w' ⟨rfl, ⟨nd, rfl⟩⟩; refine ⟨_, rfl, ?_⟩) | ((with_reducible refine gate_callee (f := 35) rfl ?_); refine goesL_ (some 77) rfl rfl Try.func35 (by kernel_rfl) rfl #[.int .u64 a0, .int .i64 t143, .int .i64 1] rfl (by (try simp only [List.map_toArray, List.map_cons, List.map_nil]); first | done | rfl | (simp only [List.length_drop, List.length_take]; rfl)) ?_; (with_reducible refine (word_Field.calls a0 t143 1 t144 t145 _ A18.out).mono ?_); rintro e w' ⟨rfl, ⟨nd, rfl⟩⟩; refine ⟨_, rfl, ?_⟩) | ((with_reducible refine gate_callee (f := 35) rfl ?_); refine goesL_ (some 83) rfl rfl Try.func35 (by kernel_rfl) rfl #[.int .u64 t137, .int .i64 t143, .int .i64 1] rfl (by (try simp only [List.map_toArray, List.map_cons, List.map_nil]); first | done | rfl | (simp only [List.length_drop, List.length_take]; rfl)) ?_; (with_reducible refine (word_Field.calls t137 t143 1 t146 t147 _ A19.out).mono ?_); rintro e w' ⟨rfl, ⟨nd, rfl⟩⟩; refine ⟨_, rfl, ?_⟩))
          (try simp only [Act.put, List.setIfInBounds_toArray, List.set_cons_zero, List.set_cons_succ])
          go_cut [100] (fun v100 wc => ∃ (kq : Nat) (x100_19 : Bool), v100 = .bool x100_19 ∧ Aside0 (bodegalaw1_WordFieldsBack.j1 kq a0 t135 (wrap64 (t136 + 1)) t137 x100_19 = some r) ∧ Aside0 (kq ≤ kj11) ∧ Drawn0 w wc)
          case first =>
            have H := HC20.out
            clear HC20
            by_cases c21 : t143 < t135
            · rw [if_pos c21] at H
              have c21b0 : decide (t143 < t135) = true := decide_eq_true c21
              clear c21
              (first | rw [c21b0] | (simp only [i64_w, i32_w]; rw [c21b0]) | skip)
              have H' := Aside0.mk H
              clear H
              go_wp2
              go_meet
              case rel => exact ⟨_, ((t144 != t146)), (by first | rfl | (simp; done) | (simp [*]; done)), H', ⟨by have := HJ11.out; first | omega | exact Nat.le_refl _⟩, by repeat (first | exact Drawn0.refl _ | apply Drawn0.step)⟩
            · rw [if_neg c21] at H
              have c21b0 : decide (t143 < t135) = false := decide_eq_false c21
              clear c21
              (first | rw [c21b0] | (simp only [i64_w, i32_w]; rw [c21b0]) | skip)
              by_cases c22 : t143 ≥ (wrap64 (t135 + (wrap64 (t136 + 1))))
              · rw [if_pos c22] at H
                have c22b0 : decide ((wrap64 (t135 + (wrap64 (t136 + 1)))) ≤ t143) = true := decide_eq_true c22
                clear c22
                have H' := Aside0.mk H
                clear H
                go_wp2
                go_meet
                case rel => exact ⟨_, ((t144 != t146)), (by first | rfl | (simp; done) | (simp [*]; done)), H', ⟨by have := HJ11.out; first | omega | exact Nat.le_refl _⟩, by repeat (first | exact Drawn0.refl _ | apply Drawn0.step)⟩
              · rw [if_neg c22] at H
                have c22b0 : decide ((wrap64 (t135 + (wrap64 (t136 + 1)))) ≤ t143) = false := decide_eq_false c22
                clear c22
                have H' := Aside0.mk H
                clear H
                go_wp2
                go_meet
                case rel => exact ⟨_, (false), (by first | rfl | (simp; done) | (simp [*]; done)), H', ⟨by have := HJ11.out; first | omega | exact Nat.le_refl _⟩, by repeat (first | exact Drawn0.refl _ | apply Drawn0.step)⟩
          case rest =>
            clear HC20
            try clear c1
            try clear c2
            try clear p2
            try clear c3
            try clear p6
            try clear c8
            try clear c10
            try clear c10b0
            try clear c10b1
            try clear c11
            try clear c13
            try clear c13b0
            try clear c13b1
            try clear c14
            try clear c14b0
            try clear c14b1
            try clear c16
            try clear c21
            try clear c21b0
            try clear c22
            try clear c22b0
            try clear p2
            try clear p6
            obtain ⟨kq, x100_19, rfl, HA, HJ19, ⟨mc19, rfl⟩⟩ := hcut
            cases kq with
            | zero => exact absurd HA.out (by simp [bodegalaw1_WordFieldsBack.j1])
            | succ kj19 =>
              have H := HA.out
              clear HA
              simp only [bodegalaw1_WordFieldsBack.j1] at H
              by_cases c23 : x100_19 = true
              · subst c23
                have H1 : (some false) = some r := by rw [if_pos rfl] at H; exact H
                clear H
                have H := H1
                clear H1
                obtain rfl := Option.some.inj H
                go_wp2
                go_ret
                exact ⟨by first | rfl | (simp; done) | (simp [*]; done), by repeat (first | exact Drawn0.refl _ | apply Drawn0.step)⟩
              · replace c23 := Bool.eq_false_iff.mpr c23
                subst c23
                have H1 : ((word_Field.f a0 t135 (wrap64 (t136 + 1))).bind fun bt148 => ((word_SetField.f t137 t135 (wrap64 (t136 + 1)) bt148.1).bind fun bt150 => (if bt150.2 = 0 then (some (bt150.1 == a0)) else (some false)))) = some r := by rw [if_neg (show ¬ (false = true) by decide)] at H; exact H
                clear H
                have H := H1
                clear H1
                replace H := Option.bind_eq_some_iff.mp H
                obtain ⟨⟨t148, t149⟩, A240, H⟩ := H
                replace H : ((word_SetField.f t137 t135 (wrap64 (t136 + 1)) t148).bind fun bt150 => (if bt150.2 = 0 then (some (bt150.1 == a0)) else (some false))) = some r := H
                have A24 := Aside0.mk A240
                clear A240
                replace H := Option.bind_eq_some_iff.mp H
                obtain ⟨⟨t150, t151⟩, A250, H⟩ := H
                replace H : (if t151 = 0 then (some (t150 == a0)) else (some false)) = some r := H
                have A25 := Aside0.mk A250
                clear A250
                by_cases c26 : t151 = 0
                · rw [if_pos c26] at H
                  have c26b0 : (t151 == 0) = true := beq_iff_eq.mpr c26
                  have c26b1 : (t151 != 0) = false := bne_eq_false_iff_eq.mpr c26
                  clear c26
                  obtain rfl := Option.some.inj H
                  go_wp2_with (first | ((with_reducible refine gate_callee (f := 35) rfl ?_); refine goesL_ (some 105) rfl rfl Try.func35 (by kernel_rfl) rfl #[.int .u64 a0, .int .i64 t135, .int .i64 (wrap64 (t136 + 1))] rfl (by (try simp only [List.map_toArray, List.map_cons, List.map_nil]); first | done | rfl | (simp only [List.length_drop, List.length_take]; rfl)) ?_; (with_reducible refine (word_Field.calls a0 t135 (wrap64 (t136 + 1)) t148 t149 _ A24.out).mono ?_); rintro e w' ⟨rfl, ⟨nd, rfl⟩⟩; refine ⟨_, rfl, ?_⟩) | ((with_reducible refine gate_callee (f := 37) rfl ?_); refine goesL_ (some 113) rfl rfl Try.func37 (by kernel_rfl) rfl #[.int .u64 t137, .int .i64 t135, .int .i64 (wrap64 (t136 + 1)), .int .u64 t148] rfl (by (try simp only [List.map_toArray, List.map_cons, List.map_nil]); first | done | rfl | (simp only [List.length_drop, List.length_take]; rfl)) ?_; (with_reducible refine (word_SetField.calls t137 t135 (wrap64 (t136 + 1)) t148 t150 t151 _ A25.out).mono ?_); rintro e w' ⟨rfl, ⟨nd, rfl⟩⟩; refine ⟨_, rfl, ?_⟩))
                  go_ret
                  exact ⟨by first | rfl | (simp; done) | (simp [*]; done), by repeat (first | exact Drawn0.refl _ | apply Drawn0.step)⟩
                · rw [if_neg c26] at H
                  have c26b0 : (t151 == 0) = false := beq_eq_false_iff_ne.mpr c26
                  have c26b1 : (t151 != 0) = true := bne_iff_ne.mpr c26
                  obtain rfl := Option.some.inj H
                  go_wp2_with (first | ((with_reducible refine gate_callee (f := 35) rfl ?_); refine goesL_ (some 105) rfl rfl Try.func35 (by kernel_rfl) rfl #[.int .u64 a0, .int .i64 t135, .int .i64 (wrap64 (t136 + 1))] rfl (by (try simp only [List.map_toArray, List.map_cons, List.map_nil]); first | done | rfl | (simp only [List.length_drop, List.length_take]; rfl)) ?_; (with_reducible refine (word_Field.calls a0 t135 (wrap64 (t136 + 1)) t148 t149 _ A24.out).mono ?_); rintro e w' ⟨rfl, ⟨nd, rfl⟩⟩; refine ⟨_, rfl, ?_⟩) | ((with_reducible refine gate_callee (f := 37) rfl ?_); refine goesL_ (some 113) rfl rfl Try.func37 (by kernel_rfl) rfl #[.int .u64 t137, .int .i64 t135, .int .i64 (wrap64 (t136 + 1)), .int .u64 t148] rfl (by (try simp only [List.map_toArray, List.map_cons, List.map_nil]); first | done | rfl | (simp only [List.length_drop, List.length_take]; rfl)) ?_; (with_reducible refine (word_SetField.calls t137 t135 (wrap64 (t136 + 1)) t148 t150 t151 _ A25.out).mono ?_); rintro e w' ⟨rfl, ⟨nd, rfl⟩⟩; refine ⟨_, rfl, ?_⟩))
                  go_ret
                  exact ⟨by first | rfl | (simp; done) | (simp [*]; done), by repeat (first | exact Drawn0.refl _ | apply Drawn0.step)⟩
  · rw [if_neg c10] at H
    have c10b0 : (t138 == 0) = false := beq_eq_false_iff_ne.mpr c10
    have c10b1 : (t138 != 0) = true := bne_iff_ne.mpr c10
    replace H := Option.bind_eq_some_iff.mp H
    obtain ⟨t139, A270, H⟩ := H
    replace H : (if t139 = true then (if t137 = 0 then (some ((t138 == 1) == (decide (t135 > (wrap64 (64 - (wrap64 (t136 + 1)))))))) else (some false)) else (some false)) = some r := H
    have A27 := Aside0.mk A270
    clear A270
    by_cases c28 : t139 = true
    · subst c28
      have H1 : (if t137 = 0 then (some ((t138 == 1) == (decide (t135 > (wrap64 (64 - (wrap64 (t136 + 1)))))))) else (some false)) = some r := by rw [if_pos rfl] at H; exact H
      clear H
      have H := H1
      clear H1
      by_cases c29 : t137 = 0
      · rw [if_pos c29] at H
        have c29b0 : (t137 == 0) = true := beq_iff_eq.mpr c29
        have c29b1 : (t137 != 0) = false := bne_eq_false_iff_eq.mpr c29
        clear c29
        obtain rfl := Option.some.inj H
        go_enter Try.func8, Try.ntmps8
        go_wp2_with (first | ((with_reducible refine gate_callee (f := 22) rfl ?_); refine goesL_ (some 26) rfl rfl Try.func22 (by kernel_rfl) rfl #[.int .i64 a1, .int .i64 64] rfl (by (try simp only [List.map_toArray, List.map_cons, List.map_nil]); first | done | rfl | (simp only [List.length_drop, List.length_take]; rfl)) ?_; (with_reducible refine (bodegahand_Pick.calls a1 64 t135 _ A7.out).mono ?_); rintro e w' ⟨rfl, ⟨nd, rfl⟩⟩; refine ⟨_, rfl, ?_⟩) | ((with_reducible refine gate_callee (f := 22) rfl ?_); refine goesL_ (some 28) rfl rfl Try.func22 (by kernel_rfl) rfl #[.int .i64 a2, .int .i64 64] rfl (by (try simp only [List.map_toArray, List.map_cons, List.map_nil]); first | done | rfl | (simp only [List.length_drop, List.length_take]; rfl)) ?_; (with_reducible refine (bodegahand_Pick.calls a2 64 t136 _ A8.out).mono ?_); rintro e w' ⟨rfl, ⟨nd, rfl⟩⟩; refine ⟨_, rfl, ?_⟩) | ((with_reducible refine gate_callee (f := 37) rfl ?_); refine goesL_ (some 35) rfl rfl Try.func37 (by kernel_rfl) rfl #[.int .u64 a0, .int .i64 t135, .int .i64 (wrap64 (t136 + 1)), .int .u64 a3] rfl (by (try simp only [List.map_toArray, List.map_cons, List.map_nil]); first | done | rfl | (simp only [List.length_drop, List.length_take]; rfl)) ?_; (with_reducible refine (word_SetField.calls a0 t135 (wrap64 (t136 + 1)) a3 t137 t138 _ A9.out).mono ?_); rintro e w' ⟨rfl, ⟨nd, rfl⟩⟩; refine ⟨_, rfl, ?_⟩) | ((with_reducible refine gate_callee (f := 19) rfl ?_); refine goesL_ (some 40) rfl rfl Try.func19 (by kernel_rfl) rfl #[] rfl (by (try simp only [List.map_toArray, List.map_cons, List.map_nil]); first | done | rfl | (simp only [List.length_drop, List.length_take]; rfl)) ?_; (with_reducible refine (bodegalaw1_awake.calls  true _ A27.out).mono ?_); rintro e w' ⟨rfl, ⟨nd, rfl⟩⟩; refine ⟨_, rfl, ?_⟩))
        go_ret
        exact ⟨by first | rfl | (simp; done) | (simp [*]; done), by repeat (first | exact Drawn0.refl _ | apply Drawn0.step)⟩
      · rw [if_neg c29] at H
        have c29b0 : (t137 == 0) = false := beq_eq_false_iff_ne.mpr c29
        have c29b1 : (t137 != 0) = true := bne_iff_ne.mpr c29
        obtain rfl := Option.some.inj H
        go_enter Try.func8, Try.ntmps8
        go_wp2_with (first | ((with_reducible refine gate_callee (f := 22) rfl ?_); refine goesL_ (some 26) rfl rfl Try.func22 (by kernel_rfl) rfl #[.int .i64 a1, .int .i64 64] rfl (by (try simp only [List.map_toArray, List.map_cons, List.map_nil]); first | done | rfl | (simp only [List.length_drop, List.length_take]; rfl)) ?_; (with_reducible refine (bodegahand_Pick.calls a1 64 t135 _ A7.out).mono ?_); rintro e w' ⟨rfl, ⟨nd, rfl⟩⟩; refine ⟨_, rfl, ?_⟩) | ((with_reducible refine gate_callee (f := 22) rfl ?_); refine goesL_ (some 28) rfl rfl Try.func22 (by kernel_rfl) rfl #[.int .i64 a2, .int .i64 64] rfl (by (try simp only [List.map_toArray, List.map_cons, List.map_nil]); first | done | rfl | (simp only [List.length_drop, List.length_take]; rfl)) ?_; (with_reducible refine (bodegahand_Pick.calls a2 64 t136 _ A8.out).mono ?_); rintro e w' ⟨rfl, ⟨nd, rfl⟩⟩; refine ⟨_, rfl, ?_⟩) | ((with_reducible refine gate_callee (f := 37) rfl ?_); refine goesL_ (some 35) rfl rfl Try.func37 (by kernel_rfl) rfl #[.int .u64 a0, .int .i64 t135, .int .i64 (wrap64 (t136 + 1)), .int .u64 a3] rfl (by (try simp only [List.map_toArray, List.map_cons, List.map_nil]); first | done | rfl | (simp only [List.length_drop, List.length_take]; rfl)) ?_; (with_reducible refine (word_SetField.calls a0 t135 (wrap64 (t136 + 1)) a3 t137 t138 _ A9.out).mono ?_); rintro e w' ⟨rfl, ⟨nd, rfl⟩⟩; refine ⟨_, rfl, ?_⟩) | ((with_reducible refine gate_callee (f := 19) rfl ?_); refine goesL_ (some 40) rfl rfl Try.func19 (by kernel_rfl) rfl #[] rfl (by (try simp only [List.map_toArray, List.map_cons, List.map_nil]); first | done | rfl | (simp only [List.length_drop, List.length_take]; rfl)) ?_; (with_reducible refine (bodegalaw1_awake.calls  true _ A27.out).mono ?_); rintro e w' ⟨rfl, ⟨nd, rfl⟩⟩; refine ⟨_, rfl, ?_⟩))
        go_ret
        exact ⟨by first | rfl | (simp; done) | (simp [*]; done), by repeat (first | exact Drawn0.refl _ | apply Drawn0.step)⟩
    · replace c28 := Bool.eq_false_iff.mpr c28
      subst c28
      have H1 : (some false) = some r := by rw [if_neg (show ¬ (false = true) by decide)] at H; exact H
      clear H
      have H := H1
      clear H1
      obtain rfl := Option.some.inj H
      go_enter Try.func8, Try.ntmps8
      go_wp2_with (first | ((with_reducible refine gate_callee (f := 22) rfl ?_); refine goesL_ (some 26) rfl rfl Try.func22 (by kernel_rfl) rfl #[.int .i64 a1, .int .i64 64] rfl (by (try simp only [List.map_toArray, List.map_cons, List.map_nil]); first | done | rfl | (simp only [List.length_drop, List.length_take]; rfl)) ?_; (with_reducible refine (bodegahand_Pick.calls a1 64 t135 _ A7.out).mono ?_); rintro e w' ⟨rfl, ⟨nd, rfl⟩⟩; refine ⟨_, rfl, ?_⟩) | ((with_reducible refine gate_callee (f := 22) rfl ?_); refine goesL_ (some 28) rfl rfl Try.func22 (by kernel_rfl) rfl #[.int .i64 a2, .int .i64 64] rfl (by (try simp only [List.map_toArray, List.map_cons, List.map_nil]); first | done | rfl | (simp only [List.length_drop, List.length_take]; rfl)) ?_; (with_reducible refine (bodegahand_Pick.calls a2 64 t136 _ A8.out).mono ?_); rintro e w' ⟨rfl, ⟨nd, rfl⟩⟩; refine ⟨_, rfl, ?_⟩) | ((with_reducible refine gate_callee (f := 37) rfl ?_); refine goesL_ (some 35) rfl rfl Try.func37 (by kernel_rfl) rfl #[.int .u64 a0, .int .i64 t135, .int .i64 (wrap64 (t136 + 1)), .int .u64 a3] rfl (by (try simp only [List.map_toArray, List.map_cons, List.map_nil]); first | done | rfl | (simp only [List.length_drop, List.length_take]; rfl)) ?_; (with_reducible refine (word_SetField.calls a0 t135 (wrap64 (t136 + 1)) a3 t137 t138 _ A9.out).mono ?_); rintro e w' ⟨rfl, ⟨nd, rfl⟩⟩; refine ⟨_, rfl, ?_⟩) | ((with_reducible refine gate_callee (f := 19) rfl ?_); refine goesL_ (some 40) rfl rfl Try.func19 (by kernel_rfl) rfl #[] rfl (by (try simp only [List.map_toArray, List.map_cons, List.map_nil]); first | done | rfl | (simp only [List.length_drop, List.length_take]; rfl)) ?_; (with_reducible refine (bodegalaw1_awake.calls  false _ A27.out).mono ?_); rintro e w' ⟨rfl, ⟨nd, rfl⟩⟩; refine ⟨_, rfl, ?_⟩))
      go_ret
      exact ⟨by first | rfl | (simp; done) | (simp [*]; done), by repeat (first | exact Drawn0.refl _ | apply Drawn0.step)⟩

/-- THE ONE PURE STATEMENT of bodegalaw1_WordFieldsBack: yours. -/
def bodegalaw1_WordFieldsBack.Pure : Prop := ∀ (a0 : Int) (a1 : Int) (a2 : Int) (a3 : Int) (a4 : Int) (a5 : Int), (Lit.int .u64 a0).wf = true → (Lit.int .i64 a1).wf = true → (Lit.int .i64 a2).wf = true → (Lit.int .u64 a3).wf = true → (Lit.int .i64 a4).wf = true → (Lit.int .i64 a5).wf = true → ∃ k, bodegalaw1_WordFieldsBack.f k a0 a1 a2 a3 a4 a5 = some true
theorem bodegalaw1_WordFieldsBack.walk (P : bodegalaw1_WordFieldsBack.Pure) (a0 : Int) (a1 : Int) (a2 : Int) (a3 : Int) (a4 : Int) (a5 : Int) (w : World) (w0 : (Lit.int .u64 a0).wf = true) (w1 : (Lit.int .i64 a1).wf = true) (w2 : (Lit.int .i64 a2).wf = true) (w3 : (Lit.int .u64 a3).wf = true) (w4 : (Lit.int .i64 a4).wf = true) (w5 : (Lit.int .i64 a5).wf = true) :
    Calls Try.prog 8 #[.int .u64 a0, .int .i64 a1, .int .i64 a2, .int .u64 a3, .int .i64 a4, .int .i64 a5] w fun e w' => e = .returned (.bool true) ∧ Below w.heap.size w w' := by
  obtain ⟨k, h⟩ := P a0 a1 a2 a3 a4 a5 w0 w1 w2 w3 w4 w5
  refine (bodegalaw1_WordFieldsBack.calls k a0 a1 a2 a3 a4 a5 true w h).mono ?_
  rintro e w' ⟨rfl, hd⟩
  exact ⟨rfl, hd.below⟩

end Go.Proofs.Ytpcoflcelmfnbaa.PWordFieldsBack
