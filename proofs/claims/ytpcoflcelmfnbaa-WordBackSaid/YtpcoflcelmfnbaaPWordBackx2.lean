-- PRINTED BY print.sh 35421559b90ae4d0a3588c463048766b98c2df88dd9212a6774a882060cdf62d: not written by this session
import Derived.Test.YtpcoflcelmfnbaaPWordBackx0
import Derived.Test.YtpcoflcelmfnbaaPWordBackx1
namespace Go.Proofs.Ytpcoflcelmfnbaa.PWordBack
open Go.RowKit Go.Proofs.YtpcoflcelmfnbaaW.PrintWords Go.Proofs.YtpcoflcelmfnbaaW.PrintLast Go.Proofs.YtpcoflcelmfnbaaW.PrintMore
attribute [local go_sem] max2_int min2_int max_two min_two max_three min_three max_four min_four   -- for this text's walks alone
set_option linter.unusedVariables false
set_option linter.unusedSimpArgs false

/-! ### word_SplitMark: function 40 -/
def word_SplitMark.f (a0 : Int) : Option (Int × Bool) := if (a0 / 4) < 1073741824 then ((word_Mark.f (wrap64 (a0 / 4))).bind fun bt132 => (if bt132.2 = 0 then (if bt132.1 = a0 then (some (wrap64 (a0 / 4), true)) else (some (0, false))) else (some (0, false)))) else ((word_Mark.f 0).bind fun bt134 => (if bt134.2 = 0 then (if bt134.1 = a0 then (some (0, true)) else (some (0, false))) else (some (0, false))))
set_option maxHeartbeats 8000000 in
set_option maxRecDepth 100000 in
theorem word_SplitMark.calls (a0 : Int) (r1 : Int) (r2 : Bool) (w : World) (h : word_SplitMark.f a0 = some (r1, r2)) :
    Calls Try.prog 40 #[.int .u64 a0] w fun e w' => e = .returned (.tuple #[.int .i64 r1, .bool r2]) ∧ Drawn0 w w' := by
  have H : (if (a0 / 4) < 1073741824 then ((word_Mark.f (wrap64 (a0 / 4))).bind fun bt132 => (if bt132.2 = 0 then (if bt132.1 = a0 then (some (wrap64 (a0 / 4), true)) else (some (0, false))) else (some (0, false)))) else ((word_Mark.f 0).bind fun bt134 => (if bt134.2 = 0 then (if bt134.1 = a0 then (some (0, true)) else (some (0, false))) else (some (0, false))))) = some (r1, r2) := h
  clear h
  by_cases c2 : (a0 / 4) < 1073741824
  · rw [if_pos c2] at H
    have c2b0 : decide ((a0 / 4) < 1073741824) = true := decide_eq_true c2
    clear c2
    replace H := Option.bind_eq_some_iff.mp H
    obtain ⟨⟨t132, t133⟩, A30, H⟩ := H
    replace H : (if t133 = 0 then (if t132 = a0 then (some (wrap64 (a0 / 4), true)) else (some (0, false))) else (some (0, false))) = some (r1, r2) := H
    have A3 := Aside0.mk A30
    clear A30
    by_cases c4 : t133 = 0
    · rw [if_pos c4] at H
      have c4b0 : (t133 == 0) = true := beq_iff_eq.mpr c4
      have c4b1 : (t133 != 0) = false := bne_eq_false_iff_eq.mpr c4
      clear c4
      by_cases c5 : t132 = a0
      · rw [if_pos c5] at H
        have c5b0 : (t132 == a0) = true := beq_iff_eq.mpr c5
        have c5b1 : (t132 != a0) = false := bne_eq_false_iff_eq.mpr c5
        clear c5
        simp only [Option.some.injEq, Prod.mk.injEq] at H
        obtain ⟨rfl, rfl⟩ := H
        go_enter Try.func40, Try.ntmps40
        go_wp2_with (first | ((with_reducible refine gate_callee (f := 26) rfl ?_); refine goesL_ (some 15) rfl rfl Try.func26 (by kernel_rfl) rfl #[.int .i64 (wrap64 (a0 / 4))] rfl (by (try simp only [List.map_toArray, List.map_cons, List.map_nil]); first | done | rfl | (simp only [List.length_drop, List.length_take]; rfl)) ?_; (with_reducible refine (word_Mark.calls (wrap64 (a0 / 4)) t132 t133 _ A3.out).mono ?_); rintro e w' ⟨rfl, ⟨nd, rfl⟩⟩; refine ⟨_, rfl, ?_⟩))
        go_ret2
        exact ⟨by first | rfl | (simp; done) | (simp [*]; done), by repeat (first | exact Drawn0.refl _ | apply Drawn0.step)⟩
      · rw [if_neg c5] at H
        have c5b0 : (t132 == a0) = false := beq_eq_false_iff_ne.mpr c5
        have c5b1 : (t132 != a0) = true := bne_iff_ne.mpr c5
        simp only [Option.some.injEq, Prod.mk.injEq] at H
        obtain ⟨rfl, rfl⟩ := H
        go_enter Try.func40, Try.ntmps40
        go_wp2_with (first | ((with_reducible refine gate_callee (f := 26) rfl ?_); refine goesL_ (some 15) rfl rfl Try.func26 (by kernel_rfl) rfl #[.int .i64 (wrap64 (a0 / 4))] rfl (by (try simp only [List.map_toArray, List.map_cons, List.map_nil]); first | done | rfl | (simp only [List.length_drop, List.length_take]; rfl)) ?_; (with_reducible refine (word_Mark.calls (wrap64 (a0 / 4)) t132 t133 _ A3.out).mono ?_); rintro e w' ⟨rfl, ⟨nd, rfl⟩⟩; refine ⟨_, rfl, ?_⟩))
        go_ret2
        exact ⟨by first | rfl | (simp; done) | (simp [*]; done), by repeat (first | exact Drawn0.refl _ | apply Drawn0.step)⟩
    · rw [if_neg c4] at H
      have c4b0 : (t133 == 0) = false := beq_eq_false_iff_ne.mpr c4
      have c4b1 : (t133 != 0) = true := bne_iff_ne.mpr c4
      simp only [Option.some.injEq, Prod.mk.injEq] at H
      obtain ⟨rfl, rfl⟩ := H
      go_enter Try.func40, Try.ntmps40
      go_wp2_with (first | ((with_reducible refine gate_callee (f := 26) rfl ?_); refine goesL_ (some 15) rfl rfl Try.func26 (by kernel_rfl) rfl #[.int .i64 (wrap64 (a0 / 4))] rfl (by (try simp only [List.map_toArray, List.map_cons, List.map_nil]); first | done | rfl | (simp only [List.length_drop, List.length_take]; rfl)) ?_; (with_reducible refine (word_Mark.calls (wrap64 (a0 / 4)) t132 t133 _ A3.out).mono ?_); rintro e w' ⟨rfl, ⟨nd, rfl⟩⟩; refine ⟨_, rfl, ?_⟩))
      go_ret2
      exact ⟨by first | rfl | (simp; done) | (simp [*]; done), by repeat (first | exact Drawn0.refl _ | apply Drawn0.step)⟩
  · rw [if_neg c2] at H
    have c2b0 : decide ((a0 / 4) < 1073741824) = false := decide_eq_false c2
    clear c2
    replace H := Option.bind_eq_some_iff.mp H
    obtain ⟨⟨t134, t135⟩, A60, H⟩ := H
    replace H : (if t135 = 0 then (if t134 = a0 then (some (0, true)) else (some (0, false))) else (some (0, false))) = some (r1, r2) := H
    have A6 := Aside0.mk A60
    clear A60
    by_cases c7 : t135 = 0
    · rw [if_pos c7] at H
      have c7b0 : (t135 == 0) = true := beq_iff_eq.mpr c7
      have c7b1 : (t135 != 0) = false := bne_eq_false_iff_eq.mpr c7
      clear c7
      by_cases c8 : t134 = a0
      · rw [if_pos c8] at H
        have c8b0 : (t134 == a0) = true := beq_iff_eq.mpr c8
        have c8b1 : (t134 != a0) = false := bne_eq_false_iff_eq.mpr c8
        clear c8
        simp only [Option.some.injEq, Prod.mk.injEq] at H
        obtain ⟨rfl, rfl⟩ := H
        go_enter Try.func40, Try.ntmps40
        go_wp2_with (first | ((with_reducible refine gate_callee (f := 26) rfl ?_); refine goesL_ (some 15) rfl rfl Try.func26 (by kernel_rfl) rfl #[.int .i64 0] rfl (by (try simp only [List.map_toArray, List.map_cons, List.map_nil]); first | done | rfl | (simp only [List.length_drop, List.length_take]; rfl)) ?_; (with_reducible refine (word_Mark.calls 0 t134 t135 _ A6.out).mono ?_); rintro e w' ⟨rfl, ⟨nd, rfl⟩⟩; refine ⟨_, rfl, ?_⟩))
        go_ret2
        exact ⟨by first | rfl | (simp; done) | (simp [*]; done), by repeat (first | exact Drawn0.refl _ | apply Drawn0.step)⟩
      · rw [if_neg c8] at H
        have c8b0 : (t134 == a0) = false := beq_eq_false_iff_ne.mpr c8
        have c8b1 : (t134 != a0) = true := bne_iff_ne.mpr c8
        simp only [Option.some.injEq, Prod.mk.injEq] at H
        obtain ⟨rfl, rfl⟩ := H
        go_enter Try.func40, Try.ntmps40
        go_wp2_with (first | ((with_reducible refine gate_callee (f := 26) rfl ?_); refine goesL_ (some 15) rfl rfl Try.func26 (by kernel_rfl) rfl #[.int .i64 0] rfl (by (try simp only [List.map_toArray, List.map_cons, List.map_nil]); first | done | rfl | (simp only [List.length_drop, List.length_take]; rfl)) ?_; (with_reducible refine (word_Mark.calls 0 t134 t135 _ A6.out).mono ?_); rintro e w' ⟨rfl, ⟨nd, rfl⟩⟩; refine ⟨_, rfl, ?_⟩))
        go_ret2
        exact ⟨by first | rfl | (simp; done) | (simp [*]; done), by repeat (first | exact Drawn0.refl _ | apply Drawn0.step)⟩
    · rw [if_neg c7] at H
      have c7b0 : (t135 == 0) = false := beq_eq_false_iff_ne.mpr c7
      have c7b1 : (t135 != 0) = true := bne_iff_ne.mpr c7
      simp only [Option.some.injEq, Prod.mk.injEq] at H
      obtain ⟨rfl, rfl⟩ := H
      go_enter Try.func40, Try.ntmps40
      go_wp2_with (first | ((with_reducible refine gate_callee (f := 26) rfl ?_); refine goesL_ (some 15) rfl rfl Try.func26 (by kernel_rfl) rfl #[.int .i64 0] rfl (by (try simp only [List.map_toArray, List.map_cons, List.map_nil]); first | done | rfl | (simp only [List.length_drop, List.length_take]; rfl)) ?_; (with_reducible refine (word_Mark.calls 0 t134 t135 _ A6.out).mono ?_); rintro e w' ⟨rfl, ⟨nd, rfl⟩⟩; refine ⟨_, rfl, ?_⟩))
      go_ret2
      exact ⟨by first | rfl | (simp; done) | (simp [*]; done), by repeat (first | exact Drawn0.refl _ | apply Drawn0.step)⟩

/-! ### word_mask: function 57 -/
def word_mask.f (a0 : Int) : Option (Int) := if 0 ≤ (IntKind.u64.wrap (a0)) then (some (IntKind.u64.wrap ((shl .u64 1 (IntKind.u64.wrap (a0))) - 1))) else (none)
set_option maxHeartbeats 8000000 in
set_option maxRecDepth 100000 in
theorem word_mask.calls (a0 : Int) (r : Int) (w : World) (h : word_mask.f a0 = some r) :
    Calls Try.prog 57 #[.int .i64 a0] w fun e w' => e = .returned (.int .u64 r) ∧ Drawn0 w w' := by
  have H : (if 0 ≤ (IntKind.u64.wrap (a0)) then (some (IntKind.u64.wrap ((shl .u64 1 (IntKind.u64.wrap (a0))) - 1))) else (none)) = some r := h
  clear h
  obtain ⟨ji2, hji2⟩ : ∃ j_ : Int, (IntKind.u64.wrap (a0)) = j_ := ⟨_, rfl⟩
  replace H : (if 0 ≤ (ji2) then (some (IntKind.u64.wrap ((shl .u64 1 (ji2)) - 1))) else (none)) = some r := by first | (rw [hji2] at H; exact H) | (simp only [hji2] at H ⊢; exact H)
  by_cases c3 : 0 ≤ (ji2)
  · rw [if_pos c3] at H
    have c3b0 := eq_true c3
    have c3b1 : decide (0 ≤ (ji2)) = true := decide_eq_true c3
    clear c3
    obtain ⟨ji4, hji4⟩ : ∃ j_ : Int, (shl .u64 1 (ji2)) = j_ := ⟨_, rfl⟩
    replace H : (some (IntKind.u64.wrap ((ji4) - 1))) = some r := by first | (rw [hji4] at H; exact H) | (simp only [hji4] at H ⊢; exact H)
    have hji4_ : (IntKind.u64.wrap (1 * 2 ^ min (ji2).toNat 64)) = ji4 := hji4
    have hji4z : (ji2) ≤ 64 → (IntKind.u64.wrap (1 * 2 ^ (ji2).toNat)) = ji4 := shl_small hji4
    have hji4u : (IntKind.u64.wrap (2 ^ min (ji2).toNat 64)) = ji4 := by have h_ := hji4_; rw [Int.one_mul] at h_; exact h_
    have hji4v : (ji2) ≤ 64 → (IntKind.u64.wrap (2 ^ (ji2).toNat)) = ji4 := fun hle_ => by have h_ := hji4z hle_; rw [Int.one_mul] at h_; exact h_
    obtain rfl := Option.some.inj H
    go_enter Try.func57, Try.ntmps57
    go_wp2
    go_ret
    exact ⟨by first | rfl | (simp; done) | (simp only [← hji2, ← hji4] <;> (first | rfl | simp)) | (simp [*]; done), by repeat (first | exact Drawn0.refl _ | apply Drawn0.step)⟩
  · rw [if_neg c3] at H
    exact absurd H (by simp)

/-! ### word_SplitTag: function 41 -/
def word_SplitTag.f (a0 : Int) : Option (Int × Int × Bool) := if (a0 / 256) ≤ 59 then ((word_mask.f 8).bind fun t136 => ((word_Tag.f (wrap64 (a0 / 256)) (wrap64 ((wrap64 (Go.bits .and .u64 a0 t136)) - 1))).bind fun bt137 => (if bt137.2 = 0 then (if bt137.1 = a0 then (some (wrap64 (a0 / 256), wrap64 ((wrap64 (Go.bits .and .u64 a0 t136)) - 1), true)) else (some (0, 0, false))) else (some (0, 0, false))))) else ((word_Tag.f 0 0).bind fun bt139 => (if bt139.2 = 0 then (if bt139.1 = a0 then (some (0, 0, true)) else (some (0, 0, false))) else (some (0, 0, false))))
set_option maxHeartbeats 8000000 in
set_option maxRecDepth 100000 in
theorem word_SplitTag.calls (a0 : Int) (r1 : Int) (r2 : Int) (r3 : Bool) (w : World) (h : word_SplitTag.f a0 = some (r1, r2, r3)) :
    Calls Try.prog 41 #[.int .u64 a0] w fun e w' => e = .returned (.tuple #[.int .i64 r1, .int .i64 r2, .bool r3]) ∧ Drawn0 w w' := by
  have H : (if (a0 / 256) ≤ 59 then ((word_mask.f 8).bind fun t136 => ((word_Tag.f (wrap64 (a0 / 256)) (wrap64 ((wrap64 (Go.bits .and .u64 a0 t136)) - 1))).bind fun bt137 => (if bt137.2 = 0 then (if bt137.1 = a0 then (some (wrap64 (a0 / 256), wrap64 ((wrap64 (Go.bits .and .u64 a0 t136)) - 1), true)) else (some (0, 0, false))) else (some (0, 0, false))))) else ((word_Tag.f 0 0).bind fun bt139 => (if bt139.2 = 0 then (if bt139.1 = a0 then (some (0, 0, true)) else (some (0, 0, false))) else (some (0, 0, false))))) = some (r1, r2, r3) := h
  clear h
  by_cases c2 : (a0 / 256) ≤ 59
  · rw [if_pos c2] at H
    have c2b0 : decide ((a0 / 256) ≤ 59) = true := decide_eq_true c2
    clear c2
    replace H := Option.bind_eq_some_iff.mp H
    obtain ⟨t136, A30, H⟩ := H
    replace H : ((word_Tag.f (wrap64 (a0 / 256)) (wrap64 ((wrap64 (Go.bits .and .u64 a0 t136)) - 1))).bind fun bt137 => (if bt137.2 = 0 then (if bt137.1 = a0 then (some (wrap64 (a0 / 256), wrap64 ((wrap64 (Go.bits .and .u64 a0 t136)) - 1), true)) else (some (0, 0, false))) else (some (0, 0, false)))) = some (r1, r2, r3) := H
    have A3 := Aside0.mk A30
    clear A30
    replace H := Option.bind_eq_some_iff.mp H
    obtain ⟨⟨t137, t138⟩, A40, H⟩ := H
    replace H : (if t138 = 0 then (if t137 = a0 then (some (wrap64 (a0 / 256), wrap64 ((wrap64 (Go.bits .and .u64 a0 t136)) - 1), true)) else (some (0, 0, false))) else (some (0, 0, false))) = some (r1, r2, r3) := H
    have A4 := Aside0.mk A40
    clear A40
    by_cases c5 : t138 = 0
    · rw [if_pos c5] at H
      have c5b0 : (t138 == 0) = true := beq_iff_eq.mpr c5
      have c5b1 : (t138 != 0) = false := bne_eq_false_iff_eq.mpr c5
      clear c5
      by_cases c6 : t137 = a0
      · rw [if_pos c6] at H
        have c6b0 : (t137 == a0) = true := beq_iff_eq.mpr c6
        have c6b1 : (t137 != a0) = false := bne_eq_false_iff_eq.mpr c6
        clear c6
        simp only [Option.some.injEq, Prod.mk.injEq] at H
        obtain ⟨rfl, rfl, rfl⟩ := H
        go_enter Try.func41, Try.ntmps41
        go_wp2_with (first | ((with_reducible refine gate_callee (f := 57) rfl ?_); refine goesL_ (some 15) rfl rfl Try.func57 (by kernel_rfl) rfl #[.int .i64 8] rfl (by (try simp only [List.map_toArray, List.map_cons, List.map_nil]); first | done | rfl | (simp only [List.length_drop, List.length_take]; rfl)) ?_; (with_reducible refine (word_mask.calls 8 t136 _ A3.out).mono ?_); rintro e w' ⟨rfl, ⟨nd, rfl⟩⟩; refine ⟨_, rfl, ?_⟩) | ((with_reducible refine gate_callee (f := 28) rfl ?_); refine goesL_ (some 22) rfl rfl Try.func28 (by kernel_rfl) rfl #[.int .i64 (wrap64 (a0 / 256)), .int .i64 (wrap64 ((wrap64 (Go.bits .and .u64 a0 t136)) - 1))] rfl (by (try simp only [List.map_toArray, List.map_cons, List.map_nil]); first | done | rfl | (simp only [List.length_drop, List.length_take]; rfl)) ?_; (with_reducible refine (word_Tag.calls (wrap64 (a0 / 256)) (wrap64 ((wrap64 (Go.bits .and .u64 a0 t136)) - 1)) t137 t138 _ A4.out).mono ?_); rintro e w' ⟨rfl, ⟨nd, rfl⟩⟩; refine ⟨_, rfl, ?_⟩))
        go_ret3
        exact ⟨by first | rfl | (simp; done) | (simp [*]; done), by repeat (first | exact Drawn0.refl _ | apply Drawn0.step)⟩
      · rw [if_neg c6] at H
        have c6b0 : (t137 == a0) = false := beq_eq_false_iff_ne.mpr c6
        have c6b1 : (t137 != a0) = true := bne_iff_ne.mpr c6
        simp only [Option.some.injEq, Prod.mk.injEq] at H
        obtain ⟨rfl, rfl, rfl⟩ := H
        go_enter Try.func41, Try.ntmps41
        go_wp2_with (first | ((with_reducible refine gate_callee (f := 57) rfl ?_); refine goesL_ (some 15) rfl rfl Try.func57 (by kernel_rfl) rfl #[.int .i64 8] rfl (by (try simp only [List.map_toArray, List.map_cons, List.map_nil]); first | done | rfl | (simp only [List.length_drop, List.length_take]; rfl)) ?_; (with_reducible refine (word_mask.calls 8 t136 _ A3.out).mono ?_); rintro e w' ⟨rfl, ⟨nd, rfl⟩⟩; refine ⟨_, rfl, ?_⟩) | ((with_reducible refine gate_callee (f := 28) rfl ?_); refine goesL_ (some 22) rfl rfl Try.func28 (by kernel_rfl) rfl #[.int .i64 (wrap64 (a0 / 256)), .int .i64 (wrap64 ((wrap64 (Go.bits .and .u64 a0 t136)) - 1))] rfl (by (try simp only [List.map_toArray, List.map_cons, List.map_nil]); first | done | rfl | (simp only [List.length_drop, List.length_take]; rfl)) ?_; (with_reducible refine (word_Tag.calls (wrap64 (a0 / 256)) (wrap64 ((wrap64 (Go.bits .and .u64 a0 t136)) - 1)) t137 t138 _ A4.out).mono ?_); rintro e w' ⟨rfl, ⟨nd, rfl⟩⟩; refine ⟨_, rfl, ?_⟩))
        go_ret3
        exact ⟨by first | rfl | (simp; done) | (simp [*]; done), by repeat (first | exact Drawn0.refl _ | apply Drawn0.step)⟩
    · rw [if_neg c5] at H
      have c5b0 : (t138 == 0) = false := beq_eq_false_iff_ne.mpr c5
      have c5b1 : (t138 != 0) = true := bne_iff_ne.mpr c5
      simp only [Option.some.injEq, Prod.mk.injEq] at H
      obtain ⟨rfl, rfl, rfl⟩ := H
      go_enter Try.func41, Try.ntmps41
      go_wp2_with (first | ((with_reducible refine gate_callee (f := 57) rfl ?_); refine goesL_ (some 15) rfl rfl Try.func57 (by kernel_rfl) rfl #[.int .i64 8] rfl (by (try simp only [List.map_toArray, List.map_cons, List.map_nil]); first | done | rfl | (simp only [List.length_drop, List.length_take]; rfl)) ?_; (with_reducible refine (word_mask.calls 8 t136 _ A3.out).mono ?_); rintro e w' ⟨rfl, ⟨nd, rfl⟩⟩; refine ⟨_, rfl, ?_⟩) | ((with_reducible refine gate_callee (f := 28) rfl ?_); refine goesL_ (some 22) rfl rfl Try.func28 (by kernel_rfl) rfl #[.int .i64 (wrap64 (a0 / 256)), .int .i64 (wrap64 ((wrap64 (Go.bits .and .u64 a0 t136)) - 1))] rfl (by (try simp only [List.map_toArray, List.map_cons, List.map_nil]); first | done | rfl | (simp only [List.length_drop, List.length_take]; rfl)) ?_; (with_reducible refine (word_Tag.calls (wrap64 (a0 / 256)) (wrap64 ((wrap64 (Go.bits .and .u64 a0 t136)) - 1)) t137 t138 _ A4.out).mono ?_); rintro e w' ⟨rfl, ⟨nd, rfl⟩⟩; refine ⟨_, rfl, ?_⟩))
      go_ret3
      exact ⟨by first | rfl | (simp; done) | (simp [*]; done), by repeat (first | exact Drawn0.refl _ | apply Drawn0.step)⟩
  · rw [if_neg c2] at H
    have c2b0 : decide ((a0 / 256) ≤ 59) = false := decide_eq_false c2
    clear c2
    replace H := Option.bind_eq_some_iff.mp H
    obtain ⟨⟨t139, t140⟩, A70, H⟩ := H
    replace H : (if t140 = 0 then (if t139 = a0 then (some (0, 0, true)) else (some (0, 0, false))) else (some (0, 0, false))) = some (r1, r2, r3) := H
    have A7 := Aside0.mk A70
    clear A70
    by_cases c8 : t140 = 0
    · rw [if_pos c8] at H
      have c8b0 : (t140 == 0) = true := beq_iff_eq.mpr c8
      have c8b1 : (t140 != 0) = false := bne_eq_false_iff_eq.mpr c8
      clear c8
      by_cases c9 : t139 = a0
      · rw [if_pos c9] at H
        have c9b0 : (t139 == a0) = true := beq_iff_eq.mpr c9
        have c9b1 : (t139 != a0) = false := bne_eq_false_iff_eq.mpr c9
        clear c9
        simp only [Option.some.injEq, Prod.mk.injEq] at H
        obtain ⟨rfl, rfl, rfl⟩ := H
        go_enter Try.func41, Try.ntmps41
        go_wp2_with (first | ((with_reducible refine gate_callee (f := 28) rfl ?_); refine goesL_ (some 22) rfl rfl Try.func28 (by kernel_rfl) rfl #[.int .i64 0, .int .i64 0] rfl (by (try simp only [List.map_toArray, List.map_cons, List.map_nil]); first | done | rfl | (simp only [List.length_drop, List.length_take]; rfl)) ?_; (with_reducible refine (word_Tag.calls 0 0 t139 t140 _ A7.out).mono ?_); rintro e w' ⟨rfl, ⟨nd, rfl⟩⟩; refine ⟨_, rfl, ?_⟩))
        go_ret3
        exact ⟨by first | rfl | (simp; done) | (simp [*]; done), by repeat (first | exact Drawn0.refl _ | apply Drawn0.step)⟩
      · rw [if_neg c9] at H
        have c9b0 : (t139 == a0) = false := beq_eq_false_iff_ne.mpr c9
        have c9b1 : (t139 != a0) = true := bne_iff_ne.mpr c9
        simp only [Option.some.injEq, Prod.mk.injEq] at H
        obtain ⟨rfl, rfl, rfl⟩ := H
        go_enter Try.func41, Try.ntmps41
        go_wp2_with (first | ((with_reducible refine gate_callee (f := 28) rfl ?_); refine goesL_ (some 22) rfl rfl Try.func28 (by kernel_rfl) rfl #[.int .i64 0, .int .i64 0] rfl (by (try simp only [List.map_toArray, List.map_cons, List.map_nil]); first | done | rfl | (simp only [List.length_drop, List.length_take]; rfl)) ?_; (with_reducible refine (word_Tag.calls 0 0 t139 t140 _ A7.out).mono ?_); rintro e w' ⟨rfl, ⟨nd, rfl⟩⟩; refine ⟨_, rfl, ?_⟩))
        go_ret3
        exact ⟨by first | rfl | (simp; done) | (simp [*]; done), by repeat (first | exact Drawn0.refl _ | apply Drawn0.step)⟩
    · rw [if_neg c8] at H
      have c8b0 : (t140 == 0) = false := beq_eq_false_iff_ne.mpr c8
      have c8b1 : (t140 != 0) = true := bne_iff_ne.mpr c8
      simp only [Option.some.injEq, Prod.mk.injEq] at H
      obtain ⟨rfl, rfl, rfl⟩ := H
      go_enter Try.func41, Try.ntmps41
      go_wp2_with (first | ((with_reducible refine gate_callee (f := 28) rfl ?_); refine goesL_ (some 22) rfl rfl Try.func28 (by kernel_rfl) rfl #[.int .i64 0, .int .i64 0] rfl (by (try simp only [List.map_toArray, List.map_cons, List.map_nil]); first | done | rfl | (simp only [List.length_drop, List.length_take]; rfl)) ?_; (with_reducible refine (word_Tag.calls 0 0 t139 t140 _ A7.out).mono ?_); rintro e w' ⟨rfl, ⟨nd, rfl⟩⟩; refine ⟨_, rfl, ?_⟩))
      go_ret3
      exact ⟨by first | rfl | (simp; done) | (simp [*]; done), by repeat (first | exact Drawn0.refl _ | apply Drawn0.step)⟩

/-! ### word_SplitLease: function 42 -/
def word_SplitLease.f (a0 : Int) : Option (Int × Int × Bool) := if (a0 / 4294967296) ≤ 59 then ((word_mask.f 32).bind fun t141 => ((word_Lease.f (wrap64 (a0 / 4294967296)) (wrap64 (Go.bits .and .u64 a0 t141))).bind fun bt142 => (if bt142.2 = 0 then (if bt142.1 = a0 then (some (wrap64 (a0 / 4294967296), wrap64 (Go.bits .and .u64 a0 t141), true)) else (some (0, 0, false))) else (some (0, 0, false))))) else ((word_Lease.f 0 0).bind fun bt144 => (if bt144.2 = 0 then (if bt144.1 = a0 then (some (0, 0, true)) else (some (0, 0, false))) else (some (0, 0, false))))
set_option maxHeartbeats 8000000 in
set_option maxRecDepth 100000 in
theorem word_SplitLease.calls (a0 : Int) (r1 : Int) (r2 : Int) (r3 : Bool) (w : World) (h : word_SplitLease.f a0 = some (r1, r2, r3)) :
    Calls Try.prog 42 #[.int .u64 a0] w fun e w' => e = .returned (.tuple #[.int .i64 r1, .int .i64 r2, .bool r3]) ∧ Drawn0 w w' := by
  have H : (if (a0 / 4294967296) ≤ 59 then ((word_mask.f 32).bind fun t141 => ((word_Lease.f (wrap64 (a0 / 4294967296)) (wrap64 (Go.bits .and .u64 a0 t141))).bind fun bt142 => (if bt142.2 = 0 then (if bt142.1 = a0 then (some (wrap64 (a0 / 4294967296), wrap64 (Go.bits .and .u64 a0 t141), true)) else (some (0, 0, false))) else (some (0, 0, false))))) else ((word_Lease.f 0 0).bind fun bt144 => (if bt144.2 = 0 then (if bt144.1 = a0 then (some (0, 0, true)) else (some (0, 0, false))) else (some (0, 0, false))))) = some (r1, r2, r3) := h
  clear h
  by_cases c2 : (a0 / 4294967296) ≤ 59
  · rw [if_pos c2] at H
    have c2b0 : decide ((a0 / 4294967296) ≤ 59) = true := decide_eq_true c2
    clear c2
    replace H := Option.bind_eq_some_iff.mp H
    obtain ⟨t141, A30, H⟩ := H
    replace H : ((word_Lease.f (wrap64 (a0 / 4294967296)) (wrap64 (Go.bits .and .u64 a0 t141))).bind fun bt142 => (if bt142.2 = 0 then (if bt142.1 = a0 then (some (wrap64 (a0 / 4294967296), wrap64 (Go.bits .and .u64 a0 t141), true)) else (some (0, 0, false))) else (some (0, 0, false)))) = some (r1, r2, r3) := H
    have A3 := Aside0.mk A30
    clear A30
    replace H := Option.bind_eq_some_iff.mp H
    obtain ⟨⟨t142, t143⟩, A40, H⟩ := H
    replace H : (if t143 = 0 then (if t142 = a0 then (some (wrap64 (a0 / 4294967296), wrap64 (Go.bits .and .u64 a0 t141), true)) else (some (0, 0, false))) else (some (0, 0, false))) = some (r1, r2, r3) := H
    have A4 := Aside0.mk A40
    clear A40
    by_cases c5 : t143 = 0
    · rw [if_pos c5] at H
      have c5b0 : (t143 == 0) = true := beq_iff_eq.mpr c5
      have c5b1 : (t143 != 0) = false := bne_eq_false_iff_eq.mpr c5
      clear c5
      by_cases c6 : t142 = a0
      · rw [if_pos c6] at H
        have c6b0 : (t142 == a0) = true := beq_iff_eq.mpr c6
        have c6b1 : (t142 != a0) = false := bne_eq_false_iff_eq.mpr c6
        clear c6
        simp only [Option.some.injEq, Prod.mk.injEq] at H
        obtain ⟨rfl, rfl, rfl⟩ := H
        go_enter Try.func42, Try.ntmps42
        go_wp2_with (first | ((with_reducible refine gate_callee (f := 57) rfl ?_); refine goesL_ (some 15) rfl rfl Try.func57 (by kernel_rfl) rfl #[.int .i64 32] rfl (by (try simp only [List.map_toArray, List.map_cons, List.map_nil]); first | done | rfl | (simp only [List.length_drop, List.length_take]; rfl)) ?_; (with_reducible refine (word_mask.calls 32 t141 _ A3.out).mono ?_); rintro e w' ⟨rfl, ⟨nd, rfl⟩⟩; refine ⟨_, rfl, ?_⟩) | ((with_reducible refine gate_callee (f := 30) rfl ?_); refine goesL_ (some 21) rfl rfl Try.func30 (by kernel_rfl) rfl #[.int .i64 (wrap64 (a0 / 4294967296)), .int .i64 (wrap64 (Go.bits .and .u64 a0 t141))] rfl (by (try simp only [List.map_toArray, List.map_cons, List.map_nil]); first | done | rfl | (simp only [List.length_drop, List.length_take]; rfl)) ?_; (with_reducible refine (word_Lease.calls (wrap64 (a0 / 4294967296)) (wrap64 (Go.bits .and .u64 a0 t141)) t142 t143 _ A4.out).mono ?_); rintro e w' ⟨rfl, ⟨nd, rfl⟩⟩; refine ⟨_, rfl, ?_⟩))
        go_ret3
        exact ⟨by first | rfl | (simp; done) | (simp [*]; done), by repeat (first | exact Drawn0.refl _ | apply Drawn0.step)⟩
      · rw [if_neg c6] at H
        have c6b0 : (t142 == a0) = false := beq_eq_false_iff_ne.mpr c6
        have c6b1 : (t142 != a0) = true := bne_iff_ne.mpr c6
        simp only [Option.some.injEq, Prod.mk.injEq] at H
        obtain ⟨rfl, rfl, rfl⟩ := H
        go_enter Try.func42, Try.ntmps42
        go_wp2_with (first | ((with_reducible refine gate_callee (f := 57) rfl ?_); refine goesL_ (some 15) rfl rfl Try.func57 (by kernel_rfl) rfl #[.int .i64 32] rfl (by (try simp only [List.map_toArray, List.map_cons, List.map_nil]); first | done | rfl | (simp only [List.length_drop, List.length_take]; rfl)) ?_; (with_reducible refine (word_mask.calls 32 t141 _ A3.out).mono ?_); rintro e w' ⟨rfl, ⟨nd, rfl⟩⟩; refine ⟨_, rfl, ?_⟩) | ((with_reducible refine gate_callee (f := 30) rfl ?_); refine goesL_ (some 21) rfl rfl Try.func30 (by kernel_rfl) rfl #[.int .i64 (wrap64 (a0 / 4294967296)), .int .i64 (wrap64 (Go.bits .and .u64 a0 t141))] rfl (by (try simp only [List.map_toArray, List.map_cons, List.map_nil]); first | done | rfl | (simp only [List.length_drop, List.length_take]; rfl)) ?_; (with_reducible refine (word_Lease.calls (wrap64 (a0 / 4294967296)) (wrap64 (Go.bits .and .u64 a0 t141)) t142 t143 _ A4.out).mono ?_); rintro e w' ⟨rfl, ⟨nd, rfl⟩⟩; refine ⟨_, rfl, ?_⟩))
        go_ret3
        exact ⟨by first | rfl | (simp; done) | (simp [*]; done), by repeat (first | exact Drawn0.refl _ | apply Drawn0.step)⟩
    · rw [if_neg c5] at H
      have c5b0 : (t143 == 0) = false := beq_eq_false_iff_ne.mpr c5
      have c5b1 : (t143 != 0) = true := bne_iff_ne.mpr c5
      simp only [Option.some.injEq, Prod.mk.injEq] at H
      obtain ⟨rfl, rfl, rfl⟩ := H
      go_enter Try.func42, Try.ntmps42
      go_wp2_with (first | ((with_reducible refine gate_callee (f := 57) rfl ?_); refine goesL_ (some 15) rfl rfl Try.func57 (by kernel_rfl) rfl #[.int .i64 32] rfl (by (try simp only [List.map_toArray, List.map_cons, List.map_nil]); first | done | rfl | (simp only [List.length_drop, List.length_take]; rfl)) ?_; (with_reducible refine (word_mask.calls 32 t141 _ A3.out).mono ?_); rintro e w' ⟨rfl, ⟨nd, rfl⟩⟩; refine ⟨_, rfl, ?_⟩) | ((with_reducible refine gate_callee (f := 30) rfl ?_); refine goesL_ (some 21) rfl rfl Try.func30 (by kernel_rfl) rfl #[.int .i64 (wrap64 (a0 / 4294967296)), .int .i64 (wrap64 (Go.bits .and .u64 a0 t141))] rfl (by (try simp only [List.map_toArray, List.map_cons, List.map_nil]); first | done | rfl | (simp only [List.length_drop, List.length_take]; rfl)) ?_; (with_reducible refine (word_Lease.calls (wrap64 (a0 / 4294967296)) (wrap64 (Go.bits .and .u64 a0 t141)) t142 t143 _ A4.out).mono ?_); rintro e w' ⟨rfl, ⟨nd, rfl⟩⟩; refine ⟨_, rfl, ?_⟩))
      go_ret3
      exact ⟨by first | rfl | (simp; done) | (simp [*]; done), by repeat (first | exact Drawn0.refl _ | apply Drawn0.step)⟩
  · rw [if_neg c2] at H
    have c2b0 : decide ((a0 / 4294967296) ≤ 59) = false := decide_eq_false c2
    clear c2
    replace H := Option.bind_eq_some_iff.mp H
    obtain ⟨⟨t144, t145⟩, A70, H⟩ := H
    replace H : (if t145 = 0 then (if t144 = a0 then (some (0, 0, true)) else (some (0, 0, false))) else (some (0, 0, false))) = some (r1, r2, r3) := H
    have A7 := Aside0.mk A70
    clear A70
    by_cases c8 : t145 = 0
    · rw [if_pos c8] at H
      have c8b0 : (t145 == 0) = true := beq_iff_eq.mpr c8
      have c8b1 : (t145 != 0) = false := bne_eq_false_iff_eq.mpr c8
      clear c8
      by_cases c9 : t144 = a0
      · rw [if_pos c9] at H
        have c9b0 : (t144 == a0) = true := beq_iff_eq.mpr c9
        have c9b1 : (t144 != a0) = false := bne_eq_false_iff_eq.mpr c9
        clear c9
        simp only [Option.some.injEq, Prod.mk.injEq] at H
        obtain ⟨rfl, rfl, rfl⟩ := H
        go_enter Try.func42, Try.ntmps42
        go_wp2_with (first | ((with_reducible refine gate_callee (f := 30) rfl ?_); refine goesL_ (some 21) rfl rfl Try.func30 (by kernel_rfl) rfl #[.int .i64 0, .int .i64 0] rfl (by (try simp only [List.map_toArray, List.map_cons, List.map_nil]); first | done | rfl | (simp only [List.length_drop, List.length_take]; rfl)) ?_; (with_reducible refine (word_Lease.calls 0 0 t144 t145 _ A7.out).mono ?_); rintro e w' ⟨rfl, ⟨nd, rfl⟩⟩; refine ⟨_, rfl, ?_⟩))
        go_ret3
        exact ⟨by first | rfl | (simp; done) | (simp [*]; done), by repeat (first | exact Drawn0.refl _ | apply Drawn0.step)⟩
      · rw [if_neg c9] at H
        have c9b0 : (t144 == a0) = false := beq_eq_false_iff_ne.mpr c9
        have c9b1 : (t144 != a0) = true := bne_iff_ne.mpr c9
        simp only [Option.some.injEq, Prod.mk.injEq] at H
        obtain ⟨rfl, rfl, rfl⟩ := H
        go_enter Try.func42, Try.ntmps42
        go_wp2_with (first | ((with_reducible refine gate_callee (f := 30) rfl ?_); refine goesL_ (some 21) rfl rfl Try.func30 (by kernel_rfl) rfl #[.int .i64 0, .int .i64 0] rfl (by (try simp only [List.map_toArray, List.map_cons, List.map_nil]); first | done | rfl | (simp only [List.length_drop, List.length_take]; rfl)) ?_; (with_reducible refine (word_Lease.calls 0 0 t144 t145 _ A7.out).mono ?_); rintro e w' ⟨rfl, ⟨nd, rfl⟩⟩; refine ⟨_, rfl, ?_⟩))
        go_ret3
        exact ⟨by first | rfl | (simp; done) | (simp [*]; done), by repeat (first | exact Drawn0.refl _ | apply Drawn0.step)⟩
    · rw [if_neg c8] at H
      have c8b0 : (t145 == 0) = false := beq_eq_false_iff_ne.mpr c8
      have c8b1 : (t145 != 0) = true := bne_iff_ne.mpr c8
      simp only [Option.some.injEq, Prod.mk.injEq] at H
      obtain ⟨rfl, rfl, rfl⟩ := H
      go_enter Try.func42, Try.ntmps42
      go_wp2_with (first | ((with_reducible refine gate_callee (f := 30) rfl ?_); refine goesL_ (some 21) rfl rfl Try.func30 (by kernel_rfl) rfl #[.int .i64 0, .int .i64 0] rfl (by (try simp only [List.map_toArray, List.map_cons, List.map_nil]); first | done | rfl | (simp only [List.length_drop, List.length_take]; rfl)) ?_; (with_reducible refine (word_Lease.calls 0 0 t144 t145 _ A7.out).mono ?_); rintro e w' ⟨rfl, ⟨nd, rfl⟩⟩; refine ⟨_, rfl, ?_⟩))
      go_ret3
      exact ⟨by first | rfl | (simp; done) | (simp [*]; done), by repeat (first | exact Drawn0.refl _ | apply Drawn0.step)⟩

/-! ### word_SplitBallot: function 43 -/
def word_SplitBallot.f (a0 : Int) : Option (Int × Int × Bool) := if a0 < 4096 then ((word_Ballot.f (wrap64 (IntKind.u64.wrap (Int.tdiv a0 8))) (wrap64 ((wrap64 (Int.tmod a0 8)) - 1))).bind fun bt146 => (if bt146.2 = 0 then (if bt146.1 = a0 then (some (wrap64 (IntKind.u64.wrap (Int.tdiv a0 8)), wrap64 ((wrap64 (Int.tmod a0 8)) - 1), true)) else (some (0, 0, false))) else (some (0, 0, false)))) else ((word_Ballot.f 0 0).bind fun bt148 => (if bt148.2 = 0 then (if bt148.1 = a0 then (some (0, 0, true)) else (some (0, 0, false))) else (some (0, 0, false))))
set_option maxHeartbeats 8000000 in
set_option maxRecDepth 100000 in
theorem word_SplitBallot.calls (a0 : Int) (r1 : Int) (r2 : Int) (r3 : Bool) (w : World) (h : word_SplitBallot.f a0 = some (r1, r2, r3)) :
    Calls Try.prog 43 #[.int .u64 a0] w fun e w' => e = .returned (.tuple #[.int .i64 r1, .int .i64 r2, .bool r3]) ∧ Drawn0 w w' := by
  have H : (if a0 < 4096 then ((word_Ballot.f (wrap64 (IntKind.u64.wrap (Int.tdiv a0 8))) (wrap64 ((wrap64 (Int.tmod a0 8)) - 1))).bind fun bt146 => (if bt146.2 = 0 then (if bt146.1 = a0 then (some (wrap64 (IntKind.u64.wrap (Int.tdiv a0 8)), wrap64 ((wrap64 (Int.tmod a0 8)) - 1), true)) else (some (0, 0, false))) else (some (0, 0, false)))) else ((word_Ballot.f 0 0).bind fun bt148 => (if bt148.2 = 0 then (if bt148.1 = a0 then (some (0, 0, true)) else (some (0, 0, false))) else (some (0, 0, false))))) = some (r1, r2, r3) := h
  clear h
  by_cases c2 : a0 < 4096
  · rw [if_pos c2] at H
    have c2b0 : decide (a0 < 4096) = true := decide_eq_true c2
    clear c2
    replace H := Option.bind_eq_some_iff.mp H
    obtain ⟨⟨t146, t147⟩, A30, H⟩ := H
    replace H : (if t147 = 0 then (if t146 = a0 then (some (wrap64 (IntKind.u64.wrap (Int.tdiv a0 8)), wrap64 ((wrap64 (Int.tmod a0 8)) - 1), true)) else (some (0, 0, false))) else (some (0, 0, false))) = some (r1, r2, r3) := H
    have A3 := Aside0.mk A30
    clear A30
    by_cases c4 : t147 = 0
    · rw [if_pos c4] at H
      have c4b0 : (t147 == 0) = true := beq_iff_eq.mpr c4
      have c4b1 : (t147 != 0) = false := bne_eq_false_iff_eq.mpr c4
      clear c4
      by_cases c5 : t146 = a0
      · rw [if_pos c5] at H
        have c5b0 : (t146 == a0) = true := beq_iff_eq.mpr c5
        have c5b1 : (t146 != a0) = false := bne_eq_false_iff_eq.mpr c5
        clear c5
        simp only [Option.some.injEq, Prod.mk.injEq] at H
        obtain ⟨rfl, rfl, rfl⟩ := H
        go_enter Try.func43, Try.ntmps43
        go_wp2_with (first | ((with_reducible refine gate_callee (f := 23) rfl ?_); refine goesL_ (some 19) rfl rfl Try.func23 (by kernel_rfl) rfl #[.int .i64 (wrap64 (IntKind.u64.wrap (Int.tdiv a0 8))), .int .i64 (wrap64 ((wrap64 (Int.tmod a0 8)) - 1))] rfl (by (try simp only [List.map_toArray, List.map_cons, List.map_nil]); first | done | rfl | (simp only [List.length_drop, List.length_take]; rfl)) ?_; (with_reducible refine (word_Ballot.calls (wrap64 (IntKind.u64.wrap (Int.tdiv a0 8))) (wrap64 ((wrap64 (Int.tmod a0 8)) - 1)) t146 t147 _ A3.out).mono ?_); rintro e w' ⟨rfl, ⟨nd, rfl⟩⟩; refine ⟨_, rfl, ?_⟩))
        go_ret3
        exact ⟨by first | rfl | (simp; done) | (simp [*]; done), by repeat (first | exact Drawn0.refl _ | apply Drawn0.step)⟩
      · rw [if_neg c5] at H
        have c5b0 : (t146 == a0) = false := beq_eq_false_iff_ne.mpr c5
        have c5b1 : (t146 != a0) = true := bne_iff_ne.mpr c5
        simp only [Option.some.injEq, Prod.mk.injEq] at H
        obtain ⟨rfl, rfl, rfl⟩ := H
        go_enter Try.func43, Try.ntmps43
        go_wp2_with (first | ((with_reducible refine gate_callee (f := 23) rfl ?_); refine goesL_ (some 19) rfl rfl Try.func23 (by kernel_rfl) rfl #[.int .i64 (wrap64 (IntKind.u64.wrap (Int.tdiv a0 8))), .int .i64 (wrap64 ((wrap64 (Int.tmod a0 8)) - 1))] rfl (by (try simp only [List.map_toArray, List.map_cons, List.map_nil]); first | done | rfl | (simp only [List.length_drop, List.length_take]; rfl)) ?_; (with_reducible refine (word_Ballot.calls (wrap64 (IntKind.u64.wrap (Int.tdiv a0 8))) (wrap64 ((wrap64 (Int.tmod a0 8)) - 1)) t146 t147 _ A3.out).mono ?_); rintro e w' ⟨rfl, ⟨nd, rfl⟩⟩; refine ⟨_, rfl, ?_⟩))
        go_ret3
        exact ⟨by first | rfl | (simp; done) | (simp [*]; done), by repeat (first | exact Drawn0.refl _ | apply Drawn0.step)⟩
    · rw [if_neg c4] at H
      have c4b0 : (t147 == 0) = false := beq_eq_false_iff_ne.mpr c4
      have c4b1 : (t147 != 0) = true := bne_iff_ne.mpr c4
      simp only [Option.some.injEq, Prod.mk.injEq] at H
      obtain ⟨rfl, rfl, rfl⟩ := H
      go_enter Try.func43, Try.ntmps43
      go_wp2_with (first | ((with_reducible refine gate_callee (f := 23) rfl ?_); refine goesL_ (some 19) rfl rfl Try.func23 (by kernel_rfl) rfl #[.int .i64 (wrap64 (IntKind.u64.wrap (Int.tdiv a0 8))), .int .i64 (wrap64 ((wrap64 (Int.tmod a0 8)) - 1))] rfl (by (try simp only [List.map_toArray, List.map_cons, List.map_nil]); first | done | rfl | (simp only [List.length_drop, List.length_take]; rfl)) ?_; (with_reducible refine (word_Ballot.calls (wrap64 (IntKind.u64.wrap (Int.tdiv a0 8))) (wrap64 ((wrap64 (Int.tmod a0 8)) - 1)) t146 t147 _ A3.out).mono ?_); rintro e w' ⟨rfl, ⟨nd, rfl⟩⟩; refine ⟨_, rfl, ?_⟩))
      go_ret3
      exact ⟨by first | rfl | (simp; done) | (simp [*]; done), by repeat (first | exact Drawn0.refl _ | apply Drawn0.step)⟩
  · rw [if_neg c2] at H
    have c2b0 : decide (a0 < 4096) = false := decide_eq_false c2
    clear c2
    replace H := Option.bind_eq_some_iff.mp H
    obtain ⟨⟨t148, t149⟩, A60, H⟩ := H
    replace H : (if t149 = 0 then (if t148 = a0 then (some (0, 0, true)) else (some (0, 0, false))) else (some (0, 0, false))) = some (r1, r2, r3) := H
    have A6 := Aside0.mk A60
    clear A60
    by_cases c7 : t149 = 0
    · rw [if_pos c7] at H
      have c7b0 : (t149 == 0) = true := beq_iff_eq.mpr c7
      have c7b1 : (t149 != 0) = false := bne_eq_false_iff_eq.mpr c7
      clear c7
      by_cases c8 : t148 = a0
      · rw [if_pos c8] at H
        have c8b0 : (t148 == a0) = true := beq_iff_eq.mpr c8
        have c8b1 : (t148 != a0) = false := bne_eq_false_iff_eq.mpr c8
        clear c8
        simp only [Option.some.injEq, Prod.mk.injEq] at H
        obtain ⟨rfl, rfl, rfl⟩ := H
        go_enter Try.func43, Try.ntmps43
        go_wp2_with (first | ((with_reducible refine gate_callee (f := 23) rfl ?_); refine goesL_ (some 19) rfl rfl Try.func23 (by kernel_rfl) rfl #[.int .i64 0, .int .i64 0] rfl (by (try simp only [List.map_toArray, List.map_cons, List.map_nil]); first | done | rfl | (simp only [List.length_drop, List.length_take]; rfl)) ?_; (with_reducible refine (word_Ballot.calls 0 0 t148 t149 _ A6.out).mono ?_); rintro e w' ⟨rfl, ⟨nd, rfl⟩⟩; refine ⟨_, rfl, ?_⟩))
        go_ret3
        exact ⟨by first | rfl | (simp; done) | (simp [*]; done), by repeat (first | exact Drawn0.refl _ | apply Drawn0.step)⟩
      · rw [if_neg c8] at H
        have c8b0 : (t148 == a0) = false := beq_eq_false_iff_ne.mpr c8
        have c8b1 : (t148 != a0) = true := bne_iff_ne.mpr c8
        simp only [Option.some.injEq, Prod.mk.injEq] at H
        obtain ⟨rfl, rfl, rfl⟩ := H
        go_enter Try.func43, Try.ntmps43
        go_wp2_with (first | ((with_reducible refine gate_callee (f := 23) rfl ?_); refine goesL_ (some 19) rfl rfl Try.func23 (by kernel_rfl) rfl #[.int .i64 0, .int .i64 0] rfl (by (try simp only [List.map_toArray, List.map_cons, List.map_nil]); first | done | rfl | (simp only [List.length_drop, List.length_take]; rfl)) ?_; (with_reducible refine (word_Ballot.calls 0 0 t148 t149 _ A6.out).mono ?_); rintro e w' ⟨rfl, ⟨nd, rfl⟩⟩; refine ⟨_, rfl, ?_⟩))
        go_ret3
        exact ⟨by first | rfl | (simp; done) | (simp [*]; done), by repeat (first | exact Drawn0.refl _ | apply Drawn0.step)⟩
    · rw [if_neg c7] at H
      have c7b0 : (t149 == 0) = false := beq_eq_false_iff_ne.mpr c7
      have c7b1 : (t149 != 0) = true := bne_iff_ne.mpr c7
      simp only [Option.some.injEq, Prod.mk.injEq] at H
      obtain ⟨rfl, rfl, rfl⟩ := H
      go_enter Try.func43, Try.ntmps43
      go_wp2_with (first | ((with_reducible refine gate_callee (f := 23) rfl ?_); refine goesL_ (some 19) rfl rfl Try.func23 (by kernel_rfl) rfl #[.int .i64 0, .int .i64 0] rfl (by (try simp only [List.map_toArray, List.map_cons, List.map_nil]); first | done | rfl | (simp only [List.length_drop, List.length_take]; rfl)) ?_; (with_reducible refine (word_Ballot.calls 0 0 t148 t149 _ A6.out).mono ?_); rintro e w' ⟨rfl, ⟨nd, rfl⟩⟩; refine ⟨_, rfl, ?_⟩))
      go_ret3
      exact ⟨by first | rfl | (simp; done) | (simp [*]; done), by repeat (first | exact Drawn0.refl _ | apply Drawn0.step)⟩

end Go.Proofs.Ytpcoflcelmfnbaa.PWordBack
