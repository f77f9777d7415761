-- PRINTED BY print.sh 35421559b90ae4d0a3588c463048766b98c2df88dd9212a6774a882060cdf62d: not written by this session
import Derived.Test.YtpcoflcelmfnbaaPWordPacksx0
import Derived.Test.YtpcoflcelmfnbaaPWordPacksx1
namespace Go.Proofs.Ytpcoflcelmfnbaa.PWordPacks
open Go.RowKit Go.Proofs.YtpcoflcelmfnbaaW.PrintWords Go.Proofs.YtpcoflcelmfnbaaW.PrintLast Go.Proofs.YtpcoflcelmfnbaaW.PrintMore
attribute [local go_sem] max2_int min2_int max_two min_two max_three min_three max_four min_four   -- for this text's walks alone
set_option linter.unusedVariables false
set_option linter.unusedSimpArgs false

/-! ### bodegaref1_Client: function 53 -/
def bodegaref1_Client.f (a0 : Int) : Option (Bool) := if a0 ≥ 0 then (some (decide (a0 < 6))) else (some false)
set_option maxHeartbeats 8000000 in
set_option maxRecDepth 100000 in
theorem bodegaref1_Client.calls (a0 : Int) (r : Bool) (w : World) (h : bodegaref1_Client.f a0 = some r) :
    Calls Try.prog 53 #[.int .i64 a0] w fun e w' => e = .returned (.bool r) ∧ Drawn0 w w' := by
  have H : (if a0 ≥ 0 then (some (decide (a0 < 6))) else (some false)) = some r := h
  clear h
  by_cases c2 : a0 ≥ 0
  · rw [if_pos c2] at H
    have c2b0 : decide (0 ≤ a0) = true := decide_eq_true c2
    clear c2
    obtain rfl := Option.some.inj H
    go_enter Try.func53, Try.ntmps53
    go_wp2
    go_ret
    exact ⟨by first | rfl | (simp; done) | (simp [*]; done), by repeat (first | exact Drawn0.refl _ | apply Drawn0.step)⟩
  · rw [if_neg c2] at H
    have c2b0 : decide (0 ≤ a0) = false := decide_eq_false c2
    clear c2
    obtain rfl := Option.some.inj H
    go_enter Try.func53, Try.ntmps53
    go_wp2
    go_ret
    exact ⟨by first | rfl | (simp; done) | (simp [*]; done), by repeat (first | exact Drawn0.refl _ | apply Drawn0.step)⟩

/-! ### bodegaref1_Inc: function 55 -/
def bodegaref1_Inc.f (a0 : Int) : Option (Bool) := if a0 ≥ 1 then (if a0 ≤ 59 then (some ((Int.tmod a0 2) == 1)) else (some false)) else (some false)
set_option maxHeartbeats 8000000 in
set_option maxRecDepth 100000 in
theorem bodegaref1_Inc.calls (a0 : Int) (r : Bool) (w : World) (h : bodegaref1_Inc.f a0 = some r) :
    Calls Try.prog 55 #[.int .i64 a0] w fun e w' => e = .returned (.bool r) ∧ Drawn0 w w' := by
  have H : (if a0 ≥ 1 then (if a0 ≤ 59 then (some ((Int.tmod a0 2) == 1)) else (some false)) else (some false)) = some r := h
  clear h
  by_cases c2 : a0 ≥ 1
  · rw [if_pos c2] at H
    have c2b0 : decide (1 ≤ a0) = true := decide_eq_true c2
    clear c2
    by_cases c3 : a0 ≤ 59
    · rw [if_pos c3] at H
      have c3b0 : decide (a0 ≤ 59) = true := decide_eq_true c3
      clear c3
      obtain rfl := Option.some.inj H
      go_enter Try.func55, Try.ntmps55
      go_wp2
      go_ret
      exact ⟨by first | rfl | (simp; done) | (simp [*]; done), by repeat (first | exact Drawn0.refl _ | apply Drawn0.step)⟩
    · rw [if_neg c3] at H
      have c3b0 : decide (a0 ≤ 59) = false := decide_eq_false c3
      clear c3
      obtain rfl := Option.some.inj H
      go_enter Try.func55, Try.ntmps55
      go_wp2
      go_ret
      exact ⟨by first | rfl | (simp; done) | (simp [*]; done), by repeat (first | exact Drawn0.refl _ | apply Drawn0.step)⟩
  · rw [if_neg c2] at H
    have c2b0 : decide (1 ≤ a0) = false := decide_eq_false c2
    clear c2
    obtain rfl := Option.some.inj H
    go_enter Try.func55, Try.ntmps55
    go_wp2
    go_ret
    exact ⟨by first | rfl | (simp; done) | (simp [*]; done), by repeat (first | exact Drawn0.refl _ | apply Drawn0.step)⟩

/-! ### bodegaref1_Tag: function 29 -/
def bodegaref1_Tag.f (a0 : Int) (a1 : Int) : Option (Int × Int) := (bodegaref1_Inc.f a0).bind fun t130 => (if t130 = true then ((bodegaref1_Client.f a1).bind fun t131 => (if t131 = true then (some (Go.bits .or .u64 (IntKind.u64.wrap ((IntKind.u64.wrap (a0)) * 256)) (IntKind.u64.wrap (wrap64 (a1 + 1))), 0)) else (some (0, 1)))) else (some (0, 2)))
set_option maxHeartbeats 8000000 in
set_option maxRecDepth 100000 in
theorem bodegaref1_Tag.calls (a0 : Int) (a1 : Int) (r1 : Int) (r2 : Int) (w : World) (h : bodegaref1_Tag.f a0 a1 = some (r1, r2)) :
    Calls Try.prog 29 #[.int .i64 a0, .int .i64 a1] w fun e w' => e = .returned (.tuple #[.int .u64 r1, .int .i64 r2]) ∧ Drawn0 w w' := by
  have H : ((bodegaref1_Inc.f a0).bind fun t130 => (if t130 = true then ((bodegaref1_Client.f a1).bind fun t131 => (if t131 = true then (some (Go.bits .or .u64 (IntKind.u64.wrap ((IntKind.u64.wrap (a0)) * 256)) (IntKind.u64.wrap (wrap64 (a1 + 1))), 0)) else (some (0, 1)))) else (some (0, 2)))) = some (r1, r2) := h
  clear h
  replace H := Option.bind_eq_some_iff.mp H
  obtain ⟨t130, A30, H⟩ := H
  replace H : (if t130 = true then ((bodegaref1_Client.f a1).bind fun t131 => (if t131 = true then (some (Go.bits .or .u64 (IntKind.u64.wrap ((IntKind.u64.wrap (a0)) * 256)) (IntKind.u64.wrap (wrap64 (a1 + 1))), 0)) else (some (0, 1)))) else (some (0, 2))) = some (r1, r2) := H
  have A3 := Aside0.mk A30
  clear A30
  by_cases c4 : t130 = true
  · subst c4
    have H1 : ((bodegaref1_Client.f a1).bind fun t131 => (if t131 = true then (some (Go.bits .or .u64 (IntKind.u64.wrap ((IntKind.u64.wrap (a0)) * 256)) (IntKind.u64.wrap (wrap64 (a1 + 1))), 0)) else (some (0, 1)))) = some (r1, r2) := by rw [if_pos rfl] at H; exact H
    clear H
    have H := H1
    clear H1
    replace H := Option.bind_eq_some_iff.mp H
    obtain ⟨t131, A50, H⟩ := H
    replace H : (if t131 = true then (some (Go.bits .or .u64 (IntKind.u64.wrap ((IntKind.u64.wrap (a0)) * 256)) (IntKind.u64.wrap (wrap64 (a1 + 1))), 0)) else (some (0, 1))) = some (r1, r2) := H
    have A5 := Aside0.mk A50
    clear A50
    by_cases c6 : t131 = true
    · subst c6
      have H1 : (some (Go.bits .or .u64 (IntKind.u64.wrap ((IntKind.u64.wrap (a0)) * 256)) (IntKind.u64.wrap (wrap64 (a1 + 1))), 0)) = some (r1, r2) := by rw [if_pos rfl] at H; exact H
      clear H
      have H := H1
      clear H1
      simp only [Option.some.injEq, Prod.mk.injEq] at H
      obtain ⟨rfl, rfl⟩ := H
      go_enter Try.func29, Try.ntmps29
      go_wp2_with (first | ((with_reducible refine gate_callee (f := 55) rfl ?_); refine goesL_ (some 7) rfl rfl Try.func55 (by kernel_rfl) rfl #[.int .i64 a0] rfl (by (try simp only [List.map_toArray, List.map_cons, List.map_nil]); first | done | rfl | (simp only [List.length_drop, List.length_take]; rfl)) ?_; (with_reducible refine (bodegaref1_Inc.calls a0 true _ A3.out).mono ?_); rintro e w' ⟨rfl, ⟨nd, rfl⟩⟩; refine ⟨_, rfl, ?_⟩) | ((with_reducible refine gate_callee (f := 53) rfl ?_); refine goesL_ (some 10) rfl rfl Try.func53 (by kernel_rfl) rfl #[.int .i64 a1] rfl (by (try simp only [List.map_toArray, List.map_cons, List.map_nil]); first | done | rfl | (simp only [List.length_drop, List.length_take]; rfl)) ?_; (with_reducible refine (bodegaref1_Client.calls a1 true _ A5.out).mono ?_); rintro e w' ⟨rfl, ⟨nd, rfl⟩⟩; refine ⟨_, rfl, ?_⟩))
      go_ret2
      exact ⟨by first | rfl | (simp; done) | (simp [*]; done), by repeat (first | exact Drawn0.refl _ | apply Drawn0.step)⟩
    · replace c6 := Bool.eq_false_iff.mpr c6
      subst c6
      have H1 : (some (0, 1)) = some (r1, r2) := by rw [if_neg (show ¬ (false = true) by decide)] at H; exact H
      clear H
      have H := H1
      clear H1
      simp only [Option.some.injEq, Prod.mk.injEq] at H
      obtain ⟨rfl, rfl⟩ := H
      go_enter Try.func29, Try.ntmps29
      go_wp2_with (first | ((with_reducible refine gate_callee (f := 55) rfl ?_); refine goesL_ (some 7) rfl rfl Try.func55 (by kernel_rfl) rfl #[.int .i64 a0] rfl (by (try simp only [List.map_toArray, List.map_cons, List.map_nil]); first | done | rfl | (simp only [List.length_drop, List.length_take]; rfl)) ?_; (with_reducible refine (bodegaref1_Inc.calls a0 true _ A3.out).mono ?_); rintro e w' ⟨rfl, ⟨nd, rfl⟩⟩; refine ⟨_, rfl, ?_⟩) | ((with_reducible refine gate_callee (f := 53) rfl ?_); refine goesL_ (some 10) rfl rfl Try.func53 (by kernel_rfl) rfl #[.int .i64 a1] rfl (by (try simp only [List.map_toArray, List.map_cons, List.map_nil]); first | done | rfl | (simp only [List.length_drop, List.length_take]; rfl)) ?_; (with_reducible refine (bodegaref1_Client.calls a1 false _ A5.out).mono ?_); rintro e w' ⟨rfl, ⟨nd, rfl⟩⟩; refine ⟨_, rfl, ?_⟩))
      go_ret2
      exact ⟨by first | rfl | (simp; done) | (simp [*]; done), by repeat (first | exact Drawn0.refl _ | apply Drawn0.step)⟩
  · replace c4 := Bool.eq_false_iff.mpr c4
    subst c4
    have H1 : (some (0, 2)) = some (r1, r2) := by rw [if_neg (show ¬ (false = true) by decide)] at H; exact H
    clear H
    have H := H1
    clear H1
    simp only [Option.some.injEq, Prod.mk.injEq] at H
    obtain ⟨rfl, rfl⟩ := H
    go_enter Try.func29, Try.ntmps29
    go_wp2_with (first | ((with_reducible refine gate_callee (f := 55) rfl ?_); refine goesL_ (some 7) rfl rfl Try.func55 (by kernel_rfl) rfl #[.int .i64 a0] rfl (by (try simp only [List.map_toArray, List.map_cons, List.map_nil]); first | done | rfl | (simp only [List.length_drop, List.length_take]; rfl)) ?_; (with_reducible refine (bodegaref1_Inc.calls a0 false _ A3.out).mono ?_); rintro e w' ⟨rfl, ⟨nd, rfl⟩⟩; refine ⟨_, rfl, ?_⟩))
    go_ret2
    exact ⟨by first | rfl | (simp; done) | (simp [*]; done), by repeat (first | exact Drawn0.refl _ | apply Drawn0.step)⟩

/-! ### word_Lease: function 30 -/
def word_Lease.f (a0 : Int) (a1 : Int) : Option (Int × Int) := (word_isInc.f a0).bind fun t132 => (if t132 = true then ((word_within_int.f a1 0 4294967295).bind fun t133 => (if t133 = true then (some (Go.bits .or .u64 (IntKind.u64.wrap ((IntKind.u64.wrap (a0)) * 4294967296)) (IntKind.u64.wrap (a1)), 0)) else (some (0, 1)))) else (some (0, 2)))
set_option maxHeartbeats 8000000 in
set_option maxRecDepth 100000 in
theorem word_Lease.calls (a0 : Int) (a1 : Int) (r1 : Int) (r2 : Int) (w : World) (h : word_Lease.f a0 a1 = some (r1, r2)) :
    Calls Try.prog 30 #[.int .i64 a0, .int .i64 a1] w fun e w' => e = .returned (.tuple #[.int .u64 r1, .int .i64 r2]) ∧ Drawn0 w w' := by
  have H : ((word_isInc.f a0).bind fun t132 => (if t132 = true then ((word_within_int.f a1 0 4294967295).bind fun t133 => (if t133 = true then (some (Go.bits .or .u64 (IntKind.u64.wrap ((IntKind.u64.wrap (a0)) * 4294967296)) (IntKind.u64.wrap (a1)), 0)) else (some (0, 1)))) else (some (0, 2)))) = some (r1, r2) := h
  clear h
  replace H := Option.bind_eq_some_iff.mp H
  obtain ⟨t132, A30, H⟩ := H
  replace H : (if t132 = true then ((word_within_int.f a1 0 4294967295).bind fun t133 => (if t133 = true then (some (Go.bits .or .u64 (IntKind.u64.wrap ((IntKind.u64.wrap (a0)) * 4294967296)) (IntKind.u64.wrap (a1)), 0)) else (some (0, 1)))) else (some (0, 2))) = some (r1, r2) := H
  have A3 := Aside0.mk A30
  clear A30
  by_cases c4 : t132 = true
  · subst c4
    have H1 : ((word_within_int.f a1 0 4294967295).bind fun t133 => (if t133 = true then (some (Go.bits .or .u64 (IntKind.u64.wrap ((IntKind.u64.wrap (a0)) * 4294967296)) (IntKind.u64.wrap (a1)), 0)) else (some (0, 1)))) = some (r1, r2) := by rw [if_pos rfl] at H; exact H
    clear H
    have H := H1
    clear H1
    replace H := Option.bind_eq_some_iff.mp H
    obtain ⟨t133, A50, H⟩ := H
    replace H : (if t133 = true then (some (Go.bits .or .u64 (IntKind.u64.wrap ((IntKind.u64.wrap (a0)) * 4294967296)) (IntKind.u64.wrap (a1)), 0)) else (some (0, 1))) = some (r1, r2) := H
    have A5 := Aside0.mk A50
    clear A50
    by_cases c6 : t133 = true
    · subst c6
      have H1 : (some (Go.bits .or .u64 (IntKind.u64.wrap ((IntKind.u64.wrap (a0)) * 4294967296)) (IntKind.u64.wrap (a1)), 0)) = some (r1, r2) := by rw [if_pos rfl] at H; exact H
      clear H
      have H := H1
      clear H1
      simp only [Option.some.injEq, Prod.mk.injEq] at H
      obtain ⟨rfl, rfl⟩ := H
      go_enter Try.func30, Try.ntmps30
      go_wp2_with (first | ((with_reducible refine gate_callee (f := 54) rfl ?_); refine goesL_ (some 8) rfl rfl Try.func54 (by kernel_rfl) rfl #[.int .i64 a0] rfl (by (try simp only [List.map_toArray, List.map_cons, List.map_nil]); first | done | rfl | (simp only [List.length_drop, List.length_take]; rfl)) ?_; (with_reducible refine (word_isInc.calls a0 true _ A3.out).mono ?_); rintro e w' ⟨rfl, ⟨nd, rfl⟩⟩; refine ⟨_, rfl, ?_⟩) | ((with_reducible refine gate_callee (f := 51) rfl ?_); refine goesL_ (some 12) rfl rfl Try.func51 (by kernel_rfl) rfl #[.int .i64 a1, .int .i64 0, .int .i64 4294967295] rfl (by (try simp only [List.map_toArray, List.map_cons, List.map_nil]); first | done | rfl | (simp only [List.length_drop, List.length_take]; rfl)) ?_; (with_reducible refine (word_within_int.calls a1 0 4294967295 true _ A5.out).mono ?_); rintro e w' ⟨rfl, ⟨nd, rfl⟩⟩; refine ⟨_, rfl, ?_⟩))
      go_ret2
      exact ⟨by first | rfl | (simp; done) | (simp [*]; done), by repeat (first | exact Drawn0.refl _ | apply Drawn0.step)⟩
    · replace c6 := Bool.eq_false_iff.mpr c6
      subst c6
      have H1 : (some (0, 1)) = some (r1, r2) := by rw [if_neg (show ¬ (false = true) by decide)] at H; exact H
      clear H
      have H := H1
      clear H1
      simp only [Option.some.injEq, Prod.mk.injEq] at H
      obtain ⟨rfl, rfl⟩ := H
      go_enter Try.func30, Try.ntmps30
      go_wp2_with (first | ((with_reducible refine gate_callee (f := 54) rfl ?_); refine goesL_ (some 8) rfl rfl Try.func54 (by kernel_rfl) rfl #[.int .i64 a0] rfl (by (try simp only [List.map_toArray, List.map_cons, List.map_nil]); first | done | rfl | (simp only [List.length_drop, List.length_take]; rfl)) ?_; (with_reducible refine (word_isInc.calls a0 true _ A3.out).mono ?_); rintro e w' ⟨rfl, ⟨nd, rfl⟩⟩; refine ⟨_, rfl, ?_⟩) | ((with_reducible refine gate_callee (f := 51) rfl ?_); refine goesL_ (some 12) rfl rfl Try.func51 (by kernel_rfl) rfl #[.int .i64 a1, .int .i64 0, .int .i64 4294967295] rfl (by (try simp only [List.map_toArray, List.map_cons, List.map_nil]); first | done | rfl | (simp only [List.length_drop, List.length_take]; rfl)) ?_; (with_reducible refine (word_within_int.calls a1 0 4294967295 false _ A5.out).mono ?_); rintro e w' ⟨rfl, ⟨nd, rfl⟩⟩; refine ⟨_, rfl, ?_⟩))
      go_ret2
      exact ⟨by first | rfl | (simp; done) | (simp [*]; done), by repeat (first | exact Drawn0.refl _ | apply Drawn0.step)⟩
  · replace c4 := Bool.eq_false_iff.mpr c4
    subst c4
    have H1 : (some (0, 2)) = some (r1, r2) := by rw [if_neg (show ¬ (false = true) by decide)] at H; exact H
    clear H
    have H := H1
    clear H1
    simp only [Option.some.injEq, Prod.mk.injEq] at H
    obtain ⟨rfl, rfl⟩ := H
    go_enter Try.func30, Try.ntmps30
    go_wp2_with (first | ((with_reducible refine gate_callee (f := 54) rfl ?_); refine goesL_ (some 8) rfl rfl Try.func54 (by kernel_rfl) rfl #[.int .i64 a0] rfl (by (try simp only [List.map_toArray, List.map_cons, List.map_nil]); first | done | rfl | (simp only [List.length_drop, List.length_take]; rfl)) ?_; (with_reducible refine (word_isInc.calls a0 false _ A3.out).mono ?_); rintro e w' ⟨rfl, ⟨nd, rfl⟩⟩; refine ⟨_, rfl, ?_⟩))
    go_ret2
    exact ⟨by first | rfl | (simp; done) | (simp [*]; done), by repeat (first | exact Drawn0.refl _ | apply Drawn0.step)⟩

/-! ### bodegaref1_Lease: function 31 -/
def bodegaref1_Lease.f (a0 : Int) (a1 : Int) : Option (Int × Int) := (bodegaref1_Inc.f a0).bind fun t134 => (if t134 = true then (if a1 < 0 then (some (0, 1)) else (if a1 > 4294967295 then (some (0, 1)) else (some (Go.bits .or .u64 (IntKind.u64.wrap ((IntKind.u64.wrap (a0)) * 4294967296)) (IntKind.u64.wrap (a1)), 0)))) else (some (0, 2)))
set_option maxHeartbeats 8000000 in
set_option maxRecDepth 100000 in
theorem bodegaref1_Lease.calls (a0 : Int) (a1 : Int) (r1 : Int) (r2 : Int) (w : World) (h : bodegaref1_Lease.f a0 a1 = some (r1, r2)) :
    Calls Try.prog 31 #[.int .i64 a0, .int .i64 a1] w fun e w' => e = .returned (.tuple #[.int .u64 r1, .int .i64 r2]) ∧ Drawn0 w w' := by
  have H : ((bodegaref1_Inc.f a0).bind fun t134 => (if t134 = true then (if a1 < 0 then (some (0, 1)) else (if a1 > 4294967295 then (some (0, 1)) else (some (Go.bits .or .u64 (IntKind.u64.wrap ((IntKind.u64.wrap (a0)) * 4294967296)) (IntKind.u64.wrap (a1)), 0)))) else (some (0, 2)))) = some (r1, r2) := h
  clear h
  replace H := Option.bind_eq_some_iff.mp H
  obtain ⟨t134, A30, H⟩ := H
  replace H : (if t134 = true then (if a1 < 0 then (some (0, 1)) else (if a1 > 4294967295 then (some (0, 1)) else (some (Go.bits .or .u64 (IntKind.u64.wrap ((IntKind.u64.wrap (a0)) * 4294967296)) (IntKind.u64.wrap (a1)), 0)))) else (some (0, 2))) = some (r1, r2) := H
  have A3 := Aside0.mk A30
  clear A30
  by_cases c4 : t134 = true
  · subst c4
    have H1 : (if a1 < 0 then (some (0, 1)) else (if a1 > 4294967295 then (some (0, 1)) else (some (Go.bits .or .u64 (IntKind.u64.wrap ((IntKind.u64.wrap (a0)) * 4294967296)) (IntKind.u64.wrap (a1)), 0)))) = some (r1, r2) := by rw [if_pos rfl] at H; exact H
    clear H
    have H := H1
    clear H1
    by_cases c5 : a1 < 0
    · rw [if_pos c5] at H
      have c5b0 : decide (a1 < 0) = true := decide_eq_true c5
      clear c5
      simp only [Option.some.injEq, Prod.mk.injEq] at H
      obtain ⟨rfl, rfl⟩ := H
      go_enter Try.func31, Try.ntmps31
      go_wp2_with (first | ((with_reducible refine gate_callee (f := 55) rfl ?_); refine goesL_ (some 7) rfl rfl Try.func55 (by kernel_rfl) rfl #[.int .i64 a0] rfl (by (try simp only [List.map_toArray, List.map_cons, List.map_nil]); first | done | rfl | (simp only [List.length_drop, List.length_take]; rfl)) ?_; (with_reducible refine (bodegaref1_Inc.calls a0 true _ A3.out).mono ?_); rintro e w' ⟨rfl, ⟨nd, rfl⟩⟩; refine ⟨_, rfl, ?_⟩))
      go_ret2
      exact ⟨by first | rfl | (simp; done) | (simp [*]; done), by repeat (first | exact Drawn0.refl _ | apply Drawn0.step)⟩
    · rw [if_neg c5] at H
      have c5b0 : decide (a1 < 0) = false := decide_eq_false c5
      clear c5
      by_cases c6 : a1 > 4294967295
      · rw [if_pos c6] at H
        have c6b0 : decide (4294967295 < a1) = true := decide_eq_true c6
        clear c6
        simp only [Option.some.injEq, Prod.mk.injEq] at H
        obtain ⟨rfl, rfl⟩ := H
        go_enter Try.func31, Try.ntmps31
        go_wp2_with (first | ((with_reducible refine gate_callee (f := 55) rfl ?_); refine goesL_ (some 7) rfl rfl Try.func55 (by kernel_rfl) rfl #[.int .i64 a0] rfl (by (try simp only [List.map_toArray, List.map_cons, List.map_nil]); first | done | rfl | (simp only [List.length_drop, List.length_take]; rfl)) ?_; (with_reducible refine (bodegaref1_Inc.calls a0 true _ A3.out).mono ?_); rintro e w' ⟨rfl, ⟨nd, rfl⟩⟩; refine ⟨_, rfl, ?_⟩))
        go_ret2
        exact ⟨by first | rfl | (simp; done) | (simp [*]; done), by repeat (first | exact Drawn0.refl _ | apply Drawn0.step)⟩
      · rw [if_neg c6] at H
        have c6b0 : decide (4294967295 < a1) = false := decide_eq_false c6
        clear c6
        simp only [Option.some.injEq, Prod.mk.injEq] at H
        obtain ⟨rfl, rfl⟩ := H
        go_enter Try.func31, Try.ntmps31
        go_wp2_with (first | ((with_reducible refine gate_callee (f := 55) rfl ?_); refine goesL_ (some 7) rfl rfl Try.func55 (by kernel_rfl) rfl #[.int .i64 a0] rfl (by (try simp only [List.map_toArray, List.map_cons, List.map_nil]); first | done | rfl | (simp only [List.length_drop, List.length_take]; rfl)) ?_; (with_reducible refine (bodegaref1_Inc.calls a0 true _ A3.out).mono ?_); rintro e w' ⟨rfl, ⟨nd, rfl⟩⟩; refine ⟨_, rfl, ?_⟩))
        go_ret2
        exact ⟨by first | rfl | (simp; done) | (simp [*]; done), by repeat (first | exact Drawn0.refl _ | apply Drawn0.step)⟩
  · replace c4 := Bool.eq_false_iff.mpr c4
    subst c4
    have H1 : (some (0, 2)) = some (r1, r2) := by rw [if_neg (show ¬ (false = true) by decide)] at H; exact H
    clear H
    have H := H1
    clear H1
    simp only [Option.some.injEq, Prod.mk.injEq] at H
    obtain ⟨rfl, rfl⟩ := H
    go_enter Try.func31, Try.ntmps31
    go_wp2_with (first | ((with_reducible refine gate_callee (f := 55) rfl ?_); refine goesL_ (some 7) rfl rfl Try.func55 (by kernel_rfl) rfl #[.int .i64 a0] rfl (by (try simp only [List.map_toArray, List.map_cons, List.map_nil]); first | done | rfl | (simp only [List.length_drop, List.length_take]; rfl)) ?_; (with_reducible refine (bodegaref1_Inc.calls a0 false _ A3.out).mono ?_); rintro e w' ⟨rfl, ⟨nd, rfl⟩⟩; refine ⟨_, rfl, ?_⟩))
    go_ret2
    exact ⟨by first | rfl | (simp; done) | (simp [*]; done), by repeat (first | exact Drawn0.refl _ | apply Drawn0.step)⟩

/-! ### bodegaref1_Ballot: function 32 -/
def bodegaref1_Ballot.j0 : Nat → Int → Int → Bool → Option (Int × Int)
  | 0, _, _, _ => none
  | k + 1, x0, x1, x11 => if x11 = true then (some (0, 2)) else ((bodegaref1_Client.f x1).bind fun t135 => (if t135 = true then (some (IntKind.u64.wrap (wrap64 ((wrap64 ((wrap64 (x0 * 8)) + x1)) + 1)), 0)) else (some (0, 1))))
def bodegaref1_Ballot.f (k : Nat) (a0 : Int) (a1 : Int) : Option (Int × Int) := if a0 < 1 then (bodegaref1_Ballot.j0 k a0 a1 true) else (bodegaref1_Ballot.j0 k a0 a1 (decide (a0 > 500)))
theorem bodegaref1_Ballot.mono_l : ∀ k, (∀ y0 y1 y2, LeO (bodegaref1_Ballot.j0 k y0 y1 y2) (bodegaref1_Ballot.j0 (k + 1) y0 y1 y2))
  | 0 => fun _ _ _ r h => by simp [bodegaref1_Ballot.j0] at h
  | k + 1 => by
    have ih0 := bodegaref1_Ballot.mono_l k
    · intro y0 y1 y2
      unfold bodegaref1_Ballot.j0
      repeat' first
      | (with_reducible exact ih0 _ _ _)
      | (with_reducible exact LeO.refl _)
      | (with_reducible exact LeO.none _)
      | (with_reducible refine LeO.ite ?_ ?_)
      | (with_reducible refine LeO.bind ?_ (fun _ => ?_))
      | exact ih0 _ _ _
      | exact LeO.none _
      | refine LeO.ite ?_ ?_
      | refine LeO.bind ?_ (fun _ => ?_)
theorem bodegaref1_Ballot.mono : ∀ a0 a1 k, LeO (bodegaref1_Ballot.f k a0 a1) (bodegaref1_Ballot.f (k + 1) a0 a1) := by
  intro a0 a1 k
  have ih0 := bodegaref1_Ballot.mono_l k
  unfold bodegaref1_Ballot.f
  repeat' first
      | (with_reducible exact ih0 _ _ _)
      | (with_reducible exact LeO.refl _)
      | (with_reducible exact LeO.none _)
      | (with_reducible refine LeO.ite ?_ ?_)
      | (with_reducible refine LeO.bind ?_ (fun _ => ?_))
      | exact ih0 _ _ _
      | exact LeO.none _
      | refine LeO.ite ?_ ?_
      | refine LeO.bind ?_ (fun _ => ?_)
set_option maxHeartbeats 8000000 in
set_option maxRecDepth 100000 in
theorem bodegaref1_Ballot.calls (k : Nat) (a0 : Int) (a1 : Int) (r1 : Int) (r2 : Int) (w : World) (h : bodegaref1_Ballot.f k a0 a1 = some (r1, r2)) :
    Calls Try.prog 32 #[.int .i64 a0, .int .i64 a1] w fun e w' => e = .returned (.tuple #[.int .u64 r1, .int .i64 r2]) ∧ Drawn0 w w' := by
  have H : (if a0 < 1 then (bodegaref1_Ballot.j0 k a0 a1 true) else (bodegaref1_Ballot.j0 k a0 a1 (decide (a0 > 500)))) = some (r1, r2) := h
  clear h
  have HC3 := Aside0.mk H
  clear H
  go_enter Try.func32, Try.ntmps32
  go_upto_region 1 with (fail)
  go_cut [11] (fun v11 wc => ∃ (kq : Nat) (x11_2 : Bool), v11 = .bool x11_2 ∧ Aside0 (bodegaref1_Ballot.j0 kq a0 a1 x11_2 = some (r1, r2)) ∧ Aside0 (kq ≤ k) ∧ Drawn0 w wc)
  case first =>
    have H := HC3.out
    clear HC3
    by_cases c4 : a0 < 1
    · rw [if_pos c4] at H
      have c4b0 : decide (a0 < 1) = true := decide_eq_true c4
      clear c4
      (first | rw [c4b0] | (simp only [i64_w, i32_w]; rw [c4b0]) | skip)
      have H' := Aside0.mk H
      clear H
      go_wp2
      go_meet
      case rel => exact ⟨_, (true), (by first | rfl | (simp; done) | (simp [*]; done)), H', ⟨by first | omega | exact Nat.le_refl _⟩, by repeat (first | exact Drawn0.refl _ | apply Drawn0.step)⟩
    · rw [if_neg c4] at H
      have c4b0 : decide (a0 < 1) = false := decide_eq_false c4
      clear c4
      (first | rw [c4b0] | (simp only [i64_w, i32_w]; rw [c4b0]) | skip)
      have H' := Aside0.mk H
      clear H
      go_wp2
      go_meet
      case rel => exact ⟨_, (decide (a0 > 500)), (by first | rfl | (simp; done) | (simp [*]; done)), H', ⟨by first | omega | exact Nat.le_refl _⟩, by repeat (first | exact Drawn0.refl _ | apply Drawn0.step)⟩
  case rest =>
    clear HC3
    try clear p2
    try clear c3
    try clear c4
    try clear c4b0
    obtain ⟨kq, x11_2, rfl, HA, HJ2, ⟨mc2, rfl⟩⟩ := hcut
    cases kq with
    | zero => exact absurd HA.out (by simp [bodegaref1_Ballot.j0])
    | succ kj2 =>
      have H := HA.out
      clear HA
      simp only [bodegaref1_Ballot.j0] at H
      by_cases c5 : x11_2 = true
      · subst c5
        have H1 : (some (0, 2)) = some (r1, r2) := by rw [if_pos rfl] at H; exact H
        clear H
        have H := H1
        clear H1
        simp only [Option.some.injEq, Prod.mk.injEq] at H
        obtain ⟨rfl, rfl⟩ := H
        go_wp2
        go_ret2
        exact ⟨by first | rfl | (simp; done) | (simp [*]; done), by repeat (first | exact Drawn0.refl _ | apply Drawn0.step)⟩
      · replace c5 := Bool.eq_false_iff.mpr c5
        subst c5
        have H1 : ((bodegaref1_Client.f a1).bind fun t135 => (if t135 = true then (some (IntKind.u64.wrap (wrap64 ((wrap64 ((wrap64 (a0 * 8)) + a1)) + 1)), 0)) else (some (0, 1)))) = some (r1, r2) := by rw [if_neg (show ¬ (false = true) by decide)] at H; exact H
        clear H
        have H := H1
        clear H1
        replace H := Option.bind_eq_some_iff.mp H
        obtain ⟨t135, A60, H⟩ := H
        replace H : (if t135 = true then (some (IntKind.u64.wrap (wrap64 ((wrap64 ((wrap64 (a0 * 8)) + a1)) + 1)), 0)) else (some (0, 1))) = some (r1, r2) := H
        have A6 := Aside0.mk A60
        clear A60
        by_cases c7 : t135 = true
        · subst c7
          have H1 : (some (IntKind.u64.wrap (wrap64 ((wrap64 ((wrap64 (a0 * 8)) + a1)) + 1)), 0)) = some (r1, r2) := by rw [if_pos rfl] at H; exact H
          clear H
          have H := H1
          clear H1
          simp only [Option.some.injEq, Prod.mk.injEq] at H
          obtain ⟨rfl, rfl⟩ := H
          go_wp2_with (first | ((with_reducible refine gate_callee (f := 53) rfl ?_); refine goesL_ (some 13) rfl rfl Try.func53 (by kernel_rfl) rfl #[.int .i64 a1] rfl (by (try simp only [List.map_toArray, List.map_cons, List.map_nil]); first | done | rfl | (simp only [List.length_drop, List.length_take]; rfl)) ?_; (with_reducible refine (bodegaref1_Client.calls a1 true _ A6.out).mono ?_); rintro e w' ⟨rfl, ⟨nd, rfl⟩⟩; refine ⟨_, rfl, ?_⟩))
          go_ret2
          exact ⟨by first | rfl | (simp; done) | (simp [*]; done), by repeat (first | exact Drawn0.refl _ | apply Drawn0.step)⟩
        · replace c7 := Bool.eq_false_iff.mpr c7
          subst c7
          have H1 : (some (0, 1)) = some (r1, r2) := by rw [if_neg (show ¬ (false = true) by decide)] at H; exact H
          clear H
          have H := H1
          clear H1
          simp only [Option.some.injEq, Prod.mk.injEq] at H
          obtain ⟨rfl, rfl⟩ := H
          go_wp2_with (first | ((with_reducible refine gate_callee (f := 53) rfl ?_); refine goesL_ (some 13) rfl rfl Try.func53 (by kernel_rfl) rfl #[.int .i64 a1] rfl (by (try simp only [List.map_toArray, List.map_cons, List.map_nil]); first | done | rfl | (simp only [List.length_drop, List.length_take]; rfl)) ?_; (with_reducible refine (bodegaref1_Client.calls a1 false _ A6.out).mono ?_); rintro e w' ⟨rfl, ⟨nd, rfl⟩⟩; refine ⟨_, rfl, ?_⟩))
          go_ret2
          exact ⟨by first | rfl | (simp; done) | (simp [*]; done), by repeat (first | exact Drawn0.refl _ | apply Drawn0.step)⟩

/-! ### word_Consensus: function 33 -/
def word_Consensus.f (a0 : Int) (a1 : Int) (a2 : Int) : Option (Int × Int) := if a0 ≥ 4096 then (some (0, 2)) else (if a1 ≥ 4096 then (some (0, 2)) else (if a2 ≥ 1099511627776 then (some (0, 2)) else (some (Go.bits .or .u64 (Go.bits .or .u64 (IntKind.u64.wrap (a0 * 4503599627370496)) (IntKind.u64.wrap (a1 * 1099511627776))) a2, 0))))
set_option maxHeartbeats 8000000 in
set_option maxRecDepth 100000 in
theorem word_Consensus.calls (a0 : Int) (a1 : Int) (a2 : Int) (r1 : Int) (r2 : Int) (w : World) (h : word_Consensus.f a0 a1 a2 = some (r1, r2)) :
    Calls Try.prog 33 #[.int .u64 a0, .int .u64 a1, .int .u64 a2] w fun e w' => e = .returned (.tuple #[.int .u64 r1, .int .i64 r2]) ∧ Drawn0 w w' := by
  have H : (if a0 ≥ 4096 then (some (0, 2)) else (if a1 ≥ 4096 then (some (0, 2)) else (if a2 ≥ 1099511627776 then (some (0, 2)) else (some (Go.bits .or .u64 (Go.bits .or .u64 (IntKind.u64.wrap (a0 * 4503599627370496)) (IntKind.u64.wrap (a1 * 1099511627776))) a2, 0))))) = some (r1, r2) := h
  clear h
  by_cases c4 : a0 ≥ 4096
  · rw [if_pos c4] at H
    have c4b0 : decide (4096 ≤ a0) = true := decide_eq_true c4
    clear c4
    simp only [Option.some.injEq, Prod.mk.injEq] at H
    obtain ⟨rfl, rfl⟩ := H
    go_enter Try.func33, Try.ntmps33
    go_wp2
    go_ret2
    exact ⟨by first | rfl | (simp; done) | (simp [*]; done), by repeat (first | exact Drawn0.refl _ | apply Drawn0.step)⟩
  · rw [if_neg c4] at H
    have c4b0 : decide (4096 ≤ a0) = false := decide_eq_false c4
    clear c4
    by_cases c5 : a1 ≥ 4096
    · rw [if_pos c5] at H
      have c5b0 : decide (4096 ≤ a1) = true := decide_eq_true c5
      clear c5
      simp only [Option.some.injEq, Prod.mk.injEq] at H
      obtain ⟨rfl, rfl⟩ := H
      go_enter Try.func33, Try.ntmps33
      go_wp2
      go_ret2
      exact ⟨by first | rfl | (simp; done) | (simp [*]; done), by repeat (first | exact Drawn0.refl _ | apply Drawn0.step)⟩
    · rw [if_neg c5] at H
      have c5b0 : decide (4096 ≤ a1) = false := decide_eq_false c5
      clear c5
      by_cases c6 : a2 ≥ 1099511627776
      · rw [if_pos c6] at H
        have c6b0 : decide (1099511627776 ≤ a2) = true := decide_eq_true c6
        clear c6
        simp only [Option.some.injEq, Prod.mk.injEq] at H
        obtain ⟨rfl, rfl⟩ := H
        go_enter Try.func33, Try.ntmps33
        go_wp2
        go_ret2
        exact ⟨by first | rfl | (simp; done) | (simp [*]; done), by repeat (first | exact Drawn0.refl _ | apply Drawn0.step)⟩
      · rw [if_neg c6] at H
        have c6b0 : decide (1099511627776 ≤ a2) = false := decide_eq_false c6
        clear c6
        simp only [Option.some.injEq, Prod.mk.injEq] at H
        obtain ⟨rfl, rfl⟩ := H
        go_enter Try.func33, Try.ntmps33
        go_wp2
        go_ret2
        exact ⟨by first | rfl | (simp; done) | (simp [*]; done), by repeat (first | exact Drawn0.refl _ | apply Drawn0.step)⟩

/-! ### bodegaref1_Consensus: function 34 -/
def bodegaref1_Consensus.f (a0 : Int) (a1 : Int) (a2 : Int) : Option (Int × Int) := if a0 ≥ 4096 then (some (0, 2)) else (if a1 ≥ 4096 then (some (0, 2)) else (if a2 ≥ 1099511627776 then (some (0, 2)) else (some (Go.bits .or .u64 (Go.bits .or .u64 (IntKind.u64.wrap (a0 * 4503599627370496)) (IntKind.u64.wrap (a1 * 1099511627776))) a2, 0))))
set_option maxHeartbeats 8000000 in
set_option maxRecDepth 100000 in
theorem bodegaref1_Consensus.calls (a0 : Int) (a1 : Int) (a2 : Int) (r1 : Int) (r2 : Int) (w : World) (h : bodegaref1_Consensus.f a0 a1 a2 = some (r1, r2)) :
    Calls Try.prog 34 #[.int .u64 a0, .int .u64 a1, .int .u64 a2] w fun e w' => e = .returned (.tuple #[.int .u64 r1, .int .i64 r2]) ∧ Drawn0 w w' := by
  have H : (if a0 ≥ 4096 then (some (0, 2)) else (if a1 ≥ 4096 then (some (0, 2)) else (if a2 ≥ 1099511627776 then (some (0, 2)) else (some (Go.bits .or .u64 (Go.bits .or .u64 (IntKind.u64.wrap (a0 * 4503599627370496)) (IntKind.u64.wrap (a1 * 1099511627776))) a2, 0))))) = some (r1, r2) := h
  clear h
  by_cases c4 : a0 ≥ 4096
  · rw [if_pos c4] at H
    have c4b0 : decide (4096 ≤ a0) = true := decide_eq_true c4
    clear c4
    simp only [Option.some.injEq, Prod.mk.injEq] at H
    obtain ⟨rfl, rfl⟩ := H
    go_enter Try.func34, Try.ntmps34
    go_wp2
    go_ret2
    exact ⟨by first | rfl | (simp; done) | (simp [*]; done), by repeat (first | exact Drawn0.refl _ | apply Drawn0.step)⟩
  · rw [if_neg c4] at H
    have c4b0 : decide (4096 ≤ a0) = false := decide_eq_false c4
    clear c4
    by_cases c5 : a1 ≥ 4096
    · rw [if_pos c5] at H
      have c5b0 : decide (4096 ≤ a1) = true := decide_eq_true c5
      clear c5
      simp only [Option.some.injEq, Prod.mk.injEq] at H
      obtain ⟨rfl, rfl⟩ := H
      go_enter Try.func34, Try.ntmps34
      go_wp2
      go_ret2
      exact ⟨by first | rfl | (simp; done) | (simp [*]; done), by repeat (first | exact Drawn0.refl _ | apply Drawn0.step)⟩
    · rw [if_neg c5] at H
      have c5b0 : decide (4096 ≤ a1) = false := decide_eq_false c5
      clear c5
      by_cases c6 : a2 ≥ 1099511627776
      · rw [if_pos c6] at H
        have c6b0 : decide (1099511627776 ≤ a2) = true := decide_eq_true c6
        clear c6
        simp only [Option.some.injEq, Prod.mk.injEq] at H
        obtain ⟨rfl, rfl⟩ := H
        go_enter Try.func34, Try.ntmps34
        go_wp2
        go_ret2
        exact ⟨by first | rfl | (simp; done) | (simp [*]; done), by repeat (first | exact Drawn0.refl _ | apply Drawn0.step)⟩
      · rw [if_neg c6] at H
        have c6b0 : decide (1099511627776 ≤ a2) = false := decide_eq_false c6
        clear c6
        simp only [Option.some.injEq, Prod.mk.injEq] at H
        obtain ⟨rfl, rfl⟩ := H
        go_enter Try.func34, Try.ntmps34
        go_wp2
        go_ret2
        exact ⟨by first | rfl | (simp; done) | (simp [*]; done), by repeat (first | exact Drawn0.refl _ | apply Drawn0.step)⟩

/-! ### bodegalaw1_WordPacks: function 6 -/
def bodegalaw1_WordPacks.j0 : Nat → Int → Int → Int → Int → Int → Int → Int → Bool → Option (Bool)
  | 0, _, _, _, _, _, _, _, _ => none
  | k + 1, x3, x4, x5, x6, x7, x8, x9, x98 => if x98 = true then (some false) else ((word_Lease.f x3 x5).bind fun bt149 => ((bodegaref1_Lease.f x3 x5).bind fun bt151 => ((word_Ballot.f x6 x4).bind fun bt153 => ((bodegaref1_Ballot.f k x6 x4).bind fun bt155 => ((word_Consensus.f x7 x8 x9).bind fun bt157 => ((bodegaref1_Consensus.f x7 x8 x9).bind fun bt159 => (if bt149.1 = bt151.1 then (if bt149.2 = bt151.2 then (if bt153.1 = bt155.1 then (if bt153.2 = bt155.2 then (if bt157.1 = bt159.1 then (some (bt157.2 == bt159.2)) else (some false)) else (some false)) else (some false)) else (some false)) else (some false))))))))
def bodegalaw1_WordPacks.f (k : Nat) (a0 : Int) (a1 : Bool) (a2 : Int) (a3 : Int) (a4 : Int) (a5 : Int) (a6 : Int) (a7 : Int) (a8 : Int) (a9 : Int) : Option (Bool) := (word_Key.f a0 a1).bind fun bt136 => ((bodegaref1_Key.f k a0 a1).bind fun bt138 => ((word_Mark.f a2).bind fun bt140 => ((bodegaref1_Mark.f a2).bind fun bt142 => ((word_Tag.f a3 a4).bind fun bt144 => ((bodegaref1_Tag.f a3 a4).bind fun bt146 => ((bodegalaw1_awake.f).bind fun t148 => (if t148 = true then (if bt136.1 = bt138.1 then (if bt136.2 = bt138.2 then (if bt140.1 = bt142.1 then (if bt140.2 = bt142.2 then (if bt144.1 = bt146.1 then (bodegalaw1_WordPacks.j0 k a3 a4 a5 a6 a7 a8 a9 (bt144.2 != bt146.2)) else (bodegalaw1_WordPacks.j0 k a3 a4 a5 a6 a7 a8 a9 true)) else (bodegalaw1_WordPacks.j0 k a3 a4 a5 a6 a7 a8 a9 true)) else (bodegalaw1_WordPacks.j0 k a3 a4 a5 a6 a7 a8 a9 true)) else (bodegalaw1_WordPacks.j0 k a3 a4 a5 a6 a7 a8 a9 true)) else (bodegalaw1_WordPacks.j0 k a3 a4 a5 a6 a7 a8 a9 true)) else (bodegalaw1_WordPacks.j0 k a3 a4 a5 a6 a7 a8 a9 true))))))))
theorem bodegalaw1_WordPacks.mono_l : ∀ k, (∀ y0 y1 y2 y3 y4 y5 y6 y7, LeO (bodegalaw1_WordPacks.j0 k y0 y1 y2 y3 y4 y5 y6 y7) (bodegalaw1_WordPacks.j0 (k + 1) y0 y1 y2 y3 y4 y5 y6 y7))
  | 0 => fun _ _ _ _ _ _ _ _ r h => by simp [bodegalaw1_WordPacks.j0] at h
  | k + 1 => by
    have ih0 := bodegalaw1_WordPacks.mono_l k
    · intro y0 y1 y2 y3 y4 y5 y6 y7
      unfold bodegalaw1_WordPacks.j0
      repeat' first
      | (with_reducible exact ih0 _ _ _ _ _ _ _ _)
      | (with_reducible exact bodegaref1_Ballot.mono _ _ _)
      | (with_reducible exact bodegaref1_Key.mono _ _ _)
      | (with_reducible exact LeO.refl _)
      | (with_reducible exact LeO.none _)
      | (with_reducible refine LeO.ite ?_ ?_)
      | (with_reducible refine LeO.bind ?_ (fun _ => ?_))
      | exact ih0 _ _ _ _ _ _ _ _
      | exact bodegaref1_Ballot.mono _ _ _
      | exact bodegaref1_Key.mono _ _ _
      | exact LeO.none _
      | refine LeO.ite ?_ ?_
      | refine LeO.bind ?_ (fun _ => ?_)
theorem bodegalaw1_WordPacks.mono : ∀ a0 a1 a2 a3 a4 a5 a6 a7 a8 a9 k, LeO (bodegalaw1_WordPacks.f k a0 a1 a2 a3 a4 a5 a6 a7 a8 a9) (bodegalaw1_WordPacks.f (k + 1) a0 a1 a2 a3 a4 a5 a6 a7 a8 a9) := by
  intro a0 a1 a2 a3 a4 a5 a6 a7 a8 a9 k
  have ih0 := bodegalaw1_WordPacks.mono_l k
  unfold bodegalaw1_WordPacks.f
  repeat' first
      | (with_reducible exact ih0 _ _ _ _ _ _ _ _)
      | (with_reducible exact bodegaref1_Ballot.mono _ _ _)
      | (with_reducible exact bodegaref1_Key.mono _ _ _)
      | (with_reducible exact LeO.refl _)
      | (with_reducible exact LeO.none _)
      | (with_reducible refine LeO.ite ?_ ?_)
      | (with_reducible refine LeO.bind ?_ (fun _ => ?_))
      | exact ih0 _ _ _ _ _ _ _ _
      | exact bodegaref1_Ballot.mono _ _ _
      | exact bodegaref1_Key.mono _ _ _
      | exact LeO.none _
      | refine LeO.ite ?_ ?_
      | refine LeO.bind ?_ (fun _ => ?_)
set_option maxHeartbeats 8000000 in
set_option maxRecDepth 100000 in
theorem bodegalaw1_WordPacks.calls (k : Nat) (a0 : Int) (a1 : Bool) (a2 : Int) (a3 : Int) (a4 : Int) (a5 : Int) (a6 : Int) (a7 : Int) (a8 : Int) (a9 : Int) (r : Bool) (w : World) (h : bodegalaw1_WordPacks.f k a0 a1 a2 a3 a4 a5 a6 a7 a8 a9 = some r) :
    Calls Try.prog 6 #[.int .i64 a0, .bool a1, .int .i64 a2, .int .i64 a3, .int .i64 a4, .int .i64 a5, .int .i64 a6, .int .u64 a7, .int .u64 a8, .int .u64 a9] w fun e w' => e = .returned (.bool r) ∧ Drawn0 w w' := by
  have H : ((word_Key.f a0 a1).bind fun bt136 => ((bodegaref1_Key.f k a0 a1).bind fun bt138 => ((word_Mark.f a2).bind fun bt140 => ((bodegaref1_Mark.f a2).bind fun bt142 => ((word_Tag.f a3 a4).bind fun bt144 => ((bodegaref1_Tag.f a3 a4).bind fun bt146 => ((bodegalaw1_awake.f).bind fun t148 => (if t148 = true then (if bt136.1 = bt138.1 then (if bt136.2 = bt138.2 then (if bt140.1 = bt142.1 then (if bt140.2 = bt142.2 then (if bt144.1 = bt146.1 then (bodegalaw1_WordPacks.j0 k a3 a4 a5 a6 a7 a8 a9 (bt144.2 != bt146.2)) else (bodegalaw1_WordPacks.j0 k a3 a4 a5 a6 a7 a8 a9 true)) else (bodegalaw1_WordPacks.j0 k a3 a4 a5 a6 a7 a8 a9 true)) else (bodegalaw1_WordPacks.j0 k a3 a4 a5 a6 a7 a8 a9 true)) else (bodegalaw1_WordPacks.j0 k a3 a4 a5 a6 a7 a8 a9 true)) else (bodegalaw1_WordPacks.j0 k a3 a4 a5 a6 a7 a8 a9 true)) else (bodegalaw1_WordPacks.j0 k a3 a4 a5 a6 a7 a8 a9 true))))))))) = some r := h
  clear h
  replace H := Option.bind_eq_some_iff.mp H
  obtain ⟨⟨t136, t137⟩, A110, H⟩ := H
  replace H : ((bodegaref1_Key.f k a0 a1).bind fun bt138 => ((word_Mark.f a2).bind fun bt140 => ((bodegaref1_Mark.f a2).bind fun bt142 => ((word_Tag.f a3 a4).bind fun bt144 => ((bodegaref1_Tag.f a3 a4).bind fun bt146 => ((bodegalaw1_awake.f).bind fun t148 => (if t148 = true then (if t136 = bt138.1 then (if t137 = bt138.2 then (if bt140.1 = bt142.1 then (if bt140.2 = bt142.2 then (if bt144.1 = bt146.1 then (bodegalaw1_WordPacks.j0 k a3 a4 a5 a6 a7 a8 a9 (bt144.2 != bt146.2)) else (bodegalaw1_WordPacks.j0 k a3 a4 a5 a6 a7 a8 a9 true)) else (bodegalaw1_WordPacks.j0 k a3 a4 a5 a6 a7 a8 a9 true)) else (bodegalaw1_WordPacks.j0 k a3 a4 a5 a6 a7 a8 a9 true)) else (bodegalaw1_WordPacks.j0 k a3 a4 a5 a6 a7 a8 a9 true)) else (bodegalaw1_WordPacks.j0 k a3 a4 a5 a6 a7 a8 a9 true)) else (bodegalaw1_WordPacks.j0 k a3 a4 a5 a6 a7 a8 a9 true)))))))) = some r := H
  have A11 := Aside0.mk A110
  clear A110
  replace H := Option.bind_eq_some_iff.mp H
  obtain ⟨⟨t138, t139⟩, A120, H⟩ := H
  replace H : ((word_Mark.f a2).bind fun bt140 => ((bodegaref1_Mark.f a2).bind fun bt142 => ((word_Tag.f a3 a4).bind fun bt144 => ((bodegaref1_Tag.f a3 a4).bind fun bt146 => ((bodegalaw1_awake.f).bind fun t148 => (if t148 = true then (if t136 = t138 then (if t137 = t139 then (if bt140.1 = bt142.1 then (if bt140.2 = bt142.2 then (if bt144.1 = bt146.1 then (bodegalaw1_WordPacks.j0 k a3 a4 a5 a6 a7 a8 a9 (bt144.2 != bt146.2)) else (bodegalaw1_WordPacks.j0 k a3 a4 a5 a6 a7 a8 a9 true)) else (bodegalaw1_WordPacks.j0 k a3 a4 a5 a6 a7 a8 a9 true)) else (bodegalaw1_WordPacks.j0 k a3 a4 a5 a6 a7 a8 a9 true)) else (bodegalaw1_WordPacks.j0 k a3 a4 a5 a6 a7 a8 a9 true)) else (bodegalaw1_WordPacks.j0 k a3 a4 a5 a6 a7 a8 a9 true)) else (bodegalaw1_WordPacks.j0 k a3 a4 a5 a6 a7 a8 a9 true))))))) = some r := H
  have A12 := Aside0.mk A120
  clear A120
  replace H := Option.bind_eq_some_iff.mp H
  obtain ⟨⟨t140, t141⟩, A130, H⟩ := H
  replace H : ((bodegaref1_Mark.f a2).bind fun bt142 => ((word_Tag.f a3 a4).bind fun bt144 => ((bodegaref1_Tag.f a3 a4).bind fun bt146 => ((bodegalaw1_awake.f).bind fun t148 => (if t148 = true then (if t136 = t138 then (if t137 = t139 then (if t140 = bt142.1 then (if t141 = bt142.2 then (if bt144.1 = bt146.1 then (bodegalaw1_WordPacks.j0 k a3 a4 a5 a6 a7 a8 a9 (bt144.2 != bt146.2)) else (bodegalaw1_WordPacks.j0 k a3 a4 a5 a6 a7 a8 a9 true)) else (bodegalaw1_WordPacks.j0 k a3 a4 a5 a6 a7 a8 a9 true)) else (bodegalaw1_WordPacks.j0 k a3 a4 a5 a6 a7 a8 a9 true)) else (bodegalaw1_WordPacks.j0 k a3 a4 a5 a6 a7 a8 a9 true)) else (bodegalaw1_WordPacks.j0 k a3 a4 a5 a6 a7 a8 a9 true)) else (bodegalaw1_WordPacks.j0 k a3 a4 a5 a6 a7 a8 a9 true)))))) = some r := H
  have A13 := Aside0.mk A130
  clear A130
  replace H := Option.bind_eq_some_iff.mp H
  obtain ⟨⟨t142, t143⟩, A140, H⟩ := H
  replace H : ((word_Tag.f a3 a4).bind fun bt144 => ((bodegaref1_Tag.f a3 a4).bind fun bt146 => ((bodegalaw1_awake.f).bind fun t148 => (if t148 = true then (if t136 = t138 then (if t137 = t139 then (if t140 = t142 then (if t141 = t143 then (if bt144.1 = bt146.1 then (bodegalaw1_WordPacks.j0 k a3 a4 a5 a6 a7 a8 a9 (bt144.2 != bt146.2)) else (bodegalaw1_WordPacks.j0 k a3 a4 a5 a6 a7 a8 a9 true)) else (bodegalaw1_WordPacks.j0 k a3 a4 a5 a6 a7 a8 a9 true)) else (bodegalaw1_WordPacks.j0 k a3 a4 a5 a6 a7 a8 a9 true)) else (bodegalaw1_WordPacks.j0 k a3 a4 a5 a6 a7 a8 a9 true)) else (bodegalaw1_WordPacks.j0 k a3 a4 a5 a6 a7 a8 a9 true)) else (bodegalaw1_WordPacks.j0 k a3 a4 a5 a6 a7 a8 a9 true))))) = some r := H
  have A14 := Aside0.mk A140
  clear A140
  replace H := Option.bind_eq_some_iff.mp H
  obtain ⟨⟨t144, t145⟩, A150, H⟩ := H
  replace H : ((bodegaref1_Tag.f a3 a4).bind fun bt146 => ((bodegalaw1_awake.f).bind fun t148 => (if t148 = true then (if t136 = t138 then (if t137 = t139 then (if t140 = t142 then (if t141 = t143 then (if t144 = bt146.1 then (bodegalaw1_WordPacks.j0 k a3 a4 a5 a6 a7 a8 a9 (t145 != bt146.2)) else (bodegalaw1_WordPacks.j0 k a3 a4 a5 a6 a7 a8 a9 true)) else (bodegalaw1_WordPacks.j0 k a3 a4 a5 a6 a7 a8 a9 true)) else (bodegalaw1_WordPacks.j0 k a3 a4 a5 a6 a7 a8 a9 true)) else (bodegalaw1_WordPacks.j0 k a3 a4 a5 a6 a7 a8 a9 true)) else (bodegalaw1_WordPacks.j0 k a3 a4 a5 a6 a7 a8 a9 true)) else (bodegalaw1_WordPacks.j0 k a3 a4 a5 a6 a7 a8 a9 true)))) = some r := H
  have A15 := Aside0.mk A150
  clear A150
  replace H := Option.bind_eq_some_iff.mp H
  obtain ⟨⟨t146, t147⟩, A160, H⟩ := H
  replace H : ((bodegalaw1_awake.f).bind fun t148 => (if t148 = true then (if t136 = t138 then (if t137 = t139 then (if t140 = t142 then (if t141 = t143 then (if t144 = t146 then (bodegalaw1_WordPacks.j0 k a3 a4 a5 a6 a7 a8 a9 (t145 != t147)) else (bodegalaw1_WordPacks.j0 k a3 a4 a5 a6 a7 a8 a9 true)) else (bodegalaw1_WordPacks.j0 k a3 a4 a5 a6 a7 a8 a9 true)) else (bodegalaw1_WordPacks.j0 k a3 a4 a5 a6 a7 a8 a9 true)) else (bodegalaw1_WordPacks.j0 k a3 a4 a5 a6 a7 a8 a9 true)) else (bodegalaw1_WordPacks.j0 k a3 a4 a5 a6 a7 a8 a9 true)) else (bodegalaw1_WordPacks.j0 k a3 a4 a5 a6 a7 a8 a9 true))) = some r := H
  have A16 := Aside0.mk A160
  clear A160
  have HC17 := Aside0.mk H
  clear H
  go_enter Try.func6, Try.ntmps6
  go_upto_region 7 with (first | ((with_reducible refine gate_callee (f := 24) rfl ?_); refine goesL_ (some 36) rfl rfl Try.func24 (by kernel_rfl) rfl #[.int .i64 a0, .bool a1] rfl (by (try simp only [List.map_toArray, List.map_cons, List.map_nil]); first | done | rfl | (simp only [List.length_drop, List.length_take]; rfl)) ?_; (with_reducible refine (word_Key.calls a0 a1 t136 t137 _ A11.out).mono ?_); rintro e w' ⟨rfl, ⟨nd, rfl⟩⟩; refine ⟨_, rfl, ?_⟩) | ((with_reducible refine gate_callee (f := 25) rfl ?_); refine goesL_ (some 42) rfl rfl Try.func25 (by kernel_rfl) rfl #[.int .i64 a0, .bool a1] rfl (by (try simp only [List.map_toArray, List.map_cons, List.map_nil]); first | done | rfl | (simp only [List.length_drop, List.length_take]; rfl)) ?_; (with_reducible refine (bodegaref1_Key.calls k a0 a1 t138 t139 _ A12.out).mono ?_); rintro e w' ⟨rfl, ⟨nd, rfl⟩⟩; refine ⟨_, rfl, ?_⟩) | ((with_reducible refine gate_callee (f := 26) rfl ?_); refine goesL_ (some 47) rfl rfl Try.func26 (by kernel_rfl) rfl #[.int .i64 a2] rfl (by (try simp only [List.map_toArray, List.map_cons, List.map_nil]); first | done | rfl | (simp only [List.length_drop, List.length_take]; rfl)) ?_; (with_reducible refine (word_Mark.calls a2 t140 t141 _ A13.out).mono ?_); rintro e w' ⟨rfl, ⟨nd, rfl⟩⟩; refine ⟨_, rfl, ?_⟩) | ((with_reducible refine gate_callee (f := 27) rfl ?_); refine goesL_ (some 52) rfl rfl Try.func27 (by kernel_rfl) rfl #[.int .i64 a2] rfl (by (try simp only [List.map_toArray, List.map_cons, List.map_nil]); first | done | rfl | (simp only [List.length_drop, List.length_take]; rfl)) ?_; (with_reducible refine (bodegaref1_Mark.calls a2 t142 t143 _ A14.out).mono ?_); rintro e w' ⟨rfl, ⟨nd, rfl⟩⟩; refine ⟨_, rfl, ?_⟩) | ((with_reducible refine gate_callee (f := 28) rfl ?_); refine goesL_ (some 58) rfl rfl Try.func28 (by kernel_rfl) rfl #[.int .i64 a3, .int .i64 a4] rfl (by (try simp only [List.map_toArray, List.map_cons, List.map_nil]); first | done | rfl | (simp only [List.length_drop, List.length_take]; rfl)) ?_; (with_reducible refine (word_Tag.calls a3 a4 t144 t145 _ A15.out).mono ?_); rintro e w' ⟨rfl, ⟨nd, rfl⟩⟩; refine ⟨_, rfl, ?_⟩) | ((with_reducible refine gate_callee (f := 29) rfl ?_); refine goesL_ (some 64) rfl rfl Try.func29 (by kernel_rfl) rfl #[.int .i64 a3, .int .i64 a4] rfl (by (try simp only [List.map_toArray, List.map_cons, List.map_nil]); first | done | rfl | (simp only [List.length_drop, List.length_take]; rfl)) ?_; (with_reducible refine (bodegaref1_Tag.calls a3 a4 t146 t147 _ A16.out).mono ?_); rintro e w' ⟨rfl, ⟨nd, rfl⟩⟩; refine ⟨_, rfl, ?_⟩))
  (try simp only [Act.put, List.setIfInBounds_toArray, List.set_cons_zero, List.set_cons_succ])
  go_cut [98] (fun v98 wc => ∃ (kq : Nat) (x98_16 : Bool), v98 = .bool x98_16 ∧ Aside0 (bodegalaw1_WordPacks.j0 kq a3 a4 a5 a6 a7 a8 a9 x98_16 = some r) ∧ Aside0 (kq ≤ k) ∧ Drawn0 w wc)
  case first =>
    have H := HC17.out
    clear HC17
    replace H := Option.bind_eq_some_iff.mp H
    obtain ⟨t148, A180, H⟩ := H
    replace H : (if t148 = true then (if t136 = t138 then (if t137 = t139 then (if t140 = t142 then (if t141 = t143 then (if t144 = t146 then (bodegalaw1_WordPacks.j0 k a3 a4 a5 a6 a7 a8 a9 (t145 != t147)) else (bodegalaw1_WordPacks.j0 k a3 a4 a5 a6 a7 a8 a9 true)) else (bodegalaw1_WordPacks.j0 k a3 a4 a5 a6 a7 a8 a9 true)) else (bodegalaw1_WordPacks.j0 k a3 a4 a5 a6 a7 a8 a9 true)) else (bodegalaw1_WordPacks.j0 k a3 a4 a5 a6 a7 a8 a9 true)) else (bodegalaw1_WordPacks.j0 k a3 a4 a5 a6 a7 a8 a9 true)) else (bodegalaw1_WordPacks.j0 k a3 a4 a5 a6 a7 a8 a9 true)) = some r := H
    have A18 := Aside0.mk A180
    clear A180
    by_cases c19 : t148 = true
    · subst c19
      have H1 : (if t136 = t138 then (if t137 = t139 then (if t140 = t142 then (if t141 = t143 then (if t144 = t146 then (bodegalaw1_WordPacks.j0 k a3 a4 a5 a6 a7 a8 a9 (t145 != t147)) else (bodegalaw1_WordPacks.j0 k a3 a4 a5 a6 a7 a8 a9 true)) else (bodegalaw1_WordPacks.j0 k a3 a4 a5 a6 a7 a8 a9 true)) else (bodegalaw1_WordPacks.j0 k a3 a4 a5 a6 a7 a8 a9 true)) else (bodegalaw1_WordPacks.j0 k a3 a4 a5 a6 a7 a8 a9 true)) else (bodegalaw1_WordPacks.j0 k a3 a4 a5 a6 a7 a8 a9 true)) = some r := by rw [if_pos rfl] at H; exact H
      clear H
      have H := H1
      clear H1
      by_cases c20 : t136 = t138
      · rw [if_pos c20] at H
        have c20b0 : (t136 == t138) = true := beq_iff_eq.mpr c20
        have c20b1 : (t136 != t138) = false := bne_eq_false_iff_eq.mpr c20
        clear c20
        (first | rw [c20b0] | (simp only [i64_w, i32_w]; rw [c20b0]) | skip)
        by_cases c21 : t137 = t139
        · rw [if_pos c21] at H
          have c21b0 : (t137 == t139) = true := beq_iff_eq.mpr c21
          have c21b1 : (t137 != t139) = false := bne_eq_false_iff_eq.mpr c21
          clear c21
          by_cases c22 : t140 = t142
          · rw [if_pos c22] at H
            have c22b0 : (t140 == t142) = true := beq_iff_eq.mpr c22
            have c22b1 : (t140 != t142) = false := bne_eq_false_iff_eq.mpr c22
            clear c22
            by_cases c23 : t141 = t143
            · rw [if_pos c23] at H
              have c23b0 : (t141 == t143) = true := beq_iff_eq.mpr c23
              have c23b1 : (t141 != t143) = false := bne_eq_false_iff_eq.mpr c23
              clear c23
              by_cases c24 : t144 = t146
              · rw [if_pos c24] at H
                have c24b0 : (t144 == t146) = true := beq_iff_eq.mpr c24
                have c24b1 : (t144 != t146) = false := bne_eq_false_iff_eq.mpr c24
                clear c24
                have H' := Aside0.mk H
                clear H
                go_wp2_with (first | ((with_reducible refine gate_callee (f := 19) rfl ?_); refine goesL_ (some 67) rfl rfl Try.func19 (by kernel_rfl) rfl #[] rfl (by (try simp only [List.map_toArray, List.map_cons, List.map_nil]); first | done | rfl | (simp only [List.length_drop, List.length_take]; rfl)) ?_; (with_reducible refine (bodegalaw1_awake.calls  true _ A18.out).mono ?_); rintro e w' ⟨rfl, ⟨nd, rfl⟩⟩; refine ⟨_, rfl, ?_⟩))
                go_meet
                case rel => exact ⟨_, ((t145 != t147)), (by first | rfl | (simp; done) | (simp [*]; done)), H', ⟨by first | omega | exact Nat.le_refl _⟩, by repeat (first | exact Drawn0.refl _ | apply Drawn0.step)⟩
              · rw [if_neg c24] at H
                have c24b0 : (t144 == t146) = false := beq_eq_false_iff_ne.mpr c24
                have c24b1 : (t144 != t146) = true := bne_iff_ne.mpr c24
                have H' := Aside0.mk H
                clear H
                go_wp2_with (first | ((with_reducible refine gate_callee (f := 19) rfl ?_); refine goesL_ (some 67) rfl rfl Try.func19 (by kernel_rfl) rfl #[] rfl (by (try simp only [List.map_toArray, List.map_cons, List.map_nil]); first | done | rfl | (simp only [List.length_drop, List.length_take]; rfl)) ?_; (with_reducible refine (bodegalaw1_awake.calls  true _ A18.out).mono ?_); rintro e w' ⟨rfl, ⟨nd, rfl⟩⟩; refine ⟨_, rfl, ?_⟩))
                go_meet
                case rel => exact ⟨_, (true), (by first | rfl | (simp; done) | (simp [*]; done)), H', ⟨by first | omega | exact Nat.le_refl _⟩, by repeat (first | exact Drawn0.refl _ | apply Drawn0.step)⟩
            · rw [if_neg c23] at H
              have c23b0 : (t141 == t143) = false := beq_eq_false_iff_ne.mpr c23
              have c23b1 : (t141 != t143) = true := bne_iff_ne.mpr c23
              have H' := Aside0.mk H
              clear H
              go_wp2_with (first | ((with_reducible refine gate_callee (f := 19) rfl ?_); refine goesL_ (some 67) rfl rfl Try.func19 (by kernel_rfl) rfl #[] rfl (by (try simp only [List.map_toArray, List.map_cons, List.map_nil]); first | done | rfl | (simp only [List.length_drop, List.length_take]; rfl)) ?_; (with_reducible refine (bodegalaw1_awake.calls  true _ A18.out).mono ?_); rintro e w' ⟨rfl, ⟨nd, rfl⟩⟩; refine ⟨_, rfl, ?_⟩))
              go_meet
              case rel => exact ⟨_, (true), (by first | rfl | (simp; done) | (simp [*]; done)), H', ⟨by first | omega | exact Nat.le_refl _⟩, by repeat (first | exact Drawn0.refl _ | apply Drawn0.step)⟩
          · rw [if_neg c22] at H
            have c22b0 : (t140 == t142) = false := beq_eq_false_iff_ne.mpr c22
            have c22b1 : (t140 != t142) = true := bne_iff_ne.mpr c22
            have H' := Aside0.mk H
            clear H
            go_wp2_with (first | ((with_reducible refine gate_callee (f := 19) rfl ?_); refine goesL_ (some 67) rfl rfl Try.func19 (by kernel_rfl) rfl #[] rfl (by (try simp only [List.map_toArray, List.map_cons, List.map_nil]); first | done | rfl | (simp only [List.length_drop, List.length_take]; rfl)) ?_; (with_reducible refine (bodegalaw1_awake.calls  true _ A18.out).mono ?_); rintro e w' ⟨rfl, ⟨nd, rfl⟩⟩; refine ⟨_, rfl, ?_⟩))
            go_meet
            case rel => exact ⟨_, (true), (by first | rfl | (simp; done) | (simp [*]; done)), H', ⟨by first | omega | exact Nat.le_refl _⟩, by repeat (first | exact Drawn0.refl _ | apply Drawn0.step)⟩
        · rw [if_neg c21] at H
          have c21b0 : (t137 == t139) = false := beq_eq_false_iff_ne.mpr c21
          have c21b1 : (t137 != t139) = true := bne_iff_ne.mpr c21
          have H' := Aside0.mk H
          clear H
          go_wp2_with (first | ((with_reducible refine gate_callee (f := 19) rfl ?_); refine goesL_ (some 67) rfl rfl Try.func19 (by kernel_rfl) rfl #[] rfl (by (try simp only [List.map_toArray, List.map_cons, List.map_nil]); first | done | rfl | (simp only [List.length_drop, List.length_take]; rfl)) ?_; (with_reducible refine (bodegalaw1_awake.calls  true _ A18.out).mono ?_); rintro e w' ⟨rfl, ⟨nd, rfl⟩⟩; refine ⟨_, rfl, ?_⟩))
          go_meet
          case rel => exact ⟨_, (true), (by first | rfl | (simp; done) | (simp [*]; done)), H', ⟨by first | omega | exact Nat.le_refl _⟩, by repeat (first | exact Drawn0.refl _ | apply Drawn0.step)⟩
      · rw [if_neg c20] at H
        have c20b0 : (t136 == t138) = false := beq_eq_false_iff_ne.mpr c20
        have c20b1 : (t136 != t138) = true := bne_iff_ne.mpr c20
        (first | rw [c20b0] | (simp only [i64_w, i32_w]; rw [c20b0]) | skip)
        have H' := Aside0.mk H
        clear H
        go_wp2_with (first | ((with_reducible refine gate_callee (f := 19) rfl ?_); refine goesL_ (some 67) rfl rfl Try.func19 (by kernel_rfl) rfl #[] rfl (by (try simp only [List.map_toArray, List.map_cons, List.map_nil]); first | done | rfl | (simp only [List.length_drop, List.length_take]; rfl)) ?_; (with_reducible refine (bodegalaw1_awake.calls  true _ A18.out).mono ?_); rintro e w' ⟨rfl, ⟨nd, rfl⟩⟩; refine ⟨_, rfl, ?_⟩))
        go_meet
        case rel => exact ⟨_, (true), (by first | rfl | (simp; done) | (simp [*]; done)), H', ⟨by first | omega | exact Nat.le_refl _⟩, by repeat (first | exact Drawn0.refl _ | apply Drawn0.step)⟩
    · replace c19 := Bool.eq_false_iff.mpr c19
      subst c19
      have H1 : (bodegalaw1_WordPacks.j0 k a3 a4 a5 a6 a7 a8 a9 true) = some r := by rw [if_neg (show ¬ (false = true) by decide)] at H; exact H
      clear H
      have H := H1
      clear H1
      have H' := Aside0.mk H
      clear H
      go_wp2_with (first | ((with_reducible refine gate_callee (f := 19) rfl ?_); refine goesL_ (some 67) rfl rfl Try.func19 (by kernel_rfl) rfl #[] rfl (by (try simp only [List.map_toArray, List.map_cons, List.map_nil]); first | done | rfl | (simp only [List.length_drop, List.length_take]; rfl)) ?_; (with_reducible refine (bodegalaw1_awake.calls  false _ A18.out).mono ?_); rintro e w' ⟨rfl, ⟨nd, rfl⟩⟩; refine ⟨_, rfl, ?_⟩))
      go_meet
      case rel => exact ⟨_, (true), (by first | rfl | (simp; done) | (simp [*]; done)), H', ⟨by first | omega | exact Nat.le_refl _⟩, by repeat (first | exact Drawn0.refl _ | apply Drawn0.step)⟩
  case rest =>
    clear HC17
    try clear c1
    try clear c2
    try clear p2
    try clear c6
    try clear c19
    try clear c20
    try clear c20b0
    try clear c20b1
    try clear c21
    try clear c21b0
    try clear c21b1
    try clear c22
    try clear c22b0
    try clear c22b1
    try clear c23
    try clear c23b0
    try clear c23b1
    try clear c24
    try clear c24b0
    try clear c24b1
    obtain ⟨kq, x98_16, rfl, HA, HJ16, ⟨mc16, rfl⟩⟩ := hcut
    cases kq with
    | zero => exact absurd HA.out (by simp [bodegalaw1_WordPacks.j0])
    | succ kj16 =>
      have H := HA.out
      clear HA
      simp only [bodegalaw1_WordPacks.j0] at H
      by_cases c25 : x98_16 = true
      · subst c25
        have H1 : (some false) = some r := by rw [if_pos rfl] at H; exact H
        clear H
        have H := H1
        clear H1
        obtain rfl := Option.some.inj H
        go_wp2
        go_ret
        exact ⟨by first | rfl | (simp; done) | (simp [*]; done), by repeat (first | exact Drawn0.refl _ | apply Drawn0.step)⟩
      · replace c25 := Bool.eq_false_iff.mpr c25
        subst c25
        have H1 : ((word_Lease.f a3 a5).bind fun bt149 => ((bodegaref1_Lease.f a3 a5).bind fun bt151 => ((word_Ballot.f a6 a4).bind fun bt153 => ((bodegaref1_Ballot.f kj16 a6 a4).bind fun bt155 => ((word_Consensus.f a7 a8 a9).bind fun bt157 => ((bodegaref1_Consensus.f a7 a8 a9).bind fun bt159 => (if bt149.1 = bt151.1 then (if bt149.2 = bt151.2 then (if bt153.1 = bt155.1 then (if bt153.2 = bt155.2 then (if bt157.1 = bt159.1 then (some (bt157.2 == bt159.2)) else (some false)) else (some false)) else (some false)) else (some false)) else (some false)))))))) = some r := by rw [if_neg (show ¬ (false = true) by decide)] at H; exact H
        clear H
        have H := H1
        clear H1
        replace H := Option.bind_eq_some_iff.mp H
        obtain ⟨⟨t149, t150⟩, A260, H⟩ := H
        replace H : ((bodegaref1_Lease.f a3 a5).bind fun bt151 => ((word_Ballot.f a6 a4).bind fun bt153 => ((bodegaref1_Ballot.f kj16 a6 a4).bind fun bt155 => ((word_Consensus.f a7 a8 a9).bind fun bt157 => ((bodegaref1_Consensus.f a7 a8 a9).bind fun bt159 => (if t149 = bt151.1 then (if t150 = bt151.2 then (if bt153.1 = bt155.1 then (if bt153.2 = bt155.2 then (if bt157.1 = bt159.1 then (some (bt157.2 == bt159.2)) else (some false)) else (some false)) else (some false)) else (some false)) else (some false))))))) = some r := H
        have A26 := Aside0.mk A260
        clear A260
        replace H := Option.bind_eq_some_iff.mp H
        obtain ⟨⟨t151, t152⟩, A270, H⟩ := H
        replace H : ((word_Ballot.f a6 a4).bind fun bt153 => ((bodegaref1_Ballot.f kj16 a6 a4).bind fun bt155 => ((word_Consensus.f a7 a8 a9).bind fun bt157 => ((bodegaref1_Consensus.f a7 a8 a9).bind fun bt159 => (if t149 = t151 then (if t150 = t152 then (if bt153.1 = bt155.1 then (if bt153.2 = bt155.2 then (if bt157.1 = bt159.1 then (some (bt157.2 == bt159.2)) else (some false)) else (some false)) else (some false)) else (some false)) else (some false)))))) = some r := H
        have A27 := Aside0.mk A270
        clear A270
        replace H := Option.bind_eq_some_iff.mp H
        obtain ⟨⟨t153, t154⟩, A280, H⟩ := H
        replace H : ((bodegaref1_Ballot.f kj16 a6 a4).bind fun bt155 => ((word_Consensus.f a7 a8 a9).bind fun bt157 => ((bodegaref1_Consensus.f a7 a8 a9).bind fun bt159 => (if t149 = t151 then (if t150 = t152 then (if t153 = bt155.1 then (if t154 = bt155.2 then (if bt157.1 = bt159.1 then (some (bt157.2 == bt159.2)) else (some false)) else (some false)) else (some false)) else (some false)) else (some false))))) = some r := H
        have A28 := Aside0.mk A280
        clear A280
        replace H := Option.bind_eq_some_iff.mp H
        obtain ⟨⟨t155, t156⟩, A290, H⟩ := H
        replace H : ((word_Consensus.f a7 a8 a9).bind fun bt157 => ((bodegaref1_Consensus.f a7 a8 a9).bind fun bt159 => (if t149 = t151 then (if t150 = t152 then (if t153 = t155 then (if t154 = t156 then (if bt157.1 = bt159.1 then (some (bt157.2 == bt159.2)) else (some false)) else (some false)) else (some false)) else (some false)) else (some false)))) = some r := H
        have A29 := Aside0.mk A290
        clear A290
        replace H := Option.bind_eq_some_iff.mp H
        obtain ⟨⟨t157, t158⟩, A300, H⟩ := H
        replace H : ((bodegaref1_Consensus.f a7 a8 a9).bind fun bt159 => (if t149 = t151 then (if t150 = t152 then (if t153 = t155 then (if t154 = t156 then (if t157 = bt159.1 then (some (t158 == bt159.2)) else (some false)) else (some false)) else (some false)) else (some false)) else (some false))) = some r := H
        have A30 := Aside0.mk A300
        clear A300
        replace H := Option.bind_eq_some_iff.mp H
        obtain ⟨⟨t159, t160⟩, A310, H⟩ := H
        replace H : (if t149 = t151 then (if t150 = t152 then (if t153 = t155 then (if t154 = t156 then (if t157 = t159 then (some (t158 == t160)) else (some false)) else (some false)) else (some false)) else (some false)) else (some false)) = some r := H
        have A31 := Aside0.mk A310
        clear A310
        by_cases c32 : t149 = t151
        · rw [if_pos c32] at H
          have c32b0 : (t149 == t151) = true := beq_iff_eq.mpr c32
          have c32b1 : (t149 != t151) = false := bne_eq_false_iff_eq.mpr c32
          clear c32
          by_cases c33 : t150 = t152
          · rw [if_pos c33] at H
            have c33b0 : (t150 == t152) = true := beq_iff_eq.mpr c33
            have c33b1 : (t150 != t152) = false := bne_eq_false_iff_eq.mpr c33
            clear c33
            by_cases c34 : t153 = t155
            · rw [if_pos c34] at H
              have c34b0 : (t153 == t155) = true := beq_iff_eq.mpr c34
              have c34b1 : (t153 != t155) = false := bne_eq_false_iff_eq.mpr c34
              clear c34
              by_cases c35 : t154 = t156
              · rw [if_pos c35] at H
                have c35b0 : (t154 == t156) = true := beq_iff_eq.mpr c35
                have c35b1 : (t154 != t156) = false := bne_eq_false_iff_eq.mpr c35
                clear c35
                by_cases c36 : t157 = t159
                · rw [if_pos c36] at H
                  have c36b0 : (t157 == t159) = true := beq_iff_eq.mpr c36
                  have c36b1 : (t157 != t159) = false := bne_eq_false_iff_eq.mpr c36
                  clear c36
                  obtain rfl := Option.some.inj H
                  go_wp2_with (first | ((with_reducible refine gate_callee (f := 30) rfl ?_); refine goesL_ (some 102) rfl rfl Try.func30 (by kernel_rfl) rfl #[.int .i64 a3, .int .i64 a5] rfl (by (try simp only [List.map_toArray, List.map_cons, List.map_nil]); first | done | rfl | (simp only [List.length_drop, List.length_take]; rfl)) ?_; (with_reducible refine (word_Lease.calls a3 a5 t149 t150 _ A26.out).mono ?_); rintro e w' ⟨rfl, ⟨nd, rfl⟩⟩; refine ⟨_, rfl, ?_⟩) | ((with_reducible refine gate_callee (f := 31) rfl ?_); refine goesL_ (some 108) rfl rfl Try.func31 (by kernel_rfl) rfl #[.int .i64 a3, .int .i64 a5] rfl (by (try simp only [List.map_toArray, List.map_cons, List.map_nil]); first | done | rfl | (simp only [List.length_drop, List.length_take]; rfl)) ?_; (with_reducible refine (bodegaref1_Lease.calls a3 a5 t151 t152 _ A27.out).mono ?_); rintro e w' ⟨rfl, ⟨nd, rfl⟩⟩; refine ⟨_, rfl, ?_⟩) | ((with_reducible refine gate_callee (f := 23) rfl ?_); refine goesL_ (some 114) rfl rfl Try.func23 (by kernel_rfl) rfl #[.int .i64 a6, .int .i64 a4] rfl (by (try simp only [List.map_toArray, List.map_cons, List.map_nil]); first | done | rfl | (simp only [List.length_drop, List.length_take]; rfl)) ?_; (with_reducible refine (word_Ballot.calls a6 a4 t153 t154 _ A28.out).mono ?_); rintro e w' ⟨rfl, ⟨nd, rfl⟩⟩; refine ⟨_, rfl, ?_⟩) | ((with_reducible refine gate_callee (f := 32) rfl ?_); refine goesL_ (some 120) rfl rfl Try.func32 (by kernel_rfl) rfl #[.int .i64 a6, .int .i64 a4] rfl (by (try simp only [List.map_toArray, List.map_cons, List.map_nil]); first | done | rfl | (simp only [List.length_drop, List.length_take]; rfl)) ?_; (with_reducible refine (bodegaref1_Ballot.calls kj16 a6 a4 t155 t156 _ A29.out).mono ?_); rintro e w' ⟨rfl, ⟨nd, rfl⟩⟩; refine ⟨_, rfl, ?_⟩) | ((with_reducible refine gate_callee (f := 33) rfl ?_); refine goesL_ (some 127) rfl rfl Try.func33 (by kernel_rfl) rfl #[.int .u64 a7, .int .u64 a8, .int .u64 a9] rfl (by (try simp only [List.map_toArray, List.map_cons, List.map_nil]); first | done | rfl | (simp only [List.length_drop, List.length_take]; rfl)) ?_; (with_reducible refine (word_Consensus.calls a7 a8 a9 t157 t158 _ A30.out).mono ?_); rintro e w' ⟨rfl, ⟨nd, rfl⟩⟩; refine ⟨_, rfl, ?_⟩) | ((with_reducible refine gate_callee (f := 34) rfl ?_); refine goesL_ (some 134) rfl rfl Try.func34 (by kernel_rfl) rfl #[.int .u64 a7, .int .u64 a8, .int .u64 a9] rfl (by (try simp only [List.map_toArray, List.map_cons, List.map_nil]); first | done | rfl | (simp only [List.length_drop, List.length_take]; rfl)) ?_; (with_reducible refine (bodegaref1_Consensus.calls a7 a8 a9 t159 t160 _ A31.out).mono ?_); rintro e w' ⟨rfl, ⟨nd, rfl⟩⟩; refine ⟨_, rfl, ?_⟩))
                  go_ret
                  exact ⟨by first | rfl | (simp; done) | (simp [*]; done), by repeat (first | exact Drawn0.refl _ | apply Drawn0.step)⟩
                · rw [if_neg c36] at H
                  have c36b0 : (t157 == t159) = false := beq_eq_false_iff_ne.mpr c36
                  have c36b1 : (t157 != t159) = true := bne_iff_ne.mpr c36
                  obtain rfl := Option.some.inj H
                  go_wp2_with (first | ((with_reducible refine gate_callee (f := 30) rfl ?_); refine goesL_ (some 102) rfl rfl Try.func30 (by kernel_rfl) rfl #[.int .i64 a3, .int .i64 a5] rfl (by (try simp only [List.map_toArray, List.map_cons, List.map_nil]); first | done | rfl | (simp only [List.length_drop, List.length_take]; rfl)) ?_; (with_reducible refine (word_Lease.calls a3 a5 t149 t150 _ A26.out).mono ?_); rintro e w' ⟨rfl, ⟨nd, rfl⟩⟩; refine ⟨_, rfl, ?_⟩) | ((with_reducible refine gate_callee (f := 31) rfl ?_); refine goesL_ (some 108) rfl rfl Try.func31 (by kernel_rfl) rfl #[.int .i64 a3, .int .i64 a5] rfl (by (try simp only [List.map_toArray, List.map_cons, List.map_nil]); first | done | rfl | (simp only [List.length_drop, List.length_take]; rfl)) ?_; (with_reducible refine (bodegaref1_Lease.calls a3 a5 t151 t152 _ A27.out).mono ?_); rintro e w' ⟨rfl, ⟨nd, rfl⟩⟩; refine ⟨_, rfl, ?_⟩) | ((with_reducible refine gate_callee (f := 23) rfl ?_); refine goesL_ (some 114) rfl rfl Try.func23 (by kernel_rfl) rfl #[.int .i64 a6, .int .i64 a4] rfl (by (try simp only [List.map_toArray, List.map_cons, List.map_nil]); first | done | rfl | (simp only [List.length_drop, List.length_take]; rfl)) ?_; (with_reducible refine (word_Ballot.calls a6 a4 t153 t154 _ A28.out).mono ?_); rintro e w' ⟨rfl, ⟨nd, rfl⟩⟩; refine ⟨_, rfl, ?_⟩) | ((with_reducible refine gate_callee (f := 32) rfl ?_); refine goesL_ (some 120) rfl rfl Try.func32 (by kernel_rfl) rfl #[.int .i64 a6, .int .i64 a4] rfl (by (try simp only [List.map_toArray, List.map_cons, List.map_nil]); first | done | rfl | (simp only [List.length_drop, List.length_take]; rfl)) ?_; (with_reducible refine (bodegaref1_Ballot.calls kj16 a6 a4 t155 t156 _ A29.out).mono ?_); rintro e w' ⟨rfl, ⟨nd, rfl⟩⟩; refine ⟨_, rfl, ?_⟩) | ((with_reducible refine gate_callee (f := 33) rfl ?_); refine goesL_ (some 127) rfl rfl Try.func33 (by kernel_rfl) rfl #[.int .u64 a7, .int .u64 a8, .int .u64 a9] rfl (by (try simp only [List.map_toArray, List.map_cons, List.map_nil]); first | done | rfl | (simp only [List.length_drop, List.length_take]; rfl)) ?_; (with_reducible refine (word_Consensus.calls a7 a8 a9 t157 t158 _ A30.out).mono ?_); rintro e w' ⟨rfl, ⟨nd, rfl⟩⟩; refine ⟨_, rfl, ?_⟩) | ((with_reducible refine gate_callee (f := 34) rfl ?_); refine goesL_ (some 134) rfl rfl Try.func34 (by kernel_rfl) rfl #[.int .u64 a7, .int .u64 a8, .int .u64 a9] rfl (by (try simp only [List.map_toArray, List.map_cons, List.map_nil]); first | done | rfl | (simp only [List.length_drop, List.length_take]; rfl)) ?_; (with_reducible refine (bodegaref1_Consensus.calls a7 a8 a9 t159 t160 _ A31.out).mono ?_); rintro e w' ⟨rfl, ⟨nd, rfl⟩⟩; refine ⟨_, rfl, ?_⟩))
                  go_ret
                  exact ⟨by first | rfl | (simp; done) | (simp [*]; done), by repeat (first | exact Drawn0.refl _ | apply Drawn0.step)⟩
              · rw [if_neg c35] at H
                have c35b0 : (t154 == t156) = false := beq_eq_false_iff_ne.mpr c35
                have c35b1 : (t154 != t156) = true := bne_iff_ne.mpr c35
                obtain rfl := Option.some.inj H
                go_wp2_with (first | ((with_reducible refine gate_callee (f := 30) rfl ?_); refine goesL_ (some 102) rfl rfl Try.func30 (by kernel_rfl) rfl #[.int .i64 a3, .int .i64 a5] rfl (by (try simp only [List.map_toArray, List.map_cons, List.map_nil]); first | done | rfl | (simp only [List.length_drop, List.length_take]; rfl)) ?_; (with_reducible refine (word_Lease.calls a3 a5 t149 t150 _ A26.out).mono ?_); rintro e w' ⟨rfl, ⟨nd, rfl⟩⟩; refine ⟨_, rfl, ?_⟩) | ((with_reducible refine gate_callee (f := 31) rfl ?_); refine goesL_ (some 108) rfl rfl Try.func31 (by kernel_rfl) rfl #[.int .i64 a3, .int .i64 a5] rfl (by (try simp only [List.map_toArray, List.map_cons, List.map_nil]); first | done | rfl | (simp only [List.length_drop, List.length_take]; rfl)) ?_; (with_reducible refine (bodegaref1_Lease.calls a3 a5 t151 t152 _ A27.out).mono ?_); rintro e w' ⟨rfl, ⟨nd, rfl⟩⟩; refine ⟨_, rfl, ?_⟩) | ((with_reducible refine gate_callee (f := 23) rfl ?_); refine goesL_ (some 114) rfl rfl Try.func23 (by kernel_rfl) rfl #[.int .i64 a6, .int .i64 a4] rfl (by (try simp only [List.map_toArray, List.map_cons, List.map_nil]); first | done | rfl | (simp only [List.length_drop, List.length_take]; rfl)) ?_; (with_reducible refine (word_Ballot.calls a6 a4 t153 t154 _ A28.out).mono ?_); rintro e w' ⟨rfl, ⟨nd, rfl⟩⟩; refine ⟨_, rfl, ?_⟩) | ((with_reducible refine gate_callee (f := 32) rfl ?_); refine goesL_ (some 120) rfl rfl Try.func32 (by kernel_rfl) rfl #[.int .i64 a6, .int .i64 a4] rfl (by (try simp only [List.map_toArray, List.map_cons, List.map_nil]); first | done | rfl | (simp only [List.length_drop, List.length_take]; rfl)) ?_; (with_reducible refine (bodegaref1_Ballot.calls kj16 a6 a4 t155 t156 _ A29.out).mono ?_); rintro e w' ⟨rfl, ⟨nd, rfl⟩⟩; refine ⟨_, rfl, ?_⟩) | ((with_reducible refine gate_callee (f := 33) rfl ?_); refine goesL_ (some 127) rfl rfl Try.func33 (by kernel_rfl) rfl #[.int .u64 a7, .int .u64 a8, .int .u64 a9] rfl (by (try simp only [List.map_toArray, List.map_cons, List.map_nil]); first | done | rfl | (simp only [List.length_drop, List.length_take]; rfl)) ?_; (with_reducible refine (word_Consensus.calls a7 a8 a9 t157 t158 _ A30.out).mono ?_); rintro e w' ⟨rfl, ⟨nd, rfl⟩⟩; refine ⟨_, rfl, ?_⟩) | ((with_reducible refine gate_callee (f := 34) rfl ?_); refine goesL_ (some 134) rfl rfl Try.func34 (by kernel_rfl) rfl #[.int .u64 a7, .int .u64 a8, .int .u64 a9] rfl (by (try simp only [List.map_toArray, List.map_cons, List.map_nil]); first | done | rfl | (simp only [List.length_drop, List.length_take]; rfl)) ?_; (with_reducible refine (bodegaref1_Consensus.calls a7 a8 a9 t159 t160 _ A31.out).mono ?_); rintro e w' ⟨rfl, ⟨nd, rfl⟩⟩; refine ⟨_, rfl, ?_⟩))
                go_ret
                exact ⟨by first | rfl | (simp; done) | (simp [*]; done), by repeat (first | exact Drawn0.refl _ | apply Drawn0.step)⟩
            · rw [if_neg c34] at H
              have c34b0 : (t153 == t155) = false := beq_eq_false_iff_ne.mpr c34
              have c34b1 : (t153 != t155) = true := bne_iff_ne.mpr c34
              obtain rfl := Option.some.inj H
              go_wp2_with (first | ((with_reducible refine gate_callee (f := 30) rfl ?_); refine goesL_ (some 102) rfl rfl Try.func30 (by kernel_rfl) rfl #[.int .i64 a3, .int .i64 a5] rfl (by (try simp only [List.map_toArray, List.map_cons, List.map_nil]); first | done | rfl | (simp only [List.length_drop, List.length_take]; rfl)) ?_; (with_reducible refine (word_Lease.calls a3 a5 t149 t150 _ A26.out).mono ?_); rintro e w' ⟨rfl, ⟨nd, rfl⟩⟩; refine ⟨_, rfl, ?_⟩) | ((with_reducible refine gate_callee (f := 31) rfl ?_); refine goesL_ (some 108) rfl rfl Try.func31 (by kernel_rfl) rfl #[.int .i64 a3, .int .i64 a5] rfl (by (try simp only [List.map_toArray, List.map_cons, List.map_nil]); first | done | rfl | (simp only [List.length_drop, List.length_take]; rfl)) ?_; (with_reducible refine (bodegaref1_Lease.calls a3 a5 t151 t152 _ A27.out).mono ?_); rintro e w' ⟨rfl, ⟨nd, rfl⟩⟩; refine ⟨_, rfl, ?_⟩) | ((with_reducible refine gate_callee (f := 23) rfl ?_); refine goesL_ (some 114) rfl rfl Try.func23 (by kernel_rfl) rfl #[.int .i64 a6, .int .i64 a4] rfl (by (try simp only [List.map_toArray, List.map_cons, List.map_nil]); first | done | rfl | (simp only [List.length_drop, List.length_take]; rfl)) ?_; (with_reducible refine (word_Ballot.calls a6 a4 t153 t154 _ A28.out).mono ?_); rintro e w' ⟨rfl, ⟨nd, rfl⟩⟩; refine ⟨_, rfl, ?_⟩) | ((with_reducible refine gate_callee (f := 32) rfl ?_); refine goesL_ (some 120) rfl rfl Try.func32 (by kernel_rfl) rfl #[.int .i64 a6, .int .i64 a4] rfl (by (try simp only [List.map_toArray, List.map_cons, List.map_nil]); first | done | rfl | (simp only [List.length_drop, List.length_take]; rfl)) ?_; (with_reducible refine (bodegaref1_Ballot.calls kj16 a6 a4 t155 t156 _ A29.out).mono ?_); rintro e w' ⟨rfl, ⟨nd, rfl⟩⟩; refine ⟨_, rfl, ?_⟩) | ((with_reducible refine gate_callee (f := 33) rfl ?_); refine goesL_ (some 127) rfl rfl Try.func33 (by kernel_rfl) rfl #[.int .u64 a7, .int .u64 a8, .int .u64 a9] rfl (by (try simp only [List.map_toArray, List.map_cons, List.map_nil]); first | done | rfl | (simp only [List.length_drop, List.length_take]; rfl)) ?_; (with_reducible refine (word_Consensus.calls a7 a8 a9 t157 t158 _ A30.out).mono ?_); rintro e w' ⟨rfl, ⟨nd, rfl⟩⟩; refine ⟨_, rfl, ?_⟩) | ((with_reducible refine gate_callee (f := 34) rfl ?_); refine goesL_ (some 134) rfl rfl Try.func34 (by kernel_rfl) rfl #[.int .u64 a7, .int .u64 a8, .int .u64 a9] rfl (by (try simp only [List.map_toArray, List.map_cons, List.map_nil]); first | done | rfl | (simp only [List.length_drop, List.length_take]; rfl)) ?_; (with_reducible refine (bodegaref1_Consensus.calls a7 a8 a9 t159 t160 _ A31.out).mono ?_); rintro e w' ⟨rfl, ⟨nd, rfl⟩⟩; refine ⟨_, rfl, ?_⟩))
              go_ret
              exact ⟨by first | rfl | (simp; done) | (simp [*]; done), by repeat (first | exact Drawn0.refl _ | apply Drawn0.step)⟩
          · rw [if_neg c33] at H
            have c33b0 : (t150 == t152) = false := beq_eq_false_iff_ne.mpr c33
            have c33b1 : (t150 != t152) = true := bne_iff_ne.mpr c33
            obtain rfl := Option.some.inj H
            go_wp2_with (first | ((with_reducible refine gate_callee (f := 30) rfl ?_); refine goesL_ (some 102) rfl rfl Try.func30 (by kernel_rfl) rfl #[.int .i64 a3, .int .i64 a5] rfl (by (try simp only [List.map_toArray, List.map_cons, List.map_nil]); first | done | rfl | (simp only [List.length_drop, List.length_take]; rfl)) ?_; (with_reducible refine (word_Lease.calls a3 a5 t149 t150 _ A26.out).mono ?_); rintro e w' ⟨rfl, ⟨nd, rfl⟩⟩; refine ⟨_, rfl, ?_⟩) | ((with_reducible refine gate_callee (f := 31) rfl ?_); refine goesL_ (some 108) rfl rfl Try.func31 (by kernel_rfl) rfl #[.int .i64 a3, .int .i64 a5] rfl (by (try simp only [List.map_toArray, List.map_cons, List.map_nil]); first | done | rfl | (simp only [List.length_drop, List.length_take]; rfl)) ?_; (with_reducible refine (bodegaref1_Lease.calls a3 a5 t151 t152 _ A27.out).mono ?_); rintro e w' ⟨rfl, ⟨nd, rfl⟩⟩; refine ⟨_, rfl, ?_⟩) | ((with_reducible refine gate_callee (f := 23) rfl ?_); refine goesL_ (some 114) rfl rfl Try.func23 (by kernel_rfl) rfl #[.int .i64 a6, .int .i64 a4] rfl (by (try simp only [List.map_toArray, List.map_cons, List.map_nil]); first | done | rfl | (simp only [List.length_drop, List.length_take]; rfl)) ?_; (with_reducible refine (word_Ballot.calls a6 a4 t153 t154 _ A28.out).mono ?_); rintro e w' ⟨rfl, ⟨nd, rfl⟩⟩; refine ⟨_, rfl, ?_⟩) | ((with_reducible refine gate_callee (f := 32) rfl ?_); refine goesL_ (some 120) rfl rfl Try.func32 (by kernel_rfl) rfl #[.int .i64 a6, .int .i64 a4] rfl (by (try simp only [List.map_toArray, List.map_cons, List.map_nil]); first | done | rfl | (simp only [List.length_drop, List.length_take]; rfl)) ?_; (with_reducible refine (bodegaref1_Ballot.calls kj16 a6 a4 t155 t156 _ A29.out).mono ?_); rintro e w' ⟨rfl, ⟨nd, rfl⟩⟩; refine ⟨_, rfl, ?_⟩) | ((with_reducible refine gate_callee (f := 33) rfl ?_); refine goesL_ (some 127) rfl rfl Try.func33 (by kernel_rfl) rfl #[.int .u64 a7, .int .u64 a8, .int .u64 a9] rfl (by (try simp only [List.map_toArray, List.map_cons, List.map_nil]); first | done | rfl | (simp only [List.length_drop, List.length_take]; rfl)) ?_; (with_reducible refine (word_Consensus.calls a7 a8 a9 t157 t158 _ A30.out).mono ?_); rintro e w' ⟨rfl, ⟨nd, rfl⟩⟩; refine ⟨_, rfl, ?_⟩) | ((with_reducible refine gate_callee (f := 34) rfl ?_); refine goesL_ (some 134) rfl rfl Try.func34 (by kernel_rfl) rfl #[.int .u64 a7, .int .u64 a8, .int .u64 a9] rfl (by (try simp only [List.map_toArray, List.map_cons, List.map_nil]); first | done | rfl | (simp only [List.length_drop, List.length_take]; rfl)) ?_; (with_reducible refine (bodegaref1_Consensus.calls a7 a8 a9 t159 t160 _ A31.out).mono ?_); rintro e w' ⟨rfl, ⟨nd, rfl⟩⟩; refine ⟨_, rfl, ?_⟩))
            go_ret
            exact ⟨by first | rfl | (simp; done) | (simp [*]; done), by repeat (first | exact Drawn0.refl _ | apply Drawn0.step)⟩
        · rw [if_neg c32] at H
          have c32b0 : (t149 == t151) = false := beq_eq_false_iff_ne.mpr c32
          have c32b1 : (t149 != t151) = true := bne_iff_ne.mpr c32
          obtain rfl := Option.some.inj H
          go_wp2_with (first | ((with_reducible refine gate_callee (f := 30) rfl ?_); refine goesL_ (some 102) rfl rfl Try.func30 (by kernel_rfl) rfl #[.int .i64 a3, .int .i64 a5] rfl (by (try simp only [List.map_toArray, List.map_cons, List.map_nil]); first | done | rfl | (simp only [List.length_drop, List.length_take]; rfl)) ?_; (with_reducible refine (word_Lease.calls a3 a5 t149 t150 _ A26.out).mono ?_); rintro e w' ⟨rfl, ⟨nd, rfl⟩⟩; refine ⟨_, rfl, ?_⟩) | ((with_reducible refine gate_callee (f := 31) rfl ?_); refine goesL_ (some 108) rfl rfl Try.func31 (by kernel_rfl) rfl #[.int .i64 a3, .int .i64 a5] rfl (by (try simp only [List.map_toArray, List.map_cons, List.map_nil]); first | done | rfl | (simp only [List.length_drop, List.length_take]; rfl)) ?_; (with_reducible refine (bodegaref1_Lease.calls a3 a5 t151 t152 _ A27.out).mono ?_); rintro e w' ⟨rfl, ⟨nd, rfl⟩⟩; refine ⟨_, rfl, ?_⟩) | ((with_reducible refine gate_callee (f := 23) rfl ?_); refine goesL_ (some 114) rfl rfl Try.func23 (by kernel_rfl) rfl #[.int .i64 a6, .int .i64 a4] rfl (by (try simp only [List.map_toArray, List.map_cons, List.map_nil]); first | done | rfl | (simp only [List.length_drop, List.length_take]; rfl)) ?_; (with_reducible refine (word_Ballot.calls a6 a4 t153 t154 _ A28.out).mono ?_); rintro e w' ⟨rfl, ⟨nd, rfl⟩⟩; refine ⟨_, rfl, ?_⟩) | ((with_reducible refine gate_callee (f := 32) rfl ?_); refine goesL_ (some 120) rfl rfl Try.func32 (by kernel_rfl) rfl #[.int .i64 a6, .int .i64 a4] rfl (by (try simp only [List.map_toArray, List.map_cons, List.map_nil]); first | done | rfl | (simp only [List.length_drop, List.length_take]; rfl)) ?_; (with_reducible refine (bodegaref1_Ballot.calls kj16 a6 a4 t155 t156 _ A29.out).mono ?_); rintro e w' ⟨rfl, ⟨nd, rfl⟩⟩; refine ⟨_, rfl, ?_⟩) | ((with_reducible refine gate_callee (f := 33) rfl ?_); refine goesL_ (some 127) rfl rfl Try.func33 (by kernel_rfl) rfl #[.int .u64 a7, .int .u64 a8, .int .u64 a9] rfl (by (try simp only [List.map_toArray, List.map_cons, List.map_nil]); first | done | rfl | (simp only [List.length_drop, List.length_take]; rfl)) ?_; (with_reducible refine (word_Consensus.calls a7 a8 a9 t157 t158 _ A30.out).mono ?_); rintro e w' ⟨rfl, ⟨nd, rfl⟩⟩; refine ⟨_, rfl, ?_⟩) | ((with_reducible refine gate_callee (f := 34) rfl ?_); refine goesL_ (some 134) rfl rfl Try.func34 (by kernel_rfl) rfl #[.int .u64 a7, .int .u64 a8, .int .u64 a9] rfl (by (try simp only [List.map_toArray, List.map_cons, List.map_nil]); first | done | rfl | (simp only [List.length_drop, List.length_take]; rfl)) ?_; (with_reducible refine (bodegaref1_Consensus.calls a7 a8 a9 t159 t160 _ A31.out).mono ?_); rintro e w' ⟨rfl, ⟨nd, rfl⟩⟩; refine ⟨_, rfl, ?_⟩))
          go_ret
          exact ⟨by first | rfl | (simp; done) | (simp [*]; done), by repeat (first | exact Drawn0.refl _ | apply Drawn0.step)⟩

/-- THE ONE PURE STATEMENT of bodegalaw1_WordPacks: yours. -/
def bodegalaw1_WordPacks.Pure : Prop := ∀ (a0 : Int) (a1 : Bool) (a2 : Int) (a3 : Int) (a4 : Int) (a5 : Int) (a6 : Int) (a7 : Int) (a8 : Int) (a9 : Int), (Lit.int .i64 a0).wf = true → (Lit.int .i64 a2).wf = true → (Lit.int .i64 a3).wf = true → (Lit.int .i64 a4).wf = true → (Lit.int .i64 a5).wf = true → (Lit.int .i64 a6).wf = true → (Lit.int .u64 a7).wf = true → (Lit.int .u64 a8).wf = true → (Lit.int .u64 a9).wf = true → ∃ k, bodegalaw1_WordPacks.f k a0 a1 a2 a3 a4 a5 a6 a7 a8 a9 = some true
theorem bodegalaw1_WordPacks.walk (P : bodegalaw1_WordPacks.Pure) (a0 : Int) (a1 : Bool) (a2 : Int) (a3 : Int) (a4 : Int) (a5 : Int) (a6 : Int) (a7 : Int) (a8 : Int) (a9 : Int) (w : World) (w0 : (Lit.int .i64 a0).wf = true) (w2 : (Lit.int .i64 a2).wf = true) (w3 : (Lit.int .i64 a3).wf = true) (w4 : (Lit.int .i64 a4).wf = true) (w5 : (Lit.int .i64 a5).wf = true) (w6 : (Lit.int .i64 a6).wf = true) (w7 : (Lit.int .u64 a7).wf = true) (w8 : (Lit.int .u64 a8).wf = true) (w9 : (Lit.int .u64 a9).wf = true) :
    Calls Try.prog 6 #[.int .i64 a0, .bool a1, .int .i64 a2, .int .i64 a3, .int .i64 a4, .int .i64 a5, .int .i64 a6, .int .u64 a7, .int .u64 a8, .int .u64 a9] w fun e w' => e = .returned (.bool true) ∧ Below w.heap.size w w' := by
  obtain ⟨k, h⟩ := P a0 a1 a2 a3 a4 a5 a6 a7 a8 a9 w0 w2 w3 w4 w5 w6 w7 w8 w9
  refine (bodegalaw1_WordPacks.calls k a0 a1 a2 a3 a4 a5 a6 a7 a8 a9 true w h).mono ?_
  rintro e w' ⟨rfl, hd⟩
  exact ⟨rfl, hd.below⟩

end Go.Proofs.Ytpcoflcelmfnbaa.PWordPacks
