-- PRINTED BY print.sh 35421559b90ae4d0a3588c463048766b98c2df88dd9212a6774a882060cdf62d: not written by this session
import Derived.Test.YtjihjmanndhdhaaPGateLessx0
namespace Go.Proofs.Ytjihjmanndhdhaa.PGateLess
open Go.RowKit Go.Proofs.YtjihjmanndhdhaaW.PrintWords Go.Proofs.YtjihjmanndhdhaaW.PrintLast Go.Proofs.YtjihjmanndhdhaaW.PrintMore
attribute [local go_sem] max2_int min2_int max_two min_two max_three min_three max_four min_four   -- for this text's walks alone
set_option linter.unusedVariables false
set_option linter.unusedSimpArgs false

/-! ### gate_Worst: function 16 -/
def gate_Worst.f (a0 : Int) (a1 : Int) : Option (Int × Int × Bool) := if a0 < 1 then (some (0, 0, false)) else (if a0 > 64 then (some (0, 0, false)) else (if a1 < 1 then (some (0, 0, false)) else (if a1 > 1048576 then (some (0, 0, false)) else (some (wrap64 ((wrap64 (a0 - 1)) * a1), wrap64 (a0 * a1), true)))))
set_option maxHeartbeats 8000000 in
set_option maxRecDepth 100000 in
theorem gate_Worst.calls (a0 : Int) (a1 : Int) (r1 : Int) (r2 : Int) (r3 : Bool) (w : World) (h : gate_Worst.f a0 a1 = some (r1, r2, r3)) :
    Calls Try.prog 16 #[.int .i64 a0, .int .i64 a1] w fun e w' => e = .returned (.tuple #[.int .i64 r1, .int .i64 r2, .bool r3]) ∧ Drawn0 w w' := by
  have H : (if a0 < 1 then (some (0, 0, false)) else (if a0 > 64 then (some (0, 0, false)) else (if a1 < 1 then (some (0, 0, false)) else (if a1 > 1048576 then (some (0, 0, false)) else (some (wrap64 ((wrap64 (a0 - 1)) * a1), wrap64 (a0 * a1), true)))))) = some (r1, r2, r3) := h
  clear h
  by_cases c3 : a0 < 1
  · rw [if_pos c3] at H
    have c3b0 : decide (a0 < 1) = true := decide_eq_true c3
    clear c3
    simp only [Option.some.injEq, Prod.mk.injEq] at H
    obtain ⟨rfl, rfl, rfl⟩ := H
    go_enter Try.func16, Try.ntmps16
    go_wp2
    go_ret3
    exact ⟨by first | rfl | (simp; done) | (simp [*]; done), by repeat (first | exact Drawn0.refl _ | apply Drawn0.step)⟩
  · rw [if_neg c3] at H
    have c3b0 : decide (a0 < 1) = false := decide_eq_false c3
    clear c3
    by_cases c4 : a0 > 64
    · rw [if_pos c4] at H
      have c4b0 : decide (64 < a0) = true := decide_eq_true c4
      clear c4
      simp only [Option.some.injEq, Prod.mk.injEq] at H
      obtain ⟨rfl, rfl, rfl⟩ := H
      go_enter Try.func16, Try.ntmps16
      go_wp2
      go_ret3
      exact ⟨by first | rfl | (simp; done) | (simp [*]; done), by repeat (first | exact Drawn0.refl _ | apply Drawn0.step)⟩
    · rw [if_neg c4] at H
      have c4b0 : decide (64 < a0) = false := decide_eq_false c4
      clear c4
      by_cases c5 : a1 < 1
      · rw [if_pos c5] at H
        have c5b0 : decide (a1 < 1) = true := decide_eq_true c5
        clear c5
        simp only [Option.some.injEq, Prod.mk.injEq] at H
        obtain ⟨rfl, rfl, rfl⟩ := H
        go_enter Try.func16, Try.ntmps16
        go_wp2
        go_ret3
        exact ⟨by first | rfl | (simp; done) | (simp [*]; done), by repeat (first | exact Drawn0.refl _ | apply Drawn0.step)⟩
      · rw [if_neg c5] at H
        have c5b0 : decide (a1 < 1) = false := decide_eq_false c5
        clear c5
        by_cases c6 : a1 > 1048576
        · rw [if_pos c6] at H
          have c6b0 : decide (1048576 < a1) = true := decide_eq_true c6
          clear c6
          simp only [Option.some.injEq, Prod.mk.injEq] at H
          obtain ⟨rfl, rfl, rfl⟩ := H
          go_enter Try.func16, Try.ntmps16
          go_wp2
          go_ret3
          exact ⟨by first | rfl | (simp; done) | (simp [*]; done), by repeat (first | exact Drawn0.refl _ | apply Drawn0.step)⟩
        · rw [if_neg c6] at H
          have c6b0 : decide (1048576 < a1) = false := decide_eq_false c6
          clear c6
          simp only [Option.some.injEq, Prod.mk.injEq] at H
          obtain ⟨rfl, rfl, rfl⟩ := H
          go_enter Try.func16, Try.ntmps16
          go_wp2
          go_ret3
          exact ⟨by first | rfl | (simp; done) | (simp [*]; done), by repeat (first | exact Drawn0.refl _ | apply Drawn0.step)⟩

/-! ### gate_Enough: function 17 -/
def gate_Enough.f (a0 : Int) (a1 : Int) (a2 : Int) (a3 : Int) : Option (Bool) := (gate_Worst.f a0 a1).bind fun bt101 => (if bt101.2.2 = true then (if bt101.2.1 ≤ a2 then (some (decide (bt101.2.1 ≤ a3))) else (some false)) else (some false))
set_option maxHeartbeats 8000000 in
set_option maxRecDepth 100000 in
theorem gate_Enough.calls (a0 : Int) (a1 : Int) (a2 : Int) (a3 : Int) (r : Bool) (w : World) (h : gate_Enough.f a0 a1 a2 a3 = some r) :
    Calls Try.prog 17 #[.int .i64 a0, .int .i64 a1, .int .i64 a2, .int .i64 a3] w fun e w' => e = .returned (.bool r) ∧ Drawn0 w w' := by
  have H : ((gate_Worst.f a0 a1).bind fun bt101 => (if bt101.2.2 = true then (if bt101.2.1 ≤ a2 then (some (decide (bt101.2.1 ≤ a3))) else (some false)) else (some false))) = some r := h
  clear h
  replace H := Option.bind_eq_some_iff.mp H
  obtain ⟨⟨t101, t102, t103⟩, A50, H⟩ := H
  replace H : (if t103 = true then (if t102 ≤ a2 then (some (decide (t102 ≤ a3))) else (some false)) else (some false)) = some r := H
  have A5 := Aside0.mk A50
  clear A50
  by_cases c6 : t103 = true
  · subst c6
    have H1 : (if t102 ≤ a2 then (some (decide (t102 ≤ a3))) else (some false)) = some r := by rw [if_pos rfl] at H; exact H
    clear H
    have H := H1
    clear H1
    by_cases c7 : t102 ≤ a2
    · rw [if_pos c7] at H
      have c7b0 : decide (t102 ≤ a2) = true := decide_eq_true c7
      clear c7
      obtain rfl := Option.some.inj H
      go_enter Try.func17, Try.ntmps17
      go_wp2_with (first | ((with_reducible refine gate_callee (f := 16) rfl ?_); refine goesL_ (some 15) rfl rfl Try.func16 (by kernel_rfl) rfl #[.int .i64 a0, .int .i64 a1] rfl (by (try simp only [List.map_toArray, List.map_cons, List.map_nil]); first | done | rfl | (simp only [List.length_drop, List.length_take]; rfl)) ?_; (with_reducible refine (gate_Worst.calls a0 a1 t101 t102 true _ A5.out).mono ?_); rintro e w' ⟨rfl, ⟨nd, rfl⟩⟩; refine ⟨_, rfl, ?_⟩))
      go_ret
      exact ⟨by first | rfl | (simp; done) | (simp [*]; done), by repeat (first | exact Drawn0.refl _ | apply Drawn0.step)⟩
    · rw [if_neg c7] at H
      have c7b0 : decide (t102 ≤ a2) = false := decide_eq_false c7
      clear c7
      obtain rfl := Option.some.inj H
      go_enter Try.func17, Try.ntmps17
      go_wp2_with (first | ((with_reducible refine gate_callee (f := 16) rfl ?_); refine goesL_ (some 15) rfl rfl Try.func16 (by kernel_rfl) rfl #[.int .i64 a0, .int .i64 a1] rfl (by (try simp only [List.map_toArray, List.map_cons, List.map_nil]); first | done | rfl | (simp only [List.length_drop, List.length_take]; rfl)) ?_; (with_reducible refine (gate_Worst.calls a0 a1 t101 t102 true _ A5.out).mono ?_); rintro e w' ⟨rfl, ⟨nd, rfl⟩⟩; refine ⟨_, rfl, ?_⟩))
      go_ret
      exact ⟨by first | rfl | (simp; done) | (simp [*]; done), by repeat (first | exact Drawn0.refl _ | apply Drawn0.step)⟩
  · replace c6 := Bool.eq_false_iff.mpr c6
    subst c6
    have H1 : (some false) = some r := by rw [if_neg (show ¬ (false = true) by decide)] at H; exact H
    clear H
    have H := H1
    clear H1
    obtain rfl := Option.some.inj H
    go_enter Try.func17, Try.ntmps17
    go_wp2_with (first | ((with_reducible refine gate_callee (f := 16) rfl ?_); refine goesL_ (some 15) rfl rfl Try.func16 (by kernel_rfl) rfl #[.int .i64 a0, .int .i64 a1] rfl (by (try simp only [List.map_toArray, List.map_cons, List.map_nil]); first | done | rfl | (simp only [List.length_drop, List.length_take]; rfl)) ?_; (with_reducible refine (gate_Worst.calls a0 a1 t101 t102 false _ A5.out).mono ?_); rintro e w' ⟨rfl, ⟨nd, rfl⟩⟩; refine ⟨_, rfl, ?_⟩))
    go_ret
    exact ⟨by first | rfl | (simp; done) | (simp [*]; done), by repeat (first | exact Drawn0.refl _ | apply Drawn0.step)⟩

/-! ### beadlelaw19_awake: function 15 -/
def beadlelaw19_awake.f  : Option (Bool) := (gate_Worst.f 4 10).bind fun bt104 => (if bt104.2.2 = true then (if bt104.1 = 30 then (if bt104.2.1 = 40 then ((gate_Enough.f 4 10 40 40).bind fun t107 => (some t107)) else (some false)) else (some false)) else (some false))
set_option maxHeartbeats 8000000 in
set_option maxRecDepth 100000 in
theorem beadlelaw19_awake.calls  (r : Bool) (w : World) (h : beadlelaw19_awake.f  = some r) :
    Calls Try.prog 15 #[] w fun e w' => e = .returned (.bool r) ∧ Drawn0 w w' := by
  have H : ((gate_Worst.f 4 10).bind fun bt104 => (if bt104.2.2 = true then (if bt104.1 = 30 then (if bt104.2.1 = 40 then ((gate_Enough.f 4 10 40 40).bind fun t107 => (some t107)) else (some false)) else (some false)) else (some false))) = some r := h
  clear h
  replace H := Option.bind_eq_some_iff.mp H
  obtain ⟨⟨t104, t105, t106⟩, A10, H⟩ := H
  replace H : (if t106 = true then (if t104 = 30 then (if t105 = 40 then ((gate_Enough.f 4 10 40 40).bind fun t107 => (some t107)) else (some false)) else (some false)) else (some false)) = some r := H
  have A1 := Aside0.mk A10
  clear A10
  by_cases c2 : t106 = true
  · subst c2
    have H1 : (if t104 = 30 then (if t105 = 40 then ((gate_Enough.f 4 10 40 40).bind fun t107 => (some t107)) else (some false)) else (some false)) = some r := by rw [if_pos rfl] at H; exact H
    clear H
    have H := H1
    clear H1
    by_cases c3 : t104 = 30
    · rw [if_pos c3] at H
      have c3b0 : (t104 == 30) = true := beq_iff_eq.mpr c3
      have c3b1 : (t104 != 30) = false := bne_eq_false_iff_eq.mpr c3
      clear c3
      by_cases c4 : t105 = 40
      · rw [if_pos c4] at H
        have c4b0 : (t105 == 40) = true := beq_iff_eq.mpr c4
        have c4b1 : (t105 != 40) = false := bne_eq_false_iff_eq.mpr c4
        clear c4
        replace H := Option.bind_eq_some_iff.mp H
        obtain ⟨t107, A50, H⟩ := H
        replace H : (some t107) = some r := H
        have A5 := Aside0.mk A50
        clear A50
        obtain rfl := Option.some.inj H
        go_enter Try.func15, Try.ntmps15
        go_wp2_with (first | ((with_reducible refine gate_callee (f := 16) rfl ?_); refine goesL_ (some 5) rfl rfl Try.func16 (by kernel_rfl) rfl #[.int .i64 4, .int .i64 10] rfl (by (try simp only [List.map_toArray, List.map_cons, List.map_nil]); first | done | rfl | (simp only [List.length_drop, List.length_take]; rfl)) ?_; (with_reducible refine (gate_Worst.calls 4 10 t104 t105 true _ A1.out).mono ?_); rintro e w' ⟨rfl, ⟨nd, rfl⟩⟩; refine ⟨_, rfl, ?_⟩) | (go_at_call 17; (with_reducible refine (gate_Enough.calls 4 10 40 40 t107 _ A5.out).mono ?_); rintro e w' ⟨rfl, ⟨nd, rfl⟩⟩))
        go_ret
        exact ⟨by first | rfl | (simp; done) | (simp [*]; done), by repeat (first | exact Drawn0.refl _ | apply Drawn0.step)⟩
      · rw [if_neg c4] at H
        have c4b0 : (t105 == 40) = false := beq_eq_false_iff_ne.mpr c4
        have c4b1 : (t105 != 40) = true := bne_iff_ne.mpr c4
        obtain rfl := Option.some.inj H
        go_enter Try.func15, Try.ntmps15
        go_wp2_with (first | ((with_reducible refine gate_callee (f := 16) rfl ?_); refine goesL_ (some 5) rfl rfl Try.func16 (by kernel_rfl) rfl #[.int .i64 4, .int .i64 10] rfl (by (try simp only [List.map_toArray, List.map_cons, List.map_nil]); first | done | rfl | (simp only [List.length_drop, List.length_take]; rfl)) ?_; (with_reducible refine (gate_Worst.calls 4 10 t104 t105 true _ A1.out).mono ?_); rintro e w' ⟨rfl, ⟨nd, rfl⟩⟩; refine ⟨_, rfl, ?_⟩))
        go_ret
        exact ⟨by first | rfl | (simp; done) | (simp [*]; done), by repeat (first | exact Drawn0.refl _ | apply Drawn0.step)⟩
    · rw [if_neg c3] at H
      have c3b0 : (t104 == 30) = false := beq_eq_false_iff_ne.mpr c3
      have c3b1 : (t104 != 30) = true := bne_iff_ne.mpr c3
      obtain rfl := Option.some.inj H
      go_enter Try.func15, Try.ntmps15
      go_wp2_with (first | ((with_reducible refine gate_callee (f := 16) rfl ?_); refine goesL_ (some 5) rfl rfl Try.func16 (by kernel_rfl) rfl #[.int .i64 4, .int .i64 10] rfl (by (try simp only [List.map_toArray, List.map_cons, List.map_nil]); first | done | rfl | (simp only [List.length_drop, List.length_take]; rfl)) ?_; (with_reducible refine (gate_Worst.calls 4 10 t104 t105 true _ A1.out).mono ?_); rintro e w' ⟨rfl, ⟨nd, rfl⟩⟩; refine ⟨_, rfl, ?_⟩))
      go_ret
      exact ⟨by first | rfl | (simp; done) | (simp [*]; done), by repeat (first | exact Drawn0.refl _ | apply Drawn0.step)⟩
  · replace c2 := Bool.eq_false_iff.mpr c2
    subst c2
    have H1 : (some false) = some r := by rw [if_neg (show ¬ (false = true) by decide)] at H; exact H
    clear H
    have H := H1
    clear H1
    obtain rfl := Option.some.inj H
    go_enter Try.func15, Try.ntmps15
    go_wp2_with (first | ((with_reducible refine gate_callee (f := 16) rfl ?_); refine goesL_ (some 5) rfl rfl Try.func16 (by kernel_rfl) rfl #[.int .i64 4, .int .i64 10] rfl (by (try simp only [List.map_toArray, List.map_cons, List.map_nil]); first | done | rfl | (simp only [List.length_drop, List.length_take]; rfl)) ?_; (with_reducible refine (gate_Worst.calls 4 10 t104 t105 false _ A1.out).mono ?_); rintro e w' ⟨rfl, ⟨nd, rfl⟩⟩; refine ⟨_, rfl, ?_⟩))
    go_ret
    exact ⟨by first | rfl | (simp; done) | (simp [*]; done), by repeat (first | exact Drawn0.refl _ | apply Drawn0.step)⟩

/-! ### beadlelaw19_GateLess: function 3 -/
def beadlelaw19_GateLess.j0 : Nat → Int → Int → Int → Int → Int → Int → Bool → Option (Bool)
  | 0, _, _, _, _, _, _, _ => none
  | k + 1, x0, x1, x2, x3, x4, x5, x52 => if x52 = true then (some true) else ((gate_Worst.f x0 x2).bind fun bt109 => ((gate_Worst.f x1 x3).bind fun bt112 => (if bt109.2.2 = true then (if bt112.2.2 = true then (if bt109.1 ≤ bt112.1 then (if bt109.2.1 ≤ bt112.2.1 then (if (wrap64 (bt109.1 + x2)) = bt109.2.1 then ((gate_Enough.f x1 x3 x4 x5).bind fun t115 => (if t115 = true then ((gate_Enough.f x0 x2 x4 x5).bind fun t116 => (some t116)) else (some true))) else (some false)) else (some false)) else (some false)) else (some false)) else (some false))))
def beadlelaw19_GateLess.f (k : Nat) (a0 : Int) (a1 : Int) (a2 : Int) (a3 : Int) (a4 : Int) (a5 : Int) : Option (Bool) := (beadlelaw19_awake.f).bind fun t108 => (if t108 = true then (if a0 < 1 then (beadlelaw19_GateLess.j0 k a0 a1 a2 a3 a4 a5 true) else (if a0 > 64 then (beadlelaw19_GateLess.j0 k a0 a1 a2 a3 a4 a5 true) else (if a1 < a0 then (beadlelaw19_GateLess.j0 k a0 a1 a2 a3 a4 a5 true) else (if a1 > 64 then (beadlelaw19_GateLess.j0 k a0 a1 a2 a3 a4 a5 true) else (if a2 < 1 then (beadlelaw19_GateLess.j0 k a0 a1 a2 a3 a4 a5 true) else (if a2 > 1048576 then (beadlelaw19_GateLess.j0 k a0 a1 a2 a3 a4 a5 true) else (if a3 < a2 then (beadlelaw19_GateLess.j0 k a0 a1 a2 a3 a4 a5 true) else (beadlelaw19_GateLess.j0 k a0 a1 a2 a3 a4 a5 (decide (a3 > 1048576)))))))))) else (some false))
theorem beadlelaw19_GateLess.mono_l : ∀ k, (∀ y0 y1 y2 y3 y4 y5 y6, LeO (beadlelaw19_GateLess.j0 k y0 y1 y2 y3 y4 y5 y6) (beadlelaw19_GateLess.j0 (k + 1) y0 y1 y2 y3 y4 y5 y6))
  | 0 => fun _ _ _ _ _ _ _ r h => by simp [beadlelaw19_GateLess.j0] at h
  | k + 1 => by
    have ih0 := beadlelaw19_GateLess.mono_l k
    · intro y0 y1 y2 y3 y4 y5 y6
      unfold beadlelaw19_GateLess.j0
      repeat' first
      | (with_reducible exact ih0 _ _ _ _ _ _ _)
      | (with_reducible exact LeO.refl _)
      | (with_reducible exact LeO.none _)
      | (with_reducible refine LeO.ite ?_ ?_)
      | (with_reducible refine LeO.bind ?_ (fun _ => ?_))
      | exact ih0 _ _ _ _ _ _ _
      | exact LeO.none _
      | refine LeO.ite ?_ ?_
      | refine LeO.bind ?_ (fun _ => ?_)
theorem beadlelaw19_GateLess.mono : ∀ a0 a1 a2 a3 a4 a5 k, LeO (beadlelaw19_GateLess.f k a0 a1 a2 a3 a4 a5) (beadlelaw19_GateLess.f (k + 1) a0 a1 a2 a3 a4 a5) := by
  intro a0 a1 a2 a3 a4 a5 k
  have ih0 := beadlelaw19_GateLess.mono_l k
  unfold beadlelaw19_GateLess.f
  repeat' first
      | (with_reducible exact ih0 _ _ _ _ _ _ _)
      | (with_reducible exact LeO.refl _)
      | (with_reducible exact LeO.none _)
      | (with_reducible refine LeO.ite ?_ ?_)
      | (with_reducible refine LeO.bind ?_ (fun _ => ?_))
      | exact ih0 _ _ _ _ _ _ _
      | exact LeO.none _
      | refine LeO.ite ?_ ?_
      | refine LeO.bind ?_ (fun _ => ?_)
set_option maxHeartbeats 8000000 in
set_option maxRecDepth 100000 in
theorem beadlelaw19_GateLess.calls (k : Nat) (a0 : Int) (a1 : Int) (a2 : Int) (a3 : Int) (a4 : Int) (a5 : Int) (r : Bool) (w : World) (h : beadlelaw19_GateLess.f k a0 a1 a2 a3 a4 a5 = some r) :
    Calls Try.prog 3 #[.int .i64 a0, .int .i64 a1, .int .i64 a2, .int .i64 a3, .int .i64 a4, .int .i64 a5] w fun e w' => e = .returned (.bool r) ∧ Drawn0 w w' := by
  have H : ((beadlelaw19_awake.f).bind fun t108 => (if t108 = true then (if a0 < 1 then (beadlelaw19_GateLess.j0 k a0 a1 a2 a3 a4 a5 true) else (if a0 > 64 then (beadlelaw19_GateLess.j0 k a0 a1 a2 a3 a4 a5 true) else (if a1 < a0 then (beadlelaw19_GateLess.j0 k a0 a1 a2 a3 a4 a5 true) else (if a1 > 64 then (beadlelaw19_GateLess.j0 k a0 a1 a2 a3 a4 a5 true) else (if a2 < 1 then (beadlelaw19_GateLess.j0 k a0 a1 a2 a3 a4 a5 true) else (if a2 > 1048576 then (beadlelaw19_GateLess.j0 k a0 a1 a2 a3 a4 a5 true) else (if a3 < a2 then (beadlelaw19_GateLess.j0 k a0 a1 a2 a3 a4 a5 true) else (beadlelaw19_GateLess.j0 k a0 a1 a2 a3 a4 a5 (decide (a3 > 1048576)))))))))) else (some false))) = some r := h
  clear h
  replace H := Option.bind_eq_some_iff.mp H
  obtain ⟨t108, A70, H⟩ := H
  replace H : (if t108 = true then (if a0 < 1 then (beadlelaw19_GateLess.j0 k a0 a1 a2 a3 a4 a5 true) else (if a0 > 64 then (beadlelaw19_GateLess.j0 k a0 a1 a2 a3 a4 a5 true) else (if a1 < a0 then (beadlelaw19_GateLess.j0 k a0 a1 a2 a3 a4 a5 true) else (if a1 > 64 then (beadlelaw19_GateLess.j0 k a0 a1 a2 a3 a4 a5 true) else (if a2 < 1 then (beadlelaw19_GateLess.j0 k a0 a1 a2 a3 a4 a5 true) else (if a2 > 1048576 then (beadlelaw19_GateLess.j0 k a0 a1 a2 a3 a4 a5 true) else (if a3 < a2 then (beadlelaw19_GateLess.j0 k a0 a1 a2 a3 a4 a5 true) else (beadlelaw19_GateLess.j0 k a0 a1 a2 a3 a4 a5 (decide (a3 > 1048576)))))))))) else (some false)) = some r := H
  have A7 := Aside0.mk A70
  clear A70
  by_cases c8 : t108 = true
  · subst c8
    have H1 : (if a0 < 1 then (beadlelaw19_GateLess.j0 k a0 a1 a2 a3 a4 a5 true) else (if a0 > 64 then (beadlelaw19_GateLess.j0 k a0 a1 a2 a3 a4 a5 true) else (if a1 < a0 then (beadlelaw19_GateLess.j0 k a0 a1 a2 a3 a4 a5 true) else (if a1 > 64 then (beadlelaw19_GateLess.j0 k a0 a1 a2 a3 a4 a5 true) else (if a2 < 1 then (beadlelaw19_GateLess.j0 k a0 a1 a2 a3 a4 a5 true) else (if a2 > 1048576 then (beadlelaw19_GateLess.j0 k a0 a1 a2 a3 a4 a5 true) else (if a3 < a2 then (beadlelaw19_GateLess.j0 k a0 a1 a2 a3 a4 a5 true) else (beadlelaw19_GateLess.j0 k a0 a1 a2 a3 a4 a5 (decide (a3 > 1048576)))))))))) = some r := by rw [if_pos rfl] at H; exact H
    clear H
    have H := H1
    clear H1
    have HC9 := Aside0.mk H
    clear H
    go_enter Try.func3, Try.ntmps3
    go_upto_region 3 with (first | ((with_reducible refine gate_callee (f := 15) rfl ?_); refine goesL_ (some 19) rfl rfl Try.func15 (by kernel_rfl) rfl #[] rfl (by (try simp only [List.map_toArray, List.map_cons, List.map_nil]); first | done | rfl | (simp only [List.length_drop, List.length_take]; rfl)) ?_; (with_reducible refine (beadlelaw19_awake.calls  true _ A7.out).mono ?_); rintro e w' ⟨rfl, ⟨nd, rfl⟩⟩; refine ⟨_, rfl, ?_⟩))
    (try simp only [Act.put, List.setIfInBounds_toArray, List.set_cons_zero, List.set_cons_succ])
    go_cut [52] (fun v52 wc => ∃ (kq : Nat) (x52_8 : Bool), v52 = .bool x52_8 ∧ Aside0 (beadlelaw19_GateLess.j0 kq a0 a1 a2 a3 a4 a5 x52_8 = some r) ∧ Aside0 (kq ≤ k) ∧ Drawn0 w wc)
    case first =>
      have H := HC9.out
      clear HC9
      by_cases c10 : a0 < 1
      · rw [if_pos c10] at H
        have c10b0 : decide (a0 < 1) = true := decide_eq_true c10
        clear c10
        (first | rw [c10b0] | (simp only [i64_w, i32_w]; rw [c10b0]) | skip)
        have H' := Aside0.mk H
        clear H
        go_wp2
        go_meet
        case rel => exact ⟨_, (true), (by first | rfl | (simp; done) | (simp [*]; done)), H', ⟨by first | omega | exact Nat.le_refl _⟩, by repeat (first | exact Drawn0.refl _ | apply Drawn0.step)⟩
      · rw [if_neg c10] at H
        have c10b0 : decide (a0 < 1) = false := decide_eq_false c10
        clear c10
        (first | rw [c10b0] | (simp only [i64_w, i32_w]; rw [c10b0]) | skip)
        by_cases c11 : a0 > 64
        · rw [if_pos c11] at H
          have c11b0 : decide (64 < a0) = true := decide_eq_true c11
          clear c11
          have H' := Aside0.mk H
          clear H
          go_wp2
          go_meet
          case rel => exact ⟨_, (true), (by first | rfl | (simp; done) | (simp [*]; done)), H', ⟨by first | omega | exact Nat.le_refl _⟩, by repeat (first | exact Drawn0.refl _ | apply Drawn0.step)⟩
        · rw [if_neg c11] at H
          have c11b0 : decide (64 < a0) = false := decide_eq_false c11
          clear c11
          by_cases c12 : a1 < a0
          · rw [if_pos c12] at H
            have c12b0 : decide (a1 < a0) = true := decide_eq_true c12
            clear c12
            have H' := Aside0.mk H
            clear H
            go_wp2
            go_meet
            case rel => exact ⟨_, (true), (by first | rfl | (simp; done) | (simp [*]; done)), H', ⟨by first | omega | exact Nat.le_refl _⟩, by repeat (first | exact Drawn0.refl _ | apply Drawn0.step)⟩
          · rw [if_neg c12] at H
            have c12b0 : decide (a1 < a0) = false := decide_eq_false c12
            clear c12
            by_cases c13 : a1 > 64
            · rw [if_pos c13] at H
              have c13b0 : decide (64 < a1) = true := decide_eq_true c13
              clear c13
              have H' := Aside0.mk H
              clear H
              go_wp2
              go_meet
              case rel => exact ⟨_, (true), (by first | rfl | (simp; done) | (simp [*]; done)), H', ⟨by first | omega | exact Nat.le_refl _⟩, by repeat (first | exact Drawn0.refl _ | apply Drawn0.step)⟩
            · rw [if_neg c13] at H
              have c13b0 : decide (64 < a1) = false := decide_eq_false c13
              clear c13
              by_cases c14 : a2 < 1
              · rw [if_pos c14] at H
                have c14b0 : decide (a2 < 1) = true := decide_eq_true c14
                clear c14
                have H' := Aside0.mk H
                clear H
                go_wp2
                go_meet
                case rel => exact ⟨_, (true), (by first | rfl | (simp; done) | (simp [*]; done)), H', ⟨by first | omega | exact Nat.le_refl _⟩, by repeat (first | exact Drawn0.refl _ | apply Drawn0.step)⟩
              · rw [if_neg c14] at H
                have c14b0 : decide (a2 < 1) = false := decide_eq_false c14
                clear c14
                by_cases c15 : a2 > 1048576
                · rw [if_pos c15] at H
                  have c15b0 : decide (1048576 < a2) = true := decide_eq_true c15
                  clear c15
                  have H' := Aside0.mk H
                  clear H
                  go_wp2
                  go_meet
                  case rel => exact ⟨_, (true), (by first | rfl | (simp; done) | (simp [*]; done)), H', ⟨by first | omega | exact Nat.le_refl _⟩, by repeat (first | exact Drawn0.refl _ | apply Drawn0.step)⟩
                · rw [if_neg c15] at H
                  have c15b0 : decide (1048576 < a2) = false := decide_eq_false c15
                  clear c15
                  by_cases c16 : a3 < a2
                  · rw [if_pos c16] at H
                    have c16b0 : decide (a3 < a2) = true := decide_eq_true c16
                    clear c16
                    have H' := Aside0.mk H
                    clear H
                    go_wp2
                    go_meet
                    case rel => exact ⟨_, (true), (by first | rfl | (simp; done) | (simp [*]; done)), H', ⟨by first | omega | exact Nat.le_refl _⟩, by repeat (first | exact Drawn0.refl _ | apply Drawn0.step)⟩
                  · rw [if_neg c16] at H
                    have c16b0 : decide (a3 < a2) = false := decide_eq_false c16
                    clear c16
                    have H' := Aside0.mk H
                    clear H
                    go_wp2
                    go_meet
                    case rel => exact ⟨_, (decide (a3 > 1048576)), (by first | rfl | (simp; done) | (simp [*]; done)), H', ⟨by first | omega | exact Nat.le_refl _⟩, by repeat (first | exact Drawn0.refl _ | apply Drawn0.step)⟩
    case rest =>
      clear HC9
      try clear c1
      try clear p2
      try clear c3
      try clear c8
      try clear c10
      try clear c10b0
      try clear c11
      try clear c11b0
      try clear c12
      try clear c12b0
      try clear c13
      try clear c13b0
      try clear c14
      try clear c14b0
      try clear c15
      try clear c15b0
      try clear c16
      try clear c16b0
      obtain ⟨kq, x52_8, rfl, HA, HJ8, ⟨mc8, rfl⟩⟩ := hcut
      cases kq with
      | zero => exact absurd HA.out (by simp [beadlelaw19_GateLess.j0])
      | succ kj8 =>
        have H := HA.out
        clear HA
        simp only [beadlelaw19_GateLess.j0] at H
        by_cases c17 : x52_8 = true
        · subst c17
          have H1 : (some true) = some r := by rw [if_pos rfl] at H; exact H
          clear H
          have H := H1
          clear H1
          obtain rfl := Option.some.inj H
          go_wp2
          go_ret
          exact ⟨by first | rfl | (simp; done) | (simp [*]; done), by repeat (first | exact Drawn0.refl _ | apply Drawn0.step)⟩
        · replace c17 := Bool.eq_false_iff.mpr c17
          subst c17
          have H1 : ((gate_Worst.f a0 a2).bind fun bt109 => ((gate_Worst.f a1 a3).bind fun bt112 => (if bt109.2.2 = true then (if bt112.2.2 = true then (if bt109.1 ≤ bt112.1 then (if bt109.2.1 ≤ bt112.2.1 then (if (wrap64 (bt109.1 + a2)) = bt109.2.1 then ((gate_Enough.f a1 a3 a4 a5).bind fun t115 => (if t115 = true then ((gate_Enough.f a0 a2 a4 a5).bind fun t116 => (some t116)) else (some true))) else (some false)) else (some false)) else (some false)) else (some false)) else (some false)))) = some r := by rw [if_neg (show ¬ (false = true) by decide)] at H; exact H
          clear H
          have H := H1
          clear H1
          replace H := Option.bind_eq_some_iff.mp H
          obtain ⟨⟨t109, t110, t111⟩, A180, H⟩ := H
          replace H : ((gate_Worst.f a1 a3).bind fun bt112 => (if t111 = true then (if bt112.2.2 = true then (if t109 ≤ bt112.1 then (if t110 ≤ bt112.2.1 then (if (wrap64 (t109 + a2)) = t110 then ((gate_Enough.f a1 a3 a4 a5).bind fun t115 => (if t115 = true then ((gate_Enough.f a0 a2 a4 a5).bind fun t116 => (some t116)) else (some true))) else (some false)) else (some false)) else (some false)) else (some false)) else (some false))) = some r := H
          have A18 := Aside0.mk A180
          clear A180
          replace H := Option.bind_eq_some_iff.mp H
          obtain ⟨⟨t112, t113, t114⟩, A190, H⟩ := H
          replace H : (if t111 = true then (if t114 = true then (if t109 ≤ t112 then (if t110 ≤ t113 then (if (wrap64 (t109 + a2)) = t110 then ((gate_Enough.f a1 a3 a4 a5).bind fun t115 => (if t115 = true then ((gate_Enough.f a0 a2 a4 a5).bind fun t116 => (some t116)) else (some true))) else (some false)) else (some false)) else (some false)) else (some false)) else (some false)) = some r := H
          have A19 := Aside0.mk A190
          clear A190
          by_cases c20 : t111 = true
          · subst c20
            have H1 : (if t114 = true then (if t109 ≤ t112 then (if t110 ≤ t113 then (if (wrap64 (t109 + a2)) = t110 then ((gate_Enough.f a1 a3 a4 a5).bind fun t115 => (if t115 = true then ((gate_Enough.f a0 a2 a4 a5).bind fun t116 => (some t116)) else (some true))) else (some false)) else (some false)) else (some false)) else (some false)) = some r := by rw [if_pos rfl] at H; exact H
            clear H
            have H := H1
            clear H1
            by_cases c21 : t114 = true
            · subst c21
              have H1 : (if t109 ≤ t112 then (if t110 ≤ t113 then (if (wrap64 (t109 + a2)) = t110 then ((gate_Enough.f a1 a3 a4 a5).bind fun t115 => (if t115 = true then ((gate_Enough.f a0 a2 a4 a5).bind fun t116 => (some t116)) else (some true))) else (some false)) else (some false)) else (some false)) = some r := by rw [if_pos rfl] at H; exact H
              clear H
              have H := H1
              clear H1
              by_cases c22 : t109 ≤ t112
              · rw [if_pos c22] at H
                have c22b0 : decide (t109 ≤ t112) = true := decide_eq_true c22
                clear c22
                by_cases c23 : t110 ≤ t113
                · rw [if_pos c23] at H
                  have c23b0 : decide (t110 ≤ t113) = true := decide_eq_true c23
                  clear c23
                  by_cases c24 : (wrap64 (t109 + a2)) = t110
                  · rw [if_pos c24] at H
                    have c24b0 : ((wrap64 (t109 + a2)) == t110) = true := beq_iff_eq.mpr c24
                    have c24b1 : ((wrap64 (t109 + a2)) != t110) = false := bne_eq_false_iff_eq.mpr c24
                    clear c24
                    replace H := Option.bind_eq_some_iff.mp H
                    obtain ⟨t115, A250, H⟩ := H
                    replace H : (if t115 = true then ((gate_Enough.f a0 a2 a4 a5).bind fun t116 => (some t116)) else (some true)) = some r := H
                    have A25 := Aside0.mk A250
                    clear A250
                    by_cases c26 : t115 = true
                    · subst c26
                      have H1 : ((gate_Enough.f a0 a2 a4 a5).bind fun t116 => (some t116)) = some r := by rw [if_pos rfl] at H; exact H
                      clear H
                      have H := H1
                      clear H1
                      replace H := Option.bind_eq_some_iff.mp H
                      obtain ⟨t116, A270, H⟩ := H
                      replace H : (some t116) = some r := H
                      have A27 := Aside0.mk A270
                      clear A270
                      obtain rfl := Option.some.inj H
                      go_wp2_with (first | ((with_reducible refine gate_callee (f := 16) rfl ?_); refine goesL_ (some 56) rfl rfl Try.func16 (by kernel_rfl) rfl #[.int .i64 a0, .int .i64 a2] rfl (by (try simp only [List.map_toArray, List.map_cons, List.map_nil]); first | done | rfl | (simp only [List.length_drop, List.length_take]; rfl)) ?_; (with_reducible refine (gate_Worst.calls a0 a2 t109 t110 true _ A18.out).mono ?_); rintro e w' ⟨rfl, ⟨nd, rfl⟩⟩; refine ⟨_, rfl, ?_⟩) | ((with_reducible refine gate_callee (f := 16) rfl ?_); refine goesL_ (some 63) rfl rfl Try.func16 (by kernel_rfl) rfl #[.int .i64 a1, .int .i64 a3] rfl (by (try simp only [List.map_toArray, List.map_cons, List.map_nil]); first | done | rfl | (simp only [List.length_drop, List.length_take]; rfl)) ?_; (with_reducible refine (gate_Worst.calls a1 a3 t112 t113 true _ A19.out).mono ?_); rintro e w' ⟨rfl, ⟨nd, rfl⟩⟩; refine ⟨_, rfl, ?_⟩) | (go_at_call 17; (with_reducible refine (gate_Enough.calls a1 a3 a4 a5 true _ A25.out).mono ?_); rintro e w' ⟨rfl, ⟨nd, rfl⟩⟩) | (go_at_call 17; (with_reducible refine (gate_Enough.calls a0 a2 a4 a5 t116 _ A27.out).mono ?_); rintro e w' ⟨rfl, ⟨nd, rfl⟩⟩))
                      go_ret
                      exact ⟨by first | rfl | (simp; done) | (simp [*]; done), by repeat (first | exact Drawn0.refl _ | apply Drawn0.step)⟩
                    · replace c26 := Bool.eq_false_iff.mpr c26
                      subst c26
                      have H1 : (some true) = some r := by rw [if_neg (show ¬ (false = true) by decide)] at H; exact H
                      clear H
                      have H := H1
                      clear H1
                      obtain rfl := Option.some.inj H
                      go_wp2_with (first | ((with_reducible refine gate_callee (f := 16) rfl ?_); refine goesL_ (some 56) rfl rfl Try.func16 (by kernel_rfl) rfl #[.int .i64 a0, .int .i64 a2] rfl (by (try simp only [List.map_toArray, List.map_cons, List.map_nil]); first | done | rfl | (simp only [List.length_drop, List.length_take]; rfl)) ?_; (with_reducible refine (gate_Worst.calls a0 a2 t109 t110 true _ A18.out).mono ?_); rintro e w' ⟨rfl, ⟨nd, rfl⟩⟩; refine ⟨_, rfl, ?_⟩) | ((with_reducible refine gate_callee (f := 16) rfl ?_); refine goesL_ (some 63) rfl rfl Try.func16 (by kernel_rfl) rfl #[.int .i64 a1, .int .i64 a3] rfl (by (try simp only [List.map_toArray, List.map_cons, List.map_nil]); first | done | rfl | (simp only [List.length_drop, List.length_take]; rfl)) ?_; (with_reducible refine (gate_Worst.calls a1 a3 t112 t113 true _ A19.out).mono ?_); rintro e w' ⟨rfl, ⟨nd, rfl⟩⟩; refine ⟨_, rfl, ?_⟩) | (go_at_call 17; (with_reducible refine (gate_Enough.calls a1 a3 a4 a5 false _ A25.out).mono ?_); rintro e w' ⟨rfl, ⟨nd, rfl⟩⟩))
                      go_ret
                      exact ⟨by first | rfl | (simp; done) | (simp [*]; done), by repeat (first | exact Drawn0.refl _ | apply Drawn0.step)⟩
                  · rw [if_neg c24] at H
                    have c24b0 : ((wrap64 (t109 + a2)) == t110) = false := beq_eq_false_iff_ne.mpr c24
                    have c24b1 : ((wrap64 (t109 + a2)) != t110) = true := bne_iff_ne.mpr c24
                    obtain rfl := Option.some.inj H
                    go_wp2_with (first | ((with_reducible refine gate_callee (f := 16) rfl ?_); refine goesL_ (some 56) rfl rfl Try.func16 (by kernel_rfl) rfl #[.int .i64 a0, .int .i64 a2] rfl (by (try simp only [List.map_toArray, List.map_cons, List.map_nil]); first | done | rfl | (simp only [List.length_drop, List.length_take]; rfl)) ?_; (with_reducible refine (gate_Worst.calls a0 a2 t109 t110 true _ A18.out).mono ?_); rintro e w' ⟨rfl, ⟨nd, rfl⟩⟩; refine ⟨_, rfl, ?_⟩) | ((with_reducible refine gate_callee (f := 16) rfl ?_); refine goesL_ (some 63) rfl rfl Try.func16 (by kernel_rfl) rfl #[.int .i64 a1, .int .i64 a3] rfl (by (try simp only [List.map_toArray, List.map_cons, List.map_nil]); first | done | rfl | (simp only [List.length_drop, List.length_take]; rfl)) ?_; (with_reducible refine (gate_Worst.calls a1 a3 t112 t113 true _ A19.out).mono ?_); rintro e w' ⟨rfl, ⟨nd, rfl⟩⟩; refine ⟨_, rfl, ?_⟩))
                    go_ret
                    exact ⟨by first | rfl | (simp; done) | (simp [*]; done), by repeat (first | exact Drawn0.refl _ | apply Drawn0.step)⟩
                · rw [if_neg c23] at H
                  have c23b0 : decide (t110 ≤ t113) = false := decide_eq_false c23
                  clear c23
                  obtain rfl := Option.some.inj H
                  go_wp2_with (first | ((with_reducible refine gate_callee (f := 16) rfl ?_); refine goesL_ (some 56) rfl rfl Try.func16 (by kernel_rfl) rfl #[.int .i64 a0, .int .i64 a2] rfl (by (try simp only [List.map_toArray, List.map_cons, List.map_nil]); first | done | rfl | (simp only [List.length_drop, List.length_take]; rfl)) ?_; (with_reducible refine (gate_Worst.calls a0 a2 t109 t110 true _ A18.out).mono ?_); rintro e w' ⟨rfl, ⟨nd, rfl⟩⟩; refine ⟨_, rfl, ?_⟩) | ((with_reducible refine gate_callee (f := 16) rfl ?_); refine goesL_ (some 63) rfl rfl Try.func16 (by kernel_rfl) rfl #[.int .i64 a1, .int .i64 a3] rfl (by (try simp only [List.map_toArray, List.map_cons, List.map_nil]); first | done | rfl | (simp only [List.length_drop, List.length_take]; rfl)) ?_; (with_reducible refine (gate_Worst.calls a1 a3 t112 t113 true _ A19.out).mono ?_); rintro e w' ⟨rfl, ⟨nd, rfl⟩⟩; refine ⟨_, rfl, ?_⟩))
                  go_ret
                  exact ⟨by first | rfl | (simp; done) | (simp [*]; done), by repeat (first | exact Drawn0.refl _ | apply Drawn0.step)⟩
              · rw [if_neg c22] at H
                have c22b0 : decide (t109 ≤ t112) = false := decide_eq_false c22
                clear c22
                obtain rfl := Option.some.inj H
                go_wp2_with (first | ((with_reducible refine gate_callee (f := 16) rfl ?_); refine goesL_ (some 56) rfl rfl Try.func16 (by kernel_rfl) rfl #[.int .i64 a0, .int .i64 a2] rfl (by (try simp only [List.map_toArray, List.map_cons, List.map_nil]); first | done | rfl | (simp only [List.length_drop, List.length_take]; rfl)) ?_; (with_reducible refine (gate_Worst.calls a0 a2 t109 t110 true _ A18.out).mono ?_); rintro e w' ⟨rfl, ⟨nd, rfl⟩⟩; refine ⟨_, rfl, ?_⟩) | ((with_reducible refine gate_callee (f := 16) rfl ?_); refine goesL_ (some 63) rfl rfl Try.func16 (by kernel_rfl) rfl #[.int .i64 a1, .int .i64 a3] rfl (by (try simp only [List.map_toArray, List.map_cons, List.map_nil]); first | done | rfl | (simp only [List.length_drop, List.length_take]; rfl)) ?_; (with_reducible refine (gate_Worst.calls a1 a3 t112 t113 true _ A19.out).mono ?_); rintro e w' ⟨rfl, ⟨nd, rfl⟩⟩; refine ⟨_, rfl, ?_⟩))
                go_ret
                exact ⟨by first | rfl | (simp; done) | (simp [*]; done), by repeat (first | exact Drawn0.refl _ | apply Drawn0.step)⟩
            · replace c21 := Bool.eq_false_iff.mpr c21
              subst c21
              have H1 : (some false) = some r := by rw [if_neg (show ¬ (false = true) by decide)] at H; exact H
              clear H
              have H := H1
              clear H1
              obtain rfl := Option.some.inj H
              go_wp2_with (first | ((with_reducible refine gate_callee (f := 16) rfl ?_); refine goesL_ (some 56) rfl rfl Try.func16 (by kernel_rfl) rfl #[.int .i64 a0, .int .i64 a2] rfl (by (try simp only [List.map_toArray, List.map_cons, List.map_nil]); first | done | rfl | (simp only [List.length_drop, List.length_take]; rfl)) ?_; (with_reducible refine (gate_Worst.calls a0 a2 t109 t110 true _ A18.out).mono ?_); rintro e w' ⟨rfl, ⟨nd, rfl⟩⟩; refine ⟨_, rfl, ?_⟩) | ((with_reducible refine gate_callee (f := 16) rfl ?_); refine goesL_ (some 63) rfl rfl Try.func16 (by kernel_rfl) rfl #[.int .i64 a1, .int .i64 a3] rfl (by (try simp only [List.map_toArray, List.map_cons, List.map_nil]); first | done | rfl | (simp only [List.length_drop, List.length_take]; rfl)) ?_; (with_reducible refine (gate_Worst.calls a1 a3 t112 t113 false _ A19.out).mono ?_); rintro e w' ⟨rfl, ⟨nd, rfl⟩⟩; refine ⟨_, rfl, ?_⟩))
              go_ret
              exact ⟨by first | rfl | (simp; done) | (simp [*]; done), by repeat (first | exact Drawn0.refl _ | apply Drawn0.step)⟩
          · replace c20 := Bool.eq_false_iff.mpr c20
            subst c20
            have H1 : (some false) = some r := by rw [if_neg (show ¬ (false = true) by decide)] at H; exact H
            clear H
            have H := H1
            clear H1
            obtain rfl := Option.some.inj H
            go_wp2_with (first | ((with_reducible refine gate_callee (f := 16) rfl ?_); refine goesL_ (some 56) rfl rfl Try.func16 (by kernel_rfl) rfl #[.int .i64 a0, .int .i64 a2] rfl (by (try simp only [List.map_toArray, List.map_cons, List.map_nil]); first | done | rfl | (simp only [List.length_drop, List.length_take]; rfl)) ?_; (with_reducible refine (gate_Worst.calls a0 a2 t109 t110 false _ A18.out).mono ?_); rintro e w' ⟨rfl, ⟨nd, rfl⟩⟩; refine ⟨_, rfl, ?_⟩) | ((with_reducible refine gate_callee (f := 16) rfl ?_); refine goesL_ (some 63) rfl rfl Try.func16 (by kernel_rfl) rfl #[.int .i64 a1, .int .i64 a3] rfl (by (try simp only [List.map_toArray, List.map_cons, List.map_nil]); first | done | rfl | (simp only [List.length_drop, List.length_take]; rfl)) ?_; (with_reducible refine (gate_Worst.calls a1 a3 t112 t113 t114 _ A19.out).mono ?_); rintro e w' ⟨rfl, ⟨nd, rfl⟩⟩; refine ⟨_, rfl, ?_⟩))
            go_ret
            exact ⟨by first | rfl | (simp; done) | (simp [*]; done), by repeat (first | exact Drawn0.refl _ | apply Drawn0.step)⟩
  · replace c8 := Bool.eq_false_iff.mpr c8
    subst c8
    have H1 : (some false) = some r := by rw [if_neg (show ¬ (false = true) by decide)] at H; exact H
    clear H
    have H := H1
    clear H1
    obtain rfl := Option.some.inj H
    go_enter Try.func3, Try.ntmps3
    go_wp2_with (first | ((with_reducible refine gate_callee (f := 15) rfl ?_); refine goesL_ (some 19) rfl rfl Try.func15 (by kernel_rfl) rfl #[] rfl (by (try simp only [List.map_toArray, List.map_cons, List.map_nil]); first | done | rfl | (simp only [List.length_drop, List.length_take]; rfl)) ?_; (with_reducible refine (beadlelaw19_awake.calls  false _ A7.out).mono ?_); rintro e w' ⟨rfl, ⟨nd, rfl⟩⟩; refine ⟨_, rfl, ?_⟩))
    go_ret
    exact ⟨by first | rfl | (simp; done) | (simp [*]; done), by repeat (first | exact Drawn0.refl _ | apply Drawn0.step)⟩

/-- THE ONE PURE STATEMENT of beadlelaw19_GateLess: yours. -/
def beadlelaw19_GateLess.Pure : Prop := ∀ (a0 : Int) (a1 : Int) (a2 : Int) (a3 : Int) (a4 : Int) (a5 : Int), (Lit.int .i64 a0).wf = true → (Lit.int .i64 a1).wf = true → (Lit.int .i64 a2).wf = true → (Lit.int .i64 a3).wf = true → (Lit.int .i64 a4).wf = true → (Lit.int .i64 a5).wf = true → ∃ k, beadlelaw19_GateLess.f k a0 a1 a2 a3 a4 a5 = some true
theorem beadlelaw19_GateLess.walk (P : beadlelaw19_GateLess.Pure) (a0 : Int) (a1 : Int) (a2 : Int) (a3 : Int) (a4 : Int) (a5 : Int) (w : World) (w0 : (Lit.int .i64 a0).wf = true) (w1 : (Lit.int .i64 a1).wf = true) (w2 : (Lit.int .i64 a2).wf = true) (w3 : (Lit.int .i64 a3).wf = true) (w4 : (Lit.int .i64 a4).wf = true) (w5 : (Lit.int .i64 a5).wf = true) :
    Calls Try.prog 3 #[.int .i64 a0, .int .i64 a1, .int .i64 a2, .int .i64 a3, .int .i64 a4, .int .i64 a5] w fun e w' => e = .returned (.bool true) ∧ Below w.heap.size w w' := by
  obtain ⟨k, h⟩ := P a0 a1 a2 a3 a4 a5 w0 w1 w2 w3 w4 w5
  refine (beadlelaw19_GateLess.calls k a0 a1 a2 a3 a4 a5 true w h).mono ?_
  rintro e w' ⟨rfl, hd⟩
  exact ⟨rfl, hd.below⟩

end Go.Proofs.Ytjihjmanndhdhaa.PGateLess
