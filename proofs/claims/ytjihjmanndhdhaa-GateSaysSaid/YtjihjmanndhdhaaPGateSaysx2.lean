-- PRINTED BY print.sh 35421559b90ae4d0a3588c463048766b98c2df88dd9212a6774a882060cdf62d: not written by this session
import Derived.Test.YtjihjmanndhdhaaPGateSaysx0
import Derived.Test.YtjihjmanndhdhaaPGateSaysx1
namespace Go.Proofs.Ytjihjmanndhdhaa.PGateSays
open Go.RowKit Go.Proofs.YtjihjmanndhdhaaW.PrintWords Go.Proofs.YtjihjmanndhdhaaW.PrintLast Go.Proofs.YtjihjmanndhdhaaW.PrintMore
attribute [local go_sem] max2_int min2_int max_two min_two max_three min_three max_four min_four   -- for this text's walks alone
set_option linter.unusedVariables false
set_option linter.unusedSimpArgs false

/-! ### beadleref10_Swells: function 25 -/
mutual
def beadleref10_Swells.j0 : Nat → Int → Int → List Int → Bool → Option (Int × Bool)
  | 0, _, _, _, _ => none
  | k + 1, x0, x1, x2, x30 => if x30 = true then (some (0, false)) else (beadleref10_Swells.l0 k x0 x1 x2 0)
def beadleref10_Swells.l0 : Nat → Int → Int → List Int → Int → Option (Int × Bool)
  | 0, _, _, _, _ => none
  | k + 1, x0, x1, x2, x8 => if x8 < (x2.length : Int) then (if 0 ≤ x8 then ((beadleref10_WorstWait.f x1 (rd x2 x8)).bind fun bt122 => (if bt122.2.2 = true then (beadleref10_Swells.l0 k (wrap64 (x0 + bt122.1)) x1 x2 (wrap64 (x8 + 1))) else (some (0, false)))) else (none)) else (some (x0, true))
end
def beadleref10_Swells.f (k : Nat) (a0 : Int) (a1 : Int) (l2 : List Int) : Option (Int × Bool) := if a0 < 0 then (beadleref10_Swells.j0 k a0 a1 l2 true) else (if a0 > 2147483648 then (beadleref10_Swells.j0 k a0 a1 l2 true) else (if (l2.length : Int) > 8 then (beadleref10_Swells.j0 k a0 a1 l2 true) else (if a1 < 1 then (beadleref10_Swells.j0 k a0 a1 l2 true) else (beadleref10_Swells.j0 k a0 a1 l2 (decide (a1 > 64))))))
theorem beadleref10_Swells.mono_l : ∀ k, (∀ y0 y1 y2 y3, LeO (beadleref10_Swells.j0 k y0 y1 y2 y3) (beadleref10_Swells.j0 (k + 1) y0 y1 y2 y3)) ∧ (∀ y0 y1 y2 y3, LeO (beadleref10_Swells.l0 k y0 y1 y2 y3) (beadleref10_Swells.l0 (k + 1) y0 y1 y2 y3))
  | 0 => ⟨fun _ _ _ _ r h => by simp [beadleref10_Swells.j0] at h, fun _ _ _ _ r h => by simp [beadleref10_Swells.l0] at h⟩
  | k + 1 => by
    obtain ⟨ih0, ih1⟩ := beadleref10_Swells.mono_l k
    refine ⟨?_, ?_⟩
    · intro y0 y1 y2 y3
      unfold beadleref10_Swells.j0
      repeat' first
      | (with_reducible exact ih0 _ _ _ _)
      | (with_reducible exact ih1 _ _ _ _)
      | (with_reducible exact LeO.refl _)
      | (with_reducible exact LeO.none _)
      | (with_reducible refine LeO.ite ?_ ?_)
      | (with_reducible refine LeO.bind ?_ (fun _ => ?_))
      | exact ih0 _ _ _ _
      | exact ih1 _ _ _ _
      | exact LeO.none _
      | refine LeO.ite ?_ ?_
      | refine LeO.bind ?_ (fun _ => ?_)
    · intro y0 y1 y2 y3
      unfold beadleref10_Swells.l0
      repeat' first
      | (with_reducible exact ih0 _ _ _ _)
      | (with_reducible exact ih1 _ _ _ _)
      | (with_reducible exact LeO.refl _)
      | (with_reducible exact LeO.none _)
      | (with_reducible refine LeO.ite ?_ ?_)
      | (with_reducible refine LeO.bind ?_ (fun _ => ?_))
      | exact ih0 _ _ _ _
      | exact ih1 _ _ _ _
      | exact LeO.none _
      | refine LeO.ite ?_ ?_
      | refine LeO.bind ?_ (fun _ => ?_)
theorem beadleref10_Swells.mono : ∀ a0 a1 a2 k, LeO (beadleref10_Swells.f k a0 a1 a2) (beadleref10_Swells.f (k + 1) a0 a1 a2) := by
  intro a0 a1 a2 k
  obtain ⟨ih0, ih1⟩ := beadleref10_Swells.mono_l k
  unfold beadleref10_Swells.f
  repeat' first
      | (with_reducible exact ih0 _ _ _ _)
      | (with_reducible exact ih1 _ _ _ _)
      | (with_reducible exact LeO.refl _)
      | (with_reducible exact LeO.none _)
      | (with_reducible refine LeO.ite ?_ ?_)
      | (with_reducible refine LeO.bind ?_ (fun _ => ?_))
      | exact ih0 _ _ _ _
      | exact ih1 _ _ _ _
      | exact LeO.none _
      | refine LeO.ite ?_ ?_
      | refine LeO.bind ?_ (fun _ => ?_)
set_option maxHeartbeats 8000000 in
set_option maxRecDepth 100000 in
theorem beadleref10_Swells.calls (k : Nat) (a0 : Int) (a1 : Int) (A2 : Option Addr) (c2 : Nat) (l2 : List Int) (r1 : Int) (r2 : Bool) (w : World) (hr2 : Kd.C (Kd.int .i64) w A2 l2.length l2) (hc2 : l2.length ≤ c2) (h : beadleref10_Swells.f k a0 a1 l2 = some (r1, r2)) :
    Calls Try.prog 25 #[.int .i64 a0, .int .i64 a1, .slice A2 l2.length c2] w fun e w' => e = .returned (.tuple #[.int .i64 r1, .bool r2]) ∧ Drawn0 w w' := by
  have HR2 := Aside0.mk hr2
  have HC2 := Aside0.mk hc2
  clear hr2 hc2
  have H : (if a0 < 0 then (beadleref10_Swells.j0 k a0 a1 l2 true) else (if a0 > 2147483648 then (beadleref10_Swells.j0 k a0 a1 l2 true) else (if (l2.length : Int) > 8 then (beadleref10_Swells.j0 k a0 a1 l2 true) else (if a1 < 1 then (beadleref10_Swells.j0 k a0 a1 l2 true) else (beadleref10_Swells.j0 k a0 a1 l2 (decide (a1 > 64))))))) = some (r1, r2) := h
  clear h
  have HC4 := Aside0.mk H
  clear H
  go_enter Try.func25, Try.ntmps25
  go_upto_region 1 with (fail)
  go_cut [30] (fun v30 wc => ∃ (kq : Nat) (x30_3 : Bool), v30 = .bool x30_3 ∧ Aside0 (beadleref10_Swells.j0 kq a0 a1 l2 x30_3 = some (r1, r2)) ∧ Aside0 (kq ≤ k) ∧ Drawn0 w wc)
  case first =>
    have H := HC4.out
    clear HC4
    by_cases c5 : a0 < 0
    · rw [if_pos c5] at H
      have c5b0 : decide (a0 < 0) = true := decide_eq_true c5
      clear c5
      (first | rw [c5b0] | (simp only [i64_w, i32_w]; rw [c5b0]) | skip)
      have H' := Aside0.mk H
      clear H
      go_wp2
      go_meet
      case rel => exact ⟨_, (true), (by first | rfl | (simp; done) | (simp [*]; done)), H', ⟨by first | omega | exact Nat.le_refl _⟩, by repeat (first | exact Drawn0.refl _ | apply Drawn0.step)⟩
    · rw [if_neg c5] at H
      have c5b0 : decide (a0 < 0) = false := decide_eq_false c5
      clear c5
      (first | rw [c5b0] | (simp only [i64_w, i32_w]; rw [c5b0]) | skip)
      by_cases c6 : a0 > 2147483648
      · rw [if_pos c6] at H
        have c6b0 : decide (2147483648 < a0) = true := decide_eq_true c6
        clear c6
        have H' := Aside0.mk H
        clear H
        go_wp2
        go_meet
        case rel => exact ⟨_, (true), (by first | rfl | (simp; done) | (simp [*]; done)), H', ⟨by first | omega | exact Nat.le_refl _⟩, by repeat (first | exact Drawn0.refl _ | apply Drawn0.step)⟩
      · rw [if_neg c6] at H
        have c6b0 : decide (2147483648 < a0) = false := decide_eq_false c6
        clear c6
        by_cases c7 : (l2.length : Int) > 8
        · rw [if_pos c7] at H
          have c7b0 : decide (8 < (l2.length : Int)) = true := decide_eq_true c7
          have c7b1 : decide (8 < l2.length) = true := decide_eq_true (by omega)
          clear c7
          have H' := Aside0.mk H
          clear H
          go_wp2
          go_meet
          case rel => exact ⟨_, (true), (by first | rfl | (simp; done) | (simp [*]; done)), H', ⟨by first | omega | exact Nat.le_refl _⟩, by repeat (first | exact Drawn0.refl _ | apply Drawn0.step)⟩
        · rw [if_neg c7] at H
          have c7b0 : decide (8 < (l2.length : Int)) = false := decide_eq_false c7
          have c7b1 : decide (8 < l2.length) = false := decide_eq_false (by omega)
          clear c7
          by_cases c8 : a1 < 1
          · rw [if_pos c8] at H
            have c8b0 : decide (a1 < 1) = true := decide_eq_true c8
            clear c8
            have H' := Aside0.mk H
            clear H
            go_wp2
            go_meet
            case rel => exact ⟨_, (true), (by first | rfl | (simp; done) | (simp [*]; done)), H', ⟨by first | omega | exact Nat.le_refl _⟩, by repeat (first | exact Drawn0.refl _ | apply Drawn0.step)⟩
          · rw [if_neg c8] at H
            have c8b0 : decide (a1 < 1) = false := decide_eq_false c8
            clear c8
            have H' := Aside0.mk H
            clear H
            go_wp2
            go_meet
            case rel => exact ⟨_, (decide (a1 > 64)), (by first | rfl | (simp; done) | (simp [*]; done)), H', ⟨by first | omega | exact Nat.le_refl _⟩, by repeat (first | exact Drawn0.refl _ | apply Drawn0.step)⟩
  case rest =>
    clear HC4
    try clear c2
    try clear p2
    try clear c5
    try clear c5b0
    try clear c6
    try clear c6b0
    try clear c7
    try clear c7b0
    try clear c7b1
    try clear c8
    try clear c8b0
    obtain ⟨kq, x30_3, rfl, HA, HJ3, ⟨mc3, rfl⟩⟩ := hcut
    cases kq with
    | zero => exact absurd HA.out (by simp [beadleref10_Swells.j0])
    | succ kj3 =>
      have H := HA.out
      clear HA
      simp only [beadleref10_Swells.j0] at H
      by_cases c9 : x30_3 = true
      · subst c9
        have H1 : (some (0, false)) = some (r1, r2) := by rw [if_pos rfl] at H; exact H
        clear H
        have H := H1
        clear H1
        simp only [Option.some.injEq, Prod.mk.injEq] at H
        obtain ⟨rfl, rfl⟩ := H
        go_wp2
        go_ret2
        exact ⟨by first | rfl | (simp; done) | (simp [*]; done), by repeat (first | exact Drawn0.refl _ | apply Drawn0.step)⟩
      · replace c9 := Bool.eq_false_iff.mpr c9
        subst c9
        have H1 : (beadleref10_Swells.l0 kj3 a0 a1 l2 0) = some (r1, r2) := by rw [if_neg (show ¬ (false = true) by decide)] at H; exact H
        clear H
        have H := H1
        clear H1
        have H' := Aside0.mk H
        clear H
        go_wp2
        go_loopg [0, 8] kj3 (fun kq v0 v8 w' => ∃ (x0_2 : Int) (x8_2 : Int), v0 = .int .i64 x0_2 ∧ v8 = .int .i64 x8_2 ∧ Aside0 (beadleref10_Swells.l0 kq x0_2 a1 l2 x8_2 = some (r1, r2)) ∧ Aside0 (kq ≤ kj3) ∧ Drawn0 w w')
        case atStart => exact ⟨(a0), (0), (by first | rfl | (simp; done) | (simp [*]; done)), (by first | rfl | (simp; done) | (simp [*]; done)), H', ⟨Nat.le_refl _⟩, by repeat (first | exact Drawn0.refl _ | apply Drawn0.step)⟩
        case round =>
          clear H'
          try clear c2
          try clear p2
          try clear c3
          try clear c5
          try clear c5b0
          try clear c6
          try clear c6b0
          try clear c7
          try clear c7b0
          try clear c7b1
          try clear c8
          try clear c8b0
          try clear c9
          try clear p2
          obtain ⟨x0_2, x8_2, rfl, rfl, HA, HK2, ⟨m2, rfl⟩⟩ := hrel
          cases gk with
          | zero => exact absurd HA.out (by simp [beadleref10_Swells.l0])
          | succ k2 =>
            have H := HA.out
            clear HA
            simp only [beadleref10_Swells.l0] at H
            by_cases c10 : x8_2 < (l2.length : Int)
            · rw [if_pos c10] at H
              have c10b0 : decide (x8_2 < (l2.length : Int)) = true := decide_eq_true c10
              clear c10
              by_cases c11 : 0 ≤ x8_2
              · rw [if_pos c11] at H
                have c11b0 : decide (0 ≤ x8_2) = true := decide_eq_true c11
                clear c11
                replace H := Option.bind_eq_some_iff.mp H
                obtain ⟨⟨t122, t123, t124⟩, A120, H⟩ := H
                replace H : (if t124 = true then (beadleref10_Swells.l0 k2 (wrap64 (x0_2 + t122)) a1 l2 (wrap64 (x8_2 + 1))) else (some (0, false))) = some (r1, r2) := H
                have A12 := Aside0.mk A120
                clear A120
                by_cases c13 : t124 = true
                · subst c13
                  have H1 : (beadleref10_Swells.l0 k2 (wrap64 (x0_2 + t122)) a1 l2 (wrap64 (x8_2 + 1))) = some (r1, r2) := by rw [if_pos rfl] at H; exact H
                  clear H
                  have H := H1
                  clear H1
                  have H' := Aside0.mk H
                  clear H
                  have p121 : 0 ≤ (x8_2 : Int) := of_decide_eq_true (by first | (with_reducible assumption) | assumption)
                  have q121 : x8_2 < (l2.length : Int) := of_decide_eq_true (by first | (with_reducible assumption) | assumption)
                  obtain ⟨ad121, e121, hx121_0⟩ := Kd.at_int HR2.out x8_2 p121 q121
                  cases e121
                  replace p121 := eq_true p121
                  replace q121 := eq_true q121
                  go_wp2_with (first | ((with_reducible refine gate_callee (f := 24) rfl ?_); refine goesL_ (some 43) rfl rfl Try.func24 (by kernel_rfl) rfl #[.int .i64 a1, .int .i64 (rd l2 x8_2)] rfl (by (try simp only [List.map_toArray, List.map_cons, List.map_nil]); first | done | rfl | (simp only [List.length_drop, List.length_take]; rfl)) ?_; (with_reducible refine (beadleref10_WorstWait.calls a1 (rd l2 x8_2) t122 t123 true _ A12.out).mono ?_); rintro e w' ⟨rfl, ⟨nd, rfl⟩⟩; refine ⟨_, rfl, ?_⟩))
                  go_roundg k2
                  case measure => have := HJ3.out; have := HK2.out; omega
                  case rel => exact ⟨(wrap64 (x0_2 + t122)), (wrap64 (x8_2 + 1)), (by first | rfl | (simp; done) | (simp [*]; done)), (by first | rfl | (simp; done) | (simp [*]; done)), H', ⟨by have := HJ3.out; have := HK2.out; omega⟩, by repeat (first | exact Drawn0.refl _ | apply Drawn0.step)⟩
                · replace c13 := Bool.eq_false_iff.mpr c13
                  subst c13
                  have H1 : (some (0, false)) = some (r1, r2) := by rw [if_neg (show ¬ (false = true) by decide)] at H; exact H
                  clear H
                  have H := H1
                  clear H1
                  simp only [Option.some.injEq, Prod.mk.injEq] at H
                  obtain ⟨rfl, rfl⟩ := H
                  have p121 : 0 ≤ (x8_2 : Int) := of_decide_eq_true (by first | (with_reducible assumption) | assumption)
                  have q121 : x8_2 < (l2.length : Int) := of_decide_eq_true (by first | (with_reducible assumption) | assumption)
                  obtain ⟨ad121, e121, hx121_0⟩ := Kd.at_int HR2.out x8_2 p121 q121
                  cases e121
                  replace p121 := eq_true p121
                  replace q121 := eq_true q121
                  go_wp2_with (first | ((with_reducible refine gate_callee (f := 24) rfl ?_); refine goesL_ (some 43) rfl rfl Try.func24 (by kernel_rfl) rfl #[.int .i64 a1, .int .i64 (rd l2 x8_2)] rfl (by (try simp only [List.map_toArray, List.map_cons, List.map_nil]); first | done | rfl | (simp only [List.length_drop, List.length_take]; rfl)) ?_; (with_reducible refine (beadleref10_WorstWait.calls a1 (rd l2 x8_2) t122 t123 false _ A12.out).mono ?_); rintro e w' ⟨rfl, ⟨nd, rfl⟩⟩; refine ⟨_, rfl, ?_⟩))
                  go_ret2
                  exact ⟨by first | rfl | (simp; done) | (simp [*]; done), by repeat (first | exact Drawn0.refl _ | apply Drawn0.step)⟩
              · rw [if_neg c11] at H
                exact absurd H (by simp)
            · rw [if_neg c10] at H
              have c10b0 : decide (x8_2 < (l2.length : Int)) = false := decide_eq_false c10
              clear c10
              simp only [Option.some.injEq, Prod.mk.injEq] at H
              obtain ⟨rfl, rfl⟩ := H
              go_wp2
              go_ret2
              exact ⟨by first | rfl | (simp; done) | (simp [*]; done), by repeat (first | exact Drawn0.refl _ | apply Drawn0.step)⟩

/-! ### beadleref10_Enough: function 26 -/
def beadleref10_Enough.f (a0 : Int) (a1 : Int) (a2 : Int) (a3 : Int) : Option (Bool) := (beadleref10_WorstWait.f a0 a1).bind fun bt125 => (if bt125.2.2 = true then (if bt125.2.1 ≤ a2 then (some (decide (bt125.2.1 ≤ a3))) else (some false)) else (some false))
set_option maxHeartbeats 8000000 in
set_option maxRecDepth 100000 in
theorem beadleref10_Enough.calls (a0 : Int) (a1 : Int) (a2 : Int) (a3 : Int) (r : Bool) (w : World) (h : beadleref10_Enough.f a0 a1 a2 a3 = some r) :
    Calls Try.prog 26 #[.int .i64 a0, .int .i64 a1, .int .i64 a2, .int .i64 a3] w fun e w' => e = .returned (.bool r) ∧ Drawn0 w w' := by
  have H : ((beadleref10_WorstWait.f a0 a1).bind fun bt125 => (if bt125.2.2 = true then (if bt125.2.1 ≤ a2 then (some (decide (bt125.2.1 ≤ a3))) else (some false)) else (some false))) = some r := h
  clear h
  replace H := Option.bind_eq_some_iff.mp H
  obtain ⟨⟨t125, t126, t127⟩, A50, H⟩ := H
  replace H : (if t127 = true then (if t126 ≤ a2 then (some (decide (t126 ≤ a3))) else (some false)) else (some false)) = some r := H
  have A5 := Aside0.mk A50
  clear A50
  by_cases c6 : t127 = true
  · subst c6
    have H1 : (if t126 ≤ a2 then (some (decide (t126 ≤ a3))) else (some false)) = some r := by rw [if_pos rfl] at H; exact H
    clear H
    have H := H1
    clear H1
    by_cases c7 : t126 ≤ a2
    · rw [if_pos c7] at H
      have c7b0 : decide (t126 ≤ a2) = true := decide_eq_true c7
      clear c7
      obtain rfl := Option.some.inj H
      go_enter Try.func26, Try.ntmps26
      go_wp2_with (first | ((with_reducible refine gate_callee (f := 24) rfl ?_); refine goesL_ (some 15) rfl rfl Try.func24 (by kernel_rfl) rfl #[.int .i64 a0, .int .i64 a1] rfl (by (try simp only [List.map_toArray, List.map_cons, List.map_nil]); first | done | rfl | (simp only [List.length_drop, List.length_take]; rfl)) ?_; (with_reducible refine (beadleref10_WorstWait.calls a0 a1 t125 t126 true _ A5.out).mono ?_); rintro e w' ⟨rfl, ⟨nd, rfl⟩⟩; refine ⟨_, rfl, ?_⟩))
      go_ret
      exact ⟨by first | rfl | (simp; done) | (simp [*]; done), by repeat (first | exact Drawn0.refl _ | apply Drawn0.step)⟩
    · rw [if_neg c7] at H
      have c7b0 : decide (t126 ≤ a2) = false := decide_eq_false c7
      clear c7
      obtain rfl := Option.some.inj H
      go_enter Try.func26, Try.ntmps26
      go_wp2_with (first | ((with_reducible refine gate_callee (f := 24) rfl ?_); refine goesL_ (some 15) rfl rfl Try.func24 (by kernel_rfl) rfl #[.int .i64 a0, .int .i64 a1] rfl (by (try simp only [List.map_toArray, List.map_cons, List.map_nil]); first | done | rfl | (simp only [List.length_drop, List.length_take]; rfl)) ?_; (with_reducible refine (beadleref10_WorstWait.calls a0 a1 t125 t126 true _ A5.out).mono ?_); rintro e w' ⟨rfl, ⟨nd, rfl⟩⟩; refine ⟨_, rfl, ?_⟩))
      go_ret
      exact ⟨by first | rfl | (simp; done) | (simp [*]; done), by repeat (first | exact Drawn0.refl _ | apply Drawn0.step)⟩
  · replace c6 := Bool.eq_false_iff.mpr c6
    subst c6
    have H1 : (some false) = some r := by rw [if_neg (show ¬ (false = true) by decide)] at H; exact H
    clear H
    have H := H1
    clear H1
    obtain rfl := Option.some.inj H
    go_enter Try.func26, Try.ntmps26
    go_wp2_with (first | ((with_reducible refine gate_callee (f := 24) rfl ?_); refine goesL_ (some 15) rfl rfl Try.func24 (by kernel_rfl) rfl #[.int .i64 a0, .int .i64 a1] rfl (by (try simp only [List.map_toArray, List.map_cons, List.map_nil]); first | done | rfl | (simp only [List.length_drop, List.length_take]; rfl)) ?_; (with_reducible refine (beadleref10_WorstWait.calls a0 a1 t125 t126 false _ A5.out).mono ?_); rintro e w' ⟨rfl, ⟨nd, rfl⟩⟩; refine ⟨_, rfl, ?_⟩))
    go_ret
    exact ⟨by first | rfl | (simp; done) | (simp [*]; done), by repeat (first | exact Drawn0.refl _ | apply Drawn0.step)⟩

/-! ### beadlelaw19_GateSays: function 6 -/
def beadlelaw19_GateSays.f (k : Nat) (a0 : Int) (a1 : Int) (a2 : Int) (a3 : Int) (a4 : Int) (l5 : List Int) : Option (Bool) := (beadlelaw19_awake.f).bind fun t128 => (if t128 = true then (if (l5.length : Int) > 20 then (some true) else ((gate_Worst.f a0 a1).bind fun bt129 => ((beadleref10_WorstWait.f a0 a1).bind fun bt132 => ((gate_Swells.f k a4 a0 l5).bind fun bt135 => ((beadleref10_Swells.f k a4 a0 l5).bind fun bt137 => (if bt129.1 = bt132.1 then (if bt129.2.1 = bt132.2.1 then (if (bt129.2.2 == bt132.2.2) = true then ((gate_Enough.f a0 a1 a2 a3).bind fun t139 => ((beadleref10_Enough.f a0 a1 a2 a3).bind fun t140 => (if (t139 == t140) = true then (if bt135.1 = bt137.1 then (if (bt135.2 == bt137.2) = true then ((gate_Fits.f k a4 a2 a0 l5).bind fun t141 => (if bt137.2 = true then (some (t141 == (decide (bt137.1 ≤ a2)))) else (some (t141 == false)))) else (some false)) else (some false)) else (some false)))) else (some false)) else (some false)) else (some false))))))) else (some false))
theorem beadlelaw19_GateSays.mono : ∀ a0 a1 a2 a3 a4 a5 k, LeO (beadlelaw19_GateSays.f k a0 a1 a2 a3 a4 a5) (beadlelaw19_GateSays.f (k + 1) a0 a1 a2 a3 a4 a5) := by
  intro a0 a1 a2 a3 a4 a5 k
  unfold beadlelaw19_GateSays.f
  repeat' first
      | (with_reducible exact beadleref10_Swells.mono _ _ _ _)
      | (with_reducible exact gate_Fits.mono _ _ _ _ _)
      | (with_reducible exact gate_Swells.mono _ _ _ _)
      | (with_reducible exact LeO.refl _)
      | (with_reducible exact LeO.none _)
      | (with_reducible refine LeO.ite ?_ ?_)
      | (with_reducible refine LeO.bind ?_ (fun _ => ?_))
      | exact beadleref10_Swells.mono _ _ _ _
      | exact gate_Fits.mono _ _ _ _ _
      | exact gate_Swells.mono _ _ _ _
      | exact LeO.none _
      | refine LeO.ite ?_ ?_
      | refine LeO.bind ?_ (fun _ => ?_)
set_option maxHeartbeats 8000000 in
set_option maxRecDepth 100000 in
theorem beadlelaw19_GateSays.calls (k : Nat) (a0 : Int) (a1 : Int) (a2 : Int) (a3 : Int) (a4 : Int) (A5 : Option Addr) (c5 : Nat) (l5 : List Int) (r : Bool) (w : World) (hr5 : Kd.C (Kd.int .i64) w A5 l5.length l5) (hc5 : l5.length ≤ c5) (h : beadlelaw19_GateSays.f k a0 a1 a2 a3 a4 l5 = some r) :
    Calls Try.prog 6 #[.int .i64 a0, .int .i64 a1, .int .i64 a2, .int .i64 a3, .int .i64 a4, .slice A5 l5.length c5] w fun e w' => e = .returned (.bool r) ∧ Drawn0 w w' := by
  have HR5 := Aside0.mk hr5
  have HC5 := Aside0.mk hc5
  clear hr5 hc5
  have H : ((beadlelaw19_awake.f).bind fun t128 => (if t128 = true then (if (l5.length : Int) > 20 then (some true) else ((gate_Worst.f a0 a1).bind fun bt129 => ((beadleref10_WorstWait.f a0 a1).bind fun bt132 => ((gate_Swells.f k a4 a0 l5).bind fun bt135 => ((beadleref10_Swells.f k a4 a0 l5).bind fun bt137 => (if bt129.1 = bt132.1 then (if bt129.2.1 = bt132.2.1 then (if (bt129.2.2 == bt132.2.2) = true then ((gate_Enough.f a0 a1 a2 a3).bind fun t139 => ((beadleref10_Enough.f a0 a1 a2 a3).bind fun t140 => (if (t139 == t140) = true then (if bt135.1 = bt137.1 then (if (bt135.2 == bt137.2) = true then ((gate_Fits.f k a4 a2 a0 l5).bind fun t141 => (if bt137.2 = true then (some (t141 == (decide (bt137.1 ≤ a2)))) else (some (t141 == false)))) else (some false)) else (some false)) else (some false)))) else (some false)) else (some false)) else (some false))))))) else (some false))) = some r := h
  clear h
  replace H := Option.bind_eq_some_iff.mp H
  obtain ⟨t128, A70, H⟩ := H
  replace H : (if t128 = true then (if (l5.length : Int) > 20 then (some true) else ((gate_Worst.f a0 a1).bind fun bt129 => ((beadleref10_WorstWait.f a0 a1).bind fun bt132 => ((gate_Swells.f k a4 a0 l5).bind fun bt135 => ((beadleref10_Swells.f k a4 a0 l5).bind fun bt137 => (if bt129.1 = bt132.1 then (if bt129.2.1 = bt132.2.1 then (if (bt129.2.2 == bt132.2.2) = true then ((gate_Enough.f a0 a1 a2 a3).bind fun t139 => ((beadleref10_Enough.f a0 a1 a2 a3).bind fun t140 => (if (t139 == t140) = true then (if bt135.1 = bt137.1 then (if (bt135.2 == bt137.2) = true then ((gate_Fits.f k a4 a2 a0 l5).bind fun t141 => (if bt137.2 = true then (some (t141 == (decide (bt137.1 ≤ a2)))) else (some (t141 == false)))) else (some false)) else (some false)) else (some false)))) else (some false)) else (some false)) else (some false))))))) else (some false)) = some r := H
  have A7 := Aside0.mk A70
  clear A70
  by_cases c8 : t128 = true
  · subst c8
    have H1 : (if (l5.length : Int) > 20 then (some true) else ((gate_Worst.f a0 a1).bind fun bt129 => ((beadleref10_WorstWait.f a0 a1).bind fun bt132 => ((gate_Swells.f k a4 a0 l5).bind fun bt135 => ((beadleref10_Swells.f k a4 a0 l5).bind fun bt137 => (if bt129.1 = bt132.1 then (if bt129.2.1 = bt132.2.1 then (if (bt129.2.2 == bt132.2.2) = true then ((gate_Enough.f a0 a1 a2 a3).bind fun t139 => ((beadleref10_Enough.f a0 a1 a2 a3).bind fun t140 => (if (t139 == t140) = true then (if bt135.1 = bt137.1 then (if (bt135.2 == bt137.2) = true then ((gate_Fits.f k a4 a2 a0 l5).bind fun t141 => (if bt137.2 = true then (some (t141 == (decide (bt137.1 ≤ a2)))) else (some (t141 == false)))) else (some false)) else (some false)) else (some false)))) else (some false)) else (some false)) else (some false))))))) = some r := by rw [if_pos rfl] at H; exact H
    clear H
    have H := H1
    clear H1
    by_cases c9 : (l5.length : Int) > 20
    · rw [if_pos c9] at H
      have c9b0 : decide (20 < (l5.length : Int)) = true := decide_eq_true c9
      have c9b1 : decide (20 < l5.length) = true := decide_eq_true (by omega)
      clear c9
      obtain rfl := Option.some.inj H
      go_enter Try.func6, Try.ntmps6
      go_wp2_with (first | ((with_reducible refine gate_callee (f := 15) rfl ?_); refine goesL_ (some 23) rfl rfl Try.func15 (by kernel_rfl) rfl #[] rfl (by (try simp only [List.map_toArray, List.map_cons, List.map_nil]); first | done | rfl | (simp only [List.length_drop, List.length_take]; rfl)) ?_; (with_reducible refine (beadlelaw19_awake.calls  true _ A7.out).mono ?_); rintro e w' ⟨rfl, ⟨nd, rfl⟩⟩; refine ⟨_, rfl, ?_⟩))
      go_ret
      exact ⟨by first | rfl | (simp; done) | (simp [*]; done), by repeat (first | exact Drawn0.refl _ | apply Drawn0.step)⟩
    · rw [if_neg c9] at H
      have c9b0 : decide (20 < (l5.length : Int)) = false := decide_eq_false c9
      have c9b1 : decide (20 < l5.length) = false := decide_eq_false (by omega)
      clear c9
      replace H := Option.bind_eq_some_iff.mp H
      obtain ⟨⟨t129, t130, t131⟩, A100, H⟩ := H
      replace H : ((beadleref10_WorstWait.f a0 a1).bind fun bt132 => ((gate_Swells.f k a4 a0 l5).bind fun bt135 => ((beadleref10_Swells.f k a4 a0 l5).bind fun bt137 => (if t129 = bt132.1 then (if t130 = bt132.2.1 then (if (t131 == bt132.2.2) = true then ((gate_Enough.f a0 a1 a2 a3).bind fun t139 => ((beadleref10_Enough.f a0 a1 a2 a3).bind fun t140 => (if (t139 == t140) = true then (if bt135.1 = bt137.1 then (if (bt135.2 == bt137.2) = true then ((gate_Fits.f k a4 a2 a0 l5).bind fun t141 => (if bt137.2 = true then (some (t141 == (decide (bt137.1 ≤ a2)))) else (some (t141 == false)))) else (some false)) else (some false)) else (some false)))) else (some false)) else (some false)) else (some false))))) = some r := H
      have A10 := Aside0.mk A100
      clear A100
      replace H := Option.bind_eq_some_iff.mp H
      obtain ⟨⟨t132, t133, t134⟩, A110, H⟩ := H
      replace H : ((gate_Swells.f k a4 a0 l5).bind fun bt135 => ((beadleref10_Swells.f k a4 a0 l5).bind fun bt137 => (if t129 = t132 then (if t130 = t133 then (if (t131 == t134) = true then ((gate_Enough.f a0 a1 a2 a3).bind fun t139 => ((beadleref10_Enough.f a0 a1 a2 a3).bind fun t140 => (if (t139 == t140) = true then (if bt135.1 = bt137.1 then (if (bt135.2 == bt137.2) = true then ((gate_Fits.f k a4 a2 a0 l5).bind fun t141 => (if bt137.2 = true then (some (t141 == (decide (bt137.1 ≤ a2)))) else (some (t141 == false)))) else (some false)) else (some false)) else (some false)))) else (some false)) else (some false)) else (some false)))) = some r := H
      have A11 := Aside0.mk A110
      clear A110
      replace H := Option.bind_eq_some_iff.mp H
      obtain ⟨⟨t135, t136⟩, A120, H⟩ := H
      replace H : ((beadleref10_Swells.f k a4 a0 l5).bind fun bt137 => (if t129 = t132 then (if t130 = t133 then (if (t131 == t134) = true then ((gate_Enough.f a0 a1 a2 a3).bind fun t139 => ((beadleref10_Enough.f a0 a1 a2 a3).bind fun t140 => (if (t139 == t140) = true then (if t135 = bt137.1 then (if (t136 == bt137.2) = true then ((gate_Fits.f k a4 a2 a0 l5).bind fun t141 => (if bt137.2 = true then (some (t141 == (decide (bt137.1 ≤ a2)))) else (some (t141 == false)))) else (some false)) else (some false)) else (some false)))) else (some false)) else (some false)) else (some false))) = some r := H
      have A12 := Aside0.mk A120
      clear A120
      replace H := Option.bind_eq_some_iff.mp H
      obtain ⟨⟨t137, t138⟩, A130, H⟩ := H
      replace H : (if t129 = t132 then (if t130 = t133 then (if (t131 == t134) = true then ((gate_Enough.f a0 a1 a2 a3).bind fun t139 => ((beadleref10_Enough.f a0 a1 a2 a3).bind fun t140 => (if (t139 == t140) = true then (if t135 = t137 then (if (t136 == t138) = true then ((gate_Fits.f k a4 a2 a0 l5).bind fun t141 => (if t138 = true then (some (t141 == (decide (t137 ≤ a2)))) else (some (t141 == false)))) else (some false)) else (some false)) else (some false)))) else (some false)) else (some false)) else (some false)) = some r := H
      have A13 := Aside0.mk A130
      clear A130
      by_cases c14 : t129 = t132
      · rw [if_pos c14] at H
        have c14b0 : (t129 == t132) = true := beq_iff_eq.mpr c14
        have c14b1 : (t129 != t132) = false := bne_eq_false_iff_eq.mpr c14
        clear c14
        by_cases c15 : t130 = t133
        · rw [if_pos c15] at H
          have c15b0 : (t130 == t133) = true := beq_iff_eq.mpr c15
          have c15b1 : (t130 != t133) = false := bne_eq_false_iff_eq.mpr c15
          clear c15
          by_cases c16 : (t131 == t134) = true
          · rw [if_pos c16] at H
            have c16b0 : (t131 == t134) = true := c16
            (try (have c16b1 : decide (t131 = t134) = true := by simpa using c16))
            (try (have c16b2 : (t131 == t134) = true := by simpa using c16))
            clear c16
            replace H := Option.bind_eq_some_iff.mp H
            obtain ⟨t139, A170, H⟩ := H
            replace H : ((beadleref10_Enough.f a0 a1 a2 a3).bind fun t140 => (if (t139 == t140) = true then (if t135 = t137 then (if (t136 == t138) = true then ((gate_Fits.f k a4 a2 a0 l5).bind fun t141 => (if t138 = true then (some (t141 == (decide (t137 ≤ a2)))) else (some (t141 == false)))) else (some false)) else (some false)) else (some false))) = some r := H
            have A17 := Aside0.mk A170
            clear A170
            replace H := Option.bind_eq_some_iff.mp H
            obtain ⟨t140, A180, H⟩ := H
            replace H : (if (t139 == t140) = true then (if t135 = t137 then (if (t136 == t138) = true then ((gate_Fits.f k a4 a2 a0 l5).bind fun t141 => (if t138 = true then (some (t141 == (decide (t137 ≤ a2)))) else (some (t141 == false)))) else (some false)) else (some false)) else (some false)) = some r := H
            have A18 := Aside0.mk A180
            clear A180
            by_cases c19 : (t139 == t140) = true
            · rw [if_pos c19] at H
              have c19b0 : (t139 == t140) = true := c19
              (try (have c19b1 : decide (t139 = t140) = true := by simpa using c19))
              (try (have c19b2 : (t139 == t140) = true := by simpa using c19))
              clear c19
              by_cases c20 : t135 = t137
              · rw [if_pos c20] at H
                have c20b0 : (t135 == t137) = true := beq_iff_eq.mpr c20
                have c20b1 : (t135 != t137) = false := bne_eq_false_iff_eq.mpr c20
                clear c20
                by_cases c21 : (t136 == t138) = true
                · rw [if_pos c21] at H
                  have c21b0 : (t136 == t138) = true := c21
                  (try (have c21b1 : decide (t136 = t138) = true := by simpa using c21))
                  (try (have c21b2 : (t136 == t138) = true := by simpa using c21))
                  clear c21
                  replace H := Option.bind_eq_some_iff.mp H
                  obtain ⟨t141, A220, H⟩ := H
                  replace H : (if t138 = true then (some (t141 == (decide (t137 ≤ a2)))) else (some (t141 == false))) = some r := H
                  have A22 := Aside0.mk A220
                  clear A220
                  by_cases c23 : t138 = true
                  · subst c23
                    have H1 : (some (t141 == (decide (t137 ≤ a2)))) = some r := by rw [if_pos rfl] at H; exact H
                    clear H
                    have H := H1
                    clear H1
                    obtain rfl := Option.some.inj H
                    go_enter Try.func6, Try.ntmps6
                    go_wp2_with (first | ((with_reducible refine gate_callee (f := 15) rfl ?_); refine goesL_ (some 23) rfl rfl Try.func15 (by kernel_rfl) rfl #[] rfl (by (try simp only [List.map_toArray, List.map_cons, List.map_nil]); first | done | rfl | (simp only [List.length_drop, List.length_take]; rfl)) ?_; (with_reducible refine (beadlelaw19_awake.calls  true _ A7.out).mono ?_); rintro e w' ⟨rfl, ⟨nd, rfl⟩⟩; refine ⟨_, rfl, ?_⟩) | ((with_reducible refine gate_callee (f := 16) rfl ?_); refine goesL_ (some 31) rfl rfl Try.func16 (by kernel_rfl) rfl #[.int .i64 a0, .int .i64 a1] rfl (by (try simp only [List.map_toArray, List.map_cons, List.map_nil]); first | done | rfl | (simp only [List.length_drop, List.length_take]; rfl)) ?_; (with_reducible refine (gate_Worst.calls a0 a1 t129 t130 t131 _ A10.out).mono ?_); rintro e w' ⟨rfl, ⟨nd, rfl⟩⟩; refine ⟨_, rfl, ?_⟩) | ((with_reducible refine gate_callee (f := 24) rfl ?_); refine goesL_ (some 38) rfl rfl Try.func24 (by kernel_rfl) rfl #[.int .i64 a0, .int .i64 a1] rfl (by (try simp only [List.map_toArray, List.map_cons, List.map_nil]); first | done | rfl | (simp only [List.length_drop, List.length_take]; rfl)) ?_; (with_reducible refine (beadleref10_WorstWait.calls a0 a1 t132 t133 t134 _ A11.out).mono ?_); rintro e w' ⟨rfl, ⟨nd, rfl⟩⟩; refine ⟨_, rfl, ?_⟩) | ((with_reducible refine gate_callee (f := 22) rfl ?_); refine goesL_ (some 46) rfl rfl Try.func22 (by kernel_rfl) rfl #[.int .i64 a4, .int .i64 a0, .slice A5 l5.length c5] rfl (by (try simp only [List.map_toArray, List.map_cons, List.map_nil]); first | done | rfl | (simp only [List.length_drop, List.length_take]; rfl)) ?_; (with_reducible refine (gate_Swells.calls k a4 a0 _ _ l5 t135 t136 _ ?side1 ?side2 A12.out).mono ?_); (case side1 => repeat (first | exact HR5.out | (with_reducible refine Kd.C_alloc ?_ _) | (with_reducible refine Kd.C_drewN ?_ _) | (with_reducible refine Kd.C_drew ?_))); (case side2 => exact HC5.out); rintro e w' ⟨rfl, ⟨nd, rfl⟩⟩; refine ⟨_, rfl, ?_⟩) | ((with_reducible refine gate_callee (f := 25) rfl ?_); refine goesL_ (some 53) rfl rfl Try.func25 (by kernel_rfl) rfl #[.int .i64 a4, .int .i64 a0, .slice A5 l5.length c5] rfl (by (try simp only [List.map_toArray, List.map_cons, List.map_nil]); first | done | rfl | (simp only [List.length_drop, List.length_take]; rfl)) ?_; (with_reducible refine (beadleref10_Swells.calls k a4 a0 _ _ l5 t137 true _ ?side1 ?side2 A13.out).mono ?_); (case side1 => repeat (first | exact HR5.out | (with_reducible refine Kd.C_alloc ?_ _) | (with_reducible refine Kd.C_drewN ?_ _) | (with_reducible refine Kd.C_drew ?_))); (case side2 => exact HC5.out); rintro e w' ⟨rfl, ⟨nd, rfl⟩⟩; refine ⟨_, rfl, ?_⟩) | (go_at_call 17; (with_reducible refine (gate_Enough.calls a0 a1 a2 a3 t139 _ A17.out).mono ?_); rintro e w' ⟨rfl, ⟨nd, rfl⟩⟩) | (go_at_call 26; (with_reducible refine (beadleref10_Enough.calls a0 a1 a2 a3 t140 _ A18.out).mono ?_); rintro e w' ⟨rfl, ⟨nd, rfl⟩⟩) | (go_at_call 23; (with_reducible refine (gate_Fits.calls k a4 a2 a0 _ _ l5 t141 _ ?side1 ?side2 A22.out).mono ?_); (case side1 => repeat (first | exact HR5.out | (with_reducible refine Kd.C_alloc ?_ _) | (with_reducible refine Kd.C_drewN ?_ _) | (with_reducible refine Kd.C_drew ?_))); (case side2 => exact HC5.out); rintro e w' ⟨rfl, ⟨nd, rfl⟩⟩))
                    go_ret
                    exact ⟨by first | rfl | (simp; done) | (simp [*]; done), by repeat (first | exact Drawn0.refl _ | apply Drawn0.step)⟩
                  · replace c23 := Bool.eq_false_iff.mpr c23
                    subst c23
                    have H1 : (some (t141 == false)) = some r := by rw [if_neg (show ¬ (false = true) by decide)] at H; exact H
                    clear H
                    have H := H1
                    clear H1
                    obtain rfl := Option.some.inj H
                    go_enter Try.func6, Try.ntmps6
                    go_wp2_with (first | ((with_reducible refine gate_callee (f := 15) rfl ?_); refine goesL_ (some 23) rfl rfl Try.func15 (by kernel_rfl) rfl #[] rfl (by (try simp only [List.map_toArray, List.map_cons, List.map_nil]); first | done | rfl | (simp only [List.length_drop, List.length_take]; rfl)) ?_; (with_reducible refine (beadlelaw19_awake.calls  true _ A7.out).mono ?_); rintro e w' ⟨rfl, ⟨nd, rfl⟩⟩; refine ⟨_, rfl, ?_⟩) | ((with_reducible refine gate_callee (f := 16) rfl ?_); refine goesL_ (some 31) rfl rfl Try.func16 (by kernel_rfl) rfl #[.int .i64 a0, .int .i64 a1] rfl (by (try simp only [List.map_toArray, List.map_cons, List.map_nil]); first | done | rfl | (simp only [List.length_drop, List.length_take]; rfl)) ?_; (with_reducible refine (gate_Worst.calls a0 a1 t129 t130 t131 _ A10.out).mono ?_); rintro e w' ⟨rfl, ⟨nd, rfl⟩⟩; refine ⟨_, rfl, ?_⟩) | ((with_reducible refine gate_callee (f := 24) rfl ?_); refine goesL_ (some 38) rfl rfl Try.func24 (by kernel_rfl) rfl #[.int .i64 a0, .int .i64 a1] rfl (by (try simp only [List.map_toArray, List.map_cons, List.map_nil]); first | done | rfl | (simp only [List.length_drop, List.length_take]; rfl)) ?_; (with_reducible refine (beadleref10_WorstWait.calls a0 a1 t132 t133 t134 _ A11.out).mono ?_); rintro e w' ⟨rfl, ⟨nd, rfl⟩⟩; refine ⟨_, rfl, ?_⟩) | ((with_reducible refine gate_callee (f := 22) rfl ?_); refine goesL_ (some 46) rfl rfl Try.func22 (by kernel_rfl) rfl #[.int .i64 a4, .int .i64 a0, .slice A5 l5.length c5] rfl (by (try simp only [List.map_toArray, List.map_cons, List.map_nil]); first | done | rfl | (simp only [List.length_drop, List.length_take]; rfl)) ?_; (with_reducible refine (gate_Swells.calls k a4 a0 _ _ l5 t135 t136 _ ?side1 ?side2 A12.out).mono ?_); (case side1 => repeat (first | exact HR5.out | (with_reducible refine Kd.C_alloc ?_ _) | (with_reducible refine Kd.C_drewN ?_ _) | (with_reducible refine Kd.C_drew ?_))); (case side2 => exact HC5.out); rintro e w' ⟨rfl, ⟨nd, rfl⟩⟩; refine ⟨_, rfl, ?_⟩) | ((with_reducible refine gate_callee (f := 25) rfl ?_); refine goesL_ (some 53) rfl rfl Try.func25 (by kernel_rfl) rfl #[.int .i64 a4, .int .i64 a0, .slice A5 l5.length c5] rfl (by (try simp only [List.map_toArray, List.map_cons, List.map_nil]); first | done | rfl | (simp only [List.length_drop, List.length_take]; rfl)) ?_; (with_reducible refine (beadleref10_Swells.calls k a4 a0 _ _ l5 t137 false _ ?side1 ?side2 A13.out).mono ?_); (case side1 => repeat (first | exact HR5.out | (with_reducible refine Kd.C_alloc ?_ _) | (with_reducible refine Kd.C_drewN ?_ _) | (with_reducible refine Kd.C_drew ?_))); (case side2 => exact HC5.out); rintro e w' ⟨rfl, ⟨nd, rfl⟩⟩; refine ⟨_, rfl, ?_⟩) | (go_at_call 17; (with_reducible refine (gate_Enough.calls a0 a1 a2 a3 t139 _ A17.out).mono ?_); rintro e w' ⟨rfl, ⟨nd, rfl⟩⟩) | (go_at_call 26; (with_reducible refine (beadleref10_Enough.calls a0 a1 a2 a3 t140 _ A18.out).mono ?_); rintro e w' ⟨rfl, ⟨nd, rfl⟩⟩) | (go_at_call 23; (with_reducible refine (gate_Fits.calls k a4 a2 a0 _ _ l5 t141 _ ?side1 ?side2 A22.out).mono ?_); (case side1 => repeat (first | exact HR5.out | (with_reducible refine Kd.C_alloc ?_ _) | (with_reducible refine Kd.C_drewN ?_ _) | (with_reducible refine Kd.C_drew ?_))); (case side2 => exact HC5.out); rintro e w' ⟨rfl, ⟨nd, rfl⟩⟩))
                    go_ret
                    exact ⟨by first | rfl | (simp; done) | (simp [*]; done), by repeat (first | exact Drawn0.refl _ | apply Drawn0.step)⟩
                · rw [if_neg c21] at H
                  have c21b0 : (t136 == t138) = false := by simpa using c21
                  (try (have c21b1 : decide (t136 = t138) = false := by simpa using c21))
                  (try (have c21b2 : (t136 == t138) = false := by simpa using c21))
                  (try (have c21b3 : ¬ (t136 = t138) := by simpa using c21))
                  clear c21
                  obtain rfl := Option.some.inj H
                  go_enter Try.func6, Try.ntmps6
                  go_wp2_with (first | ((with_reducible refine gate_callee (f := 15) rfl ?_); refine goesL_ (some 23) rfl rfl Try.func15 (by kernel_rfl) rfl #[] rfl (by (try simp only [List.map_toArray, List.map_cons, List.map_nil]); first | done | rfl | (simp only [List.length_drop, List.length_take]; rfl)) ?_; (with_reducible refine (beadlelaw19_awake.calls  true _ A7.out).mono ?_); rintro e w' ⟨rfl, ⟨nd, rfl⟩⟩; refine ⟨_, rfl, ?_⟩) | ((with_reducible refine gate_callee (f := 16) rfl ?_); refine goesL_ (some 31) rfl rfl Try.func16 (by kernel_rfl) rfl #[.int .i64 a0, .int .i64 a1] rfl (by (try simp only [List.map_toArray, List.map_cons, List.map_nil]); first | done | rfl | (simp only [List.length_drop, List.length_take]; rfl)) ?_; (with_reducible refine (gate_Worst.calls a0 a1 t129 t130 t131 _ A10.out).mono ?_); rintro e w' ⟨rfl, ⟨nd, rfl⟩⟩; refine ⟨_, rfl, ?_⟩) | ((with_reducible refine gate_callee (f := 24) rfl ?_); refine goesL_ (some 38) rfl rfl Try.func24 (by kernel_rfl) rfl #[.int .i64 a0, .int .i64 a1] rfl (by (try simp only [List.map_toArray, List.map_cons, List.map_nil]); first | done | rfl | (simp only [List.length_drop, List.length_take]; rfl)) ?_; (with_reducible refine (beadleref10_WorstWait.calls a0 a1 t132 t133 t134 _ A11.out).mono ?_); rintro e w' ⟨rfl, ⟨nd, rfl⟩⟩; refine ⟨_, rfl, ?_⟩) | ((with_reducible refine gate_callee (f := 22) rfl ?_); refine goesL_ (some 46) rfl rfl Try.func22 (by kernel_rfl) rfl #[.int .i64 a4, .int .i64 a0, .slice A5 l5.length c5] rfl (by (try simp only [List.map_toArray, List.map_cons, List.map_nil]); first | done | rfl | (simp only [List.length_drop, List.length_take]; rfl)) ?_; (with_reducible refine (gate_Swells.calls k a4 a0 _ _ l5 t135 t136 _ ?side1 ?side2 A12.out).mono ?_); (case side1 => repeat (first | exact HR5.out | (with_reducible refine Kd.C_alloc ?_ _) | (with_reducible refine Kd.C_drewN ?_ _) | (with_reducible refine Kd.C_drew ?_))); (case side2 => exact HC5.out); rintro e w' ⟨rfl, ⟨nd, rfl⟩⟩; refine ⟨_, rfl, ?_⟩) | ((with_reducible refine gate_callee (f := 25) rfl ?_); refine goesL_ (some 53) rfl rfl Try.func25 (by kernel_rfl) rfl #[.int .i64 a4, .int .i64 a0, .slice A5 l5.length c5] rfl (by (try simp only [List.map_toArray, List.map_cons, List.map_nil]); first | done | rfl | (simp only [List.length_drop, List.length_take]; rfl)) ?_; (with_reducible refine (beadleref10_Swells.calls k a4 a0 _ _ l5 t137 t138 _ ?side1 ?side2 A13.out).mono ?_); (case side1 => repeat (first | exact HR5.out | (with_reducible refine Kd.C_alloc ?_ _) | (with_reducible refine Kd.C_drewN ?_ _) | (with_reducible refine Kd.C_drew ?_))); (case side2 => exact HC5.out); rintro e w' ⟨rfl, ⟨nd, rfl⟩⟩; refine ⟨_, rfl, ?_⟩) | (go_at_call 17; (with_reducible refine (gate_Enough.calls a0 a1 a2 a3 t139 _ A17.out).mono ?_); rintro e w' ⟨rfl, ⟨nd, rfl⟩⟩) | (go_at_call 26; (with_reducible refine (beadleref10_Enough.calls a0 a1 a2 a3 t140 _ A18.out).mono ?_); rintro e w' ⟨rfl, ⟨nd, rfl⟩⟩))
                  go_ret
                  exact ⟨by first | rfl | (simp; done) | (simp [*]; done), by repeat (first | exact Drawn0.refl _ | apply Drawn0.step)⟩
              · rw [if_neg c20] at H
                have c20b0 : (t135 == t137) = false := beq_eq_false_iff_ne.mpr c20
                have c20b1 : (t135 != t137) = true := bne_iff_ne.mpr c20
                obtain rfl := Option.some.inj H
                go_enter Try.func6, Try.ntmps6
                go_wp2_with (first | ((with_reducible refine gate_callee (f := 15) rfl ?_); refine goesL_ (some 23) rfl rfl Try.func15 (by kernel_rfl) rfl #[] rfl (by (try simp only [List.map_toArray, List.map_cons, List.map_nil]); first | done | rfl | (simp only [List.length_drop, List.length_take]; rfl)) ?_; (with_reducible refine (beadlelaw19_awake.calls  true _ A7.out).mono ?_); rintro e w' ⟨rfl, ⟨nd, rfl⟩⟩; refine ⟨_, rfl, ?_⟩) | ((with_reducible refine gate_callee (f := 16) rfl ?_); refine goesL_ (some 31) rfl rfl Try.func16 (by kernel_rfl) rfl #[.int .i64 a0, .int .i64 a1] rfl (by (try simp only [List.map_toArray, List.map_cons, List.map_nil]); first | done | rfl | (simp only [List.length_drop, List.length_take]; rfl)) ?_; (with_reducible refine (gate_Worst.calls a0 a1 t129 t130 t131 _ A10.out).mono ?_); rintro e w' ⟨rfl, ⟨nd, rfl⟩⟩; refine ⟨_, rfl, ?_⟩) | ((with_reducible refine gate_callee (f := 24) rfl ?_); refine goesL_ (some 38) rfl rfl Try.func24 (by kernel_rfl) rfl #[.int .i64 a0, .int .i64 a1] rfl (by (try simp only [List.map_toArray, List.map_cons, List.map_nil]); first | done | rfl | (simp only [List.length_drop, List.length_take]; rfl)) ?_; (with_reducible refine (beadleref10_WorstWait.calls a0 a1 t132 t133 t134 _ A11.out).mono ?_); rintro e w' ⟨rfl, ⟨nd, rfl⟩⟩; refine ⟨_, rfl, ?_⟩) | ((with_reducible refine gate_callee (f := 22) rfl ?_); refine goesL_ (some 46) rfl rfl Try.func22 (by kernel_rfl) rfl #[.int .i64 a4, .int .i64 a0, .slice A5 l5.length c5] rfl (by (try simp only [List.map_toArray, List.map_cons, List.map_nil]); first | done | rfl | (simp only [List.length_drop, List.length_take]; rfl)) ?_; (with_reducible refine (gate_Swells.calls k a4 a0 _ _ l5 t135 t136 _ ?side1 ?side2 A12.out).mono ?_); (case side1 => repeat (first | exact HR5.out | (with_reducible refine Kd.C_alloc ?_ _) | (with_reducible refine Kd.C_drewN ?_ _) | (with_reducible refine Kd.C_drew ?_))); (case side2 => exact HC5.out); rintro e w' ⟨rfl, ⟨nd, rfl⟩⟩; refine ⟨_, rfl, ?_⟩) | ((with_reducible refine gate_callee (f := 25) rfl ?_); refine goesL_ (some 53) rfl rfl Try.func25 (by kernel_rfl) rfl #[.int .i64 a4, .int .i64 a0, .slice A5 l5.length c5] rfl (by (try simp only [List.map_toArray, List.map_cons, List.map_nil]); first | done | rfl | (simp only [List.length_drop, List.length_take]; rfl)) ?_; (with_reducible refine (beadleref10_Swells.calls k a4 a0 _ _ l5 t137 t138 _ ?side1 ?side2 A13.out).mono ?_); (case side1 => repeat (first | exact HR5.out | (with_reducible refine Kd.C_alloc ?_ _) | (with_reducible refine Kd.C_drewN ?_ _) | (with_reducible refine Kd.C_drew ?_))); (case side2 => exact HC5.out); rintro e w' ⟨rfl, ⟨nd, rfl⟩⟩; refine ⟨_, rfl, ?_⟩) | (go_at_call 17; (with_reducible refine (gate_Enough.calls a0 a1 a2 a3 t139 _ A17.out).mono ?_); rintro e w' ⟨rfl, ⟨nd, rfl⟩⟩) | (go_at_call 26; (with_reducible refine (beadleref10_Enough.calls a0 a1 a2 a3 t140 _ A18.out).mono ?_); rintro e w' ⟨rfl, ⟨nd, rfl⟩⟩))
                go_ret
                exact ⟨by first | rfl | (simp; done) | (simp [*]; done), by repeat (first | exact Drawn0.refl _ | apply Drawn0.step)⟩
            · rw [if_neg c19] at H
              have c19b0 : (t139 == t140) = false := by simpa using c19
              (try (have c19b1 : decide (t139 = t140) = false := by simpa using c19))
              (try (have c19b2 : (t139 == t140) = false := by simpa using c19))
              (try (have c19b3 : ¬ (t139 = t140) := by simpa using c19))
              clear c19
              obtain rfl := Option.some.inj H
              go_enter Try.func6, Try.ntmps6
              go_wp2_with (first | ((with_reducible refine gate_callee (f := 15) rfl ?_); refine goesL_ (some 23) rfl rfl Try.func15 (by kernel_rfl) rfl #[] rfl (by (try simp only [List.map_toArray, List.map_cons, List.map_nil]); first | done | rfl | (simp only [List.length_drop, List.length_take]; rfl)) ?_; (with_reducible refine (beadlelaw19_awake.calls  true _ A7.out).mono ?_); rintro e w' ⟨rfl, ⟨nd, rfl⟩⟩; refine ⟨_, rfl, ?_⟩) | ((with_reducible refine gate_callee (f := 16) rfl ?_); refine goesL_ (some 31) rfl rfl Try.func16 (by kernel_rfl) rfl #[.int .i64 a0, .int .i64 a1] rfl (by (try simp only [List.map_toArray, List.map_cons, List.map_nil]); first | done | rfl | (simp only [List.length_drop, List.length_take]; rfl)) ?_; (with_reducible refine (gate_Worst.calls a0 a1 t129 t130 t131 _ A10.out).mono ?_); rintro e w' ⟨rfl, ⟨nd, rfl⟩⟩; refine ⟨_, rfl, ?_⟩) | ((with_reducible refine gate_callee (f := 24) rfl ?_); refine goesL_ (some 38) rfl rfl Try.func24 (by kernel_rfl) rfl #[.int .i64 a0, .int .i64 a1] rfl (by (try simp only [List.map_toArray, List.map_cons, List.map_nil]); first | done | rfl | (simp only [List.length_drop, List.length_take]; rfl)) ?_; (with_reducible refine (beadleref10_WorstWait.calls a0 a1 t132 t133 t134 _ A11.out).mono ?_); rintro e w' ⟨rfl, ⟨nd, rfl⟩⟩; refine ⟨_, rfl, ?_⟩) | ((with_reducible refine gate_callee (f := 22) rfl ?_); refine goesL_ (some 46) rfl rfl Try.func22 (by kernel_rfl) rfl #[.int .i64 a4, .int .i64 a0, .slice A5 l5.length c5] rfl (by (try simp only [List.map_toArray, List.map_cons, List.map_nil]); first | done | rfl | (simp only [List.length_drop, List.length_take]; rfl)) ?_; (with_reducible refine (gate_Swells.calls k a4 a0 _ _ l5 t135 t136 _ ?side1 ?side2 A12.out).mono ?_); (case side1 => repeat (first | exact HR5.out | (with_reducible refine Kd.C_alloc ?_ _) | (with_reducible refine Kd.C_drewN ?_ _) | (with_reducible refine Kd.C_drew ?_))); (case side2 => exact HC5.out); rintro e w' ⟨rfl, ⟨nd, rfl⟩⟩; refine ⟨_, rfl, ?_⟩) | ((with_reducible refine gate_callee (f := 25) rfl ?_); refine goesL_ (some 53) rfl rfl Try.func25 (by kernel_rfl) rfl #[.int .i64 a4, .int .i64 a0, .slice A5 l5.length c5] rfl (by (try simp only [List.map_toArray, List.map_cons, List.map_nil]); first | done | rfl | (simp only [List.length_drop, List.length_take]; rfl)) ?_; (with_reducible refine (beadleref10_Swells.calls k a4 a0 _ _ l5 t137 t138 _ ?side1 ?side2 A13.out).mono ?_); (case side1 => repeat (first | exact HR5.out | (with_reducible refine Kd.C_alloc ?_ _) | (with_reducible refine Kd.C_drewN ?_ _) | (with_reducible refine Kd.C_drew ?_))); (case side2 => exact HC5.out); rintro e w' ⟨rfl, ⟨nd, rfl⟩⟩; refine ⟨_, rfl, ?_⟩) | (go_at_call 17; (with_reducible refine (gate_Enough.calls a0 a1 a2 a3 t139 _ A17.out).mono ?_); rintro e w' ⟨rfl, ⟨nd, rfl⟩⟩) | (go_at_call 26; (with_reducible refine (beadleref10_Enough.calls a0 a1 a2 a3 t140 _ A18.out).mono ?_); rintro e w' ⟨rfl, ⟨nd, rfl⟩⟩))
              go_ret
              exact ⟨by first | rfl | (simp; done) | (simp [*]; done), by repeat (first | exact Drawn0.refl _ | apply Drawn0.step)⟩
          · rw [if_neg c16] at H
            have c16b0 : (t131 == t134) = false := by simpa using c16
            (try (have c16b1 : decide (t131 = t134) = false := by simpa using c16))
            (try (have c16b2 : (t131 == t134) = false := by simpa using c16))
            (try (have c16b3 : ¬ (t131 = t134) := by simpa using c16))
            clear c16
            obtain rfl := Option.some.inj H
            go_enter Try.func6, Try.ntmps6
            go_wp2_with (first | ((with_reducible refine gate_callee (f := 15) rfl ?_); refine goesL_ (some 23) rfl rfl Try.func15 (by kernel_rfl) rfl #[] rfl (by (try simp only [List.map_toArray, List.map_cons, List.map_nil]); first | done | rfl | (simp only [List.length_drop, List.length_take]; rfl)) ?_; (with_reducible refine (beadlelaw19_awake.calls  true _ A7.out).mono ?_); rintro e w' ⟨rfl, ⟨nd, rfl⟩⟩; refine ⟨_, rfl, ?_⟩) | ((with_reducible refine gate_callee (f := 16) rfl ?_); refine goesL_ (some 31) rfl rfl Try.func16 (by kernel_rfl) rfl #[.int .i64 a0, .int .i64 a1] rfl (by (try simp only [List.map_toArray, List.map_cons, List.map_nil]); first | done | rfl | (simp only [List.length_drop, List.length_take]; rfl)) ?_; (with_reducible refine (gate_Worst.calls a0 a1 t129 t130 t131 _ A10.out).mono ?_); rintro e w' ⟨rfl, ⟨nd, rfl⟩⟩; refine ⟨_, rfl, ?_⟩) | ((with_reducible refine gate_callee (f := 24) rfl ?_); refine goesL_ (some 38) rfl rfl Try.func24 (by kernel_rfl) rfl #[.int .i64 a0, .int .i64 a1] rfl (by (try simp only [List.map_toArray, List.map_cons, List.map_nil]); first | done | rfl | (simp only [List.length_drop, List.length_take]; rfl)) ?_; (with_reducible refine (beadleref10_WorstWait.calls a0 a1 t132 t133 t134 _ A11.out).mono ?_); rintro e w' ⟨rfl, ⟨nd, rfl⟩⟩; refine ⟨_, rfl, ?_⟩) | ((with_reducible refine gate_callee (f := 22) rfl ?_); refine goesL_ (some 46) rfl rfl Try.func22 (by kernel_rfl) rfl #[.int .i64 a4, .int .i64 a0, .slice A5 l5.length c5] rfl (by (try simp only [List.map_toArray, List.map_cons, List.map_nil]); first | done | rfl | (simp only [List.length_drop, List.length_take]; rfl)) ?_; (with_reducible refine (gate_Swells.calls k a4 a0 _ _ l5 t135 t136 _ ?side1 ?side2 A12.out).mono ?_); (case side1 => repeat (first | exact HR5.out | (with_reducible refine Kd.C_alloc ?_ _) | (with_reducible refine Kd.C_drewN ?_ _) | (with_reducible refine Kd.C_drew ?_))); (case side2 => exact HC5.out); rintro e w' ⟨rfl, ⟨nd, rfl⟩⟩; refine ⟨_, rfl, ?_⟩) | ((with_reducible refine gate_callee (f := 25) rfl ?_); refine goesL_ (some 53) rfl rfl Try.func25 (by kernel_rfl) rfl #[.int .i64 a4, .int .i64 a0, .slice A5 l5.length c5] rfl (by (try simp only [List.map_toArray, List.map_cons, List.map_nil]); first | done | rfl | (simp only [List.length_drop, List.length_take]; rfl)) ?_; (with_reducible refine (beadleref10_Swells.calls k a4 a0 _ _ l5 t137 t138 _ ?side1 ?side2 A13.out).mono ?_); (case side1 => repeat (first | exact HR5.out | (with_reducible refine Kd.C_alloc ?_ _) | (with_reducible refine Kd.C_drewN ?_ _) | (with_reducible refine Kd.C_drew ?_))); (case side2 => exact HC5.out); rintro e w' ⟨rfl, ⟨nd, rfl⟩⟩; refine ⟨_, rfl, ?_⟩))
            go_ret
            exact ⟨by first | rfl | (simp; done) | (simp [*]; done), by repeat (first | exact Drawn0.refl _ | apply Drawn0.step)⟩
        · rw [if_neg c15] at H
          have c15b0 : (t130 == t133) = false := beq_eq_false_iff_ne.mpr c15
          have c15b1 : (t130 != t133) = true := bne_iff_ne.mpr c15
          obtain rfl := Option.some.inj H
          go_enter Try.func6, Try.ntmps6
          go_wp2_with (first | ((with_reducible refine gate_callee (f := 15) rfl ?_); refine goesL_ (some 23) rfl rfl Try.func15 (by kernel_rfl) rfl #[] rfl (by (try simp only [List.map_toArray, List.map_cons, List.map_nil]); first | done | rfl | (simp only [List.length_drop, List.length_take]; rfl)) ?_; (with_reducible refine (beadlelaw19_awake.calls  true _ A7.out).mono ?_); rintro e w' ⟨rfl, ⟨nd, rfl⟩⟩; refine ⟨_, rfl, ?_⟩) | ((with_reducible refine gate_callee (f := 16) rfl ?_); refine goesL_ (some 31) rfl rfl Try.func16 (by kernel_rfl) rfl #[.int .i64 a0, .int .i64 a1] rfl (by (try simp only [List.map_toArray, List.map_cons, List.map_nil]); first | done | rfl | (simp only [List.length_drop, List.length_take]; rfl)) ?_; (with_reducible refine (gate_Worst.calls a0 a1 t129 t130 t131 _ A10.out).mono ?_); rintro e w' ⟨rfl, ⟨nd, rfl⟩⟩; refine ⟨_, rfl, ?_⟩) | ((with_reducible refine gate_callee (f := 24) rfl ?_); refine goesL_ (some 38) rfl rfl Try.func24 (by kernel_rfl) rfl #[.int .i64 a0, .int .i64 a1] rfl (by (try simp only [List.map_toArray, List.map_cons, List.map_nil]); first | done | rfl | (simp only [List.length_drop, List.length_take]; rfl)) ?_; (with_reducible refine (beadleref10_WorstWait.calls a0 a1 t132 t133 t134 _ A11.out).mono ?_); rintro e w' ⟨rfl, ⟨nd, rfl⟩⟩; refine ⟨_, rfl, ?_⟩) | ((with_reducible refine gate_callee (f := 22) rfl ?_); refine goesL_ (some 46) rfl rfl Try.func22 (by kernel_rfl) rfl #[.int .i64 a4, .int .i64 a0, .slice A5 l5.length c5] rfl (by (try simp only [List.map_toArray, List.map_cons, List.map_nil]); first | done | rfl | (simp only [List.length_drop, List.length_take]; rfl)) ?_; (with_reducible refine (gate_Swells.calls k a4 a0 _ _ l5 t135 t136 _ ?side1 ?side2 A12.out).mono ?_); (case side1 => repeat (first | exact HR5.out | (with_reducible refine Kd.C_alloc ?_ _) | (with_reducible refine Kd.C_drewN ?_ _) | (with_reducible refine Kd.C_drew ?_))); (case side2 => exact HC5.out); rintro e w' ⟨rfl, ⟨nd, rfl⟩⟩; refine ⟨_, rfl, ?_⟩) | ((with_reducible refine gate_callee (f := 25) rfl ?_); refine goesL_ (some 53) rfl rfl Try.func25 (by kernel_rfl) rfl #[.int .i64 a4, .int .i64 a0, .slice A5 l5.length c5] rfl (by (try simp only [List.map_toArray, List.map_cons, List.map_nil]); first | done | rfl | (simp only [List.length_drop, List.length_take]; rfl)) ?_; (with_reducible refine (beadleref10_Swells.calls k a4 a0 _ _ l5 t137 t138 _ ?side1 ?side2 A13.out).mono ?_); (case side1 => repeat (first | exact HR5.out | (with_reducible refine Kd.C_alloc ?_ _) | (with_reducible refine Kd.C_drewN ?_ _) | (with_reducible refine Kd.C_drew ?_))); (case side2 => exact HC5.out); rintro e w' ⟨rfl, ⟨nd, rfl⟩⟩; refine ⟨_, rfl, ?_⟩))
          go_ret
          exact ⟨by first | rfl | (simp; done) | (simp [*]; done), by repeat (first | exact Drawn0.refl _ | apply Drawn0.step)⟩
      · rw [if_neg c14] at H
        have c14b0 : (t129 == t132) = false := beq_eq_false_iff_ne.mpr c14
        have c14b1 : (t129 != t132) = true := bne_iff_ne.mpr c14
        obtain rfl := Option.some.inj H
        go_enter Try.func6, Try.ntmps6
        go_wp2_with (first | ((with_reducible refine gate_callee (f := 15) rfl ?_); refine goesL_ (some 23) rfl rfl Try.func15 (by kernel_rfl) rfl #[] rfl (by (try simp only [List.map_toArray, List.map_cons, List.map_nil]); first | done | rfl | (simp only [List.length_drop, List.length_take]; rfl)) ?_; (with_reducible refine (beadlelaw19_awake.calls  true _ A7.out).mono ?_); rintro e w' ⟨rfl, ⟨nd, rfl⟩⟩; refine ⟨_, rfl, ?_⟩) | ((with_reducible refine gate_callee (f := 16) rfl ?_); refine goesL_ (some 31) rfl rfl Try.func16 (by kernel_rfl) rfl #[.int .i64 a0, .int .i64 a1] rfl (by (try simp only [List.map_toArray, List.map_cons, List.map_nil]); first | done | rfl | (simp only [List.length_drop, List.length_take]; rfl)) ?_; (with_reducible refine (gate_Worst.calls a0 a1 t129 t130 t131 _ A10.out).mono ?_); rintro e w' ⟨rfl, ⟨nd, rfl⟩⟩; refine ⟨_, rfl, ?_⟩) | ((with_reducible refine gate_callee (f := 24) rfl ?_); refine goesL_ (some 38) rfl rfl Try.func24 (by kernel_rfl) rfl #[.int .i64 a0, .int .i64 a1] rfl (by (try simp only [List.map_toArray, List.map_cons, List.map_nil]); first | done | rfl | (simp only [List.length_drop, List.length_take]; rfl)) ?_; (with_reducible refine (beadleref10_WorstWait.calls a0 a1 t132 t133 t134 _ A11.out).mono ?_); rintro e w' ⟨rfl, ⟨nd, rfl⟩⟩; refine ⟨_, rfl, ?_⟩) | ((with_reducible refine gate_callee (f := 22) rfl ?_); refine goesL_ (some 46) rfl rfl Try.func22 (by kernel_rfl) rfl #[.int .i64 a4, .int .i64 a0, .slice A5 l5.length c5] rfl (by (try simp only [List.map_toArray, List.map_cons, List.map_nil]); first | done | rfl | (simp only [List.length_drop, List.length_take]; rfl)) ?_; (with_reducible refine (gate_Swells.calls k a4 a0 _ _ l5 t135 t136 _ ?side1 ?side2 A12.out).mono ?_); (case side1 => repeat (first | exact HR5.out | (with_reducible refine Kd.C_alloc ?_ _) | (with_reducible refine Kd.C_drewN ?_ _) | (with_reducible refine Kd.C_drew ?_))); (case side2 => exact HC5.out); rintro e w' ⟨rfl, ⟨nd, rfl⟩⟩; refine ⟨_, rfl, ?_⟩) | ((with_reducible refine gate_callee (f := 25) rfl ?_); refine goesL_ (some 53) rfl rfl Try.func25 (by kernel_rfl) rfl #[.int .i64 a4, .int .i64 a0, .slice A5 l5.length c5] rfl (by (try simp only [List.map_toArray, List.map_cons, List.map_nil]); first | done | rfl | (simp only [List.length_drop, List.length_take]; rfl)) ?_; (with_reducible refine (beadleref10_Swells.calls k a4 a0 _ _ l5 t137 t138 _ ?side1 ?side2 A13.out).mono ?_); (case side1 => repeat (first | exact HR5.out | (with_reducible refine Kd.C_alloc ?_ _) | (with_reducible refine Kd.C_drewN ?_ _) | (with_reducible refine Kd.C_drew ?_))); (case side2 => exact HC5.out); rintro e w' ⟨rfl, ⟨nd, rfl⟩⟩; refine ⟨_, rfl, ?_⟩))
        go_ret
        exact ⟨by first | rfl | (simp; done) | (simp [*]; done), by repeat (first | exact Drawn0.refl _ | apply Drawn0.step)⟩
  · replace c8 := Bool.eq_false_iff.mpr c8
    subst c8
    have H1 : (some false) = some r := by rw [if_neg (show ¬ (false = true) by decide)] at H; exact H
    clear H
    have H := H1
    clear H1
    obtain rfl := Option.some.inj H
    go_enter Try.func6, Try.ntmps6
    go_wp2_with (first | ((with_reducible refine gate_callee (f := 15) rfl ?_); refine goesL_ (some 23) rfl rfl Try.func15 (by kernel_rfl) rfl #[] rfl (by (try simp only [List.map_toArray, List.map_cons, List.map_nil]); first | done | rfl | (simp only [List.length_drop, List.length_take]; rfl)) ?_; (with_reducible refine (beadlelaw19_awake.calls  false _ A7.out).mono ?_); rintro e w' ⟨rfl, ⟨nd, rfl⟩⟩; refine ⟨_, rfl, ?_⟩))
    go_ret
    exact ⟨by first | rfl | (simp; done) | (simp [*]; done), by repeat (first | exact Drawn0.refl _ | apply Drawn0.step)⟩

/-- THE ONE PURE STATEMENT of beadlelaw19_GateSays: yours. -/
def beadlelaw19_GateSays.Pure : Prop := ∀ (a0 : Int) (a1 : Int) (a2 : Int) (a3 : Int) (a4 : Int) (l5 : List Int), (Lit.int .i64 a0).wf = true → (Lit.int .i64 a1).wf = true → (Lit.int .i64 a2).wf = true → (Lit.int .i64 a3).wf = true → (Lit.int .i64 a4).wf = true → l5.length ≤ maxLen → l5.length * 8 ≤ 140737488351232 → (∀ x ∈ l5, (Lit.int .i64 x).wf = true) → ∃ k, beadlelaw19_GateSays.f k a0 a1 a2 a3 a4 l5 = some true
theorem beadlelaw19_GateSays.walk (P : beadlelaw19_GateSays.Pure) (a0 : Int) (a1 : Int) (a2 : Int) (a3 : Int) (a4 : Int) (a5 : Option Addr) (len5 cap5 : Nat) (z5 : List Int) (w : World) (w0 : (Lit.int .i64 a0).wf = true) (w1 : (Lit.int .i64 a1).wf = true) (w2 : (Lit.int .i64 a2).wf = true) (w3 : (Lit.int .i64 a3).wf = true) (w4 : (Lit.int .i64 a4).wf = true) (w5 : (a5 = none ∧ len5 = 0 ∧ cap5 = 0 ∧ z5 = []) ∨ ∃ x, a5 = some x ∧ len5 ≤ cap5 ∧ cap5 ≤ maxLen ∧ z5.length = cap5 ∧ (∀ i, i < z5.length → w.cell? (x.add i) = some (.int .i64 (z5.getD i 0))) ∧ ∀ n ∈ z5, (Lit.int .i64 n).wf = true) (y5 : len5 * 8 ≤ 140737488351232) :
    Calls Try.prog 6 #[.int .i64 a0, .int .i64 a1, .int .i64 a2, .int .i64 a3, .int .i64 a4, .slice a5 len5 cap5] w fun e w' => e = .returned (.bool true) ∧ Below w.heap.size w w' := by
  obtain ⟨l5, rfl, hr5, hm5, hw5, hc5⟩ := ReadsInt.ofRowC w5
  obtain ⟨k, h⟩ := P a0 a1 a2 a3 a4 l5 w0 w1 w2 w3 w4 hm5 y5 hw5
  refine (beadlelaw19_GateSays.calls k a0 a1 a2 a3 a4 _ _ l5 true w (Kd.C_of_reads (d := (0 : Int)) (h1 := fun _ => rfl) hr5) hc5 h).mono ?_
  rintro e w' ⟨rfl, hd⟩
  exact ⟨rfl, hd.below⟩

end Go.Proofs.Ytjihjmanndhdhaa.PGateSays
