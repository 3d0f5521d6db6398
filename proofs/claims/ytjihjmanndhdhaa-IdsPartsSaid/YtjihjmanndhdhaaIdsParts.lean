/- IdsParts, the walk: a name's place and gen make it again: for all numbers, no condition. -/
import Derived.Test.YtjihjmanndhdhaaIdsB
namespace Go.Proofs.Ytjihjmanndhdhaa.Ids
open Go.RowKit Go.Proofs.YtjihjmanndhdhaaW.PrintWords Go.Proofs.YtjihjmanndhdhaaW.PrintLast Go.Proofs.YtjihjmanndhdhaaW.PrintMore Go.Proofs.Ytjihjmanndhdhaa.PIdsKnown

theorem below_drewN' {B : Nat} {a w : World} (h : Below B a w) (n : Nat) : Below B a (w.drewN n) := ⟨h.os, h.tape, h.output, h.size, h.block⟩

theorem make_calls (p g m : Int) (b : Bool) (h : ids_Make.f p g = some (m, b)) (w : World) : Calls Try.prog 19 #[.int .i64 p, .int .i64 g] w fun e w' => e = .returned (.tuple #[.int .u32 m, .bool b]) ∧ Drawn0 w w' :=
  ids_Make.calls p g m b w h

set_option maxHeartbeats 2000000 in
theorem parts_good (n p0 g0 : Int) (w : World) (h0 : 0 ≤ n) (h1 : n < 4294967296) (a1 : 0 ≤ p0) (a2 : p0 < 256) (a3 : 0 ≤ g0) (a4 : g0 < 16777216) :
    Calls Try.prog 4 #[.int .u32 n, .int .i64 p0, .int .i64 g0] w fun e w' => e = .returned (.bool true) ∧ Below w.heap.size w w' := by
  have A := awake_calls w
  have P := fun w => place_calls n w h0 h1
  have G := fun w => gen_calls n w h0 h1
  have M1 := make_calls (plOf n) (geOf n) n true (by rw [make_eq _ _ (by rw [plOf_eq n h0 h1]; omega) (by rw [plOf_eq n h0 h1]; omega) (by rw [geOf_eq]; omega) (by rw [geOf_eq]; omega), plOf_eq n h0 h1, geOf_eq, show n / 256 * 256 + n % 256 = n by omega])
  obtain ⟨z, hz⟩ : ∃ z, z = g0 * 256 + p0 := ⟨_, rfl⟩
  have M2 := make_calls p0 g0 z true (by rw [make_eq _ _ a1 a2 a3 a4, hz])
  have z0 : 0 ≤ z := by omega
  have z1 : z < 4294967296 := by omega
  have P2 := fun w => place_calls z w z0 z1
  have G2 := fun w => gen_calls z w z0 z1
  rw [plOf_eq z z0 z1, show z % 256 = p0 by omega] at P2
  rw [geOf_eq, show z / 256 = g0 by omega] at G2
  generalize plOf n = p at *
  generalize geOf n = g at *
  clear hz
  have d1 : decide (0 ≤ p0) = true := decide_eq_true a1
  have d2 : decide (p0 < 256) = true := decide_eq_true a2
  have d3 : decide (0 ≤ g0) = true := decide_eq_true a3
  have d4 : decide (g0 < 16777216) = true := decide_eq_true a4
  go_enter Try.func4, Try.ntmps4
  go_wp2_with (first
    | (go_at_call 18; refine A.mono ?_; rintro e w1 ⟨rfl, hB⟩)
    | (go_at_call 20; (with_reducible refine (P _).mono ?_); rintro e w2 ⟨rfl, rfl⟩)
    | (go_at_call 21; (with_reducible refine (G _).mono ?_); rintro e w2 ⟨rfl, rfl⟩)
    | (go_at_call 19; (with_reducible refine (M1 _).mono ?_); rintro e w2 ⟨rfl, ⟨nd, rfl⟩⟩)
    | (go_at_call 19; (with_reducible refine (M2 _).mono ?_); rintro e w2 ⟨rfl, ⟨nd2, rfl⟩⟩)
    | (go_at_call 20; (with_reducible refine (P2 _).mono ?_); rintro e w2 ⟨rfl, rfl⟩)
    | (go_at_call 21; (with_reducible refine (G2 _).mono ?_); rintro e w2 ⟨rfl, rfl⟩))
  go_ret
  exact ⟨rfl, by repeat (first | exact hB | apply below_drewN')⟩

set_option maxHeartbeats 2000000 in
theorem parts_bad (n p0 g0 : Int) (w : World) (h0 : 0 ≤ n) (h1 : n < 4294967296) (hbad : ¬ (0 ≤ p0 ∧ p0 < 256 ∧ 0 ≤ g0 ∧ g0 < 16777216)) :
    Calls Try.prog 4 #[.int .u32 n, .int .i64 p0, .int .i64 g0] w fun e w' => e = .returned (.bool true) ∧ Below w.heap.size w w' := by
  have A := awake_calls w
  have P := fun w => place_calls n w h0 h1
  have G := fun w => gen_calls n w h0 h1
  have M1 := make_calls (plOf n) (geOf n) n true (by rw [make_eq _ _ (by rw [plOf_eq n h0 h1]; omega) (by rw [plOf_eq n h0 h1]; omega) (by rw [geOf_eq]; omega) (by rw [geOf_eq]; omega), plOf_eq n h0 h1, geOf_eq, show n / 256 * 256 + n % 256 = n by omega])
  have M2 := make_calls p0 g0 0 false (make_out p0 g0 hbad)
  generalize plOf n = p at *
  generalize geOf n = g at *
  rcases (show p0 < 0 ∨ (0 ≤ p0 ∧ 256 ≤ p0) ∨ (0 ≤ p0 ∧ p0 < 256 ∧ g0 < 0) ∨ (0 ≤ p0 ∧ p0 < 256 ∧ 0 ≤ g0 ∧ 16777216 ≤ g0) by omega) with h | h | h | h
  all_goals
    have d1 := h
    clear hbad h
    go_enter Try.func4, Try.ntmps4
    go_wp2_with (first
      | (go_at_call 18; refine A.mono ?_; rintro e w1 ⟨rfl, hB⟩)
      | (go_at_call 20; (with_reducible refine (P _).mono ?_); rintro e w2 ⟨rfl, rfl⟩)
      | (go_at_call 21; (with_reducible refine (G _).mono ?_); rintro e w2 ⟨rfl, rfl⟩)
      | (go_at_call 19; (with_reducible refine (M1 _).mono ?_); rintro e w2 ⟨rfl, ⟨nd, rfl⟩⟩)
      | (go_at_call 19; (with_reducible refine (M2 _).mono ?_); rintro e w2 ⟨rfl, ⟨nd2, rfl⟩⟩))
    go_ret
    exact ⟨rfl, by repeat (first | exact hB | apply below_drewN')⟩

theorem parts_calls (n p0 g0 : Int) (w : World) (h0 : 0 ≤ n) (h1 : n < 4294967296) :
    Calls Try.prog 4 #[.int .u32 n, .int .i64 p0, .int .i64 g0] w fun e w' => e = .returned (.bool true) ∧ Below w.heap.size w w' := by
  by_cases h : 0 ≤ p0 ∧ p0 < 256 ∧ 0 ≤ g0 ∧ g0 < 16777216
  · exact parts_good n p0 g0 w h0 h1 h.1 h.2.1 h.2.2.1 h.2.2.2
  · exact parts_bad n p0 g0 w h0 h1 h
end Go.Proofs.Ytjihjmanndhdhaa.Ids
