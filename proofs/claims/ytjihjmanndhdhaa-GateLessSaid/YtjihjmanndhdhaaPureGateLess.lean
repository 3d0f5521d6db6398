/- GateLess, over numbers alone: with more CPUs, or longer sections, one waits no less; what is enough for more is enough for less: for all numbers, no condition. -/
import Derived.Test.YtjihjmanndhdhaaPGateLessx1
namespace Go.Proofs.Ytjihjmanndhdhaa.Pure
open Go.RowKit Go.Proofs.Ytjihjmanndhdhaa.PGateLess Go.Proofs.YtjihjmanndhdhaaW.PrintWords Go.Proofs.YtjihjmanndhdhaaW.PrintLast

theorem gl_wrap {x : Int} (h0 : 0 ≤ x) (h1 : x ≤ 67108864) : wrap64 x = x := by
  unfold wrap64; omega

theorem gl_worst {m p : Int} (h1 : 1 ≤ m) (h2 : m ≤ 64) (h3 : 1 ≤ p) (h4 : p ≤ 1048576) : gate_Worst.f m p = some ((m - 1) * p, m * p, true) := by
  unfold gate_Worst.f
  rw [if_neg (by omega), if_neg (by omega), if_neg (by omega), if_neg (by omega)]
  have a : wrap64 (m - 1) = m - 1 := by unfold wrap64; omega
  have b1 : 0 ≤ (m - 1) * p := Int.mul_nonneg (by omega) (by omega)
  have b2 : (m - 1) * p ≤ 63 * 1048576 := Int.mul_le_mul (by omega) h4 (by omega) (by omega)
  have b3 : 0 ≤ m * p := Int.mul_nonneg (by omega) (by omega)
  have b4 : m * p ≤ 64 * 1048576 := Int.mul_le_mul h2 h4 (by omega) (by omega)
  rw [a, gl_wrap b1 (by omega), gl_wrap b3 (by omega)]

theorem gl_enough {m p b l : Int} (h1 : 1 ≤ m) (h2 : m ≤ 64) (h3 : 1 ≤ p) (h4 : p ≤ 1048576) : gate_Enough.f m p b l = some (decide (m * p ≤ b ∧ m * p ≤ l)) := by
  unfold gate_Enough.f
  rw [gl_worst h1 h2 h3 h4]
  simp only [Option.bind_some, if_true]
  by_cases h : m * p ≤ b
  · rw [if_pos h]; simp [h]
  · rw [if_neg h]; simp [h]

theorem gl_awake : beadlelaw19_awake.f = some true := by
  unfold beadlelaw19_awake.f
  rw [gl_worst (by omega) (by omega) (by omega) (by omega), gl_enough (by omega) (by omega) (by omega) (by omega)]
  decide

theorem GateLess : beadlelaw19_GateLess.Pure := by
  intro a0 a1 a2 a3 a4 a5 _ _ _ _ _ _
  refine ⟨1, ?_⟩
  unfold beadlelaw19_GateLess.f
  rw [gl_awake]
  simp only [Option.bind_some, if_true]
  have e : ∀ b, beadlelaw19_GateLess.j0 1 a0 a1 a2 a3 a4 a5 true = b → b = some true := by
    intro b hb; rw [← hb]; simp only [beadlelaw19_GateLess.j0, if_true]
  by_cases c1 : a0 < 1
  · rw [if_pos c1]; exact e _ rfl
  rw [if_neg c1]
  by_cases c2 : a0 > 64
  · rw [if_pos c2]; exact e _ rfl
  rw [if_neg c2]
  by_cases c3 : a1 < a0
  · rw [if_pos c3]; exact e _ rfl
  rw [if_neg c3]
  by_cases c4 : a1 > 64
  · rw [if_pos c4]; exact e _ rfl
  rw [if_neg c4]
  by_cases c5 : a2 < 1
  · rw [if_pos c5]; exact e _ rfl
  rw [if_neg c5]
  by_cases c6 : a2 > 1048576
  · rw [if_pos c6]; exact e _ rfl
  rw [if_neg c6]
  by_cases c7 : a3 < a2
  · rw [if_pos c7]; exact e _ rfl
  rw [if_neg c7]
  by_cases c8 : a3 > 1048576
  · rw [decide_eq_true c8]; exact e _ rfl
  rw [decide_eq_false c8]
  simp only [beadlelaw19_GateLess.j0]
  rw [if_neg (by decide), gl_worst (by omega) (by omega) (by omega) (by omega), gl_worst (by omega) (by omega) (by omega) (by omega), gl_enough (by omega) (by omega) (by omega) (by omega), gl_enough (by omega) (by omega) (by omega) (by omega)]
  simp only [Option.bind_some, if_true]
  have m1 : (a0 - 1) * a2 ≤ (a1 - 1) * a3 := Int.mul_le_mul (by omega) (by omega) (by omega) (by omega)
  have m2 : a0 * a2 ≤ a1 * a3 := Int.mul_le_mul (by omega) (by omega) (by omega) (by omega)
  have m3 : a0 * a2 ≤ 64 * 1048576 := Int.mul_le_mul (by omega) (by omega) (by omega) (by omega)
  have m4 : 0 ≤ a0 * a2 := Int.mul_nonneg (by omega) (by omega)
  have m5 : (a0 - 1) * a2 + a2 = a0 * a2 := by rw [Int.sub_mul]; omega
  rw [if_pos m1, if_pos m2, m5, gl_wrap m4 (by omega), if_pos rfl]
  by_cases c : a1 * a3 ≤ a4 ∧ a1 * a3 ≤ a5
  · rw [decide_eq_true c, if_pos rfl, decide_eq_true (show a0 * a2 ≤ a4 ∧ a0 * a2 ≤ a5 by omega)]
  · rw [decide_eq_false c, if_neg (by decide)]

end Go.Proofs.Ytjihjmanndhdhaa.Pure
