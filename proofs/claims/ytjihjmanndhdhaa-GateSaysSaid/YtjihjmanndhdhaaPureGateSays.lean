/- GateSays, over numbers and lists alone: the worst wait, what is enough, what a job swells to and whether it fits are the reference's: for all numbers, no condition. -/
import Derived.Test.YtjihjmanndhdhaaPGateSaysx2
import Derived.Test.YtjihjmanndhdhaaWSized
namespace Go.Proofs.Ytjihjmanndhdhaa.PrintWords
/-- the printed row names this lemma from inside its own namespace. -/
theorem sized_ints : type_of% @Go.Proofs.YtjihjmanndhdhaaW.PrintWords.sized_ints := @Go.Proofs.YtjihjmanndhdhaaW.PrintWords.sized_ints
end Go.Proofs.Ytjihjmanndhdhaa.PrintWords

namespace Go.Proofs.Ytjihjmanndhdhaa.Pure
open Go.RowKit Go.Proofs.Ytjihjmanndhdhaa.PGateSays Go.Proofs.YtjihjmanndhdhaaW.PrintWords Go.Proofs.YtjihjmanndhdhaaW.PrintLast

theorem gl_wrap {x : Int} (h0 : 0 ≤ x) (h1 : x ≤ 1152921504606846976) : wrap64 x = x := by
  unfold wrap64; omega

theorem gl_bound {m p : Int} (h1 : 1 ≤ m) (h2 : m ≤ 64) (h3 : 1 ≤ p) (h4 : p ≤ 1048576) : 0 ≤ (m - 1) * p ∧ (m - 1) * p ≤ 67108864 ∧ 0 ≤ m * p ∧ m * p ≤ 67108864 := by
  have b1 : 0 ≤ (m - 1) * p := Int.mul_nonneg (by omega) (by omega)
  have b2 : (m - 1) * p ≤ 63 * 1048576 := Int.mul_le_mul (by omega) h4 (by omega) (by omega)
  have b3 : 0 ≤ m * p := Int.mul_nonneg (by omega) (by omega)
  have b4 : m * p ≤ 64 * 1048576 := Int.mul_le_mul h2 h4 (by omega) (by omega)
  exact ⟨b1, by omega, b3, by omega⟩

theorem gl_worst {m p : Int} (h1 : 1 ≤ m) (h2 : m ≤ 64) (h3 : 1 ≤ p) (h4 : p ≤ 1048576) : gate_Worst.f m p = some ((m - 1) * p, m * p, true) := by
  unfold gate_Worst.f
  rw [if_neg (by omega), if_neg (by omega), if_neg (by omega), if_neg (by omega)]
  have a : wrap64 (m - 1) = m - 1 := by unfold wrap64; omega
  obtain ⟨b1, b2, b3, b4⟩ := gl_bound h1 h2 h3 h4
  rw [a, gl_wrap b1 (by omega), gl_wrap b3 (by omega)]

theorem gl_worst_out {m p : Int} (h : ¬ (1 ≤ m ∧ m ≤ 64 ∧ 1 ≤ p ∧ p ≤ 1048576)) : gate_Worst.f m p = some (0, 0, false) := by
  unfold gate_Worst.f
  by_cases c1 : m < 1
  · rw [if_pos c1]
  rw [if_neg c1]
  by_cases c2 : m > 64
  · rw [if_pos c2]
  rw [if_neg c2]
  by_cases c3 : p < 1
  · rw [if_pos c3]
  rw [if_neg c3, if_pos (by omega)]

theorem gl_awake : beadlelaw19_awake.f = some true := by
  unfold beadlelaw19_awake.f gate_Enough.f
  rw [gl_worst (by omega) (by omega) (by omega) (by omega)]
  decide

theorem gl_good {x : Int} (h0 : 0 ≤ x) (h1 : x ≤ 1152921504606846976) : tick_Good.f x = some true := by
  unfold tick_Good.f; rw [if_pos h0, decide_eq_true (by omega)]

theorem gl_add {x y : Int} (h0 : 0 ≤ x) (h1 : x ≤ 17179869184) (h2 : 0 ≤ y) (h3 : y ≤ 17179869184) : tick_Add.f x y = some (x + y, true) := by
  unfold tick_Add.f tick_good.f
  rw [gl_good h0 (by omega), gl_good h2 (by omega), gl_wrap (x := x + y) (by omega) (by omega), gl_good (by omega) (by omega)]
  rfl

/-- what a job takes with all that it may wait: from the holds on. -/
def sw (m : Int) : Int → List Int → Int × Bool
  | c, [] => (c, true)
  | c, p :: t => if 1 ≤ p ∧ p ≤ 1048576 then sw m (c + (m - 1) * p) t else (0, false)

theorem gl_rd {l : List Int} {i : Nat} (h : i < l.length) : l.drop i = rd l (i : Int) :: l.drop (i + 1) := by
  rw [List.drop_eq_getElem_cons h]
  congr 1
  simp [rd, h]

theorem gl_loop {m : Int} {l : List Int} (h1 : 1 ≤ m) (h2 : m ≤ 64) (hl : l.length ≤ 8) (d : Nat) : ∀ (k i : Nat) (c : Int), i + d = l.length → d < k → 0 ≤ c → c ≤ 2147483648 + i * 67108864 →
    gate_Swells.l0 k m c l (l.length : Int) (i : Int) = some (sw m c (l.drop i)) := by
  induction d with
  | zero =>
    intro k i c hi hk h0 hc
    obtain ⟨k, rfl⟩ : ∃ n, k = n + 1 := ⟨k - 1, by omega⟩
    simp only [gate_Swells.l0]
    rw [if_neg (by omega), List.drop_of_length_le (by omega)]
    rfl
  | succ d ih =>
    intro k i c hi hk h0 hc
    obtain ⟨k, rfl⟩ : ∃ n, k = n + 1 := ⟨k - 1, by omega⟩
    simp only [gate_Swells.l0]
    rw [if_pos (by omega), if_pos (by omega), if_pos (by omega), gl_rd (show i < l.length by omega)]
    generalize rd l (i : Int) = p
    unfold sw
    by_cases hp : 1 ≤ p ∧ p ≤ 1048576
    · obtain ⟨b1, b2, b3, b4⟩ := gl_bound h1 h2 hp.1 hp.2
      rw [gl_worst h1 h2 hp.1 hp.2, if_pos hp]
      simp only [Option.bind_some, if_true]
      rw [gl_add h0 (by omega) b1 (by omega)]
      simp only [Option.bind_some, if_true]
      have e : wrap64 ((i : Int) + 1) = ((i + 1 : Nat) : Int) := by unfold wrap64; omega
      rw [e]
      exact ih k (i + 1) _ (by omega) (by omega) (by omega) (by omega)
    · rw [gl_worst_out (by omega), if_neg hp]
      simp only [Option.bind_some]
      rw [if_neg (by decide)]

theorem gl_out (k : Nat) (m c : Int) (l : List Int) (h : ¬ (0 ≤ c ∧ c ≤ 2147483648 ∧ l.length ≤ 8 ∧ 1 ≤ m ∧ m ≤ 64)) : gate_Swells.f (k + 1) c m l = some (0, false) := by
  have e : gate_Swells.j0 (k + 1) c m l true = some (0, false) := by simp only [gate_Swells.j0, if_true]
  unfold gate_Swells.f
  by_cases c1 : c < 0
  · rw [if_pos c1, e]
  rw [if_neg c1]
  by_cases c2 : c > 2147483648
  · rw [if_pos c2, e]
  rw [if_neg c2]
  by_cases c3 : (l.length : Int) > 8
  · rw [if_pos c3, e]
  rw [if_neg c3]
  by_cases c4 : m < 1
  · rw [if_pos c4, e]
  rw [if_neg c4, decide_eq_true (by omega), e]

theorem gl_in (k : Nat) (m c : Int) (l : List Int) (hk : 10 ≤ k) (h : 0 ≤ c ∧ c ≤ 2147483648 ∧ l.length ≤ 8 ∧ 1 ≤ m ∧ m ≤ 64) : gate_Swells.f k c m l = some (sw m c l) := by
  obtain ⟨a1, a2, a3, a4, a5⟩ := h
  obtain ⟨k, rfl⟩ : ∃ n, k = n + 1 := ⟨k - 1, by omega⟩
  unfold gate_Swells.f
  rw [if_neg (by omega), if_neg (by omega), if_neg (by omega), if_neg (by omega), decide_eq_false (by omega)]
  simp only [gate_Swells.j0]
  rw [if_neg (by decide)]
  have := gl_loop a4 a5 a3 l.length k 0 c (by omega) (by omega) a1 (by omega)
  simpa using this

theorem gl_fits (k : Nat) (m c q s : Int) (b : Bool) (l : List Int) (h : gate_Swells.f k c m l = some (s, b)) : gate_Fits.f k c q m l = some (b && decide (s ≤ q)) := by
  unfold gate_Fits.f
  rw [h]
  cases b <;> simp

theorem gs_worst (m p : Int) : beadleref10_WorstWait.f m p = gate_Worst.f m p := rfl

theorem gs_enough (m p b l : Int) : beadleref10_Enough.f m p b l = gate_Enough.f m p b l := rfl

theorem gs_loop {m : Int} {l : List Int} (h1 : 1 ≤ m) (h2 : m ≤ 64) (hl : l.length ≤ 8) (d : Nat) : ∀ (k i : Nat) (c : Int), i + d = l.length → d < k → 0 ≤ c → c ≤ 2147483648 + i * 67108864 →
    beadleref10_Swells.l0 k c m l (i : Int) = some (sw m c (l.drop i)) := by
  induction d with
  | zero =>
    intro k i c hi hk h0 hc
    obtain ⟨k, rfl⟩ : ∃ n, k = n + 1 := ⟨k - 1, by omega⟩
    simp only [beadleref10_Swells.l0]
    rw [if_neg (by omega), List.drop_of_length_le (by omega)]
    rfl
  | succ d ih =>
    intro k i c hi hk h0 hc
    obtain ⟨k, rfl⟩ : ∃ n, k = n + 1 := ⟨k - 1, by omega⟩
    simp only [beadleref10_Swells.l0]
    rw [if_pos (by omega), if_pos (by omega), gl_rd (show i < l.length by omega)]
    generalize rd l (i : Int) = p
    unfold sw
    rw [gs_worst]
    by_cases hp : 1 ≤ p ∧ p ≤ 1048576
    · obtain ⟨b1, b2, b3, b4⟩ := gl_bound h1 h2 hp.1 hp.2
      rw [gl_worst h1 h2 hp.1 hp.2, if_pos hp]
      simp only [Option.bind_some, if_true]
      rw [gl_wrap (x := c + (m - 1) * p) (by omega) (by omega)]
      have e : wrap64 ((i : Int) + 1) = ((i + 1 : Nat) : Int) := by unfold wrap64; omega
      rw [e]
      exact ih k (i + 1) _ (by omega) (by omega) (by omega) (by omega)
    · rw [gl_worst_out (by omega), if_neg hp]
      simp only [Option.bind_some]
      rw [if_neg (by decide)]

theorem gs_out (k : Nat) (m c : Int) (l : List Int) (h : ¬ (0 ≤ c ∧ c ≤ 2147483648 ∧ l.length ≤ 8 ∧ 1 ≤ m ∧ m ≤ 64)) : beadleref10_Swells.f (k + 1) c m l = some (0, false) := by
  have e : beadleref10_Swells.j0 (k + 1) c m l true = some (0, false) := by simp only [beadleref10_Swells.j0, if_true]
  unfold beadleref10_Swells.f
  by_cases c1 : c < 0
  · rw [if_pos c1, e]
  rw [if_neg c1]
  by_cases c2 : c > 2147483648
  · rw [if_pos c2, e]
  rw [if_neg c2]
  by_cases c3 : (l.length : Int) > 8
  · rw [if_pos c3, e]
  rw [if_neg c3]
  by_cases c4 : m < 1
  · rw [if_pos c4, e]
  rw [if_neg c4, decide_eq_true (by omega), e]

theorem gs_in (k : Nat) (m c : Int) (l : List Int) (hk : 10 ≤ k) (h : 0 ≤ c ∧ c ≤ 2147483648 ∧ l.length ≤ 8 ∧ 1 ≤ m ∧ m ≤ 64) : beadleref10_Swells.f k c m l = some (sw m c l) := by
  obtain ⟨a1, a2, a3, a4, a5⟩ := h
  obtain ⟨k, rfl⟩ : ∃ n, k = n + 1 := ⟨k - 1, by omega⟩
  unfold beadleref10_Swells.f
  rw [if_neg (by omega), if_neg (by omega), if_neg (by omega), if_neg (by omega), decide_eq_false (by omega)]
  simp only [beadleref10_Swells.j0]
  rw [if_neg (by decide)]
  have := gs_loop a4 a5 a3 l.length k 0 c (by omega) (by omega) a1 (by omega)
  simpa using this

theorem gs_some (m p : Int) : ∃ r, gate_Worst.f m p = some r := by
  by_cases h : 1 ≤ m ∧ m ≤ 64 ∧ 1 ≤ p ∧ p ≤ 1048576
  · exact ⟨_, gl_worst h.1 h.2.1 h.2.2.1 h.2.2.2⟩
  · exact ⟨_, gl_worst_out h⟩

theorem gs_enough_some (m p b l : Int) : ∃ r, gate_Enough.f m p b l = some r := by
  obtain ⟨r, hr⟩ := gs_some m p
  unfold gate_Enough.f
  rw [hr]
  simp only [Option.bind_some]
  split
  · split <;> exact ⟨_, rfl⟩
  · exact ⟨_, rfl⟩

theorem gs_both (m c : Int) (l : List Int) : ∃ s b, gate_Swells.f 20 c m l = some (s, b) ∧ beadleref10_Swells.f 20 c m l = some (s, b) := by
  by_cases h : 0 ≤ c ∧ c ≤ 2147483648 ∧ l.length ≤ 8 ∧ 1 ≤ m ∧ m ≤ 64
  · exact ⟨(sw m c l).1, (sw m c l).2, gl_in 20 m c l (by omega) h, gs_in 20 m c l (by omega) h⟩
  · exact ⟨0, false, gl_out 19 m c l h, gs_out 19 m c l h⟩

theorem GateSays : beadlelaw19_GateSays.Pure := by
  intro m most budget left c holds _ _ _ _ _ _ _ _
  refine ⟨20, ?_⟩
  unfold beadlelaw19_GateSays.f
  rw [gl_awake]
  simp only [Option.bind_some, if_true]
  by_cases h20 : (holds.length : Int) > 20
  · rw [if_pos h20]
  rw [if_neg h20, gs_worst, gs_enough]
  obtain ⟨⟨a, b, ok⟩, hw⟩ := gs_some m most
  obtain ⟨e, he⟩ := gs_enough_some m most budget left
  obtain ⟨s, fine, h1, h2⟩ := gs_both m c holds
  rw [hw, he, h1, h2, gl_fits 20 m c budget s fine holds h1]
  cases fine <;> simp

end Go.Proofs.Ytjihjmanndhdhaa.Pure
