/- GateSwells, over numbers and lists alone: what a job takes with its waits is what it takes, and each wait; of one CPU there is none: for all numbers, no condition. -/
import Derived.Test.YtjihjmanndhdhaaPGateSwellsx2
import Derived.Test.YtjihjmanndhdhaaWSized
namespace Go.Proofs.Ytjihjmanndhdhaa.PrintWords
/-- the printed row names this lemma from inside its own namespace. -/
theorem sized_ints : type_of% @Go.Proofs.YtjihjmanndhdhaaW.PrintWords.sized_ints := @Go.Proofs.YtjihjmanndhdhaaW.PrintWords.sized_ints
end Go.Proofs.Ytjihjmanndhdhaa.PrintWords

namespace Go.Proofs.Ytjihjmanndhdhaa.Pure
open Go.RowKit Go.Proofs.Ytjihjmanndhdhaa.PGateSwells Go.Proofs.YtjihjmanndhdhaaW.PrintWords Go.Proofs.YtjihjmanndhdhaaW.PrintLast

theorem gl_wrap {x : Int} (h0 : 0 ≤ x) (h1 : x ≤ 1152921504606846976) : wrap64 x = x := by
  unfold wrap64; omega

theorem gl_bound {m p : Int} (h1 : 1 ≤ m) (h2 : m ≤ 64) (h3 : 1 ≤ p) (h4 : p ≤ 1048576) : 0 ≤ (m - 1) * p ∧ (m - 1) * p ≤ 67108864 ∧ 0 ≤ m * p ∧ m * p ≤ 67108864 := by
  have b1 : 0 ≤ (m - 1) * p := Int.mul_nonneg (by omega) (by omega)
  have b2 : (m - 1) * p ≤ 63 * 1048576 := Int.mul_le_mul (by omega) h4 (by omega) (by omega)
  have b3 : 0 ≤ m * p := Int.mul_nonneg (by omega) (by omega)
  have b4 : m * p ≤ 64 * 1048576 := Int.mul_le_mul h2 h4 (by omega) (by omega)
  exact ⟨b1, by omega, b3, by omega⟩

theorem gl_worst {m p : Int} (h1 : 1 ≤ m) (h2 : m ≤ 64) (h3 : 1 ≤ p) (h4 : p ≤ 1048576) : gate_Worst.f m p = some ((m - 1) * p, m * p, true) := by
  unfold gate_Worst.f
  rw [if_neg (by omega), if_neg (by omega), if_neg (by omega), if_neg (by omega)]
  have a : wrap64 (m - 1) = m - 1 := by unfold wrap64; omega
  obtain ⟨b1, b2, b3, b4⟩ := gl_bound h1 h2 h3 h4
  rw [a, gl_wrap b1 (by omega), gl_wrap b3 (by omega)]

theorem gl_worst_out {m p : Int} (h : ¬ (1 ≤ m ∧ m ≤ 64 ∧ 1 ≤ p ∧ p ≤ 1048576)) : gate_Worst.f m p = some (0, 0, false) := by
  unfold gate_Worst.f
  by_cases c1 : m < 1
  · rw [if_pos c1]
  rw [if_neg c1]
  by_cases c2 : m > 64
  · rw [if_pos c2]
  rw [if_neg c2]
  by_cases c3 : p < 1
  · rw [if_pos c3]
  rw [if_neg c3, if_pos (by omega)]

theorem gl_awake : beadlelaw19_awake.f = some true := by
  unfold beadlelaw19_awake.f gate_Enough.f
  rw [gl_worst (by omega) (by omega) (by omega) (by omega)]
  decide

theorem gl_good {x : Int} (h0 : 0 ≤ x) (h1 : x ≤ 1152921504606846976) : tick_Good.f x = some true := by
  unfold tick_Good.f; rw [if_pos h0, decide_eq_true (by omega)]

theorem gl_add {x y : Int} (h0 : 0 ≤ x) (h1 : x ≤ 17179869184) (h2 : 0 ≤ y) (h3 : y ≤ 17179869184) : tick_Add.f x y = some (x + y, true) := by
  unfold tick_Add.f tick_good.f
  rw [gl_good h0 (by omega), gl_good h2 (by omega), gl_wrap (x := x + y) (by omega) (by omega), gl_good (by omega) (by omega)]
  rfl

/-- what a job takes with all that it may wait: from the holds on. -/
def sw (m : Int) : Int → List Int → Int × Bool
  | c, [] => (c, true)
  | c, p :: t => if 1 ≤ p ∧ p ≤ 1048576 then sw m (c + (m - 1) * p) t else (0, false)

theorem gl_rd {l : List Int} {i : Nat} (h : i < l.length) : l.drop i = rd l (i : Int) :: l.drop (i + 1) := by
  rw [List.drop_eq_getElem_cons h]
  congr 1
  simp [rd, h]

theorem gl_loop {m : Int} {l : List Int} (h1 : 1 ≤ m) (h2 : m ≤ 64) (hl : l.length ≤ 8) (d : Nat) : ∀ (k i : Nat) (c : Int), i + d = l.length → d < k → 0 ≤ c → c ≤ 2147483648 + i * 67108864 →
    gate_Swells.l0 k m c l (l.length : Int) (i : Int) = some (sw m c (l.drop i)) := by
  induction d with
  | zero =>
    intro k i c hi hk h0 hc
    obtain ⟨k, rfl⟩ : ∃ n, k = n + 1 := ⟨k - 1, by omega⟩
    simp only [gate_Swells.l0]
    rw [if_neg (by omega), List.drop_of_length_le (by omega)]
    rfl
  | succ d ih =>
    intro k i c hi hk h0 hc
    obtain ⟨k, rfl⟩ : ∃ n, k = n + 1 := ⟨k - 1, by omega⟩
    simp only [gate_Swells.l0]
    rw [if_pos (by omega), if_pos (by omega), if_pos (by omega), gl_rd (show i < l.length by omega)]
    generalize rd l (i : Int) = p
    unfold sw
    by_cases hp : 1 ≤ p ∧ p ≤ 1048576
    · obtain ⟨b1, b2, b3, b4⟩ := gl_bound h1 h2 hp.1 hp.2
      rw [gl_worst h1 h2 hp.1 hp.2, if_pos hp]
      simp only [Option.bind_some, if_true]
      rw [gl_add h0 (by omega) b1 (by omega)]
      simp only [Option.bind_some, if_true]
      have e : wrap64 ((i : Int) + 1) = ((i + 1 : Nat) : Int) := by unfold wrap64; omega
      rw [e]
      exact ih k (i + 1) _ (by omega) (by omega) (by omega) (by omega)
    · rw [gl_worst_out (by omega), if_neg hp]
      simp only [Option.bind_some]
      rw [if_neg (by decide)]

theorem gl_out (k : Nat) (m c : Int) (l : List Int) (h : ¬ (0 ≤ c ∧ c ≤ 2147483648 ∧ l.length ≤ 8 ∧ 1 ≤ m ∧ m ≤ 64)) : gate_Swells.f (k + 1) c m l = some (0, false) := by
  have e : gate_Swells.j0 (k + 1) c m l true = some (0, false) := by simp only [gate_Swells.j0, if_true]
  unfold gate_Swells.f
  by_cases c1 : c < 0
  · rw [if_pos c1, e]
  rw [if_neg c1]
  by_cases c2 : c > 2147483648
  · rw [if_pos c2, e]
  rw [if_neg c2]
  by_cases c3 : (l.length : Int) > 8
  · rw [if_pos c3, e]
  rw [if_neg c3]
  by_cases c4 : m < 1
  · rw [if_pos c4, e]
  rw [if_neg c4, decide_eq_true (by omega), e]

theorem gl_in (k : Nat) (m c : Int) (l : List Int) (hk : 10 ≤ k) (h : 0 ≤ c ∧ c ≤ 2147483648 ∧ l.length ≤ 8 ∧ 1 ≤ m ∧ m ≤ 64) : gate_Swells.f k c m l = some (sw m c l) := by
  obtain ⟨a1, a2, a3, a4, a5⟩ := h
  obtain ⟨k, rfl⟩ : ∃ n, k = n + 1 := ⟨k - 1, by omega⟩
  unfold gate_Swells.f
  rw [if_neg (by omega), if_neg (by omega), if_neg (by omega), if_neg (by omega), decide_eq_false (by omega)]
  simp only [gate_Swells.j0]
  rw [if_neg (by decide)]
  have := gl_loop a4 a5 a3 l.length k 0 c (by omega) (by omega) a1 (by omega)
  simpa using this

theorem gl_fits (k : Nat) (m c q s : Int) (b : Bool) (l : List Int) (h : gate_Swells.f k c m l = some (s, b)) : gate_Fits.f k c q m l = some (b && decide (s ≤ q)) := by
  unfold gate_Fits.f
  rw [h]
  cases b <;> simp

theorem sw_nonneg {m : Int} (h1 : 1 ≤ m) (h2 : m ≤ 64) (l : List Int) : ∀ c : Int, 0 ≤ c → 0 ≤ (sw m c l).1 := by
  induction l with
  | nil => intro c hc; exact hc
  | cons p t ih =>
    intro c hc
    unfold sw
    by_cases hp : 1 ≤ p ∧ p ≤ 1048576
    · rw [if_pos hp]
      have := gl_bound h1 h2 hp.1 hp.2
      exact ih _ (by omega)
    · rw [if_neg hp]; exact Int.le_refl 0

theorem sw_le {m : Int} (h1 : 1 ≤ m) (h2 : m ≤ 64) (l : List Int) : ∀ c : Int, 0 ≤ c → (sw m c l).1 ≤ c + 67108864 * l.length := by
  induction l with
  | nil => intro c hc; simp [sw]
  | cons p t ih =>
    intro c hc
    unfold sw
    by_cases hp : 1 ≤ p ∧ p ≤ 1048576
    · rw [if_pos hp]
      have b := gl_bound h1 h2 hp.1 hp.2
      have := ih (c + (m - 1) * p) (by omega)
      simp only [List.length_cons]
      omega
    · rw [if_neg hp]; simp only [List.length_cons]; omega

theorem sw_fail {m : Int} (l : List Int) : ∀ c : Int, (sw m c l).2 = false → (sw m c l).1 = 0 := by
  induction l with
  | nil => intro c hc; simp [sw] at hc
  | cons p t ih =>
    intro c hc
    unfold sw at hc ⊢
    by_cases hp : 1 ≤ p ∧ p ≤ 1048576
    · rw [if_pos hp] at hc ⊢; exact ih _ hc
    · rw [if_neg hp]

theorem sw_one {m : Int} (l : List Int) : ∀ c d : Int, (sw m c l).2 = true → sw 1 d l = (d, true) := by
  induction l with
  | nil => intro c d hc; rfl
  | cons p t ih =>
    intro c d hc
    unfold sw at hc ⊢
    by_cases hp : 1 ≤ p ∧ p ≤ 1048576
    · rw [if_pos hp] at hc ⊢
      rw [show d + (1 - 1) * p = d by simp]
      exact ih _ d hc
    · rw [if_neg hp] at hc; simp at hc

theorem sw_loop {c m s : Int} {l : List Int} (h1 : 1 ≤ m) (h2 : m ≤ 64) (hl : l.length ≤ 8)
    (hf : ∀ k, 12 ≤ k → gate_Fits.f k c s m l = some true) (hg : ∀ k, 12 ≤ k → gate_Fits.f k c (wrap64 (s - 1)) m l = some false) (d : Nat) :
    ∀ (k i : Nat) (n : Int), i + d = l.length → d + 13 < k → 0 ≤ n → n ≤ 2147483648 + i * 67108864 → sw m n (l.drop i) = (s, true) →
    beadlelaw19_GateSwells.l0 k c m l s c true n (i : Int) = some true := by
  induction d with
  | zero =>
    intro k i n hi hk h0 hc hs
    obtain ⟨k, rfl⟩ : ∃ n, k = n + 1 := ⟨k - 1, by omega⟩
    rw [List.drop_of_length_le (by omega)] at hs
    have e : n = s := by simpa [sw] using hs
    simp only [beadlelaw19_GateSwells.l0]
    rw [if_neg (by omega), if_pos e.symm]
    simp only [if_true]
    rw [hf k (by omega), hg k (by omega)]
    rfl
  | succ d ih =>
    intro k i n hi hk h0 hc hs
    obtain ⟨k, rfl⟩ : ∃ n, k = n + 1 := ⟨k - 1, by omega⟩
    rw [gl_rd (show i < l.length by omega)] at hs
    simp only [beadlelaw19_GateSwells.l0]
    rw [if_pos (by omega), if_pos (by omega)]
    generalize rd l (i : Int) = p at hs ⊢
    unfold sw at hs
    by_cases hp : 1 ≤ p ∧ p ≤ 1048576
    · obtain ⟨b1, b2, b3, b4⟩ := gl_bound h1 h2 hp.1 hp.2
      rw [if_pos hp] at hs
      rw [gl_worst h1 h2 hp.1 hp.2]
      simp only [Option.bind_some, if_true]
      have m5 : (m - 1) * p + p = m * p := by rw [Int.sub_mul]; omega
      rw [m5, gl_wrap b3 (by omega), if_pos rfl, gl_wrap (x := n + (m - 1) * p) (by omega) (by omega)]
      have e : wrap64 ((i : Int) + 1) = ((i + 1 : Nat) : Int) := by unfold wrap64; omega
      rw [e]
      exact ih k (i + 1) _ (by omega) (by omega) (by omega) (by omega) hs
    · rw [if_neg hp] at hs; simp at hs

theorem GateSwells : beadlelaw19_GateSwells.Pure := by
  intro c m holds _ _ _ _ _
  refine ⟨40, ?_⟩
  unfold beadlelaw19_GateSwells.f
  rw [gl_awake]
  simp only [Option.bind_some, if_true]
  by_cases h : 0 ≤ c ∧ c ≤ 2147483648 ∧ holds.length ≤ 8 ∧ 1 ≤ m ∧ m ≤ 64
  · have e := gl_in 40 m c holds (by omega) h
    have e1 := gl_in 40 1 c holds (by omega) ⟨h.1, h.2.1, h.2.2.1, by omega, by omega⟩
    rw [e, e1]
    simp only [Option.bind_some]
    by_cases hb : (sw m c holds).2 = true
    · rw [if_pos hb, sw_one holds c c hb]
      obtain ⟨s, hs⟩ : ∃ s, sw m c holds = (s, true) := ⟨(sw m c holds).1, by rw [← hb]⟩
      have n0 : 0 ≤ s := by have := sw_nonneg h.2.2.2.1 h.2.2.2.2 holds c h.1; rw [hs] at this; exact this
      have n1 : s ≤ c + 67108864 * holds.length := by have := sw_le h.2.2.2.1 h.2.2.2.2 holds c h.1; rw [hs] at this; exact this
      rw [hs]
      refine sw_loop h.2.2.2.1 h.2.2.2.2 h.2.2.1 ?_ ?_ holds.length 40 0 c (by omega) (by omega) h.1 (by omega) hs
      · intro k hk
        rw [gl_fits k m c s s true holds (by rw [gl_in k m c holds (by omega) h, hs])]
        simp
      · intro k hk
        rw [gl_fits k m c _ s true holds (by rw [gl_in k m c holds (by omega) h, hs])]
        have : ¬ s ≤ wrap64 (s - 1) := by unfold wrap64; omega
        simp [this]
    · rw [if_neg hb]
      have hb' : (sw m c holds).2 = false := by simpa using hb
      rw [sw_fail holds c hb']
      rfl
  · rw [gl_out 39 m c holds h]
    obtain ⟨r, hr⟩ : ∃ r, gate_Swells.f 40 c 1 holds = some r := by
      by_cases h' : 0 ≤ c ∧ c ≤ 2147483648 ∧ holds.length ≤ 8 ∧ (1 : Int) ≤ 1 ∧ (1 : Int) ≤ 64
      · exact ⟨_, gl_in 40 1 c holds (by omega) h'⟩
      · exact ⟨_, gl_out 39 1 c holds h'⟩
    rw [hr]
    rfl

end Go.Proofs.Ytjihjmanndhdhaa.Pure
