/- Names as numbers, and the sign of life of package beadlelaw5: it answers true, in whatever memory. -/
import Derived.Test.YtjihjmanndhdhaaIdsA
namespace Go.Proofs.Ytjihjmanndhdhaa.Ids
open Go.RowKit Go.Proofs.YtjihjmanndhdhaaW.PrintWords Go.Proofs.YtjihjmanndhdhaaW.PrintLast Go.Proofs.YtjihjmanndhdhaaW.PrintMore Go.Proofs.Ytjihjmanndhdhaa.PIdsKnown

theorem wraps_i64 (n : Int) (h0 : 0 ≤ n) (h1 : n < 2 ^ 62) : IntKind.i64.wrap n = n := by rw [IntKind.wrap_i64]; omega

theorem plOf_eq (n : Int) (h0 : 0 ≤ n) (h1 : n < 4294967296) : plOf n = n % 256 :=
  bits_mask .i64 62 (by decide) wraps_i64 8 (by decide) n h0 (by omega)

theorem geOf_eq (n : Int) : geOf n = n / 256 := rfl

theorem make_eq (p g : Int) (h0 : 0 ≤ p) (h1 : p < 256) (h2 : 0 ≤ g) (h3 : g < 16777216) : ids_Make.f p g = some (g * 256 + p, true) := by
  have hb : Go.bits .or .i64 (g * 256) p = g * 256 + p := by
    refine bits_join .i64 62 (by decide) wraps_i64 8 (g * 256) p (by omega) ?_ ?_ h0 ?_ ?_
    · show g * 256 % 256 = 0
      omega
    · show g * 256 < 4611686018427387904
      omega
    · exact h1
    · show p < 4611686018427387904
      omega
  unfold ids_Make.f
  rw [if_neg (by omega), if_neg (by omega), if_neg (by omega), if_neg (by omega), show wrap64 (g * 256) = g * 256 by unfold wrap64; omega, hb,
    show (g * 256 + p) % 4294967296 = g * 256 + p by omega]

theorem make_out (p g : Int) (h : ¬ (0 ≤ p ∧ p < 256 ∧ 0 ≤ g ∧ g < 16777216)) : ids_Make.f p g = some (0, false) := by
  unfold ids_Make.f
  by_cases c1 : p < 0
  · rw [if_pos c1]
  rw [if_neg c1]
  by_cases c2 : p ≥ 256
  · rw [if_pos c2]
  rw [if_neg c2]
  by_cases c3 : g < 0
  · rw [if_pos c3]
  rw [if_neg c3, if_pos (by omega)]

/-- Take where place i is the first that is free. -/
theorem take_calls (t s : Nat) (l : List (Int × Bool)) (w : World) (i : Nat) (g : Int) (h : Tab w t s l) (hi : i < l.length) (hg : (l.getD i (0, false)).1 = g) (hfree : (l.getD i (0, false)).2 = false)
    (hall : ∀ j, j < i → (l.getD j (0, false)).2 = true) (h2 : 0 ≤ g) (h3 : g < 16777216) :
    Calls Try.prog 35 #[.pointer (some ⟨t, 0, none⟩)] w fun e w' => e = .returned (.tuple #[.int .u32 (g * 256 + i), .int .i64 0]) ∧ Only w w' s ∧ Tab w' t s (l.set i (g, true)) ∧ w'.heap.size = w.heap.size := by
  have hm := make_eq i (l.getD i (0, false)).1 (by omega) (by have := h.len; omega) (by omega) (by omega)
  refine (take_free t s l w i _ _ h hi hfree hall hm).mono ?_
  rintro e w' ⟨rfl, ⟨n, rfl⟩⟩
  refine ⟨by rw [hg], ((Only.refl w s).set _ _).drewN n, ?_, by simp⟩
  have := h.mark hi true
  rw [hg] at this
  exact this.of_heap rfl rfl

set_option maxHeartbeats 2000000 in
theorem awake_calls (w : World) : Calls Try.prog 18 #[] w fun e w' => e = .returned (.bool true) ∧ Below w.heap.size w w' := by
  have hN := new_calls 4 w
  have P0 := fun w => place_calls 0 w (by omega) (by omega)
  have G0 := fun w => gen_calls 0 w (by omega) (by omega)
  have P1 := fun w => place_calls 256 w (by omega) (by omega)
  have G1 := fun w => gen_calls 256 w (by omega) (by omega)
  rw [plOf_eq _ (by omega) (by omega)] at P0 P1
  rw [geOf_eq] at G0 G1
  have hw4 : width 4 = 4 := by decide
  rw [hw4] at hN
  clear hw4
  have HZ := Aside0.mk (Nat.le_refl w.heap.size)
  generalize hs : w.heap.size = s at *
  go_enter Try.func18, Try.ntmps18
  go_wp2_with (go_at_call 34; refine hN.mono ?_; rintro e w1 ⟨rfl, hT, hB, hz⟩)
  have HS := Aside0.mk hs
  have HT := Aside0.mk hT
  have HB := Aside0.mk hB
  clear hs hT hB hN hz
  go_wp2_with (go_at_call 35; refine (take_calls _ s _ w1 0 0 HT.out (by decide) (by decide) (by decide) (by omega) (by omega) (by omega)).mono ?_; rintro e w2 ⟨rfl, hO, hT2, hz⟩)
  have HT2 := Aside0.mk hT2
  have HB2 := Aside0.mk (Only.below HB.out hO (Nat.le_refl _) (by have := HB.out.size; rw [HS.out] at this; exact this))
  clear hO hT2 HT HB hz
  go_wp2_with (go_at_call 37; refine (give_yes _ s _ 0 w2 0 0 HT2.out (by omega) (by omega) (by decide) (by decide) (by decide) (by decide) (by omega) (by omega)).mono ?_; rintro e w3 ⟨rfl, hO, hT3⟩)
  have HT3 := Aside0.mk hT3
  have HB3 := Aside0.mk (Only.below HB2.out hO (Nat.le_refl _) (by have := HB2.out.size; rw [HS.out] at this; exact this))
  clear hO hT3 HT2 HB2
  go_wp2_with (go_at_call 35; refine (take_calls _ s _ w3 0 1 HT3.out (by decide) (by decide) (by decide) (by omega) (by omega) (by omega)).mono ?_; rintro e w4 ⟨rfl, hO, hT4, hz⟩)
  have HB4 := Aside0.mk (Only.below HB3.out hO (Nat.le_refl _) (by have := HB3.out.size; rw [HS.out] at this; exact this))
  clear hO hT4 HT3 HB3 hz
  go_wp2_with (first | (go_at_call 20; refine (P0 _).mono ?_; rintro e w5 ⟨rfl, rfl⟩) | (go_at_call 20; refine (P1 _).mono ?_; rintro e w5 ⟨rfl, rfl⟩) | (go_at_call 21; refine (G0 _).mono ?_; rintro e w5 ⟨rfl, rfl⟩) | (go_at_call 21; refine (G1 _).mono ?_; rintro e w5 ⟨rfl, rfl⟩))
  go_ret
  exact ⟨rfl, HB4.out⟩
end Go.Proofs.Ytjihjmanndhdhaa.Ids
