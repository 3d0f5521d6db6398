/- TurnKnown, the walk: what chapter 8 says of whose turn it is: in whatever memory. -/
import Derived.Test.YtjihjmanndhdhaaTurnC
namespace Go.Proofs.Ytjihjmanndhdhaa.Turn
open Go.RowKit Go.Maps

theorem below_then' {B : Nat} {w w1 w2 : World} (h : Below B w w1) (hB : B ≤ w1.heap.size) (k : Below w1.heap.size w1 w2) : Below B w w2 :=
  h.trans ⟨k.os, k.tape, k.output, k.size, fun i hi => k.block i (Nat.lt_of_lt_of_le hi hB)⟩

theorem frm_b {B : Nat} {a w w' : World} {t m : Nat} (hb : Below B a w) (h : Frm w w' (fun k => k = t ∨ k = m)) (ht : B ≤ t) (hm : B ≤ m) (hs : a.heap.size = B) : Below B a w' :=
  frm_below hb h ht hm (by have := hb.size; omega)

/-- who j is, when three tickets have been served. -/
def pk (j : Nat) : Int × Nat := ((j : Int), 3 + j)

theorem pk_any {L : List Nat} {x : Int} (h : ∀ j ∈ L, (j : Int) ≠ x) : (L.map pk).any (fun p => p.1 == x) = false := by
  rw [List.any_eq_false]
  intro p hp
  obtain ⟨j, hj, rfl⟩ := List.mem_map.1 hp
  have := h j hj
  simpa [pk] using this

theorem draw_pk {w : World} {t m i : Nat} (h : Lk w t m (3 + i) ((List.range i).map pk)) (hi : i < 64) :
    Calls Try.prog 29 #[.pointer (some ⟨t, 0, none⟩), .int .i64 i] w fun e w' => e = .returned (.tuple #[.int .u32 ((3 + i : Nat) : Int), .int .i64 0]) ∧ Lk w' t m (3 + (i + 1)) ((List.range (i + 1)).map pk) ∧ Frm w w' (fun k => k = t ∨ k = m) :=
  (draw_ok t m (3 + i) _ (i : Int) w h (wf_small (by omega) (by omega)) (pk_any (by intro j hj; have := List.mem_range.1 hj; omega)) (by omega) (by omega) (by simpa using hi) (by omega)).mono fun _ _ ⟨h1, h2, h3⟩ =>
    ⟨h1, by rw [List.range_succ, List.map_append]; exact h2, h3⟩

set_option maxHeartbeats 4000000 in
set_option maxRecDepth 100000 in
theorem known_calls (w : World) : Calls Try.prog 12 #[] w fun e w' => e = .returned (.bool true) ∧ Below w.heap.size w w' := by
  have A := awake_calls w
  go_enter Try.func12, Try.ntmps12
  go_wp2_with (go_at_call 27; refine A.mono ?_; rintro e w1 ⟨rfl, hB1⟩)
  clear A
  have N := new_calls w1
  have HB1 := Lib.hid hB1
  clear hB1
  go_wp2_with (go_at_call 28; (with_reducible refine N.mono ?_); rintro e w2 ⟨rfl, hL2, hB2⟩)
  have HB2 := Lib.hid (below_then' HB1.out HB1.out.size hB2)
  have HL2 := Lib.hid hL2
  have hmb : w.heap.size ≤ w1.heap.size := HB1.out.size
  clear hB2 hL2 N HB1
  generalize w1.heap.size = m at *
  generalize hbs : w.heap.size = base at *
  have HBS := Lib.hid hbs
  clear hbs
  have hmt : base ≤ m + 1 := by omega
  have D : Calls Try.prog 29 #[.pointer (some ⟨m + 1, 0, none⟩), .int .i64 (-1)] w2 fun e w' => e = .returned (.tuple #[.int .u32 0, .int .i64 1]) ∧ w2 = w' := (draw_arg _ m 0 ([] : List (Int × Nat)) (-1) w2 HL2.out (wf_small (by omega) (by omega)) (by decide) (by omega)).mono fun _ _ ⟨h1, h2⟩ => ⟨h1, h2.symm⟩
  go_wp2_with (go_at_call 29; (with_reducible refine D.mono ?_); rintro e wz ⟨rfl, rfl⟩)
  clear D
  have D : Calls Try.prog 29 #[.pointer (some ⟨m + 1, 0, none⟩), .int .i64 256] w2 fun e w' => e = .returned (.tuple #[.int .u32 0, .int .i64 1]) ∧ w2 = w' := (draw_arg _ m 0 ([] : List (Int × Nat)) 256 w2 HL2.out (wf_small (by omega) (by omega)) (by decide) (by omega)).mono fun _ _ ⟨h1, h2⟩ => ⟨h1, h2.symm⟩
  go_wp2_with (go_at_call 29; (with_reducible refine D.mono ?_); rintro e wz ⟨rfl, rfl⟩)
  clear D
  have D : Calls Try.prog 29 #[.pointer (some ⟨m + 1, 0, none⟩), .int .i64 1] w2 fun e w' => e = .returned (.tuple #[.int .u32 0, .int .i64 0]) ∧ Lk w' (m + 1) m 1 [(1, 0)] ∧ Below base w w' := (draw_ok _ m 0 ([] : List (Int × Nat)) 1 w2 HL2.out (wf_small (by omega) (by omega)) (by decide) (by omega) (by omega) (by decide) (by omega)).mono fun _ _ ⟨h1, h2, h3⟩ => ⟨h1, h2, frm_b HB2.out h3 hmt hmb HBS.out⟩
  go_wp2_with (go_at_call 29; (with_reducible refine D.mono ?_); rintro e w3 ⟨rfl, hL, hB⟩)
  have HL3 := Lib.hid hL
  have HB3 := Lib.hid hB
  clear hL hB D HL2 HB2
  have D : Calls Try.prog 29 #[.pointer (some ⟨m + 1, 0, none⟩), .int .i64 1] w3 fun e w' => e = .returned (.tuple #[.int .u32 0, .int .i64 5]) ∧ w3 = w' := (draw_busy _ m 1 [(1, 0)] 1 w3 HL3.out (wf_small (by omega) (by omega)) (by decide)).mono fun _ _ ⟨h1, h2⟩ => ⟨h1, h2.symm⟩
  go_wp2_with (go_at_call 29; (with_reducible refine D.mono ?_); rintro e wz ⟨rfl, rfl⟩)
  clear D
  have D : Calls Try.prog 29 #[.pointer (some ⟨m + 1, 0, none⟩), .int .i64 2] w3 fun e w' => e = .returned (.tuple #[.int .u32 1, .int .i64 0]) ∧ Lk w' (m + 1) m 2 [(1, 0), (2, 1)] ∧ Below base w w' := (draw_ok _ m 1 [(1, 0)] 2 w3 HL3.out (wf_small (by omega) (by omega)) (by decide) (by omega) (by omega) (by decide) (by omega)).mono fun _ _ ⟨h1, h2, h3⟩ => ⟨h1, h2, frm_b HB3.out h3 hmt hmb HBS.out⟩
  go_wp2_with (go_at_call 29; (with_reducible refine D.mono ?_); rintro e w4 ⟨rfl, hL, hB⟩)
  have HL4 := Lib.hid hL
  have HB4 := Lib.hid hB
  clear hL hB D HL3 HB3
  have D : Calls Try.prog 29 #[.pointer (some ⟨m + 1, 0, none⟩), .int .i64 3] w4 fun e w' => e = .returned (.tuple #[.int .u32 2, .int .i64 0]) ∧ Lk w' (m + 1) m 3 [(1, 0), (2, 1), (3, 2)] ∧ Below base w w' := (draw_ok _ m 2 [(1, 0), (2, 1)] 3 w4 HL4.out (wf_small (by omega) (by omega)) (by decide) (by omega) (by omega) (by decide) (by omega)).mono fun _ _ ⟨h1, h2, h3⟩ => ⟨h1, h2, frm_b HB4.out h3 hmt hmb HBS.out⟩
  go_wp2_with (go_at_call 29; (with_reducible refine D.mono ?_); rintro e w5 ⟨rfl, hL, hB⟩)
  have HL5 := Lib.hid hL
  have HB5 := Lib.hid hB
  clear hL hB D HL4 HB4
  have D : Calls Try.prog 32 #[.pointer (some ⟨m + 1, 0, none⟩), .int .i64 2] w5 fun e w' => e = .returned (.int .i64 5) ∧ w5 = w' := (free_busy _ m 3 [(1, 0), (2, 1), (3, 2)] 2 w5 HL5.out (wf_small (by omega) (by omega)) (by decide) (by decide)).mono fun _ _ ⟨h1, h2⟩ => ⟨h1, h2.symm⟩
  go_wp2_with (go_at_call 32; (with_reducible refine D.mono ?_); rintro e wz ⟨rfl, rfl⟩)
  clear D
  have D : Calls Try.prog 32 #[.pointer (some ⟨m + 1, 0, none⟩), .int .i64 9] w5 fun e w' => e = .returned (.int .i64 4) ∧ w5 = w' := (free_none _ m 3 [(1, 0), (2, 1), (3, 2)] 9 w5 HL5.out (wf_small (by omega) (by omega)) (by decide)).mono fun _ _ ⟨h1, h2⟩ => ⟨h1, h2.symm⟩
  go_wp2_with (go_at_call 32; (with_reducible refine D.mono ?_); rintro e wz ⟨rfl, rfl⟩)
  clear D
  have D : Calls Try.prog 44 #[.pointer (some ⟨m + 1, 0, none⟩), .int .i64 1] w5 fun e w' => e = .returned (.int .i64 5) ∧ w5 = w' := (leave_first _ m 3 [(1, 0), (2, 1), (3, 2)] 1 w5 HL5.out (wf_small (by omega) (by omega)) (by decide) (by decide)).mono fun _ _ ⟨h1, h2⟩ => ⟨h1, h2.symm⟩
  go_wp2_with (go_at_call 44; (with_reducible refine D.mono ?_); rintro e wz ⟨rfl, rfl⟩)
  clear D
  have D : Calls Try.prog 44 #[.pointer (some ⟨m + 1, 0, none⟩), .int .i64 9] w5 fun e w' => e = .returned (.int .i64 4) ∧ w5 = w' := (leave_none _ m 3 [(1, 0), (2, 1), (3, 2)] 9 w5 HL5.out (wf_small (by omega) (by omega)) (by decide)).mono fun _ _ ⟨h1, h2⟩ => ⟨h1, h2.symm⟩
  go_wp2_with (go_at_call 44; (with_reducible refine D.mono ?_); rintro e wz ⟨rfl, rfl⟩)
  clear D
  have D : Calls Try.prog 44 #[.pointer (some ⟨m + 1, 0, none⟩), .int .i64 2] w5 fun e w' => e = .returned (.int .i64 0) ∧ Lk w' (m + 1) m 3 [(1, 0), (3, 2)] ∧ Below base w w' := (leave_ok _ m 3 [(1, 0), (2, 1), (3, 2)] 2 w5 HL5.out (wf_small (by omega) (by omega)) (by decide) (by decide)).mono fun _ _ ⟨h1, h2, h3⟩ => ⟨h1, h2, frm_b HB5.out h3 hmt hmb HBS.out⟩
  go_wp2_with (go_at_call 44; (with_reducible refine D.mono ?_); rintro e w6 ⟨rfl, hL, hB⟩)
  have HL6 := Lib.hid hL
  have HB6 := Lib.hid hB
  clear hL hB D HL5 HB5
  have D : Calls Try.prog 32 #[.pointer (some ⟨m + 1, 0, none⟩), .int .i64 1] w6 fun e w' => e = .returned (.int .i64 0) ∧ Lk w' (m + 1) m 3 [(3, 2)] ∧ Below base w w' := (free_ok _ m 3 [(1, 0), (3, 2)] 1 w6 HL6.out (wf_small (by omega) (by omega)) (by decide) (by decide)).mono fun _ _ ⟨h1, h2, h3⟩ => ⟨h1, h2, frm_b HB6.out h3 hmt hmb HBS.out⟩
  go_wp2_with (go_at_call 32; (with_reducible refine D.mono ?_); rintro e w7 ⟨rfl, hL, hB⟩)
  have HL7 := Lib.hid hL
  have HB7 := Lib.hid hB
  clear hL hB D HL6 HB6
  have D : Calls Try.prog 30 #[.pointer (some ⟨m + 1, 0, none⟩), .int .i64 3] w7 fun e w' => e = .returned (.bool true) ∧ w7 = w' := (has_calls _ m 3 [(3, 2)] 3 w7 HL7.out (wf_small (by omega) (by omega))).mono fun _ _ ⟨h1, h2⟩ => ⟨h1, h2.symm⟩
  go_wp2_with (go_at_call 30; (with_reducible refine D.mono ?_); rintro e wz ⟨rfl, rfl⟩)
  clear D
  have D : Calls Try.prog 31 #[.pointer (some ⟨m + 1, 0, none⟩), .int .i64 3] w7 fun e w' => e = .returned (.int .i64 0) ∧ Lk w' (m + 1) m 3 [(3, 2)] ∧ Below base w w' := (step_ahead HL7.out).mono fun _ _ ⟨h1, h2, h3⟩ => ⟨h1, h2, HB7.out.trans (h3.mono (by have := HB7.out.size; have := HBS.out; omega))⟩
  go_wp2_with (go_at_call 31; (with_reducible refine D.mono ?_); rintro e w8 ⟨rfl, hL, hB⟩)
  have HL8 := Lib.hid hL
  have HB8 := Lib.hid hB
  clear hL hB D HL7 HB7
  have D : Calls Try.prog 32 #[.pointer (some ⟨m + 1, 0, none⟩), .int .i64 3] w8 fun e w' => e = .returned (.int .i64 0) ∧ Lk w' (m + 1) m 3 [] ∧ Below base w w' := (free_ok _ m 3 [(3, 2)] 3 w8 HL8.out (wf_small (by omega) (by omega)) (by decide) (by decide)).mono fun _ _ ⟨h1, h2, h3⟩ => ⟨h1, h2, frm_b HB8.out h3 hmt hmb HBS.out⟩
  go_wp2_with (go_at_call 32; (with_reducible refine D.mono ?_); rintro e w9 ⟨rfl, hL, hB⟩; have c1 : w9.cell? ⟨m + 1, 1, none⟩ = some (.int .u32 3) := hL.c1; have HL9 := Lib.hid hL; have HB9 := Lib.hid hB; clear hL hB)
  clear D HL8 HB8 c1
  go_loopw [18] (fun v18 wr => ∃ i : Nat, v18 = .int .i64 i ∧ i ≤ 64 ∧ Hid (Lk wr (m + 1) m (3 + i) ((List.range i).map pk)) ∧ Hid (Below base w wr)) (fun v18 _ => 64 - (intOf v18).toNat)
  case atStart => exact ⟨0, rfl, by omega, HL9, HB9⟩
  case round =>
    clear HL9 HB9
    obtain ⟨i, rfl, hi, HL, HB⟩ := hrel
    by_cases hlt : i < 64
    · have D := draw_pk HL.out hlt
      go_wp2_with (go_at_call 29; (with_reducible refine D.mono ?_); rintro e w3 ⟨rfl, hL3, hF3⟩; have HB3 := Lib.hid (frm_b HB.out hF3 hmt hmb HBS.out); have HL3 := Lib.hid hL3; clear hL3 hF3)
      go_roundw
      case rel => exact ⟨i + 1, by go_num, by omega, HL3, HB3⟩
      case measure => simp [intOf]; omega
    · obtain rfl : i = 64 := by omega
      have c0 : wr.cell? ⟨m + 1, 0, none⟩ = some (.int .u32 67) := HL.out.c0
      have D : Calls Try.prog 29 #[.pointer (some ⟨m + 1, 0, none⟩), .int .i64 100] wr fun e w' => e = .returned (.tuple #[.int .u32 0, .int .i64 3]) ∧ wr = w' :=
        (draw_full _ m 67 _ 100 wr HL.out (wf_small (by omega) (by omega)) (pk_any (by intro j hj; have := List.mem_range.1 hj; omega)) (by omega) (by omega) (by simp)).mono fun _ _ ⟨h1, h2⟩ => ⟨h1, h2.symm⟩
      have E : Calls Try.prog 31 #[.pointer (some ⟨m + 1, 0, none⟩), .int .i64 100] wr fun e w' => e = .returned (.int .i64 (-1)) ∧ wr = w' :=
        (ahead_none _ m 67 _ 100 wr HL.out (wf_small (by omega) (by omega)) (pk_any (by intro j hj; have := List.mem_range.1 hj; omega))).mono fun _ _ ⟨h1, h2⟩ => ⟨h1, h2.symm⟩
      have S : Calls Try.prog 33 #[.pointer (some ⟨m + 1, 0, none⟩)] wr fun e w' => e = .returned (.int .i64 64) ∧ wr = w' := by
        have := step_len HL.out
        rw [show ((List.range 64).map pk).length = 64 by simp] at this
        exact this
      clear hi hlt
      go_wp2_with (first
        | (go_at_call 29; (with_reducible refine D.mono ?_); rintro e w3 ⟨rfl, rfl⟩)
        | (go_at_call 31; (with_reducible refine E.mono ?_); rintro e w3 ⟨rfl, rfl⟩)
        | (go_at_call 33; (with_reducible refine S.mono ?_); rintro e w3 ⟨rfl, rfl⟩))
      go_ret
      exact ⟨rfl, by rw [HBS.out]; exact HB.out⟩
end Go.Proofs.Ytjihjmanndhdhaa.Turn
