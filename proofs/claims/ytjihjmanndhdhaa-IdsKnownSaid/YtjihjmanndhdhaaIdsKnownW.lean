/- IdsKnown, the walk: what chapter 5 says of elder names, of none: in whatever memory. -/
import Derived.Test.YtjihjmanndhdhaaIdsC
namespace Go.Proofs.Ytjihjmanndhdhaa.Ids
open Go.RowKit Go.Proofs.YtjihjmanndhdhaaW.PrintWords Go.Proofs.YtjihjmanndhdhaaW.PrintLast Go.Proofs.YtjihjmanndhdhaaW.PrintMore Go.Proofs.Ytjihjmanndhdhaa.PIdsKnown

set_option linter.unusedSimpArgs false
set_option linter.unusedVariables false

/-- two tables, one behind the other, from block s on. -/
structure Two (w0 w : World) (base s : Nat) (l1 l2 : List (Int × Bool)) : Prop where
  size : w0.heap.size = base
  le : base ≤ s
  one : Tab w (s + 1) s l1
  two : Tab w (s + 3) (s + 2) l2
  below : Below base w0 w

theorem Two.hs {w0 w : World} {base s : Nat} {l1 l2 : List (Int × Bool)} (h : Two w0 w base s l1 l2) : base ≤ w.heap.size := by
  have := h.below.size
  have := h.size
  omega

theorem Two.quiet {w0 w w' : World} {base s : Nat} {l1 l2 : List (Int × Bool)} (h : Two w0 w base s l1 l2) (hb : Below w.heap.size w w') : Two w0 w' base s l1 l2 :=
  ⟨h.size, h.le, h.one.of_heap (hb.block _ h.one.lt_t) (hb.block _ h.one.lt_s), h.two.of_heap (hb.block _ h.two.lt_t) (hb.block _ h.two.lt_s), h.below.trans (hb.mono h.hs)⟩

theorem Two.first {w0 w w' : World} {base s : Nat} {l1 l2 l3 : List (Int × Bool)} (h : Two w0 w base s l1 l2) (ho : Only w w' s) (ht : Tab w' (s + 1) s l3) : Two w0 w' base s l3 l2 :=
  ⟨h.size, h.le, ht, h.two.of_heap (ho.block _ h.two.lt_t (by omega)) (ho.block _ h.two.lt_s (by omega)), Only.below h.below ho h.le h.hs⟩

theorem Two.second {w0 w w' : World} {base s : Nat} {l1 l2 l3 : List (Int × Bool)} (h : Two w0 w base s l1 l2) (ho : Only w w' (s + 2)) (ht : Tab w' (s + 3) (s + 2) l3) : Two w0 w' base s l1 l3 :=
  ⟨h.size, h.le, h.one.of_heap (ho.block _ h.one.lt_t (by omega)) (ho.block _ h.one.lt_s (by omega)), ht, Only.below h.below ho (by have := h.le; omega) h.hs⟩

/-- the great table when i are taken. -/
def gr (i : Nat) : List (Int × Bool) := List.replicate i (0, true) ++ List.replicate (256 - i) (0, false)

theorem gr_len {i : Nat} (h : i ≤ 256) : (gr i).length = 256 := by simp [gr]; omega

theorem gr_lo {i j : Nat} (h : j < i) : (gr i).getD j (0, false) = (0, true) := by
  simp [gr, List.getD_eq_getElem?_getD, List.getElem?_append, h]

theorem gr_at {i : Nat} (h : i < 256) : (gr i).getD i (0, false) = (0, false) := by
  have : 0 < 256 - i := by omega
  simp [gr, List.getD_eq_getElem?_getD, List.getElem?_append, List.getElem?_replicate, this]

theorem gr_set {i : Nat} (h : i < 256) : (gr i).set i (0, true) = gr (i + 1) := by
  unfold gr
  rw [List.set_append_right _ _ (by simp), List.length_replicate, Nat.sub_self, show 256 - i = (256 - (i + 1)) + 1 by omega, List.replicate_succ, List.set_cons_zero, List.replicate_succ' (n := i), List.append_assoc]
  rfl

theorem take_gr {w0 w : World} {base s i : Nat} {l1 : List (Int × Bool)} (h : Two w0 w base s l1 (gr i)) (hi : i < 256) :
    Calls Try.prog 35 #[.pointer (some ⟨s + 3, 0, none⟩)] w fun e w' => e = .returned (.tuple #[.int .u32 i, .int .i64 0]) ∧ Two w0 w' base s l1 (gr (i + 1)) :=
  (take_calls _ (s + 2) _ w i 0 h.two (by rw [gr_len (by omega)]; exact hi) (by rw [gr_at hi]) (by rw [gr_at hi]) (fun j hj => by rw [gr_lo hj]) (by omega) (by omega)).mono fun e w' ⟨h1, h2, h3, _⟩ =>
    ⟨by rw [h1]; simp, h.second h2 (by rw [gr_set hi] at h3; exact h3)⟩

theorem place_gr (i : Nat) (hi : i < 256) (w : World) : Calls Try.prog 20 #[.int .u32 i] w fun e w' => e = .returned (.int .i64 i) ∧ w = w' :=
  (place_calls i w (by omega) (by omega)).mono fun e w' ⟨h1, h2⟩ => ⟨by rw [h1, plOf_eq i (by omega) (by omega), show (i : Int) % 256 = i by omega], h2.symm⟩

theorem names_gr : (names (gr 256)).length = 256 := by decide +kernel

theorem genOk_gr : GenOk (gr 256) := by
  intro q hq
  have : q = (0, true) := by
    rcases List.mem_append.1 hq with h | h
    · exact (List.mem_replicate.1 h).2
    · exact absurd (List.mem_replicate.1 h).1 (by omega)
  subst this
  exact ⟨by omega, by omega⟩

set_option maxHeartbeats 8000000 in
set_option maxRecDepth 100000 in
theorem known_calls (w : World) : Calls Try.prog 9 #[] w fun e w' => e = .returned (.bool true) ∧ Below w.heap.size w w' := by
  have A := awake_calls w
  go_enter Try.func9, Try.ntmps9
  go_wp2_with (go_at_call 18; refine A.mono ?_; rintro e w1 ⟨rfl, hB1⟩)
  clear A
  have HB1 := Lib.hid hB1
  clear hB1
  have N : Calls Try.prog 34 #[.int .i64 0] w1 fun e w' => e = .returned (.pointer (some ⟨w1.heap.size + 1, 0, none⟩)) ∧ Tab w' (w1.heap.size + 1) w1.heap.size [(0, false)] ∧ Below w1.heap.size w1 w' ∧ w'.heap.size = w1.heap.size + 2 := new_calls 0 w1
  generalize hs : w1.heap.size = s at *
  have HS := Lib.hid hs
  clear hs
  have N2 : ∀ w2, w2.heap.size = s + 2 → Calls Try.prog 34 #[.int .i64 1000] w2 fun e w' => e = .returned (.pointer (some ⟨s + 3, 0, none⟩)) ∧ Tab w' (s + 3) (s + 2) (gr 0) ∧ Below (s + 2) w2 w' := fun w2 h2 => (new_calls 1000 w2).mono fun e w' ⟨h3, h4, h5, _⟩ => by
    rw [h2] at h3 h4 h5
    exact ⟨h3, h4, h5⟩
  go_wp2_with (first
    | (go_at_call 34; (with_reducible refine N.mono ?_); rintro e w2 ⟨rfl, hT2, hB2, hz2⟩)
    | (go_at_call 34; (with_reducible refine (N2 _ hz2).mono ?_); rintro e w3 ⟨rfl, hT3, hB3⟩))
  have HT : Hid (Two w w3 w.heap.size s [(0, false)] (gr 0)) := ⟨rfl, by rw [← HS.out]; exact HB1.out.size, hT2.of_heap (hB3.block _ (by omega)) (hB3.block _ (by omega)), hT3, (HB1.out.trans (hB2.mono (by rw [← HS.out]; exact HB1.out.size))).trans (hB3.mono (by have := HB1.out.size; have := HS.out; omega))⟩
  clear hT2 hB2 hz2 hT3 hB3 N N2 HB1 HS
  generalize hbs : w.heap.size = base at *
  have HBS := Lib.hid hbs
  clear hbs
  have D : Calls Try.prog 35 #[.pointer (some ⟨s + 1, 0, none⟩)] w3 fun e w' => e = .returned (.tuple #[.int .u32 0, .int .i64 0]) ∧ Two w w' base s [(0, true)] (gr 0) := (take_calls _ s _ w3 0 0 HT.out.one (by decide) (by decide) (by decide) (by omega) (by omega) (by omega)).mono fun _ _ ⟨h1, h2, h3, _⟩ => ⟨h1, HT.out.first h2 h3⟩
  go_wp2_with (go_at_call 35; (with_reducible refine D.mono ?_); rintro e w4 ⟨rfl, hT⟩; clear D HT; have HT := Lib.hid hT; clear hT)
  have D : Calls Try.prog 35 #[.pointer (some ⟨s + 1, 0, none⟩)] w4 fun e w' => e = .returned (.tuple #[.int .u32 0, .int .i64 3]) ∧ Two w w' base s [(0, true)] (gr 0) := (take_full _ s _ w4 HT.out.one (by decide)).mono fun _ _ ⟨h1, h2⟩ => ⟨h1, h2 ▸ HT.out⟩
  go_wp2_with (go_at_call 35; (with_reducible refine D.mono ?_); rintro e w5 ⟨rfl, hT⟩; clear D HT; have HT := Lib.hid hT; clear hT)
  have D : Calls Try.prog 36 #[.pointer (some ⟨s + 1, 0, none⟩), .int .u32 0] w5 fun e w' => e = .returned (.int .i64 0) ∧ Two w w' base s [(0, true)] (gr 0) := (is_calls _ s _ 0 w5 HT.out.one (by omega) (by omega) (by decide)).mono fun _ _ ⟨h1, h2⟩ => ⟨h1, HT.out.quiet h2⟩
  go_wp2_with (go_at_call 36; (with_reducible refine D.mono ?_); rintro e w6 ⟨rfl, hT⟩; clear D HT; have HT := Lib.hid hT; clear hT)
  have D : Calls Try.prog 36 #[.pointer (some ⟨s + 1, 0, none⟩), .int .u32 1] w6 fun e w' => e = .returned (.int .i64 2) ∧ Two w w' base s [(0, true)] (gr 0) := (is_calls _ s _ 1 w6 HT.out.one (by omega) (by omega) (by decide)).mono fun _ _ ⟨h1, h2⟩ => ⟨h1, HT.out.quiet h2⟩
  go_wp2_with (go_at_call 36; (with_reducible refine D.mono ?_); rintro e w7 ⟨rfl, hT⟩; clear D HT; have HT := Lib.hid hT; clear hT)
  have D : Calls Try.prog 36 #[.pointer (some ⟨s + 1, 0, none⟩), .int .u32 256] w7 fun e w' => e = .returned (.int .i64 2) ∧ Two w w' base s [(0, true)] (gr 0) := (is_calls _ s _ 256 w7 HT.out.one (by omega) (by omega) (by decide)).mono fun _ _ ⟨h1, h2⟩ => ⟨h1, HT.out.quiet h2⟩
  go_wp2_with (go_at_call 36; (with_reducible refine D.mono ?_); rintro e w8 ⟨rfl, hT⟩; clear D HT; have HT := Lib.hid hT; clear hT)
  have D : Calls Try.prog 37 #[.pointer (some ⟨s + 1, 0, none⟩), .int .u32 0] w8 fun e w' => e = .returned (.int .i64 0) ∧ Two w w' base s [(1, false)] (gr 0) := (give_yes _ s _ 0 w8 0 0 HT.out.one (by omega) (by omega) (by decide) (by decide) (by decide) (by decide) (by omega) (by omega)).mono fun _ _ ⟨h1, h2, h3⟩ => ⟨h1, HT.out.first h2 h3⟩
  go_wp2_with (go_at_call 37; (with_reducible refine D.mono ?_); rintro e w9 ⟨rfl, hT⟩; clear D HT; have HT := Lib.hid hT; clear hT)
  have D : Calls Try.prog 36 #[.pointer (some ⟨s + 1, 0, none⟩), .int .u32 0] w9 fun e w' => e = .returned (.int .i64 10) ∧ Two w w' base s [(1, false)] (gr 0) := (is_calls _ s _ 0 w9 HT.out.one (by omega) (by omega) (by decide)).mono fun _ _ ⟨h1, h2⟩ => ⟨h1, HT.out.quiet h2⟩
  go_wp2_with (go_at_call 36; (with_reducible refine D.mono ?_); rintro e w10 ⟨rfl, hT⟩; clear D HT; have HT := Lib.hid hT; clear hT)
  have D : Calls Try.prog 37 #[.pointer (some ⟨s + 1, 0, none⟩), .int .u32 0] w10 fun e w' => e = .returned (.int .i64 10) ∧ Two w w' base s [(1, false)] (gr 0) := (give_no _ s _ 0 w10 10 HT.out.one (by omega) (by omega) (by decide) (by decide) (by decide)).mono fun _ _ ⟨h1, h2⟩ => ⟨h1, HT.out.quiet h2⟩
  go_wp2_with (go_at_call 37; (with_reducible refine D.mono ?_); rintro e w11 ⟨rfl, hT⟩; clear D HT; have HT := Lib.hid hT; clear hT)
  have D : Calls Try.prog 36 #[.pointer (some ⟨s + 1, 0, none⟩), .int .u32 256] w11 fun e w' => e = .returned (.int .i64 2) ∧ Two w w' base s [(1, false)] (gr 0) := (is_calls _ s _ 256 w11 HT.out.one (by omega) (by omega) (by decide)).mono fun _ _ ⟨h1, h2⟩ => ⟨h1, HT.out.quiet h2⟩
  go_wp2_with (go_at_call 36; (with_reducible refine D.mono ?_); rintro e w12 ⟨rfl, hT⟩; clear D HT; have HT := Lib.hid hT; clear hT)
  have D : Calls Try.prog 38 #[.pointer (some ⟨s + 1, 0, none⟩), .int .i64 0] w12 fun e w' => e = .returned (.tuple #[.int .u32 0, .bool false]) ∧ Two w w' base s [(1, false)] (gr 0) := (at_free _ s _ 0 w12 HT.out.one (by decide) (by decide)).mono fun _ _ ⟨h1, h2⟩ => ⟨h1, h2 ▸ HT.out⟩
  go_wp2_with (go_at_call 38; (with_reducible refine D.mono ?_); rintro e w13 ⟨rfl, hT⟩; clear D HT; have HT := Lib.hid hT; clear hT)
  have D : Calls Try.prog 35 #[.pointer (some ⟨s + 1, 0, none⟩)] w13 fun e w' => e = .returned (.tuple #[.int .u32 256, .int .i64 0]) ∧ Two w w' base s [(1, true)] (gr 0) := (take_calls _ s _ w13 0 1 HT.out.one (by decide) (by decide) (by decide) (by omega) (by omega) (by omega)).mono fun _ _ ⟨h1, h2, h3, _⟩ => ⟨h1, HT.out.first h2 h3⟩
  go_wp2_with (go_at_call 35; (with_reducible refine D.mono ?_); rintro e w14 ⟨rfl, hT⟩; clear D HT; have HT := Lib.hid hT; clear hT)
  have D : Calls Try.prog 38 #[.pointer (some ⟨s + 1, 0, none⟩), .int .i64 0] w14 fun e w' => e = .returned (.tuple #[.int .u32 256, .bool true]) ∧ Two w w' base s [(1, true)] (gr 0) := (at_taken _ s _ 0 1 w14 HT.out.one (by decide) (by decide) (by decide) (by omega) (by omega)).mono fun _ _ ⟨h1, n, h2⟩ => ⟨h1, HT.out.quiet (h2 ▸ pw_below_drewN (Below.refl _ _) n)⟩
  go_wp2_with (go_at_call 38; (with_reducible refine D.mono ?_); rintro e w15 ⟨rfl, hT⟩; clear D HT; have HT := Lib.hid hT; clear hT)
  have D : Calls Try.prog 19 #[.int .i64 256, .int .i64 0] w15 fun e w' => e = .returned (.tuple #[.int .u32 0, .bool false]) ∧ Two w w' base s [(1, true)] (gr 0) := (ids_Make.calls 256 0 0 false w15 (by first | decide | exact make_eq 255 16777215 (by omega) (by omega) (by omega) (by omega))).mono fun _ _ ⟨h1, ⟨n, h2⟩⟩ => ⟨h1, HT.out.quiet (h2 ▸ pw_below_drewN (Below.refl _ _) n)⟩
  go_wp2_with (go_at_call 19; (with_reducible refine D.mono ?_); rintro e w16 ⟨rfl, hT⟩; clear D HT; have HT := Lib.hid hT; clear hT)
  have D : Calls Try.prog 19 #[.int .i64 0, .int .i64 16777216] w16 fun e w' => e = .returned (.tuple #[.int .u32 0, .bool false]) ∧ Two w w' base s [(1, true)] (gr 0) := (ids_Make.calls 0 16777216 0 false w16 (by first | decide | exact make_eq 255 16777215 (by omega) (by omega) (by omega) (by omega))).mono fun _ _ ⟨h1, ⟨n, h2⟩⟩ => ⟨h1, HT.out.quiet (h2 ▸ pw_below_drewN (Below.refl _ _) n)⟩
  go_wp2_with (go_at_call 19; (with_reducible refine D.mono ?_); rintro e w17 ⟨rfl, hT⟩; clear D HT; have HT := Lib.hid hT; clear hT)
  have D : Calls Try.prog 19 #[.int .i64 (-1), .int .i64 0] w17 fun e w' => e = .returned (.tuple #[.int .u32 0, .bool false]) ∧ Two w w' base s [(1, true)] (gr 0) := (ids_Make.calls (-1) 0 0 false w17 (by first | decide | exact make_eq 255 16777215 (by omega) (by omega) (by omega) (by omega))).mono fun _ _ ⟨h1, ⟨n, h2⟩⟩ => ⟨h1, HT.out.quiet (h2 ▸ pw_below_drewN (Below.refl _ _) n)⟩
  go_wp2_with (go_at_call 19; (with_reducible refine D.mono ?_); rintro e w18 ⟨rfl, hT⟩; clear D HT; have HT := Lib.hid hT; clear hT)
  have D : Calls Try.prog 19 #[.int .i64 255, .int .i64 16777215] w18 fun e w' => e = .returned (.tuple #[.int .u32 4294967295, .bool true]) ∧ Two w w' base s [(1, true)] (gr 0) := (ids_Make.calls 255 16777215 4294967295 true w18 (by first | decide | exact make_eq 255 16777215 (by omega) (by omega) (by omega) (by omega))).mono fun _ _ ⟨h1, ⟨n, h2⟩⟩ => ⟨h1, HT.out.quiet (h2 ▸ pw_below_drewN (Below.refl _ _) n)⟩
  go_wp2_with (go_at_call 19; (with_reducible refine D.mono ?_); rintro e w19 ⟨rfl, hT⟩; clear D HT; have HT := Lib.hid hT; clear hT)
  go_loopw [28] (fun v28 wr => ∃ i : Nat, v28 = .int .i64 i ∧ i ≤ 256 ∧ Hid (Two w wr base s [(1, true)] (gr i))) (fun v28 _ => 256 - (intOf v28).toNat)
  case atStart => exact ⟨0, rfl, by omega, HT⟩
  case round =>
    clear HT
    obtain ⟨i, rfl, hi, HT⟩ := hrel
    by_cases hlt : i < 256
    · have D := take_gr HT.out hlt
      have P := place_gr i hlt
      go_wp2_with (first
        | (go_at_call 35; (with_reducible refine D.mono ?_); rintro e w' ⟨rfl, hT⟩; have HT' := Lib.hid hT; clear hT)
        | (go_at_call 20; (with_reducible refine (P _).mono ?_); rintro e w' ⟨rfl, rfl⟩))
      go_roundw
      case rel => exact ⟨i + 1, by go_num, by omega, HT'⟩
      case measure => simp [intOf]; omega
    · obtain rfl : i = 256 := by omega
      have D : Calls Try.prog 35 #[.pointer (some ⟨s + 3, 0, none⟩)] wr fun e w' => e = .returned (.tuple #[.int .u32 0, .int .i64 3]) ∧ wr = w' :=
        (take_full _ (s + 2) _ wr HT.out.two (fun j hj => by rw [gr_len (by omega)] at hj; rw [gr_lo hj])).mono fun _ _ ⟨h1, h2⟩ => ⟨h1, h2.symm⟩
      have L : Calls Try.prog 39 #[.pointer (some ⟨s + 3, 0, none⟩)] wr fun e w' => ∃ A c, e = .returned (.slice A 256 c) ∧ Two w w' base s [(1, true)] (gr 256) :=
        (list_calls _ (s + 2) _ wr HT.out.two genOk_gr).mono fun e w' ⟨v, h1, h2, h3⟩ => by
          obtain ⟨A, c, hv⟩ := Kd.R_slice h2
          rw [names_gr] at hv
          exact ⟨A, c, by rw [h1, hv], HT.out.quiet h3⟩
      clear hi hlt
      go_wp2_with (first
        | (go_at_call 35; (with_reducible refine D.mono ?_); rintro e w3 ⟨rfl, rfl⟩)
        | (go_at_call 39; (with_reducible refine L.mono ?_); rintro e w3 ⟨A, c, rfl, hT⟩; have HT' := Lib.hid hT; clear hT))
      go_ret
      exact ⟨rfl, by rw [HBS.out]; exact HT'.out.below⟩
end Go.Proofs.Ytjihjmanndhdhaa.Ids
