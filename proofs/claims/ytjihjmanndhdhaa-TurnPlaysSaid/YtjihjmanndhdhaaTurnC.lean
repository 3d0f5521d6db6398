/- The lock by tickets: the sign of life of package beadlelaw8, and contracts in one piece. -/
import Derived.Test.YtjihjmanndhdhaaTurnB
import Derived.Lib.Hide
namespace Go.Proofs.Ytjihjmanndhdhaa.Turn
open Go.RowKit Go.Maps

theorem frm_below {B : Nat} {a w w' : World} {t m : Nat} (hb : Below B a w) (h : Frm w w' (fun k => k = t ∨ k = m)) (ht : B ≤ t) (hm : B ≤ m) (hB : B ≤ w.heap.size) : Below B a w' :=
  h.below hb (fun k hk => by rcases hk with rfl | rfl <;> assumption) hB

theorem wf_small {x : Int} (h0 : -9223372036854775808 ≤ x) (h1 : x ≤ 9223372036854775807) : (Lit.int .i64 x).wf = true := by
  simp [Lit.wf, IntKind.min, IntKind.max, IntKind.signed, IntKind.bits]; omega

set_option maxHeartbeats 400000 in
theorem awake_calls (w : World) : Calls Try.prog 27 #[] w fun e w' => e = .returned (.bool true) ∧ Below w.heap.size w w' := by
  have hN := new_calls w
  generalize hs : w.heap.size = s at *
  go_enter Try.func27, Try.ntmps27
  go_wp2_with (go_at_call 28; refine hN.mono ?_; rintro e w1 ⟨rfl, hL, hB⟩)
  have HL := Lib.hid hL
  have HB := Lib.hid hB
  have HS := Lib.hid hs
  clear hL hB hN hs
  have D1 : Calls Try.prog 29 #[.pointer (some ⟨s + 1, 0, none⟩), .int .i64 3] w1 fun e w' => e = .returned (.tuple #[.int .u32 0, .int .i64 0]) ∧ Lk w' (s + 1) s 1 [(3, 0)] ∧ Below s w w' :=
    (draw_ok _ s 0 [] 3 w1 HL.out (wf_small (by omega) (by omega)) rfl (by omega) (by omega) (by simp) (by omega)).mono fun e w' ⟨h1, h2, h3⟩ => ⟨h1, h2, frm_below HB.out h3 (by omega) (by omega) (by have := HB.out.size; rw [HS.out] at this; exact this)⟩
  go_wp2_with (go_at_call 29; (with_reducible refine D1.mono ?_); rintro e w2 ⟨rfl, hL2, hB2⟩)
  have HL2 := Lib.hid hL2
  have HB2 := Lib.hid hB2
  clear hL2 hB2 HL HB D1
  have D2 : Calls Try.prog 29 #[.pointer (some ⟨s + 1, 0, none⟩), .int .i64 5] w2 fun e w' => e = .returned (.tuple #[.int .u32 1, .int .i64 0]) ∧ Lk w' (s + 1) s 2 [(3, 0), (5, 1)] ∧ Below s w w' :=
    (draw_ok _ s 1 [(3, 0)] 5 w2 HL2.out (wf_small (by omega) (by omega)) (by decide) (by omega) (by omega) (by decide) (by omega)).mono fun e w' ⟨h1, h2, h3⟩ => ⟨h1, h2, frm_below HB2.out h3 (by omega) (by omega) (by have := HB2.out.size; rw [HS.out] at this; exact this)⟩
  go_wp2_with (go_at_call 29; (with_reducible refine D2.mono ?_); rintro e w3 ⟨rfl, hL3, hB3⟩)
  have HL3 := Lib.hid hL3
  have HB3 := Lib.hid hB3
  clear hL3 hB3 HL2 HB2 D2
  have H3 : Calls Try.prog 30 #[.pointer (some ⟨s + 1, 0, none⟩), .int .i64 3] w3 fun e w' => e = .returned (.bool true) ∧ w3 = w' :=
    (has_calls _ s 2 [(3, 0), (5, 1)] 3 _ HL3.out (wf_small (by omega) (by omega))).mono fun e w' ⟨h1, h2⟩ => ⟨h1, h2.symm⟩
  have H5 : Calls Try.prog 30 #[.pointer (some ⟨s + 1, 0, none⟩), .int .i64 5] w3 fun e w' => e = .returned (.bool false) ∧ w3 = w' :=
    (has_calls _ s 2 [(3, 0), (5, 1)] 5 _ HL3.out (wf_small (by omega) (by omega))).mono fun e w' ⟨h1, h2⟩ => ⟨h1, h2.symm⟩
  have HA : Calls Try.prog 31 #[.pointer (some ⟨s + 1, 0, none⟩), .int .i64 5] w3 fun e w' => e = .returned (.int .i64 1) ∧ Lk w' (s + 1) s 2 [(3, 0), (5, 1)] ∧ Below s w w' :=
    (ahead_some _ s 2 [(3, 0), (5, 1)] 5 1 _ HL3.out (wf_small (by omega) (by omega)) (by decide)).mono fun e w' ⟨h1, hB4⟩ =>
      ⟨h1, HL3.out.of_frm (Frm.of_below (fun _ => False) hB4) (fun h => h) (fun h => h), HB3.out.trans (hB4.mono (by have := HB3.out.size; rw [HS.out] at this; exact this))⟩
  have HN : ∀ w4, Lk w4 (s + 1) s 2 [(3, 0), (5, 1)] → Calls Try.prog 33 #[.pointer (some ⟨s + 1, 0, none⟩)] w4 fun e w' => e = .returned (.int .i64 2) ∧ w4 = w' := fun w4 h =>
    (len_calls _ s 2 [(3, 0), (5, 1)] _ h).mono fun e w' ⟨h1, h2⟩ => ⟨h1, h2.symm⟩
  go_wp2_with (first
    | (go_at_call 30; (with_reducible refine H3.mono ?_); rintro e w' ⟨rfl, rfl⟩)
    | (go_at_call 30; (with_reducible refine H5.mono ?_); rintro e w' ⟨rfl, rfl⟩)
    | (go_at_call 31; (with_reducible refine HA.mono ?_); rintro e w4 ⟨rfl, hL4, hB4⟩; have HL4 := Lib.hid hL4; have HB4 := Lib.hid hB4; clear hL4 hB4)
    | (go_at_call 33; (with_reducible refine (HN _ HL4.out).mono ?_); rintro e w' ⟨rfl, rfl⟩))
  go_ret
  exact ⟨rfl, HB4.out⟩
theorem head_wf {next : Nat} {x : Int} {c : Nat} {r : List (Int × Nat)} (g : Good next ((x, c) :: r)) : (Lit.int .i64 x).wf = true := by
  have := g.who (x, c) (by simp)
  exact wf_small (by have := this.1; simp at this; omega) (by have := this.2; simp at this; omega)

theorem head_new {next : Nat} {x : Int} {c : Nat} {r : List (Int × Nat)} (g : Good next ((x, c) :: r)) : r.any (fun p => p.1 == x) = false := by
  have h := (List.nodup_cons.1 (by simpa using g.nodup : (x :: r.map (·.1)).Nodup)).1
  rw [List.any_eq_false]
  intro p hp e
  have e' : p.1 = x := by simpa using e
  exact h (e' ▸ List.mem_map_of_mem hp)

theorem head_out {next : Nat} {x : Int} {c : Nat} {r : List (Int × Nat)} (g : Good next ((x, c) :: r)) : out ((x, c) :: r) x = r := by
  have h := List.any_eq_false.1 (head_new g)
  unfold out
  rw [List.filter_cons_of_neg (by simp), List.filter_eq_self]
  intro p hp
  simpa using h p hp

theorem step_has {w : World} {t m next : Nat} {x : Int} {c : Nat} {r : List (Int × Nat)} (h : Lk w t m next ((x, c) :: r)) :
    Calls Try.prog 30 #[.pointer (some ⟨t, 0, none⟩), .int .i64 x] w fun e w' => e = .returned (.bool true) ∧ w = w' :=
  (has_calls t m next _ x w h (head_wf h.good)).mono fun _ _ ⟨h1, h2⟩ => ⟨by rw [h1]; simp [first], h2.symm⟩

theorem step_ahead {w : World} {t m next : Nat} {x : Int} {c : Nat} {r : List (Int × Nat)} (h : Lk w t m next ((x, c) :: r)) :
    Calls Try.prog 31 #[.pointer (some ⟨t, 0, none⟩), .int .i64 x] w fun e w' => e = .returned (.int .i64 0) ∧ Lk w' t m next ((x, c) :: r) ∧ Below w.heap.size w w' :=
  (ahead_some t m next _ x c w h (head_wf h.good) (by simp)).mono fun e w' ⟨h1, h2⟩ => ⟨by
    have e : aheadOf ((x, c) :: r) c = 0 := by
      unfold aheadOf
      rw [List.length_eq_zero_iff, List.filter_eq_nil_iff]
      intro p hp
      rcases List.mem_cons.1 hp with rfl | hp
      · simp
      · have := (List.pairwise_cons.1 h.good.sorted).1 p hp
        simp at this ⊢
        omega
    rw [h1, e]; rfl, h.of_frm (Frm.of_below (fun _ => False) h2) (fun h => h) (fun h => h), h2⟩

theorem step_free {w : World} {t m next : Nat} {x : Int} {c : Nat} {r : List (Int × Nat)} (h : Lk w t m next ((x, c) :: r)) :
    Calls Try.prog 32 #[.pointer (some ⟨t, 0, none⟩), .int .i64 x] w fun e w' => e = .returned (.int .i64 0) ∧ Lk w' t m next r ∧ Frm w w' (fun k => k = t ∨ k = m) :=
  (free_ok t m next _ x w h (head_wf h.good) (by simp) (by simp [first])).mono fun e w' ⟨h1, h2, h3⟩ => ⟨h1, by rw [head_out h.good] at h2; exact h2, h3⟩

theorem step_gone {w : World} {t m next : Nat} {x : Int} {c : Nat} {r : List (Int × Nat)} (h : Lk w t m next r) (g : Good next ((x, c) :: r)) :
    Calls Try.prog 30 #[.pointer (some ⟨t, 0, none⟩), .int .i64 x] w fun e w' => e = .returned (.bool false) ∧ w = w' :=
  (has_calls t m next _ x w h (head_wf g)).mono fun e w' ⟨h1, h2⟩ => ⟨by rw [h1, first_out (head_new g)], h2.symm⟩

theorem step_len {w : World} {t m next : Nat} {q : List (Int × Nat)} (h : Lk w t m next q) :
    Calls Try.prog 33 #[.pointer (some ⟨t, 0, none⟩)] w fun e w' => e = .returned (.int .i64 q.length) ∧ w = w' :=
  (len_calls t m next q w h).mono fun _ _ ⟨h1, h2⟩ => ⟨h1, h2.symm⟩

end Go.Proofs.Ytjihjmanndhdhaa.Turn
