/- prog.Good: whether a program may be so: its closure, the library's ContainsFunc and IndexFunc at it, and itself, for all programs. -/
import Derived.Test.YtjihjmanndhdhabPJobx0
import Derived.Lib.Hide
namespace Go.Proofs.Ytjihjmanndhdhab.Job
open Go.RowKit Go.Proofs.YtjihjmanndhdhabW.PrintWords Go.Proofs.YtjihjmanndhdhabW.PrintLast Go.Proofs.YtjihjmanndhdhabW.PrintMore Go.Proofs.Ytjihjmanndhdhab.PJob

/-- a step that may not be. -/
def oddB (p : S24) : Bool := decide (p.f0 < 0 ∨ 8 < p.f0 ∨ p.f1 < 1 ∨ 2147483648 < p.f1)

set_option maxHeartbeats 400000 in
theorem odd_no (s n : Int) (w : World) (h1 : 0 ≤ s) (h2 : s ≤ 8) (h3 : 1 ≤ n) (h4 : n ≤ 2147483648) : Calls Try.prog 18 #[.agg #[.int .i64 s, .int .i64 n]] w fun e w' => e = .returned (.bool false) ∧ Below w.heap.size w w' := by
  go_enter Try.func18, Try.ntmps18
  go_wp2
  go_ret
  exact ⟨by simp; omega, (Below.refl _ _).alloc (Nat.le_refl _) _⟩

set_option maxHeartbeats 400000 in
theorem odd_yes (s n : Int) (w : World) (h : s < 0 ∨ (0 ≤ s ∧ 8 < s) ∨ (0 ≤ s ∧ s ≤ 8 ∧ n < 1) ∨ (0 ≤ s ∧ s ≤ 8 ∧ 1 ≤ n ∧ 2147483648 < n)) : Calls Try.prog 18 #[.agg #[.int .i64 s, .int .i64 n]] w fun e w' => e = .returned (.bool true) ∧ Below w.heap.size w w' := by
  rcases h with h | ⟨h1, h2⟩ | ⟨h1, h2, h3⟩ | ⟨h1, h2, h3, h4⟩
  all_goals
    go_enter Try.func18, Try.ntmps18
    go_wp2
    go_ret
    exact ⟨by first | rfl | (simp; omega), (Below.refl _ _).alloc (Nat.le_refl _) _⟩

theorem odd_calls (p : S24) (w : World) : Calls Try.prog 18 #[.agg #[.int .i64 p.f0, .int .i64 p.f1]] w fun e w' => e = .returned (.bool (oddB p)) ∧ Below w.heap.size w w' := by
  by_cases h : p.f0 < 0 ∨ 8 < p.f0 ∨ p.f1 < 1 ∨ 2147483648 < p.f1
  · have e : oddB p = true := decide_eq_true h
    rw [e]
    exact odd_yes _ _ w (by omega)
  · have e : oddB p = false := decide_eq_false h
    rw [e]
    exact odd_no _ _ w (by omega) (by omega) (by omega) (by omega)

/-- the closure, as a value. -/
def fv : Value := .func (.func 18) #[] #[]

theorem rd_get {l : List S24} {k : Nat} (h : k < l.length) : rd_T24 l (k : Int) = l[k] := by
  simp [rd_T24, h]

set_option maxHeartbeats 800000 in
theorem index_no (A0 : Option Addr) (c0 : Nat) (l0 : List S24) (w : World) (hr0 : Kd.C k24 w A0 l0.length l0) (hlen : l0.length ≤ 8) (hall : ∀ k (h : k < l0.length), oddB l0[k] = false) :
    Calls Try.prog 20 #[.slice A0 l0.length c0, .func (.func 18) #[] #[]] w fun e w' => e = .returned (.int .i64 (-1)) ∧ Below w.heap.size w w' := by
  have HR0 := Lib.hid hr0
  have HA := Lib.hid hall
  clear hr0 hall
  go_enter Try.func20, Try.ntmps20
  go_wp2
  go_loopw [8] (fun v8 wr => ∃ k : Nat, v8 = .int .i64 k ∧ k ≤ l0.length ∧ Hid (Below w.heap.size w wr)) (fun v8 _ => l0.length - (intOf v8).toNat)
  case atStart => exact ⟨0, rfl, Nat.zero_le _, Below.refl _ _⟩
  case round =>
    obtain ⟨k, rfl, hk, HB⟩ := hrel
    by_cases hlt : k < l0.length
    · obtain ⟨ad, rfl, h0, h1⟩ := at_T24 (Kd.C_below HR0.out HB.out) (k : Int) (by omega) (by omega)
      rw [Int.toNat_natCast] at h0 h1
      have D := fun w => odd_calls (rd_T24 l0 (k : Int)) w
      rw [show oddB (rd_T24 l0 (k : Int)) = false by rw [rd_get hlt]; exact HA.out k hlt] at D
      generalize rd_T24 l0 (k : Int) = p at *
      obtain ⟨p0, p1⟩ := p
      dsimp only at h0 h1 D
      go_wp2_with (go_at_call 18; (with_reducible refine (D _).mono ?_); rintro e w' ⟨rfl, hB'⟩; have HB' := Lib.hid (HB.out.trans (hB'.mono HB.out.size)); clear hB')
      go_roundw
      case rel => exact ⟨k + 1, by go_num, by omega, HB'⟩
      case measure => simp [intOf]; omega
    · obtain rfl : k = l0.length := by omega
      go_wp2
      go_ret
      exact ⟨rfl, HB.out⟩

set_option maxHeartbeats 800000 in
theorem index_yes (A0 : Option Addr) (c0 : Nat) (l0 : List S24) (w : World) (i : Nat) (hr0 : Kd.C k24 w A0 l0.length l0) (hlen : l0.length ≤ 8) (hi : i < l0.length) (hall : ∀ k (h : k < i), oddB l0[k] = false) (hodd : oddB l0[i] = true) :
    Calls Try.prog 20 #[.slice A0 l0.length c0, .func (.func 18) #[] #[]] w fun e w' => e = .returned (.int .i64 i) ∧ Below w.heap.size w w' := by
  have HR0 := Lib.hid hr0
  have HA := Lib.hid hall
  have HO := Lib.hid hodd
  clear hr0 hall hodd
  go_enter Try.func20, Try.ntmps20
  go_wp2
  go_loopw [8] (fun v8 wr => ∃ k : Nat, v8 = .int .i64 k ∧ k ≤ i ∧ Hid (Below w.heap.size w wr)) (fun v8 _ => l0.length - (intOf v8).toNat)
  case atStart => exact ⟨0, rfl, Nat.zero_le _, Below.refl _ _⟩
  case round =>
    obtain ⟨k, rfl, hk, HB⟩ := hrel
    have hlt : k < l0.length := by omega
    obtain ⟨ad, rfl, h0, h1⟩ := at_T24 (Kd.C_below HR0.out HB.out) (k : Int) (by omega) (by omega)
    rw [Int.toNat_natCast] at h0 h1
    have D := fun w => odd_calls (rd_T24 l0 (k : Int)) w
    rw [show oddB (rd_T24 l0 (k : Int)) = oddB l0[k] by rw [rd_get hlt]] at D
    by_cases hki : k < i
    · rw [HA.out k hki] at D
      generalize rd_T24 l0 (k : Int) = p at *
      obtain ⟨p0, p1⟩ := p
      dsimp only at h0 h1 D
      go_wp2_with (go_at_call 18; (with_reducible refine (D _).mono ?_); rintro e w' ⟨rfl, hB'⟩; have HB' := Lib.hid (HB.out.trans (hB'.mono HB.out.size)); clear hB')
      go_roundw
      case rel => exact ⟨k + 1, by go_num, by omega, HB'⟩
      case measure => simp [intOf]; omega
    · obtain rfl : k = i := by omega
      rw [HO.out] at D
      generalize rd_T24 l0 (k : Int) = p at *
      obtain ⟨p0, p1⟩ := p
      dsimp only at h0 h1 D
      go_wp2_with (go_at_call 18; (with_reducible refine (D _).mono ?_); rintro e w' ⟨rfl, hB'⟩; have HB' := Lib.hid (HB.out.trans (hB'.mono HB.out.size)); clear hB')
      go_ret
      exact ⟨rfl, HB'.out⟩

theorem first_odd (l : List S24) : (l.any oddB = false ∧ ∀ k (h : k < l.length), oddB l[k] = false) ∨ ∃ i, ∃ h : i < l.length, l.any oddB = true ∧ (∀ k (h : k < i), oddB l[k] = false) ∧ oddB l[i] = true := by
  by_cases h : l.any oddB = true
  · right
    have hx : l.findIdx oddB < l.length := by
      rw [List.findIdx_lt_length]
      simpa using h
    exact ⟨l.findIdx oddB, hx, h, fun k hk => by simpa using List.not_of_lt_findIdx hk, List.findIdx_getElem⟩
  · left
    refine ⟨by simpa using h, fun k hk => ?_⟩
    have := List.any_eq_false.1 (eq_false_of_ne_true h) l[k] (List.getElem_mem hk)
    simpa using this

set_option maxHeartbeats 800000 in
theorem contains_calls (A0 : Option Addr) (c0 : Nat) (l0 : List S24) (w : World) (hr0 : Kd.C k24 w A0 l0.length l0) (hlen : l0.length ≤ 8) :
    Calls Try.prog 19 #[.slice A0 l0.length c0, .func (.func 18) #[] #[]] w fun e w' => e = .returned (.bool (l0.any oddB)) ∧ Below w.heap.size w w' := by
  rcases first_odd l0 with ⟨h1, h2⟩ | ⟨i, hi, h1, h2, h3⟩
  · have D := index_no A0 c0 l0 w hr0 hlen h2
    rw [h1]
    clear h1 h2 hr0
    go_enter Try.func19, Try.ntmps19
    go_wp2_with (go_at_call 20; (with_reducible refine D.mono ?_); rintro e w' ⟨rfl, hB'⟩)
    go_ret
    exact ⟨rfl, hB'⟩
  · have D := index_yes A0 c0 l0 w i hr0 hlen hi h2 h3
    rw [h1]
    clear h1 h2 h3 hr0
    go_enter Try.func19, Try.ntmps19
    go_wp2_with (go_at_call 20; (with_reducible refine D.mono ?_); rintro e w' ⟨rfl, hB'⟩)
    go_ret
    exact ⟨rfl, hB'⟩

/-- may a program be so? -/
def goodB (l : List S24) : Bool := decide (1 ≤ l.length) && decide (l.length ≤ 8) && !l.any oddB

set_option maxHeartbeats 800000 in
theorem good_calls (A0 : Option Addr) (c0 : Nat) (l0 : List S24) (w : World) (hr0 : Kd.C k24 w A0 l0.length l0) :
    Calls Try.prog 16 #[.slice A0 l0.length c0] w fun e w' => e = .returned (.bool (goodB l0)) ∧ Below w.heap.size w w' := by
  have hm := Kd.C_max hr0
  by_cases h1 : l0.length < 1
  · have e : goodB l0 = false := by unfold goodB; simp; omega
    rw [e]
    clear e hr0
    go_enter Try.func16, Try.ntmps16
    go_wp2
    go_ret
    exact ⟨rfl, Below.refl _ _⟩
  · by_cases h2 : 8 < l0.length
    · have e : goodB l0 = false := by unfold goodB; simp; omega
      rw [e]
      have h1' : 1 ≤ l0.length := by omega
      clear e hr0
      go_enter Try.func16, Try.ntmps16
      go_wp2
      go_ret
      exact ⟨rfl, Below.refl _ _⟩
    · have D := contains_calls A0 c0 l0 w hr0 (by omega)
      have e : goodB l0 = !l0.any oddB := by
        unfold goodB
        rw [decide_eq_true (by omega), decide_eq_true (by omega)]; rfl
      rw [e]
      have h1' : 1 ≤ l0.length := by omega
      have h2' : l0.length ≤ 8 := by omega
      clear e hr0 h1 h2
      generalize l0.any oddB = b at *
      go_enter Try.func16, Try.ntmps16
      go_wp2_with (go_at_call 19; (with_reducible refine D.mono ?_); rintro e w' ⟨rfl, hB'⟩)
      go_ret
      exact ⟨rfl, hB'⟩
end Go.Proofs.Ytjihjmanndhdhab.Job

namespace Go.Proofs.Ytjihjmanndhdhab.PJob
open Go.RowKit Go.Proofs.YtjihjmanndhdhabW.PrintWords
/-- prog.Good, as the printed texts name it. -/
def prog_Good.f (l0 : List S24) : Option Bool := some (Job.goodB l0)

theorem prog_Good.calls (A0 : Option Addr) (c0 : Nat) (l0 : List S24) (r : Bool) (w : World) (hr0 : Kd.C k24 w A0 l0.length l0) (_hc0 : l0.length ≤ c0) (h : prog_Good.f l0 = some r) :
    Calls Try.prog 16 #[.slice A0 l0.length c0] w fun e w' => e = .returned (.bool r) ∧ Below w.heap.size w w' := by
  obtain rfl := Option.some.inj h
  exact Job.good_calls A0 c0 l0 w hr0
end Go.Proofs.Ytjihjmanndhdhab.PJob
