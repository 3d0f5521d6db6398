/- job: Run and Next, the sign of life of package beadlelaw11: for all jobs. -/
import Derived.Test.YtjihjmanndhdhabPJobx
namespace Go.Proofs.Ytjihjmanndhdhab.Job
open Go.RowKit Go.Proofs.YtjihjmanndhdhabW.PrintWords Go.Proofs.YtjihjmanndhdhabW.PrintLast Go.Proofs.YtjihjmanndhdhabW.PrintMore Go.Proofs.Ytjihjmanndhdhab.PJob
attribute [local go_sem] max2_int min2_int max_two min_two max_three min_three max_four min_four
set_option linter.unusedVariables false
set_option linter.unusedSimpArgs false

/-- may a job be so? -/
def goodJ (num : Int) (l : List S24) (at_ done : Int) : Bool :=
  decide (1 ≤ num) && goodB l && decide (0 ≤ at_) && decide (at_ ≤ l.length) && decide (0 ≤ done) && (if at_ = l.length then done == 0 else decide (done ≤ (rd_T24 l at_).f1))

theorem good_f (k : Nat) (num : Int) (l : List S24) (at_ done : Int) : job_Good.f (k + 1) num l at_ done = some (goodJ num l at_ done) := by
  have e : job_Good.j0 (k + 1) true num l at_ done = some false := by simp only [job_Good.j0, if_true]
  unfold job_Good.f goodJ prog_Good.f
  by_cases c1 : num < 1
  · rw [if_pos c1, e]; simp [show ¬ 1 ≤ num by omega]
  rw [if_neg c1]
  simp only [Option.bind_some]
  cases c2 : goodB l
  · simp [e]
  by_cases c3 : at_ < 0
  · simp [c3, e, show ¬ 0 ≤ at_ by omega]
  by_cases c4 : at_ > (l.length : Int)
  · simp [c3, c4, e, show ¬ at_ ≤ (l.length : Int) by omega]
  by_cases c5 : done < 0
  · simp [c3, c4, c5, e, show ¬ 0 ≤ done by omega]
  simp only [if_true, if_neg c3, if_neg c4, decide_eq_false c5, job_Good.j0, Bool.false_eq_true, if_false]
  rw [decide_eq_true (show 1 ≤ num by omega), decide_eq_true (show 0 ≤ at_ by omega), decide_eq_true (show at_ ≤ (l.length : Int) by omega), decide_eq_true (show 0 ≤ done by omega)]
  by_cases c6 : at_ = (l.length : Int)
  · simp [c6]
  · rw [if_neg c6, if_pos (by omega), if_pos (by omega), if_neg c6]; simp

/-- the step a job is at; none. -/
def stepJ (num : Int) (l : List S24) (at_ done : Int) : Option S24 := if goodJ num l at_ done = true ∧ at_ ≠ l.length then some (rd_T24 l at_) else none

theorem step_f (k : Nat) (num : Int) (l : List S24) (at_ done : Int) : job_Step.f (k + 1) num l at_ done = some (match stepJ num l at_ done with | some s => (s.f0, s.f1, true) | none => (0, 0, false)) := by
  unfold job_Step.f stepJ
  rw [good_f]
  simp only [Option.bind_some]
  cases hg : goodJ num l at_ done
  · simp
  · by_cases c : at_ = (l.length : Int)
    · simp [c]
    · have h : 0 ≤ at_ ∧ at_ ≤ (l.length : Int) := by
        unfold goodJ at hg
        simp only [Bool.and_eq_true, decide_eq_true_eq] at hg
        exact ⟨hg.1.1.1.2, hg.1.1.2⟩
      simp [c, h.1, show at_ < (l.length : Int) by omega]

theorem step_calls (num : Int) (A : Option Addr) (c : Nat) (l : List S24) (at_ done : Int) (w : World) (hr : Kd.C k24 w A l.length l) (hc : l.length ≤ c) (r : Int × Int × Bool)
    (h : (match stepJ num l at_ done with | some s => (s.f0, s.f1, true) | none => (0, 0, false)) = r) :
    Calls Try.prog 10 #[.agg #[.int .i64 num, .slice A l.length c, .int .i64 at_, .int .i64 done]] w fun e w' => e = .returned (.tuple #[.agg #[.int .i64 r.1, .int .i64 r.2.1], .bool r.2.2]) ∧ Below w.heap.size w w' :=
  job_Step.calls 1 num A c l at_ done r.1 r.2.1 r.2.2 w hr hc (by rw [step_f 0, h])

/-- what is known behind Step's call in Run and Next: the two blocks, and that they are older. -/
theorem two_blocks {w w1 : World} {x y : Array Value} {tx ty : TypeId} (hb : Below ((w.alloc (.cells x tx)).alloc (.cells y ty)).heap.size ((w.alloc (.cells x tx)).alloc (.cells y ty)) w1) :
    w1.heap[w.heap.size]? = some (.cells x tx (0, 0)) ∧ w1.heap[w.heap.size + 1]? = some (.cells y ty (0, 0)) ∧ w.heap.size + 1 < w1.heap.size := by
  have hz := hb.size
  simp only [World.size_alloc] at hz
  refine ⟨?_, ?_, by omega⟩
  · rw [hb.block _ (by simp only [World.size_alloc]; omega)]
    show ((w.heap.push _).push _)[_]? = _
    rw [Array.getElem?_push, if_neg (by simp), Array.getElem?_push_size]
  · rw [hb.block _ (by simp only [World.size_alloc]; omega)]
    show ((w.heap.push _).push _)[_]? = _
    rw [show w.heap.size + 1 = (w.heap.push (.cells x tx (0, 0))).size by simp, Array.getElem?_push_size]

theorem cell_of {w : World} {b : Nat} {x : Array Value} {t : TypeId} {f : Nat × Nat} (h : w.heap[b]? = some (.cells x t f)) (o : Nat) : w.cell? ⟨b, o, none⟩ = x[o]? := by simp [World.cell?, h]
theorem frozen_of {w : World} {b : Nat} {x : Array Value} {t : TypeId} (h : w.heap[b]? = some (.cells x t (0, 0))) (o : Nat) : w.frozen? ⟨b, o, none⟩ = false := by simp [World.frozen?, h]

theorem set_self {w : World} {b : Nat} {x : Array Value} {t : TypeId} {f : Nat × Nat} (o : Nat) (v : Value) (h : w.heap[b]? = some (.cells x t f)) : (w.setCell ⟨b, o, none⟩ v).heap[b]? = some (.cells (x.setIfInBounds o v) t f) := by
  simp only [World.setCell, Array.getElem?_modify, if_true, h]
  rfl

theorem set_ne {w : World} {b k : Nat} (o : Nat) (v : Value) (h : k ≠ b) : (w.setCell ⟨b, o, none⟩ v).heap[k]? = w.heap[k]? := Below.heap_setCell _ _ _ _ h

theorem res8 (tmps : Array Value) (W : World) (b : Nat) (x0 x1 x2 x3 r : Value) (h2 : tmps[2]? = some (.pointer (some ⟨b, 0, none⟩))) (h3 : tmps[3]? = some r) (hb : W.heap[b]? = some (.cells #[x0, x1, x2, x3] 28 (0, 0))) :
    (results Try.f8 tmps).run Try.prog W = .ok (.tuple #[.agg #[x0, x1, x2, x3], r]) W := by
  have a0 := cell_of hb 0
  have a1 := cell_of hb 1
  have a2 := cell_of hb 2
  have a3 := cell_of hb 3
  simp [results, Try.results8, go_sem, h2, h3, a0, a1, a2, a3]

theorem res9 (tmps : Array Value) (W : World) (b : Nat) (x0 x1 x2 x3 r : Value) (h2 : tmps[4]? = some (.pointer (some ⟨b, 0, none⟩))) (h3 : tmps[5]? = some r) (hb : W.heap[b]? = some (.cells #[x0, x1, x2, x3] 28 (0, 0))) :
    (results Try.f9 tmps).run Try.prog W = .ok (.tuple #[.agg #[x0, x1, x2, x3], r]) W := by
  have a0 := cell_of hb 0
  have a1 := cell_of hb 1
  have a2 := cell_of hb 2
  have a3 := cell_of hb 3
  simp [results, Try.results9, go_sem, h2, h3, a0, a1, a2, a3]

set_option maxHeartbeats 800000 in
theorem run_no (num : Int) (A : Option Addr) (c : Nat) (l : List S24) (at_ done n : Int) (w : World) (hr : Kd.C k24 w A l.length l) (hc : l.length ≤ c) (h : stepJ num l at_ done = none) :
    Calls Try.prog 9 #[.agg #[.int .i64 num, .slice A l.length c, .int .i64 at_, .int .i64 done], .int .i64 n] w fun e w' => e = .returned (.tuple #[.agg #[.int .i64 num, .slice A l.length c, .int .i64 at_, .int .i64 done], .int .i64 0]) ∧ Below w.heap.size w w' := by
  have D : ∀ W (hb : Below w.heap.size w W), Calls Try.prog 10 #[.agg #[.int .i64 num, .slice A l.length c, .int .i64 at_, .int .i64 done]] W fun e w' => e = .returned (.tuple #[.agg #[.int .i64 0, .int .i64 0], .bool false]) ∧ Below W.heap.size W w' :=
    fun W hb => step_calls num A c l at_ done W (Kd.C_below hr hb) hc (0, 0, false) (by rw [h])
  clear hr h
  go_enter Try.func9, Try.ntmps9
  go_wp2_with (go_at_call 10; refine (D _ (((Below.refl _ _).alloc (Nat.le_refl _) _).alloc (by simp) _)).mono ?_; rintro e w1 ⟨rfl, hb⟩; obtain ⟨hx, hy, hz⟩ := two_blocks hb; have HB1 := Lib.hid ((((Below.refl w.heap.size w).alloc (Nat.le_refl _) _).alloc (by simp) _).trans (hb.mono (by simp; omega))); have a0 := cell_of hx 0; have a1 := cell_of hx 1; have a2 := cell_of hx 2; have a3 := cell_of hx 3; have b0 := cell_of hy 0; have b1 := cell_of hy 1; have b2 := cell_of hy 2; have b3 := cell_of hy 3; have f0 := frozen_of hy 0; have f1 := frozen_of hy 1; have f2 := frozen_of hy 2; have f3 := frozen_of hy 3; have n0 : w.heap.size < w1.heap.size := (by omega); have n1 := hz; have hy2 := hy; clear hx hy hz hb)
  refine bodyPost_ret (v := .tuple #[.agg #[.int .i64 num, .slice A l.length c, .int .i64 at_, .int .i64 done], .int .i64 0]) (res9 _ _ (w.heap.size + 1) _ _ _ _ _ rfl rfl ?_) rfl ⟨rfl, ?_⟩
  · rw [Below.heap_alloc]
    · rw [set_self _ _ (set_self _ _ (set_self _ _ (set_self _ _ (x := #[.int .i64 0, .slice none 0 0, .int .i64 0, .int .i64 0]) (f := (0, 0)) (t := 28) ?_)))]
      · rfl
      · repeat rw [set_ne _ _ (by omega)]
        exact hy2
    · simp only [World.size_setCell]
      exact n1
  · repeat (first | with_reducible exact HB1.out | (with_reducible refine Below.setCell ?_ (by simp) _) | (with_reducible refine Below.alloc ?_ (by simp only [World.size_setCell]; omega) _))

/-- how many ticks are run. -/
def ranJ (left n : Int) : Int := if n < 0 then 0 else if left < n then left else n

set_option maxHeartbeats 4000000 in
theorem run_yes (num : Int) (A : Option Addr) (c : Nat) (l : List S24) (at_ done n : Int) (p : S24) (w : World) (hr : Kd.C k24 w A l.length l) (hc : l.length ≤ c) (h : stepJ num l at_ done = some p) (h0 : 0 ≤ done) (h1 : done ≤ p.f1) (h2 : p.f1 ≤ 2147483648) :
    Calls Try.prog 9 #[.agg #[.int .i64 num, .slice A l.length c, .int .i64 at_, .int .i64 done], .int .i64 n] w fun e w' => e = .returned (.tuple #[.agg #[.int .i64 num, .slice A l.length c, .int .i64 at_, .int .i64 (done + ranJ (p.f1 - done) n)], .int .i64 (ranJ (p.f1 - done) n)]) ∧ Below w.heap.size w w' := by
  obtain ⟨p0, p1⟩ := p
  dsimp only at h1 h2 ⊢
  have D : ∀ W (hb : Below w.heap.size w W), Calls Try.prog 10 #[.agg #[.int .i64 num, .slice A l.length c, .int .i64 at_, .int .i64 done]] W fun e w' => e = .returned (.tuple #[.agg #[.int .i64 p0, .int .i64 p1], .bool true]) ∧ Below W.heap.size W w' :=
    fun W hb => step_calls num A c l at_ done W (Kd.C_below hr hb) hc (p0, p1, true) (by rw [h])
  clear hr h
  have g0 : 0 ≤ p1 - done := by omega
  have hcase : (n < 0 ∧ ranJ (p1 - done) n = 0) ∨ (0 ≤ n ∧ p1 - done < n ∧ ranJ (p1 - done) n = p1 - done) ∨ (0 ≤ n ∧ n ≤ p1 - done ∧ ranJ (p1 - done) n = n) := by
    unfold ranJ
    by_cases a : n < 0
    · exact .inl ⟨a, by rw [if_pos a]⟩
    · by_cases b : p1 - done < n
      · exact .inr (.inl ⟨by omega, b, by rw [if_neg a, if_pos b]⟩)
      · exact .inr (.inr ⟨by omega, by omega, by rw [if_neg a, if_neg b]⟩)
  rcases hcase with ⟨c1, hran⟩ | ⟨c1, c2, hran⟩ | ⟨c1, c2, hran⟩
  all_goals
    rw [hran]
    clear hran
    go_enter Try.func9, Try.ntmps9
    go_wp2_with (go_at_call 10; refine (D _ (((Below.refl _ _).alloc (Nat.le_refl _) _).alloc (by simp) _)).mono ?_; rintro e w1 ⟨rfl, hb⟩; obtain ⟨hx, hy, hz⟩ := two_blocks hb; have HB1 := Lib.hid ((((Below.refl w.heap.size w).alloc (Nat.le_refl _) _).alloc (by simp) _).trans (hb.mono (by simp; omega))); have a0 := cell_of hx 0; have a1 := cell_of hx 1; have a2 := cell_of hx 2; have a3 := cell_of hx 3; have b0 := cell_of hy 0; have b1 := cell_of hy 1; have b2 := cell_of hy 2; have b3 := cell_of hy 3; have f0 := frozen_of hy 0; have f1 := frozen_of hy 1; have f2 := frozen_of hy 2; have f3 := frozen_of hy 3; have f4 := frozen_of hx 3; have n0 : w.heap.size < w1.heap.size := (by omega); have n1 := hz; have hy2 := hy; clear hx hy hz hb)
    try clear D
  · refine bodyPost_ret (v := .tuple #[.agg #[.int .i64 num, .slice A l.length c, .int .i64 at_, .int .i64 done], .int .i64 0]) (res9 _ _ (w.heap.size + 1) _ _ _ _ _ rfl rfl ?_) rfl ⟨by rw [Int.add_zero], ?_⟩
    · rw [Below.heap_alloc]
      · rw [set_self _ _ (set_self _ _ (set_self _ _ (set_self _ _ (x := #[.int .i64 0, .slice none 0 0, .int .i64 0, .int .i64 0]) (f := (0, 0)) (t := 28) ?_)))]
        · rfl
        · repeat rw [set_ne _ _ (by omega)]
          exact hy2
      · simp only [World.size_setCell]
        exact n1
    · repeat (first | with_reducible exact HB1.out | (with_reducible refine Below.setCell ?_ (by simp) _) | (with_reducible refine Below.alloc ?_ (by simp only [World.size_setCell]; omega) _))
  · refine bodyPost_ret (v := .tuple #[.agg #[.int .i64 num, .slice A l.length c, .int .i64 at_, .int .i64 (done + (p1 - done))], .int .i64 (p1 - done)]) (res9 _ _ (w.heap.size + 1) _ _ _ _ _ rfl rfl ?_) rfl ⟨rfl, ?_⟩
    · rw [Below.heap_alloc]
      · rw [set_self _ _ (set_self _ _ (set_self _ _ (set_self _ _ (x := #[.int .i64 0, .slice none 0 0, .int .i64 0, .int .i64 0]) (f := (0, 0)) (t := 28) ?_)))]
        · rfl
        · repeat rw [set_ne _ _ (by omega)]
          exact hy2
      · simp only [World.size_setCell]
        exact n1
    · repeat (first | with_reducible exact HB1.out | (with_reducible refine Below.setCell ?_ (by simp) _) | (with_reducible refine Below.alloc ?_ (by simp only [World.size_setCell]; omega) _))
  · refine bodyPost_ret (v := .tuple #[.agg #[.int .i64 num, .slice A l.length c, .int .i64 at_, .int .i64 (done + n)], .int .i64 n]) (res9 _ _ (w.heap.size + 1) _ _ _ _ _ rfl rfl ?_) rfl ⟨rfl, ?_⟩
    · rw [Below.heap_alloc]
      · rw [set_self _ _ (set_self _ _ (set_self _ _ (set_self _ _ (x := #[.int .i64 0, .slice none 0 0, .int .i64 0, .int .i64 0]) (f := (0, 0)) (t := 28) ?_)))]
        · rfl
        · repeat rw [set_ne _ _ (by omega)]
          exact hy2
      · simp only [World.size_setCell]
        exact n1
    · repeat (first | with_reducible exact HB1.out | (with_reducible refine Below.setCell ?_ (by simp) _) | (with_reducible refine Below.alloc ?_ (by simp only [World.size_setCell]; omega) _))
end Go.Proofs.Ytjihjmanndhdhab.Job
