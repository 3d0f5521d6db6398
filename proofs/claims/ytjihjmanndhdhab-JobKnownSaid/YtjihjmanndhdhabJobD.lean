/- job: what Left and Total come to; New, Left, Good, Total by contracts in one piece: for all jobs. -/
import Derived.Test.YtjihjmanndhdhabJobC
namespace Go.Proofs.Ytjihjmanndhdhab.Job
open Go.RowKit Go.Proofs.YtjihjmanndhdhabW.PrintWords Go.Proofs.YtjihjmanndhdhabW.PrintLast Go.Proofs.YtjihjmanndhdhabW.PrintMore Go.Proofs.Ytjihjmanndhdhab.PJob
set_option linter.unusedVariables false
set_option linter.unusedSimpArgs false

/-- all ticks of some steps. -/
def sumN : List S24 → Int
  | [] => 0
  | p :: t => p.f1 + sumN t

/-- each step may be. -/
def StepsOk (l : List S24) : Prop := ∀ p ∈ l, 1 ≤ p.f1 ∧ p.f1 ≤ 2147483648

theorem good_steps {l : List S24} (h : goodB l = true) : StepsOk l ∧ 1 ≤ l.length ∧ l.length ≤ 8 := by
  unfold goodB at h
  simp only [Bool.and_eq_true, decide_eq_true_eq, Bool.not_eq_true'] at h
  refine ⟨fun p hp => ?_, h.1.1, h.1.2⟩
  have := List.any_eq_false.1 h.2 p hp
  unfold oddB at this
  simp only [decide_eq_true_eq] at this
  omega

theorem StepsOk.drop {l : List S24} (h : StepsOk l) (n : Nat) : StepsOk (l.drop n) := fun p hp => h p (List.mem_of_mem_drop hp)

theorem sumN_bound {l : List S24} (h : StepsOk l) : (l.length : Int) ≤ sumN l ∧ sumN l ≤ l.length * 2147483648 := by
  induction l with
  | nil => simp [sumN]
  | cons p t ih =>
    have h1 := h p (by simp)
    have h2 := ih (fun q hq => h q (by simp [hq]))
    simp only [sumN, List.length_cons]
    omega

theorem rd_drop {l : List S24} {i : Nat} (h : i < l.length) : l.drop i = rd_T24 l (i : Int) :: l.drop (i + 1) := by
  rw [List.drop_eq_getElem_cons h, rd_get h]

theorem left_loop {y : List S24} (hy : StepsOk y) (hl : y.length ≤ 8) (d : Nat) : ∀ (k i : Nat) (x : Int), i + d = y.length → d < k → -2147483648 ≤ x → x ≤ i * 2147483648 →
    job_Left.l0 k x y (y.length : Int) (i : Int) = some (x + sumN (y.drop i)) := by
  induction d with
  | zero =>
    intro k i x hi hk h0 h1
    obtain ⟨k, rfl⟩ : ∃ n, k = n + 1 := ⟨k - 1, by omega⟩
    simp only [job_Left.l0]
    rw [if_neg (by omega), List.drop_of_length_le (by omega)]
    simp [sumN]
  | succ d ih =>
    intro k i x hi hk h0 h1
    obtain ⟨k, rfl⟩ : ∃ n, k = n + 1 := ⟨k - 1, by omega⟩
    have hlt : i < y.length := by omega
    have hp := hy (rd_T24 y (i : Int)) (by rw [rd_get hlt]; exact List.getElem_mem hlt)
    simp only [job_Left.l0]
    rw [if_pos (by omega), if_pos (by omega), if_pos (by omega), rd_drop hlt]
    generalize rd_T24 y (i : Int) = p at hp ⊢
    rw [show wrap64 (x + p.f1) = x + p.f1 by unfold wrap64; omega, show wrap64 ((i : Int) + 1) = ((i + 1 : Nat) : Int) by unfold wrap64; omega, ih k (i + 1) _ (by omega) (by omega) (by omega) (by omega)]
    simp only [sumN]
    congr 1
    omega

theorem total_loop {y : List S24} (hy : StepsOk y) (hl : y.length ≤ 8) (d : Nat) : ∀ (k i : Nat) (x : Int), i + d = y.length → d < k → 0 ≤ x → x ≤ i * 2147483648 →
    prog_Total.l0 k x y (y.length : Int) (i : Int) = some (x + sumN (y.drop i)) := by
  induction d with
  | zero =>
    intro k i x hi hk h0 h1
    obtain ⟨k, rfl⟩ : ∃ n, k = n + 1 := ⟨k - 1, by omega⟩
    simp only [prog_Total.l0]
    rw [if_neg (by omega), List.drop_of_length_le (by omega)]
    simp [sumN]
  | succ d ih =>
    intro k i x hi hk h0 h1
    obtain ⟨k, rfl⟩ : ∃ n, k = n + 1 := ⟨k - 1, by omega⟩
    have hlt : i < y.length := by omega
    have hp := hy (rd_T24 y (i : Int)) (by rw [rd_get hlt]; exact List.getElem_mem hlt)
    simp only [prog_Total.l0]
    rw [if_pos (by omega), if_pos (by omega), if_pos (by omega), rd_drop hlt]
    generalize rd_T24 y (i : Int) = p at hp ⊢
    rw [show wrap64 (x + p.f1) = x + p.f1 by unfold wrap64; omega, show wrap64 ((i : Int) + 1) = ((i + 1 : Nat) : Int) by unfold wrap64; omega, ih k (i + 1) _ (by omega) (by omega) (by omega) (by omega)]
    simp only [sumN]
    congr 1
    omega

/-- the parts of a good job. -/
theorem goodJ_parts {num : Int} {l : List S24} {at_ done : Int} (h : goodJ num l at_ done = true) :
    1 ≤ num ∧ goodB l = true ∧ 0 ≤ at_ ∧ at_ ≤ l.length ∧ 0 ≤ done ∧ (at_ = l.length → done = 0) ∧ (at_ ≠ l.length → done ≤ (rd_T24 l at_).f1) := by
  unfold goodJ at h
  simp only [Bool.and_eq_true, decide_eq_true_eq] at h
  obtain ⟨⟨⟨⟨⟨h1, h2⟩, h3⟩, h4⟩, h5⟩, h6⟩ := h
  refine ⟨h1, h2, h3, h4, h5, fun e => ?_, fun e => ?_⟩
  · rw [if_pos e] at h6; simpa using h6
  · rw [if_neg e] at h6; simpa using h6

theorem goodJ_mk {num : Int} {l : List S24} {at_ done : Int} (h1 : 1 ≤ num) (h2 : goodB l = true) (h3 : 0 ≤ at_) (h4 : at_ ≤ l.length) (h5 : 0 ≤ done) (h6 : at_ = l.length → done = 0) (h7 : at_ ≠ l.length → done ≤ (rd_T24 l at_).f1) : goodJ num l at_ done = true := by
  unfold goodJ
  simp only [Bool.and_eq_true, decide_eq_true_eq]
  refine ⟨⟨⟨⟨⟨h1, h2⟩, h3⟩, h4⟩, h5⟩, ?_⟩
  by_cases e : at_ = l.length
  · rw [if_pos e]; simpa using h6 e
  · rw [if_neg e]; simpa using h7 e

theorem done_le {num : Int} {l : List S24} {at_ done : Int} (h : goodJ num l at_ done = true) : done ≤ 2147483648 := by
  obtain ⟨_, hg, h3, h4, h5, h6, h7⟩ := goodJ_parts h
  by_cases e : at_ = l.length
  · have := h6 e; omega
  · have h8 := h7 e
    obtain ⟨k, rfl⟩ := Int.eq_ofNat_of_zero_le h3
    have hlt : k < l.length := by omega
    have := ((good_steps hg).1 (rd_T24 l (k : Int)) (by rw [rd_get hlt]; exact List.getElem_mem hlt)).2
    omega

/-- what is left of a job. -/
def leftJ (l : List S24) (at_ done : Int) : Int := sumN (l.drop at_.toNat) - done

theorem left_f {num : Int} {l : List S24} {at_ done : Int} (h : goodJ num l at_ done = true) : job_Left.f 20 num l at_ done = some (leftJ l at_ done) := by
  obtain ⟨_, hg, h3, h4, h5, _, _⟩ := goodJ_parts h
  have hd := done_le h
  have hs := good_steps hg
  unfold job_Left.f
  rw [good_f 19, h]
  simp only [Option.bind_some, if_true]
  rw [if_pos h3, if_pos h4]
  rw [show wrap64 (-done) = -done by unfold wrap64; omega]
  have := left_loop (hs.1.drop at_.toNat) (by rw [List.length_drop]; omega) (l.drop at_.toNat).length 20 0 (-done) (by omega) (by rw [List.length_drop]; omega) (by omega) (by omega)
  rw [List.drop_zero] at this
  rw [show ((0 : Nat) : Int) = 0 from rfl] at this
  rw [this]
  unfold leftJ
  congr 1
  omega

theorem total_f {l : List S24} (h : goodB l = true) : prog_Total.f 20 l = some (sumN l) := by
  have hs := good_steps h
  unfold prog_Total.f prog_Good.f
  simp only [Option.bind_some, h, if_true]
  have := total_loop hs.1 hs.2.2 l.length 20 0 0 (by omega) (by omega) (by omega) (by omega)
  rw [List.drop_zero] at this
  simpa using this

theorem left_calls {num : Int} {A : Option Addr} {c : Nat} {l : List S24} {at_ done : Int} {w : World} (hr : Kd.C k24 w A l.length l) (hc : l.length ≤ c) (h : goodJ num l at_ done = true) :
    Calls Try.prog 14 #[.agg #[.int .i64 num, .slice A l.length c, .int .i64 at_, .int .i64 done]] w fun e w' => e = .returned (.int .i64 (leftJ l at_ done)) ∧ Below w.heap.size w w' :=
  job_Left.calls 20 num A c l at_ done _ w hr hc (left_f h)

theorem total_calls {A : Option Addr} {c : Nat} {l : List S24} {w : World} (hr : Kd.C k24 w A l.length l) (hc : l.length ≤ c) (h : goodB l = true) :
    Calls Try.prog 15 #[.slice A l.length c] w fun e w' => e = .returned (.int .i64 (sumN l)) ∧ Below w.heap.size w w' :=
  prog_Total.calls 20 A c l _ w hr hc (total_f h)

theorem new_good {num : Int} {A : Option Addr} {c : Nat} {l : List S24} {w : World} (hr : Kd.C k24 w A l.length l) (hc : l.length ≤ c) (h : goodB l = true) (hn : 1 ≤ num) :
    Calls Try.prog 7 #[.int .i64 num, .slice A l.length c] w fun e w' => ∃ A' c', e = .returned (.tuple #[.agg #[.int .i64 num, .slice A' l.length c', .int .i64 0, .int .i64 0], .bool true]) ∧ Kd.C k24 w' A' l.length l ∧ l.length ≤ c' ∧ Below w.heap.size w w' := by
  have hs := good_steps h
  refine (job_New.calls num A c l num l 0 0 true w hr hc ?_).mono ?_
  · unfold job_New.f prog_Good.f
    simp only [Option.bind_some, h, if_true]
    rw [if_neg (by omega), if_pos (by simp; omega)]
    rfl
  · rintro e w' ⟨v, rfl, hR, hB⟩
    obtain ⟨A', c', rfl⟩ := Kd.R_slice hR
    have := Kd.R_reads' hR
    exact ⟨A', c', rfl, this.2.2, this.2.1, hB⟩

theorem new_bad {num : Int} {A : Option Addr} {c : Nat} {l : List S24} {w : World} (hr : Kd.C k24 w A l.length l) (hc : l.length ≤ c) (h : goodB l = false ∨ num < 1) :
    Calls Try.prog 7 #[.int .i64 num, .slice A l.length c] w fun e w' => ∃ A' c', e = .returned (.tuple #[.agg #[.int .i64 0, .slice A' 0 c', .int .i64 0, .int .i64 0], .bool false]) ∧ Below w.heap.size w w' := by
  refine (job_New.calls num A c l 0 [] 0 0 false w hr hc ?_).mono ?_
  · unfold job_New.f prog_Good.f
    simp only [Option.bind_some]
    cases hg : goodB l
    · simp
    · rcases h with h | h
      · rw [h] at hg; cases hg
      · simp [h]
  · rintro e w' ⟨v, rfl, hR, hB⟩
    obtain ⟨A', c', rfl⟩ := Kd.R_slice hR
    exact ⟨A', c', rfl, hB⟩

/-- the step that a good job is at. -/
theorem stepJ_some {num : Int} {l : List S24} {at_ done : Int} (h : goodJ num l at_ done = true) (hne : at_ ≠ l.length) : stepJ num l at_ done = some (rd_T24 l at_) := by
  unfold stepJ
  rw [if_pos ⟨h, hne⟩]

theorem stepJ_end {num : Int} {l : List S24} {at_ done : Int} (h : at_ = l.length) : stepJ num l at_ done = none := by
  unfold stepJ
  rw [if_neg (fun e => e.2 h)]
end Go.Proofs.Ytjihjmanndhdhab.Job
