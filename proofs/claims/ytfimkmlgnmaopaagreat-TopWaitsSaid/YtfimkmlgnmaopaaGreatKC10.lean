/- Part 10 of what is proved of the functions that the law reaches (contracts of functions, plain laws): no condition but those that each theorem names. -/
import Derived.Test.YtfimkmlgnmaopaaGreatKC9
import Derived.ChangeSlices
import Derived.ChangeArms
import Derived.ChangeSame
import Derived.WideShapes
namespace Go.Proofs.YtfimkmlgnmaopaaGreat.Top
open Go.RowKit Go.Proofs.YtfimkmlgnmaopaaGreatW.PrintWords Go.Proofs.YtfimkmlgnmaopaaGreatW.PrintLast Go.Proofs.YtfimkmlgnmaopaaGreatW.PrintMore Go.Proofs.YtfimkmlgnmaopaaGreat.PTopNames
set_option linter.unusedVariables false
set_option linter.unusedSimpArgs false
section
variable {M now c : Int} {wt : Nat → Int} {l : List S57} {q : List S63} {R : Nat → List Nat}
theorem wakeS_ok {s : S54} (h : CbsOk s) (h0 : 0 ≤ now) (h1 : now ≤ 1000000000) : CbsOk (wakeS s now) ∧ (wakeS s now).f4 ≠ 0 ∧ now ≤ (wakeS s now).f3 ∧ ((wakeS s now).f3 ≤ now + 2147483648 ∨ (wakeS s now).f3 = s.f3) := by
  obtain ⟨a1, a2, a3, a4, a5, a6, a7, a8, a9, a10⟩ := h
  unfold wakeS
  by_cases hd : s.f3 ≤ now
  · rw [if_pos hd]
    refine ⟨readyS_ok ⟨a1, a2, a3, by show 0 ≤ s.f0; omega, by show s.f0 ≤ s.f0; omega, by show 0 ≤ now + s.f1; omega, by show now + s.f1 ≤ _; omega, by show (0 : Int) ≤ 0; decide, by show (0 : Int) ≤ 2; decide, fun e => absurd e (by show ¬ (0 : Int) = 1; decide)⟩, ?_, by show now ≤ now + s.f1; omega, .inl (by show now + s.f1 ≤ _; omega)⟩
    show (if s.f0 = 0 then (2 : Int) else 1) ≠ 0
    split <;> decide
  · rw [if_neg hd]
    by_cases hb : min (s.f3 - now) s.f1 * s.f0 < s.f2 * s.f1
    · rw [if_pos hb]
      have hp : 0 < s.f1 := by omega
      have hm : 0 ≤ min (s.f3 - now) s.f1 := by omega
      have hm2 : min (s.f3 - now) s.f1 ≤ s.f1 := by omega
      have h2 : 0 ≤ min (s.f3 - now) s.f1 * s.f0 := Int.mul_nonneg hm (by omega)
      have h3 : min (s.f3 - now) s.f1 * s.f0 ≤ s.f0 * s.f1 := by
        rw [Int.mul_comm s.f0 s.f1]
        exact Int.mul_le_mul_of_nonneg_right hm2 (by omega)
      have h4 : 0 ≤ min (s.f3 - now) s.f1 * s.f0 / s.f1 := Int.ediv_nonneg h2 (by omega)
      have h5 : min (s.f3 - now) s.f1 * s.f0 / s.f1 ≤ s.f0 := Int.ediv_le_of_le_mul hp h3
      refine ⟨readyS_ok ⟨a1, a2, a3, h4, h5, a6, a7, by show (0 : Int) ≤ 0; decide, by show (0 : Int) ≤ 2; decide, fun e => absurd e (by show ¬ (0 : Int) = 1; decide)⟩, ?_, by show now ≤ s.f3; omega, .inr rfl⟩
      show (if min (s.f3 - now) s.f1 * s.f0 / s.f1 = 0 then (2 : Int) else 1) ≠ 0
      split <;> decide
    · rw [if_neg hb]
      refine ⟨readyS_ok ⟨a1, a2, a3, a4, a5, a6, a7, by show (0 : Int) ≤ 0; decide, by show (0 : Int) ≤ 2; decide, fun e => absurd e (by show ¬ (0 : Int) = 1; decide)⟩, ?_, by show now ≤ s.f3; omega, .inr rfl⟩
      show (if s.f2 = 0 then (2 : Int) else 1) ≠ 0
      split <;> decide
theorem Inv.more (h : Inv M now c wt noD l q R) {c' : Int} (hc : c ≤ c') {wt' : Nat → Int} (hw : ∀ k, wt' k ≤ wt k ∨ ∀ n, k ∉ (R n).tail) : Inv M now c' wt' noD l q R where
  sane := h.sane
  now0 := h.now0
  now1 := h.now1
  qlen := h.qlen
  qmost := h.qmost
  serv := fun k hk => by
    have hs := h.serv k hk
    have hn : 0 ≤ (at_ l k).f5 ∧ (at_ l k).f5 ≤ c' := by have := hs.num; omega
    exact { hs with num := hn }
  rows := by
    have hr := h.rows
    have hp : ∀ n (h : n < q.length) (p k : Nat), (R n)[p + 1]? = some k → q[n].f0 - (at_ l ((R n).headD 0)).f4 + p * q[n].f0 ≤ (M - 1) * q[n].f0 - wt' k := fun n hn p k hp => by
      have h1 := hr.wait n hn p k hp
      rcases hw k with h2 | h2
      · omega
      · exfalso
        refine h2 n ?_
        cases hR : R n with
        | nil => rw [hR] at hp; simp at hp
        | cons a r =>
          rw [hR] at hp
          simp only [List.getElem?_cons_succ] at hp
          exact List.mem_of_getElem? hp
    exact { hr with wait := hp }
theorem fits_ok {k : Nat} {P : List S72} (h : fitsB k P = true) : pgoodB P = true ∧ ∀ s ∈ P, s.f0 ≤ k := by
  unfold fitsB at h
  simp only [Bool.and_eq_true, Bool.not_eq_true'] at h
  refine ⟨h.1, fun s hs => ?_⟩
  have := h.2
  rw [List.any_eq_false] at this
  have h2 := this s hs
  unfold foddB at h2
  simp at h2
  omega
theorem Inv.release (h : Inv M now c wt noD l q R) {i : Nat} (hi : i < l.length) {P : List S72} (hC : relC q.length P l[i] = 0) : Inv M now (c + 1) wt noD (l.set i (relX now P l[i])) q R := by
  have hs := h.serv i hi
  rw [← at_lt hi] at hC ⊢
  unfold relC at hC
  have hfit : fitsB q.length P = true := by
    by_cases e : fitsB q.length P = true
    · exact e
    · rw [if_neg e] at hC; exact absurd hC (by decide)
  rw [if_pos hfit] at hC
  have hl8 : (at_ l i).f2.length < 8 := by
    by_cases e : 8 ≤ (at_ l i).f2.length
    · rw [if_pos e] at hC; exact absurd hC (by decide)
    · omega
  have hf := fits_ok hfit
  have hplen := pgood_len hf.1
  have hnum := hs.num
  have hJ : JobOk ⟨(at_ l i).f5 + 1, P, 0, 0⟩ := by
    refine ⟨by show 1 ≤ (at_ l i).f5 + 1; omega, hf.1, by show (0 : Int) ≤ 0; decide, by show (0 : Int) < (P.length : Int); omega, by show (0 : Int) ≤ 0; decide, ?_⟩
    have e : stepOf ⟨(at_ l i).f5 + 1, P, 0, 0⟩ = P[0] := by
      unfold stepOf
      show rd_T72 P 0 = _
      have hp0 : 0 < P.length := by omega
      simp [rd_T72, hp0]
    rw [e]
    have := good_step hf.1 (List.getElem_mem (by omega : 0 < P.length))
    unfold poddB at this
    simp only [decide_eq_false_iff_not, not_or] at this
    show 0 ≤ P[0].f1
    omega
  have hJ1 : 0 < (stepOf ⟨(at_ l i).f5 + 1, P, 0, 0⟩).f1 := by
    have := good_step hf.1 (job_step hJ)
    unfold poddB at this
    simp only [decide_eq_false_iff_not, not_or] at this
    omega
  have hm := h.more (c' := c + 1) (wt' := wt) (by omega) (fun k => .inl (Int.le_refl _))
  have hs := hm.serv i hi
  by_cases hid : (at_ l i).f1.f4 = 0
  · obtain ⟨h2, h3⟩ := hs.idle hid
    obtain ⟨w1, w2, w3, w4⟩ := wakeS_ok (now := now) hs.cbs h.now0 h.now1
    have hx : relX now P (at_ l i) = { at_ l i with f1 := wakeS (at_ l i).f1 now, f2 := [⟨(at_ l i).f5 + 1, P, 0, 0⟩], f5 := (at_ l i).f5 + 1 } := by
      unfold relX
      rw [if_pos hid, h2]
      rfl
    rw [hx]
    refine hm.set0 hi h3 (x := { at_ l i with f1 := wakeS (at_ l i).f1 now, f2 := [⟨(at_ l i).f5 + 1, P, 0, 0⟩], f5 := (at_ l i).f5 + 1 }) rfl h3 noD ?_ (fun k _ => Iff.rfl)
    exact { cbs := w1
            due := by
              have := hs.due
              show (wakeS (at_ l i).f1 now).f3 ≤ _
              omega
            ahead := fun _ => w3
            idle := fun e => absurd e w2
            busy := fun _ => by show [_] ≠ []; simp
            jlen := by show 1 ≤ 8; decide
            jobs := fun j hj => by
              obtain rfl : j = ⟨(at_ l i).f5 + 1, P, 0, 0⟩ := by simpa using hj
              exact ⟨hJ, hf.2⟩
            rest := fun j hj => by
              have : j ∈ ([] : List S125) := hj
              simp at this
            sec := by show 0 ≤ (at_ l i).f3 ∧ _; rw [h3]; decide
            spin := fun _ _ => rfl
            sem := fun e => absurd h3 e
            secm := fun e => absurd h3 e
            part := fun _ _ => hJ1
            held := hs.held
            ran := hs.ran
            num := by show 0 ≤ (at_ l i).f5 + 1 ∧ (at_ l i).f5 + 1 ≤ c + 1; omega }
  · have hx : relX now P (at_ l i) = { at_ l i with f2 := (at_ l i).f2 ++ [⟨(at_ l i).f5 + 1, P, 0, 0⟩], f5 := (at_ l i).f5 + 1 } := by
      unfold relX
      rw [if_neg hid]
    obtain ⟨j, js, hjx, hj, hq, hst, hdn⟩ := hs.head (hs.busy hid)
    have hst2 : servStep (relX now P (at_ l i)) = servStep (at_ l i) := by
      rw [hx]
      unfold servStep
      dsimp only
      rw [hjx]
      rfl
    have hdn2 : doneOf (relX now P (at_ l i)) = doneOf (at_ l i) := by
      rw [hx]
      unfold doneOf
      dsimp only
      rw [hjx]
      rfl
    have hf2 : (relX now P (at_ l i)).f2 = (at_ l i).f2 ++ [⟨(at_ l i).f5 + 1, P, 0, 0⟩] := by rw [hx]
    have hf1 : (relX now P (at_ l i)).f1 = (at_ l i).f1 := by rw [hx]
    have hf0 : (relX now P (at_ l i)).f0 = (at_ l i).f0 := rfl
    have hf3 : (relX now P (at_ l i)).f3 = (at_ l i).f3 := rfl
    have hf4 : (relX now P (at_ l i)).f4 = (at_ l i).f4 := rfl
    have hf5 : (relX now P (at_ l i)).f5 = (at_ l i).f5 + 1 := rfl
    have hf6 : (relX now P (at_ l i)).f6 = (at_ l i).f6 := rfl
    generalize relX now P (at_ l i) = x at *
    have hat : ∀ k, at_ (l.set i x) k = if k = i then x else at_ l k := fun k => by
      rw [at_set]
      by_cases e : k = i
      · rw [if_pos ⟨e, hi⟩, if_pos e]
      · rw [if_neg (fun h => e h.1), if_neg e]
    refine ⟨h.sane.keep (List.length_set ..) (fun k _ => by rw [hat]; split; (· subst_vars; exact hf0); rfl) (fun k _ hfx => ?_), h.now0, h.now1, h.qlen, h.qmost, fun k hk => ?_, hm.rows.keep (Int.le_refl _) (List.length_set ..) (fun k _ => by rw [hat]; split; (· subst_vars; exact hf0); rfl) (fun k _ => by rw [hat]; split; (· subst_vars; exact hf3); rfl) (fun k _ _ => by rw [hat]; split; (· subst_vars; exact ⟨hf1, hst2, hf4⟩); exact ⟨rfl, rfl, rfl⟩)⟩
    · rw [hat] at hfx
      by_cases e : k = i
      · subst e
        rw [if_pos rfl] at hfx
        unfold fixd at hfx ⊢
        rw [hf1, hf3] at hfx
        exact hfx
      · rwa [if_neg e] at hfx
    · rw [List.length_set] at hk
      rw [hat]
      by_cases e : k = i
      · subst e
        rw [if_pos rfl]
        exact { cbs := by rw [hf1]; exact hs.cbs
                due := by rw [hf1]; exact hs.due
                ahead := by rw [hf1]; exact hs.ahead
                idle := fun e => absurd (by rw [hf1] at e; exact e) hid
                busy := fun _ => by rw [hf2]; simp
                jlen := by rw [hf2, List.length_append, List.length_singleton]; omega
                jobs := fun j' hj' => by
                  rw [hf2] at hj'
                  rcases List.mem_append.1 hj' with hj' | hj'
                  · exact hs.jobs j' hj'
                  · obtain rfl : j' = ⟨(at_ l k).f5 + 1, P, 0, 0⟩ := by simpa using hj'
                    exact ⟨hJ, hf.2⟩
                rest := fun j' hj' => by
                  rw [hf2, hjx] at hj'
                  have hr := hs.rest
                  rw [hjx] at hr
                  simp only [List.cons_append, List.tail_cons, List.mem_append, List.mem_cons, List.not_mem_nil, or_false] at hj'
                  rcases hj' with hj' | rfl
                  · exact hr j' hj'
                  · exact ⟨rfl, rfl⟩
                sec := by rw [hf3]; exact hs.sec
                spin := by rw [hf3, hst2, hdn2]; exact hs.spin
                sem := by rw [hf3, hst2]; exact hs.sem
                secm := by rw [hf3, hf1]; exact hs.secm
                part := by rw [hf1, hst2, hdn2]; exact hs.part
                held := by rw [hf4]; exact hs.held
                ran := by rw [hf6]; exact hs.ran
                num := by rw [hf5]; omega }
      · rw [if_neg e]; exact hm.serv k hk
end
end Go.Proofs.YtfimkmlgnmaopaaGreat.Top
namespace Go.Proofs.YtfimkmlgnmaopaaGreat.Top
open Go.RowKit Go.Proofs.YtfimkmlgnmaopaaGreatW.PrintWords Go.Proofs.YtfimkmlgnmaopaaGreatW.PrintLast Go.Proofs.YtfimkmlgnmaopaaGreatW.PrintMore Go.Proofs.YtfimkmlgnmaopaaGreat.PTopNames
def xJ (b d m dn r : Int) : S57 := ⟨1, ⟨2, 5, b, d, m⟩, [⟨1, [⟨0, 3⟩], 0, dn⟩], 0, 0, 1, r⟩
theorem aw_set0 : settleL 1 0 [xJ 2 5 1 0 0] [] = ([xJ 2 5 1 0 0], [], []) := by kernel_rfl
theorem aw_set1 : settleL 1 1 [xJ 1 5 1 1 1] [] = ([xJ 1 5 1 1 1], [], []) := by kernel_rfl
theorem aw_set2 : settleL 1 2 [xJ 0 5 2 2 2] [] = ([xJ 0 5 2 2 2], [], []) := by kernel_rfl
theorem aw_set5 : settleL 1 5 [xJ 0 5 2 2 2] [] = ([xJ 2 10 1 2 2], [], [⟨5, 5, 1, 0⟩]) := by kernel_rfl
theorem aw_set5b : settleL 1 5 [xJ 2 10 1 2 2] [] = ([xJ 2 10 1 2 2], [], []) := by kernel_rfl
theorem aw_st0 : stillL 1 0 6 [xJ 2 5 1 0 0] [] = 1 := by kernel_rfl
theorem aw_st1 : stillL 1 1 5 [xJ 1 5 1 1 1] [] = 0 := by kernel_rfl
theorem aw_st2 : stillL 1 2 4 [xJ 0 5 2 2 2] [] = 3 := by kernel_rfl
theorem aw_st5 : stillL 1 5 1 [xJ 2 10 1 2 2] [] = 0 := by kernel_rfl
theorem aw_sk0 : skipL 1 1 [xJ 2 5 1 0 0] = [xJ 1 5 1 1 1] := by kernel_rfl
theorem aw_sk2 : skipL 1 3 [xJ 0 5 2 2 2] = [xJ 0 5 2 2 2] := by kernel_rfl
theorem aw_tk1 : tickL 1 1 [xJ 1 5 1 1 1] [] = ([xJ 0 5 2 2 2], [], [⟨2, 4, 1, 0⟩]) := by kernel_rfl
theorem aw_tk5 : tickL 1 5 [xJ 2 10 1 2 2] [] = ([⟨1, ⟨2, 5, 1, 10, 0⟩, [], 0, 0, 1, 3⟩], [], [⟨6, 2, 1, 1⟩, ⟨6, 10, 1, 0⟩]) := by kernel_rfl
theorem aw_pl1 : placesOf 1 [xJ 1 5 1 1 1] = [0] := by kernel_rfl
theorem aw_pl5 : placesOf 1 [xJ 2 10 1 2 2] = [0] := by kernel_rfl
theorem aw_go : goL 6 1 0 6 [xJ 2 5 1 0 0] [] = ([⟨1, ⟨2, 5, 1, 10, 0⟩, [], 0, 0, 1, 3⟩], [], [⟨2, 4, 1, 0⟩, ⟨5, 5, 1, 0⟩, ⟨6, 2, 1, 1⟩, ⟨6, 10, 1, 0⟩]) := by kernel_rfl
def awI (now : Int) (l : List S57) (q : List S63) : Prop := q = [] ∧ ((now = 0 ∧ l = [xJ 2 5 1 0 0]) ∨ (now = 1 ∧ l = [xJ 1 5 1 1 1]) ∨ (now = 2 ∧ l = [xJ 0 5 2 2 2]) ∨ (now = 5 ∧ l = [xJ 0 5 2 2 2]) ∨ (now = 6 ∧ l = [⟨1, ⟨2, 5, 1, 10, 0⟩, [], 0, 0, 1, 3⟩]))
theorem aw_job {d : Int} (h0 : 0 ≤ d) (h1 : d ≤ 3) : JobOk ⟨1, [⟨0, 3⟩], 0, d⟩ := ⟨by show (1 : Int) ≤ 1; decide, by show pgoodB [⟨0, 3⟩] = true; decide, by show (0 : Int) ≤ 0; decide, by show (0 : Int) < ((1 : Nat) : Int); decide, h0, h1⟩
theorem aw_cbs {b d m : Int} (h0 : 0 ≤ b) (h1 : b ≤ 2) (h2 : 0 ≤ d) (h3 : d ≤ 10) (h4 : 0 ≤ m) (h5 : m ≤ 2) (h6 : m = 1 → 0 < b) : CbsOk ⟨2, 5, b, d, m⟩ := ⟨by show (1 : Int) ≤ 2; decide, by show (2 : Int) ≤ 5; decide, by show (5 : Int) ≤ 2147483648; decide, h0, h1, h2, by show d ≤ _; omega, h4, h5, h6⟩
theorem aw_sane (x : S57) (h : x.f0 = 1) : Sane 1 [x] := ⟨by decide, by decide, by simp, by simp [Sorted], fun k hk => by
 obtain rfl : k = 0 := by simp at hk; omega
 simp [h], by
 have h1 : fixes (readyL [x]) ≤ 1 := by
  rw [fixes_count]
  have := List.countP_le_length (p := fixd) (l := [x])
  simpa using this
 omega⟩
theorem aw_mok {now b d m dn r : Int} (n0 : 0 ≤ now) (n1 : now ≤ 6) (hc : CbsOk ⟨2, 5, b, d, m⟩) (hd0 : 0 ≤ dn) (hd1 : dn ≤ 3) : MOk 1 now [xJ b d m dn r] [] where
 sane := aw_sane _ rfl
 now0 := n0
 now1 := by omega
 cbs := fun k hk => by
  obtain rfl : k = 0 := by simp at hk; omega
  exact hc
 job := fun k hk => by
  obtain rfl : k = 0 := by simp at hk; omega
  intro j hj
  obtain rfl : j = ⟨1, [⟨0, 3⟩], 0, dn⟩ := by simpa [xJ] using hj
  exact ⟨aw_job hd0 hd1, fun s hs => by
   obtain rfl : s = ⟨0, 3⟩ := by simpa using hs
   decide⟩
 jlen := fun k hk => by
  obtain rfl : k = 0 := by simp at hk; omega
  show 1 ≤ 8
  decide
 mode := fun k hk h => by
  obtain rfl : k = 0 := by simp at hk; omega
  simp [xJ]
 qlen := by simp
 most := fun k hk => by simp at hk
 room := fun k hk => by simp at hk
theorem aw_still {now b d m dn r : Int} (n0 : 0 ≤ now) (n1 : now ≤ 6) (hc : CbsOk ⟨2, 5, b, d, m⟩) (hd0 : 0 ≤ dn) (hd1 : dn ≤ 3) : StillOk 1 now [xJ b d m dn r] [] where
 sane := aw_sane _ rfl
 now0 := n0
 now1 := by omega
 cbs := fun k hk => by
  obtain rfl : k = 0 := by simp at hk; omega
  exact hc
 run := (aw_mok n0 n1 hc hd0 hd1).run
 held := fun k hk => by
  obtain rfl : k = 0 := by simp at hk; omega
  exact ⟨by show (0 : Int) ≤ 0; decide, by show (0 : Int) ≤ _; decide⟩
 lock := fun k hk _ h => by
  obtain rfl : k = 0 := by simp at hk; omega
  exact absurd h (by show ¬ (0 : Int) = 2; decide)
 most := fun k hk => by simp at hk
theorem aw_tick {now b d dn r : Int} (n0 : 0 ≤ now) (n1 : now ≤ 6) (hc : CbsOk ⟨2, 5, b, d, 1⟩) (hd0 : 0 ≤ dn) (hd1 : dn ≤ 2) (hr : 0 ≤ r ∧ r ≤ 6) (hs : settleL 1 now [xJ b d 1 dn r] [] = ([xJ b d 1 dn r], [], [])) (hp : placesOf 1 [xJ b d 1 dn r] = [0]) (he : EndOk (runAll [xJ b d 1 dn r] [0]) [] 0) : TickOk 1 now [xJ b d 1 dn r] [] where
 ok := aw_mok n0 n1 hc hd0 (by omega)
 sane := by rw [hs]; exact aw_sane _ rfl
 run := by
  rw [hs, hp]
  intro p hp2
  obtain rfl : p = 0 := by simpa using hp2
  refine ⟨by simp, hc, rfl, ⟨_, [], rfl, aw_job hd0 (by omega), fun _ => by show dn + 1 ≤ 3; omega⟩, ⟨hr.1, ?_⟩, ?_⟩
  ·show r ≤ _; omega
  ·exact ⟨by show (0 : Int) ≤ 0; decide, by show (0 : Int) ≤ _; decide⟩
 ends := by
  rw [hs]
  dsimp only
  rw [hp]
  intro k hk
  obtain rfl : k = 0 := by simp at hk; omega
  exact he
theorem aw_skip {n b d dn r m : Int} (hn : 1 ≤ n) (hn2 : n ≤ 6) (hc : CbsOk ⟨2, 5, b, d, 1⟩) (hb : n ≤ b) (hd0 : 0 ≤ dn) (hd1 : dn + n ≤ 3) (hr : 0 ≤ r ∧ r ≤ 6) (hm : m = 1) : SkipOk 1 n [xJ b d m dn r] where
 sane := aw_sane _ rfl
 n1 := hn
 nm := by omega
 run := fun k hk _ => by
  subst hm
  obtain rfl : k = 0 := by simp at hk; omega
  exact ⟨hc, rfl, hb, ⟨_, [], rfl, aw_job hd0 (by omega), fun _ => by show dn + n ≤ 3; omega⟩, ⟨hr.1, by show r ≤ _; omega⟩, by show (0 : Int) ≤ 0; decide, by show (0 : Int) ≤ _; decide⟩
theorem aw_skip2 : SkipOk 1 3 [xJ 0 5 2 2 2] where
 sane := aw_sane _ rfl
 n1 := by decide
 nm := by decide
 run := fun k hk h => by
  obtain rfl : k = 0 := by simp at hk; omega
  have h2 : runsL 1 [xJ 0 5 2 2 2] = [] := by kernel_rfl
  rw [h2] at h
  exact absurd h (by simp)
theorem aw_ends {b d m dn r : Int} (hc : CbsOk ⟨2, 5, b, d, m⟩) (hm : m ≠ 0) (hd0 : 0 ≤ dn) (hd1 : dn ≤ 3) : EndOk [xJ b d m dn r] [] 0 where
 sorted := by simp [Sorted]
 len := by simp
 qlen := by simp
 que := fun k hk => by simp at hk
 at_ := ⟨by simp, hc, hm, _, [], rfl, aw_job hd0 hd1, by show (0 : Int) ≤ 0; decide, fun h => absurd h (by show ¬ (0 : Int) = 2; decide)⟩
theorem aw_end1 : EndOk (runAll [xJ 1 5 1 1 1] [0]) [] 0 := by
 have e : runAll [xJ 1 5 1 1 1] [0] = [xJ 0 5 2 2 2] := by kernel_rfl
 rw [e]
 exact aw_ends (aw_cbs (by decide) (by decide) (by decide) (by decide) (by decide) (by decide) (by decide)) (by decide) (by decide) (by decide)
theorem aw_end5 : EndOk (runAll [xJ 2 10 1 2 2] [0]) [] 0 := by
 have e : runAll [xJ 2 10 1 2 2] [0] = [xJ 1 10 1 3 3] := by kernel_rfl
 rw [e]
 exact aw_ends (aw_cbs (by decide) (by decide) (by decide) (by decide) (by decide) (by decide) (by decide)) (by decide) (by decide) (by decide)
theorem aw_inv : GoInv 1 6 awI where
 ok := fun now l q ⟨hq, h⟩ hlt => by
  subst hq
  rcases h with ⟨rfl, rfl⟩ | ⟨rfl, rfl⟩ | ⟨rfl, rfl⟩ | ⟨rfl, rfl⟩ | ⟨rfl, rfl⟩
  ·rw [aw_set0]; exact ⟨aw_mok (by decide) (by decide) (aw_cbs (by decide) (by decide) (by decide) (by decide) (by decide) (by decide) (by decide)) (by decide) (by decide), aw_still (by decide) (by decide) (aw_cbs (by decide) (by decide) (by decide) (by decide) (by decide) (by decide) (by decide)) (by decide) (by decide)⟩
  ·rw [aw_set1]; exact ⟨aw_mok (by decide) (by decide) (aw_cbs (by decide) (by decide) (by decide) (by decide) (by decide) (by decide) (by decide)) (by decide) (by decide), aw_still (by decide) (by decide) (aw_cbs (by decide) (by decide) (by decide) (by decide) (by decide) (by decide) (by decide)) (by decide) (by decide)⟩
  ·rw [aw_set2]; exact ⟨aw_mok (by decide) (by decide) (aw_cbs (by decide) (by decide) (by decide) (by decide) (by decide) (by decide) (by decide)) (by decide) (by decide), aw_still (by decide) (by decide) (aw_cbs (by decide) (by decide) (by decide) (by decide) (by decide) (by decide) (by decide)) (by decide) (by decide)⟩
  ·rw [aw_set5]; exact ⟨aw_mok (by decide) (by decide) (aw_cbs (by decide) (by decide) (by decide) (by decide) (by decide) (by decide) (by decide)) (by decide) (by decide), aw_still (by decide) (by decide) (aw_cbs (by decide) (by decide) (by decide) (by decide) (by decide) (by decide) (by decide)) (by decide) (by decide)⟩
  ·omega
 skip := fun now l q ⟨hq, h⟩ hlt => by
  subst hq
  rcases h with ⟨rfl, rfl⟩ | ⟨rfl, rfl⟩ | ⟨rfl, rfl⟩ | ⟨rfl, rfl⟩ | ⟨rfl, rfl⟩
  ·rw [aw_set0]
   dsimp only
   rw [show (6 : Int) - 0 = 6 from rfl, aw_st0, aw_sk0]
   exact fun _ => ⟨aw_skip (m := 1) (by decide) (by decide) (aw_cbs (by decide) (by decide) (by decide) (by decide) (by decide) (by decide) (by decide)) (by decide) (by decide) (by decide) (by decide) (by decide), by decide, rfl, .inr (.inl ⟨rfl, rfl⟩)⟩
  ·rw [aw_set1]
   dsimp only
   rw [show (6 : Int) - 1 = 5 from rfl, aw_st1]
   exact fun h => absurd h (by decide)
  ·rw [aw_set2]
   dsimp only
   rw [show (6 : Int) - 2 = 4 from rfl, aw_st2, aw_sk2]
   exact fun _ => ⟨aw_skip2, by decide, rfl, .inr (.inr (.inr (.inl ⟨rfl, rfl⟩)))⟩
  ·rw [aw_set5]
   dsimp only
   rw [show (6 : Int) - 5 = 1 from rfl, aw_st5]
   exact fun h => absurd h (by decide)
  ·omega
 tick := fun now l q ⟨hq, h⟩ hlt => by
  subst hq
  rcases h with ⟨rfl, rfl⟩ | ⟨rfl, rfl⟩ | ⟨rfl, rfl⟩ | ⟨rfl, rfl⟩ | ⟨rfl, rfl⟩
  ·rw [aw_set0]
   dsimp only
   rw [show (6 : Int) - 0 = 6 from rfl, aw_st0]
   exact fun h => absurd h (by decide)
  ·rw [aw_set1]
   dsimp only
   rw [aw_tk1]
   exact fun _ => ⟨aw_tick (by decide) (by decide) (aw_cbs (by decide) (by decide) (by decide) (by decide) (by decide) (by decide) (by decide)) (by decide) (by decide) (by decide) aw_set1 aw_pl1 aw_end1, rfl, .inr (.inr (.inl ⟨rfl, rfl⟩))⟩
  ·rw [aw_set2]
   dsimp only
   rw [show (6 : Int) - 2 = 4 from rfl, aw_st2]
   exact fun h => absurd h (by decide)
  ·rw [aw_set5]
   dsimp only
   rw [aw_tk5]
   exact fun _ => ⟨aw_tick (by decide) (by decide) (aw_cbs (by decide) (by decide) (by decide) (by decide) (by decide) (by decide) (by decide)) (by decide) (by decide) (by decide) aw_set5b aw_pl5 aw_end5, rfl, .inr (.inr (.inr (.inr ⟨rfl, rfl⟩)))⟩
  ·omega
end Go.Proofs.YtfimkmlgnmaopaaGreat.Top
namespace Go.Proofs.YtfimkmlgnmaopaaGreat.Top
open Go.RowKit Go.Proofs.YtfimkmlgnmaopaaGreatW.PrintWords Go.Proofs.YtfimkmlgnmaopaaGreatW.PrintLast Go.Proofs.YtfimkmlgnmaopaaGreatW.PrintMore Go.Proofs.YtfimkmlgnmaopaaGreat.PTopNames
set_option linter.unusedVariables false
set_option linter.unusedSimpArgs false
def awX : S57 := ⟨1, ⟨2, 5, 1, 10, 0⟩, [], 0, 0, 1, 3⟩
def awE (t k n : Int) : List Value := [.int .i64 t, .int .i64 k, .int .i64 1, .int .i64 n]
def awEs : List (List Value) := [awE 0 1 1, awE 0 9 0, awE 2 4 0, awE 5 5 0, awE 6 2 1, awE 6 10 0]
theorem aw_new (w : World) : Calls Tryz.prog 9 #[.int .i64 1, .slice none 0 0] w fun e w' => ∃ N lab, e = .returned (.tuple #[.pointer (some ⟨N, 0, none⟩), .nilIface]) ∧ SysAt w' lab N 1 0 [] [] 0 [] [] ∧ Below w.heap.size w w' ∧ ∀ b, lab b ≠ 0 → w.heap.size ≤ b :=
 (snew_calls 1 none 0 [] w (C_nil' _ _ _) (by decide) (by decide) (by decide)).mono fun e w' h => h.1 (by kernel_rfl)
theorem aw_open (N : Nat) (lab : Nat → Nat) (w : World) (h : SysAt w lab N 1 0 [] [] 0 [] []) : Calls Tryz.prog 18 #[.pointer (some ⟨N, 0, none⟩), .int .i64 2, .int .i64 5] w fun e w' => e = .returned (.tuple #[.int .u32 0, .nilIface]) ∧ (∃ lab', SysAt w' lab' N 1 0 [newServ 1 2 5] [] 1 [⟨1, ⟨2, 5⟩, -1⟩] [] ∧ Grew w lab lab') ∧ Turn w w' (fun b => lab b ≠ 0) :=
 (sopen_calls N lab 1 0 [] [] 0 [] [] w h ⟨by simp [Sorted], by decide, by decide, by decide, by simp, by simp, by simp, by decide, by simp, by simp⟩ 2 5 (by decide) (by decide) (by decide)).mono fun e w' h => h.2 (by kernel_rfl)
theorem aw_rel (N : Nat) (lab : Nat → Nat) (bk : List S157) (w : World) (h : SysAt w lab N 1 0 [newServ 1 2 5] [] 1 bk []) (Ap : Option Addr) (cp : Nat) (hP : Kd.C k72 w Ap 1 [⟨0, 3⟩]) : Calls Tryz.prog 11 #[.pointer (some ⟨N, 0, none⟩), .int .u32 0, .slice Ap 1 cp] w fun e w' => e = .returned (.tuple #[.int .i64 1, .nilIface]) ∧ (∃ lab', SysAt w' lab' N 1 0 [xJ 2 5 1 0 0] [] 1 bk [awE 0 1 1, awE 0 9 0] ∧ Grew w lab lab') ∧ Turn w w' (fun b => lab b ≠ 0) :=
 (srel_calls N lab 1 0 [newServ 1 2 5] [] 1 bk [] w h 0 (by decide) (by decide) rfl ⟨by simp [Sorted], by decide, by decide, fun k hk => by
  obtain rfl : k = 0 := by simp at hk; omega
  show 0 ≤ 8
  decide, by simp, by decide, by decide, ⟨by decide, by decide, by decide, by decide, by decide, by decide, by decide, by decide, by decide, by decide⟩, by decide, by decide⟩ (by decide) (by simp) Ap cp [⟨0, 3⟩] hP).mono fun e w' h => h.2 (by kernel_rfl)
theorem aw_goes (N : Nat) (lab : Nat → Nat) (bk : List S157) (w : World) (h : SysAt w lab N 1 0 [xJ 2 5 1 0 0] [] 1 bk [awE 0 1 1, awE 0 9 0]) : Calls Tryz.prog 14 #[.pointer (some ⟨N, 0, none⟩), .int .i64 6] w fun e w' => e = .returned .nilIface ∧ (∃ lab', SysAt w' lab' N 1 6 [awX] [] 1 bk awEs ∧ Grew w lab lab') ∧ Turn w w' (fun b => lab b ≠ 0) :=
 (gos_calls N lab 1 0 6 [xJ 2 5 1 0 0] [] 1 bk [awE 0 1 1, awE 0 9 0] w h (by decide) awI aw_inv ⟨rfl, .inl ⟨rfl, rfl⟩⟩ (by decide) (by decide) (by decide) (by decide)).mono fun e w' h => by
  have h2 := h.2.2
  have e6 : goL (6 : Int).toNat 1 0 (0 + 6) [xJ 2 5 1 0 0] [] = ([awX], [], [⟨2, 4, 1, 0⟩, ⟨5, 5, 1, 0⟩, ⟨6, 2, 1, 1⟩, ⟨6, 10, 1, 0⟩]) := aw_go
  rw [e6] at h2
  exact ⟨h.1, h2⟩
theorem aw_events (N : Nat) (lab : Nat → Nat) (bk : List S157) (w : World) (h : SysAt w lab N 1 6 [awX] [] 1 bk awEs) : Calls Tryz.prog 17 #[.pointer (some ⟨N, 0, none⟩)] w fun e w' => ∃ ad c, e = .returned (.slice (some ad) 6 c) ∧ (Kd.raw 4).C w' (some ad) 6 awEs ∧ Turn w w' (fun b => lab b ≠ 0) :=
 (eventss_calls N lab 1 6 [awX] [] 1 bk awEs w h (by decide)).mono fun e w' ⟨v, e1, hR, _, hT⟩ => by
  obtain ⟨A, c, rfl, hc, hC⟩ := Kd.R_reads hR
  obtain ⟨ad, rfl, _⟩ := hC.2.2 (by decide)
  exact ⟨ad, c, e1, hC, hT⟩
theorem lit72 (w : World) (x : S72) : Kd.C k72 (w.alloc (.cells #[.int .i64 x.f0, .int .i64 x.f1] 72)) (some ⟨w.heap.size, 0, none⟩) 1 [x] := by
 refine ⟨rfl, by simp, fun _ => ⟨_, rfl, fun j y hy => ?_⟩⟩
 have hb := blk_new w (.cells #[.int .i64 x.f0, .int .i64 x.f1] 72)
 cases j with
 | zero =>
  simp only [List.getElem?_cons_zero, Option.some.injEq] at hy
  subst hy
  refine ⟨_, rfl, k72_mk _ _, fun i u hu => ?_⟩
  rw [Nat.zero_mul, Nat.zero_add, addr_at, Nat.zero_add, blk_cell hb]
  match i, hu with
  | 0, h => exact h
  | 1, h => exact h
  | i + 2, h => simp at h
 | succ j => simp at hy
theorem ev_at {w : World} {ad : Addr} {n : Nat} {xs : List (List Value)} (h : (Kd.raw 4).C w (some ad) n xs) {k : Nat} (hk : k < xs.length) (x0 x1 x2 x3 : Value) (hx : xs[k] = [x0, x1, x2, x3]) :
  w.cell? (ad.add (k * 4)) = some x0 ∧ w.cell? ⟨(ad.add (k * 4)).block, (ad.add (k * 4)).off + 1, none⟩ = some x1 ∧ w.cell? ⟨(ad.add (k * 4)).block, (ad.add (k * 4)).off + 2, none⟩ = some x2 ∧ w.cell? ⟨(ad.add (k * 4)).block, (ad.add (k * 4)).off + 3, none⟩ = some x3 := by
 obtain ⟨ad2, e2, hc⟩ := h.2.2 (by have := h.1; omega)
 injection e2 with e2
 subst e2
 obtain ⟨cs, hl, hK, hcell⟩ := hc k [x0, x1, x2, x3] (by rw [List.getElem?_eq_getElem hk, hx])
 have e : cs = [x0, x1, x2, x3] := by first | exact hK.1 | exact hK.1.symm
 subst e
 refine ⟨?_, ?_, ?_, ?_⟩
 ·exact hcell 0 _ rfl
 ·rw [← addr_next ad (k * 4) 0]; exact hcell 1 _ rfl
 ·rw [← addr_next ad (k * 4) 1]; exact hcell 2 _ rfl
 ·rw [← addr_next ad (k * 4) 2]; exact hcell 3 _ rfl
set_option maxHeartbeats 4000000 in
set_option maxRecDepth 100000 in
theorem awake_calls (w : World) : Calls Tryz.prog 7 #[] w fun e w' => e = .returned (.bool true) ∧ Below w.heap.size w w' := by
 have D1 := aw_new w
 go_enter Tryz.func7, Tryz.ntmps7
 go_upto_region 4 with (go_at_call 9; (with_reducible refine D1.mono ?_); rintro e w1 ⟨N, lab, rfl, h1, hB1, hl1⟩; have H1 := Lib.hid h1; have HB1 := Lib.hid hB1; have HL1 := Lib.hid hl1; clear h1 hB1 hl1)
 clear D1
 have D2 := aw_open N lab w1 H1.out
 go_upto_region 5 with (go_at_call 18; (with_reducible refine D2.mono ?_); rintro e w2 ⟨rfl, ⟨lab2, h2, hg2⟩, hT2⟩; have H2 := Lib.hid h2; have HG2 := Lib.hid hg2; have HT2 := Lib.hid hT2; clear h2 hg2 hT2)
 clear D2
 have HP3 := Lib.hid (lit72 w2 ⟨0, 3⟩)
 have HB23 := Lib.hid (below_alloc (Below.refl w2.heap.size w2) (.cells #[.int .i64 0, .int .i64 3] 72))
 have DR := fun wx (hb : Below w2.heap.size w2 wx) Ap cp hP => aw_rel N lab2 _ wx (H2.out.below hb) Ap cp hP
 go_upto_region 6 with (go_at_call 11; (with_reducible refine (DR _ HB23.out _ _ HP3.out).mono ?_); rintro e w4 ⟨rfl, ⟨lab4, h4, hg4⟩, hT4⟩; have H4 := Lib.hid h4; have HG4 := Lib.hid hg4; have HT4 := Lib.hid hT4; clear h4 hg4 hT4)
 clear DR
 have D6 := aw_goes N lab4 _ w4 H4.out
 go_upto_region 7 with (go_at_call 14; (with_reducible refine D6.mono ?_); rintro e w5 ⟨rfl, ⟨lab5, h5, hg5⟩, hT5⟩; have H5 := Lib.hid h5; have HG5 := Lib.hid hg5; have HT5 := Lib.hid hT5; clear h5 hg5 hT5)
 clear D6
 have D7 := aw_events N lab5 _ w5 H5.out
 go_upto_region 8 with (go_at_call 17; (with_reducible refine D7.mono ?_); rintro e w6 ⟨ad, c6, rfl, hC6, hT6⟩; have HC6 := Lib.hid hC6; have HT6 := Lib.hid hT6; clear hC6 hT6)
 clear D7
 obtain ⟨e0, e1, e2, e3⟩ := ev_at HC6.out (k := 4) (by decide) (.int .i64 6) (.int .i64 2) (.int .i64 1) (.int .i64 1) rfl
 replace e0 : w6.cell? ⟨ad.block, ad.off + 16, none⟩ = some (.int .i64 6) := e0
 replace e1 : w6.cell? ⟨ad.block, ad.off + 16 + 1, none⟩ = some (.int .i64 2) := e1
 replace e2 : w6.cell? ⟨ad.block, ad.off + 16 + 2, none⟩ = some (.int .i64 1) := e2
 replace e3 : w6.cell? ⟨ad.block, ad.off + 16 + 3, none⟩ = some (.int .i64 1) := e3
 go_wp2
 go_ret
 have s1 := HB1.out.size
 have s2 := HT2.out.size
 have s3 := HB23.out.size
 have s4 := HT4.out.size
 have s5 := HT5.out.size
 have l2 : ∀ b, lab2 b ≠ 0 → w.heap.size ≤ b := fun b hb => (HG2.out b hb).elim (HL1.out b) (fun h => by omega)
 have l4 : ∀ b, lab4 b ≠ 0 → w.heap.size ≤ b := fun b hb => (HG4.out b hb).elim (l2 b) (fun h => by omega)
 have l5 : ∀ b, lab5 b ≠ 0 → w.heap.size ≤ b := fun b hb => (HG5.out b hb).elim (l4 b) (fun h => by omega)
 exact ⟨rfl, Turn.below (Turn.below (Turn.below ((Turn.below HB1.out HT2.out HL1.out s1).trans (HB23.out.mono (by omega))) HT4.out l2 (by omega)) HT5.out l4 (by omega)) HT6.out l5 (by omega)⟩
structure Law (w : World) (lab : Nat → Nat) (N : Nat) (M now c : Int) (wt : Nat → Int) (l : List S57) (q : List S63) (R : Nat → List Nat) (bk : List S157) (E : List (List Value)) (eb : Nat) : Prop where
  sys : SysAt w lab N M now l q l.length bk E
  inv : Inv M now c wt noD l q R
  ids : ∀ k, k < l.length → (at_ l k).f0 = (k : Int) + 1
  ev : E.length ≤ eb
section
variable {w w' : World} {lab : Nat → Nat} {N : Nat} {M now c : Int} {wt : Nat → Int} {l : List S57} {q : List S63} {R : Nat → List Nat} {bk : List S157} {E : List (List Value)} {eb : Nat}
theorem Law.turn (h : Law w lab N M now c wt l q R bk E eb) {S : Nat → Prop} (ht : Turn w w' S) (hS : ∀ b, S b → lab b = 0) : Law w' lab N M now c wt l q R bk E eb := ⟨h.sys.turn ht hS, h.inv, h.ids, h.ev⟩
theorem Law.below (h : Law w lab N M now c wt l q R bk E eb) (hb : Below w.heap.size w w') : Law w' lab N M now c wt l q R bk E eb := ⟨h.sys.below hb, h.inv, h.ids, h.ev⟩
theorem Law.more (h : Law w lab N M now c wt l q R bk E eb) {c' : Int} (hc : c ≤ c') {wt' : Nat → Int} (hw : ∀ k, wt' k ≤ wt k ∨ ∀ n, k ∉ (R n).tail) {eb' : Nat} (he : eb ≤ eb') : Law w lab N M now c' wt' l q R bk E eb' := ⟨h.sys, h.inv.more hc hw, h.ids, Nat.le_trans h.ev he⟩
theorem goL_few (M now : Int) (l : List S57) (q : List S63) (hl : l.length ≤ 12) (h2 : (settleL M now l q).1.length ≤ 12) (h3 : (settleL M now (settleL M now l q).1 (settleL M now l q).2.1).1.length ≤ 12) : (goL 1 M now (now + 1) l q).2.2.length ≤ 1000 := by
  have h1 := settleL_few M now l q hl
  have h4 := tickL_few M now (settleL M now l q).1 (settleL M now l q).2.1 h2 h3
  rw [goL_one]
  split
  · exact Nat.le_trans h1 (by omega)
  · dsimp only
    rw [List.length_append]
    omega
theorem Law.go (h : Law w lab N M now c wt l q R bk E eb) (hn : now < 1000000000) (hw : ∀ k, k < l.length → (at_ l k).f3 = 0 → wt k ≤ 0) (heb : eb ≤ 9000000) :
    Calls Tryz.prog 14 #[.pointer (some ⟨N, 0, none⟩), .int .i64 1] w fun e w' => e = .returned .nilIface ∧ (∃ lab' R', Law w' lab' N M (now + 1) c (fun k => wt k + 1) (goL 1 M now (now + 1) l q).1 (goL 1 M now (now + 1) l q).2.1 R' bk (E ++ (goL 1 M now (now + 1) l q).2.2.map Ev.cells) (eb + 1000) ∧ StepR R R' ∧ (goL 1 M now (now + 1) l q).1.length = l.length ∧ (goL 1 M now (now + 1) l q).2.1.length = q.length ∧ (∀ n, ((goL 1 M now (now + 1) l q).2.1.getD n z63).f0 = (q.getD n z63).f0) ∧ Grew w lab lab') ∧ Turn w w' (fun b => lab b ≠ 0) := by
  obtain ⟨hI, R1, hinv, hstep, hl1, hq1, hm1, hf1⟩ := h.inv.go1 hn hw
  obtain ⟨R', hS, _, e1, e2, _, _⟩ := h.inv.settle hw
  have hag := hS.again
  have hfew := goL_few M now l q h.inv.sane.len (by rw [e1]; exact h.inv.sane.len) (by rw [hag]; show (settleL M now l q).1.length ≤ 12; rw [e1]; exact h.inv.sane.len)
  refine (gos_calls N lab M now 1 l q l.length bk E w h.sys (by have := h.ev; omega) (goI M now l q) hI (.inl ⟨rfl, rfl, rfl⟩) (by decide) (by decide) h.inv.now0 h.inv.now1).mono ?_
  rintro e w' ⟨rfl, _, ⟨lab', hsys, hgr⟩, hT⟩
  have e1 : (1 : Int).toNat = 1 := rfl
  rw [e1] at hsys
  refine ⟨rfl, ⟨lab', R1, ⟨?_, hinv, fun k hk => ?_, ?_⟩, hstep, hl1, hq1, hm1, hgr⟩, hT⟩
  · rw [hl1]; exact hsys
  · rw [hl1] at hk
    rw [hf1]
    exact h.ids k hk
  · rw [List.length_append, List.length_map]
    have := h.ev
    omega
theorem Law.relOk (h : Law w lab N M now c wt l q R bk E eb) {i : Nat} (hi : i < l.length) (hc : c ≤ 1000000) : RelOk now l q i hi := by
  have hn1 := h.inv.now1
  have hs := h.inv.serv i hi
  rw [at_lt hi] at hs
  exact ⟨h.inv.sane.sorted, h.inv.sane.len, h.inv.qlen, fun k hk => by have := (h.inv.serv k hk).jlen; rwa [at_lt hk] at this, fun n hn => by
    have := (h.inv.mok (fun n _ => h.inv.row_len n)).room n hn
    omega, h.inv.now0, by omega, hs.cbs, hs.num.1, by have := hs.num; omega⟩
theorem Law.rel (h : Law w lab N M now c wt l q R bk E eb) {i : Nat} (hi : i < l.length) (hc : c ≤ 1000000) (heb : eb ≤ 9000000) (Ap : Option Addr) (cp : Nat) (P : List S72) (hP : Kd.C k72 w Ap P.length P) :
    Calls Tryz.prog 11 #[.pointer (some ⟨N, 0, none⟩), .int .u32 i, .slice Ap P.length cp] w fun e w' => (∃ a b, e = .returned (.tuple #[a, b])) ∧ (∃ lab' l' E', Law w' lab' N M now (c + 1) wt l' q R bk E' (eb + 2) ∧ l'.length = l.length ∧ Grew w lab lab' ∧ ((l' = l ∧ E' = E) ∨ (l' = l.set i (relX now P l[i]) ∧ E' = E ++ (relE now l[i]).map Ev.cells))) ∧ Turn w w' (fun b => lab b ≠ 0) := by
  have hk := h.relOk hi hc
  refine (srel_calls N lab M now l q l.length bk E w h.sys i hi hi (by rw [← at_lt hi]; exact h.ids i hi) hk (by have := h.ev; omega) hk.que Ap cp P hP).mono ?_
  intro e w' ⟨h1, h2⟩
  by_cases hC : relC q.length P l[i] = 0
  · obtain ⟨rfl, ⟨lab', hsys, hgr⟩, hT⟩ := h2 hC
    refine ⟨⟨_, _, rfl⟩, ⟨lab', _, _, ⟨?_, h.inv.release hi hC, fun k hk => ?_, ?_⟩, List.length_set .., hgr, .inr ⟨rfl, rfl⟩⟩, hT⟩
    · rw [List.length_set]; exact hsys
    · rw [List.length_set] at hk
      rw [at_set]
      split
      · rename_i e; rw [e.1, ← at_lt hi]; exact h.ids i hi
      · exact h.ids k hk
    · rw [List.length_append, List.length_map]
      have := h.ev
      have := relE_few now l[i]
      omega
  · obtain ⟨⟨p, rfl⟩, hB⟩ := h1 hC
    exact ⟨⟨_, _, rfl⟩, ⟨lab, l, E, (h.below hB).more (by omega) (fun k => .inl (Int.le_refl _)) (by omega), rfl, fun b hb => .inl hb, .inl ⟨rfl, rfl⟩⟩, Turn.of_below _ hB⟩
theorem Law.state (h : Law w lab N M now c wt l q R bk E eb) :
    Calls Tryz.prog 13 #[.pointer (some ⟨N, 0, none⟩)] w fun e w' => ∃ B o A4 c4, e = .returned (stV M now o.A l.length o.c o.A2 q.length o.c2 A4 c4) ∧ Own w' B l q o ∧ (∀ b, B.G b → lab b ≠ 0) ∧ (∀ cc b, o.own cc = some b → w.heap.size < b) ∧ Below w.heap.size w w' := by
  have h12 := h.inv.sane.len
  have h8 := h.inv.qlen
  exact states_calls N lab M now l q l.length bk E w h.sys (by omega) (by omega) (fun k hk => by have := (h.inv.serv k hk).jlen; rw [at_lt hk] at this; omega) (fun n hn => by
    have := (h.inv.mok (fun n _ => h.inv.row_len n)).room n hn
    omega)
theorem at_app (l : List S57) (x : S57) (k : Nat) : (k < l.length → at_ (l ++ [x]) k = at_ l k) ∧ at_ (l ++ [x]) l.length = x := by
  constructor
  · intro hk
    unfold at_
    rw [List.getD_eq_getElem?_getD, List.getD_eq_getElem?_getD, List.getElem?_append_left hk]
  · unfold at_
    rw [List.getD_eq_getElem?_getD, List.getElem?_append_right (Nat.le_refl _), Nat.sub_self]
    rfl
theorem Inv.opens (h : Inv M now c wt noD l q R) (hids : ∀ k, k < l.length → (at_ l k).f0 = (k : Int) + 1) (hl : l.length ≤ 11) (hc : 0 ≤ c) {q0 p0 : Int} (hx : WOk ⟨q0, p0⟩) : Inv M now c wt noD (l ++ [newServ ((l.length : Int) + 1) q0 p0]) q R := by
  obtain ⟨x1, x2, x3, x4⟩ := hx
  dsimp only at x1 x2 x3 x4
  have ha := fun k (hk : k < l.length) => (at_app l (newServ ((l.length : Int) + 1) q0 p0) k).1 hk
  have hz := (at_app l (newServ ((l.length : Int) + 1) q0 p0) 0).2
  have hlen : (l ++ [newServ ((l.length : Int) + 1) q0 p0]).length = l.length + 1 := by simp
  have hn0 := h.now0
  have hrow : ∀ n k, k ∈ R n → k < l.length := fun n k hk => ((h.rows.mem n k).1 hk).1
  refine ⟨⟨h.sane.m1, h.sane.m2, by omega, ?_, fun k hk => ?_, ?_⟩, h.now0, h.now1, h.qlen, h.qmost, fun k hk => ?_, ?_⟩
  · rw [sorted_at]
    intro a b hab hb
    have e : ∀ k, k < l.length + 1 → (at_ (l ++ [newServ ((l.length : Int) + 1) q0 p0]) k).f0 = (k : Int) + 1 := fun k hk => by
      by_cases e : k < l.length
      · rw [ha k e]; exact hids k e
      · obtain rfl : k = l.length := by omega
        rw [hz]; rfl
    rw [e a (by omega), e b (by omega)]
    omega
  · rw [← at_lt hk]
    by_cases e : k < l.length
    · rw [ha k e, at_lt e]; exact h.sane.id k e
    · obtain rfl : k = l.length := by omega
      rw [hz]
      show 1 ≤ (l.length : Int) + 1 ∧ (l.length : Int) + 1 ≤ 255
      omega
  · rw [fixes_count, List.countP_append]
    have := h.sane.fix
    rw [fixes_count] at this
    have e : List.countP fixd [newServ ((l.length : Int) + 1) q0 p0] = 0 := by
      simp [fixd, newServ]
    omega
  · by_cases e : k < l.length
    · rw [ha k e]; exact h.serv k e
    · obtain rfl : k = l.length := by omega
      rw [hz]
      exact { cbs := ⟨x3, x4, x2, by show (0 : Int) ≤ 0; decide, by show (0 : Int) ≤ q0; omega, by show (0 : Int) ≤ 0; decide, by show (0 : Int) ≤ 4611686018427387904; decide, by show (0 : Int) ≤ 0; decide, by show (0 : Int) ≤ 2; decide, fun e => absurd e (by show ¬ (0 : Int) = 1; decide)⟩
              due := by show (0 : Int) ≤ _; omega
              ahead := fun e => absurd rfl e
              idle := fun _ => ⟨rfl, rfl⟩
              busy := fun e => absurd rfl e
              jlen := by show 0 ≤ 8; decide
              jobs := fun j hj => by
                have : j ∈ ([] : List S125) := hj
                simp at this
              rest := fun j hj => by
                have : j ∈ ([] : List S125) := hj
                simp at this
              sec := by show (0 : Int) ≤ 0 ∧ (0 : Int) ≤ 2; decide
              spin := fun _ _ => rfl
              sem := fun e => absurd rfl e
              secm := fun e => absurd rfl e
              part := fun e => absurd rfl e
              held := by show (0 : Int) ≤ 0 ∧ (0 : Int) ≤ 1048576; decide
              ran := by show (0 : Int) ≤ 0 ∧ (0 : Int) ≤ now; omega
              num := by show (0 : Int) ≤ 0 ∧ (0 : Int) ≤ c; omega }
  · have hh : ∀ n (p k : Nat), (R n)[p]? = some k → at_ (l ++ [newServ ((l.length : Int) + 1) q0 p0]) ((R n).headD 0) = at_ l ((R n).headD 0) := fun n p k hp => by
      cases hr : R n with
      | nil => rw [hr] at hp; simp at hp
      | cons a r => exact ha a (hrow n a (by rw [hr]; simp))
    refine ⟨h.rows.hold0, fun n hn => ?_, h.rows.nodup, fun n k => ?_, fun n k r e => ?_, fun n hn k r e => ?_, fun n hn p k hp => ?_, fun n hn p k hp => ?_⟩
    · rw [h.rows.ids n hn]
      exact List.map_congr_left (fun k hk => by rw [ha k (hrow n k hk)])
    · rw [h.rows.mem n k]
      by_cases e : k < l.length
      · rw [ha k e, hlen]
        exact ⟨fun a => ⟨by omega, a.2⟩, fun a => ⟨e, a.2⟩⟩
      · constructor
        · intro a; exact absurd a.1 e
        · rintro ⟨a1, a2, _⟩
          obtain rfl : k = l.length := by omega
          rw [hz] at a2
          exact absurd rfl a2
    · have h1 := h.rows.first n k r e
      rw [ha k (hrow n k (by rw [e]; simp))]
      exact ⟨h1.1, fun k' hk' => by rw [ha k' (hrow n k' (by rw [e]; exact List.mem_cons_of_mem _ hk'))]; exact h1.2 k' hk'⟩
    · rw [ha k (hrow n k (by rw [e]; simp))]
      exact h.rows.most n hn k r e
    · rw [hh n p k hp, ha k (hrow n k (List.mem_of_getElem? hp))]
      exact h.rows.time n hn p k hp
    · rw [hh n _ k hp]
      exact h.rows.wait n hn p k hp
theorem Inv.new {ms : List Int} (hM : newB_ok M ms = true) (wt : Nat → Int) : Inv M 0 0 wt noD [] (ms.map lockOf) (fun _ => []) := by
  unfold newB_ok at hM
  simp only [Bool.not_eq_true', Bool.or_eq_false_iff, decide_eq_false_iff_not] at hM
  obtain ⟨⟨⟨a1, a2⟩, a3⟩, a4⟩ := hM
  refine ⟨⟨by omega, by omega, by simp, by simp [Sorted], fun k hk => by simp at hk, by show (0 : Int) ≤ M; omega⟩, by decide, by decide, by rw [List.length_map]; omega, fun n hn => ?_, fun k hk => by simp at hk, ?_⟩
  · rw [List.length_map] at hn
    rw [List.getElem_map]
    rw [List.any_eq_false] at a4
    have := a4 ms[n] (List.getElem_mem hn)
    unfold moddB at this
    simp at this
    show 1 ≤ ms[n] ∧ ms[n] ≤ 1048576
    omega
  · refine ⟨fun n hn _ => ?_, fun n hn => ?_, fun n => by simp, fun n k => ?_, fun n k r e => by simp at e, fun n hn k r e => by simp at e, fun n hn p k hp => by simp at hp, fun n hn p k hp => by simp at hp⟩
    · rw [List.getElem_map]; rfl
    · rw [List.getElem_map]; rfl
    · simp
structure Booked (l : List S57) (bk : List S157) : Prop where
  len : bk.length = l.length
  id : ∀ k (h : k < bk.length), bk[k].f0 = (k : Int) + 1
  ok : ∀ k (h : k < bk.length), WOk bk[k].f1
theorem Law.opens (h : Law w lab N M now c wt l q R bk E eb) (hb : Booked l bk) (hl : l.length ≤ 11) (hc : 0 ≤ c) (q0 p0 : Int) :
    Calls Tryz.prog 18 #[.pointer (some ⟨N, 0, none⟩), .int .i64 q0, .int .i64 p0] w fun e w' =>
      (askC M bk ⟨q0, p0⟩ ≠ 0 ∧ (∃ p, e = .returned (.tuple #[.int .u32 0, .iface 111 p])) ∧ Law w' lab N M now c wt l q R bk E eb ∧ Below w.heap.size w w') ∨
      (askC M bk ⟨q0, p0⟩ = 0 ∧ e = .returned (.tuple #[.int .u32 l.length, .nilIface]) ∧ (∃ lab', Law w' lab' N M now c wt (l ++ [newServ ((l.length : Int) + 1) q0 p0]) q R (bk ++ [⟨(l.length : Int) + 1, ⟨q0, p0⟩, -1⟩]) E eb ∧ Booked (l ++ [newServ ((l.length : Int) + 1) q0 p0]) (bk ++ [⟨(l.length : Int) + 1, ⟨q0, p0⟩, -1⟩]) ∧ Grew w lab lab') ∧ Turn w w' (fun b => lab b ≠ 0)) := by
  have hm1 := h.inv.sane.m1
  have hm2 := h.inv.sane.m2
  have hk : OpenOk l q l.length bk := ⟨h.inv.sane.sorted, by omega, Nat.le_refl _, by rw [hb.len]; exact Nat.le_refl _, fun k hk => by
      rw [← at_lt hk, h.ids k hk]; omega, fun k hk => by
      rw [hb.id k hk]
      have := hb.len
      omega, hb.ok, h.inv.qlen, fun k hk => by have := (h.inv.serv k hk).jlen; rw [at_lt hk] at this; omega, fun n hn => by
      have := (h.inv.mok (fun n _ => h.inv.row_len n)).room n hn
      omega⟩
  refine (sopen_calls N lab M now l q l.length bk E w h.sys hk q0 p0 hm1 hm2 h.inv.now0).mono ?_
  intro e w' ⟨h1, h2⟩
  by_cases hC : askC M bk ⟨q0, p0⟩ = 0
  · right
    obtain ⟨rfl, ⟨lab', hsys, hgr⟩, hT⟩ := h2 hC
    have hx := askC_ok hC
    refine ⟨hC, rfl, ⟨lab', ⟨?_, h.inv.opens h.ids hl hc hx, fun k hk => ?_, h.ev⟩, ⟨?_, fun k hk => ?_, fun k hk => ?_⟩, hgr⟩, hT⟩
    · rw [List.length_append]; exact hsys
    · rw [List.length_append, List.length_singleton] at hk
      by_cases e : k < l.length
      · rw [(at_app _ _ k).1 e]; exact h.ids k e
      · obtain rfl : k = l.length := by omega
        rw [(at_app _ _ 0).2]; rfl
    · rw [List.length_append, List.length_append, hb.len]; rfl
    · rw [List.length_append, List.length_singleton] at hk
      by_cases e : k < bk.length
      · rw [List.getElem_append_left e]; exact hb.id k e
      · obtain rfl : k = bk.length := by omega
        rw [List.getElem_append_right (Nat.le_refl _)]
        simp [hb.len]
    · rw [List.length_append, List.length_singleton] at hk
      by_cases e : k < bk.length
      · rw [List.getElem_append_left e]; exact hb.ok k e
      · obtain rfl : k = bk.length := by omega
        rw [List.getElem_append_right (Nat.le_refl _)]
        simpa using hx
  · left
    obtain ⟨h3, hB⟩ := h1 hC
    exact ⟨hC, h3, h.below hB, hB⟩
end
structure Do3 where
 who : Int
 n : Int
 steps : List S72
def DoAt (w : World) (A : Option Addr) (l : List Do3) : Prop := ∀ k (h : k < l.length), ∃ ad A1 c1, A = some ad ∧ w.cell? (ad.add (k * 3)) = some (.int .i64 l[k].who) ∧ w.cell? ⟨(ad.add (k * 3)).block, (ad.add (k * 3)).off + 1, none⟩ = some (.int .i64 l[k].n) ∧ w.cell? ⟨(ad.add (k * 3)).block, (ad.add (k * 3)).off + 2, none⟩ = some (.slice A1 l[k].steps.length c1) ∧ Kd.C k72 w A1 l[k].steps.length l[k].steps
theorem DoAt.below {w w' : World} {A : Option Addr} {l : List Do3} (h : DoAt w A l) (hb : Below w.heap.size w w') : DoAt w' A l := fun k hk => by
 obtain ⟨ad, A1, c1, rfl, h0, h1, h2, h3⟩ := h k hk
 exact ⟨ad, A1, c1, rfl, (hb.cell (World.block_lt_of_cell? _ _ h0)).trans h0, (hb.cell (World.block_lt_of_cell? _ _ h1)).trans h1, (hb.cell (World.block_lt_of_cell? _ _ h2)).trans h2, Kd.C_below h3 hb⟩
structure Light (m : Int) (nm nl : Nat) (l : List Do3) : Prop where
 m1 : 1 ≤ m
 m2 : m ≤ 12
 nm8 : nm ≤ 8
 nl12 : nl ≤ 12
 do40 : l.length ≤ 40
 each : ∀ k (h : k < l.length), l[k].steps.length ≤ 12 ∧ l[k].n ≤ 200
set_option maxHeartbeats 4000000 in
set_option maxRecDepth 100000 in
theorem heavy_calls (m : Int) (Am : Option Addr) (nm cm : Nat) (Al : Option Addr) (nl cl : Nat) (A : Option Addr) (c : Nat) (l : List Do3) (w : World) (hd : DoAt w A l) (hmax : l.length ≤ 9223372036854775807) :
  Calls Tryz.prog 8 #[.int .i64 m, .slice Am nm cm, .slice Al nl cl, .slice A l.length c] w fun e w' => (e = .returned (.bool true) ∨ (e = .returned (.bool false) ∧ Light m nm nl l)) ∧ Below w.heap.size w w' := by
 have HT : Hid (∀ (e : Ending) (w' : World), e = .returned (.bool true) → Below w.heap.size w w' → (e = .returned (.bool true) ∨ (e = .returned (.bool false) ∧ Light m nm nl l)) ∧ Below w.heap.size w w') := Lib.hid (fun e w' h1 h2 => ⟨.inl h1, h2⟩)
 by_cases h1 : m < 1
 ·have g1 : decide (m < 1) = true := by simpa using h1
  go_enter Tryz.func8, Tryz.ntmps8
  go_wp2
  go_ret
  exact ⟨.inl rfl, Below.refl _ _⟩
 have g1 : decide (m < 1) = false := by simpa using h1
 by_cases h2 : m > 12
 ·have g2 : decide (m > 12) = true := by simpa using h2
  go_enter Tryz.func8, Tryz.ntmps8
  go_wp2
  go_ret
  exact ⟨.inl rfl, Below.refl _ _⟩
 have g2 : decide (m > 12) = false := by simpa using h2
 by_cases h3 : (nm : Int) > 8
 ·have g3 : decide ((nm : Int) > 8) = true := by simpa using h3
  go_enter Tryz.func8, Tryz.ntmps8
  go_wp2
  go_ret
  exact ⟨.inl rfl, Below.refl _ _⟩
 have g3 : decide ((nm : Int) > 8) = false := by simpa using h3
 by_cases h4 : (nl : Int) > 12
 ·have g4 : decide ((nl : Int) > 12) = true := by simpa using h4
  go_enter Tryz.func8, Tryz.ntmps8
  go_wp2
  go_ret
  exact ⟨.inl rfl, Below.refl _ _⟩
 have g4 : decide ((nl : Int) > 12) = false := by simpa using h4
 by_cases h5 : (l.length : Int) > 40
 ·have g5 : decide ((l.length : Int) > 40) = true := by simpa using h5
  go_enter Tryz.func8, Tryz.ntmps8
  go_wp2
  go_ret
  exact ⟨.inl rfl, Below.refl _ _⟩
 have g5 : decide ((l.length : Int) > 40) = false := by simpa using h5
 go_enter Tryz.func8, Tryz.ntmps8
 go_wp2
 go_loopw [9] (fun v9 wr => ∃ k : Nat, v9 = .int .i64 k ∧ k ≤ l.length ∧ wr = w ∧ Hid (∀ j (h : j < l.length), j < k → l[j].steps.length ≤ 12 ∧ l[j].n ≤ 200)) (fun v9 _ => l.length - (intOf v9).toNat)
 case atStart => exact ⟨0, rfl, Nat.zero_le _, rfl, Lib.hid (fun j _ h => by omega)⟩
 case round =>
  obtain ⟨k, rfl, hk, rfl, hpre⟩ := hrel
  by_cases hlt : k < l.length
  ·obtain ⟨ad, A1, c1, rfl, e0, e1, e2, hC⟩ := hd k hlt
   have k0 : (0 : Int) ≤ (k : Int) := Int.natCast_nonneg k
   have k1 : (k : Int) < (l.length : Int) := by omega
   have hw1 : IntKind.i64.wrap ((k : Int) + 1) = (k : Int) + 1 := by rw [i64_w]; unfold Go.RowKit.wrap64; omega
   by_cases h6 : (l[k].steps.length : Int) > 12
   ·have g6 : decide ((l[k].steps.length : Int) > 12) = true := by simpa using h6
    go_wp2
    go_ret
    exact ⟨.inl rfl, Below.refl _ _⟩
   ·have g6 : decide ((l[k].steps.length : Int) > 12) = false := by simpa using h6
    by_cases h7 : l[k].n > 200
    ·have g7 : decide (l[k].n > 200) = true := by simpa using h7
     go_wp2
     go_ret
     exact ⟨.inl rfl, Below.refl _ _⟩
    ·have g7 : decide (l[k].n > 200) = false := by simpa using h7
     have HN : Hid (∀ j (h : j < l.length), j < k + 1 → l[j].steps.length ≤ 12 ∧ l[j].n ≤ 200) := Lib.hid (fun j h hj => by
      by_cases e : j < k
      ·exact hpre.out j h e
      ·obtain rfl : j = k := by omega
       omega)
     go_wp2
     go_roundw
     case rel => exact ⟨k + 1, by go_num, by omega, by first | trivial | rfl, HN⟩
     case measure => simp [intOf]; omega
  ·obtain rfl : k = l.length := by omega
   have HL : Hid (Light m nm nl l) := Lib.hid ⟨by omega, by omega, by omega, by omega, by omega, fun j h => hpre.out j h h⟩
   go_wp2
   go_ret
   exact ⟨.inr ⟨by first | trivial | rfl, HL.out⟩, Below.refl _ _⟩
def opnd.T5 : Bool × List (List Nat × List Nat) := (true, [([], []), ([], []), ([], []), ([1, 2], [1, 2]), ([3], [3]), ([4], [4]), ([], []), ([], []), ([6, 7], [6, 7]), ([8], [8]), ([9], [9]), ([0, 5, 10], [0, 5, 10]), ([11], [11]), ([12], [12]), ([12], [12]), ([13, 11, 0, 1, 2, 3, 4, 5, 6, 7, 8, 9, 10, 11, 12, 13], [13]), ([14, 15, 0, 1, 2, 3, 4, 5, 6, 7, 8, 9, 10, 11, 12, 13, 14, 15], [14])])
def opnd.B5 : List Nat := [0, 0, 0, 6, 14, 30, 0, 0, 192, 448, 960, 2047, 4095, 8191, 8191, 16383, 65535]
theorem opnd.tab5 : rtab .any (opsOf Tryz.f10 5) = opnd.T5 := by kernel_rfl
theorem opnd.bits5 : waitsOk opnd.T5.2 opnd.B5 = true := by kernel_rfl
theorem info41 : (Tryz.prog.info? 41).map (fun i => (i.zero, i.size, i.bytes)) = some (some (.int .u32 0), 1, 4) := by kernel_rfl
def nameRows (n : Nat) : List (List Value) := (List.range n).map fun (i : Nat) => [.int .u32 (i : Int)]
theorem nameRows_len (n : Nat) : (nameRows n).length = n := by simp [nameRows]
theorem nameRows_succ (n : Nat) : nameRows (n + 1) = nameRows n ++ [[.int .u32 (n : Int)]] := by simp [nameRows, List.range_succ]
def openL (M : Int) : List S85 → List S157 → List S157
 | [], bk => bk
 | x :: xs, bk => openL M xs (if askC M bk x = 0 then bk ++ [⟨(bk.length : Int) + 1, x, -1⟩] else bk)
def servsOf (bk : List S157) : List S57 := bk.map fun e => newServ e.f0 e.f1.f0 e.f1.f1
theorem openL_take {M : Int} : ∀ {ps : List S85} {bk : List S157} {k : Nat} (h : k < ps.length), openL M (ps.take (k + 1)) bk = if askC M (openL M (ps.take k) bk) ps[k] = 0 then openL M (ps.take k) bk ++ [⟨((openL M (ps.take k) bk).length : Int) + 1, ps[k], -1⟩] else openL M (ps.take k) bk := by
 intro ps
 induction ps with
 | nil => intro bk k h; simp at h
 | cons x xs ih =>
  intro bk k h
  cases k with
  | zero => simp [openL]
  | succ k =>
   have h2 : k < xs.length := by simpa using h
   have := ih (bk := if askC M bk x = 0 then bk ++ [⟨(bk.length : Int) + 1, x, -1⟩] else bk) h2
   simpa [openL] using this
theorem openL_len {M : Int} : ∀ (ps : List S85) (bk : List S157), (openL M ps bk).length ≤ bk.length + ps.length := by
 intro ps
 induction ps with
 | nil => intro bk; simp [openL]
 | cons x xs ih =>
  intro bk
  unfold openL
  have := ih (if askC M bk x = 0 then bk ++ [⟨(bk.length : Int) + 1, x, -1⟩] else bk)
  split at this
  ·rw [List.length_append, List.length_singleton] at this
   rename_i h
   rw [if_pos h]
   simp only [List.length_cons]
   omega
  ·rename_i h
   rw [if_neg h]
   simp only [List.length_cons]
   omega
theorem Law.lt {w : World} {lab : Nat → Nat} {N : Nat} {M now c : Int} {wt : Nat → Int} {l : List S57} {q : List S63} {R : Nat → List Nat} {bk : List S157} {E : List (List Value)} {eb : Nat} (h : Law w lab N M now c wt l q R bk E eb) : ∀ b, lab b ≠ 0 → b < w.heap.size := by
 obtain ⟨r, hr⟩ := h.sys
 exact hr.lt
theorem Turn.onto {w w1 w2 : World} {S S' : Nat → Prop} (h : Turn w w1 S) (k : Turn w1 w2 S') (hS : ∀ b, S' b → S b ∨ w.heap.size ≤ b) : Turn w w2 S :=
 ⟨k.os.trans h.os, k.tape.trans h.tape, k.output.trans h.output, Nat.le_trans h.size k.size, fun b hb hn => (k.block b (Nat.lt_of_lt_of_le hb h.size) (fun e => (hS b e).elim hn (fun e => by omega))).trans (h.block b hb hn)⟩
set_option maxHeartbeats 4000000 in
set_option maxRecDepth 100000 in
theorem opened_calls (N : Nat) (lab : Nat → Nat) (M c : Int) (wt : Nat → Int) (q : List S63) (R : Nat → List Nat) (E : List (List Value)) (eb : Nat) (A : Option Addr) (cA : Nat) (ps : List S85) (w : World) (h : Law w lab N M 0 c wt [] q R [] E eb) (hc : 0 ≤ c) (W : World) (hp : Kd.C k85 W A ps.length ps) (hW : Below W.heap.size W w) (hlab : ∀ b, lab b ≠ 0 → W.heap.size ≤ b) (hl : ps.length ≤ 12) :
  Calls Tryz.prog 10 #[.pointer (some ⟨N, 0, none⟩), .slice A ps.length cA] w fun e w' => ∃ v lab', e = .returned v ∧ (Kd.raw 1).R 41 w' w.heap.size (fun _ => True) v (nameRows (openL M ps []).length) ∧ (∀ b, v.ownBlock = some b → lab' b = 0) ∧ Law w' lab' N M 0 c wt (servsOf (openL M ps [])) q R (openL M ps []) E eb ∧ Booked (servsOf (openL M ps [])) (openL M ps []) ∧ Grew w lab lab' ∧ Turn w w' (fun b => lab b ≠ 0) := by
 have HL0 := Lib.hid h
 have HP := Lib.hid hp
 have hNw : N < w.heap.size := by
  obtain ⟨r, hr⟩ := h.sys
  exact blk_lt hr.blk
 have HW := Lib.hid hW
 have HLAB := Lib.hid hlab
 have hWs := hW.size
 clear h hp hW hlab
 go_enter Tryz.func10, Tryz.ntmps10
 go_wp2
 go_loopw [5, 6] (fun v5 v6 wr => ∃ (k : Nat) (bk : List S157) (lab' : Nat → Nat), v6 = .int .i64 k ∧ k ≤ ps.length ∧ Hid (bk = openL M (ps.take k) []) ∧ Hid ((Kd.raw 1).R 41 wr w.heap.size (fun _ => True) v5 (nameRows bk.length)) ∧ Hid (∀ b, v5.ownBlock = some b → lab' b = 0) ∧ Hid (Law wr lab' N M 0 c wt (servsOf bk) q R bk E eb) ∧ Hid (Booked (servsOf bk) bk) ∧ Hid (Grew w lab lab') ∧ Hid (Turn w wr (fun b => lab b ≠ 0))) (fun _ v6 _ => ps.length - (intOf v6).toNat)
 case atStart => exact ⟨0, [], lab, rfl, Nat.zero_le _, Lib.hid rfl, Lib.hid (Kd.R_nil _ _ _ _ _), Lib.hid (fun b hb => by simp [Value.ownBlock] at hb), HL0, Lib.hid ⟨rfl, fun k hk => by simp at hk, fun k hk => by simp at hk⟩, Lib.hid (fun b hb => .inl hb), Lib.hid (Turn.refl _ _)⟩
 case round =>
  clear HL0
  obtain ⟨k, bk, lab', rfl, hk, HBK, HR, HV, HL, HBO, HG, HT⟩ := hrel
  by_cases hlt : k < ps.length
  ·have hsz := HT.out.size
   have hbr : Below W.heap.size W wr := Turn.below HW.out HT.out (fun b e => HLAB.out b e) hWs
   have hC := Kd.C_below HP.out hbr
   have hlb : bk.length ≤ 11 := by
    have := openL_len (M := M) (ps.take k) []
    rw [← HBK.out, List.length_take] at this
    simp at this
    omega
   have hsl : (servsOf bk).length = bk.length := by unfold servsOf; rw [List.length_map]
   have DO : ∀ wx, Below wr.heap.size wr wx → Calls Tryz.prog 18 #[.pointer (some ⟨N, 0, none⟩), .int .i64 ps[k].f0, .int .i64 ps[k].f1] wx fun e w' => ∃ x er, e = .returned (.tuple #[x, er]) ∧ ((∃ p, er = .iface 111 p) ∧ askC M bk ps[k] ≠ 0 ∧ Law w' lab' N M 0 c wt (servsOf bk) q R bk E eb ∧ Below wx.heap.size wx w' ∨ er = .nilIface ∧ x = .int .u32 bk.length ∧ askC M bk ps[k] = 0 ∧ (∃ lab2, Law w' lab2 N M 0 c wt (servsOf (bk ++ [⟨(bk.length : Int) + 1, ps[k], -1⟩])) q R (bk ++ [⟨(bk.length : Int) + 1, ps[k], -1⟩]) E eb ∧ Booked (servsOf (bk ++ [⟨(bk.length : Int) + 1, ps[k], -1⟩])) (bk ++ [⟨(bk.length : Int) + 1, ps[k], -1⟩]) ∧ Grew wx lab' lab2) ∧ Turn wx w' (fun b => lab' b ≠ 0)) := fun wx hb => (Law.opens (HL.out.below hb) HBO.out (by omega) hc ps[k].f0 ps[k].f1).mono fun e w' hh => by
    rcases hh with ⟨a0, ⟨p, rfl⟩, a1, a2⟩ | ⟨a0, rfl, ⟨lab2, a1, a2, a3⟩, a4⟩
    ·exact ⟨_, _, rfl, .inl ⟨⟨p, rfl⟩, a0, a1, a2⟩⟩
    ·refine ⟨_, _, rfl, .inr ⟨rfl, by rw [hsl], a0, ⟨lab2, ?_, ?_, a3⟩, a4⟩⟩
     ·rw [hsl] at a1
      unfold servsOf at a1 ⊢
      rw [List.map_append]
      exact a1
     ·rw [hsl] at a2
      unfold servsOf at a2 ⊢
      rw [List.map_append]
      exact a2
   obtain ⟨ad, rfl, c0, c1⟩ := at_T85 hC (k : Int) (by omega) (by omega)
   rw [Int.toNat_natCast] at c0 c1
   rw [show rd_T85 ps (k : Int) = ps[k] by simp [rd_T85, hlt]] at c0 c1
   have k0 : (0 : Int) ≤ (k : Int) := Int.natCast_nonneg k
   have k1 : (k : Int) < (ps.length : Int) := by omega
   go_upto_region 5 with fail
   refine start_ (n := 17) (S := fun w' => Hid (Below wr.heap.size wr w')) (ds := [11]) #[false, false, false, false, false, false, false, false, false, false, false, false, false, false, false, false, false] (by kernel_rfl) rfl rfl ((Lib.hid (below_drew (Below.refl _ _)))) (fun hHeld => ?_)
   refine with_tabW opnd.tab5 opnd.bits5 (fun HT_ HW_ => ?_)
   have hbd : Hid (Below wr.heap.size wr wr.drew) := Lib.hid ⟨rfl, rfl, rfl, Nat.le_refl _, fun _ _ => rfl⟩
   have hsd : wr.heap.size = wr.drew.heap.size := rfl
   generalize hwd : wr.drew = wd at *
   clear hwd
   refine pst (i := 0) (N := some 16) HT_ (h := ?_)
   refine pst (i := 1) (N := some 17) HT_ (h := ?_)
   refine pst (i := 2) (N := some 18) HT_ (h := ?_)
   refine pst (i := 3) (N := some 19) HT_ (h := ?_)
   refine pst (i := 4) (N := some 20) HT_ (h := ?_)
   refine pst (i := 6) (N := some 22) HT_ (h := ?_)
   refine pst (i := 7) (N := some 23) HT_ (h := ?_)
   refine pst (i := 8) (N := some 24) HT_ (h := ?_)
   refine pst (i := 9) (N := some 25) HT_ (h := ?_)
   refine tst (i := 5) (N := some 21) HT_ HW_ hHeld (hy := by (intro w' s0; have e0 := (s0.out.cell (World.block_lt_of_cell? _ _ c0)).trans c0; have e1 := (s0.out.cell (World.block_lt_of_cell? _ _ c1)).trans c1); go_simp; with_reducible rfl) (h := ?_)
   refine tst (i := 10) (N := some 26) HT_ HW_ hHeld (hy := by (intro w' s0; have e0 := (s0.out.cell (World.block_lt_of_cell? _ _ c0)).trans c0; have e1 := (s0.out.cell (World.block_lt_of_cell? _ _ c1)).trans c1); go_simp; with_reducible rfl) (h := ?_)
   refine last_ (i := 11) (N := some 27) #[true, true, true, true, true, true, true, true, true, true, true, true, false, false, false, false, false] rfl rfl (one_of HT_.out (by kernel_rfl)) (by decide) (fun K hK => ?_)
   refine goes_ Tryz.func18 (by kernel_rfl) rfl #[.pointer (some ⟨N, 0, none⟩), .int .i64 ps[k].f0, .int .i64 ps[k].f1] (by rfl) rfl rfl (by simp only [List.map_toArray, List.map_cons, List.map_nil]; rfl) ?_
   with_reducible refine (DO _ hHeld.out).mono ?_
   rintro e w4 ⟨x, er, rfl, hO⟩
   refine ⟨_, rfl, ?_⟩
   refine hK.out _ _ ?_
   clear hK K
   refine norm_ (a' := ?_) ?_ ?_
   rotate_left
   ·show Act.put _ (some 27) _ = _
    simp only [Act.put, List.setIfInBounds_toArray, List.set_cons_zero, List.set_cons_succ, i64_w, i32_w]
    rfl
   refine pst (i := 12) (N := some 15) HT_ (h := ?_)
   refine pst (i := 13) (N := some 28) HT_ (h := ?_)
   refine pst (i := 14) (N := some 29) HT_ (h := ?_)
   refine pst (i := 15) (N := some 7) HT_ (h := ?_)
   refine pst (i := 16) (N := some 8) HT_ (h := ?_)
   refine done_ (done_of HT_.out (by kernel_rfl)) ?_
   have hot := openL_take (M := M) (bk := []) hlt
   rw [← HBK.out] at hot
   have hw1 : IntKind.i64.wrap ((k : Int) + 1) = (k : Int) + 1 := by rw [i64_w]; unfold Go.RowKit.wrap64; omega
   have hB4 : Below W.heap.size W wd := hbr.trans (hbd.out.mono hbr.size)
   have hTd : Turn w wd (fun b => lab b ≠ 0) := HT.out.trans (Turn.of_below _ hbd.out)
   have HRd := Lib.hid (Kd.R_below HR.out hbd.out)
   have hgl : ∀ b, lab' b ≠ 0 → lab b ≠ 0 ∨ w.heap.size ≤ b := HG.out
   have hsd2 := hTd.size
   clear HT_ HW_ hHeld
   rcases hO with ⟨⟨p, rfl⟩, a0, a1, a2⟩ | ⟨rfl, rfl, a0, ⟨lab2, a1, a2, a3⟩, a4⟩
   ·rw [if_neg a0] at hot
    have HOT := Lib.hid hot
    have HL4 := Lib.hid a1
    have HT4 := Lib.hid (hTd.trans (Turn.of_below _ a2))
    have HR4 := Lib.hid (Kd.R_below HRd.out a2)
    clear a0 a1 a2 hot HL HR HT
    go_wp2
    go_roundw
    case rel => exact ⟨k + 1, bk, lab', by go_num, by omega, Lib.hid HOT.out.symm, HR4, HV, HL4, HBO, HG, HT4⟩
    case measure => simp [intOf]; omega
   ·rw [if_pos a0] at hot
    have HOT := Lib.hid hot
    have HL4 := Lib.hid a1
    have HBO4 := Lib.hid a2
    have HG4 := Lib.hid a3
    have HT4w := Lib.hid a4
    have hT4s := a4.size
    have HR4 := Lib.hid (raw_turn HRd.out a4 (fun b hb e => e (HV.out b hb)))
    have HVlt : Hid (∀ b, u5.ownBlock = some b → b < wd.heap.size) := Lib.hid (fun b hb => Kd.R_lt HRd.out b hb)
    have hlr : (nameRows bk.length).length ≤ 12 := by rw [nameRows_len]; omega
    clear a0 a1 a2 a3 a4 hot HL HR HT
    have hws4 : w.heap.size ≤ w4.heap.size := by omega
    have hnrs := nameRows_succ bk.length
    obtain ⟨rows, hrows⟩ : ∃ rows, rows = nameRows bk.length := ⟨_, rfl⟩
    rw [← hrows] at HR4 hlr hnrs
    have HNRS := Lib.hid hnrs
    clear hrows hnrs
    go_upto_region 4 with ((with_reducible refine gate_builtin (b := .append) (xs := #[.tmp 32, .tmp 34]) rfl ?_); at_builtin; refine Kd.R_append (Kd.raw 1) (w0 := w4) w.heap.size rfl (.tmp 32) (.tmp 34) 32 41 (.int .u32 0) 4 rfl Tryz.underlying32 info41 rfl (by decide) (by omega) u5 rows [.int .u32 (bk.length : Int)] [.int .u32 (bk.length : Int)] (fun _ => True) (fun _ => False) rfl (by first | (go_simp; done) | (go_simp; rfl)) ?aP (fun _ hk => hk.elim) ?aF ?aO ?aB ?aS ?aL ?_; (case aP => exact ⟨rfl, rfl, fun u hu => by (rcases List.mem_singleton.1 hu with rfl; rfl)⟩); (case aF => exact (fun _ _ => trivial)); (case aO => exact HR4.out); (case aB => exact Below.refl _ _); (case aS => exact hws4); (case aL => omega); intro v5 w5 hR5 hB5 hg5 hat5; have HR5 := Lib.hid hR5; have HT5 := Lib.hid (grown_turn hg5); have HAT5 := Lib.hid hat5; clear hR5 hB5 hg5 hat5)
    have hown : ∀ b, u5.ownBlock = some b → lab2 b = 0 ∧ w.heap.size ≤ b := fun b hb => by
     refine ⟨Classical.byContradiction (fun e => ?_), Kd.R_base HR4.out b hb⟩
     rcases HG4.out b e with h | h
     ·exact h (HV.out b hb)
     ·have := HVlt.out b hb; omega
    have HL5 : Hid (Law w5 lab2 N M 0 c wt (servsOf (bk ++ [⟨(bk.length : Int) + 1, ps[k], -1⟩])) q R (bk ++ [⟨(bk.length : Int) + 1, ps[k], -1⟩]) E eb) := Lib.hid (HL4.out.turn HT5.out (fun b e => (hown b e.symm).1))
    have HT5w : Hid (Turn w w5 (fun b => lab b ≠ 0)) := Lib.hid ((hTd.onto HT4w.out (fun b e => hgl b e)).onto HT5.out (fun b e => .inr (hown b e.symm).2))
    have HG5 : Hid (Grew w lab lab2) := Lib.hid (fun b hb => by
     rcases HG4.out b hb with h | h
     ·exact hgl b h
     ·right; omega)
    have HV5 : Hid (∀ b, v5.ownBlock = some b → lab2 b = 0) := Lib.hid (fun b hb => by
     rcases HAT5.out with h | ⟨b2, h, hle⟩
     ·exact (hown b (h ▸ hb)).1
     ·rw [h] at hb
      injection hb with hb
      exact Classical.byContradiction (fun e => by have := HL4.out.lt b e; omega))
    have HR6 : Hid ((Kd.raw 1).R 41 w5 w.heap.size (fun _ => True) v5 (nameRows (bk ++ [(⟨(bk.length : Int) + 1, ps[k], -1⟩ : S157)]).length)) := Lib.hid (by
     rw [List.length_append, List.length_singleton, HNRS.out]
     exact HR5.out)
    clear HR4 HL4 HT4w HG4 HR5 HT5 HAT5 HRd HVlt hown
    go_wp2
    go_roundw
    case rel => exact ⟨k + 1, bk ++ [⟨(bk.length : Int) + 1, ps[k], -1⟩], lab2, by go_num, by omega, Lib.hid HOT.out.symm, HR6, HV5, HL5, HBO4, HG5, HT5w⟩
    case measure => simp [intOf]; omega
  ·obtain rfl : k = ps.length := by omega
   have HEQ := HBK.out
   rw [List.take_length] at HEQ
   subst HEQ
   go_wp2
   go_ret
   exact ⟨u5, lab', rfl, HR.out, HV.out, HL.out, HBO.out, HG.out, HT.out⟩
def numRows (n : Nat) (f : Nat → Int) : List (List Value) := (List.range n).map fun (j : Nat) => [.int .i64 (f j)]
theorem numRows_len (n : Nat) (f : Nat → Int) : (numRows n f).length = n := by simp [numRows]
theorem numRows_get {n : Nat} {f : Nat → Int} {k : Nat} (h : k < n) {hh : k < (numRows n f).length} : (numRows n f)[k] = [.int .i64 (f k)] := by simp [numRows]
theorem numRows_set {n : Nat} {f g : Nat → Int} {k : Nat} (hk : k < n) {u : Value} (hu : u = .int .i64 (g k)) (hg : ∀ j, j < n → j ≠ k → g j = f j) {hh : k < (numRows n f).length} : (numRows n f).set k ((numRows n f)[k].set 0 u) = numRows n g := by
 apply List.ext_getElem
 ·rw [List.length_set, numRows_len, numRows_len]
 ·intro j h1 h2
  have hj : j < n := by rw [numRows_len] at h2; exact h2
  rw [List.getElem_set, numRows_get hj]
  by_cases e : k = j
  ·subst e; rw [if_pos rfl, numRows_get hk, hu, numRows_get hk]; rfl
  ·rw [if_neg e, numRows_get hj, hg j hj (fun e2 => e e2.symm)]
theorem num_zero68 : Tryz.zeroCells68 = ((numRows 300 (fun _ => 0)).flatten).toArray := by kernel_rfl
theorem num_new68 (w : World) : RowAt (w.alloc (.cells Tryz.zeroCells68 68)) w.heap.size 0 1 68 (numRows 300 (fun _ => 0)) := by
 refine ⟨fun x hx => ?_, [], [], rfl, ?_⟩
 ·obtain ⟨k, hk, rfl⟩ := List.mem_iff_getElem.1 hx
  rw [numRows_get (by rw [numRows_len] at hk; exact hk)]
  rfl
 ·rw [blk_new, num_zero68, List.nil_append, List.append_nil]
structure WSt (W w : World) (lab : Nat → Nat) (N : Nat) (M now c : Int) (wt : Nat → Int) (l : List S57) (q : List S63) (R : Nat → List Nat) (bk : List S157) (E : List (List Value)) (eb Nw : Nat) (vN : Value) (b0 : Nat) (wv : Nat → Int) : Prop where
 law : Law w lab N M now c wt l q R bk E eb
 llen : l.length = bk.length
 names : (Kd.raw 1).R 41 w b0 (fun _ => True) vN (nameRows bk.length)
 nlab : ∀ b, vN.ownBlock = some b → lab b = 0 ∧ b ≠ Nw
 row : RowAt w Nw 0 1 68 (numRows 300 wv)
 rlab : lab Nw = 0
 wtw : ∀ k, k < l.length → wt k = wv (k + 1)
 zero : ∀ k, k < l.length → (at_ l k).f3 ≠ 1 → wt k = 0
 bel : Below W.heap.size W w
 labW : ∀ b, lab b ≠ 0 → W.heap.size ≤ b
 nwW : W.heap.size ≤ Nw
 pos : ∀ j, 0 ≤ wv j
section
variable {W w w' : World} {lab lab' : Nat → Nat} {N : Nat} {M now c : Int} {wt : Nat → Int} {l l' : List S57} {q q' : List S63} {R R' : Nat → List Nat} {bk : List S157} {E E' : List (List Value)} {eb eb' Nw b0 : Nat} {vN : Value} {wv : Nat → Int}
theorem grew_zero (hg : Grew w lab lab') {b : Nat} (h : lab b = 0) (hlt : b < w.heap.size) : lab' b = 0 :=
 Classical.byContradiction (fun e => (hg b e).elim (fun h2 => h2 h) (fun h2 => by omega))
theorem WSt.below (h : WSt W w lab N M now c wt l q R bk E eb Nw vN b0 wv) (hb : Below w.heap.size w w') : WSt W w' lab N M now c wt l q R bk E eb Nw vN b0 wv :=
 ⟨h.law.below hb, h.llen, Kd.R_below h.names hb, h.nlab, h.row.below hb, h.rlab, h.wtw, h.zero, h.bel.trans (hb.mono h.bel.size), h.labW, h.nwW, h.pos⟩
theorem WSt.rel (h : WSt W w lab N M now c wt l q R bk E eb Nw vN b0 wv) (hL : Law w' lab' N M now (c + 1) wt l' q R bk E' eb') (hl : l'.length = l.length) (h3 : ∀ k, k < l.length → (at_ l' k).f3 = (at_ l k).f3) (hg : Grew w lab lab') (hT : Turn w w' (fun b => lab b ≠ 0)) : WSt W w' lab' N M now (c + 1) wt l' q R bk E' eb' Nw vN b0 wv where
 law := hL
 llen := hl.trans h.llen
 names := raw_turn h.names hT (fun b hb e => e (h.nlab b hb).1)
 nlab := fun b hb => ⟨grew_zero hg (h.nlab b hb).1 (Kd.R_lt h.names b hb), (h.nlab b hb).2⟩
 row := h.row.turn hT (fun e => e h.rlab)
 rlab := grew_zero hg h.rlab h.row.lt
 wtw := fun k hk => h.wtw k (by omega)
 zero := fun k hk e => h.zero k (by omega) (by rw [← h3 k (by omega)]; exact e)
 bel := Turn.below h.bel hT (fun b e => h.labW b e) h.bel.size
 labW := fun b hb => (hg b hb).elim (h.labW b) (fun e => Nat.le_trans h.bel.size e)
 nwW := h.nwW
 pos := h.pos
def wvK (l' : List S57) (wv : Nat → Int) (k : Nat) (j : Nat) : Int := if 1 ≤ j ∧ j ≤ k then (if (at_ l' (j - 1)).f3 = 1 then wv j + 1 else 0) else wv j
theorem wvK_zero (l' : List S57) (wv : Nat → Int) : wvK l' wv 0 = wv := by
 funext j
 unfold wvK
 rw [if_neg (by omega)]
theorem wvK_ne {l' : List S57} {wv : Nat → Int} {k j : Nat} (h : j ≠ k + 1) : wvK l' wv (k + 1) j = wvK l' wv k j := by
 unfold wvK
 by_cases h1 : 1 ≤ j ∧ j ≤ k
 ·rw [if_pos h1, if_pos (by omega)]
 ·rw [if_neg h1, if_neg (by omega)]
theorem wvK_at {l' : List S57} {wv : Nat → Int} {k : Nat} : wvK l' wv (k + 1) (k + 1) = (if (at_ l' k).f3 = 1 then wv (k + 1) + 1 else 0) ∧ wvK l' wv k (k + 1) = wv (k + 1) := by
 unfold wvK
 exact ⟨if_pos (by omega), if_neg (by omega)⟩
theorem WSt.go (h : WSt W w lab N M now c wt l q R bk E eb Nw vN b0 wv) {w1 w2 w3 : World} (hL : Law w1 lab' N M (now + 1) c (fun k => wt k + 1) l' q' R' bk E' eb') (hl : l'.length = l.length) (hg : Grew w lab lab') (hT : Turn w w1 (fun b => lab b ≠ 0)) (hB : Below w1.heap.size w1 w2) (hT2 : Turn w2 w3 (fun b => b = Nw)) (hrow : RowAt w3 Nw 0 1 68 (numRows 300 (wvK l' wv l'.length))) : WSt W w3 lab' N M (now + 1) c (fun k => if (at_ l' k).f3 = 1 then wt k + 1 else 0) l' q' R' bk E' eb' Nw vN b0 (wvK l' wv l'.length) := by
 have hz := grew_zero hg h.rlab h.row.lt
 have hs1 := hT.size
 have hs2 := hB.size
 refine ⟨((hL.below hB).turn hT2 (fun b e => by rw [e]; exact hz)).more (Int.le_refl _) (fun k => ?_) (Nat.le_refl _), hl.trans h.llen, ?_, fun b hb => ⟨grew_zero hg (h.nlab b hb).1 (Kd.R_lt h.names b hb), (h.nlab b hb).2⟩, hrow, hz, fun k hk => ?_, fun k hk e => if_neg e, ?_, fun b hb => (hg b hb).elim (h.labW b) (fun e => Nat.le_trans h.bel.size e), h.nwW, fun j => ?_⟩
 ·by_cases e : (at_ l' k).f3 = 1
  ·left; rw [if_pos e]; exact Int.le_refl _
  ·right
   intro n hn
   cases hR : R' n with
   | nil => rw [hR] at hn; simp at hn
   | cons a r =>
    rw [hR] at hn
    exact e ((hL.inv.rows.first n a r hR).2 k hn)
 ·exact raw_turn (Kd.R_below (raw_turn h.names hT (fun b hb e => e (h.nlab b hb).1)) hB) hT2 (fun b hb e => (h.nlab b hb).2 e)
 ·have h1 := h.wtw k (by omega)
  unfold wvK
  rw [if_pos (show 1 ≤ k + 1 ∧ k + 1 ≤ l'.length by omega), Nat.add_sub_cancel, h1]
 ·have h1 := Turn.below h.bel hT (fun b e => h.labW b e) h.bel.size
  exact Turn.below (h1.trans (hB.mono h1.size)) hT2 (fun b e => by rw [e]; exact h.nwW) (by have := h.bel.size; omega)
 ·have := h.pos j
  unfold wvK
  repeat' split
  all_goals omega
theorem Inv.holds (h : Inv M now c wt noD l q R) {k : Nat} (hk : k < l.length) (h3 : (at_ l k).f3 = 2) : 1 ≤ (at_ l k).f1.f2 ∧ now < (at_ l k).f1.f3 ∧ (at_ l k).f1.f4 = 1 := by
 have h0 : (at_ l k).f3 ≠ 0 := by rw [h3]; decide
 obtain ⟨n, hn, hm, ht⟩ := h.fixed_due hk h0
 have h1 := ht (fun _ _ _ => id)
 have h2 := ((h.serv k hk).secm h0).2 (by omega)
 exact ⟨by omega, h1.1, h2⟩
theorem Inv.queued (h : Inv M now c wt noD l q R) {k n z : Nat} (hk : k < l.length) (hn : n < q.length) (hz : z < q[n].f2.length) (e : q[n].f2[z] = (at_ l k).f0) : wt k ≤ (M - 1) * q[n].f0 := by
 have hids := h.rows.ids n hn
 have hq1 : q[n].f1 ≠ 0 := fun e2 => by
  have := h.rows.hold0 n hn e2
  rw [this] at hz
  simp at hz
 rw [if_neg hq1] at hids
 cases hR : R n with
 | nil => rw [hR] at hids; simp at hids
 | cons a r =>
  rw [hR, List.map_cons, List.cons.injEq] at hids
  have hlen : q[n].f2.length = r.length := by rw [hids.2, List.length_map]
  have hzr : z < r.length := by omega
  have e2 : (at_ l r[z]).f0 = (at_ l k).f0 := by
   rw [← e]
   have : q[n].f2[z] = (r.map (fun k => (at_ l k).f0))[z]'(by rw [List.length_map]; exact hzr) := by simp only [hids.2]
   rw [this, List.getElem_map]
  have hmem := (h.rows.mem n r[z]).1 (by rw [hR]; exact List.mem_cons_of_mem _ (List.getElem_mem hzr))
  have e3 : r[z] = k := by
   rcases Nat.lt_trichotomy r[z] k with h1 | h1 | h1
   ·have := sorted_at.1 h.sane.sorted _ _ h1 hk
    omega
   ·exact h1
   ·have := sorted_at.1 h.sane.sorted _ _ h1 hmem.1
    omega
  have h1 := h.rows.wait n hn z k (by rw [hR, List.getElem?_cons_succ, List.getElem?_eq_getElem hzr, e3])
  rw [hR] at h1
  simp only [List.headD_cons] at h1
  have h2 := (h.rows.most n hn a r hR).1
  have hq := h.qmost n hn
  have h3 : 0 ≤ (z : Int) * q[n].f0 := Int.mul_nonneg (by omega) (by omega)
  omega
theorem Inv.found (h : Inv M now c wt noD l q R) {k : Nat} (hk : k < l.length) (h3 : (at_ l k).f3 = 1) : ∃ n, ∃ (hn : n < q.length), ∃ z, ∃ (hz : z < q[n].f2.length), q[n].f2[z] = (at_ l k).f0 := by
 obtain ⟨n, hn, hm, _⟩ := h.fixed_due hk (by rw [h3]; decide)
 refine ⟨n, hn, ?_⟩
 cases hR : R n with
 | nil => rw [hR] at hm; simp at hm
 | cons a r =>
  have hf := h.rows.first n a r hR
  rw [hR] at hm
  rcases List.mem_cons.1 hm with rfl | hr
  ·rw [hf.1] at h3; exact absurd h3 (by decide)
  ·have hids := h.rows.ids n hn
   by_cases e : q[n].f1 = 0
   ·rw [if_pos e, hR] at hids; simp at hids
   ·rw [if_neg e, hR, List.map_cons, List.cons.injEq] at hids
    obtain ⟨z, hz, e2⟩ := List.mem_iff_getElem.1 hr
    have hlen : q[n].f2.length = r.length := by rw [hids.2, List.length_map]
    refine ⟨z, by omega, ?_⟩
    have : q[n].f2[z]'(by omega) = (r.map (fun k => (at_ l k).f0))[z]'(by rw [List.length_map]; exact hz) := by simp only [hids.2]
    rw [this, List.getElem_map, e2]
end
def waits.T14 : Bool × List (List Nat × List Nat) := (true, [([], []), ([], []), ([], []), ([], []), ([2, 3], [2, 3]), ([4], [4]), ([5], [5]), ([], []), ([7], [7]), ([6, 8], [6, 8]), ([1, 9], [1, 9]), ([10], [10]), ([], []), ([], []), ([12, 13], [12, 13]), ([14], [14]), ([15], [15]), ([0, 11, 16], [0, 11, 16])])
def waits.B14 : List Nat := [0, 0, 0, 0, 12, 28, 60, 0, 128, 508, 1022, 2046, 0, 0, 12288, 28672, 61440, 131071]
theorem waits.tab14 : rtab .any (opsOf Tryz.f6 14) = waits.T14 := by kernel_rfl
theorem waits.bits14 : waitsOk waits.T14.2 waits.B14 = true := by kernel_rfl
def waits.T39 : Bool × List (List Nat × List Nat) := (true, [([], []), ([0], [0]), ([], []), ([1, 2], [1, 2]), ([3], [3]), ([4], [4]), ([], []), ([5, 6], [5, 6]), ([7], [7]), ([], []), ([9], [9]), ([8, 10], [8, 10])])
def waits.B39 : List Nat := [0, 1, 0, 7, 15, 31, 0, 127, 255, 0, 512, 2047]
theorem waits.tab39 : rtab .any (opsOf Tryz.f6 39) = waits.T39 := by kernel_rfl
theorem waits.bits39 : waitsOk waits.T39.2 waits.B39 = true := by kernel_rfl
def waits.T40 : Bool × List (List Nat × List Nat) := (true, [([], []), ([0], [0]), ([1], [1]), ([2], [2]), ([], []), ([4], [4]), ([], []), ([6], [6]), ([], []), ([7, 8], [7, 8]), ([9], [9]), ([10], [10]), ([5, 11], [5, 11]), ([3, 12], [3, 12]), ([13, 0, 1, 2, 3, 4, 5, 6, 7, 8, 9, 10, 11, 12, 13], [13])])
def waits.B40 : List Nat := [0, 1, 3, 7, 0, 16, 0, 64, 0, 448, 960, 1984, 4080, 8191, 16383]
theorem waits.tab40 : rtab .any (opsOf Tryz.f6 40) = waits.T40 := by kernel_rfl
theorem waits.bits40 : waitsOk waits.T40.2 waits.B40 = true := by kernel_rfl
def fndQ (q : List S63) (id : Int) (n : Nat) : Bool := (q.take n).any (fun y => y.f2.contains id)
theorem fndQ_succ {q : List S63} {id : Int} {n : Nat} (hn : n < q.length) : fndQ q id (n + 1) = (fndQ q id n || q[n].f2.contains id) := by
 unfold fndQ
 rw [List.take_succ_eq_append_getElem hn, List.any_append]
 simp
theorem takeC_succ {l : List Int} {id : Int} {z : Nat} (hz : z < l.length) : (l.take (z + 1)).contains id = ((l.take z).contains id || (l[z] == id)) := by
 have h1 : ∀ (a b : List Int), (a ++ b).contains id = (a.contains id || b.contains id) := fun a b => by
  rw [Bool.eq_iff_iff]
  simp
 have h2 : [l[z]].contains id = (l[z] == id) := by
  by_cases e : id = l[z]
  ·rw [e]; simp
  ·have e2 : ¬ l[z] = id := fun h => e h.symm
   have e3 : (l[z] == id) = false := by simpa using e2
   rw [e3]
   simpa using e
 rw [List.take_succ_eq_append_getElem hz, h1, h2]
theorem name_at {w : World} {b0 n cN : Nat} {AN : Option Addr} (h : (Kd.raw 1).R 41 w b0 (fun _ => True) (.slice AN n cN) (nameRows n)) {t : Nat} (ht : t < n) : ∃ an, AN = some an ∧ w.cell? (an.add t) = some (.int .u32 (t : Int)) := by
 obtain ⟨A5, c5, e5, hc5, hC5⟩ := Kd.R_reads h
 rw [nameRows_len] at e5 hC5
 injection e5 with e6 e7 e8
 subst e6 e8
 obtain ⟨an, hAN, hcn⟩ := hC5.2.2 (by omega)
 refine ⟨an, hAN, ?_⟩
 obtain ⟨cs, hl, hK, hcell⟩ := hcn t [.int .u32 (t : Int)] (by simp [nameRows, ht])
 have e : cs = [.int .u32 (t : Int)] := by first | exact hK.1 | exact hK.1.symm
 subst e
 have := hcell 0 _ rfl
 rw [show t * (Kd.raw 1).sz + 0 = t from by show t * 1 + 0 = t; omega] at this
 exact this
set_option maxHeartbeats 4000000 in
set_option maxRecDepth 100000 in
theorem waits_calls (m : Int) (Am : Option Addr) (cm : Nat) (ms : List Int) (Al : Option Addr) (cl : Nat) (ps : List S85) (A : Option Addr) (c : Nat) (dos : List Do3) (w : World) (hm : (Kd.int .i64).C w Am ms.length ms) (hp : Kd.C k85 w Al ps.length ps) (hd : DoAt w A dos) (hmax : dos.length ≤ 9223372036854775807) :
  Calls Tryz.prog 6 #[.int .i64 m, .slice Am ms.length cm, .slice Al ps.length cl, .slice A dos.length c] w fun e w' => e = .returned (.bool true) ∧ Below w.heap.size w w' := by
 have DA := awake_calls w
 have DH := fun wx (hb : Below w.heap.size w wx) => (heavy_calls m Am ms.length cm Al ps.length cl A c dos wx (hd.below hb) hmax).mono (fun e w' h => (by
  rcases h with ⟨h | ⟨h, hL⟩, hB⟩
  ·exact ⟨true, h, (fun e => by cases e), hB⟩
  ·exact ⟨false, h, fun _ => hL, hB⟩ : ∃ b : Bool, e = .returned (.bool b) ∧ (b = false → Light m ms.length ps.length dos) ∧ Below wx.heap.size wx w'))
 go_enter Tryz.func6, Tryz.ntmps6
 go_upto_region 3 with (go_at_call 7; (with_reducible refine DA.mono ?_); rintro e w1 ⟨rfl, hB1⟩; have HB1 := Lib.hid hB1; clear hB1)
 go_upto_if 27 with (go_at_call 8; (with_reducible refine (DH _ HB1.out).mono ?_); rintro e w2 ⟨b, rfl, hb, hB2⟩; have HB2 := Lib.hid (HB1.out.trans (hB2.mono HB1.out.size)); have HLT := Lib.hid hb; clear hB2 hb)
 cases b with
 | true =>
  go_wp2
  go_ret
  exact ⟨by first | trivial | rfl, HB2.out⟩
 | false =>
  obtain ⟨m1, m2, nm8, nl12, do40, hea⟩ := HLT.out rfl
  have HEA := Lib.hid hea
  clear hea HLT
  have DN := snew_calls m Am cm ms w2 (Kd.C_below hm HB2.out) m1 (by omega) nm8
  by_cases hok : newB_ok m ms = true
  ·have DN := DN.mono (fun e w' h => h.1 hok)
   have HOK := Lib.hid hok
   clear hok
   go_upto_region 8 with (go_at_call 9; (with_reducible refine DN.mono ?_); rintro e w3 ⟨N, lab, rfl, hS, hB3, hl3⟩; have HS := Lib.hid hS; have HB3 := Lib.hid hB3; have HL3 := Lib.hid hl3; clear hS hB3 hl3)
   clear DN DA DH
   have HB3w := Lib.hid (HB2.out.trans (HB3.out.mono HB2.out.size))
   have hs2 := HB2.out.size
   have hlaw : Law w3 lab N m 0 0 (fun _ => 0) [] (ms.map lockOf) (fun _ => []) [] [] 0 := ⟨HS.out, Inv.new HOK.out _, fun k hk => by simp at hk, Nat.le_refl _⟩
   have DO := opened_calls N lab m 0 (fun _ => 0) (ms.map lockOf) (fun _ => []) [] 0 Al cl ps w3 hlaw (by decide) w hp HB3w.out (fun b hb => by have := HL3.out b hb; omega) nl12
   clear hlaw
   go_upto_region 9 with (go_at_call 10; (with_reducible refine DO.mono ?_); rintro e w4 ⟨vN, lab4, rfl, hR4, hV4, hL4, hBO4, hG4, hT4⟩; have HR4 := Lib.hid hR4; have HV4 := Lib.hid hV4; have HL4 := Lib.hid hL4; have HBO4 := Lib.hid hBO4; have HG4 := Lib.hid hG4; have HT4 := Lib.hid hT4; clear hR4 hV4 hL4 hBO4 hG4 hT4)
   clear DO
   have hsl : (servsOf (openL m ps [])).length = (openL m ps []).length := by unfold servsOf; rw [List.length_map]
   have hs3 := HB3w.out.size
   have hs4 := HT4.out.size
   have hnbk : (openL m ps []).length ≤ 12 := by have := openL_len (M := m) ps []; simp at this; omega
   generalize openL m ps [] = bk at *
   obtain ⟨AN, cN, hvN⟩ := Kd.R_slice HR4.out
   rw [nameRows_len] at hvN
   subst hvN
   have HW5 : Hid (WSt w (w4.alloc (.cells Tryz.zeroCells68 68)) lab4 N m 0 0 (fun _ => 0) (servsOf bk) (ms.map lockOf) (fun _ => []) bk [] 0 w4.heap.size (.slice AN bk.length cN) w3.heap.size (fun _ => 0)) := Lib.hid (by
    have hb := below_alloc (Below.refl w4.heap.size w4) (.cells Tryz.zeroCells68 68)
    have hlt : ∀ b, lab4 b ≠ 0 → b < w4.heap.size := HL4.out.lt
    refine ⟨HL4.out.below hb, hsl, Kd.R_below HR4.out hb, fun b e => ⟨HV4.out b e, fun e2 => by have := Kd.R_lt HR4.out b e; omega⟩, num_new68 w4, Classical.byContradiction (fun e => by have := hlt _ e; omega), fun _ _ => rfl, fun _ _ _ => rfl, ?_, fun b hb2 => ?_, by omega, fun _ => Int.le_refl _⟩
    ·have h1 := Turn.below HB3w.out HT4.out (fun b e => by have := HL3.out b e; omega) hs3
     exact h1.trans (hb.mono h1.size)
    ·rcases HG4.out b hb2 with h | h
     ·have := HL3.out b h; omega
     ·omega)
   go_upto_region 10 with fail
   have hNw : w4.heap.size < (w4.alloc (.cells Tryz.zeroCells68 68)).heap.size := by simp
   generalize hw5 : World.alloc _ _ = w5 at *
   generalize hNwe : w4.heap.size = Nw at *
   clear hw5 hNwe HS HB3 HL3 HOK HR4 HV4 HL4 HBO4 HG4 HT4 HB3w hs2 hs3 hs4 HB1 HB2
   obtain ⟨b0, hb0⟩ : ∃ b0, b0 = w3.heap.size := ⟨_, rfl⟩
   rw [← hb0] at HW5
   clear hb0
   go_wp2
   go_loopw [13] (fun v13 wr => ∃ (i : Nat) (now : Int) (lab : Nat → Nat) (wt : Nat → Int) (l : List S57) (q : List S63) (R : Nat → List Nat) (E : List (List Value)) (wv : Nat → Int), v13 = .int .i64 i ∧ i ≤ dos.length ∧ now ≤ 200 * (i : Int) ∧ Hid (WSt w wr lab N m now (i : Int) wt l q R bk E (200002 * i) Nw (.slice AN bk.length cN) b0 wv)) (fun v13 _ => dos.length - (intOf v13).toNat)
   case atStart => exact ⟨0, 0, _, _, _, _, _, _, _, rfl, Nat.zero_le _, by omega, by simpa using HW5⟩
   case round =>
    clear HW5
    obtain ⟨i, now, lab, wt, l, q, R, E, wv, rfl, hi, hnow, HW⟩ := hrel
    have hw1 : IntKind.i64.wrap ((i : Int) + 1) = (i : Int) + 1 := by rw [i64_w]; unfold Go.RowKit.wrap64; omega
    by_cases hlt : i < dos.length
    ·have HD := Lib.hid (hd.below HW.out.bel)
     obtain ⟨ad, A1, c1, rfl, c0, c1', c2, hC⟩ := HD.out i hlt
     have HC := Lib.hid hC
     have k0 : (0 : Int) ≤ (i : Int) := Int.natCast_nonneg i
     have k1 : (i : Int) < (dos.length : Int) := by omega
     clear hC
     go_upto_region 13 with fail
     go_cut [55] from 39 to 188 (fun v55 wx => v55 = .bool (decide (0 < bk.length ∧ 0 ≤ dos[i].who)) ∧ wx = wr)
     case first =>
      by_cases h1 : 0 < bk.length
      ·have g1 : decide ((bk.length : Int) > 0) = true := by simpa using h1
       by_cases h2 : 0 ≤ dos[i].who
       ·have g2 : decide (dos[i].who ≥ 0) = true := by simpa using h2
        go_wp2
        go_meet
        exact ⟨by simp [h1, h2], rfl⟩
       ·have g2 : decide (dos[i].who ≥ 0) = false := by simpa using h2
        go_wp2
        go_meet
        exact ⟨by simp [h1, h2], rfl⟩
      ·have g1 : decide ((bk.length : Int) > 0) = false := by simpa using h1
       go_wp2
       go_meet
       exact ⟨by simp [h1], rfl⟩
     case rest =>
      obtain ⟨rfl, rfl⟩ := hcut
      go_upto_if 55 with fail
      go_cut [13] from 39 to 188 (fun v13 wx => v13 = .int .i64 i ∧ ∃ (lab' : Nat → Nat) (l' : List S57) (E' : List (List Value)), Hid (WSt w wx lab' N m now ((i + 1 : Nat) : Int) wt l' q R bk E' (200002 * i + 2) Nw (.slice AN bk.length cN) b0 wv))
      case first =>
       by_cases hcd : 0 < bk.length ∧ 0 ≤ dos[i].who
       ·have hb1 : (0 : Int) < (bk.length : Int) := by omega
        obtain ⟨t, ht⟩ : ∃ t : Nat, dos[i].who.tmod (bk.length : Int) = (t : Int) := ⟨(dos[i].who.tmod (bk.length : Int)).toNat, by
         have := Int.tmod_nonneg (bk.length : Int) hcd.2
         omega⟩
        have ht2 : t < bk.length := by
         have := Int.tmod_lt_of_pos dos[i].who hb1
         omega
        rw [show decide (0 < bk.length ∧ 0 ≤ dos[i].who) = true by simpa using hcd]
        have hlt2 : t < l.length := by rw [HW.out.llen]; exact ht2
        have DR := fun wx (hb : Below wc.heap.size wc wx) => (HW.out.law.below hb).rel (i := t) hlt2 (by omega) (by omega) A1 c1 dos[i].steps (Kd.C_below HC.out hb)
        obtain ⟨an, hAN, c3⟩ := name_at HW.out.names ht2
        subst hAN
        have t0 : (0 : Int) ≤ (t : Int) := Int.natCast_nonneg t
        have t1 : (t : Int) < (bk.length : Int) := by omega
        have hbn : ((bk.length : Int) == 0) = false := by rw [beq_eq_false_iff_ne]; omega
        have hbne : ¬ bk = [] := fun e => by rw [e] at ht2; simp at ht2
        have HW6 := HW
        clear HW hcd ht2 hb1 HD c1'
        go_wp2
        refine start_ (n := 18) (S := fun w' => Hid (Below wc.heap.size wc w')) (ds := [17]) #[false, false, false, false, false, false, false, false, false, false, false, false, false, false, false, false, false, false] (by kernel_rfl) rfl rfl ((Lib.hid (below_drew (Below.refl _ _)))) (fun hHeld => ?_)
        refine with_tabW waits.tab14 waits.bits14 (fun HT_ HW_ => ?_)
        have hbd : Hid (Below wc.heap.size wc wc.drew) := Lib.hid ⟨rfl, rfl, rfl, Nat.le_refl _, fun _ _ => rfl⟩
        have hsd : wc.heap.size = wc.drew.heap.size := rfl
        generalize hwd : wc.drew = wd at *
        clear hwd
        refine pst (i := 0) (N := some 56) HT_ (h := ?_)
        refine pst (i := 1) (N := some 57) HT_ (h := ?_)
        refine pst (i := 2) (N := some 58) HT_ (h := ?_)
        refine pst (i := 3) (N := some 59) HT_ (h := ?_)
        refine pst (i := 4) (N := some 60) HT_ (h := ?_)
        refine pst (i := 5) (N := some 61) HT_ (h := ?_)
        refine pst (i := 7) (N := some 63) HT_ (h := ?_)
        refine pst (i := 8) (N := some 64) HT_ (h := ?_)
        refine pst (i := 12) (N := some 68) HT_ (h := ?_)
        refine pst (i := 13) (N := some 69) HT_ (h := ?_)
        refine pst (i := 14) (N := some 70) HT_ (h := ?_)
        refine pst (i := 15) (N := some 71) HT_ (h := ?_)
        refine tst (i := 6) (N := some 62) HT_ HW_ hHeld (hy := by (intro w' s0; have e0 := (s0.out.cell (World.block_lt_of_cell? _ _ c0)).trans c0; have e2 := (s0.out.cell (World.block_lt_of_cell? _ _ c2)).trans c2; have e3 := (s0.out.cell (World.block_lt_of_cell? _ _ c3)).trans c3); go_simp; with_reducible rfl) (h := ?_)
        refine pst (i := 9) (N := some 65) HT_ (h := ?_)
        refine pst (i := 10) (N := some 66) HT_ (h := ?_)
        refine tst (i := 11) (N := some 67) HT_ HW_ hHeld (hy := by (intro w' s0; have e0 := (s0.out.cell (World.block_lt_of_cell? _ _ c0)).trans c0; have e2 := (s0.out.cell (World.block_lt_of_cell? _ _ c2)).trans c2; have e3 := (s0.out.cell (World.block_lt_of_cell? _ _ c3)).trans c3); go_simp; with_reducible rfl) (h := ?_)
        refine tst (i := 16) (N := some 72) HT_ HW_ hHeld (hy := by (intro w' s0; have e0 := (s0.out.cell (World.block_lt_of_cell? _ _ c0)).trans c0; have e2 := (s0.out.cell (World.block_lt_of_cell? _ _ c2)).trans c2; have e3 := (s0.out.cell (World.block_lt_of_cell? _ _ c3)).trans c3); go_simp; with_reducible rfl) (h := ?_)
        refine last_ (i := 17) (N := some 73) #[true, true, true, true, true, true, true, true, true, true, true, true, true, true, true, true, true, true] rfl rfl (one_of HT_.out (by kernel_rfl)) (by decide) (fun K hK => ?_)
        refine goes_ Tryz.func11 (by kernel_rfl) rfl #[.pointer (some ⟨N, 0, none⟩), .int .u32 (t : Int), .slice A1 dos[i].steps.length c1] (by rfl) rfl rfl (by simp only [List.map_toArray, List.map_cons, List.map_nil]; rfl) ?_
        with_reducible refine (DR _ hHeld.out).mono ?_
        rintro e w6 ⟨⟨xa, xb, rfl⟩, ⟨lab2, l2, E2, hL2, hl2, hg2, hl23⟩, hT2⟩
        refine ⟨_, rfl, ?_⟩
        have HB6 := hHeld
        refine hK.out _ _ ?_
        clear hK K
        refine norm_ (a' := ?_) ?_ ?_
        rotate_left
        ·show Act.put _ (some 73) _ = _
         simp only [Act.put, List.setIfInBounds_toArray, List.set_cons_zero, List.set_cons_succ, i64_w, i32_w]
         rfl
        refine done_ (done_of HT_.out (by kernel_rfl)) ?_
        have h3 : ∀ k, k < l.length → (at_ l2 k).f3 = (at_ l k).f3 := fun k hk => by
         rcases hl23 with ⟨rfl, _⟩ | ⟨rfl, _⟩
         ·rfl
         ·rw [at_set]
          split
          ·rename_i e
           rw [e.1, at_lt hlt2]
           rfl
          ·rfl
        have HWn : Hid (WSt w w6 lab2 N m now ((i + 1 : Nat) : Int) wt l2 q R bk E2 (200002 * i + 2) Nw (.slice (some an) bk.length cN) b0 wv) := Lib.hid (by
         rw [show ((i + 1 : Nat) : Int) = (i : Int) + 1 by omega]
         exact (HW6.out.below HB6.out).rel hL2 hl2 h3 hg2 hT2)
        go_wp2
        go_meet
        exact ⟨rfl, lab2, l2, E2, HWn⟩
       ·rw [show decide (0 < bk.length ∧ 0 ≤ dos[i].who) = false by simpa using hcd]
        go_wp2
        go_meet
        exact ⟨rfl, lab, l, E, Lib.hid ⟨HW.out.law.more (by omega) (fun _ => .inl (Int.le_refl _)) (by omega), HW.out.llen, HW.out.names, HW.out.nlab, HW.out.row, HW.out.rlab, HW.out.wtw, HW.out.zero, HW.out.bel, HW.out.labW, HW.out.nwW, HW.out.pos⟩⟩
      case rest =>
       obtain ⟨rfl, lab1, l1, E1, HW1⟩ := hcut
       clear HW HD c0 c1' c2 HC
       have hN200 := (HEA.out i hlt).2
       go_wp2
       go_loopw [14] (fun v14 wr => ∃ (n : Nat) (now' : Int) (lab : Nat → Nat) (wt : Nat → Int) (l : List S57) (q : List S63) (R : Nat → List Nat) (E : List (List Value)) (wv : Nat → Int), v14 = .int .i64 n ∧ n ≤ dos[i].n.toNat ∧ now' ≤ 200 * (i : Int) + n ∧ Hid (WSt w wr lab N m now' ((i + 1 : Nat) : Int) wt l q R bk E (200002 * i + 2 + 1000 * n) Nw (.slice AN bk.length cN) b0 wv)) (fun v14 _ => dos[i].n.toNat - (intOf v14).toNat)
       case atStart => exact ⟨0, now, _, _, _, _, _, _, _, rfl, Nat.zero_le _, by omega, HW1⟩
       case round =>
        clear HW1
        obtain ⟨n, now', lab, wt, l, q, R, E, wv, rfl, hnn, hnow', HW⟩ := hrel
        obtain ⟨wb, rfl⟩ : ∃ x : World, x = wr := ⟨_, rfl⟩
        have hwn : IntKind.i64.wrap ((n : Int) + 1) = (n : Int) + 1 := by rw [i64_w]; unfold Go.RowKit.wrap64; omega
        obtain ⟨ad', A1', c1', hA', e0, e1, e2, hC'⟩ := (hd.below HW.out.bel) i hlt
        cases hA'
        clear e0 e2 hC'
        by_cases hnl : (n : Int) < dos[i].n
        ·have gnl : decide ((n : Int) < dos[i].n) = true := by simpa using hnl
         have hn200 : n ≤ 200 := by omega
         have DG := HW.out.law.go (by omega) (fun k hk h3 => by have := HW.out.zero k hk (by rw [h3]; decide); omega) (by omega)
         go_upto_region 20 with (go_at_call 14; (with_reducible refine DG.mono ?_); rintro e w7 ⟨rfl, ⟨lab7, R7, hL7, hst7, hl7, hq7, hm7, hg7⟩, hT7⟩; have HL7 := Lib.hid hL7; have HG7 := Lib.hid hg7; have HT7 := Lib.hid hT7; have HLN7 := Lib.hid hl7; clear hL7 hst7 hl7 hq7 hm7 hg7 hT7)
         clear DG e1
         have hs7 := HT7.out.size
         generalize goL 1 m now' (now' + 1) l q = gr at *
         obtain ⟨l7, q7, ev7⟩ := gr
         dsimp only at HL7 HLN7
         generalize E ++ ev7.map Ev.cells = E7 at *
         have DS := HL7.out.state
         unfold stV at DS
         go_upto_region 21 with (go_at_call 13; (with_reducible refine DS.mono ?_); rintro e w8 ⟨B8, o8, A48, c48, rfl, hO8, hG8, hown8, hB8⟩; have HO8 := Lib.hid hO8; have HGB8 := Lib.hid hG8; have HOW8 := Lib.hid hown8; have HB8 := Lib.hid hB8; clear hO8 hG8 hown8 hB8)
         have HX9 := Lib.hid (blk_new w8 (.cells #[.int .i64 m, .int .i64 (now' + 1), .slice o8.A l7.length o8.c, .slice o8.A2 q7.length o8.c2, .slice A48 0 c48] 47))
         have HB89 := Lib.hid (below_alloc (Below.refl w8.heap.size w8) (.cells #[.int .i64 m, .int .i64 (now' + 1), .slice o8.A l7.length o8.c, .slice o8.A2 q7.length o8.c2, .slice A48 0 c48] 47))
         clear DS
         generalize hw9 : World.alloc _ _ = w9 at *
         clear hw9
         have hs8 := HB8.out.size
         have hs89 : w8.heap.size < w9.heap.size := blk_lt HX9.out
         have hNr : Nw < wb.heap.size := HW.out.row.lt
         have HM9 : Hid (RdF w9 (fun b => ∃ cc, o8.own cc = some b) B8 o8.A l7 o8.A2 q7) := Lib.hid (HO8.out.rdf.below HB89.out)
         have HS9 : Hid (∀ b, b = Nw → ¬ (∃ cc, o8.own cc = some b) ∧ ¬ B8.G b) := Lib.hid (fun b e => by
          subst e
          refine ⟨fun ⟨cc, hc⟩ => by have := HOW8.out cc b hc; omega, fun hg => ?_⟩
          exact HGB8.out b hg (grew_zero HG7.out HW.out.rlab hNr))
         have HR9 : Hid (RowAt w9 Nw 0 1 68 (numRows 300 (wvK l7 wv 0))) := Lib.hid (by
          rw [wvK_zero]
          exact ((HW.out.row.turn HT7.out (fun e => e HW.out.rlab)).below HB8.out).below HB89.out)
         clear HO8 HGB8 HOW8
         go_wp2
         go_loopw [16] (fun v16 wy => ∃ k : Nat, v16 = .int .i64 k ∧ k ≤ l7.length ∧ Hid (RowAt wy Nw 0 1 68 (numRows 300 (wvK l7 wv k))) ∧ Hid (Turn w9 wy (fun b => b = Nw))) (fun v16 _ => l7.length - (intOf v16).toNat)
         case atStart => exact ⟨0, rfl, Nat.zero_le _, HR9, Lib.hid (Turn.refl _ _)⟩
         case round =>
          clear HR9
          obtain ⟨k, rfl, hk, HRK, HTK⟩ := hrel
          have hsk := HTK.out.size
          have HXK := Lib.hid ((HTK.out.block w8.heap.size hs89 (fun e => by omega)).trans HX9.out)
          have x2 : wr.cell? ⟨w8.heap.size, 2, none⟩ = some (.slice o8.A l7.length o8.c) := (blk_cell HXK.out 2).trans rfl
          by_cases hkl : k < l7.length
          ·have HMK := Lib.hid (HM9.out.keep HTK.out HS9.out)
           have hax : at_ l7 k = l7[k] := at_lt hkl
           obtain ⟨idn, hidn⟩ : ∃ idn : Nat, idn = k + 1 := ⟨_, rfl⟩
           have hx0 : l7[k].f0 = (idn : Int) := by rw [← hax, HL7.out.ids k hkl]; omega
           have HIDN := Lib.hid hidn
           have hk12 : k < 12 := by have := HL7.out.inv.sane.len; omega
           have hid13 : idn < 13 := by omega
           clear hidn
           obtain ⟨sad, J, cJ, hoA, hc57⟩ := cells57 HMK.out.now.reads hkl
           rw [hoA] at x2
           obtain ⟨s0, s1, s2, s3, s4, s5, s6, s7, s8, s9, s10, _, _⟩ := hc57
           rw [hx0] at s0
           have k0 : (0 : Int) ≤ (k : Int) := Int.natCast_nonneg k
           have k1 : (k : Int) < (l7.length : Int) := by omega
           have hwk : IntKind.i64.wrap ((k : Int) + 1) = (k : Int) + 1 := by rw [i64_w]; unfold Go.RowKit.wrap64; omega
           go_upto_region 25 with fail
           have HX10 := Lib.hid (blk_new wr (.cells #[.int .i64 (idn : Int), .int .i64 l7[k].f1.f0, .int .i64 l7[k].f1.f1, .int .i64 l7[k].f1.f2, .int .i64 l7[k].f1.f3, .int .i64 l7[k].f1.f4, .slice J l7[k].f2.length cJ, .int .i64 l7[k].f3, .int .i64 l7[k].f4, .int .i64 l7[k].f5, .int .i64 l7[k].f6] 57))
           have HB10 := Lib.hid (below_alloc (Below.refl wr.heap.size wr) (.cells #[.int .i64 (idn : Int), .int .i64 l7[k].f1.f0, .int .i64 l7[k].f1.f1, .int .i64 l7[k].f1.f2, .int .i64 l7[k].f1.f3, .int .i64 l7[k].f1.f4, .slice J l7[k].f2.length cJ, .int .i64 l7[k].f3, .int .i64 l7[k].f4, .int .i64 l7[k].f5, .int .i64 l7[k].f6] 57))
           clear s0 s1 s2 s3 s4 s5 s6 s7 s8 s9 s10 x2
           generalize hw10 : World.alloc _ _ = w10 at *
           clear hw10
           have y0 : w10.cell? ⟨wr.heap.size, 0, none⟩ = some (.int .i64 (idn : Int)) := (blk_cell HX10.out 0).trans rfl
           have y3 : w10.cell? ⟨wr.heap.size, 3, none⟩ = some (.int .i64 l7[k].f1.f2) := (blk_cell HX10.out 3).trans rfl
           have y4 : w10.cell? ⟨wr.heap.size, 4, none⟩ = some (.int .i64 l7[k].f1.f3) := (blk_cell HX10.out 4).trans rfl
           have y5 : w10.cell? ⟨wr.heap.size, 5, none⟩ = some (.int .i64 l7[k].f1.f4) := (blk_cell HX10.out 5).trans rfl
           have y7 : w10.cell? ⟨wr.heap.size, 7, none⟩ = some (.int .i64 l7[k].f3) := (blk_cell HX10.out 7).trans rfl
           have g1 : decide ((idn : Int) < 0) = false := by simp
           have g2 : decide ((idn : Int) ≥ 300) = false := by simp; omega
           have i0 : (0 : Int) ≤ (idn : Int) := Int.natCast_nonneg idn
           have i1 : (idn : Int) < 300 := by omega
           have HX15 := Lib.hid (blk_below HXK.out HB10.out)
           have HR10 := Lib.hid (HRK.out.below HB10.out)
           have hs10 : wr.heap.size < w10.heap.size := blk_lt HX10.out
           have HT10 : Hid (Turn w9 w10 (fun b => b = Nw)) := Lib.hid (HTK.out.trans (Turn.of_below _ HB10.out))
           have hlr : idn < (numRows 300 (wvK l7 wv k)).length := by rw [numRows_len]; omega
           have cw : w10.cell? ⟨Nw, idn, none⟩ = some (.int .i64 (wvK l7 wv k idn)) := by
            have := HR10.out.cell (i := idn) hlr (j := 0) (by decide) (v := .int .i64 (wvK l7 wv k idn)) (by rw [numRows_get (by omega)]; rfl)
            rw [show 0 + idn * 1 + 0 = idn by omega] at this
            exact this
           have fw : w10.frozen? ⟨Nw, idn, none⟩ = false := HR10.out.free idn
           have HSTO : Hid (∀ (v : Int), v = wvK l7 wv (k + 1) idn → RowAt (w10.setCell ⟨Nw, idn, none⟩ (.int .i64 v)) Nw 0 1 68 (numRows 300 (wvK l7 wv (k + 1)))) := Lib.hid (fun v hv => by
            have := HR10.out.set (i := idn) hlr (j := 0) (by decide) (.int .i64 v)
            rw [show 0 + idn * 1 + 0 = idn by omega] at this
            rw [numRows_set (g := wvK l7 wv (k + 1)) (by omega) (by rw [hv]) (fun j hj hne => wvK_ne (by have := HIDN.out; omega))] at this
            exact this)
           have HTS : Hid (∀ v, Turn w10 (w10.setCell ⟨Nw, idn, none⟩ v) (fun b => b = Nw)) := Lib.hid (fun v => (Turn.refl w10 (fun b => b = Nw)).set rfl idn v)
           have hwva := (wvK_at (l' := l7) (wv := wv) (k := k))
           rw [← HIDN.out, hax] at hwva
           have HWV := Lib.hid hwva
           clear hwva
           by_cases hsec : l7[k].f3 = 1
           ·have gs : (l7[k].f3 != 1) = false := by simp [hsec]
            have hfd := HL7.out.inv.found hkl (by rw [hax]; exact hsec)
            have hwk1 := HW.out.wtw k (by rw [← HLN7.out]; exact hkl)
            rw [← HIDN.out] at hwk1
            have HQD : Hid (∀ n z (hn : n < q7.length) (hz : z < q7[n].f2.length), q7[n].f2[z] = (idn : Int) → wv idn + 1 ≤ (m - 1) * q7[n].f0) := Lib.hid (fun n z hn hz e => by
             have := HL7.out.inv.queued hkl hn hz (e.trans (by rw [hax, hx0]))
             rw [← hwk1]
             exact this)
            have HMO : Hid (∀ n (hn : n < q7.length), 0 ≤ (m - 1) * q7[n].f0 ∧ (m - 1) * q7[n].f0 ≤ 11534336 ∧ 1 ≤ q7[n].f0 ∧ q7[n].f0 ≤ 1048576) := Lib.hid (fun n hn => by
             have h1 := HL7.out.inv.qmost n hn
             have h2 : (m - 1) * q7[n].f0 ≤ 11 * q7[n].f0 := Int.mul_le_mul_of_nonneg_right (by omega) (by omega)
             exact ⟨Int.mul_nonneg (by omega) (by omega), by omega, h1.1, h1.2⟩)
            have hV0 := HW.out.pos idn
            have hV1 : wv idn ≤ 11534336 := by
             obtain ⟨n, hn, z, hz, e⟩ := hfd
             have h1 := HQD.out n z hn hz (by rw [e, hax, hx0])
             have h2 := HMO.out n hn
             omega
            have HFD : Hid (∃ n, ∃ (hn : n < q7.length), (idn : Int) ∈ q7[n].f2) := Lib.hid (by
             obtain ⟨n, hn, z, hz, e⟩ := hfd
             exact ⟨n, hn, by rw [show (idn : Int) = q7[n].f2[z] by rw [e, hax, hx0]]; exact List.getElem_mem hz⟩)
            clear hfd hwk1
            obtain ⟨V, hV⟩ : ∃ V, V = wvK l7 wv k idn := ⟨_, rfl⟩
            rw [← hV] at cw
            have HVV : Hid (V = wv idn) := Lib.hid (hV.trans HWV.out.2)
            have hV2 : 0 ≤ V ∧ V ≤ 11534336 := by rw [HVV.out]; exact ⟨hV0, hV1⟩
            clear hV hV0 hV1
            have hw31 : IntKind.i64.wrap (V + 1) = V + 1 := by rw [i64_w]; unfold Go.RowKit.wrap64; omega
            go_upto_region 32 with fail
            have HRn := Lib.hid (HSTO.out (V + 1) (by rw [← HIDN.out, HWV.out.1, if_pos hsec, HVV.out]))
            have HTn := Lib.hid (HTS.out (.int .i64 (V + 1)))
            have hcn : (w10.setCell ⟨Nw, idn, none⟩ (.int .i64 (V + 1))).cell? ⟨Nw, idn, none⟩ = some (.int .i64 (V + 1)) := by
             have := HRn.out.cell (i := idn) (by rw [numRows_len]; omega) (j := 0) (by decide) (v := .int .i64 (V + 1)) (by rw [numRows_get (by omega), HVV.out]; rw [← HIDN.out, HWV.out.1, if_pos hsec]; rfl)
             rw [show 0 + idn * 1 + 0 = idn by omega] at this
             exact this
            generalize hws : World.setCell _ _ _ = w11 at *
            clear hws cw fw y0 y3 y4 y5 y7 hw31
            have HX11 := Lib.hid ((HTn.out.block wr.heap.size (by omega) (fun e => by omega)).trans HX10.out)
            have HX16 := Lib.hid ((HTn.out.block w8.heap.size (by omega) (fun e => by omega)).trans HX15.out)
            have HT11 : Hid (Turn w9 w11 (fun b => b = Nw)) := Lib.hid (HT10.out.trans HTn.out)
            have HRD : Hid (Kd.C k63 w11 o8.A2 q7.length q7) := Lib.hid (HM9.out.keep HT11.out HS9.out).now.lock
            have HP : Hid (∀ wx, Below w11.heap.size w11 wx → wx.cell? ⟨wr.heap.size, 0, none⟩ = some (.int .i64 (idn : Int)) ∧ wx.cell? ⟨w8.heap.size, 3, none⟩ = some (.slice o8.A2 q7.length o8.c2) ∧ wx.cell? ⟨Nw, idn, none⟩ = some (.int .i64 (V + 1)) ∧ Kd.C k63 wx o8.A2 q7.length q7) := Lib.hid (fun wx hb => ⟨(blk_cell (blk_below HX11.out hb) 0).trans rfl, (blk_cell (blk_below HX16.out hb) 3).trans rfl, (hb.cell (World.block_lt_of_cell? _ _ hcn)).trans hcn, Kd.C_below HRD.out hb⟩)
            clear hcn HX11 HX16 HRD
            obtain ⟨wb2, rfl⟩ : ∃ x : World, x = wr := ⟨_, rfl⟩
            go_wp2
            go_loopw [18, 19] (fun v18 v19 wx => ∃ nq : Nat, v19 = .int .i64 nq ∧ nq ≤ q7.length ∧ v18 = .bool (fndQ q7 (idn : Int) nq) ∧ Hid (Below w11.heap.size w11 wx)) (fun _ v19 _ => q7.length - (intOf v19).toNat)
            case atStart => exact ⟨0, rfl, Nat.zero_le _, rfl, Lib.hid (Below.refl _ _)⟩
            case round =>
             obtain ⟨nq, rfl, hnq, rfl, HBQ⟩ := hrel
             obtain ⟨wq, rfl⟩ : ∃ x : World, x = wr := ⟨_, rfl⟩
             have hwq : IntKind.i64.wrap ((nq : Int) + 1) = (nq : Int) + 1 := by have := HL7.out.inv.qlen; rw [i64_w]; unfold Go.RowKit.wrap64; omega
             have hpq := (HP.out _ HBQ.out).2.1
             by_cases hql : nq < q7.length
             ·have q0 : (0 : Int) ≤ (nq : Int) := Int.natCast_nonneg nq
              have q1 : (nq : Int) < (q7.length : Int) := by omega
              have hsu := fndQ_succ (id := (idn : Int)) hql
              have HSU := Lib.hid hsu
              clear hsu
              generalize fndQ q7 (idn : Int) nq = fb at *
              go_wp2
              go_loopw [18, 20] (fun v18 v20 wx => ∃ z : Nat, v20 = .int .i64 z ∧ z ≤ q7[nq].f2.length ∧ v18 = .bool (fb || (q7[nq].f2.take z).contains (idn : Int)) ∧ Hid (Below w11.heap.size w11 wx)) (fun _ v20 _ => q7[nq].f2.length - (intOf v20).toNat)
              case atStart => exact ⟨0, rfl, Nat.zero_le _, by simp, HBQ⟩
              case round =>
               clear hpq
               obtain ⟨z, rfl, hz, rfl, HBZ⟩ := hrel
               obtain ⟨wz, rfl⟩ : ∃ x : World, x = wr := ⟨_, rfl⟩
               obtain ⟨p0, p3, pw, pC⟩ := HP.out _ HBZ.out
               obtain ⟨la, A2z, c2z, hA2, l0, l1, l2, l3, lc, lC⟩ := at_T63 pC (nq : Int) q0 q1
               rw [show rd_T63 q7 (nq : Int) = q7[nq] by simp [rd_T63, hql]] at l0 l1 l2 l3 lc lC
               rw [Int.toNat_natCast] at l0 l1 l2 l3
               rw [hA2] at p3
               have hzl : q7[nq].f2.length ≤ 1000 := by
                have := (HL7.out.inv.mok (fun n _ => HL7.out.inv.row_len n)).room nq hql
                exact this
               have hwz : IntKind.i64.wrap ((z : Int) + 1) = (z : Int) + 1 := by rw [i64_w]; unfold Go.RowKit.wrap64; omega
               by_cases hzz : z < q7[nq].f2.length
               ·obtain ⟨qa, hqa, lq⟩ := int_at lC hzz
                have z0 : (0 : Int) ≤ (z : Int) := Int.natCast_nonneg z
                have z1 : (z : Int) < (q7[nq].f2.length : Int) := by omega
                have hts := takeC_succ (id := (idn : Int)) hzz
                have HTS2 := Lib.hid hts
                clear hts l1 l3 lC pC
                subst hqa
                go_upto_region 39 with fail
                refine start_ (n := 12) (S := fun w' => Hid (Below wz.heap.size wz w')) (ds := []) #[false, false, false, false, false, false, false, false, false, false, false, false] (by kernel_rfl) rfl rfl ((Lib.hid (below_drew (Below.refl _ _)))) (fun hHeld => ?_)
                refine with_tabW waits.tab39 waits.bits39 (fun HT_ HW_ => ?_)
                have hbd : Hid (Below wz.heap.size wz wz.drew) := Lib.hid ⟨rfl, rfl, rfl, Nat.le_refl _, fun _ _ => rfl⟩
                have hsd : wz.heap.size = wz.drew.heap.size := rfl
                generalize hwd : wz.drew = wd at *
                clear hwd
                refine pst (i := 0) (N := some 161) HT_ (h := ?_)
                refine pst (i := 2) (N := some 163) HT_ (h := ?_)
                refine pst (i := 6) (N := some 167) HT_ (h := ?_)
                refine pst (i := 9) (N := some 170) HT_ (h := ?_)
                refine tst (i := 1) (N := some 162) HT_ HW_ hHeld (hy := by (intro w' s0; have f0 := (s0.out.cell (World.block_lt_of_cell? _ _ p0)).trans p0; have f3 := (s0.out.cell (World.block_lt_of_cell? _ _ p3)).trans p3; have f2 := (s0.out.cell (World.block_lt_of_cell? _ _ l2)).trans l2; have fq := (s0.out.cell (World.block_lt_of_cell? _ _ lq)).trans lq); go_simp; with_reducible rfl) (h := ?_)
                refine pst (i := 3) (N := some 164) HT_ (h := ?_)
                refine pst (i := 4) (N := some 165) HT_ (h := ?_)
                refine tst (i := 5) (N := some 166) HT_ HW_ hHeld (hy := by (intro w' s0; have f0 := (s0.out.cell (World.block_lt_of_cell? _ _ p0)).trans p0; have f3 := (s0.out.cell (World.block_lt_of_cell? _ _ p3)).trans p3; have f2 := (s0.out.cell (World.block_lt_of_cell? _ _ l2)).trans l2; have fq := (s0.out.cell (World.block_lt_of_cell? _ _ lq)).trans lq); go_simp; with_reducible rfl) (h := ?_)
                refine pst (i := 7) (N := some 168) HT_ (h := ?_)
                refine tst (i := 8) (N := some 169) HT_ HW_ hHeld (hy := by (intro w' s0; have f0 := (s0.out.cell (World.block_lt_of_cell? _ _ p0)).trans p0; have f3 := (s0.out.cell (World.block_lt_of_cell? _ _ p3)).trans p3; have f2 := (s0.out.cell (World.block_lt_of_cell? _ _ l2)).trans l2; have fq := (s0.out.cell (World.block_lt_of_cell? _ _ lq)).trans lq); go_simp; with_reducible rfl) (h := ?_)
                refine tst (i := 10) (N := some 171) HT_ HW_ hHeld (hy := by (intro w' s0; have f0 := (s0.out.cell (World.block_lt_of_cell? _ _ p0)).trans p0; have f3 := (s0.out.cell (World.block_lt_of_cell? _ _ p3)).trans p3; have f2 := (s0.out.cell (World.block_lt_of_cell? _ _ l2)).trans l2; have fq := (s0.out.cell (World.block_lt_of_cell? _ _ lq)).trans lq); go_simp; with_reducible rfl) (h := ?_)
                refine pst (i := 11) (N := some 172) HT_ (h := ?_)
                refine done_ (done_of HT_.out (by kernel_rfl)) ?_
                clear HT_ HW_ hHeld p0 p3 pw l0 l2 lq
                obtain ⟨wy2, rfl⟩ : ∃ x : World, x = wd := ⟨_, rfl⟩
                have HBD : Hid (Below w11.heap.size w11 wy2) := Lib.hid (HBZ.out.trans (hbd.out.mono HBZ.out.size))
                by_cases heq : q7[nq].f2[z] = (idn : Int)
                ·have geq : (q7[nq].f2[z] == (idn : Int)) = true := by simpa using heq
                 have hle := HQD.out nq z hql hzz heq
                 have hmo := HMO.out nq hql
                 rw [← HVV.out] at hle
                 have gle : decide (V + 1 ≤ (m - 1) * q7[nq].f0) = true := by simpa using hle
                 have hwm1 : IntKind.i64.wrap (m - 1) = m - 1 := by rw [i64_w]; unfold Go.RowKit.wrap64; omega
                 have hwm2 : IntKind.i64.wrap ((m - 1) * q7[nq].f0) = (m - 1) * q7[nq].f0 := by
                  generalize (m - 1) * q7[nq].f0 = y at *
                  rw [i64_w]; unfold Go.RowKit.wrap64; omega
                 obtain ⟨p0, p3, pw, pC⟩ := HP.out _ HBD.out
                 obtain ⟨lb, A2y, c2y, hA2y, l0, l1, l2, l3, lc, lC⟩ := at_T63 pC (nq : Int) q0 q1
                 rw [show rd_T63 q7 (nq : Int) = q7[nq] by simp [rd_T63, hql]] at l0
                 rw [Int.toNat_natCast] at l0
                 rw [hA2y] at p3
                 have HN : Hid ((fb || (q7[nq].f2.take (z + 1)).contains (idn : Int)) = true) := Lib.hid (by rw [HTS2.out, geq]; simp)
                 clear l1 l2 l3 lc lC pC hle hmo HTS2
                 go_upto_region 40 with fail
                 refine start_ (n := 15) (S := fun w' => Hid (Below wy2.heap.size wy2 w')) (ds := []) #[false, false, false, false, false, false, false, false, false, false, false, false, false, false, false] (by kernel_rfl) rfl rfl ((Lib.hid (below_drew (Below.refl _ _)))) (fun hHeld => ?_)
                 refine with_tabW waits.tab40 waits.bits40 (fun HT_ HW_ => ?_)
                 have hbd : Hid (Below wy2.heap.size wy2 wy2.drew) := Lib.hid ⟨rfl, rfl, rfl, Nat.le_refl _, fun _ _ => rfl⟩
                 have hsd : wy2.heap.size = wy2.drew.heap.size := rfl
                 generalize hwd : wy2.drew = wd at *
                 clear hwd
                 refine pst (i := 0) (N := some 173) HT_ (h := ?_)
                 refine pst (i := 4) (N := some 177) HT_ (h := ?_)
                 refine pst (i := 5) (N := some 178) HT_ (h := ?_)
                 refine pst (i := 6) (N := some 179) HT_ (h := ?_)
                 refine pst (i := 8) (N := some 181) HT_ (h := ?_)
                 refine tst (i := 1) (N := some 174) HT_ HW_ hHeld (hy := by (intro w' s0; have f0 := (s0.out.cell (World.block_lt_of_cell? _ _ p0)).trans p0; have f3 := (s0.out.cell (World.block_lt_of_cell? _ _ p3)).trans p3; have fm := (s0.out.cell (World.block_lt_of_cell? _ _ l0)).trans l0; have fw := (s0.out.cell (World.block_lt_of_cell? _ _ pw)).trans pw); go_simp; with_reducible rfl) (h := ?_)
                 refine pst (i := 2) (N := some 175) HT_ (h := ?_)
                 refine tst (i := 3) (N := some 176) HT_ HW_ hHeld (hy := by (intro w' s0; have f0 := (s0.out.cell (World.block_lt_of_cell? _ _ p0)).trans p0; have f3 := (s0.out.cell (World.block_lt_of_cell? _ _ p3)).trans p3; have fm := (s0.out.cell (World.block_lt_of_cell? _ _ l0)).trans l0; have fw := (s0.out.cell (World.block_lt_of_cell? _ _ pw)).trans pw); go_simp; with_reducible rfl) (h := ?_)
                 refine tst (i := 7) (N := some 180) HT_ HW_ hHeld (hy := by (intro w' s0; have f0 := (s0.out.cell (World.block_lt_of_cell? _ _ p0)).trans p0; have f3 := (s0.out.cell (World.block_lt_of_cell? _ _ p3)).trans p3; have fm := (s0.out.cell (World.block_lt_of_cell? _ _ l0)).trans l0; have fw := (s0.out.cell (World.block_lt_of_cell? _ _ pw)).trans pw); go_simp; with_reducible rfl) (h := ?_)
                 refine pst (i := 9) (N := some 182) HT_ (h := ?_)
                 refine pst (i := 10) (N := some 183) HT_ (h := ?_)
                 refine tst (i := 11) (N := some 184) HT_ HW_ hHeld (hy := by (intro w' s0; have f0 := (s0.out.cell (World.block_lt_of_cell? _ _ p0)).trans p0; have f3 := (s0.out.cell (World.block_lt_of_cell? _ _ p3)).trans p3; have fm := (s0.out.cell (World.block_lt_of_cell? _ _ l0)).trans l0; have fw := (s0.out.cell (World.block_lt_of_cell? _ _ pw)).trans pw); go_simp; with_reducible rfl) (h := ?_)
                 refine pst (i := 12) (N := some 185) HT_ (h := ?_)
                 refine pst (i := 13) (N := some 186) HT_ (h := ?_)
                 refine pst (i := 14) (N := some 18) HT_ (h := ?_)
                 refine done_ (done_of HT_.out (by kernel_rfl)) ?_
                 go_wp2
                 go_roundw
                 case rel => exact ⟨z + 1, by go_num, by omega, by rw [HN.out], Lib.hid (HBD.out.trans (hbd.out.mono HBD.out.size))⟩
                 case measure => simp [intOf]; omega
                ·have geq : (q7[nq].f2[z] == (idn : Int)) = false := by simpa using heq
                 have HN : Hid ((fb || (q7[nq].f2.take (z + 1)).contains (idn : Int)) = (fb || (q7[nq].f2.take z).contains (idn : Int))) := Lib.hid (by rw [HTS2.out, geq]; simp)
                 clear HTS2
                 go_wp2
                 go_roundw
                 case rel => exact ⟨z + 1, by go_num, by omega, by rw [HN.out], HBD⟩
                 case measure => simp [intOf]; omega
               ·obtain rfl : z = q7[nq].f2.length := by omega
                have HE : Hid ((fb || (q7[nq].f2.take q7[nq].f2.length).contains (idn : Int)) = fndQ q7 (idn : Int) (nq + 1)) := Lib.hid (by rw [List.take_length, HSU.out])
                go_wp2
                go_roundw
                case rel => exact ⟨nq + 1, by go_num, by omega, by rw [HE.out], HBZ⟩
                case measure => simp [intOf]; omega
             ·obtain rfl : nq = q7.length := by omega
              have hall : fndQ q7 (idn : Int) q7.length = true := by
               unfold fndQ
               rw [List.take_length, List.any_eq_true]
               obtain ⟨n2, hn2, hm2⟩ := HFD.out
               exact ⟨q7[n2], List.getElem_mem hn2, by simpa using hm2⟩
              rw [hall]
              go_wp2
              go_roundw
              case rel => exact ⟨k + 1, by go_num, by omega, Lib.hid (HRn.out.below HBQ.out), Lib.hid (HT11.out.trans (Turn.of_below _ HBQ.out))⟩
              case measure => simp [intOf]; omega
           ·have gs : (l7[k].f3 != 1) = true := by simpa using hsec
            go_upto_region 29 with fail
            have HRn := Lib.hid (HSTO.out 0 (by rw [← HIDN.out, HWV.out.1, if_neg hsec]))
            have HTn := Lib.hid (HTS.out (.int .i64 0))
            generalize hws : World.setCell _ _ _ = w11 at *
            clear hws cw fw y0 y3 y4 y5 y7
            have HX11 := Lib.hid ((HTn.out.block wr.heap.size (by omega) (fun e => by omega)).trans HX10.out)
            have HX16 := Lib.hid ((HTn.out.block w8.heap.size (by omega) (fun e => by omega)).trans HX15.out)
            have HT11 : Hid (Turn w9 w11 (fun b => b = Nw)) := Lib.hid (HT10.out.trans HTn.out)
            have y3 : w11.cell? ⟨wr.heap.size, 3, none⟩ = some (.int .i64 l7[k].f1.f2) := (blk_cell HX11.out 3).trans rfl
            have y4 : w11.cell? ⟨wr.heap.size, 4, none⟩ = some (.int .i64 l7[k].f1.f3) := (blk_cell HX11.out 4).trans rfl
            have y5 : w11.cell? ⟨wr.heap.size, 5, none⟩ = some (.int .i64 l7[k].f1.f4) := (blk_cell HX11.out 5).trans rfl
            have y7 : w11.cell? ⟨wr.heap.size, 7, none⟩ = some (.int .i64 l7[k].f3) := (blk_cell HX11.out 7).trans rfl
            have y1 : w11.cell? ⟨w8.heap.size, 1, none⟩ = some (.int .i64 (now' + 1)) := (blk_cell HX16.out 1).trans rfl
            by_cases h2 : l7[k].f3 = 2
            ·have gs2 : (l7[k].f3 == 2) = true := by simpa using h2
             have hho := HL7.out.inv.holds hkl (by rw [hax]; exact h2)
             rw [hax] at hho
             have g3 : decide (l7[k].f1.f2 < 1) = false := by simp; omega
             have g4 : decide (l7[k].f1.f3 ≤ now' + 1) = false := by simp; omega
             have g5 : (l7[k].f1.f4 != 1) = false := by simp [hho.2.2]
             clear hho
             go_wp2
             go_roundw
             case rel => exact ⟨k + 1, by go_num, by omega, HRn, HT11⟩
             case measure => simp [intOf]; omega
            ·have gs2 : (l7[k].f3 == 2) = false := by simpa using h2
             go_wp2
             go_roundw
             case rel => exact ⟨k + 1, by go_num, by omega, HRn, HT11⟩
             case measure => simp [intOf]; omega
          ·obtain rfl : k = l7.length := by omega
           have HWn : Hid (WSt w wr lab7 N m (now' + 1) ((i + 1 : Nat) : Int) (fun k => if (at_ l7 k).f3 = 1 then wt k + 1 else 0) l7 q7 R7 bk E7 (200002 * i + 2 + 1000 * (n + 1)) Nw (.slice AN bk.length cN) b0 (wvK l7 wv l7.length)) := Lib.hid (by
            have := HW.out.go HL7.out HLN7.out HG7.out HT7.out (HB8.out.trans (HB89.out.mono HB8.out.size)) HTK.out HRK.out
            rw [show 200002 * i + 2 + 1000 * (n + 1) = 200002 * i + 2 + 1000 * n + 1000 by omega]
            exact this)
           go_wp2
           go_roundw
           case rel => exact ⟨n + 1, now' + 1, lab7, _, l7, q7, R7, E7, _, by go_num, by omega, by omega, HWn⟩
           case measure => simp [intOf]; omega
        ·have HWn : Hid (WSt w wb lab N m now' ((i + 1 : Nat) : Int) wt l q R bk E (200002 * (i + 1)) Nw (.slice AN bk.length cN) b0 wv) := Lib.hid ⟨HW.out.law.more (Int.le_refl _) (fun _ => .inl (Int.le_refl _)) (by omega), HW.out.llen, HW.out.names, HW.out.nlab, HW.out.row, HW.out.rlab, HW.out.wtw, HW.out.zero, HW.out.bel, HW.out.labW, HW.out.nwW, HW.out.pos⟩
         have gnl : decide ((n : Int) < dos[i].n) = false := by simpa using hnl
         go_wp2
         go_roundw
         case rel => exact ⟨i + 1, now', lab, wt, l, q, R, E, wv, by go_num, by omega, by omega, HWn⟩
         case measure => simp [intOf]; omega
    ·obtain rfl : i = dos.length := by omega
     go_wp2
     go_ret
     exact ⟨by first | trivial | rfl, HW.out.bel⟩
  ·have DN := DN.mono (fun e w' h => h.2 (by simpa using hok))
   go_wp2_with (go_at_call 9; (with_reducible refine DN.mono ?_); rintro e w3 ⟨⟨p, rfl⟩, hB3⟩; have HB3 := Lib.hid (HB2.out.trans (hB3.mono HB2.out.size)); clear hB3)
   go_ret
   exact ⟨by first | trivial | rfl, HB3.out⟩
end Go.Proofs.YtfimkmlgnmaopaaGreat.Top
namespace Go.Proofs.YtfimkmlgnmaopaaGreat.Open
open Go.RowKit Go.ChangeShapes Go.WideShapes Go.Proofs.YtfimkmlgnmaopaaGreatW.PrintWords Go.Proofs.YtfimkmlgnmaopaaGreat.PTopNames Go.Proofs.YtfimkmlgnmaopaaGreat.Top
theorem add_add (a : Addr) (m n : Nat) : (a.add m).add n = a.add (m + n) := by
 unfold Addr.add
 by_cases hm : m = 0
 ·subst hm; simp
 ·by_cases hn : n = 0
  ·subst hn; simp
  ·simp [hm, hn, Nat.add_assoc]
theorem add_field2 (a : Addr) (m n : Nat) (hn : n ≠ 0) : a.add (m + n) = ⟨(a.add m).block, (a.add m).off + n, none⟩ := by
 unfold Addr.add
 by_cases hm : m = 0
 ·subst hm; simp [hn]
 ·simp [hm, Nat.add_assoc]
theorem open_rows {H α : Type} {enc : TypeId × Value → H} {P : Program} {w : World} {base : Nat} {spare : Nat → Bool} {held : Bool} {t e : TypeId} {fuel : Nat} {A : Option Addr} {len cap : Nat} {x : DataW H × List MemPlace}
  (K : α → List Value → Prop) (sz : Nat) (hu : P.underlying t = some (.slice e)) (hc : P.cellsOf e = sz)
  (hel : ∀ fuel cs x, DataW.trod enc P w base spare held fuel e cs = some x → ∃ a, K a cs)
  (h : DataW.trod enc P w base spare held fuel t [.slice A len cap] = some x) :
  ∃ l : List α, l.length = len ∧ ReadsRow K sz w A len l ∧ len ≤ cap ∧ len ≤ maxLen := by
 rcases DataW.trod_slice hu h with ⟨h0, _⟩ | ⟨a, len', cap', elems, rest, n, _, hcs, _, hb, hl, hm, hlen, hget, _, _⟩
 ·injection h0 with h0 _
  injection h0 with h1 h2 h3
  subst h1 h2 h3
  exact ⟨[], rfl, ⟨rfl, by omega, fun h => absurd h (by omega)⟩, Nat.le_refl _, by unfold maxLen; omega⟩
 ·injection hcs with h0 _
  injection h0 with h1 h2 h3
  subst h1 h2 h3
  have each : ∀ i, i < len → ∃ a0 : α, ∃ cs, cs.length = sz ∧ K a0 cs ∧ ∀ j u, cs[j]? = some u → w.cell? (a.add (i * sz + j)) = some u := by
   intro i hi
   have h1 := hget i hi
   rw [List.getElem?_eq_getElem (by omega), hc, Option.bind_eq_some_iff] at h1
   obtain ⟨cs, h2, h3⟩ := h1
   obtain ⟨a0, ha0⟩ := hel _ _ _ h3
   obtain ⟨c1, c2, c3⟩ := World.cells?_some h2
   refine ⟨a0, cs, c2, ha0, fun j u hj => ?_⟩
   have hjl : j < sz := by rw [← c2]; exact (List.getElem?_eq_some_iff.1 hj).1
   have := c3 j hjl
   rw [hj] at this
   rw [← this, add_add]
  have build : ∀ m, m ≤ len → ∃ l : List α, l.length = m ∧ ∀ j p, l[j]? = some p → ∃ c, c.length = sz ∧ K p c ∧ ∀ i u, c[i]? = some u → w.cell? (a.add (j * sz + i)) = some u := by
   intro m
   induction m with
   | zero => intro _; exact ⟨[], rfl, fun j p h => by simp at h⟩
   | succ m ih =>
    intro hm'
    obtain ⟨l, h1, h2⟩ := ih (by omega)
    obtain ⟨a0, cs, h3, h4, h5⟩ := each m (by omega)
    refine ⟨l ++ [a0], by simp [h1], fun j p hj => ?_⟩
    by_cases hjm : j < m
    ·rw [List.getElem?_append_left (by omega)] at hj
     exact h2 j p hj
    ·have hjl := (List.getElem?_eq_some_iff.1 hj).1
     simp only [List.length_append, List.length_singleton] at hjl
     obtain rfl : j = m := by omega
     rw [← h1, List.getElem?_append_right (Nat.le_refl _), Nat.sub_self] at hj
     have : a0 = p := by simpa using hj
     subst this
     exact ⟨cs, h3, h4, h5⟩
  obtain ⟨l, h1, h2⟩ := build len (Nat.le_refl _)
  exact ⟨l, h1, ⟨h1, by have := Nat.le_trans hl hm; unfold maxLen at this; omega, fun _ => ⟨a, rfl, h2⟩⟩, hl, Nat.le_trans hl hm⟩
theorem open_longs {H : Type} {enc : TypeId × Value → H} {w : World} {base : Nat} {spare : Nat → Bool} {held : Bool} {A : Option Addr} {len cap : Nat} {d : DataW H} {ps : List MemPlace}
  (h : DataW.Trod enc Tryz.prog w base spare held 23 (.slice A len cap) d ps) :
  ∃ l : List Int, l.length = len ∧ (Kd.int .i64).C w A len l ∧ len ≤ cap ∧ len ≤ maxLen := by
 obtain ⟨fuel, hf⟩ := h
 exact open_rows (fun (b : Int) cs => cs = [.int .i64 b]) 1 Tryz.underlying23 (by kernel_rfl) (fun _ _ _ h => by obtain ⟨b, h1, _, _⟩ := DataW.trod_int (k := .i64) (by kernel_rfl) h; exact ⟨b, h1⟩) hf
set_option maxRecDepth 100000 in
/-- a slice of pairs. -/
theorem open_pairs {H : Type} {enc : TypeId × Value → H} {w : World} {base : Nat} {spare : Nat → Bool} {held : Bool} {A : Option Addr} {len cap : Nat} {d : DataW H} {ps : List MemPlace}
  (h : DataW.Trod enc Tryz.prog w base spare held 24 (.slice A len cap) d ps) :
  ∃ l : List S85, l.length = len ∧ Kd.C k85 w A len l ∧ len ≤ cap ∧ len ≤ maxLen := by
 obtain ⟨fuel, hf⟩ := h
 obtain ⟨l, h1, h2, h3, h4⟩ := open_rows (fun (b : S85) cs => cs = [.int .i64 b.f0, .int .i64 b.f1]) 2 Tryz.underlying24 (by kernel_rfl) (fun fuel cs x h => by
  obtain ⟨y0, y1, n, rfl, hl, e0, e1⟩ := trod_struct2 Tryz.underlying85 h
  obtain ⟨n0, c0, _, _⟩ := DataW.trod_int (k := .i64) (by kernel_rfl) e0
  obtain ⟨n1, c1, _, _⟩ := DataW.trod_int (k := .i64) (by kernel_rfl) e1
  have hl2 : cs.length = 2 := by rw [hl]; kernel_rfl
  refine ⟨⟨n0, n1⟩, ?_⟩
  match cs, hl2 with
  | [u0, u1], _ =>
   rw [show Tryz.prog.cellsOf _ = 1 by kernel_rfl] at c0 c1
   simp at c0 c1
   rw [c0, c1]) hf
 refine ⟨l, h1, ⟨h2.1, h2.2.1, fun hp => ?_⟩, h3, h4⟩
 obtain ⟨a, ha, hb⟩ := h2.2.2 hp
 refine ⟨a, ha, fun j p hj => ?_⟩
 obtain ⟨c, c1, c2, c3⟩ := hb j p hj
 exact ⟨c, c1, c2 ▸ k85_mk w p, c3⟩
set_option maxRecDepth 100000 in
/-- a slice of steps. -/
theorem open_steps {H : Type} {enc : TypeId × Value → H} {w : World} {base : Nat} {spare : Nat → Bool} {held : Bool} {A : Option Addr} {len cap fuel : Nat} {x : DataW H × List MemPlace}
  (hf : DataW.trod enc Tryz.prog w base spare held fuel 35 [.slice A len cap] = some x) :
  ∃ l : List S72, l.length = len ∧ Kd.C k72 w A len l := by
 obtain ⟨l, h1, h2, h3, h4⟩ := open_rows (fun (b : S72) cs => cs = [.int .i64 b.f0, .int .i64 b.f1]) 2 Tryz.underlying35 (by kernel_rfl) (fun fuel cs x h => by
  obtain ⟨y0, y1, n, rfl, hl, e0, e1⟩ := trod_struct2 Tryz.underlying72 h
  obtain ⟨n0, c0, _, _⟩ := DataW.trod_int (k := .i64) (by kernel_rfl) e0
  obtain ⟨n1, c1, _, _⟩ := DataW.trod_int (k := .i64) (by kernel_rfl) e1
  have hl2 : cs.length = 2 := by rw [hl]; kernel_rfl
  refine ⟨⟨n0, n1⟩, ?_⟩
  match cs, hl2 with
  | [u0, u1], _ =>
   rw [show Tryz.prog.cellsOf _ = 1 by kernel_rfl] at c0 c1
   simp at c0 c1
   rw [c0, c1]) hf
 refine ⟨l, h1, ⟨h2.1, h2.2.1, fun hp => ?_⟩⟩
 obtain ⟨a, ha, hb⟩ := h2.2.2 hp
 refine ⟨a, ha, fun j p hj => ?_⟩
 obtain ⟨c, c1, c2, c3⟩ := hb j p hj
 exact ⟨c, c1, c2 ▸ k72_mk w p, c3⟩
set_option maxRecDepth 100000 in
/-- a slice of what is to be done. -/
theorem open_dos {H : Type} {enc : TypeId × Value → H} {w : World} {base : Nat} {spare : Nat → Bool} {held : Bool} {A : Option Addr} {len cap : Nat} {d : DataW H} {ps : List MemPlace}
  (h : DataW.Trod enc Tryz.prog w base spare held 25 (.slice A len cap) d ps) :
  ∃ l : List Do3, l.length = len ∧ DoAt w A l ∧ len ≤ maxLen := by
 obtain ⟨fuel, hf⟩ := h
 obtain ⟨l, h1, h2, h3, h4⟩ := open_rows (fun (b : Do3) cs => ∃ A1 c1, cs = [.int .i64 b.who, .int .i64 b.n, .slice A1 b.steps.length c1] ∧ Kd.C k72 w A1 b.steps.length b.steps) 3 Tryz.underlying25 (by kernel_rfl) (fun fuel cs x h => by
  obtain ⟨xs, n, _, rfl, hl, hlen, hf⟩ := DataW.trod_struct Tryz.underlying37 h
  have hl2 : cs.length = 3 := by rw [hl]; kernel_rfl
  have e0 := hf 0 _ rfl
  have e1 := hf 1 _ rfl
  have e2 := hf 2 _ rfl
  match xs, hlen, cs, hl2 with
  | [y0, y1, y2], _, [u0, u1, u2], _ =>
   simp only [List.getElem?_cons_zero, List.getElem?_cons_succ] at e0 e1 e2
   obtain ⟨n0, c0, _, _⟩ := DataW.trod_int (k := .i64) (by kernel_rfl) e0
   obtain ⟨n1, c1, _, _⟩ := DataW.trod_int (k := .i64) (by kernel_rfl) e1
   rw [show Tryz.prog.cellsOf _ = 1 by kernel_rfl] at c0 c1
   simp at c0 c1
   subst c0 c1
   rw [show Tryz.prog.cellsOf _ = 1 by kernel_rfl] at e2
   simp at e2
   have hs : ∃ A1 n1 c1, u2 = .slice A1 n1 c1 := by
    rcases DataW.trod_slice Tryz.underlying35 e2 with ⟨h0, _⟩ | ⟨a, len', cap', elems, rest, n, _, hcs, _⟩
    ·injection h0 with h0 _
     exact ⟨_, _, _, h0⟩
    ·injection hcs with h0 _
     exact ⟨_, _, _, h0⟩
   obtain ⟨A1, m1, c1, rfl⟩ := hs
   obtain ⟨st, hst, hC⟩ := open_steps e2
   subst hst
   exact ⟨⟨n0, n1, st⟩, A1, c1, rfl, hC⟩) hf
 refine ⟨l, h1, fun k hk => ?_, h4⟩
 obtain ⟨a, ha, hb⟩ := h2.2.2 (by omega)
 obtain ⟨c, c1, ⟨A1, cc, rfl, c2⟩, c4⟩ := hb k l[k] (List.getElem?_eq_getElem hk)
 exact ⟨a, A1, cc, ha, c4 0 _ rfl, by rw [← add_field2 _ _ 1 (by omega)]; exact c4 1 _ rfl, by rw [← add_field2 _ _ 2 (by omega)]; exact c4 2 _ rfl, c2⟩
end Go.Proofs.YtfimkmlgnmaopaaGreat.Open
