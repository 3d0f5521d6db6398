/- Part 7 of what is proved of the functions that the law reaches (contracts of functions, plain laws): no condition but those that each theorem names. -/
import Derived.Test.YtfimkmlgnmaopaaGreatKD6
namespace Go.Proofs.YtfimkmlgnmaopaaGreat.Top
set_option maxHeartbeats 40000000
set_option maxRecDepth 100000
open Go.RowKit Go.Proofs.YtfimkmlgnmaopaaGreatW.PrintWords Go.Proofs.YtfimkmlgnmaopaaGreatW.PrintLast Go.Proofs.YtfimkmlgnmaopaaGreatW.PrintMore Go.Proofs.YtfimkmlgnmaopaaGreat.PTopNames
set_option linter.unusedVariables false
set_option linter.unusedSimpArgs false
theorem job_step {j : S125} (h : JobOk j) : stepOf j ∈ j.f1 := by
  have h2 := h.at0;have h4 := h.atl;obtain ⟨t, ht⟩ : ∃ t : Nat, j.f2 = t := ⟨j.f2.toNat, by omega⟩;unfold stepOf;rw [ht] at h4 |-;have ht2 : t < j.f1.length := by omega
  rw [show rd_T72 j.f1 (t : Int) = j.f1[t] by simp [rd_T72, ht2]];exact List.getElem_mem ht2
theorem good_step {p : List S72} (h : pgoodB p = true) {s : S72} (hs : s ∈ p) : poddB s = false := by
  unfold pgoodB at h;simp only [Bool.and_eq_true, Bool.not_eq_true'] at h;have := h.2;rw [List.any_eq_false] at this;simpa using this s hs
section
variable {M now c : Int} {wt : Nat -> Int} {D : Nat -> Prop} {l : List S57} {q : List S63} {R : Nat -> List Nat}
theorem ServOk.head {d : Prop} {ql : Nat} {x : S57} (h : ServOk now c d ql x) (hb : x.f2 ≠ []) : ∃ j js, x.f2 = j :: js /\ JobOk j /\ (∀ s ∈ j.f1, s.f0 <= ql) /\ servStep x = stepOf j /\ doneOf x = j.f3 := by
  cases hx : x.f2 with
  | nil => exact absurd hx hb
  | cons j js =>
    have hj := h.jobs j (by rw [hx]; simp);exact ⟨j, js, rfl, hj.1, hj.2, by unfold servStep; rw [hx]; rfl, by unfold doneOf; rw [hx]; rfl⟩
theorem ServOk.step_le {d : Prop} {ql : Nat} {x : S57} (h : ServOk now c d ql x) (hb : x.f2 ≠ []) : (servStep x).f0 <= ql := by
  obtain ⟨j, js, _, hj, hq, hs, _⟩ := h.head hb;rw [hs];exact hq _ (job_step hj)
theorem Inv.row_fixed (h : Inv M now c wt (fun _ => False) l q R) (n : Nat) {k : Nat} (hk : k ∈ R n) : k < l.length /\ fixd (at_ l k) = true := by
  have hm := (h.rows.mem n k).1 hk;obtain ⟨n', hn', _, ht⟩ := h.fixed_due hm.1 hm.2.1;have h2 := ht (fun _ _ _ => id);have h3 := ((h.serv k hm.1).secm hm.2.1).2 (by omega);refine ⟨hm.1, ?_⟩;unfold fixd;simp [h3, hm.2.1]
theorem Inv.row_count (h : Inv M now c wt (fun _ => False) l q R) (n : Nat) : (R n).length <= l.countP fixd := by
  have h1 := nodup_sub (m := (List.range l.length).filter (fun k => fixd (at_ l k))) (h.rows.nodup n) (fun k hk => by
    have := h.row_fixed n hk;exact List.mem_filter.2 ⟨List.mem_range.2 this.1, this.2⟩)
  rw [count_at];rw [List.countP_eq_length_filter];exact h1
theorem countP_set_succ {p : S57 -> Bool} {l : List S57} : ∀ {i : Nat} {x : S57}, (l.set i x).countP p <= l.countP p + 1 := by
  induction l with
  | nil => simp
  | cons a r ih =>
    intro i x
    cases i with
    | zero =>
      simp only [List.set_cons_zero, List.countP_cons];split <;> split <;> omega
    | succ i =>
      simp only [List.set_cons_succ, List.countP_cons];have := ih (i := i) (x := x);omega
theorem grant1_eq (now : Int) (l : List S57) (q : List S63) (ev : List Ev) (i : Nat) {k : Nat} (hk : k < q.length) : grant1 now (l, q, ev) (i, (k : Int) + 1) = if q[k].f1 ≠ 0 then (l.set i { at_ l i with f3 := 1 }, q.set k { q[k] with f2 := q[k].f2 ++ [(at_ l i).f0] }, ev) else (l.set i { at_ l i with f3 := 2, f4 := 0 }, q.set k { q[k] with f1 := (at_ l i).f0, f3 := false }, ev ++ (if q[k].f3 then [⟨now, 7, (at_ l i).f0, 0⟩] else []) ++ [⟨now, 6, (at_ l i).f0, (k : Int) + 1⟩]) := by
  have e1 : ((k : Int) + 1 - 1).toNat = k := by omega
  have e2 : q.getD k z63 = q[k] := by simp [hk]
  unfold grant1;simp only [e1, e2];rfl
def pushR (R : Nat -> List Nat) (k i : Nat) : Nat -> List Nat := fun n => if n = k then R k ++ [i] else R n
theorem Inv.grant (h : Inv M now c wt (fun _ => False) l q R) (ho : Open now l) {i k : Nat} (hi : i < l.length) (hm : (at_ l i).f1.f4 = 1) (h3 : (at_ l i).f3 = 0) (hs : (servStep (at_ l i)).f0 = (k : Int) + 1) (hk : k < q.length) (hb : M * q[k].f0 <= (at_ l i).f1.f2) (hd : M * q[k].f0 <= (at_ l i).f1.f3 - now) (hc : (l.countP fixd : Int) + 1 <= M) (hw : wt i <= 0) (ev : List Ev) :
    Inv M now c wt (fun _ => False) (grant1 now (l, q, ev) (i, (k : Int) + 1)).1 (grant1 now (l, q, ev) (i, (k : Int) + 1)).2.1 (pushR R k i) := by
  have hser := h.serv i hi;have hqm := h.qmost k hk;have hids := h.rows.ids k hk;have hi0 : (at_ l i).f0 ≠ 0 := by have := h.sane.id i hi; rw [at_lt hi]; omega
  obtain ⟨x, sec, hl', hf0, hf1, hf2, hf3, hf4, hf56, hsec⟩ : ∃ (x : S57) (sec : Int), (grant1 now (l, q, ev) (i, (k : Int) + 1)).1 = l.set i x /\ x.f0 = (at_ l i).f0 /\ x.f1 = (at_ l i).f1 /\ x.f2 = (at_ l i).f2 /\ x.f3 = sec /\ (x.f4 = if sec = 2 then 0 else (at_ l i).f4) /\ (x.f5 = (at_ l i).f5 /\ x.f6 = (at_ l i).f6) /\ sec = (if q[k].f1 ≠ 0 then 1 else 2) := by
    rw [grant1_eq now l q ev i hk];by_cases e : q[k].f1 ≠ 0
    · rw [if_pos e];exact ⟨_, 1, rfl, rfl, rfl, rfl, rfl, by rw [if_neg (by decide)], ⟨rfl, rfl⟩, by rw [if_pos e]⟩
    · rw [if_neg e];exact ⟨_, 2, rfl, rfl, rfl, rfl, rfl, by rw [if_pos rfl], ⟨rfl, rfl⟩, by rw [if_neg e]⟩
  obtain ⟨y, hq', hy0, hy1, hy2⟩ : ∃ y : S63, (grant1 now (l, q, ev) (i, (k : Int) + 1)).2.1 = q.set k y /\ y.f0 = q[k].f0 /\ (y.f1 = if q[k].f1 ≠ 0 then q[k].f1 else (at_ l i).f0) /\ (y.f2 = if q[k].f1 ≠ 0 then q[k].f2 ++ [(at_ l i).f0] else q[k].f2) := by
    rw [grant1_eq now l q ev i hk];by_cases e : q[k].f1 ≠ 0
    · rw [if_pos e, if_pos e, if_pos e];exact ⟨_, rfl, rfl, rfl, rfl⟩
    · rw [if_neg e, if_neg e, if_neg e];exact ⟨_, rfl, rfl, rfl, rfl⟩
  rw [hl', hq']
  have hat : ∀ k', at_ (l.set i x) k' = if k' = i then x else at_ l k' := fun k' => by
    rw [at_set];by_cases e : k' = i
    · rw [if_pos ⟨e, hi⟩, if_pos e]
    · rw [if_neg (fun h => e h.1), if_neg e]
  have hss : servStep x = servStep (at_ l i) := by unfold servStep; rw [hf2]
  have hdn : doneOf x = doneOf (at_ l i) := by unfold doneOf; rw [hf2]
  have hsec1 : sec = 1 \/ sec = 2 := by rw [hsec]; split <;> simp
  have hnil : q[k].f1 = 0 ↔ R k = [] := by
    constructor
    · intro e;rw [if_pos e] at hids;exact List.map_eq_nil_iff.1 hids.symm
    · intro e;rw [e] at hids;by_cases e2 : q[k].f1 = 0
      · exact e2
      · rw [if_neg e2] at hids; simp at hids
  have hsec2 : R k = [] -> sec = 2 := fun e => by rw [hsec, if_neg (fun hc => hc (hnil.2 e))]
  have hni : ∀ n, i ∉ R n := fun n hmem => ((h.rows.mem n i).1 hmem).2.1 h3
  have hne : ∀ n k', k' ∈ R n -> k' ≠ i := fun n k' hmem e => hni n (e ▸ hmem)
  refine ⟨?_, h.now0, h.now1, by rw [List.length_set]; exact h.qlen, fun n hn => ?_, fun k' hk' => ?_, ?_⟩
  · refine ⟨h.sane.m1, h.sane.m2, by rw [List.length_set]; exact h.sane.len, ?_, ?_, ?_⟩
    · rw [sorted_at];intro a b hab hb2;rw [List.length_set] at hb2;have e : ∀ k', (at_ (l.set i x) k').f0 = (at_ l k').f0 := fun k' => by rw [hat]; split <;> simp_all
      rw [e, e];exact sorted_at.1 h.sane.sorted a b hab hb2
    · intro k' hk';have hk2 : k' < l.length := by simpa using hk'
      rw [<- at_lt hk', hat];split
      · rw [hf0, at_lt hi]; exact h.sane.id i hi
      · rw [at_lt hk2]; exact h.sane.id k' hk2
    · rw [fixes_count];have : (l.set i x).countP fixd <= l.countP fixd + 1 := countP_set_succ;omega
  · rw [List.getElem_set];split
    · subst_vars; rw [hy0]; exact hqm
    · exact h.qmost n (by simpa using hn)
  · rw [List.length_set] at hk';rw [hat];by_cases e : k' = i
    · subst e;rw [if_pos rfl];rw [List.length_set]
      exact { cbs := by rw [hf1]; exact hser.cbs
              due := by rw [hf1]; exact hser.due
              ahead := by rw [hf1]; exact hser.ahead
              idle := fun e => by rw [hf1, hm] at e; exact absurd e (by decide)
              busy := by rw [hf1, hf2]; exact hser.busy
              jlen := by rw [hf2]; exact hser.jlen
              jobs := by rw [hf2]; exact hser.jobs
              rest := by rw [hf2]; exact hser.rest
              sec := by rw [hf3]; omega
              spin := fun _ => by rw [hss, hdn]; exact hser.spin (by omega)
              sem := fun _ => by rw [hss, hs]; omega
              secm := fun _ => by rw [hf1, hm]; exact ⟨by decide, fun _ => rfl⟩
              part := fun _ => by rw [hss, hdn]; exact hser.part (by rw [hm]; decide)
              held := by rw [hf4]; split; (· decide); exact hser.held
              ran := by rw [hf56.2]; exact hser.ran
              num := by rw [hf56.1]; exact hser.num }
    · rw [if_neg e, List.length_set]; exact h.serv k' hk'
  · have hrow : ∀ n, n ≠ k -> pushR R k i n = R n := fun n e => if_neg e
    have hrowk : pushR R k i k = R k ++ [i] := if_pos rfl;have hold : ∀ n k', k' ∈ R n -> at_ (l.set i x) k' = at_ l k' := fun n k' hmem => by rw [hat, if_neg (hne n k' hmem)]
    have hcnt := h.row_count k;have hqn : ∀ n (hn : n < (q.set k y).length), n ≠ k -> (q.set k y)[n] = q[n]'(by simpa using hn) := fun n hn e => by rw [List.getElem_set, if_neg (fun e2 => e e2.symm)]
    have hqk : ∀ (hn : k < (q.set k y).length), (q.set k y)[k] = y := fun hn => by rw [List.getElem_set, if_pos rfl]
    refine ⟨fun n hn e => ?_, fun n hn => ?_, fun n => ?_, fun n k' => ?_, fun n a r e => ?_, fun n hn a r e => ?_, fun n hn p a hp => ?_, fun n hn p a hp => ?_⟩
    · by_cases en : n = k
      · subst en;rw [hqk] at e |-;rw [hy1] at e;by_cases e1 : q[n].f1 ≠ 0
        · rw [if_pos e1] at e; exact absurd e e1
        · rw [if_neg e1] at e; exact absurd e hi0
      · rw [hqn n hn en] at e |-;exact h.rows.hold0 n (by simpa using hn) e
    · by_cases en : n = k
      · subst en;rw [hqk, hrowk, List.map_append, List.map_congr_left (g := fun k' => (at_ l k').f0) (fun k' hk' => by rw [hold n k' hk']), <- hids];have ex : (at_ (l.set i x) i).f0 = (at_ l i).f0 := by rw [hat, if_pos rfl]; exact hf0
        rw [hy1, hy2];by_cases e1 : q[n].f1 ≠ 0
        · rw [if_pos e1, if_pos e1, if_neg e1];simp [ex, if_neg e1]
        · rw [if_neg e1, if_neg e1, if_neg hi0];have e2 : q[n].f1 = 0 := by simpa using e1
          rw [h.rows.hold0 n hk e2, if_pos e2];simp [ex]
      · rw [hqn n hn en, hrow n en, h.rows.ids n (by simpa using hn)];exact List.map_congr_left (fun k' hk' => by rw [hold n k' hk'])
    · by_cases en : n = k
      · subst en;rw [hrowk]
        exact List.nodup_append.2 ⟨h.rows.nodup n, by simp, fun a ha b hb => by
          simp only [List.mem_cons, List.not_mem_nil, or_false] at hb;subst hb;exact hne n a ha⟩
      · rw [hrow n en]; exact h.rows.nodup n
    · rw [List.length_set];by_cases ek : k' = i
      · subst ek;rw [hat, if_pos rfl, hss, hs, hf3];by_cases en : n = k
        · subst en;rw [hrowk];exact ⟨fun _ => ⟨hi, by omega, rfl⟩, fun _ => by simp⟩
        · rw [hrow n en];exact ⟨fun hm => absurd hm (hni n), fun hm => absurd hm.2.2 (by omega)⟩
      · rw [hat, if_neg ek];by_cases en : n = k
        · subst en;rw [hrowk, <- h.rows.mem n k'];simp [ek]
        · rw [hrow n en]; exact h.rows.mem n k'
    · by_cases en : n = k
      · subst en;rw [hrowk] at e
        cases hR : R n with
        | nil =>
          rw [hR] at e;simp only [List.nil_append, List.cons.injEq] at e;obtain ⟨rfl, rfl⟩ := e;rw [hat, if_pos rfl, hf3, hsec2 hR];exact ⟨rfl, fun k' hk' => by simp at hk'⟩
        | cons b s =>
          rw [hR] at e;simp only [List.cons_append, List.cons.injEq] at e;obtain ⟨rfl, rfl⟩ := e;have h1 := h.rows.first n b s hR;rw [hold n b (by rw [hR]; simp)];refine ⟨h1.1, fun k' hk' => ?_⟩;rcases List.mem_append.1 hk' with hk' | hk'
          · rw [hold n k' (by rw [hR]; exact List.mem_cons_of_mem _ hk')]; exact h1.2 k' hk'
          · simp only [List.mem_cons, List.not_mem_nil, or_false] at hk';subst hk';rw [hat, if_pos rfl, hf3, hsec, if_pos (fun e => by rw [hnil.1 e] at hR; simp at hR)]
      · rw [hrow n en] at e;have h1 := h.rows.first n a r e;rw [hold n a (by rw [e]; simp)];exact ⟨h1.1, fun k' hk' => by rw [hold n k' (by rw [e]; exact List.mem_cons_of_mem _ hk')]; exact h1.2 k' hk'⟩
    · by_cases en : n = k
      · subst en;rw [hqk, hy0];rw [hrowk] at e
        cases hR : R n with
        | nil =>
          rw [hR] at e;simp only [List.nil_append, List.cons.injEq] at e;obtain ⟨rfl, rfl⟩ := e;rw [hat, if_pos rfl, hf4, if_pos (hsec2 hR)];exact ⟨by omega, fun _ => by omega⟩
        | cons b s =>
          rw [hR] at e;simp only [List.cons_append, List.cons.injEq] at e;obtain ⟨rfl, rfl⟩ := e;rw [hold n b (by rw [hR]; simp)];exact h.rows.most n hk b s hR
      · rw [hqn n hn en];rw [hrow n en] at e;rw [hold n a (by rw [e]; simp)];exact h.rows.most n (by simpa using hn) a r e
    · by_cases en : n = k
      · subst en;rw [hqk, hy0];rw [hrowk] at hp |-
        cases hR : R n with
        | nil =>
          rw [hR] at hp;simp only [List.nil_append] at hp |-
          cases p with
          | succ p => simp at hp
          | zero =>
            simp only [List.getElem?_cons_zero, Option.some.injEq] at hp;subst hp;simp only [List.headD_cons];rw [hat, if_pos rfl, hf1, hf4, if_pos (hsec2 hR)];have := h.sane.m1;have h5 : 1 * q[n].f0 <= M * q[n].f0 := Int.mul_le_mul_of_nonneg_right this (by omega);simp only [Int.natCast_zero, Int.zero_mul, Int.cast_ofNat_Int];omega
        | cons b s =>
          rw [hR] at hp;simp only [List.cons_append, List.headD_cons];rw [hold n b (by rw [hR]; simp)];rw [hR] at hcnt;by_cases hlt : p < (b :: s).length
          · rw [List.getElem?_append_left hlt] at hp;have h1 := h.rows.time n hk p a (by rw [hR]; exact hp);rw [hR] at h1;rw [hold n a (by rw [hR]; exact List.mem_of_getElem? hp)];exact h1
          · have hpe : p = (b :: s).length := by
              rcases Nat.lt_or_ge p ((b :: s).length + 1) with h6 | h6
              · omega
              · rw [List.getElem?_eq_none (by simp at *; omega)] at hp; cases hp
            subst hpe;rw [List.getElem?_append_right (Nat.le_refl _), Nat.sub_self] at hp;simp only [List.getElem?_cons_zero, Option.some.injEq] at hp;subst hp;rw [hat, if_pos rfl, hf1];have hb4 : 0 <= (at_ l b).f4 := (h.serv b ((h.rows.mem n b).1 (by rw [hR]; simp)).1).held.1;have h5 : (((b :: s).length : Int) + 1) * q[n].f0 <= M * q[n].f0 := Int.mul_le_mul_of_nonneg_right (by omega) (by omega);rw [Int.add_mul, Int.one_mul] at h5;omega
      · rw [hqn n hn en];rw [hrow n en] at hp |-;have hmem := List.mem_of_getElem? hp;rw [hold n a hmem];have h1 := h.rows.time n (by simpa using hn) p a hp
        cases hR : R n with
        | nil => rw [hR] at hp; simp at hp
        | cons b s =>
          rw [hR] at h1;simp only [List.headD_cons] at h1 |-;rw [hold n b (by rw [hR]; simp)];exact h1
    · by_cases en : n = k
      · subst en;rw [hqk, hy0];rw [hrowk] at hp |-
        cases hR : R n with
        | nil =>
          rw [hR] at hp;simp at hp
        | cons b s =>
          rw [hR] at hp;simp only [List.cons_append, List.headD_cons];rw [hold n b (by rw [hR]; simp)];rw [hR] at hcnt;by_cases hlt : p + 1 < (b :: s).length
          · rw [List.getElem?_append_left hlt] at hp;have h1 := h.rows.wait n hk p a (by rw [hR]; exact hp);rw [hR] at h1;exact h1
          · have hpe : p + 1 = (b :: s).length := by
              rcases Nat.lt_or_ge (p + 1) ((b :: s).length + 1) with h6 | h6
              · omega
              · rw [List.getElem?_eq_none (by simp at *; omega)] at hp; cases hp
            rw [hpe, List.getElem?_append_right (Nat.le_refl _), Nat.sub_self] at hp;simp only [List.getElem?_cons_zero, Option.some.injEq] at hp;subst hp;have hb4 : 0 <= (at_ l b).f4 := (h.serv b ((h.rows.mem n b).1 (by rw [hR]; simp)).1).held.1;have h5 : ((p : Int) + 1) * q[n].f0 <= (M - 1) * q[n].f0 := Int.mul_le_mul_of_nonneg_right (by omega) (by omega);rw [Int.add_mul, Int.one_mul] at h5;omega
      · rw [hqn n hn en];rw [hrow n en] at hp |-;have hmem := List.mem_of_getElem? hp;have h1 := h.rows.wait n (by simpa using hn) p a hp
        cases hR : R n with
        | nil => rw [hR] at hp; simp at hp
        | cons b s =>
          rw [hR] at h1;simp only [List.headD_cons] at h1 |-;rw [hold n b (by rw [hR]; simp)];exact h1
end
def noD : Nat -> Prop := fun _ => False
def Grows (R R' : Nat -> List Nat) : Prop := ∀ n, ∃ s, R' n = R n ++ s
theorem Grows.refl (R : Nat -> List Nat) : Grows R R := fun n => ⟨[], by simp⟩
theorem Grows.trans {a b c : Nat -> List Nat} (h : Grows a b) (k : Grows b c) : Grows a c := fun n => by
  obtain ⟨s, hs⟩ := h n;obtain ⟨t, ht⟩ := k n;exact ⟨s ++ t, by rw [ht, hs, List.append_assoc]⟩
theorem grows_push (R : Nat -> List Nat) (k i : Nat) : Grows R (pushR R k i) := fun n => by
  unfold pushR;split
  · subst_vars; exact ⟨[i], rfl⟩
  · exact ⟨[], by simp⟩
section
variable {M now c : Int} {wt : Nat -> Int} {l : List S57} {q : List S63} {R : Nat -> List Nat}
structure AskOk (M now : Int) (l : List S57) (q : List S63) (p : Nat × Int) : Prop where
  lt : p.1 < l.length
  m : (at_ l p.1).f1.f4 = 1
  s0 : (at_ l p.1).f3 = 0
  st : p.2 = (servStep (at_ l p.1)).f0
  pos : 0 < p.2
  b : M * (q.getD (p.2 - 1).toNat z63).f0 <= (at_ l p.1).f1.f2
  d : M * (q.getD (p.2 - 1).toNat z63).f0 <= (at_ l p.1).f1.f3 - now
theorem asks_ok (hs : Sorted l) (hr : refuseL M now l q = none) {p : Nat × Int} (hp : p ∈ asksL M l) : AskOk M now l q p := by
  obtain ⟨h1, h2, h3, h4, h5⟩ := asks_at hs hp;unfold refuseL at hr;have h6 := List.find?_eq_none.1 hr p hp;unfold askFails enoughB at h6;simp only [Bool.not_eq_true', Bool.and_eq_false_iff, decide_eq_false_iff_not, not_or, Int.not_le, Bool.not_eq_false, Bool.not_eq_true, Bool.and_eq_true, decide_eq_true_eq, Decidable.not_not] at h6;exact ⟨h1, h2, h3, h4, h5, Int.not_lt.1 h6.1, Int.not_lt.1 h6.2⟩
structure Granted (M now c : Int) (wt : Nat -> Int) (l : List S57) (q : List S63) (R : Nat -> List Nat) (is : List Nat) (l' : List S57) (q' : List S63) (R' : Nat -> List Nat) : Prop where
  inv : Inv M now c wt noD l' q' R'
  op : Open now l'
  gr : Grows R R'
  len : l'.length = l.length
  qlen : q'.length = q.length
  most : ∀ n, (q'.getD n z63).f0 = (q.getD n z63).f0
  same : ∀ k, (at_ l' k).f0 = (at_ l k).f0 /\ (at_ l' k).f1 = (at_ l k).f1 /\ (at_ l' k).f2 = (at_ l k).f2
  oth : ∀ k, k ∉ is -> at_ l' k = at_ l k
  sec : ∀ k, k ∈ is -> (at_ l' k).f3 ≠ 0
theorem grant_one (h : Inv M now c wt noD l q R) (ho : Open now l) {p : Nat × Int} (hp : AskOk M now l q p) (hc : (l.countP fixd : Int) + 1 <= M) (hw : wt p.1 <= 0) (ev : List Ev) :
    ∃ R', Granted M now c wt l q R [p.1] (grant1 now (l, q, ev) p).1 (grant1 now (l, q, ev) p).2.1 R' /\ (∀ p' : Nat × Int, p'.1 ≠ p.1 -> AskOk M now l q p' -> AskOk M now (grant1 now (l, q, ev) p).1 (grant1 now (l, q, ev) p).2.1 p') /\ (grant1 now (l, q, ev) p).1.countP fixd <= l.countP fixd + 1 := by
  obtain ⟨i, s⟩ := p;obtain ⟨h1, h2, h3, h4, h5, h6, h7⟩ := hp;dsimp only at *;obtain ⟨k, rfl⟩ : ∃ k : Nat, s = (k : Int) + 1 := ⟨(s - 1).toNat, by omega⟩;have hb2 : (at_ l i).f2 ≠ [] := (h.serv i h1).busy (by rw [h2]; decide);have hk : k < q.length := by have := (h.serv i h1).step_le hb2; omega
  have e1 : ((k : Int) + 1 - 1).toNat = k := by omega
  have e2 : q.getD k z63 = q[k] := by simp [hk]
  rw [e1, e2] at h6 h7;have hg := h.grant ho h1 h2 h3 h4.symm hk h6 h7 hc hw ev
  have hl : (grant1 now (l, q, ev) (i, (k : Int) + 1)).1 = l.set i { at_ l i with f3 := if q[k].f1 ≠ 0 then 1 else 2, f4 := if q[k].f1 ≠ 0 then (at_ l i).f4 else 0 } := by
    rw [grant1_eq now l q ev i hk];split <;> rfl
  have hq : ∃ y : S63, (grant1 now (l, q, ev) (i, (k : Int) + 1)).2.1 = q.set k y /\ y.f0 = q[k].f0 := by
    rw [grant1_eq now l q ev i hk];split
    · exact ⟨_, rfl, rfl⟩
    · exact ⟨_, rfl, rfl⟩
  obtain ⟨y, hq, hy⟩ := hq;rw [hl, hq] at hg |-
  have hat : ∀ k', at_ (l.set i { at_ l i with f3 := if q[k].f1 ≠ 0 then 1 else 2, f4 := if q[k].f1 ≠ 0 then (at_ l i).f4 else 0 }) k' = if k' = i then { at_ l i with f3 := if q[k].f1 ≠ 0 then 1 else 2, f4 := if q[k].f1 ≠ 0 then (at_ l i).f4 else 0 } else at_ l k' := fun k' => by
    rw [at_set];by_cases e : k' = i
    · rw [if_pos ⟨e, h1⟩, if_pos e]
    · rw [if_neg (fun h => e h.1), if_neg e]
  have hmost : ∀ n, ((q.set k y).getD n z63).f0 = (q.getD n z63).f0 := fun n => by
    rw [List.getD_eq_getElem?_getD, List.getD_eq_getElem?_getD, List.getElem?_set];by_cases e : k = n
    · subst e; rw [if_pos rfl, if_pos hk]; simp [hy, hk]
    · rw [if_neg e]
  refine ⟨_, ⟨hg, fun k' hk' hm' => ?_, grows_push R k i, List.length_set .., List.length_set .., hmost, fun k' => ?_, fun k' hk' => ?_, fun k' hk' => ?_⟩, fun p' hp' ha => ?_, countP_set_succ⟩
  · rw [List.length_set] at hk';rw [hat] at hm' |-;by_cases e : k' = i
    · subst e; rw [if_pos rfl] at hm' |-; exact ho k' hk' hm'
    · rw [if_neg e] at hm' |-; exact ho k' hk' hm'
  · rw [hat]; split
    · subst_vars; exact ⟨rfl, rfl, rfl⟩
    · exact ⟨rfl, rfl, rfl⟩
  · rw [hat, if_neg (by simpa using hk')]
  · rw [hat, if_pos (by simpa using hk')];dsimp only;split <;> decide
  · obtain ⟨a1, a2, a3, a4, a5, a6, a7⟩ := ha;have e : at_ (l.set i { at_ l i with f3 := if q[k].f1 ≠ 0 then 1 else 2, f4 := if q[k].f1 ≠ 0 then (at_ l i).f4 else 0 }) p'.1 = at_ l p'.1 := by rw [hat, if_neg hp']
    exact ⟨by rw [List.length_set]; exact a1, by rw [e]; exact a2, by rw [e]; exact a3, by rw [e]; exact a4, a5, by rw [e, hmost]; exact a6, by rw [e, hmost]; exact a7⟩
theorem Granted.nil (h : Inv M now c wt noD l q R) (ho : Open now l) : Granted M now c wt l q R [] l q R := ⟨h, ho, Grows.refl R, rfl, rfl, fun _ => rfl, fun _ => ⟨rfl, rfl, rfl⟩, fun _ _ => rfl, fun _ h => by simp at h⟩
theorem Granted.trans {is js : List Nat} {l' l'' : List S57} {q' q'' : List S63} {R' R'' : Nat -> List Nat} (h : Granted M now c wt l q R is l' q' R') (k : Granted M now c wt l' q' R' js l'' q'' R'') (hd : ∀ i ∈ is, i ∉ js) : Granted M now c wt l q R (is ++ js) l'' q'' R'' where
  inv := k.inv
  op := k.op
  gr := h.gr.trans k.gr
  len := k.len.trans h.len
  qlen := k.qlen.trans h.qlen
  most := fun n => (k.most n).trans (h.most n)
  same := fun n => ⟨(k.same n).1.trans (h.same n).1, (k.same n).2.1.trans (h.same n).2.1, (k.same n).2.2.trans (h.same n).2.2⟩
  oth := fun n hn => by rw [k.oth n (fun e => hn (List.mem_append_right _ e)), h.oth n (fun e => hn (List.mem_append_left _ e))]
  sec := fun n hn => by
    by_cases e : n ∈ js
    · exact k.sec n e
    · rw [k.oth n e];exact h.sec n ((List.mem_append.1 hn).resolve_right e)
theorem grants : ∀ (ps : List (Nat × Int)) (l : List S57) (q : List S63) (R : Nat -> List Nat) (ev : List Ev), Inv M now c wt noD l q R -> Open now l -> (∀ p ∈ ps, AskOk M now l q p) -> (ps.map Prod.fst).Nodup -> (l.countP fixd : Int) + ps.length <= M -> (∀ p ∈ ps, wt p.1 <= 0) ->
    ∃ R', Granted M now c wt l q R (ps.map Prod.fst) (ps.foldl (grant1 now) (l, q, ev)).1 (ps.foldl (grant1 now) (l, q, ev)).2.1 R' := by
  intro ps
  induction ps with
  | nil => intro l q R ev h ho _ _ _ _; exact ⟨R, Granted.nil h ho⟩
  | cons p ps ih =>
    intro l q R ev h ho ha hn hc hw;simp only [List.length_cons] at hc;have hn2 := List.nodup_cons.1 (by simpa using hn : (p.1 :: ps.map Prod.fst).Nodup);obtain ⟨R1, hg, hk, hf⟩ := grant_one h ho (ha p (by simp)) (by omega) (hw p (by simp)) ev;have hps : ∀ p' ∈ ps, p'.1 ≠ p.1 := fun p' hp' e => hn2.1 (e ▸ List.mem_map_of_mem hp')
    obtain ⟨R2, hg2⟩ := ih _ _ R1 (grant1 now (l, q, ev) p).2.2 hg.inv hg.op (fun p' hp' => hk p' (hps p' hp') (ha p' (List.mem_cons_of_mem _ hp'))) hn2.2 (by omega) (fun p' hp' => hw p' (List.mem_cons_of_mem _ hp'));refine ⟨R2, ?_⟩
    have := hg.trans hg2 (fun i hi => by
      simp only [List.mem_cons, List.not_mem_nil, or_false] at hi;subst hi;exact hn2.1)
    exact this
structure Settled (M now c : Int) (wt : Nat -> Int) (l : List S57) (q : List S63) (R : Nat -> List Nat) : Prop where
  inv : Inv M now c wt noD l q R
  op : Open now l
  none : ∀ k, k ∈ placesOf M l -> asksB (at_ l k) = false
theorem asks_nodup (hs : Sorted l) : ((asksL M l).map Prod.fst).Nodup := by
  have e : (asksL M l).map Prod.fst = (placesOf M l).filter (fun i => asksB (at_ l i)) := by
    show (List.filterMap _ (placesOf M l)).map Prod.fst = _;rw [List.map_filterMap]
    induction placesOf M l with
    | nil => rfl
    | cons a r ih =>
      rw [List.filterMap_cons, List.filter_cons];by_cases ha : asksB (l.getD a z57) = true
      · rw [if_pos ha];simp only [Option.map_some];rw [ih, show asksB (at_ l a) = true from ha];rfl
      · rw [if_neg ha];simp only [Option.map_none];rw [ih];have ha2 : asksB (at_ l a) = false := Bool.eq_false_iff.2 ha;rw [ha2];rfl
  rw [e];exact (places_nodup hs).filter _
theorem places_M (h : Sane M l) : ((placesOf M l).length : Int) <= M := by
  have h1 := rank_lt (n := M) (es := readyL l) (by have := h.m1; omega) (by
    rw [List.nodup_iff_pairwise_ne];exact (readyL_sorted h.sorted).imp (fun h => by omega))
  unfold placesOf runsL;rw [List.length_map];have := h.m1;omega
theorem asks_count (h : Sane M l) : (l.countP fixd : Int) + (asksL M l).length <= M := by
  have h1 := places_M h
  have h2 : ((List.range l.length).filter (fun k => fixd (at_ l k)) ++ (asksL M l).map Prod.fst).length <= (placesOf M l).length := by
    refine nodup_sub (List.nodup_append.2 ⟨List.nodup_range.filter _, asks_nodup h.sorted, fun a ha b hb e => ?_⟩) (fun x hx => ?_)
    · subst e;obtain ⟨p, hp, rfl⟩ := List.mem_map.1 hb;have h3 := (asks_at h.sorted hp).2.2.1;have h4 := (List.mem_filter.1 ha).2;unfold fixd at h4;simp [h3] at h4
    · rcases List.mem_append.1 hx with hx | hx
      · have h3 := List.mem_filter.1 hx;exact fixed_runs h (List.mem_range.1 h3.1) h3.2
      · obtain ⟨p, hp, rfl⟩ := List.mem_map.1 hx;exact ((mem_asks h.sorted).1 hp).1
  rw [List.length_append, List.length_map, <- List.countP_eq_length_filter, <- count_at] at h2;omega
theorem Granted.settled {l' : List S57} {q' : List S63} {R' : Nat -> List Nat} (hs : Sane M l) (h : Granted M now c wt l q R ((asksL M l).map Prod.fst) l' q' R') : Settled M now c wt l' q' R' where
  inv := h.inv
  op := h.op
  none := fun k hk => by
    obtain ⟨h1, h2, h3⟩ := (mem_places h.inv.sane.sorted).1 hk;by_cases ha : k ∈ (asksL M l).map Prod.fst
    · have := h.sec k ha;unfold asksB;simp [this]
    · rw [h.oth k ha]
      cases hb : asksB (at_ l k) with
      | false => rfl
      | true =>
        exfalso;apply ha;have e := h.oth k ha;rw [e] at h2 h3;refine List.mem_map.2 ⟨(k, (servStep (at_ l k)).f0), (mem_asks hs.sorted).2 ⟨(mem_places hs.sorted).2 ⟨by rw [<- h.len]; exact h1, h2, ?_⟩, hb, rfl⟩, rfl⟩
        have hf : (at_ l k).f3 = 0 := by
          unfold asksB at hb;simp only [Bool.and_eq_true, beq_iff_eq] at hb;exact hb.2
        have h5 : rk l (at_ l k) <= rk l' (at_ l k) := by
          unfold rk;refine count_mono h.len.symm (fun i hi hy => ?_);simp only [Bool.and_eq_true, beq_iff_eq] at hy |-;refine ⟨by rw [(h.same i).2.1]; exact hy.1, ?_⟩;by_cases hi2 : i ∈ (asksL M l).map Prod.fst
          · have h6 := h.sec i hi2;unfold Ent.ltB entOf;dsimp only;rw [show ((at_ l' i).f3 != 0) = true by simpa using h6, hf];rfl
          · rw [h.oth i hi2]; exact hy.2
        show (rk l (at_ l k) : Int) < M;omega
theorem refAll_sec : ∀ (n : Nat) (l : List S57) (k : Nat), (at_ (refAll n M now l q).1 k).f3 = (at_ l k).f3 := by
  intro n
  induction n with
  | zero => intro l k; rfl
  | succ n ih =>
    intro l k;unfold refAll
    cases refuseL M now l q with
    | none => rfl
    | some p =>
      dsimp only;rw [ih];unfold waitAt;rw [at_set];split
      · rename_i h; rw [h.1]; rfl
      · rfl
theorem refAll_f0 : ∀ (n : Nat) (l : List S57) (k : Nat), (at_ (refAll n M now l q).1 k).f0 = (at_ l k).f0 := by
 intro n
 induction n with
 | zero => intro l k; rfl
 | succ n ih =>
  intro l k;unfold refAll
  cases refuseL M now l q with
  | none => rfl
  | some p =>
   dsimp only;rw [ih];unfold waitAt;rw [at_set];split
   ·rename_i h; rw [h.1]; rfl
   ·rfl
theorem Inv.settle (h : Inv M now c wt noD l q R) (hw : ∀ k, k < l.length -> (at_ l k).f3 = 0 -> wt k <= 0) : ∃ R', Settled M now c wt (settleL M now l q).1 (settleL M now l q).2.1 R' /\ Grows R R' /\ (settleL M now l q).1.length = l.length /\ (settleL M now l q).2.1.length = q.length /\ (∀ n, ((settleL M now l q).2.1.getD n z63).f0 = (q.getD n z63).f0) /\ (∀ k, (at_ (settleL M now l q).1 k).f0 = (at_ l k).f0) := by
 have h1 := h.turn
 have h2 : Open now (turnL now l) := fun k hk hm => by
  rw [turnL_len] at hk;rw [turn_at] at hm |-
  have hm2 : (at_ l k).f1.f4 ≠ 0 := by
   intro e;apply hm;unfold turn1 turnsB;rw [if_neg (by simp [e])];exact e
  refine turn1_due hm2 (fun h3 => ?_) (h.serv k hk).cbs;obtain ⟨n, _, _, ht⟩ := h.fixed_due hk h3;exact (ht (fun _ _ _ => id)).1
 obtain ⟨h3, h4, h5⟩ := Inv.refuse (l.length + 1) (turnL now l) h1 h2 (by have := readies_le (turnL now l); rw [turnL_len] at this; omega);have hlen : (refAll (l.length + 1) M now (turnL now l) q).1.length = l.length := by rw [refAll_len, turnL_len]
 obtain ⟨R', hg⟩ := grants (asksL M (refAll (l.length + 1) M now (turnL now l) q).1) _ q R (turnE now l ++ (refAll (l.length + 1) M now (turnL now l) q).2) h3 h4 (fun p hp => asks_ok h3.sane.sorted h5 hp) (asks_nodup h3.sane.sorted) (asks_count h3.sane) (fun p hp => by
  obtain ⟨a1, _, a3, _⟩ := asks_at h3.sane.sorted hp;rw [hlen] at a1;refine hw p.1 a1 ?_;rw [<- a3, refAll_sec, turn_at, (turn1_f0 now _).2.2.1])
 exact ⟨R', Granted.settled h3.sane hg, hg.gr, hg.len.trans hlen, hg.qlen, hg.most, fun k => ((hg.same k).1.trans (refAll_f0 _ _ k)).trans (by rw [turn_at]; exact (turn1_f0 now _).1)⟩
end
section
variable {M now c : Int} {wt : Nat -> Int} {l : List S57} {q : List S63} {R : Nat -> List Nat}
theorem Settled.again (h : Settled M now c wt l q R) : settleL M now l q = (l, q, []) := by
  have h1 : ∀ k, k < l.length -> turnsB now (at_ l k) = false := fun k hk => by
    unfold turnsB;by_cases hm : (at_ l k).f1.f4 = 0
    · simp [hm]
    · have := h.op k hk hm;simp
      intros
      omega
  have h2 : turnL now l = l := by
    unfold turnL
    conv => lhs; rw [list_at l]
    conv => rhs; rw [list_at l]
    rw [List.map_map];refine List.map_congr_left (fun k hk => ?_);show turn1 now (at_ l k) = at_ l k;unfold turn1;rw [h1 k (List.mem_range.1 hk)];rfl
  have h3 : turnE now l = [] := by
    unfold turnE;rw [List.map_eq_nil_iff, List.filter_eq_nil_iff];intro x hx;obtain ⟨k, hk, rfl⟩ := List.mem_iff_getElem.1 hx;have := h1 k hk;rw [at_lt hk] at this;simp [this]
  have h4 : asksL M l = [] := by
    cases ha : asksL M l with
    | nil => rfl
    | cons p ps =>
      exfalso;have h5 := (mem_asks h.inv.sane.sorted (p := p)).1 (by rw [ha]; simp);have h6 := h.none p.1 h5.1;rw [h5.2.1] at h6
      cases h6
  unfold settleL;rw [h2, h3]
  have h5 : refAll (l.length + 1) M now l q = (l, []) := by
    unfold refAll;have : refuseL M now l q = Option.none := by unfold refuseL; rw [h4]; rfl
    rw [this]
  rw [h5];dsimp only;rw [h4];rfl
theorem runAll_at : ∀ (ps : List Nat) (l : List S57), ps.Nodup -> (∀ p ∈ ps, p < l.length) -> ∀ k, at_ (runAll l ps) k = if k ∈ ps then runV (at_ l k) else at_ l k := by
  intro ps
  induction ps with
  | nil => intro l _ _ k; simp [runAll]
  | cons p ps ih =>
    intro l hn hl k;have hn2 := List.nodup_cons.1 hn;have e : runAll l (p :: ps) = runAll (l.set p (runV (at_ l p))) ps := rfl;rw [e, ih _ hn2.2 (fun p' hp' => by rw [List.length_set]; exact hl p' (List.mem_cons_of_mem _ hp')), at_set];have hp := hl p (by simp);by_cases hk : k = p
    · subst hk;rw [if_neg hn2.1, if_pos ⟨rfl, hp⟩, if_pos (by simp)]
    · have e2 : (if k = p /\ p < l.length then runV (at_ l p) else at_ l k) = at_ l k := if_neg (fun h => hk h.1);rw [e2];have : k ∈ p :: ps ↔ k ∈ ps := by simp [hk]
      by_cases h2 : k ∈ ps
      · rw [if_pos h2, if_pos (this.2 h2)]
      · rw [if_neg h2, if_neg (fun h => h2 (this.1 h))]
theorem runAll_len : ∀ (ps : List Nat) (l : List S57), (runAll l ps).length = l.length := fun ps l => (runAll_ids ps l).len
theorem runV_step {x : S57} : servStep (runV x) = servStep x := by
  unfold servStep runV;dsimp only;split
  · rfl
  · cases x.f2 with
    | nil => rfl
    | cons j js => rfl
theorem Inv.holder {D : Nat -> Prop} (h : Inv M now c wt D l q R) {k : Nat} (hk : k < l.length) (h3 : (at_ l k).f3 = 2) : ∃ n, ∃ (hn : n < q.length), (servStep (at_ l k)).f0 = (n : Int) + 1 /\ ∃ r, R n = k :: r := by
  obtain ⟨n, hn, hm, _⟩ := h.fixed_due hk (by rw [h3]; decide);refine ⟨n, hn, ((h.rows.mem n k).1 hm).2.2, ?_⟩
  cases hR : R n with
  | nil => rw [hR] at hm; simp at hm
  | cons a r =>
    rw [hR] at hm;rcases List.mem_cons.1 hm with rfl | hr
    · exact ⟨r, rfl⟩
    · have := (h.rows.first n a r hR).2 k hr;rw [h3] at this;exact absurd this (by decide)
theorem ServOk.later {d : Prop} {ql : Nat} {x : S57} (h : ServOk now c d ql x) (ho : x.f1.f4 ≠ 0 -> now < x.f1.f3) (d' : Prop) (hd : d -> d') : ServOk (now + 1) c d' ql x where
  cbs := h.cbs
  due := by have := h.due; omega
  ahead := fun e => by have := ho e; omega
  idle := h.idle
  busy := h.busy
  jlen := h.jlen
  jobs := h.jobs
  rest := h.rest
  sec := h.sec
  spin := h.spin
  sem := h.sem
  secm := h.secm
  part := fun e hn => h.part e (fun hh => hn (hd hh))
  held := h.held
  ran := by have := h.ran; omega
  num := h.num
theorem runV_ok {d : Prop} {ql : Nat} {x : S57} (h : ServOk now c False ql x) (ho : now < x.f1.f3) (hm : x.f1.f4 = 1) (ha : asksB x = false) (hh : x.f3 = 2 -> x.f4 < 1048576) (hd : d) : ServOk (now + 1) c d ql (runV x) := by
  have hb := h.busy (by rw [hm]; decide);obtain ⟨j, js, hx, hj, hq, hst, hdn⟩ := h.head hb;have hpos := h.cbs.mb hm;have hpart := h.part (by rw [hm]; decide) id;rw [hst, hdn] at hpart;obtain ⟨a1, a2, a3, a4, a5, a6, a7, a8, a9, a10⟩ := h.cbs;have hst2 : servStep (runV x) = servStep x := runV_step;have hf2 : (runV x).f2 = if x.f3 = 1 then j :: js else { j with f3 := j.f3 + 1 } :: js := by unfold runV; dsimp only; rw [hx]; rfl
  have hf3 : (runV x).f3 = x.f3 := rfl;have hf14 : (runV x).f1.f4 = if x.f1.f2 - 1 = 0 then 2 else 1 := rfl;have hf12 : (runV x).f1.f2 = x.f1.f2 - 1 := rfl
  exact { cbs := readyS_ok (s := { x.f1 with f2 := x.f1.f2 - 1 }) ⟨a1, a2, a3, by show 0 <= x.f1.f2 - 1; omega, by show x.f1.f2 - 1 <= x.f1.f0; omega, a6, a7, by show (0 : Int) <= 0; decide, by show (0 : Int) <= 2; decide, fun e => absurd e (by show ¬ (0 : Int) = 1; decide)⟩
          due := by have := h.due; show x.f1.f3 <= _; omega
          ahead := fun _ => by show now + 1 <= x.f1.f3; omega
          idle := fun e => by rw [hf14] at e; split at e <;> exact absurd e (by decide)
          busy := fun _ => by rw [hf2]; split <;> simp
          jlen := by have := h.jlen; rw [hf2]; rw [hx] at this; split <;> exact this
          jobs := by
            rw [hf2];intro j' hj';have hold : ∀ j' ∈ js, JobOk j' /\ ∀ s ∈ j'.f1, s.f0 <= ql := fun j' hj' => h.jobs j' (by rw [hx]; exact List.mem_cons_of_mem _ hj')
            split at hj'
            · exact h.jobs j' (by rw [hx]; exact hj')
            · rcases List.mem_cons.1 hj' with rfl | hj'
              · exact ⟨⟨hj.num, hj.prog, hj.at0, hj.atl, by have := hj.d0; show 0 <= j.f3 + 1; omega, by show j.f3 + 1 <= (stepOf j).f1; omega⟩, hq⟩
              · exact hold j' hj'
          rest := by
            have := h.rest;rw [hx] at this;rw [hf2];split <;> exact this
          sec := h.sec
          spin := fun e1 e2 => by
            rw [hst2] at e2;rw [hf3] at e1;by_cases e : x.f3 = 1
            · have := h.spin e1 e2;rw [hdn] at this;unfold doneOf;rw [hf2, if_pos e];exact this
            · exfalso;have := h.sec;have e0 : x.f3 = 0 := by omega
              unfold asksB at ha;simp [e0] at ha;omega
          sem := fun e => by rw [hst2]; exact h.sem e
          secm := fun e => by
            rw [hf14, hf12];refine ⟨by split <;> decide, fun e2 => by rw [if_neg e2]⟩
          part := fun _ hn => absurd hd hn
          held := by
            have := h.held;show 0 <= (if x.f3 = 2 then x.f4 + 1 else x.f4) /\ (if x.f3 = 2 then x.f4 + 1 else x.f4) <= 1048576;split
            · have := hh (by assumption); omega
            · exact this
          ran := by have := h.ran; show 0 <= x.f6 + 1 /\ x.f6 + 1 <= now + 1; omega
          num := h.num }
theorem Settled.run (h : Settled M now c wt l q R) (hn : now < 1000000000) : Inv M (now + 1) c (fun k => wt k + 1) (fun k => k ∈ placesOf M l) (runAll l (placesOf M l)) q R := by
  have hs := h.inv.sane.sorted;have hat := runAll_at (placesOf M l) l (places_nodup hs) (fun p hp => ((mem_places hs).1 hp).1);have hlen := runAll_len (placesOf M l) l
  have hfix : ∀ k, k < l.length -> (at_ l k).f3 ≠ 0 -> k ∈ placesOf M l := fun k hk h3 => by
    obtain ⟨n, _, hm, _⟩ := h.inv.fixed_due hk h3;exact fixed_runs h.inv.sane hk (h.inv.row_fixed n hm).2
  have hf3 : ∀ k, (at_ (runAll l (placesOf M l)) k).f3 = (at_ l k).f3 := fun k => by rw [hat]; split <;> rfl
  have hst : ∀ k, servStep (at_ (runAll l (placesOf M l)) k) = servStep (at_ l k) := fun k => by
    rw [hat]; split
    · exact runV_step
    · rfl
  have hmost : ∀ k, k < l.length -> (at_ l k).f3 = 2 -> (at_ l k).f4 < 1048576 := fun k hk e => by
    obtain ⟨n, hnq, _, r, hR⟩ := h.inv.holder hk e;have := (h.inv.rows.most n hnq k r hR).2 id;have := h.inv.qmost n hnq;omega
  have hrm : ∀ n k, k ∈ R n -> k < l.length /\ k ∈ placesOf M l := fun n k hk => by
    have := (h.inv.rows.mem n k).1 hk;exact ⟨this.1, hfix k this.1 this.2.1⟩
  refine ⟨h.inv.sane.keep hlen (fun k _ => by rw [hat]; split <;> rfl) (fun k hk hf => ?_), by have := h.inv.now0; omega, by omega, h.inv.qlen, h.inv.qmost, fun k hk => ?_, ?_⟩
  · by_cases hp : k ∈ placesOf M l
    · have h1 := ((mem_places hs).1 hp).2.1;unfold fixd at hf |-;rw [hf3] at hf;simp only [Bool.and_eq_true] at hf |-;exact ⟨by simpa using h1, hf.2⟩
    · rw [hat, if_neg hp] at hf; exact hf
  · rw [hlen] at hk;rw [hat];by_cases hp : k ∈ placesOf M l
    · rw [if_pos hp];have h1 := (mem_places hs).1 hp;exact runV_ok (h.inv.serv k hk) (h.op k hk (by rw [h1.2.1]; decide)) h1.2.1 (h.none k hp) (hmost k hk) hp
    · rw [if_neg hp];exact (h.inv.serv k hk).later (h.op k hk) _ (fun hh => hh.elim)
  · refine ⟨h.inv.rows.hold0, fun n hn => ?_, h.inv.rows.nodup, fun n k => ?_, fun n k r e => ?_, fun n hn k r e => ?_, fun n hn p k hp => ?_, fun n hn p k hp => ?_⟩
    · rw [h.inv.rows.ids n hn];exact List.map_congr_left (fun k _ => by rw [hat]; split <;> rfl)
    · rw [hlen, hf3, hst]; exact h.inv.rows.mem n k
    · rw [hf3];have h1 := h.inv.rows.first n k r e;exact ⟨h1.1, fun k' hk' => by rw [hf3]; exact h1.2 k' hk'⟩
    · have hk := hrm n k (by rw [e]; simp);have h1 := (h.inv.rows.most n hn k r e).2 id;have h2 := (h.inv.rows.first n k r e).1;rw [hat, if_pos hk.2];refine ⟨?_, fun hd => absurd hk.2 hd⟩;show (if (at_ l k).f3 = 2 then (at_ l k).f4 + 1 else (at_ l k).f4) <= _;rw [if_pos h2]; omega
    · have hk := hrm n k (List.mem_of_getElem? hp);have h1 := h.inv.rows.time n hn p k hp;have hf12 : (at_ (runAll l (placesOf M l)) k).f1.f2 = (at_ l k).f1.f2 - 1 := by rw [hat, if_pos hk.2]; rfl
      have hf13 : (at_ (runAll l (placesOf M l)) k).f1.f3 = (at_ l k).f1.f3 := by rw [hat, if_pos hk.2]; rfl
      rw [hf12, hf13]
      cases hR : R n with
      | nil => rw [hR] at hp; simp at hp
      | cons a r =>
        rw [hR] at h1;simp only [List.headD_cons] at h1 |-;have ha := hrm n a (by rw [hR]; simp);have h2 := (h.inv.rows.first n a r hR).1
        have e4 : (at_ (runAll l (placesOf M l)) a).f4 = (at_ l a).f4 + 1 := by
          rw [hat, if_pos ha.2];show (if (at_ l a).f3 = 2 then (at_ l a).f4 + 1 else (at_ l a).f4) = _;rw [if_pos h2]
        rw [e4];omega
    · have h1 := h.inv.rows.wait n hn p k hp
      cases hR : R n with
      | nil => rw [hR] at hp; simp at hp
      | cons a r =>
        rw [hR] at h1;simp only [List.headD_cons] at h1 |-;have ha := hrm n a (by rw [hR]; simp);have h2 := (h.inv.rows.first n a r hR).1
        have e4 : (at_ (runAll l (placesOf M l)) a).f4 = (at_ l a).f4 + 1 := by
          rw [hat, if_pos ha.2];show (if (at_ l a).f3 = 2 then (at_ l a).f4 + 1 else (at_ l a).f4) = _;rw [if_pos h2]
        rw [e4];omega
end
section
variable {M now c : Int} {wt : Nat -> Int} {D : Nat -> Prop} {l : List S57} {q : List S63} {R : Nat -> List Nat}
theorem Inv.set0 (h : Inv M now c wt D l q R) {i : Nat} (hi : i < l.length) (h3 : (at_ l i).f3 = 0) {x : S57} (h0 : x.f0 = (at_ l i).f0) (hx3 : x.f3 = 0) (D' : Nat -> Prop) (hx : ServOk now c (D' i) q.length x) (hD : ∀ k, k ≠ i -> (D k ↔ D' k)) : Inv M now c wt D' (l.set i x) q R := by
  have hat : ∀ k, at_ (l.set i x) k = if k = i then x else at_ l k := fun k => by
    rw [at_set];by_cases e : k = i
    · rw [if_pos ⟨e, hi⟩, if_pos e]
    · rw [if_neg (fun h => e h.1), if_neg e]
  refine ⟨h.sane.keep (List.length_set ..) (fun k _ => ?_) (fun k _ hf => ?_), h.now0, h.now1, h.qlen, h.qmost, fun k hk => ?_, ?_⟩
  · rw [hat]; split
    · subst_vars; exact h0
    · rfl
  · rw [hat] at hf;by_cases e : k = i
    · rw [if_pos e] at hf;unfold fixd at hf;simp [hx3] at hf
    · rwa [if_neg e] at hf
  · rw [List.length_set] at hk;rw [hat];by_cases e : k = i
    · subst e; rw [if_pos rfl]; exact hx
    · rw [if_neg e];have hs := h.serv k hk;have hp : (at_ l k).f1.f4 ≠ 0 -> ¬ D' k -> doneOf (at_ l k) < (servStep (at_ l k)).f1 := fun hm hd => hs.part hm (fun hd2 => hd ((hD k e).1 hd2))
      exact { hs with part := hp }
  · have hr := h.rows.keep (l' := l.set i x) (Int.le_refl now) (List.length_set ..) (fun k _ => by rw [hat]; split; (· subst_vars; exact h0); rfl) (fun k _ => by rw [hat]; split; (· subst_vars; rw [hx3, h3]); rfl) (fun k _ e0 => by
      rw [hat, if_neg (fun e => by subst e; exact e0 h3)];exact ⟨rfl, rfl, rfl⟩)
    have hp : ∀ n (hn : n < q.length) k r, R n = k :: r -> (at_ (l.set i x) k).f4 <= q[n].f0 /\ (¬ D' k -> (at_ (l.set i x) k).f4 < q[n].f0) := fun n hn k r e => by
      have h1 := hr.most n hn k r e;have h2 := (h.rows.mem n k).1 (by rw [e]; simp);have hne : k ≠ i := fun e2 => by subst e2; exact h2.2.1 h3
      exact ⟨h1.1, fun hd => h1.2 (fun hd2 => hd ((hD k hne).1 hd2))⟩
    exact { hr with most := hp }
def popR (R : Nat -> List Nat) (n : Nat) : Nat -> List Nat := fun m => if m = n then (R n).tail else R m
theorem Inv.pop (h : Inv M now c wt D l q R) {i n : Nat} (hi : i < l.length) (hn : n < q.length) {r : List Nat} (hR : R n = i :: r) {x : S57} (h0 : x.f0 = (at_ l i).f0) (hx3 : x.f3 = 0) (D' : Nat -> Prop) (hx : ServOk now c (D' i) q.length x) (hD : ∀ k, k ≠ i -> r.head? ≠ some k -> (D k -> D' k))
    {l' : List S57} {q' : List S63} {y : S63} (hl : l'.length = l.length) (hat : ∀ k, at_ l' k = if k = i then x else if r.head? = some k then { at_ l k with f3 := 2, f4 := 0 } else at_ l k) (hq : q' = q.set n y) (hy0 : y.f0 = q[n].f0) (hy1 : (if y.f1 = 0 then [] else y.f1 :: y.f2) = r.map (fun k => (at_ l k).f0)) (hy2 : y.f1 = 0 -> y.f2 = []) : Inv M now c wt D' l' q' (popR R n) := by
  have hni : ∀ m k, k ∈ popR R n m -> k ∈ R m /\ k ≠ i := fun m k hk => by
    unfold popR at hk;by_cases e : m = n
    · subst e;rw [if_pos rfl, hR] at hk;rw [hR];exact ⟨List.mem_cons_of_mem _ hk, fun e2 => by subst e2; have := h.rows.nodup m; rw [hR] at this; exact (List.nodup_cons.1 this).1 hk⟩
    · rw [if_neg e] at hk;refine ⟨hk, fun e2 => ?_⟩;subst e2;have h1 := ((h.rows.mem m k).1 hk).2.2;have h2 := ((h.rows.mem n k).1 (by rw [hR]; simp)).2.2;omega
  have hhead : ∀ m k, k ∈ R m -> r.head? = some k -> m = n := fun m k hk e => by
    have h1 := ((h.rows.mem m k).1 hk).2.2;have h2 := ((h.rows.mem n k).1 (by rw [hR]; exact List.mem_cons_of_mem _ (List.mem_of_head? e))).2.2;omega
  have hheadi : r.head? ≠ some i := fun e => by
    have := h.rows.nodup n;rw [hR] at this;exact (List.nodup_cons.1 this).1 (List.mem_of_head? e)
  have hf0 : ∀ k, (at_ l' k).f0 = (at_ l k).f0 := fun k => by
    rw [hat]; split
    · subst_vars; exact h0
    · split <;> rfl
  have hold : ∀ m k, k ∈ popR R n m -> (at_ l' k).f1 = (at_ l k).f1 /\ (at_ l' k).f2 = (at_ l k).f2 := fun m k hk => by
    rw [hat, if_neg (hni m k hk).2]; split <;> exact ⟨rfl, rfl⟩
  have h1n := h.rows.first n i r hR;have hrow1 : popR R n n = r := by unfold popR; rw [if_pos rfl, hR]; rfl
  have hrow2 : ∀ m, m ≠ n -> popR R n m = R m := fun m e => if_neg e
  have hkeep : ∀ m, m ≠ n -> ∀ k, k ∈ R m -> at_ l' k = at_ l k := fun m e k hk => by
    rw [hat, if_neg (hni m k (by rw [hrow2 m e]; exact hk)).2, if_neg (fun e2 => e (hhead m k hk e2))]
  have hqn : ∀ m (hm : m < q'.length), m ≠ n -> q'[m] = q[m]'(by rw [hq] at hm; simpa using hm) := fun m hm e => by subst hq; rw [List.getElem_set, if_neg (fun e2 => e e2.symm)]
  have hqk : ∀ (hm : n < q'.length), q'[n] = y := fun hm => by subst hq; rw [List.getElem_set, if_pos rfl]
  have hql : q'.length = q.length := by rw [hq, List.length_set]
  have hqm := h.qmost n hn;refine ⟨h.sane.keep hl (fun k _ => hf0 k) (fun k _ hf => ?_), h.now0, h.now1, by rw [hql]; exact h.qlen, fun m hm => ?_, fun k hk => ?_, ?_⟩
  · rw [hat] at hf;by_cases e : k = i
    · rw [if_pos e] at hf;unfold fixd at hf;simp [hx3] at hf
    · rw [if_neg e] at hf;by_cases e2 : r.head? = some k
      · rw [if_pos e2] at hf;have := h1n.2 k (List.mem_of_head? e2);unfold fixd at hf |-;simp only [Bool.and_eq_true] at hf |-;exact ⟨hf.1, by rw [this]; rfl⟩
      · rwa [if_neg e2] at hf
  · by_cases e : m = n
    · subst e; rw [hqk, hy0]; exact hqm
    · rw [hqn m hm e]; exact h.qmost m (by omega)
  · rw [hl] at hk;rw [hat, hql];by_cases e : k = i
    · subst e; rw [if_pos rfl]; exact hx
    · rw [if_neg e];have hs := h.serv k hk;by_cases e2 : r.head? = some k
      · rw [if_pos e2];have h3 := h1n.2 k (List.mem_of_head? e2);have hsm := hs.sem (by rw [h3]; decide);have hsp := hs.spin (by rw [h3]; decide) hsm;have hmm := hs.secm (by rw [h3]; decide);obtain ⟨j, js, hx, hj, hqq, hst, hdn⟩ := hs.head (hs.busy hmm.1);have hpo := good_step hj.prog (job_step hj)
        have h1 : 1 <= (servStep (at_ l k)).f1 := by
          rw [hst];unfold poddB at hpo;simp only [decide_eq_false_iff_not, not_or] at hpo;omega
        exact { cbs := hs.cbs, due := hs.due, ahead := hs.ahead, idle := fun e => absurd e hmm.1, busy := hs.busy, jlen := hs.jlen, jobs := hs.jobs, rest := hs.rest
                sec := by show (0 : Int) <= 2 /\ (2 : Int) <= 2; decide
                spin := fun e => absurd e (by show ¬ (2 : Int) <= 1; decide)
                sem := fun _ => hsm
                secm := fun _ => hmm
                part := fun _ _ => by show doneOf (at_ l k) < (servStep (at_ l k)).f1; omega
                held := by show (0 : Int) <= 0 /\ (0 : Int) <= 1048576; decide
                ran := hs.ran, num := hs.num }
      · rw [if_neg e2];have hp : (at_ l k).f1.f4 ≠ 0 -> ¬ D' k -> doneOf (at_ l k) < (servStep (at_ l k)).f1 := fun hm hd => hs.part hm (fun hd2 => hd (hD k e e2 hd2))
        exact { hs with part := hp }
  · refine ⟨fun m hm e => ?_, fun m hm => ?_, fun m => ?_, fun m k => ?_, fun m k s e => ?_, fun m hm k s e => ?_, fun m hm p k hp => ?_, fun m hm p k hp => ?_⟩
    · by_cases en : m = n
      · subst en; rw [hqk] at e |-; exact hy2 e
      · rw [hqn m hm en] at e |-; exact h.rows.hold0 m (by omega) e
    · by_cases en : m = n
      · subst en;rw [hqk, hy1, hrow1];exact List.map_congr_left (fun k _ => (hf0 k).symm)
      · rw [hqn m hm en, hrow2 m en, h.rows.ids m (by omega)];exact List.map_congr_left (fun k _ => (hf0 k).symm)
    · by_cases en : m = n
      · subst en;rw [hrow1];have := h.rows.nodup m;rw [hR] at this;exact (List.nodup_cons.1 this).2
      · rw [hrow2 m en]; exact h.rows.nodup m
    · rw [hl];by_cases e : k = i
      · subst e;rw [hat, if_pos rfl, hx3];exact ⟨fun hm => absurd rfl (hni m k hm).2, fun hm => absurd rfl hm.2.1⟩
      · have hs : servStep (at_ l' k) = servStep (at_ l k) := by
          rw [hat, if_neg e]; split <;> rfl
        have h3 : (at_ l' k).f3 ≠ 0 ↔ (at_ l k).f3 ≠ 0 := by
          rw [hat, if_neg e];by_cases e2 : r.head? = some k
          · rw [if_pos e2];have := h1n.2 k (List.mem_of_head? e2);rw [this];simp
          · rw [if_neg e2]
        rw [hs, h3, <- h.rows.mem m k];by_cases en : m = n
        · subst en;rw [hrow1, hR];simp [e]
        · rw [hrow2 m en]
    · by_cases en : m = n
      · subst en;rw [hrow1] at e;have hk : r.head? = some k := by rw [e]; rfl
        have hki : k ≠ i := fun e2 => by subst e2; exact hheadi hk
        rw [hat, if_neg hki, if_pos hk];refine ⟨rfl, fun k' hk' => ?_⟩;have hk2 : k' ∈ r := by rw [e]; exact List.mem_cons_of_mem _ hk'
        have hne1 : k' ≠ i := (hni m k' (by rw [hrow1]; exact hk2)).2
        have hne2 : r.head? ≠ some k' := fun e2 => by
          rw [e] at e2;simp only [List.head?_cons, Option.some.injEq] at e2;subst e2;have := h.rows.nodup m;rw [hR, e] at this;exact (List.nodup_cons.1 (List.nodup_cons.1 this).2).1 hk'
        rw [hat, if_neg hne1, if_neg hne2];exact h1n.2 k' hk2
      · rw [hrow2 m en] at e;have h2 := h.rows.first m k s e;rw [hkeep m en k (by rw [e]; simp)];exact ⟨h2.1, fun k' hk' => by rw [hkeep m en k' (by rw [e]; exact List.mem_cons_of_mem _ hk')]; exact h2.2 k' hk'⟩
    · by_cases en : m = n
      · subst en;rw [hrow1] at e;have hk : r.head? = some k := by rw [e]; rfl
        have hki : k ≠ i := fun e2 => by subst e2; exact hheadi hk
        rw [hqk, hy0, hat, if_neg hki, if_pos hk];exact ⟨by show (0 : Int) <= _; omega, fun _ => by show (0 : Int) < _; omega⟩
      · rw [hrow2 m en] at e;have hmem : k ∈ R m := by rw [e]; simp
        rw [hqn m hm en, hkeep m en k hmem];have h2 := h.rows.most m (by omega) k s e;have hki : k ≠ i := (hni m k (by rw [hrow2 m en]; exact hmem)).2;have hkh : r.head? ≠ some k := fun e2 => en (hhead m k hmem e2)
        exact ⟨h2.1, fun hd => h2.2 (fun hd2 => hd (hD k hki hkh hd2))⟩
    · by_cases en : m = n
      · subst en;rw [hrow1] at hp |-;have hk2 := List.mem_of_getElem? hp;have h2 := h.rows.time m hn (p + 1) k (by rw [hR]; simpa using hp);rw [hR] at h2;simp only [List.headD_cons] at h2;have h4 := (h.rows.most m hn i r hR).1;rw [hqk, hy0, (hold m k (by rw [hrow1]; exact hk2)).1]
        cases hr : r with
        | nil => rw [hr] at hp; simp at hp
        | cons a s =>
          simp only [List.headD_cons];have ha : r.head? = some a := by rw [hr]; rfl
          have hai : a ≠ i := fun e2 => by subst e2; exact hheadi ha
          have e4 : (at_ l' a).f4 = 0 := by rw [hat, if_neg hai, if_pos ha]
          rw [e4]
          have e5 : ((p + 1 : Nat) : Int) * q[m].f0 = (p : Int) * q[m].f0 + q[m].f0 := by
            rw [Int.natCast_add, Int.add_mul];simp
          rw [e5] at h2;omega
      · rw [hrow2 m en] at hp |-;have hk2 := List.mem_of_getElem? hp;rw [hqn m hm en, hkeep m en k hk2];have h2 := h.rows.time m (by omega) p k hp
        cases hr : R m with
        | nil => rw [hr] at hp; simp at hp
        | cons a s =>
          rw [hr] at h2;simp only [List.headD_cons] at h2 |-;rw [hkeep m en a (by rw [hr]; simp)];exact h2
    · by_cases en : m = n
      · subst en;rw [hrow1] at hp |-;have hk2 := List.mem_of_getElem? hp;have h2 := h.rows.wait m hn (p + 1) k (by rw [hR]; simpa using hp);rw [hR] at h2;simp only [List.headD_cons] at h2;have h4 := (h.rows.most m hn i r hR).1;rw [hqk, hy0]
        cases hr : r with
        | nil => rw [hr] at hp; simp at hp
        | cons a s =>
          simp only [List.headD_cons];have ha : r.head? = some a := by rw [hr]; rfl
          have hai : a ≠ i := fun e2 => by subst e2; exact hheadi ha
          have e4 : (at_ l' a).f4 = 0 := by rw [hat, if_neg hai, if_pos ha]
          rw [e4]
          have e5 : ((p + 1 : Nat) : Int) * q[m].f0 = (p : Int) * q[m].f0 + q[m].f0 := by
            rw [Int.natCast_add, Int.add_mul];simp
          rw [e5] at h2;omega
      · rw [hrow2 m en] at hp |-;have hk2 := List.mem_of_getElem? hp;rw [hqn m hm en];have h2 := h.rows.wait m (by omega) p k hp
        cases hr : R m with
        | nil => rw [hr] at hp; simp at hp
        | cons a s =>
          rw [hr] at h2;simp only [List.headD_cons] at h2 |-;rw [hkeep m en a (by rw [hr]; simp)];exact h2
end
section
variable {M now c : Int} {wt : Nat -> Int} {D : Nat -> Prop} {l : List S57} {q : List S63} {R : Nat -> List Nat}
theorem Inv.less (h : Inv M now c wt D l q R) (D' : Nat -> Prop) (h1 : ∀ k, k < l.length -> D k -> ¬ D' k -> (at_ l k).f1.f4 ≠ 0 -> doneOf (at_ l k) < (servStep (at_ l k)).f1) (h2 : ∀ n (hn : n < q.length) k r, R n = k :: r -> D k -> ¬ D' k -> (at_ l k).f4 < q[n].f0) : Inv M now c wt D' l q R where
  sane := h.sane
  now0 := h.now0
  now1 := h.now1
  qlen := h.qlen
  qmost := h.qmost
  serv := fun k hk => by
    have hs := h.serv k hk
    have hp : (at_ l k).f1.f4 ≠ 0 -> ¬ D' k -> doneOf (at_ l k) < (servStep (at_ l k)).f1 := fun hm hd' => by
      by_cases hd : D k
      · exact h1 k hk hd hd' hm
      · exact hs.part hm hd
    exact { hs with part := hp }
  rows := by
    have hp : ∀ n (hn : n < q.length) k r, R n = k :: r -> (at_ l k).f4 <= q[n].f0 /\ (¬ D' k -> (at_ l k).f4 < q[n].f0) := fun n hn k r e => ⟨(h.rows.most n hn k r e).1, fun hd' => by
      by_cases hd : D k
      · exact h2 n hn k r e hd hd'
      · exact (h.rows.most n hn k r e).2 hd⟩
    exact { h.rows with most := hp }
def leftV (x : S57) (js : List S125) : S57 := { x with f3 := 0, f2 := js, f1 := if js.length = 0 then { x.f1 with f4 := 0 } else x.f1 }
theorem ServOk.left {d d' : Prop} {ql : Nat} {x : S57} (h : ServOk now c d ql x) (hm : x.f1.f4 ≠ 0) {js : List S125} (hl : js.length <= 8) (hj : ∀ j ∈ js, JobOk j /\ ∀ s ∈ j.f1, s.f0 <= ql) (h0 : ∀ j ∈ js.head?, j.f3 = 0) (ht : ∀ j ∈ js.tail, j.f2 = 0 /\ j.f3 = 0) : ServOk now c d' ql (leftV x js) := by
  obtain ⟨a1, a2, a3, a4, a5, a6, a7, a8, a9, a10⟩ := h.cbs
  have hd : doneOf (leftV x js) = 0 := by
    unfold doneOf leftV
    cases js with
    | nil => rfl
    | cons j r => exact h0 j rfl
  have h3 : (leftV x js).f3 = 0 := rfl
  cases js with
  | nil =>
    exact { cbs := ⟨a1, a2, a3, a4, a5, a6, a7, by show (0 : Int) <= 0; decide, by show (0 : Int) <= 2; decide, fun e => absurd e (by show ¬ (0 : Int) = 1; decide)⟩
            due := h.due
            ahead := fun e => absurd rfl e
            idle := fun _ => ⟨rfl, rfl⟩
            busy := fun e => absurd rfl e
            jlen := hl, jobs := hj, rest := ht
            sec := by show (0 : Int) <= 0 /\ (0 : Int) <= 2; decide
            spin := fun _ _ => hd
            sem := fun e => absurd rfl e
            secm := fun e => absurd rfl e
            part := fun e => absurd rfl e
            held := h.held, ran := h.ran, num := h.num }
  | cons j r =>
    have hjj := hj j (by simp);have hpo := good_step hjj.1.prog (job_step hjj.1)
    exact { cbs := h.cbs, due := h.due, ahead := h.ahead
            idle := fun e => absurd e hm
            busy := fun _ => by show j :: r ≠ []; simp
            jlen := hl, jobs := hj, rest := ht
            sec := by show (0 : Int) <= 0 /\ (0 : Int) <= 2; decide
            spin := fun _ _ => hd
            sem := fun e => absurd rfl e
            secm := fun e => absurd rfl e
            part := fun _ _ => by
              rw [hd];show 0 < (stepOf j).f1;unfold poddB at hpo;simp only [decide_eq_false_iff_not, not_or] at hpo;omega
            held := h.held, ran := h.ran, num := h.num }
theorem freeL_at {l1 : List S57} (hs : Sorted l1) {n : Nat} (hn : n < q.length) {r : List Nat} (hr : q[n].f2 = r.map (fun k => (at_ l1 k).f0)) (hl : ∀ k ∈ r, k < l1.length) (hid : ∀ k ∈ r, (at_ l1 k).f0 ≠ 0) (t : Bool) :
    (freeL now l1 q n t).1.length = l1.length /\ (∀ k, at_ (freeL now l1 q n t).1 k = if r.head? = some k then { at_ l1 k with f3 := 2, f4 := 0 } else at_ l1 k) /\ ∃ y : S63, (freeL now l1 q n t).2.1 = q.set n y /\ y.f0 = q[n].f0 /\ (if y.f1 = 0 then [] else y.f1 :: y.f2) = r.map (fun k => (at_ l1 k).f0) /\ (y.f1 = 0 -> y.f2 = []) := by
  have e2 : q.getD n z63 = q[n] := by simp [hn]
  cases r with
  | nil =>
    have e : freeL now l1 q n t = (l1, q.set n { q[n] with f1 := 0, f3 := t }, []) := by
      unfold freeL;rw [e2, hr];rfl
    rw [e];exact ⟨rfl, fun k => by simp, _, rfl, rfl, rfl, fun _ => hr⟩
  | cons a s =>
    have ha := hl a (by simp);have hah : ahead l1 (at_ l1 a).f0 = a := by rw [at_lt ha]; exact ahead_at hs ha
    have e : freeL now l1 q n t = (l1.set a { at_ l1 a with f3 := 2, f4 := 0 }, q.set n { q[n] with f1 := (at_ l1 a).f0, f2 := s.map (fun k => (at_ l1 k).f0) }, (if t then [⟨now, 7, (at_ l1 a).f0, 0⟩] else []) ++ [⟨now, 6, (at_ l1 a).f0, (n : Int) + 1⟩]) := by
      unfold freeL;rw [e2, hr];simp only [List.map_cons];rw [hah];rfl
    rw [e];refine ⟨List.length_set .., fun k => ?_, _, rfl, rfl, ?_, fun h0 => absurd h0 (hid a (by simp))⟩
    · rw [at_set];by_cases ek : k = a
      · subst ek; rw [if_pos ⟨rfl, ha⟩]; exact (if_pos rfl).symm
      · rw [if_neg (fun h => ek h.1)]; exact (if_neg (by simp; exact fun h => ek h.symm)).symm
    · dsimp only;rw [if_neg (hid a (by simp))];rfl
structure Ended (M now c : Int) (wt : Nat -> Int) (D : Nat -> Prop) (l : List S57) (q : List S63) (R : Nat -> List Nat) (i : Nat) (l' : List S57) (q' : List S63) (R' : Nat -> List Nat) (D' : Nat -> Prop) : Prop where
  inv : Inv M now c wt D' l' q' R'
  sub : ∀ k, D' k -> D k /\ k ≠ i
  row : ∀ n, R' n = R n \/ (D i /\ R n = i :: R' n /\ ∀ b r, R' n = b :: r -> ¬ D' b)
  len : l'.length = l.length
  qlen : q'.length = q.length
  f0 : ∀ k, (at_ l' k).f0 = (at_ l k).f0
  f1 : ∀ k, k ≠ i -> (at_ l' k).f1 = (at_ l k).f1
  most : ∀ n, (q'.getD n z63).f0 = (q.getD n z63).f0
theorem endB_at (now : Int) (l : List S57) {i : Nat} (hi : i < l.length) : (endB now l i).1.length = l.length /\ ∀ k, at_ (endB now l i).1 k = if k = i then { at_ l i with f1 := if (at_ l i).f2.length = 0 then { (at_ l i).f1 with f4 := 0 } else (at_ l i).f1 } else at_ l k := by
  unfold endB;by_cases h : (l.getD i z57).f2.length = 0
  · rw [if_pos h];refine ⟨List.length_set .., fun k => ?_⟩;rw [at_set];have h2 : (at_ l i).f2.length = 0 := h;by_cases e : k = i
    · rw [if_pos ⟨e, hi⟩, if_pos e, if_pos h2]; rfl
    · rw [if_neg (fun h => e h.1), if_neg e]
  · rw [if_neg h];have h2 : ¬ (at_ l i).f2.length = 0 := h;have e3 : (if (l.getD i z57).f1.f4 = 2 then (l, [(⟨now, 4, (l.getD i z57).f0, 0⟩ : Ev)]) else (l, [])).1 = l := by split <;> rfl
    rw [e3];refine ⟨rfl, fun k => ?_⟩;by_cases e : k = i
    · subst e; rw [if_pos rfl, if_neg h2]
    · rw [if_neg e]
theorem Inv.at0 (h : Inv M now c wt D l q R) {i : Nat} (hi : i < l.length) (h3 : (at_ l i).f3 = 0) {x : S57} (h0 : x.f0 = (at_ l i).f0) (hx3 : x.f3 = 0) (D' : Nat -> Prop) (hx : ServOk now c (D' i) q.length x) (hD : ∀ k, k ≠ i -> (D k ↔ D' k)) {l' : List S57} (hl : l'.length = l.length) (hat : ∀ k, at_ l' k = if k = i then x else at_ l k) : Inv M now c wt D' l' q R := by
  have e : l' = l.set i x := by
    rw [list_at l', list_at (l.set i x), hl, List.length_set];refine List.map_congr_left (fun k _ => ?_);rw [hat, at_set];by_cases ek : k = i
    · rw [if_pos ek, if_pos ⟨ek, hi⟩]
    · rw [if_neg ek, if_neg (fun h => ek h.1)]
  rw [e];exact h.set0 hi h3 h0 hx3 D' hx hD
def finV (x : S57) (ns : List S125) : S57 := { x with f2 := ns, f1 := if ns.length = 0 then { x.f1 with f4 := 0 } else x.f1 }
theorem Inv.endpop (h : Inv M now c wt D l q R) {i n : Nat} (hi : i < l.length) (hm : (at_ l i).f1.f4 ≠ 0) (hDi : D i) (hn : n < q.length) {r : List Nat} (hR : R n = i :: r) {ns : List S125} (hnl : ns.length <= 8) (hnj : ∀ j ∈ ns, JobOk j /\ ∀ s ∈ j.f1, s.f0 <= q.length) (hn0 : ∀ j ∈ ns.head?, j.f3 = 0) (hnt : ∀ j ∈ ns.tail, j.f2 = 0 /\ j.f3 = 0)
    {l1 : List S57} {x1 : S57} (hx1 : x1.f0 = (at_ l i).f0) (hxf : finV x1 ns = leftV (at_ l i) ns) (hl1 : l1.length = l.length) (hat1 : ∀ k, at_ l1 k = if k = i then x1 else at_ l k) (t : Bool) {l' : List S57} (hl' : l'.length = (freeL now l1 q n t).1.length) (hat : ∀ k, at_ l' k = if k = i then finV (at_ (freeL now l1 q n t).1 i) ns else at_ (freeL now l1 q n t).1 k) : ∃ R' D', Ended M now c wt D l q R i l' (freeL now l1 q n t).2.1 R' D' := by
  have hni : i ∉ r := by have := h.rows.nodup n; rw [hR] at this; exact (List.nodup_cons.1 this).1
  have hrl : ∀ k ∈ r, k < l.length /\ k ≠ i := fun k hk => ⟨((h.rows.mem n k).1 (by rw [hR]; exact List.mem_cons_of_mem _ hk)).1, fun e => hni (e ▸ hk)⟩
  have hf0 : ∀ k, (at_ l1 k).f0 = (at_ l k).f0 := fun k => by
    rw [hat1]; split
    · subst_vars; exact hx1
    · rfl
  have hs1 : Sorted l1 := by
    rw [sorted_at];intro a b hab hb;rw [hf0, hf0];exact sorted_at.1 h.sane.sorted a b hab (by omega)
  have hids := h.rows.ids n hn;rw [hR] at hids;have hq1 : q[n].f1 ≠ 0 := fun e => by rw [if_pos e] at hids; simp at hids
  rw [if_neg hq1, List.map_cons, List.cons.injEq] at hids
  have hidn : ∀ k ∈ r, (at_ l1 k).f0 ≠ 0 := fun k hk => by
    have h1 := (hrl k hk).1;have h2 := h.sane.id k h1;rw [hf0, at_lt h1];omega
  obtain ⟨e1, e2, y, e3, e4, e5, e6⟩ := freeL_at (now := now) (q := q) hs1 hn (hids.2.trans (List.map_congr_left (fun k _ => (hf0 k).symm))) (fun k hk => by have := (hrl k hk).1; omega) hidn t;have hheadi : r.head? ≠ some i := fun e => hni (List.mem_of_head? e)
  have hat2 : ∀ k, at_ l' k = if k = i then leftV (at_ l i) ns else if r.head? = some k then { at_ l k with f3 := 2, f4 := 0 } else at_ l k := fun k => by
    rw [hat];by_cases e : k = i
    · rw [if_pos e, if_pos e, e2, if_neg hheadi, hat1, if_pos rfl]; exact hxf
    · rw [if_neg e, if_neg e, e2, hat1, if_neg e]
  have hinv := h.pop hi hn hR (x := leftV (at_ l i) ns) rfl rfl (fun k => D k /\ k ≠ i /\ r.head? ≠ some k) ((h.serv i hi).left hm hnl hnj hn0 hnt) (fun k h1 h2 h3 => ⟨h3, h1, h2⟩) (hl'.trans (e1.trans hl1)) hat2 e3 e4 (e5.trans (List.map_congr_left (fun k _ => hf0 k))) e6;refine ⟨_, _, hinv, fun k hk => ⟨hk.1, hk.2.1⟩, fun m => ?_, hl'.trans (e1.trans hl1), by rw [e3, List.length_set], fun k => ?_, fun k hk => ?_, fun m => ?_⟩
  · by_cases em : m = n
    · subst em;have er : popR R m m = r := by unfold popR; rw [if_pos rfl, hR]; rfl
      refine .inr ⟨hDi, by rw [er]; exact hR, fun b s e hd => ?_⟩;rw [er] at e;exact hd.2.2 (by rw [e]; rfl)
    · exact .inl (if_neg em)
  · rw [hat2]; split
    · subst_vars; rfl
    · split <;> rfl
  · rw [hat2, if_neg hk]; split <;> rfl
  · rw [e3, List.getD_eq_getElem?_getD, List.getD_eq_getElem?_getD, List.getElem?_set];by_cases e : n = m
    · subst e; rw [if_pos rfl, if_pos hn]; simp [e4, hn]
    · rw [if_neg e]
theorem Inv.endnone (h : Inv M now c wt D l q R) {i : Nat} (hi : i < l.length) (hb : (at_ l i).f2 ≠ []) (hlt : doneOf (at_ l i) < (servStep (at_ l i)).f1) (hmo : ∀ n (hn : n < q.length) r, R n = i :: r -> (at_ l i).f4 < q[n].f0) (e : endA now l q i = (l, q, [])) : ∃ R' D', Ended M now c wt D l q R i (endL now l q i).1 (endL now l q i).2.1 R' D' := by
  have hB := endB_at now l hi
  have e1 : (endL now l q i).1 = l := by
    show (endB now (endA now l q i).1 i).1 = l;rw [e];rw [list_at (endB now l i).1, hB.1]
    conv => rhs; rw [list_at l]
    refine List.map_congr_left (fun k _ => ?_);rw [hB.2];by_cases ek : k = i
    · subst ek;rw [if_pos rfl, if_neg (by simpa using hb)]
    · rw [if_neg ek]
  have e2 : (endL now l q i).2.1 = q := by show (endA now l q i).2.1 = q; rw [e]
  rw [e1, e2];refine ⟨R, fun k => D k /\ k ≠ i, h.less _ (fun k hk hd hd' _ => ?_) (fun n hn k r hR hd hd' => ?_), fun k hk => hk, fun n => .inl rfl, rfl, rfl, fun _ => rfl, fun _ _ => rfl, fun _ => rfl⟩
  · have : k = i := Classical.byContradiction (fun hne => hd' ⟨hd, hne⟩);subst this;exact hlt
  · have : k = i := Classical.byContradiction (fun hne => hd' ⟨hd, hne⟩);subst this;exact hmo n hn r hR
theorem Inv.ends (h : Inv M now c wt D l q R) {i : Nat} (hi : i < l.length) (hm : (at_ l i).f1.f4 ≠ 0) : ∃ R' D', Ended M now c wt D l q R i (endL now l q i).1 (endL now l q i).2.1 R' D' := by
  have hs := h.serv i hi;obtain ⟨j, js, hx, hj, hq, hst, hdn⟩ := hs.head (hs.busy hm);have hrest := hs.rest;rw [hx] at hrest;have hjl := hs.jlen;rw [hx] at hjl;have hjobs := hs.jobs;rw [hx] at hjobs;have hpo := good_step hj.prog (job_step hj);unfold poddB at hpo;simp only [decide_eq_false_iff_not, not_or] at hpo;have hg : l.getD i z57 = at_ l i := rfl;by_cases hov : j.f3 = (stepOf j).f1
  · -- the step is over
    have hDi : D i := by
      refine Classical.byContradiction (fun hd => ?_);have := hs.part hm hd;rw [hst, hdn] at this;omega
    have hn1 : (at_ l i).f3 ≠ 1 := fun e => by
      have := hs.spin (by omega) (hs.sem (by rw [e]; decide));rw [hdn] at this;omega
    obtain ⟨ns, hns, hnl, hnj, hn0, hnt⟩ : ∃ ns, ns = (if j.f2 + 1 = (j.f1.length : Int) then js else { j with f2 := j.f2 + 1, f3 := 0 } :: js) /\ ns.length <= 8 /\ (∀ j ∈ ns, JobOk j /\ ∀ s ∈ j.f1, s.f0 <= q.length) /\ (∀ j ∈ ns.head?, j.f3 = 0) /\ (∀ j ∈ ns.tail, j.f2 = 0 /\ j.f3 = 0) := by
      refine ⟨_, rfl, ?_⟩;split
      · refine ⟨by simp at hjl; omega, fun j' hj' => hjobs j' (List.mem_cons_of_mem _ hj'), fun j' hj' => (hrest j' (List.mem_of_head? hj')).2, fun j' hj' => hrest j' (List.mem_of_mem_tail hj')⟩
      · rename_i hne;have h1 := hj.atl;have h2 := hj.at0;refine ⟨by simpa using hjl, fun j' hj' => ?_, fun j' hj' => ?_, fun j' hj' => hrest j' hj'⟩
        · rcases List.mem_cons.1 hj' with rfl | hj'
          · have hok : pgoodB j.f1 = true := hj.prog;obtain ⟨t, ht⟩ : ∃ t : Nat, j.f2 + 1 = t := ⟨(j.f2 + 1).toNat, by omega⟩;have ht2 : t < j.f1.length := by omega
            have hso : stepOf { j with f2 := j.f2 + 1, f3 := 0 } = j.f1[t] := by
              unfold stepOf;show rd_T72 j.f1 (j.f2 + 1) = _;rw [ht];simp [rd_T72, ht2]
            have hgs := good_step hok (List.getElem_mem ht2);unfold poddB at hgs;simp only [decide_eq_false_iff_not, not_or] at hgs;exact ⟨⟨hj.num, hj.prog, by show 0 <= j.f2 + 1; omega, by show j.f2 + 1 < (j.f1.length : Int); omega, by show (0 : Int) <= 0; decide, by rw [hso]; show 0 <= (j.f1[t]).f1; omega⟩, hq⟩
          · exact hjobs j' (List.mem_cons_of_mem _ hj')
        · simp only [List.head?_cons, Option.mem_def, Option.some.injEq] at hj';subst hj';rfl
    have hxi : l[i] = at_ l i := (at_lt hi).symm;obtain ⟨⟨l1, q1, e1⟩, ha⟩ : ∃ t, overA now l q i l[i] (stepOf j).f0 = t := ⟨_, rfl⟩;have hal := (overA_alike now l q hi (stepOf j).f0).1.len;rw [ha] at hal;have hi1 : i < l1.length := by rw [hal]; exact hi
    have eA : (endA now l q i).1 = l1.set i { l1[i] with f2 := ns } /\ (endA now l q i).2.1 = q1 := by
      rw [endA_over hi (by rw [hxi]; exact hx) (st0 := (stepOf j).f0) (st1 := (stepOf j).f1) rfl hov ha hi1, hns];split <;> exact ⟨rfl, rfl⟩
    have hB := endB_at now (endA now l q i).1 (i := i) (by rw [eA.1, List.length_set]; exact hi1)
    have hlen : (endL now l q i).1.length = l1.length := by
      show (endB now (endA now l q i).1 i).1.length = _;rw [hB.1, eA.1, List.length_set]
    have hat : ∀ k, at_ (endL now l q i).1 k = if k = i then finV (at_ l1 i) ns else at_ l1 k := fun k => by
      show at_ (endB now (endA now l q i).1 i).1 k = _;rw [hB.2, eA.1];have e5 : at_ (l1.set i { l1[i] with f2 := ns }) i = { l1[i] with f2 := ns } := by rw [at_set, if_pos ⟨rfl, hi1⟩]
      by_cases e : k = i
      · rw [if_pos e, if_pos e, e5, <- at_lt hi1];rfl
      · rw [if_neg e, if_neg e, at_set, if_neg (fun h => e h.1)]
    have hqq : (endL now l q i).2.1 = q1 := eA.2;by_cases h2 : (at_ l i).f3 = 2
    · obtain ⟨n, hn, hsn, r, hR⟩ := h.holder hi h2;have en : ((stepOf j).f0 - 1).toNat = n := by rw [hst] at hsn; omega
      unfold overA at ha;rw [hxi, if_pos h2, en] at ha
      have hl1 : ∀ k, at_ (l.set i { at_ l i with f3 := 0 }) k = if k = i then { at_ l i with f3 := 0 } else at_ l k := fun k => by
        rw [at_set];by_cases e : k = i
        · rw [if_pos ⟨e, hi⟩, if_pos e]
        · rw [if_neg (fun h => e h.1), if_neg e]
      have ha1 : l1 = (freeL now (l.set i { at_ l i with f3 := 0 }) q n false).1 := by rw [ha]
      have ha2 : q1 = (freeL now (l.set i { at_ l i with f3 := 0 }) q n false).2.1 := by rw [ha]
      rw [hqq, ha2];rw [ha1] at hlen hat;exact h.endpop hi hm hDi hn hR hnl hnj hn0 hnt (x1 := { at_ l i with f3 := 0 }) rfl rfl (List.length_set ..) hl1 false hlen hat
    · have h30 : (at_ l i).f3 = 0 := by have := hs.sec; omega
      unfold overA at ha;rw [hxi, if_neg h2] at ha
      obtain ⟨rfl, rfl, rfl⟩ : l = l1 /\ q = q1 /\ ([] : List Ev) = e1 := by
        injection ha with a1 a2;injection a2 with a2 a3;exact ⟨a1, a2, a3⟩
      have hfin : finV (at_ l i) ns = leftV (at_ l i) ns := by
        unfold finV leftV;rw [h30.symm]
      rw [hfin] at hat;refine ⟨R, fun k => D k /\ k ≠ i, ?_⟩;rw [hqq];refine ⟨h.at0 hi h30 (x := leftV (at_ l i) ns) rfl rfl _ (hs.left hm hnl hnj hn0 hnt) (fun k hk => ⟨fun a => ⟨a, hk⟩, fun a => a.1⟩) hlen hat, fun k hk => hk, fun n => .inl rfl, hlen, rfl, fun k => ?_, fun k hk => ?_, fun _ => rfl⟩
      · rw [hat]; split
        · subst_vars; rfl
        · rfl
      · rw [hat, if_neg hk]
  · -- it is not
    have hlt : doneOf (at_ l i) < (servStep (at_ l i)).f1 := by
      have := hj.dn;rw [hst, hdn];omega
    by_cases h2 : (at_ l i).f3 = 2
    · obtain ⟨n, hn, hsn, r, hR⟩ := h.holder hi h2;have hxi : l[i] = at_ l i := (at_lt hi).symm;have hmo := h.rows.most n hn i r hR;by_cases h4 : (at_ l i).f4 = q[n].f0
      · -- it is thrown out
        have hDi : D i := Classical.byContradiction (fun hd => by have := hmo.2 hd; omega);have e := endA_held (now := now) (q := q) hi (by rw [hxi]; exact hx) (n := n) (st1 := (stepOf j).f1) (by rw [hst] at hsn; rw [<- hsn]) hov (by rw [hxi]; exact h2) hn (by rw [hxi]; exact h4);rw [hxi] at e
        have hl1 : ∀ k, at_ (l.set i { at_ l i with f2 := js, f3 := 0 }) k = if k = i then { at_ l i with f2 := js, f3 := 0 } else at_ l k := fun k => by
          rw [at_set];by_cases e : k = i
          · rw [if_pos ⟨e, hi⟩, if_pos e]
          · rw [if_neg (fun h => e h.1), if_neg e]
        have hlf : (freeL now (l.set i { at_ l i with f2 := js, f3 := 0 }) q n true).1.length = l.length := by rw [(freeL_alike ..).len, List.length_set]
        have hB := endB_at now (endA now l q i).1 (i := i) (by rw [e]; show i < (freeL now (l.set i { at_ l i with f2 := js, f3 := 0 }) q n true).1.length; rw [hlf]; exact hi);have e1 : (endA now l q i).1 = (freeL now (l.set i { at_ l i with f2 := js, f3 := 0 }) q n true).1 := by rw [e]
        have e2 : (endL now l q i).2.1 = (freeL now (l.set i { at_ l i with f2 := js, f3 := 0 }) q n true).2.1 := by show (endA now l q i).2.1 = _; rw [e]
        rw [e2];have hal := (freeL_alike now (l.set i { at_ l i with f2 := js, f3 := 0 }) q n true)
        have hjs : (at_ (freeL now (l.set i { at_ l i with f2 := js, f3 := 0 }) q n true).1 i).f2 = js := by
          have hi2 : i < (l.set i { at_ l i with f2 := js, f3 := 0 }).length := by rw [List.length_set]; exact hi
          have h5 := (hal.at_ i hi2 (by rw [hlf]; exact hi)).2.2;rw [at_lt (by rw [hlf]; exact hi), h5, <- at_lt hi2, hl1, if_pos rfl]
        refine h.endpop hi hm hDi hn hR (ns := js) (by simp at hjl; omega) (fun j' hj' => hjobs j' (List.mem_cons_of_mem _ hj')) (fun j' hj' => (hrest j' (List.mem_of_head? hj')).2) (fun j' hj' => hrest j' (List.mem_of_mem_tail hj')) (x1 := { at_ l i with f2 := js, f3 := 0 }) rfl rfl (List.length_set ..) hl1 true (by show (endB now (endA now l q i).1 i).1.length = _; rw [hB.1, e1]) (fun k => ?_);show at_ (endB now (endA now l q i).1 i).1 k = _;rw [hB.2, e1];by_cases ek : k = i
        · rw [if_pos ek, if_pos ek];unfold finV;rw [hjs];generalize at_ (freeL now (l.set i { at_ l i with f2 := js, f3 := 0 }) q n true).1 i = z at *;subst hjs;rfl
        · rw [if_neg ek, if_neg ek]
      · have e : endA now l q i = (l, q, []) := endA_none hi (by rw [hxi]; exact hx) (st0 := (stepOf j).f0) (st1 := (stepOf j).f1) rfl hov (fun _ => ⟨n, hn, by rw [hst] at hsn; exact hsn, by rw [hxi]; exact h4⟩);refine h.endnone hi (hs.busy hm) hlt (fun n' hn' r' hR' => ?_) e
        have en : n' = n := by
          have h5 := ((h.rows.mem n' i).1 (by rw [hR']; simp)).2.2;omega
        subst en;have := hmo.1;omega
    · have hxi : l[i] = at_ l i := (at_lt hi).symm;have e : endA now l q i = (l, q, []) := endA_none hi (by rw [hxi]; exact hx) (st0 := (stepOf j).f0) (st1 := (stepOf j).f1) rfl hov (fun e => absurd (by rw [<- hxi]; exact e) h2);exact h.endnone hi (hs.busy hm) hlt (fun n' hn' r' hR' => absurd (h.rows.first n' i r' hR').1 h2) e
end
def Pops (R R' : Nat -> List Nat) : Prop := ∀ n, R' n = R n \/ ∃ a, R n = a :: R' n
section
variable {M now c : Int} {wt : Nat -> Int} {D : Nat -> Prop} {l : List S57} {q : List S63} {R : Nat -> List Nat}
structure EndedAll (M now c : Int) (wt : Nat -> Int) (D : Nat -> Prop) (l : List S57) (q : List S63) (R : Nat -> List Nat) (ps : List Nat) (l' : List S57) (q' : List S63) (R' : Nat -> List Nat) (D' : Nat -> Prop) : Prop where
 inv : Inv M now c wt D' l' q' R'
 sub : ∀ k, D' k -> D k /\ k ∉ ps
 row : ∀ n, R' n = R n \/ ∃ a, R n = a :: R' n /\ ∀ b r, R' n = b :: r -> ¬ D' b
 len : l'.length = l.length
 qlen : q'.length = q.length
 f0 : ∀ k, (at_ l' k).f0 = (at_ l k).f0
 f1 : ∀ k, k ∉ ps -> (at_ l' k).f1 = (at_ l k).f1
 most : ∀ n, (q'.getD n z63).f0 = (q.getD n z63).f0
theorem Inv.endTake (h : Inv M now c wt D l q R) {ps : List Nat} (hn : ps.Nodup) (hp : ∀ p ∈ ps, p < l.length /\ (at_ l p).f1.f4 ≠ 0) : ∀ k, k <= ps.length -> ∃ R' D', EndedAll M now c wt D l q R (ps.take k) (endAll now l q (ps.take k)).1 (endAll now l q (ps.take k)).2.1 R' D' := by
 intro k
 induction k with
 | zero => intro _; exact ⟨R, D, h, fun k hk => ⟨hk, by simp⟩, fun n => .inl rfl, rfl, rfl, fun _ => rfl, fun _ _ => rfl, fun _ => rfl⟩
 | succ k ih =>
  intro hk;have hk2 : k < ps.length := by omega
  obtain ⟨R1, D1, h1⟩ := ih (by omega);have hpp := hp ps[k] (List.getElem_mem hk2);have hnp : ps[k] ∉ ps.take k := not_mem_take hn hk2;obtain ⟨R2, D2, h2⟩ := h1.inv.ends (i := ps[k]) (by rw [h1.len]; exact hpp.1) (by rw [h1.f1 _ hnp]; exact hpp.2);refine ⟨R2, D2, ?_⟩;rw [endAll_take hk2]
  have hmem : ∀ k', k' ∈ ps.take (k + 1) ↔ k' ∈ ps.take k \/ k' = ps[k] := fun k' => by
   rw [List.take_succ_eq_append_getElem hk2, List.mem_append];simp
  generalize endAll now l q (ps.take k) = st at *;show EndedAll M now c wt D l q R (ps.take (k + 1)) (endL now st.1 st.2.1 ps[k]).1 (endL now st.1 st.2.1 ps[k]).2.1 R2 D2;refine ⟨h2.inv, fun k' hk' => ?_, fun n => ?_, h2.len.trans h1.len, h2.qlen.trans h1.qlen, fun k' => (h2.f0 k').trans (h1.f0 k'), fun k' hk' => ?_, fun n => (h2.most n).trans (h1.most n)⟩
  ·have a := h2.sub k' hk';have b := h1.sub k' a.1;exact ⟨b.1, fun e => ((hmem k').1 e).elim b.2 a.2⟩
  ·rcases h2.row n with e2 | ⟨hd, e2, e3⟩
   ·rcases h1.row n with e1 | ⟨a, e1, e4⟩
    ·exact .inl (e2.trans e1)
    ·exact .inr ⟨a, by rw [e2]; exact e1, fun b r hb hdb => e4 b r (by rw [<- e2]; exact hb) (h2.sub b hdb).1⟩
   ·rcases h1.row n with e1 | ⟨a, e1, e4⟩
    ·exact .inr ⟨ps[k], by rw [<- e1]; exact e2, e3⟩
    ·exact absurd hd (e4 _ _ e2)
  ·exact (h2.f1 k' (fun e => hk' ((hmem k').2 (.inr e)))).trans (h1.f1 k' (fun e => hk' ((hmem k').2 (.inl e))))
theorem Inv.endAll (h : Inv M now c wt D l q R) (ps : List Nat) (hn : ps.Nodup) (hp : ∀ p ∈ ps, p < l.length /\ (at_ l p).f1.f4 ≠ 0) : ∃ R' D', EndedAll M now c wt D l q R ps (endAll now l q ps).1 (endAll now l q ps).2.1 R' D' := by
 have := h.endTake hn hp ps.length (Nat.le_refl _)
 rwa [List.take_length] at this
theorem Inv.endOk (h : Inv M now c wt D l q R) {i : Nat} (hi : i < l.length) (hm : (at_ l i).f1.f4 ≠ 0) : EndOk l q i := by
 have hs := h.serv i hi;obtain ⟨j, js, hx, hj, hq, hst, hdn⟩ := hs.head (hs.busy hm);have hxi : l[i] = at_ l i := (at_lt hi).symm;refine ⟨h.sane.sorted, h.sane.len, h.qlen, fun n hn => ?_, hi, ?_⟩
 ·have hids := h.rows.ids n hn;by_cases e : q[n].f1 = 0
  ·rw [h.rows.hold0 n hn e];simp
  ·rw [if_neg e] at hids;constructor
   ·intro id hid;have h1 : id ∈ (R n).map (fun k => (at_ l k).f0) := by rw [<- hids]; exact List.mem_cons_of_mem _ hid
    obtain ⟨k, hk, e2⟩ := List.mem_map.1 h1;have hk2 := ((h.rows.mem n k).1 hk).1;exact ⟨k, hk2, by rw [<- at_lt hk2]; exact e2⟩
   ·have h1 := congrArg List.length hids;rw [List.length_map, List.length_cons] at h1;have := h.row_len n;omega
 ·rw [hxi];refine ⟨hs.cbs, hm, j, js, hx, hj, hq _ (job_step hj), fun h2 => ?_⟩;have := hs.sem (by rw [h2]; decide);rw [hst] at this;omega
theorem Settled.runAt (h : Settled M now c wt l q R) {p : Nat} (hp : p ∈ placesOf M l) : RunAt l p := by
 obtain ⟨h1, h2, _⟩ := (mem_places h.inv.sane.sorted).1 hp;have hs := h.inv.serv p h1;have hm : (at_ l p).f1.f4 ≠ 0 := by rw [h2]; decide
 obtain ⟨j, js, hx, hj, hq, hst, hdn⟩ := hs.head (hs.busy hm);have hpt := hs.part hm id;rw [hst, hdn] at hpt;have hr := hs.ran;have hn1 := h.inv.now1;have hh := hs.held;refine ⟨h1, ?_⟩;rw [<- at_lt h1];exact ⟨hs.cbs, h2, ⟨j, js, hx, hj, fun _ => by omega⟩, ⟨hr.1, by omega⟩, ⟨hh.1, by omega⟩⟩
theorem Settled.tick (h : Settled M now c wt l q R) (hn : now < 1000000000) : TickOk M now l q /\ ∃ R', Inv M (now + 1) c (fun k => wt k + 1) noD (tickL M now l q).1 (tickL M now l q).2.1 R' /\ Pops R R' /\ (tickL M now l q).1.length = l.length /\ (tickL M now l q).2.1.length = q.length /\ (∀ k, (at_ (tickL M now l q).1 k).f0 = (at_ l k).f0) /\ ∀ n, ((tickL M now l q).2.1.getD n z63).f0 = (q.getD n z63).f0 := by
 have hag := h.again;have hs := h.inv.sane.sorted;have hnd := places_nodup (M := M) hs;have hat := runAll_at (placesOf M l) l hnd (fun p hp => ((mem_places hs).1 hp).1);have hlen := runAll_len (placesOf M l) l;have hrun := h.run hn
 have hps : ∀ p ∈ placesOf M l, p < (runAll l (placesOf M l)).length /\ (at_ (runAll l (placesOf M l)) p).f1.f4 ≠ 0 := fun p hp => by
  refine ⟨by rw [hlen]; exact ((mem_places hs).1 hp).1, ?_⟩;rw [hat, if_pos hp];show (if (at_ l p).f1.f2 - 1 = 0 then (2 : Int) else 1) ≠ 0;split <;> decide
 constructor
 ·refine ⟨h.inv.mok (fun n _ => h.inv.row_len n), by rw [hag]; exact h.inv.sane, by rw [hag]; exact fun p hp => h.runAt hp, ?_⟩;rw [hag];intro k hk;have htk : ∀ p ∈ (placesOf M l).take k, p ∈ placesOf M l := fun p hp => List.mem_of_mem_take hp
  obtain ⟨R1, D1, h1⟩ := hrun.endAll ((placesOf M l).take k) (hnd.sublist (List.take_sublist _ _)) (fun p hp => hps p (htk p hp));have hk2 := hps _ (List.getElem_mem hk);exact h1.inv.endOk (by rw [h1.len]; exact hk2.1) (by rw [h1.f1 _ (not_mem_take hnd hk)]; exact hk2.2)
 ·obtain ⟨R1, D1, h1⟩ := hrun.endAll (placesOf M l) hnd hps;have e1 : (tickL M now l q).1 = (endAll (now + 1) (runAll l (placesOf M l)) q (placesOf M l)).1 := by unfold tickL; rw [hag]
  have e2 : (tickL M now l q).2.1 = (endAll (now + 1) (runAll l (placesOf M l)) q (placesOf M l)).2.1 := by unfold tickL; rw [hag]
  rw [e1, e2];refine ⟨R1, h1.inv.less noD (fun k _ hd _ _ => ?_) (fun n hn k r _ hd _ => ?_), fun n => (h1.row n).imp (fun h => h) (fun ⟨a, h, _⟩ => ⟨a, h⟩), h1.len.trans hlen, h1.qlen, fun k => (h1.f0 k).trans (by rw [hat]; split <;> rfl), h1.most⟩
  ·have := h1.sub k hd;exact absurd this.1 this.2
  ·have := h1.sub k hd;exact absurd this.1 this.2
end
section
variable {M now c : Int} {wt : Nat -> Int} {l : List S57} {q : List S63} {R : Nat -> List Nat}
theorem st_le (q : List S63) (ids : List Int) (now m : Int) (x : S57) : stillV ids now q m x <= m /\ (x.f0 ∈ ids -> stillV ids now q m x <= x.f1.f2 - 1 /\ (x.f3 ≠ 1 -> stillV ids now q m x <= (servStep x).f1 - doneOf x - 1) /\ (x.f3 = 2 -> stillV ids now q m x <= (q.getD ((servStep x).f0 - 1).toNat z63).f0 - x.f4 - 1)) := by
  unfold stillV st1 st2 st3 st4;constructor
  · repeat' split
    all_goals omega
  · intro h;rw [if_pos h];refine ⟨?_, fun h1 => ?_, fun h2 => ?_⟩
    · repeat' split
      all_goals omega
    · rw [if_neg h1]
      repeat' split
      all_goals omega
    · rw [if_pos h2];omega
theorem fold_le (q : List S63) (ids : List Int) (now : Int) : ∀ (l : List S57) (m : Int), l.foldl (stillV ids now q) m <= m /\ ∀ x ∈ l, x.f0 ∈ ids -> l.foldl (stillV ids now q) m <= x.f1.f2 - 1 /\ (x.f3 ≠ 1 -> l.foldl (stillV ids now q) m <= (servStep x).f1 - doneOf x - 1) /\ (x.f3 = 2 -> l.foldl (stillV ids now q) m <= (q.getD ((servStep x).f0 - 1).toNat z63).f0 - x.f4 - 1) := by
  intro l
  induction l with
  | nil => intro m; exact ⟨Int.le_refl _, fun x hx => by simp at hx⟩
  | cons a r ih =>
    intro m;rw [List.foldl_cons];have h1 := st_le q ids now m a;have h2 := ih (stillV ids now q m a);refine ⟨by omega, fun x hx hi => ?_⟩;rcases List.mem_cons.1 hx with rfl | hx
    · have h3 := h1.2 hi;exact ⟨by omega, fun e => by have := h3.2.1 e; omega, fun e => by have := h3.2.2 e; omega⟩
    · exact h2.2 x hx hi
theorem mem_runs_places (hs : Sorted l) {k : Nat} (hk : k < l.length) : (at_ l k).f0 ∈ runsL M l ↔ k ∈ placesOf M l := by
  unfold placesOf;rw [List.mem_map];constructor
  · intro h;exact ⟨_, h, by rw [at_lt hk]; exact ahead_at hs hk⟩
  · rintro ⟨id, hid, e⟩;obtain ⟨k', hk', e1, _⟩ := runs_mem hid;rw [<- e1, ahead_at hs hk'] at e;subst e;rw [at_lt hk, e1];exact hid
theorem skip_run (x : S57) : skipV 1 x = runV x := by
  unfold skipV runV;have e : ∀ js, skipJobs 1 js = runJobs js := fun js => by cases js <;> rfl
  rw [e]
theorem skip_is_run (hs : Sorted l) : skipL M 1 l = runAll l (placesOf M l) := by
  have hat := runAll_at (placesOf M l) l (places_nodup hs) (fun p hp => ((mem_places hs).1 hp).1);rw [list_at (runAll l (placesOf M l)), runAll_len];unfold skipL
  conv => lhs; rw [list_at l]
  rw [List.map_map];refine List.map_congr_left (fun k hk => ?_);have hk2 := List.mem_range.1 hk;show (if (at_ l k).f0 ∈ runsL M _ then skipV 1 (at_ l k) else at_ l k) = _;rw [<- list_at l, hat];by_cases h : k ∈ placesOf M l
  · rw [if_pos h, if_pos ((mem_runs_places hs hk2).2 h), skip_run]
  · rw [if_neg h, if_neg (fun e => h ((mem_runs_places hs hk2).1 e))]
theorem skip_f0 (hs : Sorted l) (k : Nat) : (at_ (skipL M 1 l) k).f0 = (at_ l k).f0 := by
 rw [skip_is_run hs, runAll_at _ _ (places_nodup hs) (fun p hp => ((mem_places hs).1 hp).1)];split <;> rfl
theorem Settled.still (h : Settled M now c wt l q R) (hn : now < 1000000000) (hk : 0 < stillL M now 1 l q) : stillL M now 1 l q = 1 /\ SkipOk M 1 l /\ Inv M (now + 1) c (fun k => wt k + 1) noD (skipL M 1 l) q R := by
  have hs := h.inv.sane.sorted;unfold stillL at hk |-;have hf := fold_le q (runsL M l) now l 1
  have hb : ∀ k, k ∈ placesOf M l -> k < l.length /\ 1 <= (at_ l k).f1.f2 - 1 /\ ((at_ l k).f3 ≠ 1 -> 1 <= (servStep (at_ l k)).f1 - doneOf (at_ l k) - 1) /\ ((at_ l k).f3 = 2 -> 1 <= (q.getD ((servStep (at_ l k)).f0 - 1).toNat z63).f0 - (at_ l k).f4 - 1) := fun k hk2 => by
    have hkl := ((mem_places hs).1 hk2).1;have h1 := hf.2 (at_ l k) (by rw [at_lt hkl]; exact List.getElem_mem hkl) ((mem_runs_places hs hkl).2 hk2);refine ⟨hkl, by omega, fun e => by have := h1.2.1 e; omega, fun e => by have := h1.2.2 e; omega⟩
  refine ⟨by omega, ⟨h.inv.sane, by decide, by decide, fun k hkl hr => ?_⟩, ?_⟩
  · rw [<- at_lt hkl] at hr |-;have hp := (mem_runs_places hs hkl).1 hr;have h1 := (mem_places hs).1 hp;have hsv := h.inv.serv k hkl;have hm : (at_ l k).f1.f4 ≠ 0 := by rw [h1.2.1]; decide
    obtain ⟨j, js, hx, hj, hq, hst, hdn⟩ := hsv.head (hsv.busy hm);have hpt := hsv.part hm id;rw [hst, hdn] at hpt;have hr2 := hsv.ran;have hn1 := h.inv.now1;have hh := hsv.held;have hmb := hsv.cbs.mb h1.2.1;exact ⟨hsv.cbs, h1.2.1, by omega, ⟨j, js, hx, hj, fun _ => by omega⟩, ⟨hr2.1, by omega⟩, hh.1, hh.2⟩
  · rw [skip_is_run hs];have hat := runAll_at (placesOf M l) l (places_nodup hs) (fun p hp => ((mem_places hs).1 hp).1);have hrun := h.run hn;refine hrun.less noD (fun k hkl hd _ hm => ?_) (fun n hnq k r hR hd _ => ?_)
    · obtain ⟨h1, h2, h3, h4⟩ := hb k hd;have hsv := h.inv.serv k h1;rw [hat, if_pos hd, runV_step];have hbz := hsv.busy (by rw [((mem_places hs).1 hd).2.1]; decide);obtain ⟨j, js, hx, hj, hq, hst, hdn⟩ := hsv.head hbz;by_cases e : (at_ l k).f3 = 1
      · have e2 : doneOf (runV (at_ l k)) = doneOf (at_ l k) := by unfold doneOf runV; dsimp only; rw [if_pos e]
        rw [e2];exact hsv.part (by rw [((mem_places hs).1 hd).2.1]; decide) id
      · have e2 : doneOf (runV (at_ l k)) = doneOf (at_ l k) + 1 := by unfold doneOf runV; dsimp only; rw [if_neg e, hx]; rfl
        rw [e2];have := h3 e;omega
    · obtain ⟨h1, h2, h3, h4⟩ := hb k hd;have h5 := h.inv.rows.first n k r hR;have h6 := ((h.inv.rows.mem n k).1 (by rw [hR]; simp)).2.2;have h7 := h4 h5.1;rw [hat, if_pos hd];show (if (at_ l k).f3 = 2 then (at_ l k).f4 + 1 else (at_ l k).f4) < _;rw [if_pos h5.1];have e1 : ((servStep (at_ l k)).f0 - 1).toNat = n := by omega
      rw [e1, show q.getD n z63 = q[n] by simp [hnq]] at h7;omega
theorem Settled.stillOk (h : Settled M now c wt l q R) : StillOk M now l q where
  sane := h.inv.sane
  now0 := h.inv.now0
  now1 := by have := h.inv.now1; omega
  cbs := fun k hk => by rw [<- at_lt hk]; exact (h.inv.serv k hk).cbs
  run := (h.inv.mok (fun n _ => h.inv.row_len n)).run
  held := fun k hk => by rw [<- at_lt hk]; exact (h.inv.serv k hk).held
  lock := fun k hk hm h3 => by
    rw [<- at_lt hk] at hm h3 |-;have hs := h.inv.serv k hk;have h1 := hs.sem (by rw [h3]; decide);exact ⟨by omega, hs.step_le (hs.busy (by rw [hm]; decide))⟩
  most := h.inv.qmost
def StepR (R R1 : Nat -> List Nat) : Prop := ∃ R', Grows R R' /\ Pops R' R1
def goI (M now : Int) (l : List S57) (q : List S63) (t : Int) (l' : List S57) (q' : List S63) : Prop :=
  (t = now /\ l' = l /\ q' = q) \/ (t = now + 1 /\ l' = (goL 1 M now (now + 1) l q).1 /\ q' = (goL 1 M now (now + 1) l q).2.1)
theorem goL_one (M now : Int) (l : List S57) (q : List S63) : goL 1 M now (now + 1) l q = if 0 < stillL M now 1 (settleL M now l q).1 (settleL M now l q).2.1 then (skipL M (stillL M now 1 (settleL M now l q).1 (settleL M now l q).2.1) (settleL M now l q).1, (settleL M now l q).2.1, (settleL M now l q).2.2) else ((tickL M now (settleL M now l q).1 (settleL M now l q).2.1).1, (tickL M now (settleL M now l q).1 (settleL M now l q).2.1).2.1, (settleL M now l q).2.2 ++ (tickL M now (settleL M now l q).1 (settleL M now l q).2.1).2.2) := by
  unfold goL;rw [if_pos (by omega), show now + 1 - now = 1 by omega];dsimp only;split
  · unfold goL; simp
  · unfold goL; simp
theorem Inv.go1 (h : Inv M now c wt noD l q R) (hn : now < 1000000000) (hw : ∀ k, k < l.length -> (at_ l k).f3 = 0 -> wt k <= 0) : GoInv M (now + 1) (goI M now l q) /\ ∃ R1, Inv M (now + 1) c (fun k => wt k + 1) noD (goL 1 M now (now + 1) l q).1 (goL 1 M now (now + 1) l q).2.1 R1 /\ StepR R R1 /\ (goL 1 M now (now + 1) l q).1.length = l.length /\ (goL 1 M now (now + 1) l q).2.1.length = q.length /\ (∀ n, ((goL 1 M now (now + 1) l q).2.1.getD n z63).f0 = (q.getD n z63).f0) /\ ∀ k, (at_ (goL 1 M now (now + 1) l q).1 k).f0 = (at_ l k).f0 := by
 obtain ⟨R', hS, hG, e1, e2, e3, e4⟩ := h.settle hw;have hT := hS.tick hn;have hst := hS.still hn;have hgo := goL_one M now l q;constructor
 ·refine ⟨?_, ?_, ?_⟩
  ·rintro t l' q' (⟨rfl, rfl, rfl⟩ | ⟨rfl, _, _⟩) hlt
   ·exact ⟨h.mok (fun n _ => h.row_len n), hS.stillOk⟩
   ·omega
  ·rintro t l' q' (⟨rfl, rfl, rfl⟩ | ⟨rfl, _, _⟩) hlt
   ·rw [show t + 1 - t = 1 by omega];intro hk;obtain ⟨a1, a2, a3⟩ := hst hk;rw [if_pos hk] at hgo;rw [a1] at hgo |-;refine ⟨a2, Int.le_refl _, .inr ⟨rfl, ?_, ?_⟩⟩
    ·rw [hgo]
    ·rw [hgo]
   ·omega
  ·rintro t l' q' (⟨rfl, rfl, rfl⟩ | ⟨rfl, _, _⟩) hlt
   ·rw [show t + 1 - t = 1 by omega];intro hk;rw [if_neg (by omega)] at hgo;refine ⟨hT.1, .inr ⟨rfl, ?_, ?_⟩⟩
    ·rw [hgo]
    ·rw [hgo]
   ·omega
 ·by_cases hk : 0 < stillL M now 1 (settleL M now l q).1 (settleL M now l q).2.1
  ·rw [if_pos hk] at hgo;obtain ⟨a1, a2, a3⟩ := hst hk;rw [a1] at hgo;rw [hgo];dsimp only;exact ⟨R', a3, ⟨R', hG, fun n => .inl rfl⟩, by rw [skip_is_run hS.inv.sane.sorted, runAll_len, e1], e2, e3, fun k => (skip_f0 hS.inv.sane.sorted k).trans (e4 k)⟩
  ·rw [if_neg hk] at hgo;rw [hgo];dsimp only;obtain ⟨_, R1, b1, b2, b3, b4, b6, b5⟩ := hT;exact ⟨R1, b1, ⟨R', hG, b2⟩, b3.trans e1, b4.trans e2, fun n => (b5 n).trans (e3 n), fun k => (b6 k).trans (e4 k)⟩
end
def WOk (x : S85) : Prop := 1 <= x.f1 /\ x.f1 <= 2147483648 /\ 1 <= x.f0 /\ x.f0 <= x.f1
instance (x : S85) : Decidable (WOk x) := by unfold WOk; infer_instance
abbrev agg85 (x : S85) : Value := .agg #[.int .i64 x.f0, .int .i64 x.f1]
theorem wgood_calls (x : S85) (w : World) : Calls Tryz.prog 35 #[agg85 x] w fun e w' => e = .returned (.bool (decide (WOk x))) /\ Below w.heap.size w w' := by
 obtain ⟨q, p⟩ := x;have hb := below_alloc (Below.refl w.heap.size w) (.cells #[.int .i64 q, .int .i64 p] 85);unfold WOk;dsimp only;by_cases h1 : 1 <= p
 ·have g1 : decide (p >= 1) = true := by simpa using h1
  by_cases h2 : p <= 2147483648
  ·have g2 : decide (p <= 2147483648) = true := by simpa using h2
   by_cases h3 : 1 <= q
   ·have g3 : decide (q >= 1) = true := by simpa using h3
    have e : decide (1 <= p /\ p <= 2147483648 /\ 1 <= q /\ q <= p) = decide (q <= p) := by simp [h1, h2, h3]
    rw [e];clear h1 h2 h3 e;go_enter Tryz.func35, Tryz.ntmps35;go_wp2;go_ret;exact ⟨rfl, hb⟩
   ·have g3 : decide (q >= 1) = false := by simpa using h3
    have e : decide (1 <= p /\ p <= 2147483648 /\ 1 <= q /\ q <= p) = false := by simp [h3]
    rw [e];clear h1 h2 h3 e;go_enter Tryz.func35, Tryz.ntmps35;go_wp2;go_ret;exact ⟨rfl, hb⟩
  ·have g2 : decide (p <= 2147483648) = false := by simpa using h2
   have e : decide (1 <= p /\ p <= 2147483648 /\ 1 <= q /\ q <= p) = false := by simp [h2]
   rw [e];clear h1 h2 e;go_enter Tryz.func35, Tryz.ntmps35;go_wp2;go_ret;exact ⟨rfl, hb⟩
 ·have g1 : decide (p >= 1) = false := by simpa using h1
  have e : decide (1 <= p /\ p <= 2147483648 /\ 1 <= q /\ q <= p) = false := by simp [h1]
  rw [e];clear h1 e;go_enter Tryz.func35, Tryz.ntmps35;go_wp2;go_ret;exact ⟨rfl, hb⟩
theorem windows_calls (x p : Int) (w : World) (h1 : 0 <= x) (h2 : x <= 4611686018427387904) (h3 : 1 <= p) (h4 : p <= 2147483648) : Calls Tryz.prog 169 #[.int .i64 x, .int .i64 p] w fun e w' => e = .returned (.tuple #[.int .i64 (x / p), .bool true]) /\ w = w' := by
 have hdiv : x.tdiv p = x / p := Int.tdiv_eq_ediv_of_nonneg h1
 have hw : IntKind.i64.wrap (x.tdiv p) = x / p := by
  have a := Int.ediv_nonneg h1 (by omega : (0 : Int) <= p);have b := Int.ediv_le_self p h1;rw [hdiv, i64_w]; unfold Go.RowKit.wrap64; omega
 clear hdiv;go_enter Tryz.func169, Tryz.ntmps169
 go_wp2_with (first | (go_at_call 77; (with_reducible refine (tgood_calls x _ h1 h2).mono ?_); rintro e w1 ⟨rfl, rfl⟩) | (go_at_call 81; (with_reducible refine (tin_calls p 1 2147483648 _ h3 h4).mono ?_); rintro e w1 ⟨rfl, rfl⟩))
 go_ret2;exact ⟨rfl, rfl⟩
def workW (x : S85) (n : Int) : Int := min n ((n + x.f1 - x.f0) / x.f1 * x.f0 + min x.f0 (n + x.f1 - x.f0 - (n + x.f1 - x.f0) / x.f1 * x.f1))
def roomW (x : S85) : Int := x.f1 - x.f0 + 1
def takesW (x o : S85) : Int := min (workW x o.f1) (roomW o)
theorem workW_nn {x : S85} {n : Int} (hx : WOk x) (hn : 0 <= n) : 0 <= workW x n := by
 obtain ⟨h1, h2, h3, h4⟩ := hx;have a : 0 <= (n + x.f1 - x.f0) / x.f1 := Int.ediv_nonneg (by omega) (by omega);have b : 0 <= (n + x.f1 - x.f0) / x.f1 * x.f0 := Int.mul_nonneg a (by omega)
 have c : 0 <= n + x.f1 - x.f0 - (n + x.f1 - x.f0) / x.f1 * x.f1 := by
  have := Int.emod_nonneg (n + x.f1 - x.f0) (show x.f1 ≠ 0 by omega);have e := Int.emod_add_mul_ediv (n + x.f1 - x.f0) x.f1;rw [Int.mul_comm] at e;omega
 unfold workW;omega
theorem work_calls (x : S85) (n : Int) (w : World) (hx : WOk x) (hn : 0 <= n) (hn2 : n <= 2147483648) : Calls Tryz.prog 158 #[agg85 x, .int .i64 n] w fun e w' => e = .returned (.tuple #[.int .i64 (workW x n), .bool true]) /\ Below w.heap.size w w' := by
 have DG := fun w => wgood_calls x w
 have gx : decide (WOk x) = true := by simpa using hx
 rw [gx] at DG;have HW : Hid (workW x n = min n ((n + x.f1 - x.f0) / x.f1 * x.f0 + min x.f0 (n + x.f1 - x.f0 - (n + x.f1 - x.f0) / x.f1 * x.f1))) := hZ rfl;obtain ⟨h1, h2, h3, h4⟩ := hx;generalize workW x n = r at *;obtain ⟨q, p⟩ := x;dsimp only at *;have g1 : decide (n < 0) = false := by simpa using hn
 have g2 : decide (n > 2147483648) = false := by simpa using hn2
 have hp : p ≠ 0 := by omega
 have a : 0 <= (n + p - q) / p := Int.ediv_nonneg (by omega) (by omega);have a2 : (n + p - q) / p <= 4294967296 := Int.le_trans (Int.ediv_le_self p (by omega)) (by omega);have b : 0 <= (n + p - q) / p * q := Int.mul_nonneg a (by omega);have b2 : (n + p - q) / p * q <= (n + p - q) / p * p := Int.mul_le_mul_of_nonneg_left h4 a;have hu : n + p - q <= 4294967296 := by omega
 have hu0 : 0 <= n + p - q := by omega
 have c : 0 <= (n + p - q) / p * p := Int.mul_nonneg a (by omega);have c2 : (n + p - q) / p * p <= n + p - q := Int.ediv_mul_le _ hp;have D := fun w => windows_calls (n + p - q) p w (by omega) (by omega) h1 h2
 have w1 : IntKind.i64.wrap (n + p) = n + p := by rw [i64_w]; unfold Go.RowKit.wrap64; omega
 have w2 : IntKind.i64.wrap (n + p - q) = n + p - q := by rw [i64_w]; unfold Go.RowKit.wrap64; omega
 generalize (n + p - q) / p = v at *;have w3 : IntKind.i64.wrap (v * q) = v * q := by rw [i64_w]; unfold Go.RowKit.wrap64; omega
 have w4 : IntKind.i64.wrap (v * p) = v * p := by rw [i64_w]; unfold Go.RowKit.wrap64; omega
 have w5 : IntKind.i64.wrap (n + p - q - v * p) = n + p - q - v * p := by rw [i64_w]; unfold Go.RowKit.wrap64; omega
 have w6 : IntKind.i64.wrap (v * q + q) = v * q + q := by rw [i64_w]; unfold Go.RowKit.wrap64; omega
 have w7 : IntKind.i64.wrap (v * q + (n + p - q - v * p)) = v * q + (n + p - q - v * p) := by rw [i64_w]; unfold Go.RowKit.wrap64; omega
 have HB0 : Hid (Below w.heap.size w (w.alloc (.cells #[.int .i64 q, .int .i64 p] 85))) := hZ (below_alloc (Below.refl _ _) _);have HX0 : Hid ((w.alloc (.cells #[.int .i64 q, .int .i64 p] 85)).heap[w.heap.size]? = some (.cells #[.int .i64 q, .int .i64 p] 85 (0, 0))) := hZ (blk_new _ _);clear gx;go_enter Tryz.func158, Tryz.ntmps158
 go_wp2_with (first | (go_at_call 35; (with_reducible refine (DG _).mono ?_); rintro e w1 ⟨rfl, hB1⟩; have hx1 := blk_below HX0.out hB1; have q0 := (blk_cell hx1 0).trans rfl; have q1 := (blk_cell hx1 1).trans rfl; have HB1 := hZ (HB0.out.trans (hB1.mono HB0.out.size)); clear hB1 hx1) | (go_at_call 169; (with_reducible refine (D _).mono ?_); rintro e w2 ⟨rfl, rfl⟩))
 all_goals
  go_ret2;refine ⟨?_, HB1.out⟩;rw [HW.out];exact congrArg (fun z => Ending.returned (.tuple #[.int .i64 z, .bool true])) (by omega)
def wone.T8 : Bool × List (List Nat × List Nat) := (true, [([], []), ([], []), ([], []), ([1, 2], [1, 2]), ([3], [3]), ([0, 4], [0, 4]), ([5], [5]), ([6], [6]), ([6], [6]), ([7, 5, 0, 1, 2, 3, 4, 5, 6, 7], [7]), ([8, 9, 0, 1, 2, 3, 4, 5, 6, 7, 8, 9], [8])])
def wone.B8 : List Nat := [0, 0, 0, 6, 14, 31, 63, 127, 127, 255, 1023]
theorem wone.tab8 : rtab .any (opsOf Tryz.f126 8) = wone.T8 := by kernel_rfl
theorem wone.bits8 : waitsOk wone.T8.2 wone.B8 = true := by kernel_rfl
theorem room_calls (x : S85) (w : World) (hx : WOk x) : Calls Tryz.prog 148 #[agg85 x] w fun e w' => e = .returned (.int .i64 (roomW x)) /\ Below w.heap.size w w' := by
 obtain ⟨q, p⟩ := x;obtain ⟨h1, h2, h3, h4⟩ := hx;dsimp only at *;have hb := below_alloc (Below.refl w.heap.size w) (.cells #[.int .i64 q, .int .i64 p] 85);have w1 : IntKind.i64.wrap (p - q) = p - q := by rw [i64_w]; unfold Go.RowKit.wrap64; omega
 have w2 : IntKind.i64.wrap (p - q + 1) = p - q + 1 := by rw [i64_w]; unfold Go.RowKit.wrap64; omega
 go_enter Tryz.func148, Tryz.ntmps148;go_wp2;go_ret;exact ⟨rfl, hb⟩
theorem takesW_bnd {x o : S85} (hx : WOk x) (ho : WOk o) : 0 <= takesW x o /\ takesW x o <= 2147483648 := by
 have h1 := workW_nn (n := o.f1) hx (by have := ho.1; omega);obtain ⟨a, b, c, d⟩ := ho;unfold takesW roomW;omega
theorem takes_calls (x o : S85) (w : World) (hx : WOk x) (ho : WOk o) : Calls Tryz.prog 147 #[agg85 x, agg85 o] w fun e w' => e = .returned (.tuple #[.int .i64 (takesW x o), .bool true]) /\ Below w.heap.size w w' := by
 have DG := fun w => wgood_calls o w
 have gx : decide (WOk o) = true := by simpa using ho
 rw [gx] at DG;have DW := fun w => work_calls x o.f1 w hx (by have := ho.1; omega) (by have := ho.2.1; omega)
 have DR := fun w => room_calls o w ho
 have HT : Hid (takesW x o = min (workW x o.f1) (roomW o)) := hZ rfl;obtain ⟨q, p⟩ := x;obtain ⟨r, s⟩ := o;generalize takesW ⟨q, p⟩ ⟨r, s⟩ = t at *;generalize roomW ⟨r, s⟩ = rm at *;dsimp only at *;generalize workW ⟨q, p⟩ s = wk at *;have h2 := two_blocks (w := w) (x := #[.int .i64 q, .int .i64 p]) (y := #[.int .i64 r, .int .i64 s]) (tx := 85) (ty := 85) (Below.refl _ _);have HX0 := hZ h2.1;have HY0 := hZ h2.2.1;have HB0 : Hid (Below w.heap.size w ((w.alloc (.cells #[.int .i64 q, .int .i64 p] 85)).alloc (.cells #[.int .i64 r, .int .i64 s] 85))) := hZ (below_alloc (below_alloc (Below.refl _ _) _) _);clear gx h2 hx ho;go_enter Tryz.func147, Tryz.ntmps147
 go_wp2_with (first
  | (go_at_call 35; (with_reducible refine (DG _).mono ?_); rintro e w1 ⟨rfl, hB1⟩; have HX1 := hZ (blk_below HX0.out hB1); have HY1 := hZ (blk_below HY0.out hB1); have x0 := (blk_cell HX1.out 0).trans rfl; have x1 := (blk_cell HX1.out 1).trans rfl; have y1 := (blk_cell HY1.out 1).trans rfl; have HB1 := hZ (HB0.out.trans (hB1.mono HB0.out.size)); clear hB1)
  | (go_at_call 158; (with_reducible refine (DW _).mono ?_); rintro e w2 ⟨rfl, hB2⟩; have HY2 := hZ (blk_below HY1.out hB2); have y0 := (blk_cell HY2.out 0).trans rfl; have y1' := (blk_cell HY2.out 1).trans rfl; have HB2 := hZ (HB1.out.trans (hB2.mono HB1.out.size)); clear hB2)
  | (go_at_call 148; (with_reducible refine (DR _).mono ?_); rintro e w3 ⟨rfl, hB3⟩; have HB3 := hZ (HB2.out.trans (hB3.mono HB2.out.size)); clear hB3))
 all_goals
  go_ret2;refine ⟨?_, HB3.out⟩;rw [HT.out];exact congrArg (fun z => Ending.returned (.tuple #[.int .i64 z, .bool true])) (by omega)
theorem wodd_calls (x : S85) (w : World) (hx : WOk x) : Calls Tryz.prog 145 #[agg85 x] w fun e w' => e = .returned (.bool false) /\ Below w.heap.size w w' := by
 have DG := fun w => wgood_calls x w
 have gx : decide (WOk x) = true := by simpa using hx
 rw [gx] at DG;obtain ⟨q, p⟩ := x;have HB0 : Hid (Below w.heap.size w (w.alloc (.cells #[.int .i64 q, .int .i64 p] 85))) := hZ (below_alloc (Below.refl _ _) _);clear gx hx;go_enter Tryz.func145, Tryz.ntmps145
 go_wp2_with (go_at_call 35; (with_reducible refine (DG _).mono ?_); rintro e w1 ⟨rfl, hB1⟩; have HB1 := hZ (HB0.out.trans (hB1.mono HB0.out.size)); clear hB1)
 go_ret;exact ⟨rfl, HB1.out⟩
theorem rd85 {l : List S85} {k : Nat} (h : k < l.length) : rd_T85 l (k : Int) = l[k] := by simp [rd_T85, h]
theorem windex_calls (A : Option Addr) (c : Nat) (l : List S85) (w : World) (hr : Kd.C k85 w A l.length l) (hlen : l.length <= 64) (hall : ∀ k (h : k < l.length), WOk l[k]) :
  Calls Tryz.prog 157 #[.slice A l.length c, .func (.func 145) #[] #[]] w fun e w' => e = .returned (.int .i64 (-1)) /\ Below w.heap.size w w' := by
 have HR := hZ hr;have HA := hZ hall;clear hr hall;go_enter Tryz.func157, Tryz.ntmps157;go_wp2
 go_loopw [8] (fun v8 wr => ∃ k : Nat, v8 = .int .i64 k /\ k <= l.length /\ Hid (Below w.heap.size w wr)) (fun v8 _ => l.length - (intOf v8).toNat)
 case atStart => exact ⟨0, rfl, Nat.zero_le _, Below.refl _ _⟩
 case round =>
  obtain ⟨k, rfl, hk, HB⟩ := hrel;by_cases hlt : k < l.length
  ·obtain ⟨ad, rfl, h0, h1⟩ := at_T85 (Kd.C_below HR.out HB.out) (k : Int) (by omega) (by omega);rw [Int.toNat_natCast] at h0 h1;have D := fun w => wodd_calls (rd_T85 l (k : Int)) w (by rw [rd85 hlt]; exact HA.out k hlt)
   generalize rd_T85 l (k : Int) = p at *;obtain ⟨p0, p1⟩ := p;unfold agg85 at D;dsimp only at h0 h1 D
   go_wp2_with (go_at_call 145; (with_reducible refine (D _).mono ?_); rintro e w' ⟨rfl, hB'⟩; have HB' := hZ (HB.out.trans (hB'.mono HB.out.size)); clear hB')
   go_roundw
   case rel => exact ⟨k + 1, by go_num, by omega, HB'⟩
   case measure => simp [intOf]; omega
  ·obtain rfl : k = l.length := by omega
   go_wp2;go_ret;exact ⟨rfl, HB.out⟩
theorem wcontains_calls (A : Option Addr) (c : Nat) (l : List S85) (w : World) (hr : Kd.C k85 w A l.length l) (hlen : l.length <= 64) (hall : ∀ k (h : k < l.length), WOk l[k]) :
  Calls Tryz.prog 146 #[.slice A l.length c, .func (.func 145) #[] #[]] w fun e w' => e = .returned (.bool false) /\ Below w.heap.size w w' := by
 have D := windex_calls A c l w hr hlen hall;clear hr hall;go_enter Tryz.func146, Tryz.ntmps146
 go_wp2_with (go_at_call 157; (with_reducible refine D.mono ?_); rintro e w' ⟨rfl, hB'⟩)
 go_ret;exact ⟨rfl, hB'⟩
theorem may_calls (m : Int) (A : Option Addr) (c : Nat) (l : List S85) (w : World) (hr : Kd.C k85 w A l.length l) (hlen : l.length <= 64) (hall : ∀ k (h : k < l.length), WOk l[k]) (hm1 : 1 <= m) (hm2 : m <= 64) :
  Calls Tryz.prog 125 #[.int .i64 m, .slice A l.length c] w fun e w' => e = .returned (.bool true) /\ Below w.heap.size w w' := by
 have D := wcontains_calls A c l w hr hlen hall;have g1 : decide (m >= 1) = true := by simpa using hm1
 have g2 : decide (m <= 64) = true := by simpa using hm2
 have g3 : decide ((l.length : Int) <= 64) = true := by simp; omega
 clear hr hall hm1 hm2;go_enter Tryz.func125, Tryz.ntmps125
 go_wp2_with (go_at_call 146; (with_reducible refine D.mono ?_); rintro e w' ⟨rfl, hB'⟩)
 go_ret;exact ⟨rfl, hB'⟩
def sumUp (l : List S85) (k : Nat) : Nat -> Int
 | 0 => 0
 | i + 1 => sumUp l k i + (if i = k then 0 else takesW (l.getD i z85) (l.getD k z85))
def oneW (m : Int) (l : List S85) (k : Nat) : Bool := decide (sumUp l k l.length < m * roomW (l.getD k z85))
def allW (m : Int) (l : List S85) : Bool := (List.range l.length).all (oneW m l)
theorem sumUp_bnd {l : List S85} {k : Nat} (hk : k < l.length) (hall : ∀ k (h : k < l.length), WOk l[k]) : ∀ i, i <= l.length -> 0 <= sumUp l k i /\ sumUp l k i <= 2147483648 * i := by
 intro i
 induction i with
 | zero => intro _; exact ⟨Int.le_refl _, by simp [sumUp]⟩
 | succ i ih =>
  intro hi;obtain ⟨a, b⟩ := ih (by omega);have e1 : l.getD i z85 = l[i]'(by omega) := by simp [show i < l.length by omega]
  have e2 : l.getD k z85 = l[k] := by simp [hk]
  have h := takesW_bnd (hall i (by omega)) (hall k hk);rw [sumUp, e1, e2];split <;> omega
theorem one_calls (m : Int) (A : Option Addr) (c : Nat) (l : List S85) (k : Nat) (w : World) (hr : Kd.C k85 w A l.length l) (hlen : l.length <= 64) (hall : ∀ k (h : k < l.length), WOk l[k]) (hm1 : 1 <= m) (hm2 : m <= 64) (hk : k < l.length) :
  Calls Tryz.prog 126 #[.int .i64 m, .slice A l.length c, .int .i64 k] w fun e w' => e = .returned (.tuple #[.bool (oneW m l k), .int .i64 0]) /\ Below w.heap.size w w' := by
 have D := may_calls m A c l w hr hlen hall hm1 hm2;have HR := hZ hr;have HA := hZ hall;have HO : Hid (oneW m l k = decide (sumUp l k l.length < m * roomW l[k])) := hZ (by unfold oneW; simp [hk]);have hko := hall k hk;have hSB := sumUp_bnd hk hall;have HSB := hZ hSB;have DR := fun w => room_calls l[k] w hko
 have DT := fun x w (h : WOk x) => takes_calls x l[k] w h hko
 have hrm : 1 <= roomW l[k] /\ roomW l[k] <= 2147483648 := by obtain ⟨a, b, c, d⟩ := hko; unfold roomW; omega
 have HST : Hid (∀ i (h : i < l.length), sumUp l k (i + 1) = sumUp l k i + (if i = k then 0 else takesW l[i] l[k])) := hZ (fun i h => by rw [sumUp]; simp [h, hk]);have HTB : Hid (∀ i (h : i < l.length), 0 <= takesW l[i] l[k] /\ takesW l[i] l[k] <= 2147483648) := hZ (fun i h => takesW_bnd (hall i h) hko)
 have HK : Hid (∀ wx, Below w.heap.size w wx -> ∃ ad, A = some ad /\ wx.cell? (ad.add (k * 2)) = some (.int .i64 l[k].f0) /\ wx.cell? ⟨(ad.add (k * 2)).block, (ad.add (k * 2)).off + 1, none⟩ = some (.int .i64 l[k].f1)) := hZ (fun wx hb => by
  obtain ⟨ad, e, h0, h1⟩ := at_T85 (Kd.C_below hr hb) (k : Int) (by omega) (by omega);rw [Int.toNat_natCast, rd85 hk] at h0 h1;exact ⟨ad, e, h0, h1⟩)
 have hkn : (0 : Int) <= (k : Int) := Int.natCast_nonneg k;have hkl : (k : Int) < (l.length : Int) := Int.ofNat_lt.2 hk;have gk1 : decide ((k : Int) < 0) = false := by simp
 have gk2 : decide ((k : Int) >= (l.length : Int)) = false := by simp; omega
 generalize oneW m l k = res at *;generalize hok : l[k] = o at *;obtain ⟨r, s⟩ := o;unfold agg85 at DR DT;clear hr hall hko hSB hok;generalize roomW ⟨r, s⟩ = rm at *;have hmul : 0 <= m * rm := Int.mul_nonneg (by omega) (by omega);have hmul2 : m * rm <= 64 * 2147483648 := Int.mul_le_mul hm2 hrm.2 (by omega) (by omega);have wm : IntKind.i64.wrap (m * rm) = m * rm := by rw [i64_w]; unfold Go.RowKit.wrap64; omega
 go_enter Tryz.func126, Tryz.ntmps126
 go_wp2_with (go_at_call 125; (with_reducible refine D.mono ?_); rintro e w1 ⟨rfl, hB1⟩; have HB1 := hZ hB1; clear hB1)
 go_loopw [8, 29] (fun v8 v29 wr => ∃ i : Nat, v29 = .int .i64 i /\ i <= l.length /\ v8 = .int .i64 (sumUp l k i) /\ Hid (Below w.heap.size w wr)) (fun _ v29 _ => l.length - (intOf v29).toNat)
 case atStart => exact ⟨0, rfl, Nat.zero_le _, rfl, HB1⟩
 case round =>
  obtain ⟨i, rfl, hi, rfl, HB⟩ := hrel;by_cases hlt : i < l.length
  ·obtain ⟨ad, rfl, h0, h1⟩ := at_T85 (Kd.C_below HR.out HB.out) (i : Int) (by omega) (by omega);rw [Int.toNat_natCast, rd85 hlt] at h0 h1;have hx := HA.out i hlt;have hst := HST.out i hlt;have htb := HTB.out i hlt;have hsb := HSB.out i hi;have b0 : (0 : Int) <= (i : Int) := by omega
   have b1 : (i : Int) < (l.length : Int) := by omega
   generalize l[i] = x at *;have DX := fun w => DT x w hx
   obtain ⟨q, p⟩ := x;dsimp only at h0 h1 DX;by_cases hik : i = k
   ·have g1 : ((i : Int) != (k : Int)) = false := by simp [hik]
    rw [if_pos hik] at hst;have HST2 := hZ hst;clear hst hik;go_wp2;go_roundw
    case rel => exact ⟨i + 1, by go_num, by omega, by rw [HST2.out]; simp, hZ (HB.out.trans (below_alloc (Below.refl _ _) _ |>.mono HB.out.size))⟩
    case measure => simp [intOf]; omega
   ·have g1 : ((i : Int) != (k : Int)) = true := by simp; omega
    rw [if_neg hik] at hst;have HST2 := hZ hst;clear hst hik;generalize takesW ⟨q, p⟩ ⟨r, s⟩ = tk at *;have wt : IntKind.i64.wrap (sumUp l k i + tk) = sumUp l k i + tk := by rw [i64_w]; unfold Go.RowKit.wrap64; omega
    generalize sumUp l k i = su at *
    go_upto_region 8 with fail
    have HBA : Hid (Below w.heap.size w (wr.alloc (.cells #[.int .i64 q, .int .i64 p] 85))) := hZ (HB.out.trans (below_alloc (Below.refl _ _) _ |>.mono HB.out.size));have HXA : Hid ((wr.alloc (.cells #[.int .i64 q, .int .i64 p] 85)).heap[wr.heap.size]? = some (.cells #[.int .i64 q, .int .i64 p] 85 (0, 0))) := hZ (blk_new _ _);generalize hwb : wr.alloc (.cells #[.int .i64 q, .int .i64 p] 85) = wb at *;clear hwb;obtain ⟨ad2, e2, k0, k1⟩ := HK.out wb HBA.out;injection e2 with e2;subst e2;refine start_ (n := 11) (S := fun w' => Hid (w'.heap[wr.heap.size]? = some (.cells #[.int .i64 q, .int .i64 p] 85 (0, 0))) /\ w'.cell? (ad.add (k * 2)) = some (.int .i64 r) /\ w'.cell? ⟨(ad.add (k * 2)).block, (ad.add (k * 2)).off + 1, none⟩ = some (.int .i64 s) /\ Hid (Below wb.drew.heap.size wb.drew w')) (ds := []) #[false, false, false, false, false, false, false, false, false, false, false] (by kernel_rfl) rfl rfl ⟨(hZ (show wb.drew.heap[wr.heap.size]? = _ from HXA.out)), (show wb.drew.cell? _ = _ from k0), (show wb.drew.cell? _ = _ from k1), (hZ (Below.refl wb.drew.heap.size wb.drew))⟩ (fun hHeld => ?_);refine with_tabW wone.tab8 wone.bits8 (fun HT_ HW_ => ?_);have hbd : Hid (Below wb.heap.size wb wb.drew) := hZ ⟨rfl, rfl, rfl, Nat.le_refl _, fun _ _ => rfl⟩;have hsd : wb.heap.size = wb.drew.heap.size := rfl;generalize hwd : wb.drew = wd at *;clear hwd;refine pst 1 (some 39) HT_ ?_;refine pst 2 (some 40) HT_ ?_;refine pst 3 (some 41) HT_ ?_;refine tst 0 (some 38) HT_ HW_ hHeld ?_ (hy := by (rintro w' ⟨s0, s1, s2, s3⟩; have e0 := (blk_cell s0.out 0).trans rfl; have e1 := (blk_cell s0.out 1).trans rfl); go_simp; with_reducible rfl);refine tst 4 (some 42) HT_ HW_ hHeld ?_ (hy := by (rintro w' ⟨s0, s1, s2, s3⟩; have e0 := (blk_cell s0.out 0).trans rfl; have e1 := (blk_cell s0.out 1).trans rfl); go_simp; with_reducible rfl);refine one_ (i := 5) (N := some 43) #[true, true, true, true, true, true, false, false, false, false, false] rfl rfl (one_of HT_.out (by kernel_rfl)) (by decide) (fun K hK => ?_);refine goes_ Tryz.func147 (by kernel_rfl) rfl #[.agg #[.int .i64 q, .int .i64 p], .agg #[.int .i64 r, .int .i64 s]] (by rfl) rfl rfl (by simp only [List.map_toArray, List.map_cons, List.map_nil]; rfl) ?_;with_reducible refine (DX _).mono ?_;rintro e w5 ⟨rfl, hB5⟩;refine ⟨_, rfl, ?_⟩;refine hK.out _ _ ⟨(hZ (blk_below hHeld.1.out hB5)), ((hB5.cell (World.block_lt_of_cell? _ _ hHeld.2.1)).trans hHeld.2.1), ((hB5.cell (World.block_lt_of_cell? _ _ hHeld.2.2.1)).trans hHeld.2.2.1), (hZ (hHeld.2.2.2.out.trans (hB5.mono hHeld.2.2.2.out.size)))⟩ (fun hHeld => ?_);clear hK K;refine norm_ (a' := ?_) ?_ ?_;rotate_left
    ·show Act.put _ (some 43) _ = _;simp only [Act.put, List.setIfInBounds_toArray, List.set_cons_zero, List.set_cons_succ, i64_w, i32_w];rfl
    refine pst 6 (some 37) HT_ ?_;refine pst 7 (some 44) HT_ ?_;refine pst 8 (some 45) HT_ ?_;refine pst 9 (some 11) HT_ ?_;refine pst 10 (some 12) HT_ ?_;refine done_ (done_of HT_.out (by kernel_rfl)) ?_;go_wp2;go_roundw
    case rel => exact ⟨i + 1, by go_num, by omega, by rw [HST2.out], hZ (HBA.out.trans ((hbd.out.trans (hHeld.2.2.2.out.mono hbd.out.size)).mono HBA.out.size))⟩
    case measure => simp [intOf]; omega
  ·obtain rfl : i = l.length := by omega
   obtain ⟨ad2, rfl, k0, k1⟩ := HK.out wr HB.out
   go_wp2_with (go_at_call 148; (with_reducible refine (DR _).mono ?_); rintro e w3 ⟨rfl, hB3⟩; have HB3 := hZ (HB.out.trans (hB3.mono HB.out.size)); clear hB3)
   go_ret2;exact ⟨by rw [HO.out]; rfl, HB3.out⟩
theorem all_calls (m : Int) (A : Option Addr) (c : Nat) (l : List S85) (w : World) (hr : Kd.C k85 w A l.length l) (hlen : l.length <= 64) (hall : ∀ k (h : k < l.length), WOk l[k]) (hm1 : 1 <= m) (hm2 : m <= 64) :
  Calls Tryz.prog 113 #[.int .i64 m, .slice A l.length c] w fun e w' => e = .returned (.tuple #[.bool (allW m l), .int .i64 0]) /\ Below w.heap.size w w' := by
 have D := may_calls m A c l w hr hlen hall hm1 hm2;have DO := fun k wx (hk : k < l.length) (hb : Below w.heap.size w wx) => one_calls m A c l k wx (Kd.C_below hr hb) hlen hall hm1 hm2 hk
 clear hr hall;go_enter Tryz.func113, Tryz.ntmps113
 go_wp2_with (go_at_call 125; (with_reducible refine D.mono ?_); rintro e w1 ⟨rfl, hB1⟩; have HB1 := hZ hB1; clear hB1)
 go_loopw [15] (fun v15 wr => ∃ i : Nat, v15 = .int .i64 i /\ i <= l.length /\ (∀ k, k < i -> oneW m l k = true) /\ Hid (Below w.heap.size w wr)) (fun v15 _ => l.length - (intOf v15).toNat)
 case atStart => exact ⟨0, rfl, Nat.zero_le _, fun k hk => by omega, HB1⟩
 case round =>
  obtain ⟨i, rfl, hi, hone, HB⟩ := hrel;have HONE := hZ hone;clear hone;by_cases hlt : i < l.length
  ·have DX := DO i wr hlt HB.out
   cases h1 : oneW m l i with
   | true =>
    rw [h1] at DX;have H1 := hZ h1;clear h1
    go_wp2_with (go_at_call 126; (with_reducible refine DX.mono ?_); rintro e w3 ⟨rfl, hB3⟩; have HB3 := hZ (HB.out.trans (hB3.mono HB.out.size)); clear hB3)
    go_roundw
    case rel => exact ⟨i + 1, by go_num, by omega, fun k hk => by
     rcases Nat.lt_or_ge k i with h | h
     ·exact HONE.out k h
     ·have : k = i := by omega
      subst this;exact H1.out, HB3⟩
    case measure => simp [intOf]; omega
   | false =>
    rw [h1] at DX;have H1 := hZ h1;clear h1
    go_wp2_with (go_at_call 126; (with_reducible refine DX.mono ?_); rintro e w3 ⟨rfl, hB3⟩; have HB3 := hZ (HB.out.trans (hB3.mono HB.out.size)); clear hB3)
    go_ret2;refine ⟨?_, HB3.out⟩
    have e : allW m l = false := by
     unfold allW;rw [List.all_eq_false];exact ⟨i, List.mem_range.2 hlt, by rw [H1.out]; simp⟩
    rw [e];rfl
  ·obtain rfl : i = l.length := by omega
   go_wp2;go_ret2;refine ⟨?_, HB.out⟩
   have e : allW m l = true := by
    unfold allW;rw [List.all_eq_true];exact fun k hk => HONE.out k (List.mem_range.1 hk)
   rw [e];rfl
def bfit.T1 : Bool × List (List Nat × List Nat) := (true, [([], []), ([0], [0]), ([1], [1]), ([2], [2]), ([], []), ([], []), ([], []), ([5, 6], [5, 6]), ([7, 7], [7]), ([4, 8, 8], [4, 8]), ([3, 9, 9], [3, 9]), ([10], [10]), ([11], [11]), ([11], [11]), ([12, 10, 0, 1, 2, 3, 4, 5, 6, 7, 8, 9, 10, 11, 12], [12]), ([13, 14, 0, 1, 2, 3, 4, 5, 6, 7, 8, 9, 10, 11, 12, 13, 14], [13])])
def bfit.B1 : List Nat := [0, 1, 3, 7, 0, 0, 0, 96, 224, 496, 1023, 2047, 4095, 4095, 8191, 32767]
theorem bfit.tab1 : rtab .any (opsOf Tryz.f97 1) = bfit.T1 := by kernel_rfl
theorem bfit.bits1 : waitsOk bfit.T1.2 bfit.B1 = true := by kernel_rfl
theorem info85 : (Tryz.prog.info? 85).map (fun i => (i.zero, i.size, i.bytes)) = some (some (.agg #[.int .i64 0, .int .i64 0]), 2, 16) := by kernel_rfl
theorem rd157 {l : List S157} {k : Nat} (h : k < l.length) : rd_T157 l (k : Int) = l[k] := by simp [rd_T157, h]
theorem eodd_calls (x : S157) (b : Nat) (id : Int) (w : World) (hb : w.cell? ⟨b, 0, none⟩ = some (.int .i64 id)) (hne : x.f0 ≠ id) :
  Calls Tryz.prog 95 #[.agg #[.int .i64 x.f0, .int .i64 x.f1.f0, .int .i64 x.f1.f1, .int .i64 x.f2], .pointer (some ⟨b, 0, none⟩)] w fun e w' => e = .returned (.bool false) /\ Below w.heap.size w w' := by
 have t0 := fun o => alloc_cell hb o
 have g : (x.f0 == id) = false := by simpa using hne
 clear hb hne;go_enter Tryz.func95, Tryz.ntmps95;go_wp2;go_ret;exact ⟨rfl, below_alloc (Below.refl _ _) _⟩
theorem eindex_calls (A : Option Addr) (c : Nat) (l : List S157) (b : Nat) (id : Int) (w : World) (hb : w.cell? ⟨b, 0, none⟩ = some (.int .i64 id)) (hr : Kd.C k157 w A l.length l) (hlen : l.length <= 64) (hall : ∀ k (h : k < l.length), l[k].f0 ≠ id) :
  Calls Tryz.prog 94 #[.slice A l.length c, .func (.func 95) #[] #[.pointer (some ⟨b, 0, none⟩)]] w fun e w' => e = .returned (.int .i64 (-1)) /\ Below w.heap.size w w' := by
 have HR := hZ hr;have HA := hZ hall;have HC := hZ hb;clear hr hall hb;go_enter Tryz.func94, Tryz.ntmps94;go_wp2
 go_loopw [8] (fun v8 wr => ∃ k : Nat, v8 = .int .i64 k /\ k <= l.length /\ Hid (Below w.heap.size w wr)) (fun v8 _ => l.length - (intOf v8).toNat)
 case atStart => exact ⟨0, rfl, Nat.zero_le _, Below.refl _ _⟩
 case round =>
  obtain ⟨k, rfl, hk, HB⟩ := hrel;by_cases hlt : k < l.length
  ·obtain ⟨ad, rfl, h0, h1, h2, h3⟩ := at_T157 (Kd.C_below HR.out HB.out) (k : Int) (by omega) (by omega);rw [Int.toNat_natCast] at h0 h1 h2 h3;have D := eodd_calls (rd_T157 l (k : Int)) b id wr ((HB.out.cell (World.block_lt_of_cell? _ _ HC.out)).trans HC.out) (by rw [rd157 hlt]; exact HA.out k hlt);generalize rd_T157 l (k : Int) = p at *;obtain ⟨p0, ⟨p1, p2⟩, p3⟩ := p;dsimp only at h0 h1 h2 h3 D
   go_wp2_with (go_at_call 95; (with_reducible refine D.mono ?_); rintro e w' ⟨rfl, hB'⟩; have HB' := hZ (HB.out.trans (hB'.mono HB.out.size)); clear hB')
   go_roundw
   case rel => exact ⟨k + 1, by go_num, by omega, HB'⟩
   case measure => simp [intOf]; omega
  ·obtain rfl : k = l.length := by omega
   go_wp2;go_ret;exact ⟨rfl, HB.out⟩
theorem efind_calls (M : Int) (N : Nat) (A : Option Addr) (c : Nat) (l : List S157) (id : Int) (w : World) (hN : w.heap[N]? = some (.cells #[.int .i64 M, .slice A l.length c, .slice none 0 0] 116 (0, 0))) (hr : Kd.C k157 w A l.length l) (hlen : l.length <= 64) (hall : ∀ k (h : k < l.length), l[k].f0 ≠ id) :
  Calls Tryz.prog 66 #[.pointer (some ⟨N, 0, none⟩), .int .i64 id] w fun e w' => e = .returned (.int .i64 (-1)) /\ Below w.heap.size w w' := by
 have hx := blk_below hN (below_alloc (Below.refl _ _) (.cells #[.int .i64 id] 3));have x1 := (blk_cell hx 1).trans rfl;have HB0 : Hid (Below w.heap.size w (w.alloc (.cells #[.int .i64 id] 3))) := hZ (below_alloc (Below.refl _ _) _);have D := eindex_calls A c l w.heap.size id (w.alloc (.cells #[.int .i64 id] 3)) ((blk_cell (blk_new w (.cells #[.int .i64 id] 3)) 0).trans rfl) (Kd.C_below hr HB0.out) hlen hall;clear hN hr hall hx;go_enter Tryz.func66, Tryz.ntmps66
 go_wp2_with (go_at_call 94; (with_reducible refine D.mono ?_); rintro e w1 ⟨rfl, hB1⟩; have HB1 := hZ (HB0.out.trans (hB1.mono HB0.out.size)); clear hB1)
 go_ret;exact ⟨rfl, HB1.out⟩
theorem lingers_calls (M : Int) (N : Nat) (V : Value) (now : Int) (w : World) (hN : w.heap[N]? = some (.cells #[.int .i64 M, V, .slice none 0 0] 116 (0, 0))) :
  Calls Tryz.prog 96 #[.pointer (some ⟨N, 0, none⟩), .int .i64 now] w fun e w' => e = .returned (.slice none 0 0) /\ Below w.heap.size w w' := by
 have x2 := (blk_cell hN 2).trans rfl;clear hN;go_enter Tryz.func96, Tryz.ntmps96;go_wp2
 go_loopw [5, 13] (fun v5 v13 wr => v5 = .slice none 0 0 /\ v13 = .int .i64 0 /\ wr = w) (fun _ _ _ => 0)
 case atStart => exact ⟨rfl, rfl, rfl⟩
 case round =>
  obtain ⟨rfl, rfl, rfl⟩ := hrel;go_wp2;go_ret;exact ⟨rfl, Below.refl _ _⟩
theorem pairs_calls (A : Option Addr) (c : Nat) (l : List S157) (w : World) (hr : Kd.C k157 w A l.length l) (hlen : l.length <= 64) :
  Calls Tryz.prog 98 #[.slice A l.length c] w fun e w' => ∃ v, e = .returned v /\ k85.R 85 w' w.heap.size (fun _ => True) v (l.map S157.f1) /\ Below w.heap.size w w' := by
 have HR := hZ hr;clear hr;go_enter Tryz.func98, Tryz.ntmps98;go_wp2
 go_loopw [3, 8] (fun v3 v8 wr => ∃ k : Nat, v8 = .int .i64 k /\ k <= l.length /\ Hid (k85.R 85 wr w.heap.size (fun _ => True) v3 ((l.take k).map S157.f1)) /\ Hid (Below w.heap.size w wr)) (fun _ v8 _ => l.length - (intOf v8).toNat)
 case atStart => exact ⟨0, rfl, Nat.zero_le _, hZ (Kd.R_nil _ _ _ _ _), Below.refl _ _⟩
 case round =>
  obtain ⟨k, rfl, hk, HO, HB⟩ := hrel;by_cases hlt : k < l.length
  ·obtain ⟨ad, rfl, h0, h1, h2, h3⟩ := at_T157 (Kd.C_below HR.out HB.out) (k : Int) (by omega) (by omega);rw [Int.toNat_natCast, rd157 hlt] at h0 h1 h2 h3;have HTK : Hid ((l.take (k + 1)).map S157.f1 = (l.take k).map S157.f1 ++ [l[k].f1]) := hZ (by rw [List.take_succ_eq_append_getElem hlt, List.map_append]; rfl);have hl2 : ((l.take k).map S157.f1).length <= 64 := by rw [List.length_map, List.length_take]; omega
   generalize (l.take k).map S157.f1 = ps at *;generalize l[k] = p at *;obtain ⟨p0, ⟨p1, p2⟩, p3⟩ := p;dsimp only at h0 h1 h2 h3
   go_wp2_with ((with_reducible refine gate_builtin (b := .append) (xs := #[.tmp 12, .tmp 15]) rfl ?_); at_builtin; refine Kd.R_append k85 (w0 := w) w.heap.size rfl (.tmp 12) (.tmp 15) 24 85 (.agg #[.int .i64 0, .int .i64 0]) 16 rfl Tryz.underlying24 info85 rfl (by decide) (by omega) _ ps (⟨p1, p2⟩ : S85) [.int .i64 p1, .int .i64 p2] (fun _ => True) (fun _ => False) rfl (by first | (go_simp; done) | (go_simp; rfl)) ?aP (fun _ hk => hk.elim) ?aF ?aO ?aB ?aS ?aL ?_; (case aP => exact k85_mkM _ _ _ _); (case aF => exact (fun _ _ => trivial)); (case aO => exact Kd.R_alloc HO.out _); (case aB => exact below_alloc HB.out _); (case aS => exact (below_alloc HB.out _).size); (case aL => omega); intro v5 w5 hR5 hB5 hg5 hat5; have HR5 := hZ hR5; have HB5 := hZ hB5; clear hR5 hB5 hg5 hat5)
   go_roundw
   case rel => exact ⟨k + 1, by go_num, by omega, hZ (by rw [HTK.out]; exact HR5.out), HB5⟩
   case measure => first | (simp [intOf]; done) | (simp [intOf]; omega)
  ·obtain rfl : k = l.length := by omega
   rw [List.take_length] at HO;go_wp2;go_ret;exact ⟨_, rfl, HO.out, HB.out⟩
theorem bfits_calls (M : Int) (N : Nat) (V v : Value) (ps : List S85) (now : Int) (base : Nat) (w0 w : World) (hN : w.heap[N]? = some (.cells #[.int .i64 M, V, .slice none 0 0] 116 (0, 0))) (hNb : N < base) (hR : k85.R 85 w base (fun _ => True) v ps) (hlen : ps.length <= 64) (hall : ∀ k (h : k < ps.length), WOk ps[k]) (hm1 : 1 <= M) (hm2 : M <= 64) (hB : Below base w0 w) (hb : base <= w.heap.size) :
  Calls Tryz.prog 97 #[.pointer (some ⟨N, 0, none⟩), v, .int .i64 now] w fun e w' => e = .returned (.bool (allW M ps)) /\ Below base w0 w' := by
 have DL := fun wx (h : wx.heap[N]? = some (.cells #[.int .i64 M, V, .slice none 0 0] 116 (0, 0))) => lingers_calls M N V now wx h
 have DP := fun wx => pairs_calls none 0 [] wx (C_nil' _ _ _) (by simp)
 have DA := fun A c wx (h : Kd.C k85 wx A ps.length ps) => all_calls M A c ps wx h hlen hall hm1 hm2
 have HN := hZ hN;have HR := hZ hR;have HB := hZ hB;clear hN hR hall hB;simp only [List.length_nil, List.map_nil] at DP;generalize allW M ps = res at *;go_enter Tryz.func97, Tryz.ntmps97;have HRD : Hid (k85.R 85 w.drew base (fun _ => True) v ps) := hZ (Kd.R_drew HR.out);have hbs : base <= w.drew.heap.size := hb
 go_upto_region 1 with fail
 refine start_ (n := 16) (S := fun w' => Hid (w'.heap[N]? = some (.cells #[.int .i64 M, V, .slice none 0 0] 116 (0, 0))) /\ Hid (Below base w.drew w')) (ds := [10]) #[false, false, false, false, false, false, false, false, false, false, false, false, false, false, false, false] (by kernel_rfl) rfl rfl ⟨(hZ (show w.drew.heap[N]? = _ from HN.out)), (hZ (Below.refl base w.drew))⟩ (fun hHeld => ?_);refine with_tabW bfit.tab1 bfit.bits1 (fun HT_ HW_ => ?_);have hbd : Hid (Below w.heap.size w w.drew) := hZ ⟨rfl, rfl, rfl, Nat.le_refl _, fun _ _ => rfl⟩;have hsd : w.heap.size = w.drew.heap.size := rfl;generalize hwd : w.drew = wd at *;clear hwd;refine pst 0 (some 10) HT_ ?_;refine pst 1 (some 11) HT_ ?_;refine pst 2 (some 12) HT_ ?_;refine pst 4 (some 14) HT_ ?_;refine pst 5 (some 15) HT_ ?_;refine pst 6 (some 16) HT_ ?_;refine tst 3 (some 13) HT_ HW_ hHeld ?_ (hy := by (rintro w' ⟨s0, s1⟩; have e0 := (blk_cell s0.out 0).trans rfl); go_simp; with_reducible rfl);refine one_ (i := 7) (N := some 17) #[true, true, true, true, true, true, true, true, false, false, false, false, false, false, false, false] rfl rfl (one_of HT_.out (by kernel_rfl)) (by decide) (fun K hK => ?_);refine goes_ Tryz.func96 (by kernel_rfl) rfl #[.pointer (some ⟨N, 0, none⟩), .int .i64 now] (by rfl) rfl rfl (by simp only [List.map_toArray, List.map_cons, List.map_nil]; rfl) ?_;with_reducible refine (DL _ hHeld.1.out).mono ?_;rintro e w3 ⟨rfl, hB3⟩;refine ⟨_, rfl, ?_⟩;refine hK.out _ _ ⟨(hZ (blk_below hHeld.1.out hB3)), (hZ (hHeld.2.out.trans (hB3.mono (Nat.le_trans hbs hHeld.2.out.size))))⟩ (fun hHeld => ?_);clear hK K;refine norm_ (a' := ?_) ?_ ?_;rotate_left
 ·show Act.put _ (some 17) _ = _;simp only [Act.put, List.setIfInBounds_toArray, List.set_cons_zero, List.set_cons_succ, i64_w, i32_w];rfl
 refine one_ (i := 8) (N := some 18) #[true, true, true, true, true, true, true, true, true, false, false, false, false, false, false, false] rfl rfl (one_of HT_.out (by kernel_rfl)) (by decide) (fun K hK => ?_);refine goes_ Tryz.func98 (by kernel_rfl) rfl #[.slice none 0 0] (by rfl) rfl rfl (by simp only [List.map_toArray, List.map_cons, List.map_nil]; rfl) ?_;with_reducible refine (DP _).mono ?_;rintro e w4 ⟨v4, rfl, hR4, hB4⟩;refine ⟨_, rfl, ?_⟩;obtain ⟨AL, cL, eL, hcL, hCL⟩ := Kd.R_reads hR4;simp only [List.length_nil] at eL hCL;subst eL;have HCL := hZ hCL;refine hK.out _ _ ⟨(hZ (blk_below hHeld.1.out hB4)), (hZ (hHeld.2.out.trans (hB4.mono (Nat.le_trans hbs hHeld.2.out.size))))⟩ (fun hHeld => ?_);clear hK K;refine norm_ (a' := ?_) ?_ ?_;rotate_left
 ·show Act.put _ (some 18) _ = _;simp only [Act.put, List.setIfInBounds_toArray, List.set_cons_zero, List.set_cons_succ, i64_w, i32_w];rfl
 refine one_ (i := 9) (N := some 19) #[true, true, true, true, true, true, true, true, true, true, false, false, false, false, false, false] rfl rfl (one_of HT_.out (by kernel_rfl)) (by decide) (fun K hK => ?_);refine Kd.R_append_rows_step k85 (Rr := k85.K w4) (w0 := w4) base (by rfl) (.tmp 14) (.tmp 18) 24 85 (.agg #[.int .i64 0, .int .i64 0]) 16 rfl Tryz.underlying24 info85 rfl (by decide) (by omega) v ps [] AL 0 cL (fun _ => True) (fun _ => False) (by rfl) (by rfl) (Kd.R_below (Kd.R_below HRD.out hB3) hB4) HCL.out (fun x cs h => by obtain rfl := k85_open h; exact k85_mkM _ _ _ _) (fun _ h => h.elim) (fun _ _ => trivial) (Below.refl _ _) (Nat.le_trans hbs hHeld.2.out.size) (by omega) ?_;intro v5 w5 hR5 hB5 hg5 hat5;rw [List.append_nil] at hR5;obtain ⟨A5, c5, e5, _, hC5⟩ := Kd.R_reads hR5;subst e5;have HC5 := hZ hC5;refine hK.out _ _ ⟨(hZ ((hB5.block N hNb).trans hHeld.1.out)), (hZ (hHeld.2.out.trans hB5))⟩ (fun hHeld => ?_);clear hK K;refine norm_ (a' := ?_) ?_ ?_;rotate_left
 ·show Act.put _ (some 19) _ = _;simp only [Act.put, List.setIfInBounds_toArray, List.set_cons_zero, List.set_cons_succ, i64_w, i32_w];rfl
 refine last_ (i := 10) (N := some 20) #[true, true, true, true, true, true, true, true, true, true, true, false, false, false, false, false] rfl rfl (one_of HT_.out (by kernel_rfl)) (by decide) (fun K hK => ?_);refine goes_ Tryz.func113 (by kernel_rfl) rfl #[.int .i64 M, .slice A5 ps.length c5] (by rfl) rfl rfl (by simp only [List.map_toArray, List.map_cons, List.map_nil]; rfl) ?_;with_reducible refine (DA A5 c5 _ HC5.out).mono ?_;rintro e w6 ⟨rfl, hB6⟩;refine ⟨_, rfl, ?_⟩;have HBF := hZ ((HB.out.trans (hbd.out.mono hb)).trans (hHeld.2.out.trans (hB6.mono (Nat.le_trans hbs hHeld.2.out.size))));refine hK.out _ _ ?_;clear hK K;refine norm_ (a' := ?_) ?_ ?_;rotate_left
 ·show Act.put _ (some 20) _ = _;simp only [Act.put, List.setIfInBounds_toArray, List.set_cons_zero, List.set_cons_succ, i64_w, i32_w];rfl
 refine pst 11 (some 9) HT_ ?_;refine pst 12 (some 21) HT_ ?_;refine pst 13 (some 22) HT_ ?_;refine pst 14 (some 7) HT_ ?_;refine pst 15 (some 8) HT_ ?_;refine done_ (done_of HT_.out (by kernel_rfl)) ?_
 cases res
 all_goals
  go_wp2;go_ret;exact ⟨rfl, HBF.out⟩
end Go.Proofs.YtfimkmlgnmaopaaGreat.Top
