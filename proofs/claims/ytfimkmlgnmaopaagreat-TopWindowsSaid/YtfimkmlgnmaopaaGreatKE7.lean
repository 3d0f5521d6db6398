/- Part 7 of what is proved of the functions that the law reaches (contracts of functions, plain laws): no condition but those that each theorem names. -/
import Derived.Test.YtfimkmlgnmaopaaGreatKE6
set_option maxHeartbeats 40000000
set_option maxRecDepth 100000
namespace Go.Proofs.YtfimkmlgnmaopaaGreat.Top
open Go.RowKit Go.Proofs.YtfimkmlgnmaopaaGreatW.PrintWords Go.Proofs.YtfimkmlgnmaopaaGreatW.PrintLast Go.Proofs.YtfimkmlgnmaopaaGreatW.PrintMore Go.Proofs.YtfimkmlgnmaopaaGreat.PTopNames
set_option linter.unusedVariables false
set_option linter.unusedSimpArgs false
section
variable {M now c : Int} {wt : Nat -> Int} {D : Nat -> Prop} {l : List S57} {q : List S63} {R : Nat -> List Nat}
theorem Inv.less (h : Inv M now c wt D l q R) (D' : Nat -> Prop) (h1 : ∀ k, k < l.length -> D k -> ¬ D' k -> (at_ l k).f1.f4 ≠ 0 -> doneOf (at_ l k) < (servStep (at_ l k)).f1) (h2 : ∀ n (hn : n < q.length) k r, R n = k :: r -> D k -> ¬ D' k -> (at_ l k).f4 < q[n].f0) : Inv M now c wt D' l q R where
  sane := h.sane
  now0 := h.now0
  now1 := h.now1
  qlen := h.qlen
  qmost := h.qmost
  serv := fun k hk => by
    have hs := h.serv k hk
    have hp : (at_ l k).f1.f4 ≠ 0 -> ¬ D' k -> doneOf (at_ l k) < (servStep (at_ l k)).f1 := fun hm hd' => by
      by_cases hd : D k
      · exact h1 k hk hd hd' hm
      · exact hs.part hm hd
    exact { hs with part := hp }
  rows := by
    have hp : ∀ n (hn : n < q.length) k r, R n = k :: r -> (at_ l k).f4 <= q[n].f0 /\ (¬ D' k -> (at_ l k).f4 < q[n].f0) := fun n hn k r e => ⟨(h.rows.most n hn k r e).1, fun hd' => by
      by_cases hd : D k
      · exact h2 n hn k r e hd hd'
      · exact (h.rows.most n hn k r e).2 hd⟩
    exact { h.rows with most := hp }
def leftV (x : S57) (js : List S125) : S57 := { x with f3 := 0, f2 := js, f1 := if js.length = 0 then { x.f1 with f4 := 0 } else x.f1 }
theorem ServOk.left {d d' : Prop} {ql : Nat} {x : S57} (h : ServOk now c d ql x) (hm : x.f1.f4 ≠ 0) {js : List S125} (hl : js.length <= 8) (hj : ∀ j ∈ js, JobOk j /\ ∀ s ∈ j.f1, s.f0 <= ql) (h0 : ∀ j ∈ js.head?, j.f3 = 0) (ht : ∀ j ∈ js.tail, j.f2 = 0 /\ j.f3 = 0) : ServOk now c d' ql (leftV x js) := by
  obtain ⟨a1, a2, a3, a4, a5, a6, a7, a8, a9, a10⟩ := h.cbs
  have hd : doneOf (leftV x js) = 0 := by
    unfold doneOf leftV
    cases js with
    | nil => rfl
    | cons j r => exact h0 j rfl
  have h3 : (leftV x js).f3 = 0 := rfl
  cases js with
  | nil =>
    exact { cbs := ⟨a1, a2, a3, a4, a5, a6, a7, by show (0 : Int) <= 0; decide, by show (0 : Int) <= 2; decide, fun e => absurd e (by show ¬ (0 : Int) = 1; decide)⟩
            due := h.due
            ahead := fun e => absurd rfl e
            idle := fun _ => ⟨rfl, rfl⟩
            busy := fun e => absurd rfl e
            jlen := hl, jobs := hj, rest := ht
            sec := by show (0 : Int) <= 0 /\ (0 : Int) <= 2; decide
            spin := fun _ _ => hd
            sem := fun e => absurd rfl e
            secm := fun e => absurd rfl e
            part := fun e => absurd rfl e
            held := h.held, ran := h.ran, num := h.num }
  | cons j r =>
    have hjj := hj j (by simp);have hpo := good_step hjj.1.prog (job_step hjj.1)
    exact { cbs := h.cbs, due := h.due, ahead := h.ahead
            idle := fun e => absurd e hm
            busy := fun _ => by show j :: r ≠ []; simp
            jlen := hl, jobs := hj, rest := ht
            sec := by show (0 : Int) <= 0 /\ (0 : Int) <= 2; decide
            spin := fun _ _ => hd
            sem := fun e => absurd rfl e
            secm := fun e => absurd rfl e
            part := fun _ _ => by
              rw [hd];show 0 < (stepOf j).f1;unfold poddB at hpo;simp only [decide_eq_false_iff_not, not_or] at hpo;omega
            held := h.held, ran := h.ran, num := h.num }
theorem freeL_at {l1 : List S57} (hs : Sorted l1) {n : Nat} (hn : n < q.length) {r : List Nat} (hr : q[n].f2 = r.map (fun k => (at_ l1 k).f0)) (hl : ∀ k ∈ r, k < l1.length) (hid : ∀ k ∈ r, (at_ l1 k).f0 ≠ 0) (t : Bool) :
    (freeL now l1 q n t).1.length = l1.length /\ (∀ k, at_ (freeL now l1 q n t).1 k = if r.head? = some k then { at_ l1 k with f3 := 2, f4 := 0 } else at_ l1 k) /\ ∃ y : S63, (freeL now l1 q n t).2.1 = q.set n y /\ y.f0 = q[n].f0 /\ (if y.f1 = 0 then [] else y.f1 :: y.f2) = r.map (fun k => (at_ l1 k).f0) /\ (y.f1 = 0 -> y.f2 = []) := by
  have e2 : q.getD n z63 = q[n] := by simp [hn]
  cases r with
  | nil =>
    have e : freeL now l1 q n t = (l1, q.set n { q[n] with f1 := 0, f3 := t }, []) := by
      unfold freeL;rw [e2, hr];rfl
    rw [e];exact ⟨rfl, fun k => by simp, _, rfl, rfl, rfl, fun _ => hr⟩
  | cons a s =>
    have ha := hl a (by simp);have hah : ahead l1 (at_ l1 a).f0 = a := by rw [at_lt ha]; exact ahead_at hs ha
    have e : freeL now l1 q n t = (l1.set a { at_ l1 a with f3 := 2, f4 := 0 }, q.set n { q[n] with f1 := (at_ l1 a).f0, f2 := s.map (fun k => (at_ l1 k).f0) }, (if t then [⟨now, 7, (at_ l1 a).f0, 0⟩] else []) ++ [⟨now, 6, (at_ l1 a).f0, (n : Int) + 1⟩]) := by
      unfold freeL;rw [e2, hr];simp only [List.map_cons];rw [hah];rfl
    rw [e];refine ⟨List.length_set .., fun k => ?_, _, rfl, rfl, ?_, fun h0 => absurd h0 (hid a (by simp))⟩
    · rw [at_set];by_cases ek : k = a
      · subst ek; rw [if_pos ⟨rfl, ha⟩]; exact (if_pos rfl).symm
      · rw [if_neg (fun h => ek h.1)]; exact (if_neg (by simp; exact fun h => ek h.symm)).symm
    · dsimp only;rw [if_neg (hid a (by simp))];rfl
structure Ended (M now c : Int) (wt : Nat -> Int) (D : Nat -> Prop) (l : List S57) (q : List S63) (R : Nat -> List Nat) (i : Nat) (l' : List S57) (q' : List S63) (R' : Nat -> List Nat) (D' : Nat -> Prop) : Prop where
  inv : Inv M now c wt D' l' q' R'
  sub : ∀ k, D' k -> D k /\ k ≠ i
  row : ∀ n, R' n = R n \/ (D i /\ R n = i :: R' n /\ ∀ b r, R' n = b :: r -> ¬ D' b)
  len : l'.length = l.length
  qlen : q'.length = q.length
  f0 : ∀ k, (at_ l' k).f0 = (at_ l k).f0
  f1 : ∀ k, k ≠ i -> (at_ l' k).f1 = (at_ l k).f1
  most : ∀ n, (q'.getD n z63).f0 = (q.getD n z63).f0
theorem endB_at (now : Int) (l : List S57) {i : Nat} (hi : i < l.length) : (endB now l i).1.length = l.length /\ ∀ k, at_ (endB now l i).1 k = if k = i then { at_ l i with f1 := if (at_ l i).f2.length = 0 then { (at_ l i).f1 with f4 := 0 } else (at_ l i).f1 } else at_ l k := by
  unfold endB;by_cases h : (l.getD i z57).f2.length = 0
  · rw [if_pos h];refine ⟨List.length_set .., fun k => ?_⟩;rw [at_set];have h2 : (at_ l i).f2.length = 0 := h;by_cases e : k = i
    · rw [if_pos ⟨e, hi⟩, if_pos e, if_pos h2]; rfl
    · rw [if_neg (fun h => e h.1), if_neg e]
  · rw [if_neg h];have h2 : ¬ (at_ l i).f2.length = 0 := h;have e3 : (if (l.getD i z57).f1.f4 = 2 then (l, [(⟨now, 4, (l.getD i z57).f0, 0⟩ : Ev)]) else (l, [])).1 = l := by split <;> rfl
    rw [e3];refine ⟨rfl, fun k => ?_⟩;by_cases e : k = i
    · subst e; rw [if_pos rfl, if_neg h2]
    · rw [if_neg e]
theorem Inv.at0 (h : Inv M now c wt D l q R) {i : Nat} (hi : i < l.length) (h3 : (at_ l i).f3 = 0) {x : S57} (h0 : x.f0 = (at_ l i).f0) (hx3 : x.f3 = 0) (D' : Nat -> Prop) (hx : ServOk now c (D' i) q.length x) (hD : ∀ k, k ≠ i -> (D k ↔ D' k)) {l' : List S57} (hl : l'.length = l.length) (hat : ∀ k, at_ l' k = if k = i then x else at_ l k) : Inv M now c wt D' l' q R := by
  have e : l' = l.set i x := by
    rw [list_at l', list_at (l.set i x), hl, List.length_set];refine List.map_congr_left (fun k _ => ?_);rw [hat, at_set];by_cases ek : k = i
    · rw [if_pos ek, if_pos ⟨ek, hi⟩]
    · rw [if_neg ek, if_neg (fun h => ek h.1)]
  rw [e];exact h.set0 hi h3 h0 hx3 D' hx hD
def finV (x : S57) (ns : List S125) : S57 := { x with f2 := ns, f1 := if ns.length = 0 then { x.f1 with f4 := 0 } else x.f1 }
theorem Inv.endpop (h : Inv M now c wt D l q R) {i n : Nat} (hi : i < l.length) (hm : (at_ l i).f1.f4 ≠ 0) (hDi : D i) (hn : n < q.length) {r : List Nat} (hR : R n = i :: r) {ns : List S125} (hnl : ns.length <= 8) (hnj : ∀ j ∈ ns, JobOk j /\ ∀ s ∈ j.f1, s.f0 <= q.length) (hn0 : ∀ j ∈ ns.head?, j.f3 = 0) (hnt : ∀ j ∈ ns.tail, j.f2 = 0 /\ j.f3 = 0)
    {l1 : List S57} {x1 : S57} (hx1 : x1.f0 = (at_ l i).f0) (hxf : finV x1 ns = leftV (at_ l i) ns) (hl1 : l1.length = l.length) (hat1 : ∀ k, at_ l1 k = if k = i then x1 else at_ l k) (t : Bool) {l' : List S57} (hl' : l'.length = (freeL now l1 q n t).1.length) (hat : ∀ k, at_ l' k = if k = i then finV (at_ (freeL now l1 q n t).1 i) ns else at_ (freeL now l1 q n t).1 k) : ∃ R' D', Ended M now c wt D l q R i l' (freeL now l1 q n t).2.1 R' D' := by
  have hni : i ∉ r := by have := h.rows.nodup n; rw [hR] at this; exact (List.nodup_cons.1 this).1
  have hrl : ∀ k ∈ r, k < l.length /\ k ≠ i := fun k hk => ⟨((h.rows.mem n k).1 (by rw [hR]; exact List.mem_cons_of_mem _ hk)).1, fun e => hni (e ▸ hk)⟩
  have hf0 : ∀ k, (at_ l1 k).f0 = (at_ l k).f0 := fun k => by
    rw [hat1]; split
    · subst_vars; exact hx1
    · rfl
  have hs1 : Sorted l1 := by
    rw [sorted_at];intro a b hab hb;rw [hf0, hf0];exact sorted_at.1 h.sane.sorted a b hab (by omega)
  have hids := h.rows.ids n hn;rw [hR] at hids;have hq1 : q[n].f1 ≠ 0 := fun e => by rw [if_pos e] at hids; simp at hids
  rw [if_neg hq1, List.map_cons, List.cons.injEq] at hids
  have hidn : ∀ k ∈ r, (at_ l1 k).f0 ≠ 0 := fun k hk => by
    have h1 := (hrl k hk).1;have h2 := h.sane.id k h1;rw [hf0, at_lt h1];omega
  obtain ⟨e1, e2, y, e3, e4, e5, e6⟩ := freeL_at (now := now) (q := q) hs1 hn (hids.2.trans (List.map_congr_left (fun k _ => (hf0 k).symm))) (fun k hk => by have := (hrl k hk).1; omega) hidn t;have hheadi : r.head? ≠ some i := fun e => hni (List.mem_of_head? e)
  have hat2 : ∀ k, at_ l' k = if k = i then leftV (at_ l i) ns else if r.head? = some k then { at_ l k with f3 := 2, f4 := 0 } else at_ l k := fun k => by
    rw [hat];by_cases e : k = i
    · rw [if_pos e, if_pos e, e2, if_neg hheadi, hat1, if_pos rfl]; exact hxf
    · rw [if_neg e, if_neg e, e2, hat1, if_neg e]
  have hinv := h.pop hi hn hR (x := leftV (at_ l i) ns) rfl rfl (fun k => D k /\ k ≠ i /\ r.head? ≠ some k) ((h.serv i hi).left hm hnl hnj hn0 hnt) (fun k h1 h2 h3 => ⟨h3, h1, h2⟩) (hl'.trans (e1.trans hl1)) hat2 e3 e4 (e5.trans (List.map_congr_left (fun k _ => hf0 k))) e6;refine ⟨_, _, hinv, fun k hk => ⟨hk.1, hk.2.1⟩, fun m => ?_, hl'.trans (e1.trans hl1), by rw [e3, List.length_set], fun k => ?_, fun k hk => ?_, fun m => ?_⟩
  · by_cases em : m = n
    · subst em;have er : popR R m m = r := by unfold popR; rw [if_pos rfl, hR]; rfl
      refine .inr ⟨hDi, by rw [er]; exact hR, fun b s e hd => ?_⟩;rw [er] at e;exact hd.2.2 (by rw [e]; rfl)
    · exact .inl (if_neg em)
  · rw [hat2]; split
    · subst_vars; rfl
    · split <;> rfl
  · rw [hat2, if_neg hk]; split <;> rfl
  · rw [e3, List.getD_eq_getElem?_getD, List.getD_eq_getElem?_getD, List.getElem?_set];by_cases e : n = m
    · subst e; rw [if_pos rfl, if_pos hn]; simp [e4, hn]
    · rw [if_neg e]
theorem Inv.endnone (h : Inv M now c wt D l q R) {i : Nat} (hi : i < l.length) (hb : (at_ l i).f2 ≠ []) (hlt : doneOf (at_ l i) < (servStep (at_ l i)).f1) (hmo : ∀ n (hn : n < q.length) r, R n = i :: r -> (at_ l i).f4 < q[n].f0) (e : endA now l q i = (l, q, [])) : ∃ R' D', Ended M now c wt D l q R i (endL now l q i).1 (endL now l q i).2.1 R' D' := by
  have hB := endB_at now l hi
  have e1 : (endL now l q i).1 = l := by
    show (endB now (endA now l q i).1 i).1 = l;rw [e];rw [list_at (endB now l i).1, hB.1]
    conv => rhs; rw [list_at l]
    refine List.map_congr_left (fun k _ => ?_);rw [hB.2];by_cases ek : k = i
    · subst ek;rw [if_pos rfl, if_neg (by simpa using hb)]
    · rw [if_neg ek]
  have e2 : (endL now l q i).2.1 = q := by show (endA now l q i).2.1 = q; rw [e]
  rw [e1, e2];refine ⟨R, fun k => D k /\ k ≠ i, h.less _ (fun k hk hd hd' _ => ?_) (fun n hn k r hR hd hd' => ?_), fun k hk => hk, fun n => .inl rfl, rfl, rfl, fun _ => rfl, fun _ _ => rfl, fun _ => rfl⟩
  · have : k = i := Classical.byContradiction (fun hne => hd' ⟨hd, hne⟩);subst this;exact hlt
  · have : k = i := Classical.byContradiction (fun hne => hd' ⟨hd, hne⟩);subst this;exact hmo n hn r hR
theorem Inv.ends (h : Inv M now c wt D l q R) {i : Nat} (hi : i < l.length) (hm : (at_ l i).f1.f4 ≠ 0) : ∃ R' D', Ended M now c wt D l q R i (endL now l q i).1 (endL now l q i).2.1 R' D' := by
  have hs := h.serv i hi;obtain ⟨j, js, hx, hj, hq, hst, hdn⟩ := hs.head (hs.busy hm);have hrest := hs.rest;rw [hx] at hrest;have hjl := hs.jlen;rw [hx] at hjl;have hjobs := hs.jobs;rw [hx] at hjobs;have hpo := good_step hj.prog (job_step hj);unfold poddB at hpo;simp only [decide_eq_false_iff_not, not_or] at hpo;have hg : l.getD i z57 = at_ l i := rfl;by_cases hov : j.f3 = (stepOf j).f1
  · -- the step is over
    have hDi : D i := by
      refine Classical.byContradiction (fun hd => ?_);have := hs.part hm hd;rw [hst, hdn] at this;omega
    have hn1 : (at_ l i).f3 ≠ 1 := fun e => by
      have := hs.spin (by omega) (hs.sem (by rw [e]; decide));rw [hdn] at this;omega
    obtain ⟨ns, hns, hnl, hnj, hn0, hnt⟩ : ∃ ns, ns = (if j.f2 + 1 = (j.f1.length : Int) then js else { j with f2 := j.f2 + 1, f3 := 0 } :: js) /\ ns.length <= 8 /\ (∀ j ∈ ns, JobOk j /\ ∀ s ∈ j.f1, s.f0 <= q.length) /\ (∀ j ∈ ns.head?, j.f3 = 0) /\ (∀ j ∈ ns.tail, j.f2 = 0 /\ j.f3 = 0) := by
      refine ⟨_, rfl, ?_⟩;split
      · refine ⟨by simp at hjl; omega, fun j' hj' => hjobs j' (List.mem_cons_of_mem _ hj'), fun j' hj' => (hrest j' (List.mem_of_head? hj')).2, fun j' hj' => hrest j' (List.mem_of_mem_tail hj')⟩
      · rename_i hne;have h1 := hj.atl;have h2 := hj.at0;refine ⟨by simpa using hjl, fun j' hj' => ?_, fun j' hj' => ?_, fun j' hj' => hrest j' hj'⟩
        · rcases List.mem_cons.1 hj' with rfl | hj'
          · have hok : pgoodB j.f1 = true := hj.prog;obtain ⟨t, ht⟩ : ∃ t : Nat, j.f2 + 1 = t := ⟨(j.f2 + 1).toNat, by omega⟩;have ht2 : t < j.f1.length := by omega
            have hso : stepOf { j with f2 := j.f2 + 1, f3 := 0 } = j.f1[t] := by
              unfold stepOf;show rd_T72 j.f1 (j.f2 + 1) = _;rw [ht];simp [rd_T72, ht2]
            have hgs := good_step hok (List.getElem_mem ht2);unfold poddB at hgs;simp only [decide_eq_false_iff_not, not_or] at hgs;exact ⟨⟨hj.num, hj.prog, by show 0 <= j.f2 + 1; omega, by show j.f2 + 1 < (j.f1.length : Int); omega, by show (0 : Int) <= 0; decide, by rw [hso]; show 0 <= (j.f1[t]).f1; omega⟩, hq⟩
          · exact hjobs j' (List.mem_cons_of_mem _ hj')
        · simp only [List.head?_cons, Option.mem_def, Option.some.injEq] at hj';subst hj';rfl
    have hxi : l[i] = at_ l i := (at_lt hi).symm;obtain ⟨⟨l1, q1, e1⟩, ha⟩ : ∃ t, overA now l q i l[i] (stepOf j).f0 = t := ⟨_, rfl⟩;have hal := (overA_alike now l q hi (stepOf j).f0).1.len;rw [ha] at hal;have hi1 : i < l1.length := by rw [hal]; exact hi
    have eA : (endA now l q i).1 = l1.set i { l1[i] with f2 := ns } /\ (endA now l q i).2.1 = q1 := by
      rw [endA_over hi (by rw [hxi]; exact hx) (st0 := (stepOf j).f0) (st1 := (stepOf j).f1) rfl hov ha hi1, hns];split <;> exact ⟨rfl, rfl⟩
    have hB := endB_at now (endA now l q i).1 (i := i) (by rw [eA.1, List.length_set]; exact hi1)
    have hlen : (endL now l q i).1.length = l1.length := by
      show (endB now (endA now l q i).1 i).1.length = _;rw [hB.1, eA.1, List.length_set]
    have hat : ∀ k, at_ (endL now l q i).1 k = if k = i then finV (at_ l1 i) ns else at_ l1 k := fun k => by
      show at_ (endB now (endA now l q i).1 i).1 k = _;rw [hB.2, eA.1];have e5 : at_ (l1.set i { l1[i] with f2 := ns }) i = { l1[i] with f2 := ns } := by rw [at_set, if_pos ⟨rfl, hi1⟩]
      by_cases e : k = i
      · rw [if_pos e, if_pos e, e5, <- at_lt hi1];rfl
      · rw [if_neg e, if_neg e, at_set, if_neg (fun h => e h.1)]
    have hqq : (endL now l q i).2.1 = q1 := eA.2;by_cases h2 : (at_ l i).f3 = 2
    · obtain ⟨n, hn, hsn, r, hR⟩ := h.holder hi h2;have en : ((stepOf j).f0 - 1).toNat = n := by rw [hst] at hsn; omega
      unfold overA at ha;rw [hxi, if_pos h2, en] at ha
      have hl1 : ∀ k, at_ (l.set i { at_ l i with f3 := 0 }) k = if k = i then { at_ l i with f3 := 0 } else at_ l k := fun k => by
        rw [at_set];by_cases e : k = i
        · rw [if_pos ⟨e, hi⟩, if_pos e]
        · rw [if_neg (fun h => e h.1), if_neg e]
      have ha1 : l1 = (freeL now (l.set i { at_ l i with f3 := 0 }) q n false).1 := by rw [ha]
      have ha2 : q1 = (freeL now (l.set i { at_ l i with f3 := 0 }) q n false).2.1 := by rw [ha]
      rw [hqq, ha2];rw [ha1] at hlen hat;exact h.endpop hi hm hDi hn hR hnl hnj hn0 hnt (x1 := { at_ l i with f3 := 0 }) rfl rfl (List.length_set ..) hl1 false hlen hat
    · have h30 : (at_ l i).f3 = 0 := by have := hs.sec; omega
      unfold overA at ha;rw [hxi, if_neg h2] at ha
      obtain ⟨rfl, rfl, rfl⟩ : l = l1 /\ q = q1 /\ ([] : List Ev) = e1 := by
        injection ha with a1 a2;injection a2 with a2 a3;exact ⟨a1, a2, a3⟩
      have hfin : finV (at_ l i) ns = leftV (at_ l i) ns := by
        unfold finV leftV;rw [h30.symm]
      rw [hfin] at hat;refine ⟨R, fun k => D k /\ k ≠ i, ?_⟩;rw [hqq];refine ⟨h.at0 hi h30 (x := leftV (at_ l i) ns) rfl rfl _ (hs.left hm hnl hnj hn0 hnt) (fun k hk => ⟨fun a => ⟨a, hk⟩, fun a => a.1⟩) hlen hat, fun k hk => hk, fun n => .inl rfl, hlen, rfl, fun k => ?_, fun k hk => ?_, fun _ => rfl⟩
      · rw [hat]; split
        · subst_vars; rfl
        · rfl
      · rw [hat, if_neg hk]
  · -- it is not
    have hlt : doneOf (at_ l i) < (servStep (at_ l i)).f1 := by
      have := hj.dn;rw [hst, hdn];omega
    by_cases h2 : (at_ l i).f3 = 2
    · obtain ⟨n, hn, hsn, r, hR⟩ := h.holder hi h2;have hxi : l[i] = at_ l i := (at_lt hi).symm;have hmo := h.rows.most n hn i r hR;by_cases h4 : (at_ l i).f4 = q[n].f0
      · -- it is thrown out
        have hDi : D i := Classical.byContradiction (fun hd => by have := hmo.2 hd; omega);have e := endA_held (now := now) (q := q) hi (by rw [hxi]; exact hx) (n := n) (st1 := (stepOf j).f1) (by rw [hst] at hsn; rw [<- hsn]) hov (by rw [hxi]; exact h2) hn (by rw [hxi]; exact h4);rw [hxi] at e
        have hl1 : ∀ k, at_ (l.set i { at_ l i with f2 := js, f3 := 0 }) k = if k = i then { at_ l i with f2 := js, f3 := 0 } else at_ l k := fun k => by
          rw [at_set];by_cases e : k = i
          · rw [if_pos ⟨e, hi⟩, if_pos e]
          · rw [if_neg (fun h => e h.1), if_neg e]
        have hlf : (freeL now (l.set i { at_ l i with f2 := js, f3 := 0 }) q n true).1.length = l.length := by rw [(freeL_alike ..).len, List.length_set]
        have hB := endB_at now (endA now l q i).1 (i := i) (by rw [e]; show i < (freeL now (l.set i { at_ l i with f2 := js, f3 := 0 }) q n true).1.length; rw [hlf]; exact hi);have e1 : (endA now l q i).1 = (freeL now (l.set i { at_ l i with f2 := js, f3 := 0 }) q n true).1 := by rw [e]
        have e2 : (endL now l q i).2.1 = (freeL now (l.set i { at_ l i with f2 := js, f3 := 0 }) q n true).2.1 := by show (endA now l q i).2.1 = _; rw [e]
        rw [e2];have hal := (freeL_alike now (l.set i { at_ l i with f2 := js, f3 := 0 }) q n true)
        have hjs : (at_ (freeL now (l.set i { at_ l i with f2 := js, f3 := 0 }) q n true).1 i).f2 = js := by
          have hi2 : i < (l.set i { at_ l i with f2 := js, f3 := 0 }).length := by rw [List.length_set]; exact hi
          have h5 := (hal.at_ i hi2 (by rw [hlf]; exact hi)).2.2;rw [at_lt (by rw [hlf]; exact hi), h5, <- at_lt hi2, hl1, if_pos rfl]
        refine h.endpop hi hm hDi hn hR (ns := js) (by simp at hjl; omega) (fun j' hj' => hjobs j' (List.mem_cons_of_mem _ hj')) (fun j' hj' => (hrest j' (List.mem_of_head? hj')).2) (fun j' hj' => hrest j' (List.mem_of_mem_tail hj')) (x1 := { at_ l i with f2 := js, f3 := 0 }) rfl rfl (List.length_set ..) hl1 true (by show (endB now (endA now l q i).1 i).1.length = _; rw [hB.1, e1]) (fun k => ?_);show at_ (endB now (endA now l q i).1 i).1 k = _;rw [hB.2, e1];by_cases ek : k = i
        · rw [if_pos ek, if_pos ek];unfold finV;rw [hjs];generalize at_ (freeL now (l.set i { at_ l i with f2 := js, f3 := 0 }) q n true).1 i = z at *;subst hjs;rfl
        · rw [if_neg ek, if_neg ek]
      · have e : endA now l q i = (l, q, []) := endA_none hi (by rw [hxi]; exact hx) (st0 := (stepOf j).f0) (st1 := (stepOf j).f1) rfl hov (fun _ => ⟨n, hn, by rw [hst] at hsn; exact hsn, by rw [hxi]; exact h4⟩);refine h.endnone hi (hs.busy hm) hlt (fun n' hn' r' hR' => ?_) e
        have en : n' = n := by
          have h5 := ((h.rows.mem n' i).1 (by rw [hR']; simp)).2.2;omega
        subst en;have := hmo.1;omega
    · have hxi : l[i] = at_ l i := (at_lt hi).symm;have e : endA now l q i = (l, q, []) := endA_none hi (by rw [hxi]; exact hx) (st0 := (stepOf j).f0) (st1 := (stepOf j).f1) rfl hov (fun e => absurd (by rw [<- hxi]; exact e) h2);exact h.endnone hi (hs.busy hm) hlt (fun n' hn' r' hR' => absurd (h.rows.first n' i r' hR').1 h2) e
end
def Pops (R R' : Nat -> List Nat) : Prop := ∀ n, R' n = R n \/ ∃ a, R n = a :: R' n
section
variable {M now c : Int} {wt : Nat -> Int} {D : Nat -> Prop} {l : List S57} {q : List S63} {R : Nat -> List Nat}
structure EndedAll (M now c : Int) (wt : Nat -> Int) (D : Nat -> Prop) (l : List S57) (q : List S63) (R : Nat -> List Nat) (ps : List Nat) (l' : List S57) (q' : List S63) (R' : Nat -> List Nat) (D' : Nat -> Prop) : Prop where
 inv : Inv M now c wt D' l' q' R'
 sub : ∀ k, D' k -> D k /\ k ∉ ps
 row : ∀ n, R' n = R n \/ ∃ a, R n = a :: R' n /\ ∀ b r, R' n = b :: r -> ¬ D' b
 len : l'.length = l.length
 qlen : q'.length = q.length
 f0 : ∀ k, (at_ l' k).f0 = (at_ l k).f0
 f1 : ∀ k, k ∉ ps -> (at_ l' k).f1 = (at_ l k).f1
 most : ∀ n, (q'.getD n z63).f0 = (q.getD n z63).f0
theorem Inv.endTake (h : Inv M now c wt D l q R) {ps : List Nat} (hn : ps.Nodup) (hp : ∀ p ∈ ps, p < l.length /\ (at_ l p).f1.f4 ≠ 0) : ∀ k, k <= ps.length -> ∃ R' D', EndedAll M now c wt D l q R (ps.take k) (endAll now l q (ps.take k)).1 (endAll now l q (ps.take k)).2.1 R' D' := by
 intro k
 induction k with
 | zero => intro _; exact ⟨R, D, h, fun k hk => ⟨hk, by simp⟩, fun n => .inl rfl, rfl, rfl, fun _ => rfl, fun _ _ => rfl, fun _ => rfl⟩
 | succ k ih =>
  intro hk;have hk2 : k < ps.length := by omega
  obtain ⟨R1, D1, h1⟩ := ih (by omega);have hpp := hp ps[k] (List.getElem_mem hk2);have hnp : ps[k] ∉ ps.take k := not_mem_take hn hk2;obtain ⟨R2, D2, h2⟩ := h1.inv.ends (i := ps[k]) (by rw [h1.len]; exact hpp.1) (by rw [h1.f1 _ hnp]; exact hpp.2);refine ⟨R2, D2, ?_⟩;rw [endAll_take hk2]
  have hmem : ∀ k', k' ∈ ps.take (k + 1) ↔ k' ∈ ps.take k \/ k' = ps[k] := fun k' => by
   rw [List.take_succ_eq_append_getElem hk2, List.mem_append];simp
  generalize endAll now l q (ps.take k) = st at *;show EndedAll M now c wt D l q R (ps.take (k + 1)) (endL now st.1 st.2.1 ps[k]).1 (endL now st.1 st.2.1 ps[k]).2.1 R2 D2;refine ⟨h2.inv, fun k' hk' => ?_, fun n => ?_, h2.len.trans h1.len, h2.qlen.trans h1.qlen, fun k' => (h2.f0 k').trans (h1.f0 k'), fun k' hk' => ?_, fun n => (h2.most n).trans (h1.most n)⟩
  ·have a := h2.sub k' hk';have b := h1.sub k' a.1;exact ⟨b.1, fun e => ((hmem k').1 e).elim b.2 a.2⟩
  ·rcases h2.row n with e2 | ⟨hd, e2, e3⟩
   ·rcases h1.row n with e1 | ⟨a, e1, e4⟩
    ·exact .inl (e2.trans e1)
    ·exact .inr ⟨a, by rw [e2]; exact e1, fun b r hb hdb => e4 b r (by rw [<- e2]; exact hb) (h2.sub b hdb).1⟩
   ·rcases h1.row n with e1 | ⟨a, e1, e4⟩
    ·exact .inr ⟨ps[k], by rw [<- e1]; exact e2, e3⟩
    ·exact absurd hd (e4 _ _ e2)
  ·exact (h2.f1 k' (fun e => hk' ((hmem k').2 (.inr e)))).trans (h1.f1 k' (fun e => hk' ((hmem k').2 (.inl e))))
theorem Inv.endAll (h : Inv M now c wt D l q R) (ps : List Nat) (hn : ps.Nodup) (hp : ∀ p ∈ ps, p < l.length /\ (at_ l p).f1.f4 ≠ 0) : ∃ R' D', EndedAll M now c wt D l q R ps (endAll now l q ps).1 (endAll now l q ps).2.1 R' D' := by
 have := h.endTake hn hp ps.length (Nat.le_refl _)
 rwa [List.take_length] at this
theorem Inv.endOk (h : Inv M now c wt D l q R) {i : Nat} (hi : i < l.length) (hm : (at_ l i).f1.f4 ≠ 0) : EndOk l q i := by
 have hs := h.serv i hi;obtain ⟨j, js, hx, hj, hq, hst, hdn⟩ := hs.head (hs.busy hm);have hxi : l[i] = at_ l i := (at_lt hi).symm;refine ⟨h.sane.sorted, h.sane.len, h.qlen, fun n hn => ?_, hi, ?_⟩
 ·have hids := h.rows.ids n hn;by_cases e : q[n].f1 = 0
  ·rw [h.rows.hold0 n hn e];simp
  ·rw [if_neg e] at hids;constructor
   ·intro id hid;have h1 : id ∈ (R n).map (fun k => (at_ l k).f0) := by rw [<- hids]; exact List.mem_cons_of_mem _ hid
    obtain ⟨k, hk, e2⟩ := List.mem_map.1 h1;have hk2 := ((h.rows.mem n k).1 hk).1;exact ⟨k, hk2, by rw [<- at_lt hk2]; exact e2⟩
   ·have h1 := congrArg List.length hids;rw [List.length_map, List.length_cons] at h1;have := h.row_len n;omega
 ·rw [hxi];refine ⟨hs.cbs, hm, j, js, hx, hj, hq _ (job_step hj), fun h2 => ?_⟩;have := hs.sem (by rw [h2]; decide);rw [hst] at this;omega
theorem Settled.runAt (h : Settled M now c wt l q R) {p : Nat} (hp : p ∈ placesOf M l) : RunAt l p := by
 obtain ⟨h1, h2, _⟩ := (mem_places h.inv.sane.sorted).1 hp;have hs := h.inv.serv p h1;have hm : (at_ l p).f1.f4 ≠ 0 := by rw [h2]; decide
 obtain ⟨j, js, hx, hj, hq, hst, hdn⟩ := hs.head (hs.busy hm);have hpt := hs.part hm id;rw [hst, hdn] at hpt;have hr := hs.ran;have hn1 := h.inv.now1;have hh := hs.held;refine ⟨h1, ?_⟩;rw [<- at_lt h1];exact ⟨hs.cbs, h2, ⟨j, js, hx, hj, fun _ => by omega⟩, ⟨hr.1, by omega⟩, ⟨hh.1, by omega⟩⟩
theorem Settled.tick (h : Settled M now c wt l q R) (hn : now < 1000000000) : TickOk M now l q /\ ∃ R', Inv M (now + 1) c (fun k => wt k + 1) noD (tickL M now l q).1 (tickL M now l q).2.1 R' /\ Pops R R' /\ (tickL M now l q).1.length = l.length /\ (tickL M now l q).2.1.length = q.length /\ (∀ k, (at_ (tickL M now l q).1 k).f0 = (at_ l k).f0) /\ ∀ n, ((tickL M now l q).2.1.getD n z63).f0 = (q.getD n z63).f0 := by
 have hag := h.again;have hs := h.inv.sane.sorted;have hnd := places_nodup (M := M) hs;have hat := runAll_at (placesOf M l) l hnd (fun p hp => ((mem_places hs).1 hp).1);have hlen := runAll_len (placesOf M l) l;have hrun := h.run hn
 have hps : ∀ p ∈ placesOf M l, p < (runAll l (placesOf M l)).length /\ (at_ (runAll l (placesOf M l)) p).f1.f4 ≠ 0 := fun p hp => by
  refine ⟨by rw [hlen]; exact ((mem_places hs).1 hp).1, ?_⟩;rw [hat, if_pos hp];show (if (at_ l p).f1.f2 - 1 = 0 then (2 : Int) else 1) ≠ 0;split <;> decide
 constructor
 ·refine ⟨h.inv.mok (fun n _ => h.inv.row_len n), by rw [hag]; exact h.inv.sane, by rw [hag]; exact fun p hp => h.runAt hp, ?_⟩;rw [hag];intro k hk;have htk : ∀ p ∈ (placesOf M l).take k, p ∈ placesOf M l := fun p hp => List.mem_of_mem_take hp
  obtain ⟨R1, D1, h1⟩ := hrun.endAll ((placesOf M l).take k) (hnd.sublist (List.take_sublist _ _)) (fun p hp => hps p (htk p hp));have hk2 := hps _ (List.getElem_mem hk);exact h1.inv.endOk (by rw [h1.len]; exact hk2.1) (by rw [h1.f1 _ (not_mem_take hnd hk)]; exact hk2.2)
 ·obtain ⟨R1, D1, h1⟩ := hrun.endAll (placesOf M l) hnd hps;have e1 : (tickL M now l q).1 = (endAll (now + 1) (runAll l (placesOf M l)) q (placesOf M l)).1 := by unfold tickL; rw [hag]
  have e2 : (tickL M now l q).2.1 = (endAll (now + 1) (runAll l (placesOf M l)) q (placesOf M l)).2.1 := by unfold tickL; rw [hag]
  rw [e1, e2];refine ⟨R1, h1.inv.less noD (fun k _ hd _ _ => ?_) (fun n hn k r _ hd _ => ?_), fun n => (h1.row n).imp (fun h => h) (fun ⟨a, h, _⟩ => ⟨a, h⟩), h1.len.trans hlen, h1.qlen, fun k => (h1.f0 k).trans (by rw [hat]; split <;> rfl), h1.most⟩
  ·have := h1.sub k hd;exact absurd this.1 this.2
  ·have := h1.sub k hd;exact absurd this.1 this.2
end
section
variable {M now c : Int} {wt : Nat -> Int} {l : List S57} {q : List S63} {R : Nat -> List Nat}
theorem st_le (q : List S63) (ids : List Int) (now m : Int) (x : S57) : stillV ids now q m x <= m /\ (x.f0 ∈ ids -> stillV ids now q m x <= x.f1.f2 - 1 /\ (x.f3 ≠ 1 -> stillV ids now q m x <= (servStep x).f1 - doneOf x - 1) /\ (x.f3 = 2 -> stillV ids now q m x <= (q.getD ((servStep x).f0 - 1).toNat z63).f0 - x.f4 - 1)) := by
  unfold stillV st1 st2 st3 st4;constructor
  · repeat' split
    all_goals omega
  · intro h;rw [if_pos h];refine ⟨?_, fun h1 => ?_, fun h2 => ?_⟩
    · repeat' split
      all_goals omega
    · rw [if_neg h1]
      repeat' split
      all_goals omega
    · rw [if_pos h2];omega
theorem fold_le (q : List S63) (ids : List Int) (now : Int) : ∀ (l : List S57) (m : Int), l.foldl (stillV ids now q) m <= m /\ ∀ x ∈ l, x.f0 ∈ ids -> l.foldl (stillV ids now q) m <= x.f1.f2 - 1 /\ (x.f3 ≠ 1 -> l.foldl (stillV ids now q) m <= (servStep x).f1 - doneOf x - 1) /\ (x.f3 = 2 -> l.foldl (stillV ids now q) m <= (q.getD ((servStep x).f0 - 1).toNat z63).f0 - x.f4 - 1) := by
  intro l
  induction l with
  | nil => intro m; exact ⟨Int.le_refl _, fun x hx => by simp at hx⟩
  | cons a r ih =>
    intro m;rw [List.foldl_cons];have h1 := st_le q ids now m a;have h2 := ih (stillV ids now q m a);refine ⟨by omega, fun x hx hi => ?_⟩;rcases List.mem_cons.1 hx with rfl | hx
    · have h3 := h1.2 hi;exact ⟨by omega, fun e => by have := h3.2.1 e; omega, fun e => by have := h3.2.2 e; omega⟩
    · exact h2.2 x hx hi
theorem mem_runs_places (hs : Sorted l) {k : Nat} (hk : k < l.length) : (at_ l k).f0 ∈ runsL M l ↔ k ∈ placesOf M l := by
  unfold placesOf;rw [List.mem_map];constructor
  · intro h;exact ⟨_, h, by rw [at_lt hk]; exact ahead_at hs hk⟩
  · rintro ⟨id, hid, e⟩;obtain ⟨k', hk', e1, _⟩ := runs_mem hid;rw [<- e1, ahead_at hs hk'] at e;subst e;rw [at_lt hk, e1];exact hid
theorem skip_run (x : S57) : skipV 1 x = runV x := by
  unfold skipV runV;have e : ∀ js, skipJobs 1 js = runJobs js := fun js => by cases js <;> rfl
  rw [e]
theorem skip_is_run (hs : Sorted l) : skipL M 1 l = runAll l (placesOf M l) := by
  have hat := runAll_at (placesOf M l) l (places_nodup hs) (fun p hp => ((mem_places hs).1 hp).1);rw [list_at (runAll l (placesOf M l)), runAll_len];unfold skipL
  conv => lhs; rw [list_at l]
  rw [List.map_map];refine List.map_congr_left (fun k hk => ?_);have hk2 := List.mem_range.1 hk;show (if (at_ l k).f0 ∈ runsL M _ then skipV 1 (at_ l k) else at_ l k) = _;rw [<- list_at l, hat];by_cases h : k ∈ placesOf M l
  · rw [if_pos h, if_pos ((mem_runs_places hs hk2).2 h), skip_run]
  · rw [if_neg h, if_neg (fun e => h ((mem_runs_places hs hk2).1 e))]
theorem skip_f0 (hs : Sorted l) (k : Nat) : (at_ (skipL M 1 l) k).f0 = (at_ l k).f0 := by
 rw [skip_is_run hs, runAll_at _ _ (places_nodup hs) (fun p hp => ((mem_places hs).1 hp).1)];split <;> rfl
theorem Settled.still (h : Settled M now c wt l q R) (hn : now < 1000000000) (hk : 0 < stillL M now 1 l q) : stillL M now 1 l q = 1 /\ SkipOk M 1 l /\ Inv M (now + 1) c (fun k => wt k + 1) noD (skipL M 1 l) q R := by
  have hs := h.inv.sane.sorted;unfold stillL at hk |-;have hf := fold_le q (runsL M l) now l 1
  have hb : ∀ k, k ∈ placesOf M l -> k < l.length /\ 1 <= (at_ l k).f1.f2 - 1 /\ ((at_ l k).f3 ≠ 1 -> 1 <= (servStep (at_ l k)).f1 - doneOf (at_ l k) - 1) /\ ((at_ l k).f3 = 2 -> 1 <= (q.getD ((servStep (at_ l k)).f0 - 1).toNat z63).f0 - (at_ l k).f4 - 1) := fun k hk2 => by
    have hkl := ((mem_places hs).1 hk2).1;have h1 := hf.2 (at_ l k) (by rw [at_lt hkl]; exact List.getElem_mem hkl) ((mem_runs_places hs hkl).2 hk2);refine ⟨hkl, by omega, fun e => by have := h1.2.1 e; omega, fun e => by have := h1.2.2 e; omega⟩
  refine ⟨by omega, ⟨h.inv.sane, by decide, by decide, fun k hkl hr => ?_⟩, ?_⟩
  · rw [<- at_lt hkl] at hr |-;have hp := (mem_runs_places hs hkl).1 hr;have h1 := (mem_places hs).1 hp;have hsv := h.inv.serv k hkl;have hm : (at_ l k).f1.f4 ≠ 0 := by rw [h1.2.1]; decide
    obtain ⟨j, js, hx, hj, hq, hst, hdn⟩ := hsv.head (hsv.busy hm);have hpt := hsv.part hm id;rw [hst, hdn] at hpt;have hr2 := hsv.ran;have hn1 := h.inv.now1;have hh := hsv.held;have hmb := hsv.cbs.mb h1.2.1;exact ⟨hsv.cbs, h1.2.1, by omega, ⟨j, js, hx, hj, fun _ => by omega⟩, ⟨hr2.1, by omega⟩, hh.1, hh.2⟩
  · rw [skip_is_run hs];have hat := runAll_at (placesOf M l) l (places_nodup hs) (fun p hp => ((mem_places hs).1 hp).1);have hrun := h.run hn;refine hrun.less noD (fun k hkl hd _ hm => ?_) (fun n hnq k r hR hd _ => ?_)
    · obtain ⟨h1, h2, h3, h4⟩ := hb k hd;have hsv := h.inv.serv k h1;rw [hat, if_pos hd, runV_step];have hbz := hsv.busy (by rw [((mem_places hs).1 hd).2.1]; decide);obtain ⟨j, js, hx, hj, hq, hst, hdn⟩ := hsv.head hbz;by_cases e : (at_ l k).f3 = 1
      · have e2 : doneOf (runV (at_ l k)) = doneOf (at_ l k) := by unfold doneOf runV; dsimp only; rw [if_pos e]
        rw [e2];exact hsv.part (by rw [((mem_places hs).1 hd).2.1]; decide) id
      · have e2 : doneOf (runV (at_ l k)) = doneOf (at_ l k) + 1 := by unfold doneOf runV; dsimp only; rw [if_neg e, hx]; rfl
        rw [e2];have := h3 e;omega
    · obtain ⟨h1, h2, h3, h4⟩ := hb k hd;have h5 := h.inv.rows.first n k r hR;have h6 := ((h.inv.rows.mem n k).1 (by rw [hR]; simp)).2.2;have h7 := h4 h5.1;rw [hat, if_pos hd];show (if (at_ l k).f3 = 2 then (at_ l k).f4 + 1 else (at_ l k).f4) < _;rw [if_pos h5.1];have e1 : ((servStep (at_ l k)).f0 - 1).toNat = n := by omega
      rw [e1, show q.getD n z63 = q[n] by simp [hnq]] at h7;omega
theorem Settled.stillOk (h : Settled M now c wt l q R) : StillOk M now l q where
  sane := h.inv.sane
  now0 := h.inv.now0
  now1 := by have := h.inv.now1; omega
  cbs := fun k hk => by rw [<- at_lt hk]; exact (h.inv.serv k hk).cbs
  run := (h.inv.mok (fun n _ => h.inv.row_len n)).run
  held := fun k hk => by rw [<- at_lt hk]; exact (h.inv.serv k hk).held
  lock := fun k hk hm h3 => by
    rw [<- at_lt hk] at hm h3 |-;have hs := h.inv.serv k hk;have h1 := hs.sem (by rw [h3]; decide);exact ⟨by omega, hs.step_le (hs.busy (by rw [hm]; decide))⟩
  most := h.inv.qmost
def StepR (R R1 : Nat -> List Nat) : Prop := ∃ R', Grows R R' /\ Pops R' R1
def goI (M now : Int) (l : List S57) (q : List S63) (t : Int) (l' : List S57) (q' : List S63) : Prop :=
  (t = now /\ l' = l /\ q' = q) \/ (t = now + 1 /\ l' = (goL 1 M now (now + 1) l q).1 /\ q' = (goL 1 M now (now + 1) l q).2.1)
theorem goL_one (M now : Int) (l : List S57) (q : List S63) : goL 1 M now (now + 1) l q = if 0 < stillL M now 1 (settleL M now l q).1 (settleL M now l q).2.1 then (skipL M (stillL M now 1 (settleL M now l q).1 (settleL M now l q).2.1) (settleL M now l q).1, (settleL M now l q).2.1, (settleL M now l q).2.2) else ((tickL M now (settleL M now l q).1 (settleL M now l q).2.1).1, (tickL M now (settleL M now l q).1 (settleL M now l q).2.1).2.1, (settleL M now l q).2.2 ++ (tickL M now (settleL M now l q).1 (settleL M now l q).2.1).2.2) := by
  unfold goL;rw [if_pos (by omega), show now + 1 - now = 1 by omega];dsimp only;split
  · unfold goL; simp
  · unfold goL; simp
theorem Inv.go1 (h : Inv M now c wt noD l q R) (hn : now < 1000000000) (hw : ∀ k, k < l.length -> (at_ l k).f3 = 0 -> wt k <= 0) : GoInv M (now + 1) (goI M now l q) /\ ∃ R1, Inv M (now + 1) c (fun k => wt k + 1) noD (goL 1 M now (now + 1) l q).1 (goL 1 M now (now + 1) l q).2.1 R1 /\ StepR R R1 /\ (goL 1 M now (now + 1) l q).1.length = l.length /\ (goL 1 M now (now + 1) l q).2.1.length = q.length /\ (∀ n, ((goL 1 M now (now + 1) l q).2.1.getD n z63).f0 = (q.getD n z63).f0) /\ ∀ k, (at_ (goL 1 M now (now + 1) l q).1 k).f0 = (at_ l k).f0 := by
 obtain ⟨R', hS, hG, e1, e2, e3, e4⟩ := h.settle hw;have hT := hS.tick hn;have hst := hS.still hn;have hgo := goL_one M now l q;constructor
 ·refine ⟨?_, ?_, ?_⟩
  ·rintro t l' q' (⟨rfl, rfl, rfl⟩ | ⟨rfl, _, _⟩) hlt
   ·exact ⟨h.mok (fun n _ => h.row_len n), hS.stillOk⟩
   ·omega
  ·rintro t l' q' (⟨rfl, rfl, rfl⟩ | ⟨rfl, _, _⟩) hlt
   ·rw [show t + 1 - t = 1 by omega];intro hk;obtain ⟨a1, a2, a3⟩ := hst hk;rw [if_pos hk] at hgo;rw [a1] at hgo |-;refine ⟨a2, Int.le_refl _, .inr ⟨rfl, ?_, ?_⟩⟩
    ·rw [hgo]
    ·rw [hgo]
   ·omega
  ·rintro t l' q' (⟨rfl, rfl, rfl⟩ | ⟨rfl, _, _⟩) hlt
   ·rw [show t + 1 - t = 1 by omega];intro hk;rw [if_neg (by omega)] at hgo;refine ⟨hT.1, .inr ⟨rfl, ?_, ?_⟩⟩
    ·rw [hgo]
    ·rw [hgo]
   ·omega
 ·by_cases hk : 0 < stillL M now 1 (settleL M now l q).1 (settleL M now l q).2.1
  ·rw [if_pos hk] at hgo;obtain ⟨a1, a2, a3⟩ := hst hk;rw [a1] at hgo;rw [hgo];dsimp only;exact ⟨R', a3, ⟨R', hG, fun n => .inl rfl⟩, by rw [skip_is_run hS.inv.sane.sorted, runAll_len, e1], e2, e3, fun k => (skip_f0 hS.inv.sane.sorted k).trans (e4 k)⟩
  ·rw [if_neg hk] at hgo;rw [hgo];dsimp only;obtain ⟨_, R1, b1, b2, b3, b4, b6, b5⟩ := hT;exact ⟨R1, b1, ⟨R', hG, b2⟩, b3.trans e1, b4.trans e2, fun n => (b5 n).trans (e3 n), fun k => (b6 k).trans (e4 k)⟩
end
end Go.Proofs.YtfimkmlgnmaopaaGreat.Top
namespace Go.Proofs.YtfimkmlgnmaopaaGreat.Top
set_option linter.unusedVariables false
set_option linter.unusedSimpArgs false
def fullW (Q P y : Int) : Int := y / P * Q + min Q (y % P)
section
variable {Q P y y' z : Int}
theorem full_add (hP : 1 <= P) : fullW Q P (y + P) = fullW Q P y + Q := by
 unfold fullW
 have h1 : (y + P) / P = y / P + 1 := by
  rw [Int.add_ediv_of_dvd_right (Int.dvd_refl P), Int.ediv_self (by omega)]
 have h2 : (y + P) % P = y % P := Int.add_emod_right y P;rw [h1, h2, Int.add_mul, Int.one_mul];omega
theorem full_first (hQ : 1 <= Q) (hP : Q <= P) (h0 : 0 <= y) (h1 : y <= P) : fullW Q P y = min Q y := by
 by_cases e : y = P
 ·subst e;have := full_add (Q := Q) (P := y) (y := 0) (by omega);rw [Int.zero_add] at this;rw [this];unfold fullW;simp;omega
 ·unfold fullW;rw [Int.ediv_eq_zero_of_lt h0 (by omega), Int.emod_eq_of_lt h0 (by omega)];omega
theorem full_div (hP : 1 <= P) (y : Int) : ∃ j r : Int, y = j * P + r /\ 0 <= r /\ r < P /\ fullW Q P y = j * Q + min Q r /\ (0 <= y -> 0 <= j) := by
 refine ⟨y / P, y % P, ?_, Int.emod_nonneg y (by omega), Int.emod_lt_of_pos y (by omega), rfl, fun h => Int.ediv_nonneg h (by omega)⟩;have := Int.emod_def y P;rw [Int.mul_comm] at this;omega
theorem full_mul (hP : 1 <= P) {r : Int} : ∀ (j : Nat), fullW Q P ((j : Int) * P + r) = (j : Int) * Q + fullW Q P r := by
 intro j
 induction j with
 | zero => simp
 | succ j ih =>
  rw [show (((j + 1 : Nat) : Int)) * P + r = ((j : Int) * P + r) + P by
   rw [show ((j + 1 : Nat) : Int) = (j : Int) + 1 by omega, Int.add_mul, Int.one_mul]; omega, full_add hP, ih]
  rw [show ((j + 1 : Nat) : Int) = (j : Int) + 1 by omega, Int.add_mul, Int.one_mul];omega
theorem full_succ (hQ : 1 <= Q) (hP : Q <= P) (h0 : 0 <= y) : fullW Q P y <= fullW Q P (y + 1) /\ fullW Q P (y + 1) <= fullW Q P y + 1 := by
 obtain ⟨j, r, e, r0, r1, hf, hj⟩ := full_div (Q := Q) (P := P) (by omega) y;obtain ⟨n, rfl⟩ : ∃ n : Nat, j = (n : Int) := ⟨j.toNat, by have := hj h0; omega⟩
 have h1 : fullW Q P (y + 1) = (n : Int) * Q + fullW Q P (r + 1) := by
  rw [e, show (n : Int) * P + r + 1 = (n : Int) * P + (r + 1) by omega, full_mul (by omega)]
 rw [h1, hf, full_first hQ hP (by omega) (by omega)];omega
theorem full_mono (hQ : 1 <= Q) (hP : Q <= P) (h0 : 0 <= y) (h : y <= y') : fullW Q P y <= fullW Q P y' := by
 have h2 : ∀ n : Nat, fullW Q P y <= fullW Q P (y + n) := by
  intro n
  induction n with
  | zero => simp
  | succ n ih =>
   have := (full_succ (Q := Q) (P := P) (y := y + n) hQ hP (by omega)).1;rw [show y + ((n + 1 : Nat) : Int) = y + (n : Int) + 1 by omega];omega
 have := h2 (y' - y).toNat;rw [show y + ((y' - y).toNat : Int) = y' by omega] at this;exact this
theorem full_le (hQ : 1 <= Q) (hP : Q <= P) (h0 : 0 <= y) : 0 <= fullW Q P y /\ fullW Q P y <= y := by
 have h2 : ∀ n : Nat, 0 <= fullW Q P n /\ fullW Q P n <= n := by
  intro n
  induction n with
  | zero => rw [full_first hQ hP (by omega) (by omega)]; omega
  | succ n ih =>
   have := full_succ (Q := Q) (P := P) (y := n) hQ hP (by omega);rw [show ((n + 1 : Nat) : Int) = (n : Int) + 1 by omega];omega
 have := h2 y.toNat;rw [show (y.toNat : Int) = y by omega] at this;exact this
theorem full_end (hQ : 1 <= Q) (hP : Q <= P) (h0 : 0 <= y) (z0 : 0 <= z) (z1 : z <= P) (h : y = 0 \/ z = P) : fullW Q P y + min Q z <= fullW Q P (y + z) := by
 rcases h with rfl | rfl
 ·rw [Int.zero_add, full_first hQ hP z0 z1, full_first hQ hP (by omega) (by omega)]; omega
 ·rw [full_add (by omega)]; omega
theorem full_work (hQ : 1 <= Q) (hP : Q <= P) (h0 : 0 <= y) (z0 : 0 <= z) (z1 : z <= P) : fullW Q P y + min Q z <= fullW Q P (y + z + P - Q) := by
 obtain ⟨j, r, e, r0, r1, hf, hj⟩ := full_div (Q := Q) (P := P) (by omega) y;obtain ⟨n, rfl⟩ : ∃ n : Nat, j = (n : Int) := ⟨j.toNat, by have := hj h0; omega⟩
 have h1 : fullW Q P (y + z + P - Q) = (n : Int) * Q + fullW Q P (r + z + P - Q) := by
  rw [e, show (n : Int) * P + r + z + P - Q = (n : Int) * P + (r + z + P - Q) by omega, full_mul (by omega)]
 rw [h1, hf]
 have h2 : min Q r + min Q z <= fullW Q P (r + z + P - Q) := by
  by_cases a : r + z < Q
  ·rw [full_first hQ hP (by omega) (by omega)]; omega
  ·have h3 : fullW Q P (r + z + P - Q) = fullW Q P (r + z - Q) + Q := by
    rw [show r + z + P - Q = r + z - Q + P by omega, full_add (by omega)]
   rw [h3];by_cases b : r + z - Q <= P
   ·rw [full_first hQ hP (by omega) b]; omega
   ·have := full_mono (Q := Q) (P := P) (y := P) (y' := r + z - Q) hQ hP (by omega) (by omega);rw [full_first hQ hP (by omega) (Int.le_refl _)] at this;omega
 omega
end
structure Wk (Q P a now c b d : Int) : Prop where
 a0 : a <= now
 c0 : 0 <= c
 past : d <= now -> c <= fullW Q P (max d a - a)
 open_ : now < d -> c <= fullW Q P (max (d - P) a - a) + min (Q - b) (now - max (d - P) a)
 win : d <= now + P
section
variable {Q P a now c b d b' d' : Int}
theorem Wk.new (hQ : 1 <= Q) (hP : Q <= P) (hb : b <= Q) (hd : d <= now + P) : Wk Q P now now 0 b d where
 a0 := Int.le_refl _
 c0 := Int.le_refl _
 past := fun h => (full_le hQ hP (by omega)).1
 open_ := fun h => by
  have := (full_le (y := max (d - P) now - now) hQ hP (by omega)).1;omega
 win := hd
theorem Wk.less (h : Wk Q P a now c b d) (hb : b' <= b) : Wk Q P a now c b' d where
 a0 := h.a0
 c0 := h.c0
 past := h.past
 open_ := fun hd => by have := h.open_ hd; omega
 win := h.win
theorem Wk.turn (h : Wk Q P a now c b d) (hQ : 1 <= Q) (hP : Q <= P) (hd : d <= now) (h1 : d <= d' - P) (h2 : now < d') (h3 : d' <= now + P) : Wk Q P a now c Q d' where
 a0 := h.a0
 c0 := h.c0
 past := fun e => by omega
 open_ := fun _ => by
  have h4 := h.past hd;have h5 := h.a0;have := full_mono (Q := Q) (P := P) (y := max d a - a) (y' := max (d' - P) a - a) hQ hP (by omega) (by omega);omega
 win := h3
theorem Wk.idle (h : Wk Q P a now c b d) (hQ : 1 <= Q) (hP : Q <= P) (hb : 0 <= b) : Wk Q P a (now + 1) c b d where
 a0 := by have := h.a0; omega
 c0 := h.c0
 past := fun e => by
  by_cases hd : d <= now
  ·exact h.past hd
  ·have h1 := h.open_ (by omega);have h2 := h.a0;have h3 := h.win;have h4 : max (d - P) a - a = 0 \/ d - max (d - P) a = P := by omega
   have h5 := full_end (Q := Q) (P := P) (y := max (d - P) a - a) (z := d - max (d - P) a) hQ hP (by omega) (by omega) (by omega) h4;rw [show max (d - P) a - a + (d - max (d - P) a) = d - a by omega] at h5;rw [show max d a - a = d - a by omega];omega
 open_ := fun e => by
  have := h.open_ (by omega);omega
 win := by have := h.win; omega
theorem Wk.run (h : Wk Q P a now c b d) (hQ : 1 <= Q) (hP : Q <= P) (hb : 1 <= b) (hd : now < d) : Wk Q P a (now + 1) (c + 1) (b - 1) d where
 a0 := by have := h.a0; omega
 c0 := by have := h.c0; omega
 past := fun e => by
  have h1 := h.open_ (by omega);have h2 := h.a0;have h3 := h.win;have h4 : max (d - P) a - a = 0 \/ d - max (d - P) a = P := by omega
  have h5 := full_end (Q := Q) (P := P) (y := max (d - P) a - a) (z := d - max (d - P) a) hQ hP (by omega) (by omega) (by omega) h4;rw [show max (d - P) a - a + (d - max (d - P) a) = d - a by omega] at h5;rw [show max d a - a = d - a by omega];omega
 open_ := fun e => by
  have := h.open_ hd;omega
 win := by have := h.win; omega
theorem Wk.most (h : Wk Q P a now c b d) (hQ : 1 <= Q) (hP : Q <= P) (hb : 0 <= b) (hc : c <= now - a) : c <= min (now - a) ((now - a + P - Q) / P * Q + min Q (now - a + P - Q - (now - a + P - Q) / P * P)) := by
 have e : fullW Q P (now - a + P - Q) = (now - a + P - Q) / P * Q + min Q (now - a + P - Q - (now - a + P - Q) / P * P) := by
  unfold fullW;have := Int.emod_def (now - a + P - Q) P;rw [Int.mul_comm] at this;rw [this]
 rw [<- e];have h2 := h.a0;have h3 := h.win;by_cases hd : d <= now
 ·have h1 := h.past hd;have h4 := full_mono (Q := Q) (P := P) (y := max d a - a) (y' := now - a + P - Q) hQ hP (by omega) (by omega);omega
 ·have h1 := h.open_ (by omega);have h4 := full_work (Q := Q) (P := P) (y := max (d - P) a - a) (z := now - max (d - P) a) hQ hP (by omega) (by omega) (by omega);rw [show max (d - P) a - a + (now - max (d - P) a) = now - a by omega] at h4;omega
end
end Go.Proofs.YtfimkmlgnmaopaaGreat.Top
namespace Go.Proofs.YtfimkmlgnmaopaaGreat.Top
open Go.RowKit Go.Proofs.YtfimkmlgnmaopaaGreatW.PrintWords Go.Proofs.YtfimkmlgnmaopaaGreatW.PrintLast Go.Proofs.YtfimkmlgnmaopaaGreatW.PrintMore Go.Proofs.YtfimkmlgnmaopaaGreat.PTopNames
set_option linter.unusedVariables false
set_option linter.unusedSimpArgs false
section
variable {M now c : Int} {wt : Nat -> Int} {l : List S57} {q : List S63} {R : Nat -> List Nat}
theorem wait_sorted (hs : Sorted l) (i : Nat) : Sorted (waitAt l i) := by
 rw [sorted_at] at hs |-;intro a b hab hb;rw [waitAt_len] at hb
 have e : ∀ k, (at_ (waitAt l i) k).f0 = (at_ l k).f0 := fun k => by
  unfold waitAt;rw [at_set];split
  ·rename_i h; rw [h.1]; rfl
  ·rfl
 rw [e, e];exact hs a b hab hb
theorem refAll_v : ∀ (n : Nat) (l : List S57), Sorted l -> ∀ k, (at_ (refAll n M now l q).1 k).f6 = (at_ l k).f6 /\ ((at_ (refAll n M now l q).1 k).f1 = (at_ l k).f1 \/ ((at_ l k).f1.f4 = 1 /\ (at_ (refAll n M now l q).1 k).f1 = { (at_ l k).f1 with f4 := 2 })) := by
 intro n
 induction n with
 | zero => intro l _ k; exact ⟨rfl, .inl rfl⟩
 | succ n ih =>
  intro l hs k;unfold refAll
  cases hr : refuseL M now l q with
  | none => exact ⟨rfl, .inl rfl⟩
  | some p =>
   dsimp only
   have hp : p ∈ asksL M l := by
    unfold refuseL at hr;exact List.mem_of_find?_eq_some hr
   obtain ⟨h1, h2, h3, h4, h5⟩ := asks_at hs hp;have h6 := ih (waitAt l p.1) (wait_sorted hs p.1) k;have e : waitAt l p.1 = l.set p.1 { at_ l p.1 with f1 := { (at_ l p.1).f1 with f4 := 2 } } := rfl;have e2 : at_ (waitAt l p.1) k = if k = p.1 /\ p.1 < l.length then { at_ l p.1 with f1 := { (at_ l p.1).f1 with f4 := 2 } } else at_ l k := by rw [e, at_set]
   by_cases hk : k = p.1
   ·subst hk;rw [if_pos ⟨rfl, h1⟩] at e2;rw [e2] at h6;refine ⟨h6.1, .inr ⟨h2, ?_⟩⟩;rcases h6.2 with h | ⟨h, _⟩
    ·exact h
    ·exact absurd h (by show ¬ (2 : Int) = 1; decide)
   ·rw [if_neg (fun h => hk h.1)] at e2;rw [e2] at h6;exact h6
theorem grant1_v (st : List S57 × List S63 × List Ev) (p : Nat × Int) (k : Nat) : (at_ (grant1 now st p).1 k).f6 = (at_ st.1 k).f6 /\ (at_ (grant1 now st p).1 k).f1 = (at_ st.1 k).f1 := by
 unfold grant1;dsimp only;split
 ·dsimp only;rw [at_set];split
  ·rename_i h; rw [h.1]; exact ⟨rfl, rfl⟩
  ·exact ⟨rfl, rfl⟩
 ·dsimp only;rw [at_set];split
  ·rename_i h; rw [h.1]; exact ⟨rfl, rfl⟩
  ·exact ⟨rfl, rfl⟩
theorem grants_v : ∀ (ps : List (Nat × Int)) (st : List S57 × List S63 × List Ev) (k : Nat), (at_ (ps.foldl (grant1 now) st).1 k).f6 = (at_ st.1 k).f6 /\ (at_ (ps.foldl (grant1 now) st).1 k).f1 = (at_ st.1 k).f1 := by
 intro ps
 induction ps with
 | nil => intro st k; exact ⟨rfl, rfl⟩
 | cons p ps ih =>
  intro st k;rw [List.foldl_cons];have h1 := ih (grant1 now st p) k;have h2 := grant1_v (now := now) st p k;exact ⟨h1.1.trans h2.1, h1.2.trans h2.2⟩
theorem turnL_sorted (hs : Sorted l) : Sorted (turnL now l) := by
 rw [sorted_at] at hs |-;intro a b hab hb;rw [turnL_len] at hb;rw [turn_at, turn_at, (turn1_f0 now _).1, (turn1_f0 now _).1];exact hs a b hab hb
theorem turn1_f6 (now : Int) (x : S57) : (turn1 now x).f6 = x.f6 := by
 unfold turn1;split <;> rfl
theorem settle_v (hs : Sorted l) (k : Nat) : (at_ (settleL M now l q).1 k).f6 = (at_ l k).f6 /\ ((at_ (settleL M now l q).1 k).f1 = (turn1 now (at_ l k)).f1 \/ ((turn1 now (at_ l k)).f1.f4 = 1 /\ (at_ (settleL M now l q).1 k).f1 = { (turn1 now (at_ l k)).f1 with f4 := 2 })) := by
 unfold settleL;dsimp only;have h1 := grants_v (now := now) (asksL M (refAll (l.length + 1) M now (turnL now l) q).1) ((refAll (l.length + 1) M now (turnL now l) q).1, q, turnE now l ++ (refAll (l.length + 1) M now (turnL now l) q).2) k;have h2 := refAll_v (M := M) (now := now) (q := q) (l.length + 1) (turnL now l) (turnL_sorted hs) k;rw [turn_at] at h2;rw [h1.1, h1.2, h2.1, turn1_f6];exact ⟨rfl, h2.2⟩
def EndV (x y : S57) : Prop := y.f6 = x.f6 /\ (y.f1 = x.f1 \/ y.f1 = { x.f1 with f4 := 0 })
theorem EndV.refl (x : S57) : EndV x x := ⟨rfl, .inl rfl⟩
theorem EndV.trans {x y z : S57} (h : EndV x y) (k : EndV y z) : EndV x z := by
 refine ⟨k.1.trans h.1, ?_⟩;rcases h.2 with e | e <;> rcases k.2 with e2 | e2
 ·exact .inl (e2.trans e)
 ·exact .inr (by rw [e2, e])
 ·exact .inr (e2.trans e)
 ·exact .inr (by rw [e2, e])
theorem EndV.same {x y : S57} (h1 : y.f6 = x.f6) (h2 : y.f1 = x.f1) : EndV x y := ⟨h1, .inl h2⟩
theorem set_v (l : List S57) (i : Nat) (x : S57) (h : EndV (at_ l i) x) (k : Nat) : EndV (at_ l k) (at_ (l.set i x) k) := by
 rw [at_set];split
 ·rename_i e; rw [e.1]; exact h
 ·exact EndV.refl _
theorem freeL_v (now : Int) (l : List S57) (q : List S63) (n : Nat) (t : Bool) (k : Nat) : EndV (at_ l k) (at_ (freeL now l q n t).1 k) := by
 unfold freeL;split
 ·exact EndV.refl _
 ·rename_i id rest _;exact set_v l (ahead l id) { l.getD (ahead l id) z57 with f3 := 2, f4 := 0 } (EndV.same rfl rfl) k
theorem endA_v (l : List S57) (q : List S63) (i k : Nat) : EndV (at_ l k) (at_ (endA now l q i).1 k) := by
 unfold endA;split
 ·exact EndV.refl _
 ·rename_i j js _;by_cases h1 : j.f3 = (stepOf j).f1
  ·rw [if_pos h1]
   have ha : ∀ k, EndV (at_ l k) (at_ (if (l.getD i z57).f3 = 2 then freeL now (l.set i { l.getD i z57 with f3 := 0 }) q ((stepOf j).f0 - 1).toNat false else (l, q, [])).1 k) := fun k => by
    split
    ·exact (set_v l i { l.getD i z57 with f3 := 0 } (EndV.same rfl rfl) k).trans (freeL_v _ _ _ _ _ k)
    ·exact EndV.refl _
   dsimp only;generalize (if (l.getD i z57).f3 = 2 then freeL now (l.set i { l.getD i z57 with f3 := 0 }) q ((stepOf j).f0 - 1).toNat false else (l, q, [])) = a at ha |-;split
   ·exact (ha k).trans (set_v a.1 i { a.1.getD i z57 with f2 := js } (EndV.same rfl rfl) k)
   ·exact (ha k).trans (set_v a.1 i { a.1.getD i z57 with f2 := { j with f2 := j.f2 + 1, f3 := 0 } :: js } (EndV.same rfl rfl) k)
  ·rw [if_neg h1];split
   ·exact (set_v l i { l.getD i z57 with f2 := js, f3 := 0 } (EndV.same rfl rfl) k).trans (freeL_v _ _ _ _ _ k)
   ·exact EndV.refl _
theorem endB_v (l : List S57) (i k : Nat) : EndV (at_ l k) (at_ (endB now l i).1 k) := by
 unfold endB;split
 ·exact set_v l i { l.getD i z57 with f1 := { (l.getD i z57).f1 with f4 := 0 } } ⟨rfl, .inr rfl⟩ k
 ·split
  ·exact EndV.refl _
  ·exact EndV.refl _
theorem endAll_v (now : Int) : ∀ (ps : List Nat) (st : List S57 × List S63 × List Ev) (k : Nat), EndV (at_ st.1 k) (at_ (ps.foldl (endStep now) st).1 k) := by
 intro ps
 induction ps with
 | nil => intro st k; exact EndV.refl _
 | cons p ps ih =>
  intro st k;rw [List.foldl_cons];refine EndV.trans ?_ (ih (endStep now st p) k);exact (endA_v st.1 st.2.1 p k).trans (endB_v _ p k)
theorem Settled.tick_v (h : Settled M now c wt l q R) (k : Nat) : EndV (if k ∈ placesOf M l then runV (at_ l k) else at_ l k) (at_ (tickL M now l q).1 k) := by
 have hs := h.inv.sane.sorted;have hag := h.again;have e1 : (tickL M now l q).1 = (endAll (now + 1) (runAll l (placesOf M l)) q (placesOf M l)).1 := by unfold tickL; rw [hag]
 have hat := runAll_at (placesOf M l) l (places_nodup hs) (fun p hp => ((mem_places hs).1 hp).1) k;rw [<- hat, e1];unfold endAll;generalize runAll l (placesOf M l) = l2;exact endAll_v (now + 1) (placesOf M l) (l2, q, []) k
theorem Settled.still_v (h : Settled M now c wt l q R) (k : Nat) : EndV (if k ∈ placesOf M l then runV (at_ l k) else at_ l k) (at_ (skipL M 1 l) k) := by
 have hs := h.inv.sane.sorted;have hat := runAll_at (placesOf M l) l (places_nodup hs) (fun p hp => ((mem_places hs).1 hp).1) k;rw [<- hat, skip_is_run hs];exact EndV.refl _
theorem Settled.go_v (h : Settled M now c wt (settleL M now l q).1 (settleL M now l q).2.1 R) (hn : now < 1000000000) (k : Nat) : EndV (if k ∈ placesOf M (settleL M now l q).1 then runV (at_ (settleL M now l q).1 k) else at_ (settleL M now l q).1 k) (at_ (goL 1 M now (now + 1) l q).1 k) := by
 have h1 := h.tick_v k;have h2 := h.still_v k;by_cases hst : 0 < stillL M now 1 (settleL M now l q).1 (settleL M now l q).2.1
 ·have e : (goL 1 M now (now + 1) l q).1 = skipL M 1 (settleL M now l q).1 := by rw [goL_one, if_pos hst, (h.still hn hst).1]
  rw [e]; exact h2
 ·have e : (goL 1 M now (now + 1) l q).1 = (tickL M now (settleL M now l q).1 (settleL M now l q).2.1).1 := by rw [goL_one, if_neg hst]
  rw [e]; exact h1
theorem rank_full {es : List Ent} {n : Int} (hd : (es.map Ent.id).Nodup) (hk : n.toNat <= es.length) : (pickL n es).length = n.toNat := by
 obtain ⟨es', hp, hs⟩ := srt_exists es;have hne := ne_of_perm hp hd;have hlen := hp.length_eq
 have h1 : (pickL n es).length = (es'.filter (fun e => decide ((rank es e : Int) < n))).length := by
  unfold pickL pickE;rw [List.length_map];exact ((hp.filter _).length_eq).symm
 have h2 := take_rank hs hne (k := n.toNat) (by omega)
 have h3 : es'.filter (fun e => decide ((rank es e : Int) < n)) = es'.filter (fun e => decide (rank es' e < n.toNat)) := by
  apply List.filter_congr;intro x hx;rw [rank_perm hp];have : ((rank es x : Int) < n) ↔ rank es x < n.toNat := by omega
  exact decide_eq_decide.2 this
 rw [h1, h3, <- h2, List.length_take];omega
theorem places_full (h : Sane M l) {k : Nat} (hk : k < l.length) (hm : (at_ l k).f1.f4 = 1) (hn : k ∉ placesOf M l) : ((placesOf M l).length : Int) = M := by
 have h1 : M <= (rk l (at_ l k) : Int) := by
  refine Int.not_lt.1 (fun e => hn ((mem_places h.sorted).2 ⟨hk, hm, e⟩))
 have h2 : rk l (at_ l k) <= (readyL l).length := by
  rw [<- rank_rk];exact List.countP_le_length
 have h3 := rank_full (n := M) (es := readyL l) (by
  rw [List.nodup_iff_pairwise_ne];exact (readyL_sorted h.sorted).imp (fun h => by omega)) (by omega)
 have := h.m1;unfold placesOf runsL;rw [List.length_map, h3];omega
end
def WOk (x : S85) : Prop := 1 <= x.f1 /\ x.f1 <= 2147483648 /\ 1 <= x.f0 /\ x.f0 <= x.f1
instance (x : S85) : Decidable (WOk x) := by unfold WOk; infer_instance
abbrev agg85 (x : S85) : Value := .agg #[.int .i64 x.f0, .int .i64 x.f1]
theorem wgood_calls (x : S85) (w : World) : Calls Tryz.prog 35 #[agg85 x] w fun e w' => e = .returned (.bool (decide (WOk x))) /\ Below w.heap.size w w' := by
 obtain ⟨q, p⟩ := x;have hb := below_alloc (Below.refl w.heap.size w) (.cells #[.int .i64 q, .int .i64 p] 85);unfold WOk;dsimp only;by_cases h1 : 1 <= p
 ·have g1 : decide (p >= 1) = true := by simpa using h1
  by_cases h2 : p <= 2147483648
  ·have g2 : decide (p <= 2147483648) = true := by simpa using h2
   by_cases h3 : 1 <= q
   ·have g3 : decide (q >= 1) = true := by simpa using h3
    have e : decide (1 <= p /\ p <= 2147483648 /\ 1 <= q /\ q <= p) = decide (q <= p) := by simp [h1, h2, h3]
    rw [e];clear h1 h2 h3 e;go_enter Tryz.func35, Tryz.ntmps35;go_wp2;go_ret;exact ⟨rfl, hb⟩
   ·have g3 : decide (q >= 1) = false := by simpa using h3
    have e : decide (1 <= p /\ p <= 2147483648 /\ 1 <= q /\ q <= p) = false := by simp [h3]
    rw [e];clear h1 h2 h3 e;go_enter Tryz.func35, Tryz.ntmps35;go_wp2;go_ret;exact ⟨rfl, hb⟩
  ·have g2 : decide (p <= 2147483648) = false := by simpa using h2
   have e : decide (1 <= p /\ p <= 2147483648 /\ 1 <= q /\ q <= p) = false := by simp [h2]
   rw [e];clear h1 h2 e;go_enter Tryz.func35, Tryz.ntmps35;go_wp2;go_ret;exact ⟨rfl, hb⟩
 ·have g1 : decide (p >= 1) = false := by simpa using h1
  have e : decide (1 <= p /\ p <= 2147483648 /\ 1 <= q /\ q <= p) = false := by simp [h1]
  rw [e];clear h1 e;go_enter Tryz.func35, Tryz.ntmps35;go_wp2;go_ret;exact ⟨rfl, hb⟩
theorem windows_calls (x p : Int) (w : World) (h1 : 0 <= x) (h2 : x <= 4611686018427387904) (h3 : 1 <= p) (h4 : p <= 2147483648) : Calls Tryz.prog 169 #[.int .i64 x, .int .i64 p] w fun e w' => e = .returned (.tuple #[.int .i64 (x / p), .bool true]) /\ w = w' := by
 have hdiv : x.tdiv p = x / p := Int.tdiv_eq_ediv_of_nonneg h1
 have hw : IntKind.i64.wrap (x.tdiv p) = x / p := by
  have a := Int.ediv_nonneg h1 (by omega : (0 : Int) <= p);have b := Int.ediv_le_self p h1;rw [hdiv, i64_w]; unfold Go.RowKit.wrap64; omega
 clear hdiv;go_enter Tryz.func169, Tryz.ntmps169
 go_wp2_with (first | (go_at_call 77; (with_reducible refine (tgood_calls x _ h1 h2).mono ?_); rintro e w1 ⟨rfl, rfl⟩) | (go_at_call 81; (with_reducible refine (tin_calls p 1 2147483648 _ h3 h4).mono ?_); rintro e w1 ⟨rfl, rfl⟩))
 go_ret2;exact ⟨rfl, rfl⟩
def workW (x : S85) (n : Int) : Int := min n ((n + x.f1 - x.f0) / x.f1 * x.f0 + min x.f0 (n + x.f1 - x.f0 - (n + x.f1 - x.f0) / x.f1 * x.f1))
def roomW (x : S85) : Int := x.f1 - x.f0 + 1
def takesW (x o : S85) : Int := min (workW x o.f1) (roomW o)
theorem workW_nn {x : S85} {n : Int} (hx : WOk x) (hn : 0 <= n) : 0 <= workW x n := by
 obtain ⟨h1, h2, h3, h4⟩ := hx;have a : 0 <= (n + x.f1 - x.f0) / x.f1 := Int.ediv_nonneg (by omega) (by omega);have b : 0 <= (n + x.f1 - x.f0) / x.f1 * x.f0 := Int.mul_nonneg a (by omega)
 have c : 0 <= n + x.f1 - x.f0 - (n + x.f1 - x.f0) / x.f1 * x.f1 := by
  have := Int.emod_nonneg (n + x.f1 - x.f0) (show x.f1 ≠ 0 by omega);have e := Int.emod_add_mul_ediv (n + x.f1 - x.f0) x.f1;rw [Int.mul_comm] at e;omega
 unfold workW;omega
theorem work_calls (x : S85) (n : Int) (w : World) (hx : WOk x) (hn : 0 <= n) (hn2 : n <= 2147483648) : Calls Tryz.prog 158 #[agg85 x, .int .i64 n] w fun e w' => e = .returned (.tuple #[.int .i64 (workW x n), .bool true]) /\ Below w.heap.size w w' := by
 have DG := fun w => wgood_calls x w
 have gx : decide (WOk x) = true := by simpa using hx
 rw [gx] at DG;have HW : Hid (workW x n = min n ((n + x.f1 - x.f0) / x.f1 * x.f0 + min x.f0 (n + x.f1 - x.f0 - (n + x.f1 - x.f0) / x.f1 * x.f1))) := hZ rfl;obtain ⟨h1, h2, h3, h4⟩ := hx;generalize workW x n = r at *;obtain ⟨q, p⟩ := x;dsimp only at *;have g1 : decide (n < 0) = false := by simpa using hn
 have g2 : decide (n > 2147483648) = false := by simpa using hn2
 have hp : p ≠ 0 := by omega
 have a : 0 <= (n + p - q) / p := Int.ediv_nonneg (by omega) (by omega);have a2 : (n + p - q) / p <= 4294967296 := Int.le_trans (Int.ediv_le_self p (by omega)) (by omega);have b : 0 <= (n + p - q) / p * q := Int.mul_nonneg a (by omega);have b2 : (n + p - q) / p * q <= (n + p - q) / p * p := Int.mul_le_mul_of_nonneg_left h4 a;have hu : n + p - q <= 4294967296 := by omega
 have hu0 : 0 <= n + p - q := by omega
 have c : 0 <= (n + p - q) / p * p := Int.mul_nonneg a (by omega);have c2 : (n + p - q) / p * p <= n + p - q := Int.ediv_mul_le _ hp;have D := fun w => windows_calls (n + p - q) p w (by omega) (by omega) h1 h2
 have w1 : IntKind.i64.wrap (n + p) = n + p := by rw [i64_w]; unfold Go.RowKit.wrap64; omega
 have w2 : IntKind.i64.wrap (n + p - q) = n + p - q := by rw [i64_w]; unfold Go.RowKit.wrap64; omega
 generalize (n + p - q) / p = v at *;have w3 : IntKind.i64.wrap (v * q) = v * q := by rw [i64_w]; unfold Go.RowKit.wrap64; omega
 have w4 : IntKind.i64.wrap (v * p) = v * p := by rw [i64_w]; unfold Go.RowKit.wrap64; omega
 have w5 : IntKind.i64.wrap (n + p - q - v * p) = n + p - q - v * p := by rw [i64_w]; unfold Go.RowKit.wrap64; omega
 have w6 : IntKind.i64.wrap (v * q + q) = v * q + q := by rw [i64_w]; unfold Go.RowKit.wrap64; omega
 have w7 : IntKind.i64.wrap (v * q + (n + p - q - v * p)) = v * q + (n + p - q - v * p) := by rw [i64_w]; unfold Go.RowKit.wrap64; omega
 have HB0 : Hid (Below w.heap.size w (w.alloc (.cells #[.int .i64 q, .int .i64 p] 85))) := hZ (below_alloc (Below.refl _ _) _);have HX0 : Hid ((w.alloc (.cells #[.int .i64 q, .int .i64 p] 85)).heap[w.heap.size]? = some (.cells #[.int .i64 q, .int .i64 p] 85 (0, 0))) := hZ (blk_new _ _);clear gx;go_enter Tryz.func158, Tryz.ntmps158
 go_wp2_with (first | (go_at_call 35; (with_reducible refine (DG _).mono ?_); rintro e w1 ⟨rfl, hB1⟩; have hx1 := blk_below HX0.out hB1; have q0 := (blk_cell hx1 0).trans rfl; have q1 := (blk_cell hx1 1).trans rfl; have HB1 := hZ (HB0.out.trans (hB1.mono HB0.out.size)); clear hB1 hx1) | (go_at_call 169; (with_reducible refine (D _).mono ?_); rintro e w2 ⟨rfl, rfl⟩))
 all_goals
  go_ret2;refine ⟨?_, HB1.out⟩;rw [HW.out];exact congrArg (fun z => Ending.returned (.tuple #[.int .i64 z, .bool true])) (by omega)
def wone.T8 : Bool × List (List Nat × List Nat) := (true, [([], []), ([], []), ([], []), ([1, 2], [1, 2]), ([3], [3]), ([0, 4], [0, 4]), ([5], [5]), ([6], [6]), ([6], [6]), ([7, 5, 0, 1, 2, 3, 4, 5, 6, 7], [7]), ([8, 9, 0, 1, 2, 3, 4, 5, 6, 7, 8, 9], [8])])
def wone.B8 : List Nat := [0, 0, 0, 6, 14, 31, 63, 127, 127, 255, 1023]
theorem wone.tab8 : rtab .any (opsOf Tryz.f126 8) = wone.T8 := by kernel_rfl
theorem wone.bits8 : waitsOk wone.T8.2 wone.B8 = true := by kernel_rfl
theorem room_calls (x : S85) (w : World) (hx : WOk x) : Calls Tryz.prog 148 #[agg85 x] w fun e w' => e = .returned (.int .i64 (roomW x)) /\ Below w.heap.size w w' := by
 obtain ⟨q, p⟩ := x;obtain ⟨h1, h2, h3, h4⟩ := hx;dsimp only at *;have hb := below_alloc (Below.refl w.heap.size w) (.cells #[.int .i64 q, .int .i64 p] 85);have w1 : IntKind.i64.wrap (p - q) = p - q := by rw [i64_w]; unfold Go.RowKit.wrap64; omega
 have w2 : IntKind.i64.wrap (p - q + 1) = p - q + 1 := by rw [i64_w]; unfold Go.RowKit.wrap64; omega
 go_enter Tryz.func148, Tryz.ntmps148;go_wp2;go_ret;exact ⟨rfl, hb⟩
theorem takesW_bnd {x o : S85} (hx : WOk x) (ho : WOk o) : 0 <= takesW x o /\ takesW x o <= 2147483648 := by
 have h1 := workW_nn (n := o.f1) hx (by have := ho.1; omega);obtain ⟨a, b, c, d⟩ := ho;unfold takesW roomW;omega
theorem takes_calls (x o : S85) (w : World) (hx : WOk x) (ho : WOk o) : Calls Tryz.prog 147 #[agg85 x, agg85 o] w fun e w' => e = .returned (.tuple #[.int .i64 (takesW x o), .bool true]) /\ Below w.heap.size w w' := by
 have DG := fun w => wgood_calls o w
 have gx : decide (WOk o) = true := by simpa using ho
 rw [gx] at DG;have DW := fun w => work_calls x o.f1 w hx (by have := ho.1; omega) (by have := ho.2.1; omega)
 have DR := fun w => room_calls o w ho
 have HT : Hid (takesW x o = min (workW x o.f1) (roomW o)) := hZ rfl;obtain ⟨q, p⟩ := x;obtain ⟨r, s⟩ := o;generalize takesW ⟨q, p⟩ ⟨r, s⟩ = t at *;generalize roomW ⟨r, s⟩ = rm at *;dsimp only at *;generalize workW ⟨q, p⟩ s = wk at *;have h2 := two_blocks (w := w) (x := #[.int .i64 q, .int .i64 p]) (y := #[.int .i64 r, .int .i64 s]) (tx := 85) (ty := 85) (Below.refl _ _);have HX0 := hZ h2.1;have HY0 := hZ h2.2.1;have HB0 : Hid (Below w.heap.size w ((w.alloc (.cells #[.int .i64 q, .int .i64 p] 85)).alloc (.cells #[.int .i64 r, .int .i64 s] 85))) := hZ (below_alloc (below_alloc (Below.refl _ _) _) _);clear gx h2 hx ho;go_enter Tryz.func147, Tryz.ntmps147
 go_wp2_with (first
  | (go_at_call 35; (with_reducible refine (DG _).mono ?_); rintro e w1 ⟨rfl, hB1⟩; have HX1 := hZ (blk_below HX0.out hB1); have HY1 := hZ (blk_below HY0.out hB1); have x0 := (blk_cell HX1.out 0).trans rfl; have x1 := (blk_cell HX1.out 1).trans rfl; have y1 := (blk_cell HY1.out 1).trans rfl; have HB1 := hZ (HB0.out.trans (hB1.mono HB0.out.size)); clear hB1)
  | (go_at_call 158; (with_reducible refine (DW _).mono ?_); rintro e w2 ⟨rfl, hB2⟩; have HY2 := hZ (blk_below HY1.out hB2); have y0 := (blk_cell HY2.out 0).trans rfl; have y1' := (blk_cell HY2.out 1).trans rfl; have HB2 := hZ (HB1.out.trans (hB2.mono HB1.out.size)); clear hB2)
  | (go_at_call 148; (with_reducible refine (DR _).mono ?_); rintro e w3 ⟨rfl, hB3⟩; have HB3 := hZ (HB2.out.trans (hB3.mono HB2.out.size)); clear hB3))
 all_goals
  go_ret2;refine ⟨?_, HB3.out⟩;rw [HT.out];exact congrArg (fun z => Ending.returned (.tuple #[.int .i64 z, .bool true])) (by omega)
theorem wodd_calls (x : S85) (w : World) (hx : WOk x) : Calls Tryz.prog 145 #[agg85 x] w fun e w' => e = .returned (.bool false) /\ Below w.heap.size w w' := by
 have DG := fun w => wgood_calls x w
 have gx : decide (WOk x) = true := by simpa using hx
 rw [gx] at DG;obtain ⟨q, p⟩ := x;have HB0 : Hid (Below w.heap.size w (w.alloc (.cells #[.int .i64 q, .int .i64 p] 85))) := hZ (below_alloc (Below.refl _ _) _);clear gx hx;go_enter Tryz.func145, Tryz.ntmps145
 go_wp2_with (go_at_call 35; (with_reducible refine (DG _).mono ?_); rintro e w1 ⟨rfl, hB1⟩; have HB1 := hZ (HB0.out.trans (hB1.mono HB0.out.size)); clear hB1)
 go_ret;exact ⟨rfl, HB1.out⟩
theorem rd85 {l : List S85} {k : Nat} (h : k < l.length) : rd_T85 l (k : Int) = l[k] := by simp [rd_T85, h]
theorem windex_calls (A : Option Addr) (c : Nat) (l : List S85) (w : World) (hr : Kd.C k85 w A l.length l) (hlen : l.length <= 64) (hall : ∀ k (h : k < l.length), WOk l[k]) :
  Calls Tryz.prog 157 #[.slice A l.length c, .func (.func 145) #[] #[]] w fun e w' => e = .returned (.int .i64 (-1)) /\ Below w.heap.size w w' := by
 have HR := hZ hr;have HA := hZ hall;clear hr hall;go_enter Tryz.func157, Tryz.ntmps157;go_wp2
 go_loopw [8] (fun v8 wr => ∃ k : Nat, v8 = .int .i64 k /\ k <= l.length /\ Hid (Below w.heap.size w wr)) (fun v8 _ => l.length - (intOf v8).toNat)
 case atStart => exact ⟨0, rfl, Nat.zero_le _, Below.refl _ _⟩
 case round =>
  obtain ⟨k, rfl, hk, HB⟩ := hrel;by_cases hlt : k < l.length
  ·obtain ⟨ad, rfl, h0, h1⟩ := at_T85 (Kd.C_below HR.out HB.out) (k : Int) (by omega) (by omega);rw [Int.toNat_natCast] at h0 h1;have D := fun w => wodd_calls (rd_T85 l (k : Int)) w (by rw [rd85 hlt]; exact HA.out k hlt)
   generalize rd_T85 l (k : Int) = p at *;obtain ⟨p0, p1⟩ := p;unfold agg85 at D;dsimp only at h0 h1 D
   go_wp2_with (go_at_call 145; (with_reducible refine (D _).mono ?_); rintro e w' ⟨rfl, hB'⟩; have HB' := hZ (HB.out.trans (hB'.mono HB.out.size)); clear hB')
   go_roundw
   case rel => exact ⟨k + 1, by go_num, by omega, HB'⟩
   case measure => simp [intOf]; omega
  ·obtain rfl : k = l.length := by omega
   go_wp2;go_ret;exact ⟨rfl, HB.out⟩
theorem wcontains_calls (A : Option Addr) (c : Nat) (l : List S85) (w : World) (hr : Kd.C k85 w A l.length l) (hlen : l.length <= 64) (hall : ∀ k (h : k < l.length), WOk l[k]) :
  Calls Tryz.prog 146 #[.slice A l.length c, .func (.func 145) #[] #[]] w fun e w' => e = .returned (.bool false) /\ Below w.heap.size w w' := by
 have D := windex_calls A c l w hr hlen hall;clear hr hall;go_enter Tryz.func146, Tryz.ntmps146
 go_wp2_with (go_at_call 157; (with_reducible refine D.mono ?_); rintro e w' ⟨rfl, hB'⟩)
 go_ret;exact ⟨rfl, hB'⟩
theorem may_calls (m : Int) (A : Option Addr) (c : Nat) (l : List S85) (w : World) (hr : Kd.C k85 w A l.length l) (hlen : l.length <= 64) (hall : ∀ k (h : k < l.length), WOk l[k]) (hm1 : 1 <= m) (hm2 : m <= 64) :
  Calls Tryz.prog 125 #[.int .i64 m, .slice A l.length c] w fun e w' => e = .returned (.bool true) /\ Below w.heap.size w w' := by
 have D := wcontains_calls A c l w hr hlen hall;have g1 : decide (m >= 1) = true := by simpa using hm1
 have g2 : decide (m <= 64) = true := by simpa using hm2
 have g3 : decide ((l.length : Int) <= 64) = true := by simp; omega
 clear hr hall hm1 hm2;go_enter Tryz.func125, Tryz.ntmps125
 go_wp2_with (go_at_call 146; (with_reducible refine D.mono ?_); rintro e w' ⟨rfl, hB'⟩)
 go_ret;exact ⟨rfl, hB'⟩
def sumUp (l : List S85) (k : Nat) : Nat -> Int
 | 0 => 0
 | i + 1 => sumUp l k i + (if i = k then 0 else takesW (l.getD i z85) (l.getD k z85))
def oneW (m : Int) (l : List S85) (k : Nat) : Bool := decide (sumUp l k l.length < m * roomW (l.getD k z85))
def allW (m : Int) (l : List S85) : Bool := (List.range l.length).all (oneW m l)
theorem sumUp_bnd {l : List S85} {k : Nat} (hk : k < l.length) (hall : ∀ k (h : k < l.length), WOk l[k]) : ∀ i, i <= l.length -> 0 <= sumUp l k i /\ sumUp l k i <= 2147483648 * i := by
 intro i
 induction i with
 | zero => intro _; exact ⟨Int.le_refl _, by simp [sumUp]⟩
 | succ i ih =>
  intro hi;obtain ⟨a, b⟩ := ih (by omega);have e1 : l.getD i z85 = l[i]'(by omega) := by simp [show i < l.length by omega]
  have e2 : l.getD k z85 = l[k] := by simp [hk]
  have h := takesW_bnd (hall i (by omega)) (hall k hk);rw [sumUp, e1, e2];split <;> omega
theorem one_calls (m : Int) (A : Option Addr) (c : Nat) (l : List S85) (k : Nat) (w : World) (hr : Kd.C k85 w A l.length l) (hlen : l.length <= 64) (hall : ∀ k (h : k < l.length), WOk l[k]) (hm1 : 1 <= m) (hm2 : m <= 64) (hk : k < l.length) :
  Calls Tryz.prog 126 #[.int .i64 m, .slice A l.length c, .int .i64 k] w fun e w' => e = .returned (.tuple #[.bool (oneW m l k), .int .i64 0]) /\ Below w.heap.size w w' := by
 have D := may_calls m A c l w hr hlen hall hm1 hm2;have HR := hZ hr;have HA := hZ hall;have HO : Hid (oneW m l k = decide (sumUp l k l.length < m * roomW l[k])) := hZ (by unfold oneW; simp [hk]);have hko := hall k hk;have hSB := sumUp_bnd hk hall;have HSB := hZ hSB;have DR := fun w => room_calls l[k] w hko
 have DT := fun x w (h : WOk x) => takes_calls x l[k] w h hko
 have hrm : 1 <= roomW l[k] /\ roomW l[k] <= 2147483648 := by obtain ⟨a, b, c, d⟩ := hko; unfold roomW; omega
 have HST : Hid (∀ i (h : i < l.length), sumUp l k (i + 1) = sumUp l k i + (if i = k then 0 else takesW l[i] l[k])) := hZ (fun i h => by rw [sumUp]; simp [h, hk]);have HTB : Hid (∀ i (h : i < l.length), 0 <= takesW l[i] l[k] /\ takesW l[i] l[k] <= 2147483648) := hZ (fun i h => takesW_bnd (hall i h) hko)
 have HK : Hid (∀ wx, Below w.heap.size w wx -> ∃ ad, A = some ad /\ wx.cell? (ad.add (k * 2)) = some (.int .i64 l[k].f0) /\ wx.cell? ⟨(ad.add (k * 2)).block, (ad.add (k * 2)).off + 1, none⟩ = some (.int .i64 l[k].f1)) := hZ (fun wx hb => by
  obtain ⟨ad, e, h0, h1⟩ := at_T85 (Kd.C_below hr hb) (k : Int) (by omega) (by omega);rw [Int.toNat_natCast, rd85 hk] at h0 h1;exact ⟨ad, e, h0, h1⟩)
 have hkn : (0 : Int) <= (k : Int) := Int.natCast_nonneg k;have hkl : (k : Int) < (l.length : Int) := Int.ofNat_lt.2 hk;have gk1 : decide ((k : Int) < 0) = false := by simp
 have gk2 : decide ((k : Int) >= (l.length : Int)) = false := by simp; omega
 generalize oneW m l k = res at *;generalize hok : l[k] = o at *;obtain ⟨r, s⟩ := o;unfold agg85 at DR DT;clear hr hall hko hSB hok;generalize roomW ⟨r, s⟩ = rm at *;have hmul : 0 <= m * rm := Int.mul_nonneg (by omega) (by omega);have hmul2 : m * rm <= 64 * 2147483648 := Int.mul_le_mul hm2 hrm.2 (by omega) (by omega);have wm : IntKind.i64.wrap (m * rm) = m * rm := by rw [i64_w]; unfold Go.RowKit.wrap64; omega
 go_enter Tryz.func126, Tryz.ntmps126
 go_wp2_with (go_at_call 125; (with_reducible refine D.mono ?_); rintro e w1 ⟨rfl, hB1⟩; have HB1 := hZ hB1; clear hB1)
 go_loopw [8, 29] (fun v8 v29 wr => ∃ i : Nat, v29 = .int .i64 i /\ i <= l.length /\ v8 = .int .i64 (sumUp l k i) /\ Hid (Below w.heap.size w wr)) (fun _ v29 _ => l.length - (intOf v29).toNat)
 case atStart => exact ⟨0, rfl, Nat.zero_le _, rfl, HB1⟩
 case round =>
  obtain ⟨i, rfl, hi, rfl, HB⟩ := hrel;by_cases hlt : i < l.length
  ·obtain ⟨ad, rfl, h0, h1⟩ := at_T85 (Kd.C_below HR.out HB.out) (i : Int) (by omega) (by omega);rw [Int.toNat_natCast, rd85 hlt] at h0 h1;have hx := HA.out i hlt;have hst := HST.out i hlt;have htb := HTB.out i hlt;have hsb := HSB.out i hi;have b0 : (0 : Int) <= (i : Int) := by omega
   have b1 : (i : Int) < (l.length : Int) := by omega
   generalize l[i] = x at *;have DX := fun w => DT x w hx
   obtain ⟨q, p⟩ := x;dsimp only at h0 h1 DX;by_cases hik : i = k
   ·have g1 : ((i : Int) != (k : Int)) = false := by simp [hik]
    rw [if_pos hik] at hst;have HST2 := hZ hst;clear hst hik;go_wp2;go_roundw
    case rel => exact ⟨i + 1, by go_num, by omega, by rw [HST2.out]; simp, hZ (HB.out.trans (below_alloc (Below.refl _ _) _ |>.mono HB.out.size))⟩
    case measure => simp [intOf]; omega
   ·have g1 : ((i : Int) != (k : Int)) = true := by simp; omega
    rw [if_neg hik] at hst;have HST2 := hZ hst;clear hst hik;generalize takesW ⟨q, p⟩ ⟨r, s⟩ = tk at *;have wt : IntKind.i64.wrap (sumUp l k i + tk) = sumUp l k i + tk := by rw [i64_w]; unfold Go.RowKit.wrap64; omega
    generalize sumUp l k i = su at *
    go_upto_region 8 with fail
    have HBA : Hid (Below w.heap.size w (wr.alloc (.cells #[.int .i64 q, .int .i64 p] 85))) := hZ (HB.out.trans (below_alloc (Below.refl _ _) _ |>.mono HB.out.size));have HXA : Hid ((wr.alloc (.cells #[.int .i64 q, .int .i64 p] 85)).heap[wr.heap.size]? = some (.cells #[.int .i64 q, .int .i64 p] 85 (0, 0))) := hZ (blk_new _ _);generalize hwb : wr.alloc (.cells #[.int .i64 q, .int .i64 p] 85) = wb at *;clear hwb;obtain ⟨ad2, e2, k0, k1⟩ := HK.out wb HBA.out;injection e2 with e2;subst e2;refine start_ (n := 11) (S := fun w' => Hid (w'.heap[wr.heap.size]? = some (.cells #[.int .i64 q, .int .i64 p] 85 (0, 0))) /\ w'.cell? (ad.add (k * 2)) = some (.int .i64 r) /\ w'.cell? ⟨(ad.add (k * 2)).block, (ad.add (k * 2)).off + 1, none⟩ = some (.int .i64 s) /\ Hid (Below wb.drew.heap.size wb.drew w')) (ds := []) #[false, false, false, false, false, false, false, false, false, false, false] (by kernel_rfl) rfl rfl ⟨(hZ (show wb.drew.heap[wr.heap.size]? = _ from HXA.out)), (show wb.drew.cell? _ = _ from k0), (show wb.drew.cell? _ = _ from k1), (hZ (Below.refl wb.drew.heap.size wb.drew))⟩ (fun hHeld => ?_);refine with_tabW wone.tab8 wone.bits8 (fun HT_ HW_ => ?_);have hbd := drB wb;have hsd : wb.heap.size = wb.drew.heap.size := rfl;generalize hwd : wb.drew = wd at *;clear hwd;refine pst 1 (some 39) HT_ ?_;refine pst 2 (some 40) HT_ ?_;refine pst 3 (some 41) HT_ ?_;refine tst 0 (some 38) HT_ HW_ hHeld ?_ (hy := by (rintro w' ⟨s0, s1, s2, s3⟩; have e0 := (blk_cell s0.out 0).trans rfl; have e1 := (blk_cell s0.out 1).trans rfl); go_simp; with_reducible rfl);refine tst 4 (some 42) HT_ HW_ hHeld ?_ (hy := by (rintro w' ⟨s0, s1, s2, s3⟩; have e0 := (blk_cell s0.out 0).trans rfl; have e1 := (blk_cell s0.out 1).trans rfl); go_simp; with_reducible rfl);refine one_ (i := 5) (N := some 43) #[true, true, true, true, true, true, false, false, false, false, false] rfl rfl (one_of HT_.out (by kernel_rfl)) (by decide) (fun K hK => ?_);refine goes_ Tryz.func147 (by kernel_rfl) rfl #[.agg #[.int .i64 q, .int .i64 p], .agg #[.int .i64 r, .int .i64 s]] (by rfl) rfl rfl (by simp only [List.map_toArray, List.map_cons, List.map_nil]; rfl) ?_;with_reducible refine (DX _).mono ?_;rintro e w5 ⟨rfl, hB5⟩;refine ⟨_, rfl, ?_⟩;refine hK.out _ _ ⟨(hZ (blk_below hHeld.1.out hB5)), ((hB5.cell (World.block_lt_of_cell? _ _ hHeld.2.1)).trans hHeld.2.1), ((hB5.cell (World.block_lt_of_cell? _ _ hHeld.2.2.1)).trans hHeld.2.2.1), (hZ (hHeld.2.2.2.out.trans (hB5.mono hHeld.2.2.2.out.size)))⟩ (fun hHeld => ?_);clear hK K;refine norm_ (a' := ?_) ?_ ?_;rotate_left
    ·show Act.put _ (some 43) _ = _;simp only [Act.put, sqA, sqB, sqC, i64_w, i32_w];rfl
    refine pst 6 (some 37) HT_ ?_;refine pst 7 (some 44) HT_ ?_;refine pst 8 (some 45) HT_ ?_;refine pst 9 (some 11) HT_ ?_;refine pst 10 (some 12) HT_ ?_;refine done_ (done_of HT_.out (by kernel_rfl)) ?_;go_wp2;go_roundw
    case rel => exact ⟨i + 1, by go_num, by omega, by rw [HST2.out], hZ (HBA.out.trans ((hbd.out.trans (hHeld.2.2.2.out.mono hbd.out.size)).mono HBA.out.size))⟩
    case measure => simp [intOf]; omega
  ·obtain rfl : i = l.length := by omega
   obtain ⟨ad2, rfl, k0, k1⟩ := HK.out wr HB.out
   go_wp2_with (go_at_call 148; (with_reducible refine (DR _).mono ?_); rintro e w3 ⟨rfl, hB3⟩; have HB3 := hZ (HB.out.trans (hB3.mono HB.out.size)); clear hB3)
   go_ret2;exact ⟨by rw [HO.out]; rfl, HB3.out⟩
theorem all_calls (m : Int) (A : Option Addr) (c : Nat) (l : List S85) (w : World) (hr : Kd.C k85 w A l.length l) (hlen : l.length <= 64) (hall : ∀ k (h : k < l.length), WOk l[k]) (hm1 : 1 <= m) (hm2 : m <= 64) :
  Calls Tryz.prog 113 #[.int .i64 m, .slice A l.length c] w fun e w' => e = .returned (.tuple #[.bool (allW m l), .int .i64 0]) /\ Below w.heap.size w w' := by
 have D := may_calls m A c l w hr hlen hall hm1 hm2;have DO := fun k wx (hk : k < l.length) (hb : Below w.heap.size w wx) => one_calls m A c l k wx (Kd.C_below hr hb) hlen hall hm1 hm2 hk
 clear hr hall;go_enter Tryz.func113, Tryz.ntmps113
 go_wp2_with (go_at_call 125; (with_reducible refine D.mono ?_); rintro e w1 ⟨rfl, hB1⟩; have HB1 := hZ hB1; clear hB1)
 go_loopw [15] (fun v15 wr => ∃ i : Nat, v15 = .int .i64 i /\ i <= l.length /\ (∀ k, k < i -> oneW m l k = true) /\ Hid (Below w.heap.size w wr)) (fun v15 _ => l.length - (intOf v15).toNat)
 case atStart => exact ⟨0, rfl, Nat.zero_le _, fun k hk => by omega, HB1⟩
 case round =>
  obtain ⟨i, rfl, hi, hone, HB⟩ := hrel;have HONE := hZ hone;clear hone;by_cases hlt : i < l.length
  ·have DX := DO i wr hlt HB.out
   cases h1 : oneW m l i with
   | true =>
    rw [h1] at DX;have H1 := hZ h1;clear h1
    go_wp2_with (go_at_call 126; (with_reducible refine DX.mono ?_); rintro e w3 ⟨rfl, hB3⟩; have HB3 := hZ (HB.out.trans (hB3.mono HB.out.size)); clear hB3)
    go_roundw
    case rel => exact ⟨i + 1, by go_num, by omega, fun k hk => by
     rcases Nat.lt_or_ge k i with h | h
     ·exact HONE.out k h
     ·have : k = i := by omega
      subst this;exact H1.out, HB3⟩
    case measure => simp [intOf]; omega
   | false =>
    rw [h1] at DX;have H1 := hZ h1;clear h1
    go_wp2_with (go_at_call 126; (with_reducible refine DX.mono ?_); rintro e w3 ⟨rfl, hB3⟩; have HB3 := hZ (HB.out.trans (hB3.mono HB.out.size)); clear hB3)
    go_ret2;refine ⟨?_, HB3.out⟩
    have e : allW m l = false := by
     unfold allW;rw [List.all_eq_false];exact ⟨i, List.mem_range.2 hlt, by rw [H1.out]; simp⟩
    rw [e];rfl
  ·obtain rfl : i = l.length := by omega
   go_wp2;go_ret2;refine ⟨?_, HB.out⟩
   have e : allW m l = true := by
    unfold allW;rw [List.all_eq_true];exact fun k hk => HONE.out k (List.mem_range.1 hk)
   rw [e];rfl
def bfit.T1 : Bool × List (List Nat × List Nat) := (true, [([], []), ([0], [0]), ([1], [1]), ([2], [2]), ([], []), ([], []), ([], []), ([5, 6], [5, 6]), ([7, 7], [7]), ([4, 8, 8], [4, 8]), ([3, 9, 9], [3, 9]), ([10], [10]), ([11], [11]), ([11], [11]), ([12, 10, 0, 1, 2, 3, 4, 5, 6, 7, 8, 9, 10, 11, 12], [12]), ([13, 14, 0, 1, 2, 3, 4, 5, 6, 7, 8, 9, 10, 11, 12, 13, 14], [13])])
def bfit.B1 : List Nat := [0, 1, 3, 7, 0, 0, 0, 96, 224, 496, 1023, 2047, 4095, 4095, 8191, 32767]
theorem bfit.tab1 : rtab .any (opsOf Tryz.f97 1) = bfit.T1 := by kernel_rfl
theorem bfit.bits1 : waitsOk bfit.T1.2 bfit.B1 = true := by kernel_rfl
theorem info85 : (Tryz.prog.info? 85).map (fun i => (i.zero, i.size, i.bytes)) = some (some (.agg #[.int .i64 0, .int .i64 0]), 2, 16) := by kernel_rfl
theorem rd157 {l : List S157} {k : Nat} (h : k < l.length) : rd_T157 l (k : Int) = l[k] := by simp [rd_T157, h]
theorem eodd_calls (x : S157) (b : Nat) (id : Int) (w : World) (hb : w.cell? ⟨b, 0, none⟩ = some (.int .i64 id)) (hne : x.f0 ≠ id) :
  Calls Tryz.prog 95 #[.agg #[.int .i64 x.f0, .int .i64 x.f1.f0, .int .i64 x.f1.f1, .int .i64 x.f2], .pointer (some ⟨b, 0, none⟩)] w fun e w' => e = .returned (.bool false) /\ Below w.heap.size w w' := by
 have t0 := fun o => alloc_cell hb o
 have g : (x.f0 == id) = false := by simpa using hne
 clear hb hne;go_enter Tryz.func95, Tryz.ntmps95;go_wp2;go_ret;exact ⟨rfl, below_alloc (Below.refl _ _) _⟩
theorem eindex_calls (A : Option Addr) (c : Nat) (l : List S157) (b : Nat) (id : Int) (w : World) (hb : w.cell? ⟨b, 0, none⟩ = some (.int .i64 id)) (hr : Kd.C k157 w A l.length l) (hlen : l.length <= 64) (hall : ∀ k (h : k < l.length), l[k].f0 ≠ id) :
  Calls Tryz.prog 94 #[.slice A l.length c, .func (.func 95) #[] #[.pointer (some ⟨b, 0, none⟩)]] w fun e w' => e = .returned (.int .i64 (-1)) /\ Below w.heap.size w w' := by
 have HR := hZ hr;have HA := hZ hall;have HC := hZ hb;clear hr hall hb;go_enter Tryz.func94, Tryz.ntmps94;go_wp2
 go_loopw [8] (fun v8 wr => ∃ k : Nat, v8 = .int .i64 k /\ k <= l.length /\ Hid (Below w.heap.size w wr)) (fun v8 _ => l.length - (intOf v8).toNat)
 case atStart => exact ⟨0, rfl, Nat.zero_le _, Below.refl _ _⟩
 case round =>
  obtain ⟨k, rfl, hk, HB⟩ := hrel;by_cases hlt : k < l.length
  ·obtain ⟨ad, rfl, h0, h1, h2, h3⟩ := at_T157 (Kd.C_below HR.out HB.out) (k : Int) (by omega) (by omega);rw [Int.toNat_natCast] at h0 h1 h2 h3;have D := eodd_calls (rd_T157 l (k : Int)) b id wr ((HB.out.cell (World.block_lt_of_cell? _ _ HC.out)).trans HC.out) (by rw [rd157 hlt]; exact HA.out k hlt);generalize rd_T157 l (k : Int) = p at *;obtain ⟨p0, ⟨p1, p2⟩, p3⟩ := p;dsimp only at h0 h1 h2 h3 D
   go_wp2_with (go_at_call 95; (with_reducible refine D.mono ?_); rintro e w' ⟨rfl, hB'⟩; have HB' := hZ (HB.out.trans (hB'.mono HB.out.size)); clear hB')
   go_roundw
   case rel => exact ⟨k + 1, by go_num, by omega, HB'⟩
   case measure => simp [intOf]; omega
  ·obtain rfl : k = l.length := by omega
   go_wp2;go_ret;exact ⟨rfl, HB.out⟩
theorem efind_calls (M : Int) (N : Nat) (A : Option Addr) (c : Nat) (l : List S157) (id : Int) (w : World) (hN : w.heap[N]? = some (.cells #[.int .i64 M, .slice A l.length c, .slice none 0 0] 116 (0, 0))) (hr : Kd.C k157 w A l.length l) (hlen : l.length <= 64) (hall : ∀ k (h : k < l.length), l[k].f0 ≠ id) :
  Calls Tryz.prog 66 #[.pointer (some ⟨N, 0, none⟩), .int .i64 id] w fun e w' => e = .returned (.int .i64 (-1)) /\ Below w.heap.size w w' := by
 have hx := blk_below hN (below_alloc (Below.refl _ _) (.cells #[.int .i64 id] 3));have x1 := (blk_cell hx 1).trans rfl;have HB0 : Hid (Below w.heap.size w (w.alloc (.cells #[.int .i64 id] 3))) := hZ (below_alloc (Below.refl _ _) _);have D := eindex_calls A c l w.heap.size id (w.alloc (.cells #[.int .i64 id] 3)) ((blk_cell (blk_new w (.cells #[.int .i64 id] 3)) 0).trans rfl) (Kd.C_below hr HB0.out) hlen hall;clear hN hr hall hx;go_enter Tryz.func66, Tryz.ntmps66
 go_wp2_with (go_at_call 94; (with_reducible refine D.mono ?_); rintro e w1 ⟨rfl, hB1⟩; have HB1 := hZ (HB0.out.trans (hB1.mono HB0.out.size)); clear hB1)
 go_ret;exact ⟨rfl, HB1.out⟩
theorem lingers_calls (M : Int) (N : Nat) (V : Value) (now : Int) (w : World) (hN : w.heap[N]? = some (.cells #[.int .i64 M, V, .slice none 0 0] 116 (0, 0))) :
  Calls Tryz.prog 96 #[.pointer (some ⟨N, 0, none⟩), .int .i64 now] w fun e w' => e = .returned (.slice none 0 0) /\ Below w.heap.size w w' := by
 have x2 := (blk_cell hN 2).trans rfl;clear hN;go_enter Tryz.func96, Tryz.ntmps96;go_wp2
 go_loopw [5, 13] (fun v5 v13 wr => v5 = .slice none 0 0 /\ v13 = .int .i64 0 /\ wr = w) (fun _ _ _ => 0)
 case atStart => exact ⟨rfl, rfl, rfl⟩
 case round =>
  obtain ⟨rfl, rfl, rfl⟩ := hrel;go_wp2;go_ret;exact ⟨rfl, Below.refl _ _⟩
theorem pairs_calls (A : Option Addr) (c : Nat) (l : List S157) (w : World) (hr : Kd.C k157 w A l.length l) (hlen : l.length <= 64) :
  Calls Tryz.prog 98 #[.slice A l.length c] w fun e w' => ∃ v, e = .returned v /\ k85.R 85 w' w.heap.size (fun _ => True) v (l.map S157.f1) /\ Below w.heap.size w w' := by
 have HR := hZ hr;clear hr;go_enter Tryz.func98, Tryz.ntmps98;go_wp2
 go_loopw [3, 8] (fun v3 v8 wr => ∃ k : Nat, v8 = .int .i64 k /\ k <= l.length /\ Hid (k85.R 85 wr w.heap.size (fun _ => True) v3 ((l.take k).map S157.f1)) /\ Hid (Below w.heap.size w wr)) (fun _ v8 _ => l.length - (intOf v8).toNat)
 case atStart => exact ⟨0, rfl, Nat.zero_le _, hZ (Kd.R_nil _ _ _ _ _), Below.refl _ _⟩
 case round =>
  obtain ⟨k, rfl, hk, HO, HB⟩ := hrel;by_cases hlt : k < l.length
  ·obtain ⟨ad, rfl, h0, h1, h2, h3⟩ := at_T157 (Kd.C_below HR.out HB.out) (k : Int) (by omega) (by omega);rw [Int.toNat_natCast, rd157 hlt] at h0 h1 h2 h3;have HTK : Hid ((l.take (k + 1)).map S157.f1 = (l.take k).map S157.f1 ++ [l[k].f1]) := hZ (by rw [List.take_succ_eq_append_getElem hlt, List.map_append]; rfl);have hl2 : ((l.take k).map S157.f1).length <= 64 := by rw [List.length_map, List.length_take]; omega
   generalize (l.take k).map S157.f1 = ps at *;generalize l[k] = p at *;obtain ⟨p0, ⟨p1, p2⟩, p3⟩ := p;dsimp only at h0 h1 h2 h3
   go_wp2_with ((with_reducible refine gate_builtin (b := .append) (xs := #[.tmp 12, .tmp 15]) rfl ?_); at_builtin; refine Kd.R_append k85 (w0 := w) w.heap.size rfl (.tmp 12) (.tmp 15) 24 85 (.agg #[.int .i64 0, .int .i64 0]) 16 rfl Tryz.underlying24 info85 rfl (by decide) (by omega) _ ps (⟨p1, p2⟩ : S85) [.int .i64 p1, .int .i64 p2] (fun _ => True) (fun _ => False) rfl (by first | (go_simp; done) | (go_simp; rfl)) ?aP (fun _ hk => hk.elim) ?aF ?aO ?aB ?aS ?aL ?_; (case aP => exact k85_mkM _ _ _ _); (case aF => exact (fun _ _ => trivial)); (case aO => exact Kd.R_alloc HO.out _); (case aB => exact below_alloc HB.out _); (case aS => exact (below_alloc HB.out _).size); (case aL => omega); intro v5 w5 hR5 hB5 hg5 hat5; have HR5 := hZ hR5; have HB5 := hZ hB5; clear hR5 hB5 hg5 hat5)
   go_roundw
   case rel => exact ⟨k + 1, by go_num, by omega, hZ (by rw [HTK.out]; exact HR5.out), HB5⟩
   case measure => first | (simp [intOf]; done) | (simp [intOf]; omega)
  ·obtain rfl : k = l.length := by omega
   rw [List.take_length] at HO;go_wp2;go_ret;exact ⟨_, rfl, HO.out, HB.out⟩
theorem bfits_calls (M : Int) (N : Nat) (V v : Value) (ps : List S85) (now : Int) (base : Nat) (w0 w : World) (hN : w.heap[N]? = some (.cells #[.int .i64 M, V, .slice none 0 0] 116 (0, 0))) (hNb : N < base) (hR : k85.R 85 w base (fun _ => True) v ps) (hlen : ps.length <= 64) (hall : ∀ k (h : k < ps.length), WOk ps[k]) (hm1 : 1 <= M) (hm2 : M <= 64) (hB : Below base w0 w) (hb : base <= w.heap.size) :
  Calls Tryz.prog 97 #[.pointer (some ⟨N, 0, none⟩), v, .int .i64 now] w fun e w' => e = .returned (.bool (allW M ps)) /\ Below base w0 w' := by
 have DL := fun wx (h : wx.heap[N]? = some (.cells #[.int .i64 M, V, .slice none 0 0] 116 (0, 0))) => lingers_calls M N V now wx h
 have DP := fun wx => pairs_calls none 0 [] wx (C_nil' _ _ _) (by simp)
 have DA := fun A c wx (h : Kd.C k85 wx A ps.length ps) => all_calls M A c ps wx h hlen hall hm1 hm2
 have HN := hZ hN;have HR := hZ hR;have HB := hZ hB;clear hN hR hall hB;simp only [List.length_nil, List.map_nil] at DP;generalize allW M ps = res at *;go_enter Tryz.func97, Tryz.ntmps97;have HRD : Hid (k85.R 85 w.drew base (fun _ => True) v ps) := hZ (Kd.R_drew HR.out);have hbs : base <= w.drew.heap.size := hb
 go_upto_region 1 with fail
 refine start_ (n := 16) (S := fun w' => Hid (w'.heap[N]? = some (.cells #[.int .i64 M, V, .slice none 0 0] 116 (0, 0))) /\ Hid (Below base w.drew w')) (ds := [10]) #[false, false, false, false, false, false, false, false, false, false, false, false, false, false, false, false] (by kernel_rfl) rfl rfl ⟨(hZ (show w.drew.heap[N]? = _ from HN.out)), (hZ (Below.refl base w.drew))⟩ (fun hHeld => ?_);refine with_tabW bfit.tab1 bfit.bits1 (fun HT_ HW_ => ?_);have hbd := drB w;have hsd : w.heap.size = w.drew.heap.size := rfl;generalize hwd : w.drew = wd at *;clear hwd;refine pst 0 (some 10) HT_ ?_;refine pst 1 (some 11) HT_ ?_;refine pst 2 (some 12) HT_ ?_;refine pst 4 (some 14) HT_ ?_;refine pst 5 (some 15) HT_ ?_;refine pst 6 (some 16) HT_ ?_;refine tst 3 (some 13) HT_ HW_ hHeld ?_ (hy := by (rintro w' ⟨s0, s1⟩; have e0 := (blk_cell s0.out 0).trans rfl); go_simp; with_reducible rfl);refine one_ (i := 7) (N := some 17) #[true, true, true, true, true, true, true, true, false, false, false, false, false, false, false, false] rfl rfl (one_of HT_.out (by kernel_rfl)) (by decide) (fun K hK => ?_);refine goes_ Tryz.func96 (by kernel_rfl) rfl #[.pointer (some ⟨N, 0, none⟩), .int .i64 now] (by rfl) rfl rfl (by simp only [List.map_toArray, List.map_cons, List.map_nil]; rfl) ?_;with_reducible refine (DL _ hHeld.1.out).mono ?_;rintro e w3 ⟨rfl, hB3⟩;refine ⟨_, rfl, ?_⟩;refine hK.out _ _ ⟨(hZ (blk_below hHeld.1.out hB3)), (hZ (hHeld.2.out.trans (hB3.mono (Nat.le_trans hbs hHeld.2.out.size))))⟩ (fun hHeld => ?_);clear hK K;refine norm_ (a' := ?_) ?_ ?_;rotate_left
 ·show Act.put _ (some 17) _ = _;simp only [Act.put, sqA, sqB, sqC, i64_w, i32_w];rfl
 refine one_ (i := 8) (N := some 18) #[true, true, true, true, true, true, true, true, true, false, false, false, false, false, false, false] rfl rfl (one_of HT_.out (by kernel_rfl)) (by decide) (fun K hK => ?_);refine goes_ Tryz.func98 (by kernel_rfl) rfl #[.slice none 0 0] (by rfl) rfl rfl (by simp only [List.map_toArray, List.map_cons, List.map_nil]; rfl) ?_;with_reducible refine (DP _).mono ?_;rintro e w4 ⟨v4, rfl, hR4, hB4⟩;refine ⟨_, rfl, ?_⟩;obtain ⟨AL, cL, eL, hcL, hCL⟩ := Kd.R_reads hR4;simp only [List.length_nil] at eL hCL;subst eL;have HCL := hZ hCL;refine hK.out _ _ ⟨(hZ (blk_below hHeld.1.out hB4)), (hZ (hHeld.2.out.trans (hB4.mono (Nat.le_trans hbs hHeld.2.out.size))))⟩ (fun hHeld => ?_);clear hK K;refine norm_ (a' := ?_) ?_ ?_;rotate_left
 ·show Act.put _ (some 18) _ = _;simp only [Act.put, sqA, sqB, sqC, i64_w, i32_w];rfl
 refine one_ (i := 9) (N := some 19) #[true, true, true, true, true, true, true, true, true, true, false, false, false, false, false, false] rfl rfl (one_of HT_.out (by kernel_rfl)) (by decide) (fun K hK => ?_);refine Kd.R_append_rows_step k85 (Rr := k85.K w4) (w0 := w4) base (by rfl) (.tmp 14) (.tmp 18) 24 85 (.agg #[.int .i64 0, .int .i64 0]) 16 rfl Tryz.underlying24 info85 rfl (by decide) (by omega) v ps [] AL 0 cL (fun _ => True) (fun _ => False) (by rfl) (by rfl) (Kd.R_below (Kd.R_below HRD.out hB3) hB4) HCL.out (fun x cs h => by obtain rfl := k85_open h; exact k85_mkM _ _ _ _) (fun _ h => h.elim) (fun _ _ => trivial) (Below.refl _ _) (Nat.le_trans hbs hHeld.2.out.size) (by omega) ?_;intro v5 w5 hR5 hB5 hg5 hat5;rw [List.append_nil] at hR5;obtain ⟨A5, c5, e5, _, hC5⟩ := Kd.R_reads hR5;subst e5;have HC5 := hZ hC5;refine hK.out _ _ ⟨(hZ ((hB5.block N hNb).trans hHeld.1.out)), (hZ (hHeld.2.out.trans hB5))⟩ (fun hHeld => ?_);clear hK K;refine norm_ (a' := ?_) ?_ ?_;rotate_left
 ·show Act.put _ (some 19) _ = _;simp only [Act.put, sqA, sqB, sqC, i64_w, i32_w];rfl
 refine last_ (i := 10) (N := some 20) #[true, true, true, true, true, true, true, true, true, true, true, false, false, false, false, false] rfl rfl (one_of HT_.out (by kernel_rfl)) (by decide) (fun K hK => ?_);refine goes_ Tryz.func113 (by kernel_rfl) rfl #[.int .i64 M, .slice A5 ps.length c5] (by rfl) rfl rfl (by simp only [List.map_toArray, List.map_cons, List.map_nil]; rfl) ?_;with_reducible refine (DA A5 c5 _ HC5.out).mono ?_;rintro e w6 ⟨rfl, hB6⟩;refine ⟨_, rfl, ?_⟩;have HBF := hZ ((HB.out.trans (hbd.out.mono hb)).trans (hHeld.2.out.trans (hB6.mono (Nat.le_trans hbs hHeld.2.out.size))));refine hK.out _ _ ?_;clear hK K;refine norm_ (a' := ?_) ?_ ?_;rotate_left
 ·show Act.put _ (some 20) _ = _;simp only [Act.put, sqA, sqB, sqC, i64_w, i32_w];rfl
 refine pst 11 (some 9) HT_ ?_;refine pst 12 (some 21) HT_ ?_;refine pst 13 (some 22) HT_ ?_;refine pst 14 (some 7) HT_ ?_;refine pst 15 (some 8) HT_ ?_;refine done_ (done_of HT_.out (by kernel_rfl)) ?_
 cases res
 all_goals
  go_wp2;go_ret;exact ⟨rfl, HBF.out⟩
def bask.T3 : Bool × List (List Nat × List Nat) := (true, [([], []), ([0], [0]), ([1], [1]), ([2], [2]), ([3], [3]), ([4], [4]), ([5], [5]), ([6], [6]), ([7, 6], [6, 7]), ([8, 6], [6, 8]), ([9, 6], [6, 9]), ([10, 6], [6, 10]), ([6], [6]), ([6], [6]), ([12, 13, 6, 6], [6, 12, 13]), ([14, 6], [6, 14]), ([11, 15, 6], [6, 11, 15]), ([16, 6], [6, 16]), ([6, 17], [6, 17]), ([18, 14], [18])])
def bask.B3 : List Nat := [0, 1, 3, 7, 15, 31, 63, 127, 255, 511, 1023, 2047, 127, 127, 12415, 28799, 65535, 131071, 262143, 524287]
theorem bask.tab3 : rtab .any (opsOf Tryz.f67 3) = bask.T3 := by kernel_rfl
theorem bask.bits3 : waitsOk bask.T3.2 bask.B3 = true := by kernel_rfl
def bask.T5 : Bool × List (List Nat × List Nat) := (true, [([], []), ([], []), ([1], [1]), ([2], [2]), ([3], [3]), ([4], [4]), ([], []), ([6], [6]), ([5, 7, 5], [5, 7]), ([], []), ([0, 8, 9, 8], [0, 8, 9]), ([10], [10]), ([11, 10], [11])])
def bask.B5 : List Nat := [0, 0, 2, 6, 14, 30, 0, 64, 254, 0, 1023, 2047, 4095]
theorem bask.tab5 : rtab .any (opsOf Tryz.f67 5) = bask.T5 := by kernel_rfl
theorem bask.bits5 : waitsOk bask.T5.2 bask.B5 = true := by kernel_rfl
def bent.T8 : Bool × List (List Nat × List Nat) := (true, [([], []), ([], []), ([1], [1]), ([2], [2]), ([3], [3]), ([], []), ([], []), ([5, 6], [5, 6]), ([7], [7]), ([4, 8], [4, 8]), ([0, 0, 1, 2, 3, 4, 5, 6, 7, 8, 9], [0]), ([10, 0, 1, 2, 3, 4, 5, 6, 7, 8, 9], [10]), ([11, 9, 9, 0, 1, 2, 3, 4, 5, 6, 7, 8, 9], [9, 11])])
def bent.B8 : List Nat := [0, 0, 2, 6, 14, 0, 0, 96, 224, 510, 1023, 2047, 4095]
theorem bent.tab8 : rtab .any (opsOf Tryz.f36 8) = bent.T8 := by kernel_rfl
theorem bent.bits8 : waitsOk bent.T8.2 bent.B8 = true := by kernel_rfl
theorem lit85 (w : World) (q p : Int) : Kd.C k85 (w.alloc (.cells #[.int .i64 q, .int .i64 p] 85)) (some ⟨w.heap.size, 0, none⟩) 1 [(⟨q, p⟩ : S85)] := by
 refine ⟨rfl, by simp, fun _ => ⟨_, rfl, fun j x hx => ?_⟩⟩;have hb := blk_new w (.cells #[.int .i64 q, .int .i64 p] 85)
 cases j with
 | zero =>
  simp only [List.getElem?_cons_zero, Option.some.injEq] at hx;subst hx;refine ⟨_, rfl, k85_mk _ _, fun i u hu => ?_⟩;rw [Nat.zero_mul, Nat.zero_add, addr_at, Nat.zero_add, blk_cell hb]
  match i, hu with
  | 0, h => exact h
  | 1, h => exact h
  | i + 2, h => simp at h
 | succ j => simp at hx
def askC (M : Int) (l : List S157) (x : S85) : Int := if WOk x then (if allW M (l.map S157.f1 ++ [x]) then 0 else 7) else 1
theorem ask_calls (M : Int) (N : Nat) (A : Option Addr) (c : Nat) (l : List S157) (x : S85) (now : Int) (w : World) (hN : w.heap[N]? = some (.cells #[.int .i64 M, .slice A l.length c, .slice none 0 0] 116 (0, 0))) (hr : Kd.C k157 w A l.length l) (hlen : l.length <= 31) (hall : ∀ k (h : k < l.length), WOk l[k].f1) (hm1 : 1 <= M) (hm2 : M <= 64) (hnow : 0 <= now) :
  Calls Tryz.prog 67 #[.pointer (some ⟨N, 0, none⟩), agg85 x, .int .i64 now] w fun e w' => e = .returned (.int .i64 (askC M l x)) /\ Below w.heap.size w w' := by
 have DG := fun w => wgood_calls x w
 have HN := hZ hN;have HR := hZ hr;have gn : decide (now < 0) = false := by simpa using hnow
 have HB0 : Hid (Below w.heap.size w (w.alloc (.cells #[.int .i64 x.f0, .int .i64 x.f1] 85))) := hZ (below_alloc (Below.refl _ _) _);have HX0 : Hid ((w.alloc (.cells #[.int .i64 x.f0, .int .i64 x.f1] 85)).heap[w.heap.size]? = some (.cells #[.int .i64 x.f0, .int .i64 x.f1] 85 (0, 0))) := hZ (blk_new _ _);by_cases hx : WOk x
 ·have gx : decide (WOk x) = true := by simpa using hx
  rw [gx] at DG;have hps : (l.map S157.f1 ++ [x]).length <= 64 := by simp; omega
  have hpl : (l.map S157.f1).length <= 31 := by rw [List.length_map]; exact hlen
  have hpw : ∀ k (h : k < (l.map S157.f1 ++ [x]).length), WOk (l.map S157.f1 ++ [x])[k] := by
   intro k h;by_cases hk : k < l.length
   ·rw [List.getElem_append_left (by simpa using hk), List.getElem_map];exact hall k hk
   ·rw [List.getElem_append_right (by simp; omega)];simpa using hx
  have DL := fun wx (h : wx.heap[N]? = some (.cells #[.int .i64 M, .slice A l.length c, .slice none 0 0] 116 (0, 0))) => lingers_calls M N (.slice A l.length c) now wx h
  have DP := fun wx (hb : Below w.heap.size w wx) => pairs_calls A c l wx (Kd.C_below hr hb) (by omega)
  have DF := fun base v w1 wx hN hNb hR hB hb => bfits_calls M N (.slice A l.length c) v (l.map S157.f1 ++ [x]) now base w1 wx hN hNb hR hps hpw hm1 hm2 hB hb
  have HF : Hid (askC M l x = if allW M (l.map S157.f1 ++ [x]) then 0 else 7) := hZ (by unfold askC; rw [if_pos hx]);have g1 : decide ((l.length : Int) >= 32) = false := by simp; omega
  have hw0 : IntKind.i64.wrap ((l.length : Int) + 0) = (l.length : Int) := by rw [i64_w]; unfold Go.RowKit.wrap64; omega
  have hwl : Go.RowKit.wrap64 (l.length : Int) = (l.length : Int) := by unfold Go.RowKit.wrap64; omega
  have g2 : decide ((63 : Int) <= (l.length : Int)) = false := by simp; omega
  have g3 : decide ((l.length : Int) + 0 >= 63) = false := by simp; omega
  generalize askC M l x = fin at *;generalize allW M (l.map S157.f1 ++ [x]) = res at *;generalize l.map S157.f1 = pl at *;obtain ⟨q, p⟩ := x;dsimp only at HB0 HX0;clear hN hr hall hx gx hps hpw;go_enter Tryz.func67, Tryz.ntmps67
  go_upto_region 3 with (go_at_call 35; (with_reducible refine (DG _).mono ?_); rintro e w1 ⟨rfl, hB1⟩; have HX1 := hZ (blk_below HX0.out hB1); have HB1 := hZ (HB0.out.trans (hB1.mono HB0.out.size)); clear hB1)
  have HN1 := hZ ((HB1.out.block N (blk_lt HN.out)).trans HN.out);refine start_ (n := 20) (S := fun w' => Hid (w'.heap[N]? = some (.cells #[.int .i64 M, .slice A l.length c, .slice none 0 0] 116 (0, 0))) /\ Hid (Below w1.drew.heap.size w1.drew w')) (ds := []) #[false, false, false, false, false, false, false, false, false, false, false, false, false, false, false, false, false, false, false, false] (by kernel_rfl) rfl rfl ⟨(hZ (show w1.drew.heap[N]? = _ from HN1.out)), (hZ (Below.refl _ w1.drew))⟩ (fun hHeld => ?_);refine with_tabW bask.tab3 bask.bits3 (fun HT_ HW_ => ?_);have hbd := drB w1;have hsd : w1.heap.size = w1.drew.heap.size := rfl;generalize hwd : w1.drew = wd at *;clear hwd;refine pst 0 (some 16) HT_ ?_;refine pst 1 (some 17) HT_ ?_;refine pst 2 (some 18) HT_ ?_;refine tst 3 (some 19) HT_ HW_ hHeld ?_ (hy := by (rintro w' ⟨s0, s1⟩; have e1 := (blk_cell s0.out 1).trans rfl); go_simp; with_reducible rfl);refine pst 4 (some 20) HT_ ?_;refine pst 5 (some 21) HT_ ?_;refine pst 6 (some 22) HT_ ?_;refine pst 7 (some 23) HT_ ?_;refine pst 8 (some 24) HT_ ?_;refine pst 9 (some 25) HT_ ?_;refine pst 12 (some 28) HT_ ?_;refine pst 13 (some 29) HT_ ?_;refine tst 10 (some 26) HT_ HW_ hHeld ?_ (hy := by (rintro w' ⟨s0, s1⟩; have e1 := (blk_cell s0.out 1).trans rfl); go_simp; with_reducible rfl);refine pst 11 (some 27) HT_ ?_;refine one_ (i := 14) (N := some 30) #[true, true, true, true, true, true, true, true, true, true, true, true, true, true, true, false, false, false, false, false] rfl rfl (one_of HT_.out (by kernel_rfl)) (by decide) (fun K hK => ?_);refine goes_ Tryz.func96 (by kernel_rfl) rfl #[.pointer (some ⟨N, 0, none⟩), .int .i64 now] (by rfl) rfl rfl (by simp only [List.map_toArray, List.map_cons, List.map_nil]; rfl) ?_;with_reducible refine (DL _ hHeld.1.out).mono ?_;rintro e w3 ⟨rfl, hB3⟩;refine ⟨_, rfl, ?_⟩;refine hK.out _ _ ⟨(hZ (blk_below hHeld.1.out hB3)), (hZ (hHeld.2.out.trans (hB3.mono hHeld.2.out.size)))⟩ (fun hHeld => ?_);clear hK K;refine norm_ (a' := ?_) ?_ ?_;rotate_left
  ·show Act.put _ (some 30) _ = _;simp only [Act.put, sqA, sqB, sqC, i64_w, i32_w];rfl
  refine pst 15 (some 31) HT_ ?_;refine pst 16 (some 32) HT_ ?_;refine pst 17 (some 33) HT_ ?_;refine pst 18 (some 34) HT_ ?_;refine pst 19 (some 15) HT_ ?_;refine done_ (done_of HT_.out (by kernel_rfl)) ?_;have HBF := hZ (hbd.out.trans (hHeld.2.out.mono hbd.out.size));have HB3 := hZ (HB1.out.trans (HBF.out.mono HB1.out.size));clear hHeld hB3 hbd hsd HT_ HW_;have HX3 := hZ (blk_below HX1.out HBF.out);have HN3 := hZ (blk_below HN1.out HBF.out);have x0 : w3.cell? ⟨w.heap.size, 0, none⟩ = some (.int .i64 q) := (blk_cell HX3.out 0).trans rfl;have x1 : w3.cell? ⟨w.heap.size, 1, none⟩ = some (.int .i64 p) := (blk_cell HX3.out 1).trans rfl;have x2 : w3.cell? ⟨N, 1, none⟩ = some (.slice A l.length c) := (blk_cell HN3.out 1).trans rfl;clear HX1 HX3 HN1
  go_upto_region 5 with fail
  refine start_ (n := 13) (S := fun w' => Hid (Below w3.heap.size w3 w')) (ds := []) #[false, false, false, false, false, false, false, false, false, false, false, false, false] (by kernel_rfl) rfl rfl ((hZ (below_drew (Below.refl _ _)))) (fun hHeld => ?_);refine with_tabW bask.tab5 bask.bits5 (fun HT_ HW_ => ?_);have hbd := drB w3;have hsd : w3.heap.size = w3.drew.heap.size := rfl;generalize hwd : w3.drew = wd at *;clear hwd;refine pst 0 (some 36) HT_ ?_;refine pst 1 (some 37) HT_ ?_;refine pst 2 (some 38) HT_ ?_;refine pst 3 (some 39) HT_ ?_;refine pst 9 (some 45) HT_ ?_;refine tst 4 (some 40) HT_ HW_ hHeld ?_ (hy := by (intro w' s0; have e0 := (s0.out.cell (World.block_lt_of_cell? _ _ x0)).trans x0; have e1 := (s0.out.cell (World.block_lt_of_cell? _ _ x1)).trans x1; have e2 := (s0.out.cell (World.block_lt_of_cell? _ _ x2)).trans x2); go_simp; with_reducible rfl);refine tst 6 (some 42) HT_ HW_ hHeld ?_ (hy := by (intro w' s0; have e0 := (s0.out.cell (World.block_lt_of_cell? _ _ x0)).trans x0; have e1 := (s0.out.cell (World.block_lt_of_cell? _ _ x1)).trans x1; have e2 := (s0.out.cell (World.block_lt_of_cell? _ _ x2)).trans x2); go_simp; with_reducible rfl);refine join_ (σ := Value × Nat) 4 #[true, true, true, true, true, true, true, true, false, true, false, false, false] (fun s => [(41, s.1), (43, .slice (some ⟨s.2, 0, none⟩) 1 1)]) (fun s w' => Hid (k85.R 85 w' w3.heap.size (fun _ => True) s.1 pl) /\ Hid (Kd.C k85 w' (some ⟨s.2, 0, none⟩) 1 [(⟨q, p⟩ : S85)]) /\ Hid (Below w3.heap.size w3 w')) ?_ ?_;rotate_left
  ·intro hCont;refine two_ (i := 5) (j := 7) (Ni := some 41) (Nj := some 43) #[true, true, true, true, true, true, true, false, false, true, false, false, false] #[true, true, true, true, true, false, true, true, false, true, false, false, false] rfl rfl rfl rfl (two_of HT_.out (by kernel_rfl)) (by decide) (by decide) (fun K hK => ?_) (fun K hK => ?_)
   ·skip
    refine goes_ Tryz.func98 (by kernel_rfl) rfl #[.slice A l.length c] (by rfl) rfl rfl (by simp only [List.map_toArray, List.map_cons, List.map_nil]; rfl) ?_;with_reducible refine (DP _ (HB3.out.trans (hHeld.out.mono HB3.out.size))).mono ?_;rintro e w4 ⟨v4, rfl, hR4, hB4⟩;refine ⟨_, rfl, ?_⟩;have hR4 : k85.R 85 w4 w3.heap.size (fun _ => True) v4 pl := Kd.R_lower hR4 hHeld.out.size;refine hK.out _ _ ((hZ (hHeld.out.trans (hB4.mono hHeld.out.size)))) (fun hHeld => ?_);clear hK K;refine norm_ (a' := ?_) ?_ ?_;rotate_left
    ·show Act.put _ (some 41) _ = _;simp only [Act.put, sqA, sqB, sqC, i64_w, i32_w];rfl
    refine one_ (i := 7) (N := some 43) #[true, true, true, true, true, true, true, true, false, true, false, false, false] rfl rfl (one_of HT_.out (by kernel_rfl)) (by decide) (fun K hK => ?_);refine value_ (w1 := ?_) (v := ?_) (by rfl) rfl ?_ ?_;rotate_left 2
    ·go_simp;constructor
     ·rfl
     ·rfl
    refine hK.out _ _ ((hZ (hHeld.out.trans ((below_alloc (Below.refl _ _) _).mono hHeld.out.size)))) (fun hHeld => ?_);clear hK K;refine norm_ (a' := ?_) ?_ ?_;rotate_left
    ·show Act.put _ (some 43) _ = _;simp only [Act.put, sqA, sqB, sqC, i64_w, i32_w];rfl
    exact norm_ (by simp only [putAll, Act.put, sqA, sqB, sqC]) (hCont (v4, w4.heap.size) _ ⟨hZ (Kd.R_alloc hR4 _), hZ (lit85 w4 q p), hHeld⟩)
   ·skip
    refine value_ (w1 := ?_) (v := ?_) (by rfl) rfl ?_ ?_;rotate_left 2
    ·go_simp;constructor
     ·rfl
     ·rfl
    refine hK.out _ _ ((hZ (hHeld.out.trans ((below_alloc (Below.refl _ _) _).mono hHeld.out.size)))) (fun hHeld => ?_);clear hK K;refine norm_ (a' := ?_) ?_ ?_;rotate_left
    ·show Act.put _ (some 43) _ = _;simp only [Act.put, sqA, sqB, sqC, i64_w, i32_w];rfl
    refine one_ (i := 5) (N := some 41) #[true, true, true, true, true, true, true, true, false, true, false, false, false] rfl rfl (one_of HT_.out (by kernel_rfl)) (by decide) (fun K hK => ?_);refine goes_ Tryz.func98 (by kernel_rfl) rfl #[.slice A l.length c] (by rfl) rfl rfl (by simp only [List.map_toArray, List.map_cons, List.map_nil]; rfl) ?_;with_reducible refine (DP _ (HB3.out.trans (hHeld.out.mono HB3.out.size))).mono ?_;rintro e w4 ⟨v4, rfl, hR4, hB4⟩;refine ⟨_, rfl, ?_⟩;have hR4 : k85.R 85 w4 w3.heap.size (fun _ => True) v4 pl := Kd.R_lower hR4 hHeld.out.size;refine hK.out _ _ ((hZ (hHeld.out.trans (hB4.mono hHeld.out.size)))) (fun hHeld => ?_);clear hK K;refine norm_ (a' := ?_) ?_ ?_;rotate_left
    ·show Act.put _ (some 41) _ = _;simp only [Act.put, sqA, sqB, sqC, i64_w, i32_w];rfl
    exact norm_ (by simp only [putAll, Act.put, sqA, sqB, sqC]) (hCont (v4, wd.heap.size) _ ⟨hZ hR4, hZ (Kd.C_below (lit85 wd q p) hB4), hHeld⟩)
  rintro ⟨v6, s6⟩ w6 ⟨hR6, hC6, hB6⟩;dsimp only at hR6 hC6;have hHeld : Hid (Below w3.heap.size w3 w6) := hB6;refine norm_ (a' := ?_) ?_ ?_;rotate_left
  ·simp only [putAll, Act.put, sqA, sqB, sqC];rfl
  refine one_ (i := 8) (N := some 44) #[true, true, true, true, true, true, true, true, true, true, false, false, false] rfl rfl (one_of HT_.out (by kernel_rfl)) (by decide) (fun K hK => ?_);refine Kd.R_append_rows_step k85 (Rr := k85.K w6) (w0 := w6) w3.heap.size (by rfl) (.tmp 41) (.tmp 43) 24 85 (.agg #[.int .i64 0, .int .i64 0]) 16 rfl Tryz.underlying24 info85 rfl (by decide) (by omega) v6 pl [(⟨q, p⟩ : S85)] (some ⟨s6, 0, none⟩) 1 1 (fun _ => True) (fun _ => False) (by rfl) (by rfl) hR6.out hC6.out (fun x cs h => by obtain rfl := k85_open h; exact k85_mkM _ _ _ _) (fun _ h => h.elim) (fun _ _ => trivial) (Below.refl _ _) hHeld.out.size (by omega) ?_;intro v7 w7 hR7 hB7 hg7 hat7;have HR7 := hZ hR7;refine hK.out _ _ ((hZ (hHeld.out.trans hB7))) (fun hHeld => ?_);clear hK K;refine norm_ (a' := ?_) ?_ ?_;rotate_left
  ·show Act.put _ (some 44) _ = _;simp only [Act.put, sqA, sqB, sqC, i64_w, i32_w];rfl
  refine one_ (i := 10) (N := some 46) #[true, true, true, true, true, true, true, true, true, true, true, false, false] rfl rfl (one_of HT_.out (by kernel_rfl)) (by decide) (fun K hK => ?_);refine goes_ Tryz.func97 (by kernel_rfl) rfl #[.pointer (some ⟨N, 0, none⟩), v7, .int .i64 now] (by rfl) rfl rfl (by simp only [List.map_toArray, List.map_cons, List.map_nil]; rfl) ?_;with_reducible refine (DF w3.heap.size v7 w3 _ ((hHeld.out.block N (blk_lt HN3.out)).trans HN3.out) (blk_lt HN3.out) HR7.out hHeld.out hHeld.out.size).mono ?_;rintro e w8 ⟨rfl, hB8⟩;refine ⟨_, rfl, ?_⟩;refine hK.out _ _ ((hZ hB8)) (fun hHeld => ?_);clear hK K;refine norm_ (a' := ?_) ?_ ?_;rotate_left
  ·show Act.put _ (some 46) _ = _;simp only [Act.put, sqA, sqB, sqC, i64_w, i32_w];rfl
  refine pst 11 (some 47) HT_ ?_;refine pst 12 (some 35) HT_ ?_;refine done_ (done_of HT_.out (by kernel_rfl)) ?_
  cases res
  all_goals
   go_wp2;go_ret;exact ⟨by rw [HF.out]; rfl, HB3.out.trans (hHeld.out.mono HB3.out.size)⟩
 ·have gx : decide (WOk x) = false := by simpa using hx
  rw [gx] at DG;have HF : Hid (askC M l x = 1) := hZ (by unfold askC; rw [if_neg hx]);generalize askC M l x = fin at *;obtain ⟨q, p⟩ := x;dsimp only at HB0 HX0;clear hN hr hall hx gx;go_enter Tryz.func67, Tryz.ntmps67
  go_wp2_with (go_at_call 35; (with_reducible refine (DG _).mono ?_); rintro e w1 ⟨rfl, hB1⟩; have HB1 := hZ (HB0.out.trans (hB1.mono HB0.out.size)); clear hB1)
  go_ret;exact ⟨by rw [HF.out]; rfl, HB1.out⟩
theorem lit157 (w : World) (x : S157) : Kd.C k157 (w.alloc (.cells #[.int .i64 x.f0, .int .i64 x.f1.f0, .int .i64 x.f1.f1, .int .i64 x.f2] 157)) (some ⟨w.heap.size, 0, none⟩) 1 [x] := by
 refine ⟨rfl, by simp, fun _ => ⟨_, rfl, fun j y hy => ?_⟩⟩;have hb := blk_new w (.cells #[.int .i64 x.f0, .int .i64 x.f1.f0, .int .i64 x.f1.f1, .int .i64 x.f2] 157)
 cases j with
 | zero =>
  simp only [List.getElem?_cons_zero, Option.some.injEq] at hy;subst hy;refine ⟨_, rfl, k157_mk _ _, fun i u hu => ?_⟩;rw [Nat.zero_mul, Nat.zero_add, addr_at, Nat.zero_add, blk_cell hb]
  match i, hu with
  | 0, h => exact h
  | 1, h => exact h
  | 2, h => exact h
  | 3, h => exact h
  | i + 4, h => simp at h
 | succ j => simp at hy
def EnterP (M : Int) (N : Nat) (base : Nat) (vL : Value) (l : List S157) (id : Int) (x : S85) (w : World) (e : Ending) (w' : World) : Prop :=
 e = .returned (.int .i64 (askC M l x)) /\ (askC M l x ≠ 0 -> Below w.heap.size w w') /\ (askC M l x = 0 -> ∃ v', w'.heap[N]? = some (.cells #[.int .i64 M, v', .slice none 0 0] 116 (0, 0)) /\ k157.R 157 w' base (fun _ => True) v' (l ++ [⟨id, x, -1⟩]) /\ Turn w w' (fun b => b = N \/ some b = vL.ownBlock) /\ (v'.ownBlock = vL.ownBlock \/ ∃ b, v'.ownBlock = some b /\ w.heap.size <= b))
theorem enter_calls (M : Int) (N base : Nat) (vL : Value) (l : List S157) (id : Int) (x : S85) (now : Int) (w : World) (hN : w.heap[N]? = some (.cells #[.int .i64 M, vL, .slice none 0 0] 116 (0, 0))) (hR : k157.R 157 w base (fun _ => True) vL l) (hne : vL.ownBlock ≠ some N) (hbase : base <= w.heap.size) (hlen : l.length <= 31) (hid : ∀ k (h : k < l.length), l[k].f0 ≠ id) (hall : ∀ k (h : k < l.length), WOk l[k].f1) (hm1 : 1 <= M) (hm2 : M <= 64) (hnow : 0 <= now) :
  Calls Tryz.prog 36 #[.pointer (some ⟨N, 0, none⟩), .int .i64 id, agg85 x, .int .i64 now] w fun e w' => EnterP M N base vL l id x w e w' := by
 obtain ⟨A, c, rfl, hcl, hr⟩ := Kd.R_reads hR;have DG := fun w => wgood_calls x w
 have HN := hZ hN;have HR := hZ hR;have gn : decide (now < 0) = false := by simpa using hnow
 have HB0 : Hid (Below w.heap.size w (w.alloc (.cells #[.int .i64 x.f0, .int .i64 x.f1] 85))) := hZ (below_alloc (Below.refl _ _) _);have HX0 : Hid ((w.alloc (.cells #[.int .i64 x.f0, .int .i64 x.f1] 85)).heap[w.heap.size]? = some (.cells #[.int .i64 x.f0, .int .i64 x.f1] 85 (0, 0))) := hZ (blk_new _ _);unfold EnterP;by_cases hx : WOk x
 ·have gx : decide (WOk x) = true := by simpa using hx
  rw [gx] at DG;have DF := fun wx (hb : Below w.heap.size w wx) => efind_calls M N A c l id wx ((hb.block N (blk_lt hN)).trans hN) (Kd.C_below hr hb) (by omega) hid
  have DA := fun wx (hb : Below w.heap.size w wx) => ask_calls M N A c l x now wx ((hb.block N (blk_lt hN)).trans hN) (Kd.C_below hr hb) hlen hall hm1 hm2 hnow
  have hask : askC M l x = 0 \/ askC M l x = 7 := by unfold askC; rw [if_pos hx]; split <;> simp
  generalize askC M l x = res at *;obtain ⟨q, p⟩ := x;dsimp only at HB0 HX0;have hNs := blk_lt hN;clear hN hr hall hx gx hR hid;go_enter Tryz.func36, Tryz.ntmps36
  go_upto_region 6 with (first
   | (go_at_call 35; (with_reducible refine (DG _).mono ?_); rintro e w1 ⟨rfl, hB1⟩; have HX1 := hZ (blk_below HX0.out hB1); have HB1 := hZ (HB0.out.trans (hB1.mono HB0.out.size)); clear hB1)
   | (go_at_call 66; (with_reducible refine (DF _ HB1.out).mono ?_); rintro e w2 ⟨rfl, hB2⟩; have HX2 := hZ (blk_below HX1.out hB2); have HB2 := hZ (HB1.out.trans (hB2.mono HB1.out.size)); have x0 := (blk_cell HX2.out 0).trans rfl; have x1 := (blk_cell HX2.out 1).trans rfl; clear hB2)
   | (go_at_call 67; (with_reducible refine (DA _ HB2.out).mono ?_); rintro e w3 ⟨rfl, hB3⟩; have HX3 := hZ (blk_below HX2.out hB3); have HB3 := hZ (HB2.out.trans (hB3.mono HB2.out.size)); clear hB3 x0 x1))
  rcases hask with rfl | rfl
  ·have HN3 := hZ ((HB3.out.block N hNs).trans HN.out);have x0 : w3.cell? ⟨w.heap.size, 0, none⟩ = some (.int .i64 q) := (blk_cell HX3.out 0).trans rfl;have x1 : w3.cell? ⟨w.heap.size, 1, none⟩ = some (.int .i64 p) := (blk_cell HX3.out 1).trans rfl;have x2 : w3.cell? ⟨N, 1, none⟩ = some (.slice A l.length c) := (blk_cell HN3.out 1).trans rfl;have HR3 : Hid (k157.R 157 w3.drew base (fun _ => True) (.slice A l.length c) l) := hZ (Kd.R_drew (Kd.R_below HR.out HB3.out));have hs3 : w.heap.size <= w3.heap.size := HB3.out.size
   go_upto_region 8 with fail
   refine start_ (n := 13) (S := fun w' => Hid (Below w3.heap.size w3 w')) (ds := [9, 12]) #[false, false, false, false, false, false, false, false, false, false, false, false, false] (by kernel_rfl) rfl rfl ((hZ (below_drew (Below.refl _ _)))) (fun hHeld => ?_);refine with_tabW bent.tab8 bent.bits8 (fun HT_ HW_ => ?_);have hbd := drB w3;have hsd : w3.heap.size = w3.drew.heap.size := rfl;generalize hwd : w3.drew = wd at *;clear hwd;refine pst 0 (some 30) HT_ ?_;refine pst 1 (some 31) HT_ ?_;refine pst 2 (some 32) HT_ ?_;refine pst 3 (some 33) HT_ ?_;refine pst 5 (some 35) HT_ ?_;refine tst 4 (some 34) HT_ HW_ hHeld ?_ (hy := by (intro w' s0; have e0 := (s0.out.cell (World.block_lt_of_cell? _ _ x0)).trans x0; have e1 := (s0.out.cell (World.block_lt_of_cell? _ _ x1)).trans x1; have e2 := (s0.out.cell (World.block_lt_of_cell? _ _ x2)).trans x2); go_simp; with_reducible rfl);refine tst 6 (some 36) HT_ HW_ hHeld ?_ (hy := by (intro w' s0; have e0 := (s0.out.cell (World.block_lt_of_cell? _ _ x0)).trans x0; have e1 := (s0.out.cell (World.block_lt_of_cell? _ _ x1)).trans x1; have e2 := (s0.out.cell (World.block_lt_of_cell? _ _ x2)).trans x2); go_simp; with_reducible rfl);refine pst 7 (some 37) HT_ ?_;refine one_ (i := 8) (N := some 38) #[true, true, true, true, true, true, true, true, true, false, false, false, false] rfl rfl (one_of HT_.out (by kernel_rfl)) (by decide) (fun K hK => ?_);refine value_ (w1 := ?_) (v := ?_) (by rfl) rfl ?_ ?_;rotate_left 2
   ·go_simp;constructor
    ·rfl
    ·rfl
   refine hK.out _ _ ((hZ (hHeld.out.trans ((below_alloc (Below.refl _ _) _).mono hHeld.out.size)))) (fun hHeld => ?_);clear hK K;refine norm_ (a' := ?_) ?_ ?_;rotate_left
   ·show Act.put _ (some 38) _ = _;simp only [Act.put, sqA, sqB, sqC, i64_w, i32_w];rfl
   refine last_ (i := 9) (N := some 39) #[true, true, true, true, true, true, true, true, true, true, false, false, false] rfl rfl (one_of HT_.out (by kernel_rfl)) (by decide) (fun K hK => ?_);refine Kd.R_append_rows_step k157 (Rr := k157.K (wd.alloc (.cells #[.int .i64 id, .int .i64 q, .int .i64 p, .int .i64 (-1)] 157))) (w0 := wd.alloc (.cells #[.int .i64 id, .int .i64 q, .int .i64 p, .int .i64 (-1)] 157)) base (by rfl) (.tmp 34) (.tmp 38) 114 157 (.agg #[.int .i64 0, .int .i64 0, .int .i64 0, .int .i64 0]) 32 rfl Tryz.underlying114 info157 rfl (by decide) (by omega) (.slice A l.length c) l [(⟨id, ⟨q, p⟩, -1⟩ : S157)] (some ⟨wd.heap.size, 0, none⟩) 1 1 (fun _ => True) (fun _ => False) (by rfl) (by rfl) (Kd.R_alloc HR3.out _) (lit157 wd ⟨id, ⟨q, p⟩, -1⟩) (fun x cs h => by obtain rfl := k157_open h; exact k157_mkM _ _ _ _) (fun _ h => h.elim) (fun _ _ => trivial) (Below.refl _ _) (by simp only [World.size_alloc]; omega) (by omega) ?_;intro v7 w7 hR7 hB7 hg7 hat7;obtain ⟨A7, c7, e7⟩ := Kd.R_slice hR7;generalize hn7 : (l ++ [(⟨id, ⟨q, p⟩, -1⟩ : S157)]).length = n7 at e7;subst e7;clear hn7;have HAT := hZ (hat7.imp (fun h => h) (fun ⟨b, h1, h2⟩ => (⟨b, h1, by simp only [World.size_alloc] at h2; omega⟩ : ∃ b, (Value.slice A7 n7 c7).ownBlock = some b /\ w3.heap.size <= b)));have HT7 := hZ (grown_turn hg7);have HN7 := hZ ((HT7.out.block N (by simp only [World.size_alloc]; omega) (fun e => hne e.symm)).trans ((hHeld.out.block N (by omega)).trans HN3.out));have HR7 := hZ hR7;have HBB := hZ hHeld.out;refine hK.out _ _ ?_;clear hK K;refine norm_ (a' := ?_) ?_ ?_;rotate_left
   ·show Act.put _ (some 39) _ = _;simp only [Act.put, sqA, sqB, sqC, i64_w, i32_w];rfl
   refine pst 10 (some 40) HT_ ?_;refine pst 11 (some 41) HT_ ?_;refine last_ (i := 12) (N := none) #[true, true, true, true, true, true, true, true, true, true, true, true, true] rfl rfl (one_of HT_.out (by kernel_rfl)) (by decide) (fun K hK => ?_);have y1 := (blk_cell HN7.out 1).trans rfl;have f1 := blk_frozen HN7.out 1;refine skip_ (w1 := ?_) (by rfl) rfl ?_ ?_;rotate_left
   ·go_simp;rfl
   have HX8 := hZ (blk_put (cs' := #[.int .i64 M, .slice A7 n7 c7, .slice none 0 0]) HN7.out 1 (.slice A7 n7 c7) rfl);have hne7 : (Value.slice A7 n7 c7).ownBlock ≠ some N := (fun e => by rcases HAT.out with h | ⟨b, h, hle⟩; rw [h] at e; exact hne e; rw [h] at e; injection e with e; omega);have HR8 : Hid (k157.R 157 (w7.setCell ⟨N, 1, none⟩ (.slice A7 n7 c7)) base (fun _ => True) (.slice A7 n7 c7) (l ++ [(⟨id, ⟨q, p⟩, -1⟩ : S157)])) := hZ (Kd.R_reok rfl (Kd.R_step (Kd.R_tight rfl HR7.out) (fun b hb hlt => blk_set_ne 1 (.slice A7 n7 c7) (fun e => hne7 (e ▸ hb.symm)))) (fun _ _ => trivial));have HT8 := hZ ((((Turn.of_below (fun b => b = N \/ some b = (Value.slice A l.length c).ownBlock) (HB3.out)).trans (Turn.of_below _ HBB.out)).trans (HT7.out.imp (fun b e => .inr e))).set (.inl rfl) 1 (.slice A7 n7 c7));clear y1 f1;generalize hws : World.setCell _ _ _ = w8 at *;clear hws;refine hK.out _ _ ?_;clear hK K;refine done_ (done_of HT_.out (by kernel_rfl)) ?_;go_wp2;go_ret;refine ⟨rfl, .slice A7 n7 c7, HX8.out, HR8.out, HT8.out, ?_⟩;rcases HAT.out with h | ⟨b, h, hle⟩
   ·exact .inl h
   ·exact .inr ⟨b, h, by omega⟩
  ·go_wp2;go_ret;exact ⟨rfl, fun _ => HB3.out, fun h => by omega⟩
 ·have gx : decide (WOk x) = false := by simpa using hx
  rw [gx] at DG;have HF : Hid (askC M l x = 1) := hZ (by unfold askC; rw [if_neg hx]);generalize askC M l x = fin at *;obtain ⟨q, p⟩ := x;dsimp only at HB0 HX0;clear hN hr hall hx gx hR;go_enter Tryz.func36, Tryz.ntmps36
  go_wp2_with (go_at_call 35; (with_reducible refine (DG _).mono ?_); rintro e w1 ⟨rfl, hB1⟩; have HB1 := hZ (HB0.out.trans (hB1.mono HB0.out.size)); clear hB1)
  go_ret;exact ⟨by rw [HF.out]; rfl, fun _ => HB1.out, fun h => by have := HF.out; omega⟩
theorem bnew_calls (M : Int) (w : World) (hm1 : 1 <= M) (hm2 : M <= 64) : Calls Tryz.prog 21 #[.int .i64 M] w fun e w' => e = .returned (.tuple #[.pointer (some ⟨w.heap.size, 0, none⟩), .int .i64 0]) /\ w'.heap[w.heap.size]? = some (.cells #[.int .i64 M, .slice none 0 0, .slice none 0 0] 116 (0, 0)) /\ Below w.heap.size w w' := by
 have g1 : decide (M < 1) = false := by simp; omega
 have g2 : decide (M > 64) = false := by simp; omega
 have h1 := blk_new w (.cells #[.int .i64 M, .slice none 0 0, .slice none 0 0] 116);have h2 := below_alloc (Below.refl w.heap.size w) (.cells #[.int .i64 M, .slice none 0 0, .slice none 0 0] 116);go_enter Tryz.func21, Tryz.ntmps21;go_wp2;go_ret2;exact ⟨rfl, h1, h2⟩
theorem bits_place : ∀ k : Nat, k < 32 -> Go.bits .and .i64 (k : Int) 255 = (k : Int) := by decide +kernel
theorem bits_make : ∀ k : Nat, k < 32 -> Go.bits .or .i64 0 (k : Int) % 4294967296 = (k : Int) := by decide +kernel
theorem nplace_calls (k : Nat) (w : World) (hk : k < 32) : Calls Tryz.prog 72 #[.int .u32 k] w fun e w' => e = .returned (.int .i64 k) /\ w = w' := by
 have hb := bits_place k hk;have hw : wrap64 (k : Int) = k := by unfold Go.RowKit.wrap64; omega
 go_enter Tryz.func72, Tryz.ntmps72;go_wp2;go_ret;exact ⟨by first | rfl | (simp; done) | (simp [*]; done), rfl⟩
theorem ngen_calls (k : Nat) (w : World) (hk : k < 32) : Calls Tryz.prog 73 #[.int .u32 k] w fun e w' => e = .returned (.int .i64 0) /\ w = w' := by
 have hw : wrap64 (k : Int) = k := by unfold Go.RowKit.wrap64; omega
 have hd : (k : Int) / 256 = 0 := by omega
 go_enter Tryz.func73, Tryz.ntmps73;go_wp2;go_ret;exact ⟨by first | rfl | (simp; done) | (simp [*]; done), rfl⟩
theorem nid_calls (k : Nat) (w : World) (hk : k < 32) : Calls Tryz.prog 42 #[.int .u32 k] w fun e w' => e = .returned (.int .i64 ((k : Int) + 1)) /\ w = w' := by
 have D := fun w => nplace_calls k w hk
 have hw : IntKind.i64.wrap ((k : Int) + 1) = (k : Int) + 1 := by rw [i64_w]; unfold Go.RowKit.wrap64; omega
 go_enter Tryz.func42, Tryz.ntmps42
 go_wp2_with (go_at_call 72; (with_reducible refine (D _).mono ?_); rintro e w1 ⟨rfl, rfl⟩)
 go_ret;exact ⟨rfl, rfl⟩
theorem nmake_calls (k : Nat) (w : World) (hk : k < 32) : Calls Tryz.prog 68 #[.int .i64 k, .int .i64 0] w fun e w' => e = .returned (.tuple #[.int .u32 k, .bool true]) /\ w = w' := by
 have g1 : decide ((k : Int) < 0) = false := by simp
 have g2 : decide ((k : Int) >= 256) = false := by simp; omega
 go_enter Tryz.func68, Tryz.ntmps68;go_wp2;go_ret2;exact ⟨congrArg (fun z => Ending.returned (.tuple #[.int .u32 z, .bool true])) (bits_make k hk), rfl⟩
def spotsL (n : Nat) : List (List Value) := (List.range 32).map fun k => [.int .i64 0, .bool (decide (k < n))]
theorem spotsL_len (n : Nat) : (spotsL n).length = 32 := by simp [spotsL]
theorem spotsL_get (n : Nat) {k : Nat} (hk : k < 32) {hh : k < (spotsL n).length} : (spotsL n)[k] = [.int .i64 0, .bool (decide (k < n))] := by simp [spotsL]
structure TabAt (w : World) (Nn Ns n : Nat) : Prop where
 T : w.heap[Nn]? = some (.cells #[.slice (some ⟨Ns, 0, none⟩) 32 32] 119 (0, 0))
 S : RowAt w Ns 0 2 159 (spotsL n)
 n32 : n < 32
theorem TabAt.below {w w' : World} {Nn Ns n : Nat} (h : TabAt w Nn Ns n) (hb : Below w.heap.size w w') : TabAt w' Nn Ns n := ⟨blk_below h.T hb, h.S.below hb, h.n32⟩
theorem TabAt.turn {w w' : World} {S : Nat -> Prop} {Nn Ns n : Nat} (h : TabAt w Nn Ns n) (ht : Turn w w' S) (h1 : ¬ S Nn) (h2 : ¬ S Ns) : TabAt w' Nn Ns n := ⟨(ht.block _ (blk_lt h.T) h1).trans h.T, h.S.turn ht h2, h.n32⟩
theorem TabAt.cells {w : World} {Nn Ns n : Nat} (h : TabAt w Nn Ns n) : w.cell? ⟨Nn, 0, none⟩ = some (.slice (some ⟨Ns, 0, none⟩) 32 32) /\ ∀ k, k < 32 -> w.cell? ⟨Ns, k * 2, none⟩ = some (.int .i64 0) /\ w.cell? ⟨Ns, k * 2 + 1, none⟩ = some (.bool (decide (k < n))) := by
 refine ⟨(blk_cell h.T 0).trans rfl, fun k hk => ?_⟩;have h1 := fun (j : Nat) (hj : j < 2) v hv => h.S.cell (i := k) (by rw [spotsL_len]; exact hk) (j := j) hj (v := v) hv
 have e := spotsL_get n hk (hh := by rw [spotsL_len]; exact hk);have a := h1 0 (by omega) (.int .i64 0) (by rw [e]; rfl);have b := h1 1 (by omega) (.bool (decide (k < n))) (by rw [e]; rfl);rw [Nat.zero_add] at a b;exact ⟨a, b⟩
theorem tat_calls (Nn Ns n k : Nat) (w : World) (h : TabAt w Nn Ns n) (hk : k < 32) : Calls Tryz.prog 65 #[.pointer (some ⟨Nn, 0, none⟩), .int .i64 k] w fun e w' => (∃ x : Int, e = .returned (.tuple #[.int .u32 x, .bool (decide (k < n))])) /\ w = w' := by
 obtain ⟨h0, h1⟩ := h.cells;obtain ⟨h2, h3⟩ := h1 k hk;have g1 : decide ((k : Int) < 0) = false := by simp
 have g2 : decide ((k : Int) >= 32) = false := by simp; omega
 have k0 : (0 : Int) <= (k : Int) := Int.natCast_nonneg k;have k1 : (k : Int) < 32 := by omega
 have D := fun w => nmake_calls k w hk
 clear h h1;by_cases hn : k < n
 ·have gn : decide (k < n) = true := by simpa using hn
  rw [gn] at h3 |-;clear gn hn hk;go_enter Tryz.func65, Tryz.ntmps65
  go_wp2_with (go_at_call 68; (with_reducible refine (D _).mono ?_); rintro e w1 ⟨rfl, rfl⟩)
  go_ret2;exact ⟨⟨_, rfl⟩, rfl⟩
 ·have gn : decide (k < n) = false := by simpa using hn
  rw [gn] at h3 |-;clear gn hn hk;go_enter Tryz.func65, Tryz.ntmps65;go_wp2;go_ret2;exact ⟨⟨_, rfl⟩, rfl⟩
theorem place_calls (Nn Ns n : Nat) (w : World) (h : TabAt w Nn Ns n) : Calls Tryz.prog 34 #[.pointer (some ⟨Nn, 0, none⟩), .int .i64 32] w fun e w' => e = .returned (.int .i64 n) /\ w = w' := by
 have H := hZ h;have hn := h.n32;clear h;go_enter Tryz.func34, Tryz.ntmps34;go_wp2
 go_loopw [9] (fun v9 wr => ∃ k : Nat, v9 = .int .i64 k /\ k <= n /\ wr = w) (fun v9 _ => n - (intOf v9).toNat)
 case atStart => exact ⟨0, rfl, Nat.zero_le _, rfl⟩
 case round =>
  obtain ⟨k, rfl, hk, rfl⟩ := hrel;have D := tat_calls Nn Ns n k wr H.out (by omega);have k1 : (k : Int) < 32 := by omega
  by_cases hlt : k < n
  ·have gn : decide (k < n) = true := by simpa using hlt
   rw [gn] at D
   go_wp2_with (go_at_call 65; (with_reducible refine D.mono ?_); rintro e w1 ⟨⟨x, rfl⟩, rfl⟩)
   go_roundw
   case rel => exact ⟨k + 1, by go_num, by omega, by first | rfl | trivial⟩
   case measure => simp [intOf]; omega
  ·have gn : decide (k < n) = false := by simpa using hlt
   rw [gn] at D;obtain rfl : k = n := by omega
   go_wp2_with (go_at_call 65; (with_reducible refine D.mono ?_); rintro e w1 ⟨⟨x, rfl⟩, rfl⟩)
   go_ret;exact ⟨rfl, rfl⟩
theorem spotsL_take {n : Nat} (hn : n < 32) : (spotsL n).set n ((spotsL n)[n]'(by rw [spotsL_len]; exact hn) |>.set 1 (.bool true)) = spotsL (n + 1) := by
 apply List.ext_getElem
 ·rw [List.length_set, spotsL_len, spotsL_len]
 ·intro k h1 h2;have hk : k < 32 := by rw [spotsL_len] at h2; exact h2
  rw [List.getElem_set];by_cases e : n = k
  ·subst e;rw [if_pos rfl, spotsL_get _ hk, spotsL_get (n + 1) hk];simp
  ·rw [if_neg e, spotsL_get _ hk, spotsL_get (n + 1) hk];have : (k < n + 1) ↔ (k < n) := by omega
   simp [this]
theorem take_calls (Nn Ns n : Nat) (w : World) (h : TabAt w Nn Ns n) (hn : n < 31) : Calls Tryz.prog 37 #[.pointer (some ⟨Nn, 0, none⟩)] w fun e w' => e = .returned (.tuple #[.int .u32 n, .int .i64 0]) /\ TabAt w' Nn Ns (n + 1) /\ Turn w w' (fun b => b = Ns) := by
 obtain ⟨h0, h1⟩ := h.cells;have H := hZ h;have H1 := hZ h1
 have hne : Nn ≠ Ns := by
  intro e;obtain ⟨_, pre, rest, _, hb⟩ := h.S;have := h.T;rw [e, hb] at this;injection this with this;injection this with _ this
  cases this
 have hfr := h.S.free;have D := fun w => nmake_calls n w (by omega)
 clear h h1;go_enter Tryz.func37, Tryz.ntmps37;go_wp2
 go_loopw [12] (fun v12 wr => ∃ k : Nat, v12 = .int .i64 k /\ k <= n /\ wr = w) (fun v12 _ => n - (intOf v12).toNat)
 case atStart => exact ⟨0, rfl, Nat.zero_le _, rfl⟩
 case round =>
  obtain ⟨k, rfl, hk, rfl⟩ := hrel;obtain ⟨h2, h3⟩ := H1.out k (by omega);have k0 : (0 : Int) <= (k : Int) := Int.natCast_nonneg k;have k1 : (k : Int) < 32 := by omega
  by_cases hlt : k < n
  ·have gn : decide (k < n) = true := by simpa using hlt
   rw [gn] at h3;go_wp2;go_roundw
   case rel => exact ⟨k + 1, by go_num, by omega, by first | rfl | trivial⟩
   case measure => simp [intOf]; omega
  ·have gn : decide (k < n) = false := by simpa using hlt
   rw [gn] at h3;obtain rfl : k = n := by omega
   have hset := H.out.S.set (i := k) (by rw [spotsL_len]; omega) (j := 1) (by omega) (.bool true);rw [Nat.zero_add, spotsL_take (by omega)] at hset;have hT : TabAt (wr.setCell ⟨Ns, k * 2 + 1, none⟩ (.bool true)) Nn Ns (k + 1) := ⟨(blk_set_ne _ _ hne).trans H.out.T, hset, by omega⟩;have hc := hT.cells;have q0 := hc.1;have q1 := (hc.2 k (by omega)).1;have hTu := (Turn.refl wr (fun b => b = Ns)).set rfl (k * 2 + 1) (.bool true);have HT := hZ hT;have HTu := hZ hTu;have f1 := hfr (k * 2 + 1);clear hset hT hc hTu
   go_wp2_with (go_at_call 68; (with_reducible refine (D _).mono ?_); rintro e w1 ⟨rfl, rfl⟩)
   go_ret2;exact ⟨rfl, HT.out, HTu.out⟩
theorem is_calls (Nn Ns n k : Nat) (w : World) (h : TabAt w Nn Ns n) (hk : k < n) : Calls Tryz.prog 41 #[.pointer (some ⟨Nn, 0, none⟩), .int .u32 k] w fun e w' => e = .returned (.int .i64 0) /\ Below w.heap.size w w' := by
 obtain ⟨h0, h1⟩ := h.cells;have h32 := h.n32;obtain ⟨h2, h3⟩ := h1 k (by omega);have gn : decide (k < n) = true := by simpa using hk
 rw [gn] at h3;have P := fun w => nplace_calls k w (by omega)
 have G := fun w => ngen_calls k w (by omega)
 have g1 : decide ((32 : Int) <= (k : Int)) = false := by simp; omega
 have g2 : decide ((k : Int) >= 32) = false := by simp; omega
 have k0 : (0 : Int) <= (k : Int) := Int.natCast_nonneg k;have k1 : (k : Int) < 32 := by omega
 have hts := blk_lt h.T;have hss := h.S.lt;clear h h1 gn hk h32;go_enter Tryz.func41, Tryz.ntmps41;go_wp2;go_quiet ((go_at_call 72; exact Calls.quiet_of_same ((P _).mono fun e w' ⟨h1, h2⟩ => ⟨h1, h2.symm⟩)));go_wp2;obtain ⟨w2, hw2⟩ : ∃ w2, w2 = w.drewN nq := ⟨_, rfl⟩;rw [<- hw2];have hc2 : w2.cell? ⟨Nn, 0, none⟩ = some (.slice (some ⟨Ns, 0, none⟩) 32 32) := by rw [hw2]; exact h0
 have hcg2 : w2.cell? ⟨Ns, k * 2, none⟩ = some (.int .i64 0) := by rw [hw2]; exact h2
 have hct2 : w2.cell? ⟨Ns, k * 2 + 1, none⟩ = some (.bool true) := by rw [hw2]; exact h3
 have n1 : w2.heap.size ≠ Nn := by rw [hw2]; simp; omega
 have n2 : w2.heap.size ≠ Ns := by rw [hw2]; simp; omega
 have B2 := Aside0.mk (show Below w.heap.size w w2 from by rw [hw2]; exact ⟨rfl, rfl, rfl, Nat.le_refl _, fun _ _ => rfl⟩);have Z2 := Aside0.mk (show w2.heap.size = w.heap.size from by rw [hw2]; rfl);clear hw2 hts hss h0 h2 h3;go_region_held3 (fun w' => w'.cell? ⟨Nn, 0, none⟩ = some (.slice (some ⟨Ns, 0, none⟩) 32 32) /\ w'.cell? ⟨Ns, k * 2, none⟩ = some (.int .i64 0) /\ w'.cell? ⟨Ns, k * 2 + 1, none⟩ = some (.bool true)) (go_keep) ((first | (go_at_call 72; refine (P _).mono ?_; rintro e w' ⟨rfl, rfl⟩)))
 all_goals
  go_wp2;generalize hw3 : World.drew _ = w3;have hg3 : w3.cell? ⟨w2.heap.size, 0, none⟩ = some (.int .i64 0) := by rw [<- hw3]; simp
  have ht3 : w3.cell? ⟨w2.heap.size, 1, none⟩ = some (.bool true) := by rw [<- hw3]; simp
  have B3 := Aside0.mk (show Below w.heap.size w w3 from by rw [<- hw3]; exact (B2.out.alloc (by rw [Z2.out]; exact Nat.le_refl _) _).trans ⟨rfl, rfl, rfl, Nat.le_refl _, fun _ _ => rfl⟩);clear hw3 hc2 hcg2 hct2;go_quiet ((go_at_call 73; exact Calls.quiet_of_same ((G _).mono fun e w' ⟨h1, h2⟩ => ⟨h1, h2.symm⟩)));go_wp2;obtain ⟨w4, hw4⟩ : ∃ w4, w4 = w3.drewN nq := ⟨_, rfl⟩;rw [<- hw4];have hg4 : w4.cell? ⟨w2.heap.size, 0, none⟩ = some (.int .i64 0) := by rw [hw4]; exact hg3
  have ht4 : w4.cell? ⟨w2.heap.size, 1, none⟩ = some (.bool true) := by rw [hw4]; exact ht3
  have B4 := Aside0.mk (show Below w.heap.size w w4 from by rw [hw4]; exact B3.out.trans ⟨rfl, rfl, rfl, Nat.le_refl _, fun _ _ => rfl⟩);clear hw4 hg3 ht3 B3;go_quiet ((go_at_call 73; exact Calls.quiet_of_same ((G _).mono fun e w' ⟨h1, h2⟩ => ⟨h1, h2.symm⟩)));go_wp2;go_ret;exact ⟨rfl, B4.out.trans ⟨rfl, rfl, rfl, Nat.le_refl _, fun _ _ => rfl⟩⟩
theorem info159 : (Tryz.prog.info? 159).map (fun i => (i.zero, i.size, i.bytes)) = some (some (.agg #[.int .i64 0, .bool false]), 2, 16) := by kernel_rfl
theorem made159 (n : Int) (h0 : 0 <= n) (hn : n <= 256) (w : World) : (Instr.makeSlice 117 (.int .i64 n) (.int .i64 n)).run Tryz.prog w = .ok (.slice (some ⟨w.heap.size, 0, none⟩) n.toNat n.toNat) (w.alloc (.cells (madeCells #[.int .i64 0, .bool false] (n.toNat * 2)) 159)) := by
 obtain ⟨i0, hi, hz0, hz1, hz2⟩ := info_parts info159;have := run_make (P := Tryz.prog) w 117 159 i0 (.agg #[.int .i64 0, .bool false]) Tryz.underlying117 hi hz0 .i64 .i64 n n h0 (Int.le_refl _) (by rw [hz2]; omega) (by omega);rw [this, hz1];rfl
theorem inew_calls (m : Nat) (w : World) (h1 : 1 <= m) (h2 : m <= 256) : Calls Tryz.prog 22 #[.int .i64 m] w fun e w' => e = .returned (.pointer (some ⟨w.heap.size + 1, 0, none⟩)) /\ w' = (w.alloc (.cells (madeCells #[.int .i64 0, .bool false] (m * 2)) 159)).alloc (.cells #[.slice (some ⟨w.heap.size, 0, none⟩) m m] 119) := by
 have hm := fun w => made159 m (by omega) (by omega) w
 simp only [Int.toNat_natCast] at hm;have g1 : ¬ (1 : Int) > (m : Int) := by omega
 have g2 : ¬ (256 : Int) < (m : Int) := by omega
 go_enter Tryz.func22, Tryz.ntmps22;go_wp2;go_ret;exact ⟨rfl, rfl⟩
theorem spots_zero : madeCells #[.int .i64 0, .bool false] 64 = ((spotsL 0).flatten).toArray := by kernel_rfl
theorem tab_new (w : World) : TabAt ((w.alloc (.cells (madeCells #[.int .i64 0, .bool false] (32 * 2)) 159)).alloc (.cells #[.slice (some ⟨w.heap.size, 0, none⟩) 32 32] 119)) (w.heap.size + 1) w.heap.size 0 := by
 have h := two_blocks (w := w) (x := madeCells #[.int .i64 0, .bool false] (32 * 2)) (y := #[.slice (some ⟨w.heap.size, 0, none⟩) 32 32]) (tx := 159) (ty := 119) (Below.refl _ _);refine ⟨h.2.1, ⟨fun x hx => ?_, [], [], rfl, ?_⟩, by omega⟩
 ·obtain ⟨k, hk, rfl⟩ := List.mem_iff_getElem.1 hx;rw [spotsL_get 0 (by rw [spotsL_len] at hk; exact hk)];rfl
 ·rw [h.1, spots_zero, List.nil_append, List.append_nil]
theorem fault_calls (s : Value) (hs : ∃ b, s = .string b) (id e : Int) (w : World) (he : e ≠ 0) : Calls Tryz.prog 20 #[s, .int .i64 id, .int .i64 e] w fun r w' => (∃ p, r = .returned (.iface 111 p)) /\ Below w.heap.size w w' := by
 obtain ⟨b, rfl⟩ := hs;have g : (e == 0) = false := by simpa using he
 have hb := fun o => below_alloc (Below.refl w.heap.size w) o
 go_enter Tryz.func20, Tryz.ntmps20;go_wp2;go_ret;exact ⟨⟨_, rfl⟩, hb _⟩
def moddB (x : Int) : Bool := decide (x < 1 \/ 1048576 < x)
theorem modd_calls (x : Int) (w : World) : Calls Tryz.prog 39 #[.int .i64 x] w fun e w' => e = .returned (.bool (moddB x)) /\ w = w' := by
 unfold moddB;by_cases h1 : x < 1
 ·have g1 : decide (x < 1) = true := by simpa using h1
  have e : decide (x < 1 \/ 1048576 < x) = true := by simp [h1]
  rw [e];clear h1 e;go_enter Tryz.func39, Tryz.ntmps39;go_wp2;go_ret;exact ⟨rfl, rfl⟩
 ·have g1 : decide (x < 1) = false := by simpa using h1
  have e : decide (x < 1 \/ 1048576 < x) = decide (x > 1048576) := by simp [h1]
  rw [e];clear h1 e;go_enter Tryz.func39, Tryz.ntmps39;go_wp2;go_ret;exact ⟨rfl, rfl⟩
theorem mindex_calls (A : Option Addr) (c : Nat) (l : List Int) (w : World) (hr : (Kd.int .i64).C w A l.length l) (hlen : l.length <= 8) :
  Calls Tryz.prog 71 #[.slice A l.length c, .func (.func 39) #[] #[]] w fun e w' => (∃ r : Int, e = .returned (.int .i64 r) /\ (decide (r >= 0) = l.any moddB)) /\ w = w' := by
 have HR := hZ hr;clear hr;go_enter Tryz.func71, Tryz.ntmps71;go_wp2
 go_loopw [8] (fun v8 wr => ∃ k : Nat, v8 = .int .i64 k /\ k <= l.length /\ (∀ j (h : j < l.length), j < k -> moddB l[j] = false) /\ wr = w) (fun v8 _ => l.length - (intOf v8).toNat)
 case atStart => exact ⟨0, rfl, Nat.zero_le _, fun j _ h => by omega, rfl⟩
 case round =>
  obtain ⟨k, rfl, hk, hall, rfl⟩ := hrel;have HA := hZ hall;clear hall;by_cases hlt : k < l.length
  ·obtain ⟨ad, rfl, h0⟩ := int_at HR.out hlt;have D := fun w => modd_calls l[k] w
   have k0 : (0 : Int) <= (k : Int) := Int.natCast_nonneg k;have k1 : (k : Int) < (l.length : Int) := by omega
   cases hm : moddB l[k] with
   | true =>
    rw [hm] at D;have HM := hZ hm;clear hm
    go_wp2_with (go_at_call 39; (with_reducible refine (D _).mono ?_); rintro e w' ⟨rfl, rfl⟩)
    go_ret;have : l.any moddB = true := List.any_eq_true.2 ⟨l[k], List.getElem_mem hlt, HM.out⟩;rw [this];simp
   | false =>
    rw [hm] at D;have HM := hZ hm;clear hm
    go_wp2_with (go_at_call 39; (with_reducible refine (D _).mono ?_); rintro e w' ⟨rfl, rfl⟩)
    go_roundw
    case rel => exact ⟨k + 1, by go_num, by omega, fun j h hj => by
     rcases Nat.lt_or_ge j k with h2 | h2
     ·exact HA.out j h h2
     ·have : j = k := by omega
      subst this;exact HM.out, by first | rfl | trivial⟩
    case measure => simp [intOf]; omega
  ·obtain rfl : k = l.length := by omega
   go_wp2;go_ret
   have : l.any moddB = false := by
    rw [List.any_eq_false];intro x hx;obtain ⟨j, hj, rfl⟩ := List.mem_iff_getElem.1 hx;rw [HA.out j hj hj];simp
   rw [this];exact ⟨⟨_, rfl, rfl⟩, rfl⟩
theorem mcontains_calls (A : Option Addr) (c : Nat) (l : List Int) (w : World) (hr : (Kd.int .i64).C w A l.length l) (hlen : l.length <= 8) :
  Calls Tryz.prog 40 #[.slice A l.length c, .func (.func 39) #[] #[]] w fun e w' => e = .returned (.bool (l.any moddB)) /\ w = w' := by
 have D := mindex_calls A c l w hr hlen;clear hr;go_enter Tryz.func40, Tryz.ntmps40
 go_wp2_with (go_at_call 71; (with_reducible refine D.mono ?_); rintro e w' ⟨⟨r, rfl, hr⟩, rfl⟩; have HR := hZ hr; clear hr)
 go_ret;exact ⟨by rw [<- HR.out]; rfl, rfl⟩
def lockOf (x : Int) : S63 := ⟨x, 0, [], false⟩
def noRef : Nat -> Ref := fun _ => (none, 0)
def newB (n : Nat) : Bd := ⟨n, fun _ => False, fun _ h => h.elim⟩
theorem own_new {w : World} {base : Nat} {v : Value} {ms : List Int} (h : (Kd.raw 4).R 63 w base (fun _ => True) v (rowsOf lockRow (ms.map lockOf) noRef)) (hm : ms.length <= 8) (n : Nat) (hn : n <= base) (hb : base <= w.heap.size) : ∃ A2 c2, v = .slice A2 (ms.map lockOf).length c2 /\ Own w (newB n) [] (ms.map lockOf) ⟨none, 0, A2, c2, noRef, noRef⟩ /\ ∀ b, A2.map (·.block) = some b -> base <= b := by
 obtain ⟨A2, c2, e, hc, hC⟩ := Kd.R_reads h;rw [rowsOf_len] at e hc;have hbase := Kd.R_base h;have hlt := Kd.R_lt h;subst e
 have hown : ∀ c b, (⟨none, 0, A2, c2, noRef, noRef⟩ : OwnR).own c = some b -> c = .h /\ A2.map (·.block) = some b := by
  intro c b hb
  cases c with
  | g => simp [OwnR.own] at hb
  | h => exact ⟨rfl, hb⟩
  | j k => simp [OwnR.own, ob, noRef] at hb
  | q k => simp [OwnR.own, ob, noRef] at hb
 have hA : ∀ b, A2.map (·.block) = some b -> base <= b /\ b < w.heap.size := fun b hb => ⟨hbase b (ownB_map hb), hlt b (ownB_map hb)⟩
 refine ⟨A2, c2, rfl, ⟨⟨by simp, by simp; omega⟩, ⟨by simp, hc⟩, fun h => absurd rfl h, fun hq => ?_, fun i hi => absurd hi (by simp), fun i hi => ?_, fun c d b hc hd => ?_, fun c b hc => ?_, by show n <= _; omega⟩, fun b hb => (hA b hb).1⟩
 ·obtain ⟨g, cap, e, _, _, _, _, hr⟩ := row_of_R h (by rw [rowsOf_len]; exact List.length_pos_iff.2 hq);injection e with e1 e2 e3;exact ⟨g, e1, hr⟩
 ·have hi2 : i < ms.length := by simpa using hi
  have e : (ms.map lockOf)[i].f2 = [] := by rw [List.getElem_map]; rfl
  rw [e];exact ⟨Nat.zero_le _, fun W' _ => C_nil' _ _ _⟩
 ·rw [(hown c b hc).1, (hown d b hd).1]
 ·have := hA b (hown c b hc).2;exact ⟨by show n <= b; omega, this.2⟩
def newB_ok (m : Int) (ms : List Int) : Bool := !(decide (m < 1) || decide (64 < m) || decide (8 < ms.length) || ms.any moddB)
def NewP (m : Int) (ms : List Int) (w : World) (e : Ending) (w' : World) : Prop :=
 if newB_ok m ms then ∃ A2 c2, e = .returned (.tuple #[stV m 0 none 0 0 A2 (ms.map lockOf).length c2 none 0, .int .i64 0]) /\ Own w' (newB w.heap.size) [] (ms.map lockOf) ⟨none, 0, A2, c2, noRef, noRef⟩ /\ Below w.heap.size w w'
 else e = .returned (.tuple #[.agg #[.int .i64 0, .int .i64 0, .slice none 0 0, .slice none 0 0, .slice none 0 0], .int .i64 1]) /\ Below w.heap.size w w'
theorem mnew_calls (m : Int) (A : Option Addr) (c : Nat) (ms : List Int) (w : World) (hr : (Kd.int .i64).C w A ms.length ms) (hm1 : 1 <= m) (hm2 : m <= 64) (hlen : ms.length <= 8) :
  Calls Tryz.prog 19 #[.int .i64 m, .slice A ms.length c] w fun e w' => NewP m ms w e w' := by
 have g1 : decide (m < 1) = false := by simp; omega
 have g2 : decide (m > 64) = false := by simp; omega
 have g3 : decide ((ms.length : Int) > 8) = false := by simp; omega
 have HR := hZ hr;have DC := fun wx (hb : Below w.heap.size w wx) => mcontains_calls A c ms wx (Kd.C_below hr hb) hlen
 have HB0 : Hid (Below w.heap.size w (w.alloc (.cells #[.int .i64 0, .int .i64 0, .slice none 0 0, .slice none 0 0, .slice none 0 0] 47))) := hZ (below_alloc (Below.refl _ _) _);have HZ0 : Hid ((w.alloc (.cells #[.int .i64 0, .int .i64 0, .slice none 0 0, .slice none 0 0, .slice none 0 0] 47)).heap[w.heap.size]? = some (.cells #[.int .i64 0, .int .i64 0, .slice none 0 0, .slice none 0 0, .slice none 0 0] 47 (0, 0))) := hZ (blk_new _ _)
 have hok : newB_ok m ms = !ms.any moddB := by
  unfold newB_ok;simp [show ¬ m < 1 by omega, show ¬ 64 < m by omega, show ¬ 8 < ms.length by omega]
 unfold NewP;rw [hok];clear hok hr
 cases hodd : ms.any moddB with
 | true =>
  rw [hodd] at DC;have z0 := (blk_cell HZ0.out 0).trans rfl;have z1 := (blk_cell HZ0.out 1).trans rfl;have z2 := (blk_cell HZ0.out 2).trans rfl;have z3 := (blk_cell HZ0.out 3).trans rfl;have z4 := (blk_cell HZ0.out 4).trans rfl;have f0 := blk_frozen HZ0.out 0;have f1 := blk_frozen HZ0.out 1;have f2 := blk_frozen HZ0.out 2;have f3 := blk_frozen HZ0.out 3;have f4 := blk_frozen HZ0.out 4;clear hodd;go_enter Tryz.func19, Tryz.ntmps19
  go_wp2_with (go_at_call 40; (with_reducible refine (DC _ HB0.out).mono ?_); rintro e w' ⟨rfl, rfl⟩)
  refine bodyPost_ret (results_ct rfl _ _ w.heap.size 47 #[.int .i64 0, .int .i64 0, .slice none 0 0, .slice none 0 0, .slice none 0 0] (0, 0) _ rfl HZ0.out Tryz.underlying47 rfl (by kernel_rfl)) rfl ?_;exact ⟨rfl, HB0.out⟩
 | false =>
  rw [hodd] at DC;clear hodd;go_enter Tryz.func19, Tryz.ntmps19
  go_wp2_with (go_at_call 40; (with_reducible refine (DC _ HB0.out).mono ?_); rintro e w' ⟨rfl, rfl⟩)
  have h2 := two_blocks (w := w) (x := #[.int .i64 0, .int .i64 0, .slice none 0 0, .slice none 0 0, .slice none 0 0]) (y := #[.int .i64 m, .int .i64 0, .slice none 0 0, .slice none 0 0, .slice none 0 0]) (tx := 47) (ty := 47) (Below.refl _ _);have HZ1 := hZ h2.1;have HX1 := hZ h2.2.1;have HB1 : Hid (Below w.heap.size w ((w.alloc (.cells #[.int .i64 0, .int .i64 0, .slice none 0 0, .slice none 0 0, .slice none 0 0] 47)).alloc (.cells #[.int .i64 m, .int .i64 0, .slice none 0 0, .slice none 0 0, .slice none 0 0] 47))) := hZ (below_alloc (below_alloc (Below.refl _ _) _) _);have hs1 : w.heap.size + 2 = ((w.alloc (.cells #[.int .i64 0, .int .i64 0, .slice none 0 0, .slice none 0 0, .slice none 0 0] 47)).alloc (.cells #[.int .i64 m, .int .i64 0, .slice none 0 0, .slice none 0 0, .slice none 0 0] 47)).heap.size := by simp
  clear h2 HZ0 HB0 DC;generalize hw1 : (w.alloc (.cells #[.int .i64 0, .int .i64 0, .slice none 0 0, .slice none 0 0, .slice none 0 0] 47)).alloc (.cells #[.int .i64 m, .int .i64 0, .slice none 0 0, .slice none 0 0, .slice none 0 0] 47) = w1 at *;clear hw1
  go_loopw [31] (fun v31 wr => ∃ (k : Nat) (A4 : Option Addr) (c4 : Nat), v31 = .int .i64 k /\ k <= ms.length /\ Hid (wr.heap[w.heap.size]? = some (.cells #[.int .i64 0, .int .i64 0, .slice none 0 0, .slice none 0 0, .slice none 0 0] 47 (0, 0))) /\ Hid (wr.heap[w.heap.size + 1]? = some (.cells #[.int .i64 m, .int .i64 0, .slice none 0 0, .slice A4 k c4, .slice none 0 0] 47 (0, 0))) /\ Hid ((Kd.raw 4).R 63 wr w1.heap.size (fun _ => True) (.slice A4 k c4) (rowsOf lockRow ((ms.take k).map lockOf) noRef)) /\ Hid (Below w.heap.size w wr) /\ w1.heap.size <= wr.heap.size) (fun v31 _ => ms.length - (intOf v31).toNat)
  case atStart => exact ⟨0, none, 0, rfl, Nat.zero_le _, HZ1, HX1, hZ (Kd.R_nil _ _ _ _ _), HB1, Nat.le_refl _⟩
  case round =>
   clear HZ1 HX1 HB1;obtain ⟨k, A4, c4, rfl, hk, HZ, HX, HRR, HB, hsw⟩ := hrel;by_cases hlt : k < ms.length
   ·obtain ⟨ad, rfl, h0⟩ := int_at (Kd.C_below HR.out HB.out) hlt
    have HTK : Hid (rowsOf lockRow ((ms.take (k + 1)).map lockOf) noRef = rowsOf lockRow ((ms.take k).map lockOf) noRef ++ [[.int .i64 ms[k], .int .i64 0, .slice none 0 0, .bool false]]) := hZ (by
     rw [List.take_succ_eq_append_getElem hlt, List.map_append];unfold rowsOf;rw [List.mapIdx_append];rfl)
    have hlr : (rowsOf lockRow ((ms.take k).map lockOf) noRef).length <= 8 := by rw [rowsOf_len, List.length_map, List.length_take]; omega
    have hrk : (rowsOf lockRow ((ms.take k).map lockOf) noRef).length = k := by rw [rowsOf_len, List.length_map, List.length_take]; omega
    have x3 := (blk_cell HX.out 3).trans rfl;have k0 : (0 : Int) <= (k : Int) := Int.natCast_nonneg k;have k1 : (k : Int) < (ms.length : Int) := by omega
    have HRK := hZ hrk;generalize rowsOf lockRow ((ms.take k).map lockOf) noRef = rows at *;clear hrk;generalize ms[k] = x at *
    go_upto_region 9 with ((with_reducible refine gate_builtin (b := .append) (xs := #[.tmp 36, .tmp 39]) rfl ?_); at_builtin; refine Kd.R_append (Kd.raw 4) (w0 := wr) w1.heap.size rfl (.tmp 36) (.tmp 39) 44 63 (.agg #[.int .i64 0, .int .i64 0, .slice none 0 0, .bool false]) 48 rfl Tryz.underlying44 info63 rfl (by decide) (by omega) _ rows [.int .i64 x, .int .i64 0, .slice none 0 0, .bool false] [.int .i64 x, .int .i64 0, .slice none 0 0, .bool false] (fun _ => True) (fun _ => False) rfl (by first | (go_simp; done) | (go_simp; rfl)) ?aP (fun _ hk => hk.elim) ?aF ?aO ?aB ?aS ?aL ?_; (case aP => exact ⟨rfl, rfl, fun u hu => by simp only [List.mem_cons, List.not_mem_nil, or_false] at hu; rcases hu with rfl | rfl | rfl | rfl <;> rfl⟩); (case aF => exact (fun _ _ => trivial)); (case aO => exact HRR.out); (case aB => exact Below.refl _ _); (case aS => exact hsw); (case aL => omega); intro v5 w5 hR5 hB5 hg5 hat5; obtain ⟨A5, c5, e5, _, _⟩ := Kd.R_reads hR5; have e6 : (rows ++ [([.int .i64 x, .int .i64 0, .slice none 0 0, .bool false] : List Value)]).length = k + 1 := (by rw [List.length_append, HRK.out]; rfl); rw [e6] at e5; subst e5; have HR5 := hZ hR5; have HT5 := hZ (grown_turn hg5); have HX5 := hZ ((HT5.out.block _ (blk_lt HX.out) (fun e => by have := Kd.R_base HRR.out _ e.symm; omega)).trans HX.out); have HZ5 := hZ ((HT5.out.block _ (blk_lt HZ.out) (fun e => by have := Kd.R_base HRR.out _ e.symm; omega)).trans HZ.out); have x5 := (blk_cell HX5.out 3).trans rfl; have f5 := blk_frozen HX5.out 3; clear hR5 hB5 hg5 hat5 x3)
    have HX6 := hZ (blk_put (cs' := #[.int .i64 m, .int .i64 0, .slice none 0 0, .slice A5 (k + 1) c5, .slice none 0 0]) HX5.out 3 (.slice A5 (k + 1) c5) rfl);have HT6 := hZ ((Turn.refl w5 (fun b => b = w.heap.size + 1)).set rfl 3 (.slice A5 (k + 1) c5));generalize hws : World.setCell _ _ _ = w6 at *;clear hws x5 f5;have HZ6 := hZ ((HT6.out.block _ (blk_lt HZ5.out) (by omega)).trans HZ5.out);have HR6 : Hid ((Kd.raw 4).R 63 w6 w1.heap.size (fun _ => True) (.slice A5 (k + 1) c5) (rows ++ [[.int .i64 x, .int .i64 0, .slice none 0 0, .bool false]])) := hZ (Kd.R_reok rfl (Kd.R_step (Kd.R_tight rfl HR5.out) (fun b hb hlt2 => HT6.out.block b hlt2 (fun e => by have := Kd.R_base HR5.out b hb.symm; omega))) (fun _ _ => trivial));have HB6 : Hid (Below w.heap.size w w6) := hZ (Turn.below (Turn.below HB.out HT5.out (fun b e => by have := Kd.R_base HRR.out b e.symm; omega) HB.out.size) HT6.out (fun b e => by omega) (by have := HT5.out.size; have := HB.out.size; omega));have hs6 : w1.heap.size <= w6.heap.size := by have := HT5.out.size; have := HT6.out.size; omega
    clear HZ HX HRR HB hsw HT5 HT6 HR5 HX5 HZ5;go_wp2;go_roundw
    case rel => exact ⟨k + 1, A5, c5, by go_num, by omega, HZ6, HX6, hZ (by rw [HTK.out]; exact HR6.out), HB6, hs6⟩
    case measure => simp [intOf]; omega
   ·obtain rfl : k = ms.length := by omega
    rw [List.take_length] at HRR;have x0 := (blk_cell HX.out 0).trans rfl;have x1 := (blk_cell HX.out 1).trans rfl;have x2 := (blk_cell HX.out 2).trans rfl;have x3 := (blk_cell HX.out 3).trans rfl;have x4 := (blk_cell HX.out 4).trans rfl;have z0 := (blk_cell HZ.out 0).trans rfl;have z1 := (blk_cell HZ.out 1).trans rfl;have z2 := (blk_cell HZ.out 2).trans rfl;have z3 := (blk_cell HZ.out 3).trans rfl;have z4 := (blk_cell HZ.out 4).trans rfl;have f0 := blk_frozen HZ.out 0;have f1 := blk_frozen HZ.out 1;have f2 := blk_frozen HZ.out 2;have f3 := blk_frozen HZ.out 3;have f4 := blk_frozen HZ.out 4;have HZ5 := hZ (blk_put (cs' := stX m 0 none 0 0 A4 ms.length c4 none 0) (blk_put (blk_put (blk_put (blk_put HZ.out 0 (.int .i64 m) rfl) 1 (.int .i64 0) rfl) 2 (.slice none 0 0) rfl) 3 (.slice A4 ms.length c4) rfl) 4 (.slice none 0 0) rfl);have HT5 := hZ (((((Turn.refl wr (fun b => b = w.heap.size)).set rfl 0 (.int .i64 m)).set rfl 1 (.int .i64 0)).set rfl 2 (.slice none 0 0)).set rfl 3 (.slice A4 ms.length c4)).set rfl 4 (.slice none 0 0);go_wp2;refine bodyPost_ret (results_ct rfl _ _ w.heap.size 47 (stX m 0 none 0 0 A4 ms.length c4 none 0) (0, 0) _ rfl HZ5.out Tryz.underlying47 rfl (by kernel_rfl)) rfl ?_;generalize hwf : World.setCell _ _ _ = wf at *;have ht := HT5;have hbw := HB.out.size;have hr5 : (Kd.raw 4).R 63 wf w1.heap.size (fun _ => True) (.slice A4 ms.length c4) (rowsOf lockRow (ms.map lockOf) noRef) := Kd.R_reok rfl (Kd.R_step (Kd.R_tight rfl HRR.out) (fun b hb hlt2 => ht.block b hlt2 (fun e => by have := Kd.R_base HRR.out b hb.symm; omega))) (fun _ _ => trivial);obtain ⟨A5, c5, e5, hO, hA⟩ := own_new hr5 hlen w.heap.size (by omega) (by have := ht.size; omega);injection e5 with e5 e6 e7;subst e5 e7;exact ⟨A4, c4, by first | rfl | (rw [List.length_map]; rfl), hO, Turn.below HB.out ht (fun b e => by omega) hbw⟩
end Go.Proofs.YtfimkmlgnmaopaaGreat.Top
