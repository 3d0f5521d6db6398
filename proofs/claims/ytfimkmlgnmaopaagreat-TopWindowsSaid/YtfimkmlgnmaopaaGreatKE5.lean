/- Part 5 of what is proved of the functions that the law reaches (contracts of functions, plain laws): no condition but those that each theorem names. -/
import Derived.Test.YtfimkmlgnmaopaaGreatKE4
set_option maxHeartbeats 40000000
set_option maxRecDepth 100000
namespace Go.Proofs.YtfimkmlgnmaopaaGreat.Top
open Go.RowKit Go.Proofs.YtfimkmlgnmaopaaGreatW.PrintWords Go.Proofs.YtfimkmlgnmaopaaGreatW.PrintLast Go.Proofs.YtfimkmlgnmaopaaGreatW.PrintMore Go.Proofs.YtfimkmlgnmaopaaGreat.PTopNames
set_option linter.unusedVariables false
set_option linter.unusedSimpArgs false
theorem Own.job2 {w w' : World} {B : Bd} {l : List S57} {q : List S63} {o : OwnR} {i : Nat} (h : Own w B l q o) (hi : i < l.length) {j j' : S125} {js : List S125} (hx : l[i].f2 = j :: js) {b oo : Nat} {rr : Nat -> Ref} (hb : (o.r i).1 = some ⟨b, oo, none⟩) (hp : Progs w B (j :: js) rr) {p0 : Ref} (hp0 : j'.f1.length <= p0.2 /\ Kd.F k72 w B.G p0.1 j'.f1.length j'.f1) (ht : Turn w w' (fun k => k = b)) (hr : RowAt w' b oo 4 125 ((rowsOf jobRow (j :: js) rr).set 0 (jobRow j' p0))) : Own w' B (l.set i { l[i] with f2 := j' :: js }) q o := by
 have hbo : o.own (.j i) = some b := by show ob (o.r i) = _; rw [ob, hb]; rfl
 have hbB := (h.bnd _ b hbo).1;have hne : ∀ c b2, c ≠ .j i -> o.own c = some b2 -> b2 ≠ b := fun c b2 hc hb2 e => hc (h.apart c (.j i) b2 hb2 (by rw [e]; exact hbo))
 refine ⟨by rw [List.length_set]; exact h.max, by rw [List.length_set]; exact h.cap, fun hl => ?_, fun hq => ?_, fun k hk => ?_, fun k hk => ?_, h.apart, fun c b hb => ⟨(h.bnd c b hb).1, Nat.lt_of_lt_of_le (h.bnd c b hb).2 ht.size⟩, Nat.le_trans h.old ht.size⟩
 ·obtain ⟨g, e, hr2⟩ := h.row (by intro e; rw [e] at hi; simp at hi);refine ⟨g, e, ?_⟩
  have e2 : rowsOf servRow (l.set i { l[i] with f2 := j' :: js }) o.r = rowsOf servRow l o.r := by
   rw [rowsOf_set_same];apply List.ext_getElem
   ·simp
   ·intro k h1 h2;rw [List.getElem_set];by_cases e : i = k
    ·subst e;rw [if_pos rfl, rowsOf_get hi];unfold servRow;rw [hx];rfl
    ·rw [if_neg e]
  rw [e2];exact hr2.turn ht (hne .g g (by simp) (by show o.A.map _ = _; rw [e]; rfl))
 ·obtain ⟨g2, e, hr2⟩ := h.lok hq;exact ⟨g2, e, hr2.turn ht (hne .h g2 (by simp) (by show o.A2.map _ = _; rw [e]; rfl))⟩
 ·have hk2 : k < l.length := by simpa using hk
  rw [mem_set_get];by_cases e : i = k
  ·subst e;rw [if_pos rfl];have h0 := h.jobs i hi;rw [hx] at h0;refine ⟨by have := h0.cap; simpa using this, by have := h0.max; simpa using this, fun _ => ⟨b, oo, upd rr 0 p0, hb, ?_, ?_⟩⟩
   ·have e3 : rowsOf jobRow (j' :: js) (upd rr 0 p0) = (rowsOf jobRow (j :: js) rr).set 0 (jobRow j' p0) := by
     rw [<- rowsOf_set]; rfl
    show RowAt w' b oo 4 125 (rowsOf jobRow (j' :: js) (upd rr 0 p0));rw [e3]; exact hr
   ·intro k hk;have hk' : k < (j :: js).length := by simpa using hk
    cases k with
    | zero =>
     show j'.f1.length <= (upd rr 0 p0 0).2 /\ Kd.F k72 w' B.G (upd rr 0 p0 0).1 j'.f1.length j'.f1;rw [upd_self];refine ⟨hp0.1, fun W' hW => hp0.2 W' (fun b2 hb2 hlt => ?_)⟩;rw [hW b2 hb2 (Nat.lt_of_lt_of_le hlt ht.size)];exact ht.block b2 hlt (fun e => by have := B.lt b2 hb2; omega)
    | succ k =>
     show (j :: js)[k + 1].f1.length <= (upd rr 0 p0 (k + 1)).2 /\ Kd.F k72 w' B.G (upd rr 0 p0 (k + 1)).1 (j :: js)[k + 1].f1.length (j :: js)[k + 1].f1;rw [upd_ne _ _ (by omega)];refine ⟨(hp (k + 1) hk').1, fun W' hW => (hp (k + 1) hk').2 W' (fun b2 hb2 hlt => ?_)⟩;rw [hW b2 hb2 (Nat.lt_of_lt_of_le hlt ht.size)];exact ht.block b2 hlt (fun e => by have := B.lt b2 hb2; omega)
  ·rw [if_neg e];exact (h.jobs k hk2).keep ht (fun b2 hb2 => by rw [hb2]; exact hbB) h.old (fun b2 hb2 => hne (.j k) b2 (by intro e2; injection e2 with e2; exact e e2.symm) hb2)
 ·exact ⟨(h.que k hk).1, fun W' hW => (h.que k hk).2 W' (fun b2 hb2 hlt => by rw [hW b2 hb2 (Nat.lt_of_lt_of_le hlt ht.size)]; exact ht.block b2 hlt (hne _ b2 (by simp) hb2))⟩
structure En (B : Bd) (N s : Nat) (bx jx sx : Array Value) (w0 : World) (o0 o : OwnR) (l : List S57) (q : List S63) (E : List Ev) (v : Value) (w : World) : Prop where
 X : w.heap[N]? = some (.cells bx 47 (0, 0))
 J : w.heap[N + 1]? = some (.cells jx 125 (0, 0))
 S : w.heap[s]? = some (.cells sx 72 (0, 0))
 O : Own w B l q o
 sub : o.sub o0
 E : (Kd.raw 4).R 67 w N (fun _ => True) v (E.map Ev.cells)
 VB : ∀ b, v.ownBlock = some b -> s < b
 T : Turn w0 w (fun b => ∃ c, o0.own c = some b)
 own0 : ∀ c b, o0.own c = some b -> b < N
 N0 : N = w0.heap.size
 hs : N + 1 < s
 BN : B <= N
section
variable {B : Bd} {N s : Nat} {bx jx sx : Array Value} {w0 : World} {o0 o : OwnR} {l : List S57} {q : List S63} {E : List Ev} {v : Value} {w w' : World}
theorem En.below (h : En B N s bx jx sx w0 o0 o l q E v w) (hb : Below w.heap.size w w') : En B N s bx jx sx w0 o0 o l q E v w' where
 X := blk_below h.X hb
 J := blk_below h.J hb
 S := blk_below h.S hb
 O := h.O.below hb
 sub := h.sub
 E := Kd.R_below h.E hb
 VB := h.VB
 T := h.T.trans (Turn.of_below _ hb)
 own0 := h.own0
 N0 := h.N0
 hs := h.hs
 BN := h.BN
theorem En.turn (h : En B N s bx jx sx w0 o0 o l q E v w) {o' : OwnR} {l' : List S57} {q' : List S63} {S : Nat -> Prop} (ht : Turn w w' S) (hS : ∀ b, S b -> ∃ c, o.own c = some b) (hO : Own w' B l' q' o') (ho : o'.sub o) : En B N s bx jx sx w0 o0 o' l' q' E v w' := by
 have hN : ∀ b, S b -> b < N := fun b e => by
  obtain ⟨c, hc⟩ := hS b e;exact h.own0 c b (h.sub.2.2.2.2 c b hc)
 have hs := h.hs;refine ⟨?_, ?_, ?_, hO, ho.trans h.sub, ?_, h.VB, ?_, h.own0, h.N0, h.hs, h.BN⟩
 ·exact (ht.block _ (blk_lt h.X) (fun e => by have := hN _ e; omega)).trans h.X
 ·exact (ht.block _ (blk_lt h.J) (fun e => by have := hN _ e; omega)).trans h.J
 ·exact (ht.block _ (blk_lt h.S) (fun e => by have := hN _ e; omega)).trans h.S
 ·exact Kd.R_reok rfl (Kd.R_step (Kd.R_tight rfl h.E) (fun b hb hlt => ht.block b hlt (fun e => by have := hN _ e; have := h.VB b hb.symm; omega))) (fun _ _ => trivial)
 ·exact h.T.trans (ht.imp (fun b e => by
   obtain ⟨c, hc⟩ := hS b e;exact ⟨c, h.sub.2.2.2.2 c b hc⟩))
theorem En.serv (h : En B N s bx jx sx w0 o0 o l q E v w) {i : Nat} (hi : i < l.length) (x : S57) (hx : x.f2 = l[i].f2) {g : Nat} (hg : o.A = some ⟨g, 0, none⟩) (ht : Turn w w' (fun b => b = g)) (hr : RowAt w' g 0 11 57 ((rowsOf servRow l o.r).set i (servRow x (o.r i)))) : En B N s bx jx sx w0 o0 o (l.set i x) q E v w' :=
 h.turn ht (fun b e => ⟨.g, by rw [e]; show o.A.map _ = _; rw [hg]; rfl⟩) (h.O.serv0 hi x hx hg ht hr) o.sub_refl
theorem En.pop (h : En B N s bx jx sx w0 o0 o l q E v w) {i : Nat} (hi : i < l.length) {j : S125} {js : List S125} (hx : l[i].f2 = j :: js) (x : S57) (hx2 : x.f2 = js) {g : Nat} (hg : o.A = some ⟨g, 0, none⟩) {b oo : Nat} (hb : (o.r i).1 = some ⟨b, oo, none⟩) (ht : Turn w w' (fun b => b = g)) (hr : RowAt w' g 0 11 57 ((rowsOf servRow l o.r).set i (servRow x (if (o.r i).2 = 1 then some ⟨b, oo, none⟩ else some ⟨b, oo + 4, none⟩, (o.r i).2 - 1)))) : ∃ o', o'.sub o /\ o'.A = o.A /\ En B N s bx jx sx w0 o0 o' (l.set i x) q E v w' := by
 have hgo : o.own .g = some g := by show o.A.map _ = _; rw [hg]; rfl
 have hbo : o.own (.j i) = some b := by show ob (o.r i) = _; rw [ob, hb]; rfl
 have hbg : b ≠ g := fun e => by have := h.O.apart (.j i) .g b hbo (by rw [e]; exact hgo); cases this
 have hJ := h.O.jobs i hi;obtain ⟨b2, o2, rr, e2, hrow, hpr⟩ := hJ.row (by rw [hx]; simp);rw [hb] at e2;injection e2 with e2;injection e2 with e3 e4;subst e3 e4;rw [hx] at hrow hpr;have hcap : js.length + 1 <= (o.r i).2 := by have := hJ.cap; rw [hx] at this; simpa using this
 have hp2 : ∀ k, ob ((if (o.r i).2 = 1 then some ⟨b, oo, none⟩ else some ⟨b, oo + 4, none⟩, (o.r i).2 - 1) : Ref) = some k -> ob (o.r i) = some k := by
  intro k hk;have hbo' : ob (o.r i) = some b := hbo;unfold ob at hk;by_cases e : (o.r i).2 = 1
  ·simp [e] at hk; rw [hbo', hk]
  ·simp [e] at hk; rw [hbo', hk]
 have hjobs : JobsAt w' B x.f2 (if (o.r i).2 = 1 then some ⟨b, oo, none⟩ else some ⟨b, oo + 4, none⟩, (o.r i).2 - 1) := by
  rw [hx2];refine ⟨by show js.length <= (o.r i).2 - 1; omega, by have := hJ.max; rw [hx] at this; simp at this; omega, fun hne => ?_⟩
  have hc : (o.r i).2 ≠ 1 := fun e => by
   have : js.length ≠ 0 := fun e2 => hne (List.length_eq_zero_iff.1 e2)
   omega
  refine ⟨b, oo + 4, fun k => rr (k + 1), by show (if _ then _ else _) = _; rw [if_neg hc], ?_, ?_⟩
  ·have h1 : rowsOf jobRow (j :: js) rr = jobRow j (rr 0) :: rowsOf jobRow js (fun k => rr (k + 1)) := by
    unfold rowsOf;rw [List.mapIdx_cons]
   rw [h1] at hrow;exact (hrow.tail).turn ht hbg
  ·intro k hk;have := hpr (k + 1) (by simpa using hk);refine ⟨this.1, fun W' hW => this.2 W' (fun b2 hb2 hlt => ?_)⟩;rw [hW b2 hb2 (Nat.lt_of_lt_of_le hlt ht.size)];exact ht.block b2 hlt (fun e => by have := (h.O.bnd .g g hgo).1; have := B.lt b2 hb2; omega)
 have hO := h.O.serv hi x _ hg ht hr hjobs hp2
 have hsub : ({ o with r := upd o.r i (if (o.r i).2 = 1 then some ⟨b, oo, none⟩ else some ⟨b, oo + 4, none⟩, (o.r i).2 - 1) } : OwnR).sub o := by
  refine ⟨rfl, rfl, rfl, rfl, fun c k hc => ?_⟩
  cases c with
  | g => exact hc
  | h => exact hc
  | q k => exact hc
  | j k2 =>
   change ob (upd o.r i _ k2) = some k at hc;by_cases e : k2 = i
   ·subst e; rw [upd_self] at hc; exact hp2 k hc
   ·rw [upd_ne _ _ e] at hc; exact hc
 exact ⟨_, hsub, rfl, h.turn ht (fun b e => ⟨.g, by rw [e]; exact hgo⟩) hO hsub⟩
theorem En.job (h : En B N s bx jx sx w0 o0 o l q E v w) {i : Nat} (hi : i < l.length) {j j' : S125} {js : List S125} (hx : l[i].f2 = j :: js) {b oo : Nat} {rr : Nat -> Ref} (hb : (o.r i).1 = some ⟨b, oo, none⟩) (hp : Progs w B (j :: js) rr) {p0 : Ref} (hp0 : j'.f1.length <= p0.2 /\ Kd.F k72 w B.G p0.1 j'.f1.length j'.f1) (ht : Turn w w' (fun k => k = b)) (hr : RowAt w' b oo 4 125 ((rowsOf jobRow (j :: js) rr).set 0 (jobRow j' p0))) : En B N s bx jx sx w0 o0 o (l.set i { l[i] with f2 := j' :: js }) q E v w' :=
 h.turn ht (fun k e => ⟨.j i, by rw [e]; show ob (o.r i) = _; rw [ob, hb]; rfl⟩) (h.O.job2 hi hx hb hp hp0 ht hr) o.sub_refl
theorem En.done (h : En B N s bx jx sx w0 o0 o l q E v w) {l' : List S57} {q' : List S63} {E' : List Ev} {e : Ending} (hd : DoneP B o l' q' E' w e w') : ∃ o' v', e = .returned v' /\ o'.A = o.A /\ En B N s bx jx sx w0 o0 o' l' q' E v w' /\ (Kd.raw 4).R 67 w' w.heap.size (fun _ => True) v' (E'.map Ev.cells) := by
 obtain ⟨o', v', rfl, hsub, hO, hR, hT⟩ := hd;exact ⟨o', v', rfl, hsub.1, h.turn hT (fun b e => e) hO hsub, hR⟩
theorem En.told (h : En B N s bx jx sx w0 o0 o l q [] v w) {E' : List Ev} {v' : Value} {M : Nat} (hR : (Kd.raw 4).R 67 w M (fun _ => True) v' (E'.map Ev.cells)) (hM : s < M) : En B N s bx jx sx w0 o0 o l q E' v' w :=
 { h with E := Kd.R_lower hR (by have := h.hs; omega), VB := fun b hb => by have := Kd.R_base hR b hb; omega }
theorem En.ev (h : En B N s bx jx sx w0 o0 o l q E v w) {w'' : World} {v' : Value} (hb : Below w.heap.size w w') (ht : Turn w' w'' (fun b => some b = v.ownBlock)) {E' : List Ev} (hR : (Kd.raw 4).R 67 w'' N (fun _ => True) v' (E.map Ev.cells ++ E'.map Ev.cells)) (hat : v'.ownBlock = v.ownBlock \/ ∃ b, v'.ownBlock = some b /\ w'.heap.size <= b) : En B N s bx jx sx w0 o0 o l q (E ++ E') v' w'' := by
 have h1 := h.below hb;have hs := h.hs;have hS : ∀ b, some b = v.ownBlock -> s < b := fun b e => h.VB b e.symm
 have hl : s < w'.heap.size := blk_lt h1.S;refine ⟨?_, ?_, ?_, ?_, h.sub, by rw [List.map_append]; exact hR, fun b hb2 => ?_, ?_, h.own0, h.N0, h.hs, h.BN⟩
 ·exact (ht.block _ (blk_lt h1.X) (fun e => by have := hS _ e; omega)).trans h1.X
 ·exact (ht.block _ (blk_lt h1.J) (fun e => by have := hS _ e; omega)).trans h1.J
 ·exact (ht.block _ (blk_lt h1.S) (fun e => by have := hS _ e; omega)).trans h1.S
 ·refine h1.O.keep ht (fun b e => ?_) (fun c b hc e => ?_)
  ·have := hS b e; have := h.BN; omega
  ·have := hS b e; have := h.own0 c b (h.sub.2.2.2.2 c b hc); omega
 ·rcases hat with e | ⟨b2, e, hle⟩
  ·exact h.VB b (by rw [<- e]; exact hb2)
  ·rw [e] at hb2; injection hb2 with hb2; omega
 ·have hA := h1.T;refine ⟨ht.os.trans hA.os, ht.tape.trans hA.tape, ht.output.trans hA.output, Nat.le_trans hA.size ht.size, fun k hk hn => ?_⟩;rw [ht.block k (Nat.lt_of_lt_of_le hk hA.size) (fun e => by have := hS k e; have := h.N0; omega)];exact hA.block k hk hn
end
def endA (now : Int) (l : List S57) (q : List S63) (i : Nat) : List S57 × List S63 × List Ev :=
 match (l.getD i z57).f2 with
 | [] => (l, q, [])
 | j :: js =>
  if j.f3 = (stepOf j).f1 then
   let a := if (l.getD i z57).f3 = 2 then freeL now (l.set i { l.getD i z57 with f3 := 0 }) q ((stepOf j).f0 - 1).toNat false else (l, q, [])
   if j.f2 + 1 = (j.f1.length : Int) then (a.1.set i { a.1.getD i z57 with f2 := js }, a.2.1, a.2.2 ++ [⟨now, 2, (l.getD i z57).f0, j.f0⟩])
   else (a.1.set i { a.1.getD i z57 with f2 := { j with f2 := j.f2 + 1, f3 := 0 } :: js }, a.2.1, a.2.2)
  else if (l.getD i z57).f3 = 2 /\ (l.getD i z57).f4 = (q.getD ((stepOf j).f0 - 1).toNat z63).f0 then
   let a := freeL now (l.set i { l.getD i z57 with f2 := js, f3 := 0 }) q ((stepOf j).f0 - 1).toNat true
   (a.1, a.2.1, ⟨now, 3, (l.getD i z57).f0, j.f0⟩ :: a.2.2)
  else (l, q, [])
def endB (now : Int) (l : List S57) (i : Nat) : List S57 × List Ev :=
 if (l.getD i z57).f2.length = 0 then (l.set i { l.getD i z57 with f1 := { (l.getD i z57).f1 with f4 := 0 } }, [⟨now, 10, (l.getD i z57).f0, 0⟩])
 else if (l.getD i z57).f1.f4 = 2 then (l, [⟨now, 4, (l.getD i z57).f0, 0⟩]) else (l, [])
def endL (now : Int) (l : List S57) (q : List S63) (i : Nat) : List S57 × List S63 × List Ev :=
 ((endB now (endA now l q i).1 i).1, (endA now l q i).2.1, (endA now l q i).2.2 ++ (endB now (endA now l q i).1 i).2)
structure Alike (l l' : List S57) : Prop where
 len : l'.length = l.length
 at_ : ∀ k (h : k < l.length) (h' : k < l'.length), l'[k].f0 = l[k].f0 /\ l'[k].f1 = l[k].f1 /\ l'[k].f2 = l[k].f2
theorem freeL_alike (now : Int) (l : List S57) (q : List S63) (n : Nat) (t : Bool) : Alike l (freeL now l q n t).1 := by
 unfold freeL;split
 ·exact ⟨rfl, fun _ _ _ => ⟨rfl, rfl, rfl⟩⟩
 ·rename_i id rest _;refine ⟨by simp, fun k h h' => ?_⟩;simp only [List.getElem_set];by_cases e : ahead l id = k
  ·subst e;rw [if_pos rfl];simp [h]
  ·rw [if_neg e]; exact ⟨rfl, rfl, rfl⟩
theorem freeL_few (now : Int) (l : List S57) (q : List S63) (n : Nat) (t : Bool) : (freeL now l q n t).2.2.length <= 2 := by
 unfold freeL;split
 ·simp
 ·cases t <;> simp
def endw.T11 : Bool × List (List Nat × List Nat) := (true, [([], []), ([0], [0]), ([1], [1]), ([2], [2]), ([], []), ([4], [4]), ([5], [5]), ([6], [6]), ([6], [6]), ([3, 0, 1, 2, 3, 4, 5, 6, 7], [3]), ([9, 7, 5, 0, 1, 2, 3, 4, 5, 6, 7], [7, 9])])
def endw.B11 : List Nat := [0, 1, 3, 7, 0, 16, 48, 112, 112, 255, 767]
theorem endw.tab11 : rtab .any (opsOf Tryz.f92 11) = endw.T11 := by kernel_rfl
theorem endw.bits11 : waitsOk endw.T11.2 endw.B11 = true := by kernel_rfl
def endw.T13 : Bool × List (List Nat × List Nat) := (true, [([], []), ([], []), ([], []), ([2], [2]), ([3], [3]), ([4], [4]), ([], []), ([6], [6]), ([1, 5, 7], [1, 5, 7]), ([8], [8]), ([0, 9, 8], [0, 9]), ([10, 10, 0, 1, 2, 3, 4, 5, 6, 7, 8, 9, 10], [0, 10])])
def endw.B13 : List Nat := [0, 0, 0, 4, 12, 28, 0, 64, 254, 510, 1023, 2047]
theorem endw.tab13 : rtab .any (opsOf Tryz.f92 13) = endw.T13 := by kernel_rfl
theorem endw.bits13 : waitsOk endw.T13.2 endw.B13 = true := by kernel_rfl
def endw.T15 : Bool × List (List Nat × List Nat) := (true, [([], []), ([], []), ([], []), ([2], [2]), ([3], [3]), ([4], [4]), ([], []), ([6], [6]), ([1, 5, 7], [1, 5, 7]), ([8], [8]), ([0, 9, 8], [0, 9]), ([10, 10, 0, 1, 2, 3, 4, 5, 6, 7, 8, 9, 10], [0, 10])])
def endw.B15 : List Nat := [0, 0, 0, 4, 12, 28, 0, 64, 254, 510, 1023, 2047]
theorem endw.tab15 : rtab .any (opsOf Tryz.f92 15) = endw.T15 := by kernel_rfl
theorem endw.bits15 : waitsOk endw.T15.2 endw.B15 = true := by kernel_rfl
def endw.T21 : Bool × List (List Nat × List Nat) := (true, [([], []), ([], []), ([], []), ([2], [2]), ([3], [3]), ([4], [4]), ([1, 5], [1, 5]), ([6], [6]), ([0, 7, 6], [0, 7]), ([8, 8, 0, 1, 2, 3, 4, 5, 6, 7, 8], [0, 8])])
def endw.B21 : List Nat := [0, 0, 0, 4, 12, 28, 62, 126, 255, 511]
theorem endw.tab21 : rtab .any (opsOf Tryz.f92 21) = endw.T21 := by kernel_rfl
theorem endw.bits21 : waitsOk endw.T21.2 endw.B21 = true := by kernel_rfl
def endw.T23 : Bool × List (List Nat × List Nat) := (true, [([], []), ([], []), ([], []), ([2], [2]), ([3], [3]), ([4], [4]), ([1, 5], [1, 5]), ([6], [6]), ([0, 7, 6], [0, 7]), ([8, 8, 0, 1, 2, 3, 4, 5, 6, 7, 8], [0, 8])])
def endw.B23 : List Nat := [0, 0, 0, 4, 12, 28, 62, 126, 255, 511]
theorem endw.tab23 : rtab .any (opsOf Tryz.f92 23) = endw.T23 := by kernel_rfl
theorem endw.bits23 : waitsOk endw.T23.2 endw.B23 = true := by kernel_rfl
theorem Alike.set {l : List S57} {i : Nat} (x : S57) (hi : i < l.length) (h0 : x.f0 = l[i].f0) (h1 : x.f1 = l[i].f1) (h2 : x.f2 = l[i].f2) : Alike l (l.set i x) := by
 refine ⟨by simp, fun k h h' => ?_⟩;rw [List.getElem_set];by_cases e : i = k
 ·subst e; rw [if_pos rfl]; exact ⟨h0, h1, h2⟩
 ·rw [if_neg e]; exact ⟨rfl, rfl, rfl⟩
structure Kept (l l' : List S57) : Prop where
 len : l'.length = l.length
 at_ : ∀ k (h : k < l.length) (h' : k < l'.length), l'[k].f0 = l[k].f0 /\ l'[k].f1 = l[k].f1
theorem Kept.refl (l : List S57) : Kept l l := ⟨rfl, fun _ _ _ => ⟨rfl, rfl⟩⟩
theorem Kept.trans {a b c : List S57} (h : Kept a b) (k : Kept b c) : Kept a c := by
 refine ⟨k.len.trans h.len, fun n h1 h2 => ?_⟩;have h3 : n < b.length := by rw [h.len]; exact h1
 exact ⟨(k.at_ n h3 h2).1.trans (h.at_ n h1 h3).1, (k.at_ n h3 h2).2.trans (h.at_ n h1 h3).2⟩
theorem Kept.set {l a : List S57} (h : Kept l a) {i : Nat} (x : S57) (hx : ∀ (h : i < a.length), x.f0 = a[i].f0 /\ x.f1 = a[i].f1) : Kept l (a.set i x) := by
 refine h.trans ⟨by rw [List.length_set], fun k h1 h2 => ?_⟩;rw [List.getElem_set];by_cases e : i = k
 ·subst e; rw [if_pos rfl]; exact hx h1
 ·rw [if_neg e]; exact ⟨rfl, rfl⟩
theorem Alike.kept {l l' : List S57} (h : Alike l l') : Kept l l' := ⟨h.len, fun k h1 h2 => ⟨(h.at_ k h1 h2).1, (h.at_ k h1 h2).2.1⟩⟩
theorem getD57 {l : List S57} {i : Nat} (h : i < l.length) : l.getD i z57 = l[i] := by simp [h]
theorem Kept.sorted {l l' : List S57} (h : Kept l l') (hs : Sorted l) : Sorted l' := by
 unfold Sorted at *;rw [List.pairwise_iff_getElem] at *;intro a b ha hb hab;have ha' : a < l.length := by rw [<- h.len]; exact ha
 have hb' : b < l.length := by rw [<- h.len]; exact hb
 rw [(h.at_ a ha' ha).1, (h.at_ b hb' hb).1];exact hs a b ha' hb' hab
theorem Kept.ids {l l' : List S57} (h : Kept l l') {id : Int} (he : ∃ (p : Nat) (h : p < l.length), l[p].f0 = id) : ∃ (p : Nat) (h : p < l'.length), l'[p].f0 = id := by
 obtain ⟨p, hp, e⟩ := he;exact ⟨p, by rw [h.len]; exact hp, by rw [(h.at_ p hp (by rw [h.len]; exact hp)).1]; exact e⟩
theorem endA_keep (now : Int) (l : List S57) (q : List S63) (i : Nat) : Kept l (endA now l q i).1 := by
 have F : ∀ (x : S57) (hx : ∀ (h : i < l.length), x.f0 = l[i].f0 /\ x.f1 = l[i].f1) n t, Kept l (freeL now (l.set i x) q n t).1 :=
  fun x hx n t => ((Kept.refl l).set x hx).trans (freeL_alike now (l.set i x) q n t).kept
 have E : ∀ (a : List S57) (js : List S125), Kept l a -> Kept l (a.set i { a.getD i z57 with f2 := js }) := fun a js h => h.set _ (fun h => by rw [getD57 h]; exact ⟨rfl, rfl⟩)
 unfold endA;split
 ·exact Kept.refl l
 ·rename_i j js _;split
  ·have hA : Kept l (if (l.getD i z57).f3 = 2 then freeL now (l.set i { l.getD i z57 with f3 := 0 }) q ((stepOf j).f0 - 1).toNat false else (l, q, [])).1 := by
    split
    ·exact F _ (fun h => by rw [getD57 h]; exact ⟨rfl, rfl⟩) _ _
    ·exact Kept.refl l
   dsimp only;split
   ·exact E _ _ hA
   ·exact E _ _ hA
  ·split
   ·exact F _ (fun h => by rw [getD57 h]; exact ⟨rfl, rfl⟩) _ _
   ·exact Kept.refl l
theorem endA_few (now : Int) (l : List S57) (q : List S63) (i : Nat) : (endA now l q i).2.2.length <= 3 := by
 unfold endA;split
 ·simp
 ·rename_i j js _;have h1 := freeL_few now (l.set i { l.getD i z57 with f3 := 0 }) q ((stepOf j).f0 - 1).toNat false;have h2 := freeL_few now (l.set i { l.getD i z57 with f2 := js, f3 := 0 }) q ((stepOf j).f0 - 1).toNat true;split
  ·dsimp only;split
   ·rw [List.length_append];split
    ·exact Nat.succ_le_succ h1
    ·simp
   ·dsimp only;split
    ·exact Nat.le_trans h1 (by omega)
    ·simp
  ·split
   ·exact Nat.succ_le_succ h2
   ·simp
theorem endA_held {now : Int} {l : List S57} {q : List S63} {i n : Nat} {j : S125} {js : List S125} {st1 : Int} (hi : i < l.length) (hx : l[i].f2 = j :: js) (hst : stepOf j = ⟨(n : Int) + 1, st1⟩) (hov : j.f3 ≠ st1) (h2 : l[i].f3 = 2) (hn : n < q.length) (hm : l[i].f4 = q[n].f0) : endA now l q i = ((freeL now (l.set i { l[i] with f2 := js, f3 := 0 }) q n true).1, (freeL now (l.set i { l[i] with f2 := js, f3 := 0 }) q n true).2.1, [⟨now, 3, l[i].f0, j.f0⟩] ++ (freeL now (l.set i { l[i] with f2 := js, f3 := 0 }) q n true).2.2) := by
 unfold endA;rw [getD57 hi];have e : ((stepOf j).f0 - 1).toNat = n := by rw [hst]; show ((n : Int) + 1 - 1).toNat = n; omega
 have e2 : q.getD n z63 = q[n] := by simp [hn]
 simp only [hx];rw [e, e2, if_neg (by rw [hst]; exact hov), if_pos ⟨h2, hm⟩];rfl
theorem Alike.trans {a b c : List S57} (h : Alike a b) (k : Alike b c) : Alike a c := by
 refine ⟨k.len.trans h.len, fun n h1 h2 => ?_⟩;have h3 : n < b.length := by rw [h.len]; exact h1
 exact ⟨(k.at_ n h3 h2).1.trans (h.at_ n h1 h3).1, (k.at_ n h3 h2).2.1.trans (h.at_ n h1 h3).2.1, (k.at_ n h3 h2).2.2.trans (h.at_ n h1 h3).2.2⟩
def overA (now : Int) (l : List S57) (q : List S63) (i : Nat) (x : S57) (st0 : Int) : List S57 × List S63 × List Ev := if x.f3 = 2 then freeL now (l.set i { x with f3 := 0 }) q (st0 - 1).toNat false else (l, q, [])
theorem overA_alike (now : Int) (l : List S57) (q : List S63) {i : Nat} (hi : i < l.length) (st0 : Int) : Alike l (overA now l q i l[i] st0).1 /\ (overA now l q i l[i] st0).2.2.length <= 2 := by
 unfold overA;split
 ·exact ⟨(Alike.set { l[i] with f3 := 0 } hi rfl rfl rfl).trans (freeL_alike _ _ _ _ _), freeL_few _ _ _ _ _⟩
 ·exact ⟨⟨rfl, fun _ _ _ => ⟨rfl, rfl, rfl⟩⟩, by simp⟩
theorem endA_over {now : Int} {l : List S57} {q : List S63} {i : Nat} {j : S125} {js : List S125} {st0 st1 : Int} (hi : i < l.length) (hx : l[i].f2 = j :: js) (hst : stepOf j = ⟨st0, st1⟩) (hov : j.f3 = st1) {l1 : List S57} {q1 : List S63} {e1 : List Ev} (ha : overA now l q i l[i] st0 = (l1, q1, e1)) (hi1 : i < l1.length) : endA now l q i = if j.f2 + 1 = (j.f1.length : Int) then (l1.set i { l1[i] with f2 := js }, q1, e1 ++ [⟨now, 2, l[i].f0, j.f0⟩]) else (l1.set i { l1[i] with f2 := { j with f2 := j.f2 + 1, f3 := 0 } :: js }, q1, e1) := by
 unfold overA at ha;unfold endA;rw [getD57 hi];simp only [hx] at ha |-;rw [if_pos (by rw [hst]; exact hov), hst];dsimp only at ha |-;rw [ha];dsimp only;rw [getD57 hi1]
theorem endA_none {now : Int} {l : List S57} {q : List S63} {i : Nat} {j : S125} {js : List S125} {st0 st1 : Int} (hi : i < l.length) (hx : l[i].f2 = j :: js) (hst : stepOf j = ⟨st0, st1⟩) (hov : j.f3 ≠ st1) (h2 : l[i].f3 = 2 -> ∃ (n : Nat) (hn : n < q.length), st0 = (n : Int) + 1 /\ l[i].f4 ≠ q[n].f0) : endA now l q i = (l, q, []) := by
 unfold endA;rw [getD57 hi];simp only [hx];rw [if_neg (by rw [hst]; exact hov), if_neg];rintro ⟨a, b⟩;obtain ⟨n, hn, e, h⟩ := h2 a;rw [hst, e] at b;have e1 : ((n : Int) + 1 - 1).toNat = n := by omega
 have e2 : q.getD n z63 = q[n] := by simp [hn]
 dsimp only at b;rw [e1, e2] at b;exact h b
structure EndOk (l : List S57) (q : List S63) (i : Nat) : Prop where
 sorted : Sorted l
 len : l.length <= 12
 qlen : q.length <= 8
 que : ∀ n (h : n < q.length), (∀ id ∈ q[n].f2, ∃ (p : Nat) (h : p < l.length), l[p].f0 = id) /\ q[n].f2.length <= 1000
 at_ : ∃ h : i < l.length, CbsOk l[i].f1 /\ l[i].f1.f4 ≠ 0 /\ ∃ j js, l[i].f2 = j :: js /\ JobOk j /\ (stepOf j).f0 <= q.length /\ (l[i].f3 = 2 -> 1 <= (stepOf j).f0)
theorem end_calls (M now : Int) (l : List S57) (q : List S63) (B : Bd) (o : OwnR) (A4 : Option Addr) (c4 : Nat) (i : Nat) (w : World) (hO : Own w B l q o) (hk : EndOk l q i) :
  Calls Tryz.prog 92 #[stV M now o.A l.length o.c o.A2 q.length o.c2 A4 c4, .int .i64 i] w fun e w' => DoneP B o (endL now l q i).1 (endL now l q i).2.1 (endL now l q i).2.2 w e w' := by
 obtain ⟨hs, hl12, hq8, hque, hi, hcbs, hmode, j, js, hx, hj, hsem, hsem2⟩ := hk;obtain ⟨g, hg, hrow⟩ := hO.row (by intro e; rw [e] at hi; simp at hi);obtain ⟨b, oo, rr, hb, hjrow, hpr⟩ := (hO.jobs i hi).row (by rw [hx]; simp);rw [hx] at hjrow hpr;have hjc := job_at hjrow;have hserv := serv_at hrow hi;have r6 := hserv.e6;rw [hx, hb] at r6;simp only [List.length_cons] at r6;have HO := hZ hO;have HG := hZ hg;have HJ := hZ hj;have HXX := hZ hx;have HP0 := hZ (hpr 0 (by simp));have hjl : (0 : Int) < ((js.length + 1 : Nat) : Int) := by omega
 have i0 : (0 : Int) <= (i : Int) := by omega
 have i1 : (i : Int) < (l.length : Int) := by omega
 have HEND : Hid (endL now l q i = ((endB now (endA now l q i).1 i).1, (endA now l q i).2.1, (endA now l q i).2.2 ++ (endB now (endA now l q i).1 i).2)) := hZ rfl;generalize endL now l q i = fin at *;have hown0 : ∀ c b, o.own c = some b -> b < w.heap.size := fun c b h => (hO.bnd c b h).2
 have HWN := hZ hown0;have hold := hO.old;obtain ⟨⟨st0, st1⟩, hst⟩ : ∃ st, stepOf j = st := ⟨_, rfl⟩;rw [hst] at hsem hsem2;dsimp only at hsem hsem2;have HST := hZ hst;unfold stV;rw [hg];have HB0 := hZ (below_alloc (Below.refl w.heap.size w) (.cells #[.int .i64 M, .int .i64 now, .slice (some ⟨g, 0, none⟩) l.length o.c, .slice o.A2 q.length o.c2, .slice A4 0 c4] 47));have HX := hZ (blk_new w (.cells #[.int .i64 M, .int .i64 now, .slice (some ⟨g, 0, none⟩) l.length o.c, .slice o.A2 q.length o.c2, .slice A4 0 c4] 47));have HSZ : Hid ((w.alloc (.cells #[.int .i64 M, .int .i64 now, .slice (some ⟨g, 0, none⟩) l.length o.c, .slice o.A2 q.length o.c2, .slice A4 0 c4] 47)).heap.size = w.heap.size + 1) := hZ (World.size_alloc _ _);have HJC := hZ hjc;clear hO hg hj hx hpr hst hown0 hserv hjc;go_enter Tryz.func92, Tryz.ntmps92
 go_upto_region 1 with fail
 generalize hw1 : World.alloc _ _ = w1 at *;clear hw1;have q2 := (blk_cell HX.out 2).trans rfl;have r6 := (HB0.out.cell (World.block_lt_of_cell? _ _ r6)).trans r6;obtain ⟨z0, z1, z2, z3⟩ := job_at (hjrow.below HB0.out);have hs1 := HSZ.out
 go_upto_region 4 with fail
 have hJ2 := blk_new w1 (.cells #[.int .i64 j.f0, .slice (rr 0).1 j.f1.length (rr 0).2, .int .i64 j.f2, .int .i64 j.f3] 125);rw [hs1] at hJ2;have HB12 := below_alloc (Below.refl w1.heap.size w1) (.cells #[.int .i64 j.f0, .slice (rr 0).1 j.f1.length (rr 0).2, .int .i64 j.f2, .int .i64 j.f3] 125);have HX2 := hZ (blk_below HX.out HB12);have HB2 := hZ (HB0.out.trans (HB12.mono (by omega)));have HJ2 := hZ hJ2;generalize hw1 : World.alloc _ _ = w2 at *;clear hw1 hJ2 HB12 HX HB0 HSZ hs1 z0 z1 z2 z3 q2 r6;have hCp : Kd.C k72 w2 (rr 0).1 j.f1.length j.f1 := HP0.out.2 w2 (fun b hb hlt => HB2.out.block b hlt);have DS := fun wx (hh : Below w2.heap.size w2 wx) => jstep_calls j (rr 0).1 (rr 0).2 wx (Kd.C_below hCp hh) HJ.out
 rw [HST.out] at DS;dsimp only at DS;have u0 := (blk_cell HJ2.out 0).trans rfl;have u1 := (blk_cell HJ2.out 1).trans rfl;have u2 := (blk_cell HJ2.out 2).trans rfl;have u3 := (blk_cell HJ2.out 3).trans rfl
 go_upto_region 5 with (first | (go_at_call 58; (with_reducible refine (DS _ (Below.refl _ _)).mono ?_); rintro e w3 ⟨rfl, hB3⟩; have HB3 := hZ hB3; clear hB3))
 have hS4 := blk_new w3 (.cells #[.int .i64 st0, .int .i64 st1] 72);have HB34 := below_alloc (Below.refl w3.heap.size w3) (.cells #[.int .i64 st0, .int .i64 st1] 72);have HB24 := HB3.out.trans (HB34.mono HB3.out.size);have hss : w.heap.size + 1 < w3.heap.size := Nat.lt_of_lt_of_le (blk_lt HJ2.out) HB3.out.size;generalize hsn : w3.heap.size = s at *
 have HE4 : Hid (En B w.heap.size s #[.int .i64 M, .int .i64 now, .slice (some ⟨g, 0, none⟩) l.length o.c, .slice o.A2 q.length o.c2, .slice A4 0 c4] #[.int .i64 j.f0, .slice (rr 0).1 j.f1.length (rr 0).2, .int .i64 j.f2, .int .i64 j.f3] #[.int .i64 st0, .int .i64 st1] w o o l q [] (.slice none 0 0) (w3.alloc (.cells #[.int .i64 st0, .int .i64 st1] 72))) := hZ
  ⟨blk_below HX2.out HB24, blk_below HJ2.out HB24, hS4, HO.out.below (HB2.out.trans (HB24.mono HB2.out.size)), o.sub_refl, Kd.R_nil _ _ _ _ _, fun b e => by simp [Value.ownBlock] at e, Turn.of_below _ (HB2.out.trans (HB24.mono HB2.out.size)), HWN.out, rfl, hss, hold⟩
 generalize hw1 : World.alloc _ _ = w4 at *;clear hw1 hS4 HB34 HB24 HB3 HX2 HJ2 HB2 DS hCp u0 u1 u2 u3 hsn;have u3 := (blk_cell HE4.out.J 3).trans rfl;have x1 := (blk_cell HE4.out.S 1).trans rfl;have hka := endA_keep now l q i;have hfa := endA_few now l q i;obtain ⟨⟨la, qa, ea⟩, hea⟩ : ∃ a, endA now l q i = a := ⟨_, rfl⟩;rw [hea] at HEND hka hfa;dsimp only at HEND hka hfa;have HEA := hZ hea;have hla := hka.len;have hia : i < la.length := by rw [hla]; exact hi
 have hid := (hka.at_ i hi hia).1;have hcbsA := (hka.at_ i hi hia).2;have HCB := hZ hcbsA;have HID := hZ hid;have HHC := hZ hcbs;have HMD := hZ hmode;clear hea hka hid hcbsA hcbs hmode
 go_upto_block 0 with fail
 go_cut [5, 10] from 11 (fun v5 v10 wx => ∃ oN, oN.A = o.A /\ Hid (En B w.heap.size s #[.int .i64 M, .int .i64 now, .slice (some ⟨g, 0, none⟩) l.length o.c, .slice o.A2 q.length o.c2, .slice A4 0 c4] #[.int .i64 j.f0, .slice (rr 0).1 j.f1.length (rr 0).2, .int .i64 j.f2, .int .i64 j.f3] #[.int .i64 st0, .int .i64 st1] w o oN la qa ea v5 wx))
 case rest =>
  obtain ⟨oN, hgN, HEN⟩ := hcut;have hgN2 := hgN.trans HG.out;clear HE4 u3 x1 HEA;obtain ⟨hrow, hserv⟩ := HEN.out.O.cells hia hgN2;have r0 := hserv.e0;have r5 := hserv.e5;have r6 := hserv.e6;have ⟨r1, r2, r3, r4, _⟩ := at54 hrow hia;have HRow := hZ hrow;generalize hid0 : la[i].f0 = id0 at r0 HID;have HI0 := hZ hid0;have hNs : w.heap.size <= wc.heap.size := HEN.out.T.size;clear hserv hid0 hrow;by_cases hz : la[i].f2.length = 0
  ·rw [hz] at r6;have DI := fun wx => idle_calls la[i].f1 wx (by rw [HCB.out]; exact HHC.out) (by rw [HCB.out]; exact HMD.out)
   unfold agg54 at DI;dsimp only at DI
   go_upto_region 21 with (first | (go_at_call 112; (with_reducible refine (DI _).mono ?_); rintro e w5 ⟨rfl, hB5⟩; obtain ⟨s1, s2, s3, s4, s5⟩ := at54 (HRow.out.below hB5) hia; have hfz := fun k => (HRow.out.below hB5).free k; have HB5 := hZ hB5; clear hB5))
   have HRow6 := hZ (serv_set54 (HRow.out.below HB5.out) hia { la[i].f1 with f4 := 0 });have HT6 := hZ (turn_set54 (Turn.refl w5 (fun b => b = g)) rfl (i * 11 + 1) (.int .i64 la[i].f1.f0) (.int .i64 la[i].f1.f1) (.int .i64 la[i].f1.f2) (.int .i64 la[i].f1.f3) (.int .i64 0));generalize hws : World.setCell _ _ _ = w6 at *;have HE6 := hZ ((HEN.out.below HB5.out).serv hia { la[i] with f1 := { la[i].f1 with f4 := 0 } } rfl hgN2 HT6.out HRow6.out)
   have hid6 : w6.cell? ⟨g, i * 11, none⟩ = some (.int .i64 id0) := by
    have := HRow6.out.cell (i := i) (by rw [List.length_set, rowsOf_len]; exact hia) (j := 0) (by omega) (v := .int .i64 la[i].f0) (by rw [List.getElem_set_self]; rfl);rw [HI0.out] at this
    rwa [Nat.zero_add, Nat.add_zero] at this
   have hNs6 : w.heap.size <= w6.heap.size := HE6.out.T.size;clear hws s1 s2 s3 s4 s5 hfz r0 r1 r2 r3 r4 r5 r6 DI HRow HRow6 HT6 HB5 HEN hNs;generalize hlb : la.set i { la[i] with f1 := { la[i].f1 with f4 := 0 } } = lb at *;have HLB := hZ hlb;clear hlb;refine start_ (n := 10) (S := fun w' => Hid (En B w.heap.size s #[.int .i64 M, .int .i64 now, .slice (some ⟨g, 0, none⟩) l.length o.c, .slice o.A2 q.length o.c2, .slice A4 0 c4] #[.int .i64 j.f0, .slice (rr 0).1 j.f1.length (rr 0).2, .int .i64 j.f2, .int .i64 j.f3] #[.int .i64 st0, .int .i64 st1] w o oN lb qa ea u5 w') /\ w'.cell? ⟨g, i * 11, none⟩ = some (.int .i64 id0) /\ Hid (Below w6.drew.heap.size w6.drew w')) (ds := [8]) #[false, false, false, false, false, false, false, false, false, false] (by kernel_rfl) rfl rfl ⟨(hZ (HE6.out.below (below_drew (Below.refl _ _)))), (show w6.drew.cell? _ = _ from hid6), (hZ (Below.refl w6.drew.heap.size w6.drew))⟩ (fun hHeld => ?_);refine with_tabW endw.tab21 endw.bits21 (fun HT_ HW_ => ?_);have hbd := drB w6;have hsd : w6.heap.size = w6.drew.heap.size := rfl;generalize hwd : w6.drew = wd at *;clear hwd;refine pst 0 (some 156) HT_ ?_;refine pst 2 (some 158) HT_ ?_;refine pst 3 (some 159) HT_ ?_;refine pst 4 (some 160) HT_ ?_;refine tst 1 (some 157) HT_ HW_ hHeld ?_ (hy := by (rintro w' ⟨s0, s1, s2⟩; have e0 := (blk_cell s0.out.X 0).trans rfl; have e1 := (blk_cell s0.out.X 1).trans rfl; have e2 := (blk_cell s0.out.X 2).trans rfl; have e3 := (blk_cell s0.out.X 3).trans rfl; have e4 := (blk_cell s0.out.X 4).trans rfl); go_simp; with_reducible rfl);refine tst 5 (some 161) HT_ HW_ hHeld ?_ (hy := by (rintro w' ⟨s0, s1, s2⟩; have e0 := (blk_cell s0.out.X 0).trans rfl; have e1 := (blk_cell s0.out.X 1).trans rfl; have e2 := (blk_cell s0.out.X 2).trans rfl; have e3 := (blk_cell s0.out.X 3).trans rfl; have e4 := (blk_cell s0.out.X 4).trans rfl); go_simp; with_reducible rfl);refine one_ (i := 6) (N := some 162) #[true, true, true, true, true, true, true, false, false, false] rfl rfl (one_of HT_.out (by kernel_rfl)) (by decide) (fun K hK => ?_);refine goes_ Tryz.func28 (by kernel_rfl) rfl #[stV M now (some ⟨g, 0, none⟩) l.length o.c o.A2 q.length o.c2 A4 c4, .int .i64 10, .int .i64 id0, .int .i64 0] (by rfl) rfl rfl (by simp only [List.map_toArray, List.map_cons, List.map_nil]; rfl) ?_;with_reducible refine (event_calls _ _ _ _ _ _ _ _ _ _ 10 id0 0 _).mono ?_;rintro e w9 ⟨rfl, hB9⟩;refine ⟨_, rfl, ?_⟩;refine hK.out _ _ ⟨(hZ (hHeld.1.out.below hB9)), ((hB9.cell (World.block_lt_of_cell? _ _ hHeld.2.1)).trans hHeld.2.1), (hZ (hHeld.2.2.out.trans (hB9.mono hHeld.2.2.out.size)))⟩ (fun hHeld => ?_);clear hK K;refine norm_ (a' := ?_) ?_ ?_;rotate_left
   ·show Act.put _ (some 162) _ = _;simp only [Act.put, sqA, sqB, sqC, i64_w, i32_w];rfl
   refine one_ (i := 7) (N := some 163) #[true, true, true, true, true, true, true, true, false, false] rfl rfl (one_of HT_.out (by kernel_rfl)) (by decide) (fun K hK => ?_);refine Kd.R_lit_step (Kd.raw 4) (w0 := w9) w9.heap.size 67 (by rfl) (N := 163) rfl (xs := [[.int .i64 now, .int .i64 10, .int .i64 id0, .int .i64 0]]) (inner := [.int .i64 now, .int .i64 10, .int .i64 id0, .int .i64 0]) (ok := fun _ => True) (okp := fun _ => False) ?hr ?hp (fun _ h => h.elim) trivial (Below.refl _ _) (Nat.le_refl _) (by simp) ?_
   (case hr => first | (go_simp; done) | (go_simp; rfl))
   (case hp => exact reps_one)
   intro vL w10 hR10 hB10 _ _;obtain ⟨AL, cL, eL, hcL, hCL⟩ := Kd.R_reads hR10;subst eL;refine hK.out _ _ ⟨(hZ (hHeld.1.out.below hB10)), ((hB10.cell (World.block_lt_of_cell? _ _ hHeld.2.1)).trans hHeld.2.1), (hZ (hHeld.2.2.out.trans (hB10.mono hHeld.2.2.out.size)))⟩ (fun hHeld => ?_);clear hK K;refine norm_ (a' := ?_) ?_ ?_;rotate_left
   ·show Act.put _ (some 163) _ = _;simp only [Act.put, sqA, sqB, sqC, i64_w, i32_w];rfl
   refine last_ (i := 8) (N := some 164) #[true, true, true, true, true, true, true, true, true, false] rfl rfl (one_of HT_.out (by kernel_rfl)) (by decide) (fun K hK => ?_);refine Kd.R_append_rows_step (Kd.raw 4) (Rr := (Kd.raw 4).K w10) (w0 := w10) w.heap.size (by rfl) (.tmp 156) (.tmp 163) 48 67 (.agg #[.int .i64 0, .int .i64 0, .int .i64 0, .int .i64 0]) 32 rfl Tryz.underlying48 info67 rfl (by decide) (by omega) u5 (ea.map Ev.cells) [[.int .i64 now, .int .i64 10, .int .i64 id0, .int .i64 0]] AL 1 cL (fun _ => True) (fun _ => False) (by rfl) (by rfl) hHeld.1.out.E hCL (fun _ _ h => h) (fun _ h => h.elim) (fun _ _ => trivial) (Below.refl _ _) (by have := hHeld.2.2.out.size; omega) (by simp only [List.length_map, List.length_append, List.length_cons, List.length_nil]; omega) ?_;intro vO w11 hR11 hB11 hg11 hat11;have HR11 := hZ hR11;have HT11 := hZ (grown_turn hg11);have HAT := hZ hat11;have HB10x := hZ (hbd.out.trans (hHeld.2.2.out.mono hbd.out.size));clear hR11 hB11 hg11 hat11;refine hK.out _ _ ?_;clear hK K;refine norm_ (a' := ?_) ?_ ?_;rotate_left
   ·show Act.put _ (some 164) _ = _;simp only [Act.put, sqA, sqB, sqC, i64_w, i32_w];rfl
   refine pst 9 (some 5) HT_ ?_;refine done_ (done_of HT_.out (by kernel_rfl)) ?_;have HEF := hZ (HE6.out.ev (E' := [⟨now, 10, id0, 0⟩]) HB10x.out HT11.out HR11.out HAT.out);clear hHeld HB10x HT11 HR11 HAT hbd hsd HE6 hid6;go_wp2;go_ret
   have hfin : fin = (lb, qa, ea ++ [⟨now, 10, id0, 0⟩]) := by
    rw [HEND.out];unfold endB;rw [getD57 hia, if_pos hz, HLB.out, HI0.out]
   rw [hfin];exact ⟨oN, _, rfl, HEF.out.sub, HEF.out.O, HEF.out.E, HEF.out.T⟩
  ·have hzb : (((la[i].f2.length : Nat) : Int) == 0) = false := beq_eq_false_iff_ne.2 (by omega);have hid4 : wc.cell? ⟨g, i * 11, none⟩ = some (.int .i64 id0) := r0;by_cases hm2 : la[i].f1.f4 = 2
   ·have hmb : (la[i].f1.f4 == 2) = true := by simpa using hm2
    go_upto_region 23 with fail
    clear r0 r1 r2 r3 r4 r5 r6 HRow;refine start_ (n := 10) (S := fun w' => Hid (En B w.heap.size s #[.int .i64 M, .int .i64 now, .slice (some ⟨g, 0, none⟩) l.length o.c, .slice o.A2 q.length o.c2, .slice A4 0 c4] #[.int .i64 j.f0, .slice (rr 0).1 j.f1.length (rr 0).2, .int .i64 j.f2, .int .i64 j.f3] #[.int .i64 st0, .int .i64 st1] w o oN la qa ea u5 w') /\ w'.cell? ⟨g, i * 11, none⟩ = some (.int .i64 id0) /\ Hid (Below wc.drew.heap.size wc.drew w')) (ds := [8]) #[false, false, false, false, false, false, false, false, false, false] (by kernel_rfl) rfl rfl ⟨(hZ (HEN.out.below (below_drew (Below.refl _ _)))), (show wc.drew.cell? _ = _ from hid4), (hZ (Below.refl wc.drew.heap.size wc.drew))⟩ (fun hHeld => ?_);refine with_tabW endw.tab23 endw.bits23 (fun HT_ HW_ => ?_);have hbd := drB wc;have hsd : wc.heap.size = wc.drew.heap.size := rfl;generalize hwd : wc.drew = wd at *;clear hwd;refine pst 0 (some 172) HT_ ?_;refine pst 2 (some 174) HT_ ?_;refine pst 3 (some 175) HT_ ?_;refine pst 4 (some 176) HT_ ?_;refine tst 1 (some 173) HT_ HW_ hHeld ?_ (hy := by (rintro w' ⟨s0, s1, s2⟩; have e0 := (blk_cell s0.out.X 0).trans rfl; have e1 := (blk_cell s0.out.X 1).trans rfl; have e2 := (blk_cell s0.out.X 2).trans rfl; have e3 := (blk_cell s0.out.X 3).trans rfl; have e4 := (blk_cell s0.out.X 4).trans rfl); go_simp; with_reducible rfl);refine tst 5 (some 177) HT_ HW_ hHeld ?_ (hy := by (rintro w' ⟨s0, s1, s2⟩; have e0 := (blk_cell s0.out.X 0).trans rfl; have e1 := (blk_cell s0.out.X 1).trans rfl; have e2 := (blk_cell s0.out.X 2).trans rfl; have e3 := (blk_cell s0.out.X 3).trans rfl; have e4 := (blk_cell s0.out.X 4).trans rfl); go_simp; with_reducible rfl);refine one_ (i := 6) (N := some 178) #[true, true, true, true, true, true, true, false, false, false] rfl rfl (one_of HT_.out (by kernel_rfl)) (by decide) (fun K hK => ?_);refine goes_ Tryz.func28 (by kernel_rfl) rfl #[stV M now (some ⟨g, 0, none⟩) l.length o.c o.A2 q.length o.c2 A4 c4, .int .i64 4, .int .i64 id0, .int .i64 0] (by rfl) rfl rfl (by simp only [List.map_toArray, List.map_cons, List.map_nil]; rfl) ?_;with_reducible refine (event_calls _ _ _ _ _ _ _ _ _ _ 4 id0 0 _).mono ?_;rintro e w9 ⟨rfl, hB9⟩;refine ⟨_, rfl, ?_⟩;refine hK.out _ _ ⟨(hZ (hHeld.1.out.below hB9)), ((hB9.cell (World.block_lt_of_cell? _ _ hHeld.2.1)).trans hHeld.2.1), (hZ (hHeld.2.2.out.trans (hB9.mono hHeld.2.2.out.size)))⟩ (fun hHeld => ?_);clear hK K;refine norm_ (a' := ?_) ?_ ?_;rotate_left
    ·show Act.put _ (some 178) _ = _;simp only [Act.put, sqA, sqB, sqC, i64_w, i32_w];rfl
    refine one_ (i := 7) (N := some 179) #[true, true, true, true, true, true, true, true, false, false] rfl rfl (one_of HT_.out (by kernel_rfl)) (by decide) (fun K hK => ?_);refine Kd.R_lit_step (Kd.raw 4) (w0 := w9) w9.heap.size 67 (by rfl) (N := 179) rfl (xs := [[.int .i64 now, .int .i64 4, .int .i64 id0, .int .i64 0]]) (inner := [.int .i64 now, .int .i64 4, .int .i64 id0, .int .i64 0]) (ok := fun _ => True) (okp := fun _ => False) ?hr ?hp (fun _ h => h.elim) trivial (Below.refl _ _) (Nat.le_refl _) (by simp) ?_
    (case hr => first | (go_simp; done) | (go_simp; rfl))
    (case hp => exact reps_one)
    intro vL w10 hR10 hB10 _ _;obtain ⟨AL, cL, eL, hcL, hCL⟩ := Kd.R_reads hR10;subst eL;refine hK.out _ _ ⟨(hZ (hHeld.1.out.below hB10)), ((hB10.cell (World.block_lt_of_cell? _ _ hHeld.2.1)).trans hHeld.2.1), (hZ (hHeld.2.2.out.trans (hB10.mono hHeld.2.2.out.size)))⟩ (fun hHeld => ?_);clear hK K;refine norm_ (a' := ?_) ?_ ?_;rotate_left
    ·show Act.put _ (some 179) _ = _;simp only [Act.put, sqA, sqB, sqC, i64_w, i32_w];rfl
    refine last_ (i := 8) (N := some 180) #[true, true, true, true, true, true, true, true, true, false] rfl rfl (one_of HT_.out (by kernel_rfl)) (by decide) (fun K hK => ?_);refine Kd.R_append_rows_step (Kd.raw 4) (Rr := (Kd.raw 4).K w10) (w0 := w10) w.heap.size (by rfl) (.tmp 172) (.tmp 179) 48 67 (.agg #[.int .i64 0, .int .i64 0, .int .i64 0, .int .i64 0]) 32 rfl Tryz.underlying48 info67 rfl (by decide) (by omega) u5 (ea.map Ev.cells) [[.int .i64 now, .int .i64 4, .int .i64 id0, .int .i64 0]] AL 1 cL (fun _ => True) (fun _ => False) (by rfl) (by rfl) hHeld.1.out.E hCL (fun _ _ h => h) (fun _ h => h.elim) (fun _ _ => trivial) (Below.refl _ _) (by have := hHeld.2.2.out.size; omega) (by simp only [List.length_map, List.length_append, List.length_cons, List.length_nil]; omega) ?_;intro vO w11 hR11 hB11 hg11 hat11;have HR11 := hZ hR11;have HT11 := hZ (grown_turn hg11);have HAT := hZ hat11;have HB10x := hZ (hbd.out.trans (hHeld.2.2.out.mono hbd.out.size));clear hR11 hB11 hg11 hat11;refine hK.out _ _ ?_;clear hK K;refine norm_ (a' := ?_) ?_ ?_;rotate_left
    ·show Act.put _ (some 180) _ = _;simp only [Act.put, sqA, sqB, sqC, i64_w, i32_w];rfl
    refine pst 9 (some 5) HT_ ?_;refine done_ (done_of HT_.out (by kernel_rfl)) ?_;have HEF := hZ (HEN.out.ev (E' := [⟨now, 4, id0, 0⟩]) HB10x.out HT11.out HR11.out HAT.out);clear hHeld HB10x HT11 HR11 HAT hbd hsd HEN hid4;go_wp2;go_ret
    have hfin : fin = (la, qa, ea ++ [⟨now, 4, id0, 0⟩]) := by
     rw [HEND.out];unfold endB;rw [getD57 hia, if_neg hz, if_pos hm2, HI0.out]
    rw [hfin];exact ⟨oN, _, rfl, HEF.out.sub, HEF.out.O, HEF.out.E, HEF.out.T⟩
   ·have hmb : (la[i].f1.f4 == 2) = false := by simpa using hm2
    go_wp2;go_ret
    have hfin : fin = (la, qa, ea) := by
     rw [HEND.out];unfold endB;rw [getD57 hia, if_neg hz, if_neg hm2, List.append_nil]
    rw [hfin];exact ⟨oN, _, rfl, HEN.out.sub, HEN.out.O, HEN.out.E, HEN.out.T⟩
 case first =>
  have hserv := (HE4.out.O.cells hi HG.out).2;have r7 := hserv.e7;have r8 := hserv.e8;clear hserv;by_cases hov : j.f3 = st1
  ·skip
   have hovb : (j.f3 == st1) = true := by rw [hov]; simp
   have hAL := overA_alike now l q hi st0;obtain ⟨⟨l1, q1, e1⟩, ha1⟩ : ∃ a, overA now l q i l[i] st0 = a := ⟨_, rfl⟩;rw [ha1] at hAL;dsimp only at hAL;obtain ⟨hAL, hfew⟩ := hAL;have hi1 : i < l1.length := by rw [hAL.len]; exact hi
   have HOV := hZ (endA_over hi HXX.out HST.out hov ha1 hi1);have HA1 := hZ ha1;have HAL := hZ (hAL.at_ i hi hi1);have hl1 := hAL.len;have HOVE := hZ hov;clear hAL ha1 hov
   go_upto_block 2 with fail
   go_cut [5, 10] from 11 (fun v5 v10 wx => ∃ o1, o1.A = o.A /\ Hid (En B w.heap.size s #[.int .i64 M, .int .i64 now, .slice (some ⟨g, 0, none⟩) l.length o.c, .slice o.A2 q.length o.c2, .slice A4 0 c4] #[.int .i64 j.f0, .slice (rr 0).1 j.f1.length (rr 0).2, .int .i64 j.f2, .int .i64 j.f3] #[.int .i64 st0, .int .i64 st1] w o o1 l1 q1 e1 v5 wx))
   case rest =>
    obtain ⟨o1, hg1, HE1⟩ := hcut;clear HE4 u3 x1 r7 r8;have hgN := hg1.trans HG.out;have hx1 : l1[i].f2 = j :: js := HAL.out.2.2.trans HXX.out;obtain ⟨b1, oo1, rr1, hb1, hjr1, hpr1⟩ := (HE1.out.O.jobs i hi1).row (by rw [hx1]; simp);rw [hx1] at hjr1 hpr1;have r6 := (HE1.out.O.cells hi1 hgN).2.e6;rw [hx1, hb1] at r6;simp only [List.length_cons] at r6
    have hF : ∀ wx, Turn w wx (fun b => ∃ c, o.own c = some b) -> Kd.F k72 wx B.G (rr 0).1 j.f1.length j.f1 := fun wx hT W' hW => HP0.out.2 W' (fun b hb hlt => by
     rw [hW b hb (Nat.lt_of_lt_of_le hlt hT.size)];exact hT.block b hlt (fun ⟨c, hc⟩ => by have := (HO.out.bnd c b hc).1; have := B.lt b hb; omega))
    have DN := fun wx (hT : Turn w wx (fun b => ∃ c, o.own c = some b)) => jnext_calls j (rr 0).1 (rr 0).2 wx (hF wx hT wx (fun _ _ _ => rfl)) HJ.out (by rw [HST.out]; exact HOVE.out)
    have HJR := hZ hjr1;have HPR := hZ hpr1;have HB1 := hZ hb1;have HX1 := hZ hx1;have HFF := hZ hF;clear hjr1 hpr1 hb1 hx1 hF
    go_upto_region 11 with fail
    refine start_ (n := 11) (S := fun w' => Hid (En B w.heap.size s #[.int .i64 M, .int .i64 now, .slice (some ⟨g, 0, none⟩) l.length o.c, .slice o.A2 q.length o.c2, .slice A4 0 c4] #[.int .i64 j.f0, .slice (rr 0).1 j.f1.length (rr 0).2, .int .i64 j.f2, .int .i64 j.f3] #[.int .i64 st0, .int .i64 st1] w o o1 l1 q1 e1 u5 w') /\ w'.cell? ⟨g, i * 11 + 6, none⟩ = some (.slice (some ⟨b1, oo1, none⟩) (js.length + 1) (o1.r i).2) /\ Hid (RowAt w' b1 oo1 4 125 (rowsOf jobRow (j :: js) rr1)) /\ Hid (Below wc.drew.heap.size wc.drew w')) (ds := [10]) #[false, false, false, false, false, false, false, false, false, false, false] (by kernel_rfl) rfl rfl ⟨(hZ (HE1.out.below (below_drew (Below.refl _ _)))), (show wc.drew.cell? _ = _ from r6), (hZ HJR.out.drew), (hZ (Below.refl wc.drew.heap.size wc.drew))⟩ (fun hHeld => ?_);refine with_tabW endw.tab11 endw.bits11 (fun HT_ HW_ => ?_);have hbd := drB wc;have hsd : wc.heap.size = wc.drew.heap.size := rfl;generalize hwd : wc.drew = wd at *;clear hwd;refine pst 0 (some 71) HT_ ?_;refine pst 1 (some 72) HT_ ?_;refine pst 2 (some 73) HT_ ?_;refine tst 3 (some 74) HT_ HW_ hHeld ?_ (hy := by (rintro w' ⟨s0, s1, s2, s3⟩; have u0 := (blk_cell s0.out.J 0).trans rfl; have u1 := (blk_cell s0.out.J 1).trans rfl; have u2 := (blk_cell s0.out.J 2).trans rfl; have u3 := (blk_cell s0.out.J 3).trans rfl); go_simp; with_reducible rfl);refine tst 4 (some 75) HT_ HW_ hHeld ?_ (hy := by (rintro w' ⟨s0, s1, s2, s3⟩; have u0 := (blk_cell s0.out.J 0).trans rfl; have u1 := (blk_cell s0.out.J 1).trans rfl; have u2 := (blk_cell s0.out.J 2).trans rfl; have u3 := (blk_cell s0.out.J 3).trans rfl); go_simp; with_reducible rfl);refine one_ (i := 5) (N := some 76) #[true, true, true, true, true, true, false, false, false, false, false] rfl rfl (one_of HT_.out (by kernel_rfl)) (by decide) (fun K hK => ?_);refine goes_ Tryz.func111 (by kernel_rfl) rfl #[.agg #[.int .i64 j.f0, .slice (rr 0).1 j.f1.length (rr 0).2, .int .i64 j.f2, .int .i64 j.f3]] (by rfl) rfl rfl (by simp only [List.map_toArray, List.map_cons, List.map_nil]; rfl) ?_;with_reducible refine (DN _ hHeld.1.out.T).mono ?_;rintro e w5 ⟨rfl, hB5⟩;refine ⟨_, rfl, ?_⟩;refine hK.out _ _ ⟨(hZ (hHeld.1.out.below hB5)), ((hB5.cell (World.block_lt_of_cell? _ _ hHeld.2.1)).trans hHeld.2.1), (hZ (hHeld.2.2.1.out.below hB5)), (hZ (hHeld.2.2.2.out.trans (hB5.mono hHeld.2.2.2.out.size)))⟩ (fun hHeld => ?_);clear hK K;refine norm_ (a' := ?_) ?_ ?_;rotate_left
    ·show Act.put _ (some 76) _ = _;simp only [Act.put, sqA, sqB, sqC, i64_w, i32_w];rfl
    refine pst 6 (some 70) HT_ ?_;refine pst 7 (some 77) HT_ ?_;refine pst 8 (some 78) HT_ ?_;refine pst 9 (some 79) HT_ ?_;refine last_ (i := 10) (N := none) #[true, true, true, true, true, true, true, true, true, true, true] rfl rfl (one_of HT_.out (by kernel_rfl)) (by decide) (fun K hK => ?_);obtain ⟨x0, x1, x2, x3⟩ := job_at hHeld.2.2.1.out;have y := hHeld.2.2.1.out.free;refine skip_ (w1 := ?_) (by rfl) rfl ?_ ?_;rotate_left
    ·go_simp;rfl
    have HJ7 := hZ (job_set hHeld.2.2.1.out (.int .i64 j.f0) (.slice (rr 0).1 j.f1.length (rr 0).2) (.int .i64 (j.f2 + 1)) (.int .i64 0));have HT7 := hZ (turn_set4 (Turn.refl w5 (fun k => k = b1)) rfl oo1 (.int .i64 j.f0) (.slice (rr 0).1 j.f1.length (rr 0).2) (.int .i64 (j.f2 + 1)) (.int .i64 0));clear x0 x1 x2 x3 y;generalize hws : World.setCell _ _ _ = w7 at *;clear hws;refine hK.out _ _ ?_;clear hK K;refine done_ (done_of HT_.out (by kernel_rfl)) ?_
    have HE2 : Hid (En B w.heap.size s #[.int .i64 M, .int .i64 now, .slice (some ⟨g, 0, none⟩) l.length o.c, .slice o.A2 q.length o.c2, .slice A4 0 c4] #[.int .i64 j.f0, .slice (rr 0).1 j.f1.length (rr 0).2, .int .i64 j.f2, .int .i64 j.f3] #[.int .i64 st0, .int .i64 st1] w o o1 (l1.set i { l1[i] with f2 := { j with f2 := j.f2 + 1, f3 := 0 } :: js }) q1 e1 u5 w7) := hZ (by
     have h5 := hHeld.1.out
     have hpr5 : Progs w5 B (j :: js) rr1 := fun k hk => ⟨(HPR.out k hk).1, fun W' hW => (HPR.out k hk).2 W' (fun b hb hlt => by
      rw [hW b hb (Nat.lt_of_lt_of_le hlt (Nat.le_trans hbd.out.size hHeld.2.2.2.out.size))];exact (hbd.out.trans (hHeld.2.2.2.out.mono hbd.out.size)).block b hlt)⟩
     exact h5.job hi1 (j := j) (js := js) (j' := { j with f2 := j.f2 + 1, f3 := 0 }) HX1.out HB1.out hpr5 (p0 := rr 0) ⟨HP0.out.1, HFF.out _ h5.T⟩ HT7.out HJ7.out)
    have hl2 : i < (l1.set i { l1[i] with f2 := { j with f2 := j.f2 + 1, f3 := 0 } :: js }).length := by rw [List.length_set]; exact hi1
    have hx2 : (l1.set i { l1[i] with f2 := { j with f2 := j.f2 + 1, f3 := 0 } :: js })[i] = { l1[i] with f2 := { j with f2 := j.f2 + 1, f3 := 0 } :: js } := List.getElem_set_self hl2;have h0 : (l1.set i { l1[i] with f2 := { j with f2 := j.f2 + 1, f3 := 0 } :: js })[i].f0 = l[i].f0 := by rw [hx2]; exact HAL.out.1
    have hset : ∀ y : S57, (l1.set i { l1[i] with f2 := { j with f2 := j.f2 + 1, f3 := 0 } :: js }).set i y = l1.set i y := fun y => List.set_set ..
    have HX2 := hZ hx2;have HSET := hZ hset;have HL2 : Hid (l1.set i { l1[i] with f2 := { j with f2 := j.f2 + 1, f3 := 0 } :: js } = l1.set i { l1[i] with f2 := { j with f2 := j.f2 + 1, f3 := 0 } :: js }) := hZ rfl;generalize hj2 : ({ j with f2 := j.f2 + 1, f3 := 0 } : S125) = j2 at *;generalize hll2 : l1.set i { l1[i] with f2 := j2 :: js } = l2 at *;have HLL := hZ hll2;have HJ2 := hZ hj2;clear hHeld HJ7 HT7 HE1 HJR HPR HB1 HX1 DN r6 hbd hsd hx2 hset HL2 hj2 hll2 hB5;have hx2 : l2[i].f2 = j2 :: js := by rw [HX2.out]
    obtain ⟨b2, oo2, rr2, hb2, hjr2, hpr2⟩ := (HE2.out.O.jobs i hl2).row (by rw [hx2]; simp);rw [hx2] at hjr2;obtain ⟨z0, z1, z2, z3⟩ := job_at hjr2;have hs2 := (HE2.out.O.cells hl2 hgN).2;have r6 := hs2.e6;rw [hx2, hb2] at r6;simp only [List.length_cons] at r6;have r0 := hs2.e0;rw [h0] at r0;have ej2 : j2.f2 = j.f2 + 1 := by rw [<- HJ2.out]
    rw [ej2] at z2;have u1 := (blk_cell HE2.out.J 1).trans rfl;have HB2 := hZ hb2;have HX2F := hZ hx2;clear hjr2 hpr2 hs2 hb2 hx2 z0 z1 z3 ej2 h0
    go_upto_region 12 with fail
    go_quiet (fail);by_cases hat : j.f2 + 1 = (j.f1.length : Int)
    ·have hatb : (j.f2 + 1 == (j.f1.length : Int)) = true := by rw [hat]; simp
     have HAT2 := hZ hat;clear hat
     go_upto_region 13 with fail
     have HE3 := hZ (HE2.out.below (pw_below_drewN (Below.refl _ _) nq));generalize w7.drewN nq = w8 at *;clear HE2 r0 r6 z2 u1 HB2;have hid8 := (HE3.out.O.cells hl2 hgN).2.e0;have h0 : l2[i].f0 = l[i].f0 := by rw [HX2.out]; exact HAL.out.1
     rw [h0] at hid8;generalize hid0 : l[i].f0 = id0 at hid8 HID HOV;have HI0 := hZ hid0;have hNs8 : w.heap.size <= w8.heap.size := HE3.out.T.size;clear hid0 h0;refine start_ (n := 12) (S := fun w' => Hid (En B w.heap.size s #[.int .i64 M, .int .i64 now, .slice (some ⟨g, 0, none⟩) l.length o.c, .slice o.A2 q.length o.c2, .slice A4 0 c4] #[.int .i64 j.f0, .slice (rr 0).1 j.f1.length (rr 0).2, .int .i64 j.f2, .int .i64 j.f3] #[.int .i64 st0, .int .i64 st1] w o o1 l2 q1 e1 u5 w') /\ w'.cell? ⟨g, i * 11, none⟩ = some (.int .i64 id0) /\ Hid (Below w8.drew.heap.size w8.drew w')) (ds := [10]) #[false, false, false, false, false, false, false, false, false, false, false, false] (by kernel_rfl) rfl rfl ⟨(hZ (HE3.out.below (below_drew (Below.refl _ _)))), (show w8.drew.cell? _ = _ from hid8), (hZ (Below.refl w8.drew.heap.size w8.drew))⟩ (fun hHeld => ?_);refine with_tabW endw.tab13 endw.bits13 (fun HT_ HW_ => ?_);have hbd := drB w8;have hsd : w8.heap.size = w8.drew.heap.size := rfl;generalize hwd : w8.drew = wd at *;clear hwd;refine pst 0 (some 91) HT_ ?_;refine pst 2 (some 93) HT_ ?_;refine pst 3 (some 94) HT_ ?_;refine pst 4 (some 95) HT_ ?_;refine pst 6 (some 97) HT_ ?_;refine tst 1 (some 92) HT_ HW_ hHeld ?_ (hy := by (rintro w' ⟨s0, s1, s2⟩; have e0 := (blk_cell s0.out.X 0).trans rfl; have e1 := (blk_cell s0.out.X 1).trans rfl; have e2 := (blk_cell s0.out.X 2).trans rfl; have e3 := (blk_cell s0.out.X 3).trans rfl; have e4 := (blk_cell s0.out.X 4).trans rfl; have u0 := (blk_cell s0.out.J 0).trans rfl); go_simp; with_reducible rfl);refine tst 5 (some 96) HT_ HW_ hHeld ?_ (hy := by (rintro w' ⟨s0, s1, s2⟩; have e0 := (blk_cell s0.out.X 0).trans rfl; have e1 := (blk_cell s0.out.X 1).trans rfl; have e2 := (blk_cell s0.out.X 2).trans rfl; have e3 := (blk_cell s0.out.X 3).trans rfl; have e4 := (blk_cell s0.out.X 4).trans rfl; have u0 := (blk_cell s0.out.J 0).trans rfl); go_simp; with_reducible rfl);refine tst 7 (some 98) HT_ HW_ hHeld ?_ (hy := by (rintro w' ⟨s0, s1, s2⟩; have e0 := (blk_cell s0.out.X 0).trans rfl; have e1 := (blk_cell s0.out.X 1).trans rfl; have e2 := (blk_cell s0.out.X 2).trans rfl; have e3 := (blk_cell s0.out.X 3).trans rfl; have e4 := (blk_cell s0.out.X 4).trans rfl; have u0 := (blk_cell s0.out.J 0).trans rfl); go_simp; with_reducible rfl);refine one_ (i := 8) (N := some 99) #[true, true, true, true, true, true, true, true, true, false, false, false] rfl rfl (one_of HT_.out (by kernel_rfl)) (by decide) (fun K hK => ?_);refine goes_ Tryz.func28 (by kernel_rfl) rfl #[stV M now (some ⟨g, 0, none⟩) l.length o.c o.A2 q.length o.c2 A4 c4, .int .i64 2, .int .i64 id0, .int .i64 j.f0] (by rfl) rfl rfl (by simp only [List.map_toArray, List.map_cons, List.map_nil]; rfl) ?_;with_reducible refine (event_calls _ _ _ _ _ _ _ _ _ _ 2 id0 j.f0 _).mono ?_;rintro e w9 ⟨rfl, hB9⟩;refine ⟨_, rfl, ?_⟩;refine hK.out _ _ ⟨(hZ (hHeld.1.out.below hB9)), ((hB9.cell (World.block_lt_of_cell? _ _ hHeld.2.1)).trans hHeld.2.1), (hZ (hHeld.2.2.out.trans (hB9.mono hHeld.2.2.out.size)))⟩ (fun hHeld => ?_);clear hK K;refine norm_ (a' := ?_) ?_ ?_;rotate_left
     ·show Act.put _ (some 99) _ = _;simp only [Act.put, sqA, sqB, sqC, i64_w, i32_w];rfl
     refine one_ (i := 9) (N := some 100) #[true, true, true, true, true, true, true, true, true, true, false, false] rfl rfl (one_of HT_.out (by kernel_rfl)) (by decide) (fun K hK => ?_);refine Kd.R_lit_step (Kd.raw 4) (w0 := w9) w9.heap.size 67 (by rfl) (N := 100) rfl (xs := [[.int .i64 now, .int .i64 2, .int .i64 id0, .int .i64 j.f0]]) (inner := [.int .i64 now, .int .i64 2, .int .i64 id0, .int .i64 j.f0]) (ok := fun _ => True) (okp := fun _ => False) ?hr ?hp (fun _ h => h.elim) trivial (Below.refl _ _) (Nat.le_refl _) (by simp) ?_
     (case hr => first | (go_simp; done) | (go_simp; rfl))
     (case hp => exact reps_one)
     intro vL w10 hR10 hB10 _ _;obtain ⟨AL, cL, eL, hcL, hCL⟩ := Kd.R_reads hR10;subst eL;refine hK.out _ _ ⟨(hZ (hHeld.1.out.below hB10)), ((hB10.cell (World.block_lt_of_cell? _ _ hHeld.2.1)).trans hHeld.2.1), (hZ (hHeld.2.2.out.trans (hB10.mono hHeld.2.2.out.size)))⟩ (fun hHeld => ?_);clear hK K;refine norm_ (a' := ?_) ?_ ?_;rotate_left
     ·show Act.put _ (some 100) _ = _;simp only [Act.put, sqA, sqB, sqC, i64_w, i32_w];rfl
     refine last_ (i := 10) (N := some 101) #[true, true, true, true, true, true, true, true, true, true, true, false] rfl rfl (one_of HT_.out (by kernel_rfl)) (by decide) (fun K hK => ?_);refine Kd.R_append_rows_step (Kd.raw 4) (Rr := (Kd.raw 4).K w10) (w0 := w10) w.heap.size (by rfl) (.tmp 91) (.tmp 100) 48 67 (.agg #[.int .i64 0, .int .i64 0, .int .i64 0, .int .i64 0]) 32 rfl Tryz.underlying48 info67 rfl (by decide) (by omega) u5 (e1.map Ev.cells) [[.int .i64 now, .int .i64 2, .int .i64 id0, .int .i64 j.f0]] AL 1 cL (fun _ => True) (fun _ => False) (by rfl) (by rfl) hHeld.1.out.E hCL (fun _ _ h => h) (fun _ h => h.elim) (fun _ _ => trivial) (Below.refl _ _) (by have := hHeld.2.2.out.size; omega) (by simp only [List.length_map, List.length_append, List.length_cons, List.length_nil]; omega) ?_;intro vO w11 hR11 hB11 hg11 hat11;have HR11 := hZ hR11;have HT11 := hZ (grown_turn hg11);have HAT := hZ hat11;have HB10x := hZ (hbd.out.trans (hHeld.2.2.out.mono hbd.out.size));clear hR11 hB11 hg11 hat11;refine hK.out _ _ ?_;clear hK K;refine norm_ (a' := ?_) ?_ ?_;rotate_left
     ·show Act.put _ (some 101) _ = _;simp only [Act.put, sqA, sqB, sqC, i64_w, i32_w];rfl
     refine pst 11 (some 5) HT_ ?_;refine done_ (done_of HT_.out (by kernel_rfl)) ?_;have HEF := hZ (HE3.out.ev (E' := [⟨now, 2, id0, j.f0⟩]) HB10x.out HT11.out HR11.out HAT.out);clear hHeld HB10x HT11 HR11 HAT hbd hsd HE3 hid8 hR10 hB10 hB9 hCL hcL;obtain ⟨b3, oo3, rr3, hb3, _, _⟩ := (HEF.out.O.jobs i hl2).row (by rw [HX2F.out]; simp);have hs3 := (HEF.out.O.cells hl2 hgN).2;have r6 := hs3.e6;rw [HX2F.out, hb3] at r6;simp only [List.length_cons] at r6;have hRow11 := (HEF.out.O.cells hl2 hgN).1;have HRow11 := hZ hRow11;have f6 := hRow11.free (i * 11 + 6);have hcapp := (HEF.out.O.jobs i hl2).cap;rw [HX2F.out] at hcapp;simp only [List.length_cons] at hcapp;have HB3 := hZ hb3;clear hs3 hRow11 hb3;have hA3 := HEA.out;rw [HOV.out, if_pos HAT2.out] at hA3;injection hA3 with h3a h3b;injection h3b with h3b h3c;have HRow12 := serv_set HRow11.out (rows_at hl2) (j := 6) (by omega) (.slice (if (o1.r i).2 = 1 then some ⟨b3, oo3, none⟩ else some ⟨b3, oo3 + 4, none⟩) js.length ((o1.r i).2 - 1));have HT12 := ((Turn.refl w11 (fun b => b = g)).set rfl (i * 11 + 6) (.slice (if (o1.r i).2 = 1 then some ⟨b3, oo3, none⟩ else some ⟨b3, oo3 + 4, none⟩) js.length ((o1.r i).2 - 1)))
     obtain ⟨o2, hsub2, hA2, hE12⟩ := HEF.out.pop hl2 HX2F.out { l1[i] with f2 := js } rfl hgN HB3.out HT12 (by
      rw [HX2.out] at HRow12;exact HRow12)
     rw [HSET.out] at hE12;dsimp only at hE12;rw [h3a, h3b, h3c] at hE12;have HA2 := hZ hA2;clear HRow12 HT12 hA2 hsub2 h3a h3b h3c HOV HEF;by_cases hc1 : (o1.r i).2 = 1
     ·rw [if_pos hc1, hc1] at hE12;have HE12 := hZ hE12;clear hE12;go_wp2;go_meet;exact ⟨o2, HA2.out.trans hg1, HE12⟩
     ·rw [if_neg hc1] at hE12;have HE12 := hZ hE12;clear hE12;go_wp2;go_meet;exact ⟨o2, HA2.out.trans hg1, HE12⟩
    ·have hatb : (j.f2 + 1 == (j.f1.length : Int)) = false := beq_eq_false_iff_ne.2 hat;go_wp2;go_meet;have hA3 := HEA.out;rw [HOV.out, if_neg hat] at hA3;injection hA3 with h3a h3b;injection h3b with h3b h3c;subst h3a h3b h3c;exact ⟨o1, hg1, hZ (HE2.out.below (pw_below_drewN (Below.refl _ _) _))⟩
   case first =>
    by_cases hsec : l[i].f3 = 2
    ·have hsecb : (l[i].f3 == 2) = true := by rw [hsec]; rfl
     obtain ⟨n, rfl⟩ : ∃ n : Nat, st0 = (n : Int) + 1 := ⟨(st0 - 1).toNat, by have := hsem2 hsec; omega⟩;have hn : n < q.length := by omega
     have hRow4 := (HE4.out.O.cells hi HG.out).1;have HRow4 := hZ hRow4;have f7 := hRow4.free (i * 11 + 7);have HA2 := HA1.out;unfold overA at HA2;rw [if_pos hsec, show ((n : Int) + 1 - 1).toNat = n by omega] at HA2;have HSC := hZ hsec;clear hRow4 hsec
     go_upto_region 10 with fail
     have HRow5 := hZ (serv_set HRow4.out (rows_at hi) (j := 7) (by omega) (.int .i64 0));have HT5 := hZ ((Turn.refl w4 (fun b => b = g)).set rfl (i * 11 + 7) (.int .i64 0));generalize hws : World.setCell _ _ _ = w5 at *;have HE5 := hZ (HE4.out.serv hi { l[i] with f3 := 0 } rfl HG.out HT5.out HRow5.out);have hK : Kept l (l.set i { l[i] with f3 := 0 }) := (Kept.refl l).set _ (fun _ => ⟨rfl, rfl⟩);generalize hl2 : l.set i { l[i] with f3 := 0 } = l2 at *;have DF := fun wx (hw : Own wx B l2 q o) => free_calls M now l2 q B o A4 c4 n false wx hw (hK.sorted hs) (by rw [hK.len]; exact hl12) hn hq8 (fun id h => hK.ids ((hque n hn).1 id h)) (hque n hn).2
     rw [HG.out, hK.len] at DF;unfold stV at DF;rw [HA2] at DF;dsimp only at DF;have e0 := (blk_cell HE5.out.X 0).trans rfl;have e1' := (blk_cell HE5.out.X 1).trans rfl;have e2' := (blk_cell HE5.out.X 2).trans rfl;have e3' := (blk_cell HE5.out.X 3).trans rfl;have e4' := (blk_cell HE5.out.X 4).trans rfl;have x0 := (blk_cell HE5.out.S 0).trans rfl;have hs5 : s < w5.heap.size := blk_lt HE5.out.S;clear hws HE4 HRow4 HRow5 HT5 f7 r7 r8 hK hl2 HA2 u3 x1
     go_wp2_with (first
      | (go_at_call 110; (with_reducible refine (DF _ HE5.out.O).mono ?_); rintro e w6 hP; obtain ⟨o3, v3, rfl, hA3, hE6, hR6⟩ := HE5.out.done hP; have HE6 := hZ (hE6.told hR6 hs5); have HA3 := hZ hA3; clear hP hE6 hR6 hA3))
     go_meet;exact ⟨o3, HA3.out, HE6⟩
    ·have hsecb : (l[i].f3 == 2) = false := beq_eq_false_iff_ne.2 hsec;go_wp2;go_meet;have hA3 := HA1.out;unfold overA at hA3;rw [if_neg hsec] at hA3;injection hA3 with h3a h3b;injection h3b with h3b h3c;subst h3a h3b h3c;exact ⟨o, rfl, HE4⟩
  ·have hovb : (j.f3 == st1) = false := beq_eq_false_iff_ne.2 hov;by_cases hsec : l[i].f3 = 2
   ·have hsecb : (l[i].f3 == 2) = true := by rw [hsec]; rfl
    obtain ⟨n, rfl⟩ : ∃ n : Nat, st0 = (n : Int) + 1 := ⟨(st0 - 1).toNat, by have := hsem2 hsec; omega⟩;have hn : n < q.length := by omega
    obtain ⟨h, hh, hlok⟩ := HE4.out.O.lok (by intro e; rw [e] at hn; simp at hn);obtain ⟨k0, _, _, _⟩ := lock_at hlok hn;have q3 : w4.cell? ⟨w.heap.size, 3, none⟩ = some (.slice (some ⟨h, 0, none⟩) q.length o.c2) := by rw [<- hh]; exact (blk_cell HE4.out.X 3).trans rfl
    have x0 := (blk_cell HE4.out.S 0).trans rfl;have n1 : IntKind.i64.wrap ((n : Int) + 1 - 1) = (n : Int) := by rw [i64_w]; unfold Go.RowKit.wrap64; omega
    have n0 : (0 : Int) <= (n : Int) := by omega
    have n2 : (n : Int) < (q.length : Int) := by omega
    have HH := hZ hh;clear hlok hh;by_cases hmost : l[i].f4 = q[n].f0
    ·have hmb : (l[i].f4 == q[n].f0) = true := by rw [hmost]; simp
     go_upto_region 8 with fail
     go_quiet (fail)
     go_upto_region 15 with fail
     have HE5 := hZ (HE4.out.below (pw_below_drewN (Below.refl _ _) nq));generalize w4.drewN nq = w5 at *;clear HE4 u3 x1 r7 r8 k0 q3 x0;have hid5 : w5.cell? ⟨g, i * 11, none⟩ = some (.int .i64 l[i].f0) := (HE5.out.O.cells hi HG.out).2.e0;generalize hid0 : l[i].f0 = id0 at hid5 HID;have HI0 := hZ hid0;have hNs5 : w.heap.size <= w5.heap.size := HE5.out.T.size;clear hid0;refine start_ (n := 12) (S := fun w' => Hid (En B w.heap.size s #[.int .i64 M, .int .i64 now, .slice (some ⟨g, 0, none⟩) l.length o.c, .slice o.A2 q.length o.c2, .slice A4 0 c4] #[.int .i64 j.f0, .slice (rr 0).1 j.f1.length (rr 0).2, .int .i64 j.f2, .int .i64 j.f3] #[.int .i64 ((n : Int) + 1), .int .i64 st1] w o o l q [] (.slice none 0 0) w') /\ w'.cell? ⟨g, i * 11, none⟩ = some (.int .i64 id0) /\ Hid (Below w5.drew.heap.size w5.drew w')) (ds := [10]) #[false, false, false, false, false, false, false, false, false, false, false, false] (by kernel_rfl) rfl rfl ⟨(hZ (HE5.out.below (below_drew (Below.refl _ _)))), (show w5.drew.cell? _ = _ from hid5), (hZ (Below.refl w5.drew.heap.size w5.drew))⟩ (fun hHeld => ?_);refine with_tabW endw.tab15 endw.bits15 (fun HT_ HW_ => ?_);have hbd := drB w5;have hsd : w5.heap.size = w5.drew.heap.size := rfl;generalize hwd : w5.drew = wd at *;clear hwd;refine pst 0 (some 110) HT_ ?_;refine pst 2 (some 112) HT_ ?_;refine pst 3 (some 113) HT_ ?_;refine pst 4 (some 114) HT_ ?_;refine pst 6 (some 116) HT_ ?_;refine tst 1 (some 111) HT_ HW_ hHeld ?_ (hy := by (rintro w' ⟨s0, s1, s2⟩; have e0 := (blk_cell s0.out.X 0).trans rfl; have e1 := (blk_cell s0.out.X 1).trans rfl; have e2 := (blk_cell s0.out.X 2).trans rfl; have e3 := (blk_cell s0.out.X 3).trans rfl; have e4 := (blk_cell s0.out.X 4).trans rfl; have u0 := (blk_cell s0.out.J 0).trans rfl); go_simp; with_reducible rfl);refine tst 5 (some 115) HT_ HW_ hHeld ?_ (hy := by (rintro w' ⟨s0, s1, s2⟩; have e0 := (blk_cell s0.out.X 0).trans rfl; have e1 := (blk_cell s0.out.X 1).trans rfl; have e2 := (blk_cell s0.out.X 2).trans rfl; have e3 := (blk_cell s0.out.X 3).trans rfl; have e4 := (blk_cell s0.out.X 4).trans rfl; have u0 := (blk_cell s0.out.J 0).trans rfl); go_simp; with_reducible rfl);refine tst 7 (some 117) HT_ HW_ hHeld ?_ (hy := by (rintro w' ⟨s0, s1, s2⟩; have e0 := (blk_cell s0.out.X 0).trans rfl; have e1 := (blk_cell s0.out.X 1).trans rfl; have e2 := (blk_cell s0.out.X 2).trans rfl; have e3 := (blk_cell s0.out.X 3).trans rfl; have e4 := (blk_cell s0.out.X 4).trans rfl; have u0 := (blk_cell s0.out.J 0).trans rfl); go_simp; with_reducible rfl);refine one_ (i := 8) (N := some 118) #[true, true, true, true, true, true, true, true, true, false, false, false] rfl rfl (one_of HT_.out (by kernel_rfl)) (by decide) (fun K hK => ?_);refine goes_ Tryz.func28 (by kernel_rfl) rfl #[stV M now (some ⟨g, 0, none⟩) l.length o.c o.A2 q.length o.c2 A4 c4, .int .i64 3, .int .i64 id0, .int .i64 j.f0] (by rfl) rfl rfl (by simp only [List.map_toArray, List.map_cons, List.map_nil]; rfl) ?_;with_reducible refine (event_calls _ _ _ _ _ _ _ _ _ _ 3 id0 j.f0 _).mono ?_;rintro e w9 ⟨rfl, hB9⟩;refine ⟨_, rfl, ?_⟩;refine hK.out _ _ ⟨(hZ (hHeld.1.out.below hB9)), ((hB9.cell (World.block_lt_of_cell? _ _ hHeld.2.1)).trans hHeld.2.1), (hZ (hHeld.2.2.out.trans (hB9.mono hHeld.2.2.out.size)))⟩ (fun hHeld => ?_);clear hK K;refine norm_ (a' := ?_) ?_ ?_;rotate_left
     ·show Act.put _ (some 118) _ = _;simp only [Act.put, sqA, sqB, sqC, i64_w, i32_w];rfl
     refine one_ (i := 9) (N := some 119) #[true, true, true, true, true, true, true, true, true, true, false, false] rfl rfl (one_of HT_.out (by kernel_rfl)) (by decide) (fun K hK => ?_);refine Kd.R_lit_step (Kd.raw 4) (w0 := w9) w9.heap.size 67 (by rfl) (N := 119) rfl (xs := [[.int .i64 now, .int .i64 3, .int .i64 id0, .int .i64 j.f0]]) (inner := [.int .i64 now, .int .i64 3, .int .i64 id0, .int .i64 j.f0]) (ok := fun _ => True) (okp := fun _ => False) ?hr ?hp (fun _ h => h.elim) trivial (Below.refl _ _) (Nat.le_refl _) (by simp) ?_
     (case hr => first | (go_simp; done) | (go_simp; rfl))
     (case hp => exact reps_one)
     intro vL w10 hR10 hB10 _ _;obtain ⟨AL, cL, eL, hcL, hCL⟩ := Kd.R_reads hR10;subst eL;refine hK.out _ _ ⟨(hZ (hHeld.1.out.below hB10)), ((hB10.cell (World.block_lt_of_cell? _ _ hHeld.2.1)).trans hHeld.2.1), (hZ (hHeld.2.2.out.trans (hB10.mono hHeld.2.2.out.size)))⟩ (fun hHeld => ?_);clear hK K;refine norm_ (a' := ?_) ?_ ?_;rotate_left
     ·show Act.put _ (some 119) _ = _;simp only [Act.put, sqA, sqB, sqC, i64_w, i32_w];rfl
     refine last_ (i := 10) (N := some 120) #[true, true, true, true, true, true, true, true, true, true, true, false] rfl rfl (one_of HT_.out (by kernel_rfl)) (by decide) (fun K hK => ?_);refine Kd.R_append_rows_step (Kd.raw 4) (Rr := (Kd.raw 4).K w10) (w0 := w10) w.heap.size (by rfl) (.tmp 110) (.tmp 119) 48 67 (.agg #[.int .i64 0, .int .i64 0, .int .i64 0, .int .i64 0]) 32 rfl Tryz.underlying48 info67 rfl (by decide) (by omega) (.slice none 0 0) ([].map Ev.cells) [[.int .i64 now, .int .i64 3, .int .i64 id0, .int .i64 j.f0]] AL 1 cL (fun _ => True) (fun _ => False) (by rfl) (by rfl) hHeld.1.out.E hCL (fun _ _ h => h) (fun _ h => h.elim) (fun _ _ => trivial) (Below.refl _ _) (by have := hHeld.2.2.out.size; omega) (by simp only [List.length_map, List.length_append, List.length_cons, List.length_nil]; omega) ?_;intro vO w11 hR11 hB11 hg11 hat11;have HR11 := hZ hR11;have HT11 := hZ (grown_turn hg11);have HAT := hZ hat11;have HB10x := hZ (hbd.out.trans (hHeld.2.2.out.mono hbd.out.size));clear hR11 hB11 hg11 hat11;refine hK.out _ _ ?_;clear hK K;refine norm_ (a' := ?_) ?_ ?_;rotate_left
     ·show Act.put _ (some 120) _ = _;simp only [Act.put, sqA, sqB, sqC, i64_w, i32_w];rfl
     refine pst 11 (some 5) HT_ ?_;refine done_ (done_of HT_.out (by kernel_rfl)) ?_;have HEF := hZ (HE5.out.ev (E' := [⟨now, 3, id0, j.f0⟩]) HB10x.out HT11.out HR11.out HAT.out);have HVO := hZ hHeld;clear hHeld HVO HB10x HT11 HR11 HAT hbd hsd HE5 hid5 hR10 hB10 hB9 hCL hcL;simp only [List.nil_append] at HEF;obtain ⟨b1, oo1, rr1, hb1, _, _⟩ := (HEF.out.O.jobs i hi).row (by rw [HXX.out]; simp);have hserv := (HEF.out.O.cells hi HG.out).2;have r6 := hserv.e6;have r7 := hserv.e7;rw [HXX.out, hb1] at r6;simp only [List.length_cons] at r6;have hRow11 := (HEF.out.O.cells hi HG.out).1;have HRow11 := hZ hRow11;have f6 := hRow11.free (i * 11 + 6);have f7 := hRow11.free (i * 11 + 7);have HB1 := hZ hb1;have hcapp := (HEF.out.O.jobs i hi).cap;rw [HXX.out] at hcapp;simp only [List.length_cons] at hcapp;clear hserv hRow11 hb1
     go_upto_region 18 with fail
     have hrl : i < (rowsOf servRow l o.r).length := by rw [rowsOf_len]; exact hi
     have HRow12 := hZ (serv_set (serv_set HRow11.out (rows_at hi) (j := 6) (by omega) (.slice (if (o.r i).2 = 1 then some ⟨b1, oo1, none⟩ else some ⟨b1, oo1 + 4, none⟩) js.length ((o.r i).2 - 1))) (List.getElem?_set_self hrl) (j := 7) (by omega) (.int .i64 0));have HT12 := hZ (((Turn.refl w11 (fun b => b = g)).set rfl (i * 11 + 6) (.slice (if (o.r i).2 = 1 then some ⟨b1, oo1, none⟩ else some ⟨b1, oo1 + 4, none⟩) js.length ((o.r i).2 - 1))).set rfl (i * 11 + 7) (.int .i64 0));generalize hws : World.setCell _ _ _ = w12 at *;clear hws r6 r7 f6 f7 HRow11;simp only [List.set_set] at HRow12;obtain ⟨o2, hsub2, hA2, hE12⟩ := HEF.out.pop hi HXX.out { l[i] with f2 := js, f3 := 0 } rfl HG.out HB1.out HT12.out HRow12.out;have HE12 := hZ hE12;clear HT12 HRow12;generalize (if (o.r i).2 = 1 then some (⟨b1, oo1, none⟩ : Addr) else some ⟨b1, oo1 + 4, none⟩) = pA at *;have hK : Kept l (l.set i { l[i] with f2 := js, f3 := 0 }) := (Kept.refl l).set _ (fun _ => ⟨rfl, rfl⟩);have hA3 := HEA.out;rw [endA_held hi HXX.out HST.out hov hsec hn hmost] at hA3;generalize hl2 : l.set i { l[i] with f2 := js, f3 := 0 } = l2 at *;have hff := freeL_few now l2 q n true;have DF := fun wx (hw : Own wx B l2 q o2) => free_calls M now l2 q B o2 A4 c4 n true wx hw (hK.sorted hs) (by rw [hK.len]; exact hl12) hn hq8 (fun id h => hK.ids ((hque n hn).1 id h)) (hque n hn).2
     rw [hsub2.1, hsub2.2.1, hsub2.2.2.1, hsub2.2.2.2.1, HG.out, hK.len] at DF;unfold stV at DF;generalize freeL now l2 q n true = fr at *;obtain ⟨l3, q3, e3⟩ := fr;injection hA3 with h3a h3b;injection h3b with h3b h3c;dsimp only at h3a h3b h3c hff DF;have H3A := hZ h3a;have H3B := hZ h3b;have H3C := hZ h3c;have HSUB2 := hZ hA2;have e0 := (blk_cell HE12.out.X 0).trans rfl;have e1 := (blk_cell HE12.out.X 1).trans rfl;have e2 := (blk_cell HE12.out.X 2).trans rfl;have e3' := (blk_cell HE12.out.X 3).trans rfl;have e4 := (blk_cell HE12.out.X 4).trans rfl;have x0 := (blk_cell HE12.out.S 0).trans rfl;clear hE12 hK hl2 h3a h3b h3c hsub2 hA2 HEF HB1 HEA
     go_wp2_with (first
      | ((with_reducible refine gate_builtin (b := .append) (xs := #[.tmp 132, .tmp 136]) rfl ?_); at_builtin; refine Kd.R_append_rows (Kd.raw 4) (Rr := (Kd.raw 4).K w13) (okp := fun _ => False) (w0 := w13) w.heap.size rfl (.tmp 132) (.tmp 136) 48 67 (.agg #[.int .i64 0, .int .i64 0, .int .i64 0, .int .i64 0]) 32 rfl Tryz.underlying48 info67 rfl (by decide) (by omega) _ (List.map Ev.cells [⟨now, 3, id0, j.f0⟩]) (e3.map Ev.cells) AL _ cL (fun _ => True) rfl rfl HE13.out.E HCL.out (fun _ _ h => h) (fun _ h => h.elim) (fun _ _ => trivial) (Below.refl _ _) HE13.out.T.size ?aL ?_; (case aL => (simp only [List.length_map, List.length_append, List.length_cons, List.length_nil]; omega)); intro vF w14 hR14 hB14 hg14 hat14; have HE14 := hZ (HE13.out.ev (E' := e3) (Below.refl _ _) (grown_turn hg14) hR14 hat14); clear hR14 hB14 hg14 hat14)
      | (go_at_call 110; (with_reducible refine (DF _ HE12.out.O).mono ?_); rintro e w13 hP; obtain ⟨o3, v3, rfl, hA3, hE13, hR13⟩ := HE12.out.done hP; obtain ⟨AL, cL, rfl, hcL, hCL⟩ := Kd.R_reads hR13; simp only [List.length_map] at hCL; have HE13 := hZ hE13; have HCL := hZ hCL; have HA3 := hZ hA3; clear hP hE13 hR13 hCL hcL hA3))
     go_meet;refine ⟨o3, HA3.out.trans HSUB2.out, ?_⟩;rw [<- H3A.out, <- H3B.out, <- H3C.out, HI0.out];exact HE14
    ·have hmb : (l[i].f4 == q[n].f0) = false := beq_eq_false_iff_ne.2 hmost
     go_upto_region 8 with fail
     go_quiet (fail);go_wp2;go_meet;have hA3 := HEA.out;rw [endA_none hi HXX.out HST.out hov (fun _ => ⟨n, hn, rfl, hmost⟩)] at hA3;injection hA3 with h3a h3b;injection h3b with h3b h3c;subst h3a h3b h3c;exact ⟨o, rfl, hZ (HE4.out.below (pw_below_drewN (Below.refl _ _) _))⟩
   ·have hsecb : (l[i].f3 == 2) = false := beq_eq_false_iff_ne.2 hsec
    go_upto_region 8 with fail
    go_quiet (fail);go_wp2;go_meet;have hA3 := HEA.out;rw [endA_none hi HXX.out HST.out hov (fun e => absurd e hsec)] at hA3;injection hA3 with h3a h3b;injection h3b with h3b h3c;subst h3a h3b h3c;exact ⟨o, rfl, hZ (HE4.out.below (pw_below_drewN (Below.refl _ _) _))⟩
theorem grow_calls (w : World) : Calls Tryz.prog 109 #[.slice none 0 0, .int .i64 0] w fun e w' => e = .returned (.slice none 0 0) /\ w' = w := by
 go_enter Tryz.func109, Tryz.ntmps109;go_wp2;go_ret;exact ⟨rfl, rfl⟩
theorem concat_calls (ad : Addr) (c : Nat) (w : World) (h : ∀ k, k < 2 -> ∃ A c, w.cell? (ad.add k) = some (.slice A 0 c)) :
  Calls Tryz.prog 91 #[.slice (some ad) 2 c] w fun e w' => ∃ A' c', e = .returned (.slice A' 0 c') /\ Below w.heap.size w w' := by
 have HC := hZ h;clear h;go_enter Tryz.func91, Tryz.ntmps91;go_wp2
 go_loopw [3, 11] (fun v3 v11 wr => ∃ (k : Nat), v11 = .int .i64 k /\ k <= 2 /\ v3 = .int .i64 0 /\ wr = w) (fun _ v11 _ => 2 - (intOf v11).toNat)
 case atStart => exact ⟨0, rfl, Nat.zero_le _, rfl, rfl⟩
 case round =>
  obtain ⟨k, rfl, hk, rfl, rfl⟩ := hrel;by_cases hlt : k < 2
  ·obtain ⟨A, c1, hc⟩ := HC.out k hlt;have k0 : (0 : Int) <= (k : Int) := by omega
   have k1 : (k : Int) < 2 := by omega
   go_wp2;go_roundw
   case rel => exact ⟨k + 1, by go_num, by omega, by first | rfl | trivial⟩
   case measure => first | (simp [intOf]; done) | (simp [intOf]; omega)
  ·have hk2 : k = 2 := by omega
   subst hk2
   go_wp2_with (go_at_call 109; (with_reducible refine (grow_calls _).mono ?_); rintro e w1 ⟨rfl, rfl⟩)
   go_loopw [6, 27] (fun v6 v27 wr => ∃ (k : Nat), v27 = .int .i64 k /\ k <= 2 /\ Hid ((Kd.raw 2).R 134 wr w1.heap.size (fun _ => True) v6 []) /\ Hid (Below w1.heap.size w1 wr)) (fun _ v27 _ => 2 - (intOf v27).toNat)
   case atStart => exact ⟨0, rfl, Nat.zero_le _, hZ (Kd.R_nil _ _ _ _ _), hZ (Below.refl _ _)⟩
   case round =>
    obtain ⟨k, rfl, hk, HR, HB⟩ := hrel;by_cases hlt : k < 2
    ·obtain ⟨A, c1, hc0⟩ := HC.out k hlt;have hc := (HB.out.cell (World.block_lt_of_cell? _ _ hc0)).trans hc0;clear hc0;have k0 : (0 : Int) <= (k : Int) := by omega
     have k1 : (k : Int) < 2 := by omega
     go_wp2_with (((with_reducible refine gate_builtin (b := .append) (xs := #[.tmp 31, .tmp 32]) rfl ?_); at_builtin; refine Kd.R_append_rows (Kd.raw 2) (Rr := (Kd.raw 2).K wr) (okp := fun _ => False) (w0 := w1) w1.heap.size rfl (.tmp 31) (.tmp 32) 45 134 (.agg #[.int .i64 0, .int .i64 0]) 16 rfl Tryz.underlying45 info134 rfl (by decide) (by omega) _ [] [] A 0 c1 (fun _ => True) rfl rfl HR.out (C_nil' (Kd.raw 2) wr A) (fun _ _ h => h) (fun _ h => h.elim) (fun _ _ => trivial) HB.out HB.out.size (by simp) ?_; intro v2 w2 hR2 hB2 _ _; have HR2 := hZ hR2; have HB2 := hZ hB2; clear hR2 hB2))
     go_roundw
     case rel => exact ⟨k + 1, by go_num, by omega, HR2, HB2⟩
     case measure => first | (simp [intOf]; done) | (simp [intOf]; omega)
    ·have hk2 : k = 2 := by omega
     subst hk2;obtain ⟨A, c1, rfl, _, _⟩ := Kd.R_reads HR.out;go_wp2;go_ret;exact ⟨A, c1, rfl, HB.out⟩
def placesOf (M : Int) (l : List S57) : List Nat := (runsL M l).map (ahead l)
def runAll (l : List S57) (ps : List Nat) : List S57 := ps.foldl (fun l p => l.set p (runV (l.getD p z57))) l
def endStep (now : Int) (st : List S57 × List S63 × List Ev) (p : Nat) : List S57 × List S63 × List Ev := ((endL now st.1 st.2.1 p).1, (endL now st.1 st.2.1 p).2.1, st.2.2 ++ (endL now st.1 st.2.1 p).2.2)
def endAll (now : Int) (l : List S57) (q : List S63) (ps : List Nat) : List S57 × List S63 × List Ev := ps.foldl (endStep now) (l, q, [])
def tickL (M now : Int) (l : List S57) (q : List S63) : List S57 × List S63 × List Ev :=
 let s := settleL M now l q
 let e := endAll (now + 1) (runAll s.1 (placesOf M s.1)) s.2.1 (placesOf M s.1)
 (e.1, e.2.1, s.2.2 ++ e.2.2)
def RunAt (l : List S57) (p : Nat) : Prop := ∃ h : p < l.length, CbsOk l[p].f1 /\ l[p].f1.f4 = 1 /\ (∃ j js, l[p].f2 = j :: js /\ JobOk j /\ (l[p].f3 ≠ 1 -> j.f3 + 1 <= (stepOf j).f1)) /\ (0 <= l[p].f6 /\ l[p].f6 <= 4611686018427387904) /\ (0 <= l[p].f4 /\ l[p].f4 <= 4611686018427387904)
structure TickOk (M now : Int) (l : List S57) (q : List S63) : Prop where
 ok : MOk M now l q
 sane : Sane M (settleL M now l q).1
 run : ∀ p ∈ placesOf M (settleL M now l q).1, RunAt (settleL M now l q).1 p
 ends : ∀ k (h : k < (placesOf M (settleL M now l q).1).length), EndOk (endAll (now + 1) (runAll (settleL M now l q).1 (placesOf M (settleL M now l q).1)) (settleL M now l q).2.1 ((placesOf M (settleL M now l q).1).take k)).1 (endAll (now + 1) (runAll (settleL M now l q).1 (placesOf M (settleL M now l q).1)) (settleL M now l q).2.1 ((placesOf M (settleL M now l q).1).take k)).2.1 (placesOf M (settleL M now l q).1)[k]
structure Ids (l l' : List S57) : Prop where
 len : l'.length = l.length
 at_ : ∀ k (h : k < l.length) (h' : k < l'.length), l'[k].f0 = l[k].f0
theorem Ids.refl (l : List S57) : Ids l l := ⟨rfl, fun _ _ _ => rfl⟩
theorem Ids.trans {a b c : List S57} (h : Ids a b) (k : Ids b c) : Ids a c := by
 refine ⟨k.len.trans h.len, fun n h1 h2 => ?_⟩;have h3 : n < b.length := by rw [h.len]; exact h1
 exact (k.at_ n h3 h2).trans (h.at_ n h1 h3)
theorem Ids.set {l : List S57} (i : Nat) (x : S57) (hx : ∀ (h : i < l.length), x.f0 = l[i].f0) : Ids l (l.set i x) := by
 refine ⟨by rw [List.length_set], fun k h1 h2 => ?_⟩;rw [List.getElem_set];by_cases e : i = k
 ·subst e; rw [if_pos rfl]; exact hx h1
 ·rw [if_neg e]
theorem Ids.sorted {l l' : List S57} (h : Ids l l') (hs : Sorted l) : Sorted l' := by
 unfold Sorted at *;rw [List.pairwise_iff_getElem] at *;intro a b ha hb hab;have ha' : a < l.length := by rw [<- h.len]; exact ha
 have hb' : b < l.length := by rw [<- h.len]; exact hb
 rw [h.at_ a ha' ha, h.at_ b hb' hb];exact hs a b ha' hb' hab
theorem runAll_ids (ps : List Nat) : ∀ (l : List S57), Ids l (runAll l ps) := by
 induction ps with
 | nil => exact fun l => Ids.refl l
 | cons p r ih =>
  intro l;exact (Ids.set p (runV (l.getD p z57)) (fun h => by rw [getD57 h]; rfl)).trans (ih _)
theorem runAll_keep (ps : List Nat) : ∀ (l : List S57) {i : Nat} (h : i ∉ ps) (h1 : i < l.length) (h2 : i < (runAll l ps).length), (runAll l ps)[i] = l[i] := by
 induction ps with
 | nil => exact fun l i _ _ _ => rfl
 | cons p r ih =>
  intro l i h h1 h2;have h3 : i < (l.set p (runV (l.getD p z57))).length := by rw [List.length_set]; exact h1
  have := ih (l.set p (runV (l.getD p z57))) (i := i) (fun e => h (List.mem_cons_of_mem _ e)) h3 h2;refine this.trans ?_;rw [List.getElem_set, if_neg (fun e => h (by rw [e]; simp))]
theorem runAll_take {l : List S57} {ps : List Nat} {k : Nat} (h : k < ps.length) : runAll l (ps.take (k + 1)) = (runAll l (ps.take k)).set ps[k] (runV ((runAll l (ps.take k)).getD ps[k] z57)) := by
 unfold runAll;rw [List.take_succ_eq_append_getElem h, List.foldl_append];rfl
theorem endAll_take {now : Int} {l : List S57} {q : List S63} {ps : List Nat} {k : Nat} (h : k < ps.length) : endAll now l q (ps.take (k + 1)) = endStep now (endAll now l q (ps.take k)) ps[k] := by
 unfold endAll;rw [List.take_succ_eq_append_getElem h, List.foldl_append];rfl
theorem runs_nodup {M : Int} {l : List S57} (hs : Sorted l) : (runsL M l).Nodup := by
 have h1 := readyL_sorted hs;unfold runsL pickL pickE;have h2 : ((readyL l).map Ent.id).Nodup := by rw [List.nodup_iff_pairwise_ne]; exact h1.imp (fun h => by omega)
 exact h2.sublist ((List.filter_sublist).map _)
theorem places_at {M : Int} {l : List S57} (hs : Sorted l) {k : Nat} (h : k < (placesOf M l).length) : ∃ (h1 : k < (runsL M l).length) (h2 : (placesOf M l)[k] < l.length), l[(placesOf M l)[k]].f0 = (runsL M l)[k] /\ l[(placesOf M l)[k]].f1.f4 = 1 := by
 have h1 : k < (runsL M l).length := by unfold placesOf at h; simpa using h
 have e : (placesOf M l)[k] = ahead l (runsL M l)[k] := by show ((runsL M l).map (ahead l))[k]'h = _; exact List.getElem_map _
 obtain ⟨p, hp, hp1, hp2⟩ := runs_mem (List.getElem_mem h1);have e2 : (placesOf M l)[k] = p := by rw [e, <- hp1]; exact ahead_at hs hp
 refine ⟨h1, by rw [e2]; exact hp, ?_⟩;simp only [e2];exact ⟨hp1, hp2⟩
theorem places_nodup {M : Int} {l : List S57} (hs : Sorted l) : (placesOf M l).Nodup := by
 rw [List.nodup_iff_pairwise_ne, List.pairwise_iff_getElem];intro a b ha hb hab e;obtain ⟨a1, a2, a3, _⟩ := places_at hs ha;obtain ⟨b1, b2, b3, _⟩ := places_at hs hb;have h1 : (runsL M l)[a] = (runsL M l)[b] := by rw [<- a3, <- b3]; simp only [e]
 have h2 := runs_nodup (M := M) hs;rw [List.nodup_iff_pairwise_ne, List.pairwise_iff_getElem] at h2;exact h2 a b a1 b1 hab h1
theorem places_len {M : Int} {l : List S57} (hl : l.length <= 12) : (placesOf M l).length <= 12 := by
 unfold placesOf;rw [List.length_map];exact Nat.le_trans (pickL_le _ _) (Nat.le_trans (readyL_len l) hl)
theorem not_mem_take {ps : List Nat} (hn : ps.Nodup) {k : Nat} (h : k < ps.length) : ps[k] ∉ ps.take k := by
 intro hm;obtain ⟨a, ha, e⟩ := List.mem_iff_getElem.1 hm;rw [List.length_take] at ha;rw [List.getElem_take] at e;rw [List.nodup_iff_pairwise_ne, List.pairwise_iff_getElem] at hn;exact hn a k (by omega) h (by omega) e
theorem RunAt.keep {l l' : List S57} {p : Nat} (h : RunAt l p) (he : ∀ (h1 : p < l.length), ∃ h2 : p < l'.length, l'[p] = l[p]) : RunAt l' p := by
 obtain ⟨h1, h3⟩ := h;obtain ⟨h2, e⟩ := he h1;exact ⟨h2, by rw [e]; exact h3⟩
theorem refAll_few : ∀ (n : Nat) (M now : Int) (l : List S57) (q : List S63), (refAll n M now l q).2.length <= n
 | 0, _, _, _, _ => by simp [refAll]
 | n + 1, M, now, l, q => by
  rw [refAll];split
  ·simp
  ·simp only [List.length_cons];have := refAll_few n M now;exact Nat.succ_le_succ (this _ _)
theorem grant1_few (now : Int) (st : List S57 × List S63 × List Ev) (p : Nat × Int) : (grant1 now st p).2.2.length <= st.2.2.length + 2 := by
 unfold grant1;dsimp only;split
 ·exact Nat.le_add_right _ _
 ·split <;> simp
theorem grants_few (now : Int) : ∀ (ps : List (Nat × Int)) (st : List S57 × List S63 × List Ev), (ps.foldl (grant1 now) st).2.2.length <= st.2.2.length + 2 * ps.length
 | [], st => by simp
 | p :: r, st => by
  have h1 := grants_few now r (grant1 now st p);have h2 := grant1_few now st p;simp only [List.foldl_cons, List.length_cons];omega
theorem turnL_len (now : Int) (l : List S57) : (turnL now l).length = l.length := by simp [turnL]
theorem waitAt_len (l : List S57) (i : Nat) : (waitAt l i).length = l.length := by simp [waitAt]
theorem refAll_len : ∀ (n : Nat) (M now : Int) (l : List S57) (q : List S63), (refAll n M now l q).1.length = l.length
 | 0, _, _, _, _ => rfl
 | n + 1, M, now, l, q => by
  rw [refAll];split
  ·rfl
  ·exact (refAll_len n M now _ _).trans (waitAt_len _ _)
theorem asksL_few {M : Int} {l : List S57} (hl : l.length <= 12) : (asksL M l).length <= 12 := by
 unfold asksL asksOf;refine Nat.le_trans (List.length_filterMap_le _ _) ?_;rw [List.length_map];exact Nat.le_trans (pickL_le _ _) (Nat.le_trans (readyL_len l) hl)
theorem settleL_few (M now : Int) (l : List S57) (q : List S63) (hl : l.length <= 12) : (settleL M now l q).2.2.length <= 100 := by
 unfold settleL;dsimp only;refine Nat.le_trans (grants_few _ _ _) ?_;have h1 := refAll_few (l.length + 1) M now (turnL now l) q;have h2 : (refAll (l.length + 1) M now (turnL now l) q).1.length <= 12 := by rw [refAll_len, turnL_len]; exact hl
 have h3 := asksL_few (M := M) h2
 have h4 : (turnE now l).length <= 12 := by
  unfold turnE;rw [List.length_map];exact Nat.le_trans (List.length_filter_le _ _) hl
 rw [List.length_append];omega
theorem endL_few (now : Int) (l : List S57) (q : List S63) (i : Nat) : (endL now l q i).2.2.length <= 4 := by
 unfold endL;dsimp only;have := endA_few now l q i;rw [List.length_append]
 have h2 : (endB now (endA now l q i).1 i).2.length <= 1 := by
  unfold endB;split
  ·simp
  ·split <;> simp
 omega
theorem endAll_few (now : Int) (l : List S57) (q : List S63) (ps : List Nat) : (endAll now l q ps).2.2.length <= 4 * ps.length := by
 have : ∀ (ps : List Nat) st, (ps.foldl (endStep now) st).2.2.length <= st.2.2.length + 4 * ps.length := by
  intro ps
  induction ps with
  | nil => intro st; simp
  | cons p r ih =>
   intro st;have h1 := ih (endStep now st p);have h2 := endL_few now st.1 st.2.1 p;have h3 : (endStep now st p).2.2.length = st.2.2.length + (endL now st.1 st.2.1 p).2.2.length := by unfold endStep; simp
   simp only [List.foldl_cons, List.length_cons];omega
 have := this ps (l, q, []);simpa [endAll] using this
structure Tk (N : Nat) (B : Bd) (bx zx : Array Value) (o : OwnR) (Ap : Option Addr) (ps : List Nat) (w0 : World) (o' : OwnR) (l : List S57) (q : List S63) (E : List Ev) (v : Value) (w : World) : Prop where
 X : w.heap[N]? = some (.cells bx 47 (0, 0))
 Z : w.heap[N + 1]? = some (.cells zx 47 (0, 0))
 O : Own w B l q o'
 sub : o'.sub o
 E : (Kd.raw 4).R 67 w N (fun _ => True) v (E.map Ev.cells)
 VB : ∀ b, v.ownBlock = some b -> N + 1 < b /\ (∀ c, o.own c ≠ some b) /\ ∀ ad, Ap = some ad -> ad.block ≠ b
 P : ∀ k (h : k < ps.length), ∃ ad, Ap = some ad /\ w.cell? (ad.add k) = some (.int .i64 ps[k])
 PB : ∀ ad, Ap = some ad -> ∀ c, o.own c ≠ some ad.block
 PL : ∀ ad, Ap = some ad -> ad.block < w.heap.size
 OB : ∀ c b, o.own c = some b -> N + 1 < b
 Bl : Below N w0 w
 N0 : N = w0.heap.size
 NB : B <= N
section
variable {N : Nat} {B : Bd} {bx zx : Array Value} {o : OwnR} {Ap : Option Addr} {ps : List Nat} {w0 : World} {o' : OwnR} {l : List S57} {q : List S63} {E : List Ev} {v : Value} {w w' : World}
theorem cell_keep {w w' : World} {ad : Addr} {v : Value} (h : w.cell? ad = some v) (hb : w'.heap[ad.block]? = w.heap[ad.block]?) : w'.cell? ad = some v := by
 rw [<- h];simp only [World.cell?, hb]
theorem Tk.below (h : Tk N B bx zx o Ap ps w0 o' l q E v w) (hb : Below w.heap.size w w') : Tk N B bx zx o Ap ps w0 o' l q E v w' where
 X := blk_below h.X hb
 Z := blk_below h.Z hb
 O := h.O.below hb
 sub := h.sub
 E := Kd.R_below h.E hb
 VB := h.VB
 P := fun k hk => by
  obtain ⟨ad, e, hc⟩ := h.P k hk;exact ⟨ad, e, (hb.cell (World.block_lt_of_cell? _ _ hc)).trans hc⟩
 PB := h.PB
 PL := fun ad e => Nat.lt_of_lt_of_le (h.PL ad e) hb.size
 OB := h.OB
 Bl := h.Bl.trans (hb.mono (by rw [h.N0]; exact h.Bl.size))
 N0 := h.N0
 NB := h.NB
theorem Tk.done (h : Tk N B bx zx o Ap ps w0 o' l q E v w) {l' : List S57} {q' : List S63} {E' : List Ev} {e : Ending} (hd : DoneP B o' l' q' E' w e w') : ∃ o2 v', e = .returned v' /\ Tk N B bx zx o Ap ps w0 o2 l' q' E v w' /\ (Kd.raw 4).R 67 w' w.heap.size (fun _ => True) v' (E'.map Ev.cells) := by
 obtain ⟨o2, v', rfl, hsub, hO, hR, hT⟩ := hd;have hS : ∀ b, (∃ c, o'.own c = some b) -> ∃ c, o.own c = some b := fun b ⟨c, hc⟩ => ⟨c, h.sub.2.2.2.2 c b hc⟩
 refine ⟨o2, v', rfl, ⟨?_, ?_, hO, hsub.trans h.sub, ?_, h.VB, fun k hk => ?_, h.PB, fun ad e => Nat.lt_of_lt_of_le (h.PL ad e) hT.size, h.OB, ?_, h.N0, h.NB⟩, hR⟩
 ·exact (hT.block _ (blk_lt h.X) (fun e => by obtain ⟨c, hc⟩ := hS _ e; have := h.OB c _ hc; omega)).trans h.X
 ·exact (hT.block _ (blk_lt h.Z) (fun e => by obtain ⟨c, hc⟩ := hS _ e; have := h.OB c _ hc; omega)).trans h.Z
 ·exact Kd.R_reok rfl (Kd.R_step (Kd.R_tight rfl h.E) (fun b hb hlt => hT.block b hlt (fun e => by obtain ⟨c, hc⟩ := hS _ e; exact (h.VB b hb.symm).2.1 c hc))) (fun _ _ => trivial)
 ·obtain ⟨ad, e, hc⟩ := h.P k hk;refine ⟨ad, e, cell_keep hc ?_⟩;rw [add_block];exact hT.block _ (h.PL ad e) (fun e2 => by obtain ⟨c, hc⟩ := hS _ e2; exact h.PB ad e c hc)
 ·exact Turn.below h.Bl hT (fun b e => by obtain ⟨c, hc⟩ := hS _ e; have := h.OB c _ hc; omega) (by rw [h.N0]; exact h.Bl.size)
theorem Tk.ev (h : Tk N B bx zx o Ap ps w0 o' l q E v w) {v' : Value} (ht : Turn w w' (fun b => some b = v.ownBlock)) {E' : List Ev} (hR : (Kd.raw 4).R 67 w' N (fun _ => True) v' (E.map Ev.cells ++ E'.map Ev.cells)) (hat : v'.ownBlock = v.ownBlock \/ ∃ b, v'.ownBlock = some b /\ w.heap.size <= b) (hlt : ∀ c b, o.own c = some b -> b < w.heap.size) : Tk N B bx zx o Ap ps w0 o' l q (E ++ E') v' w' := by
 have hS := fun b (e : some b = v.ownBlock) => h.VB b e.symm
 have hNB := h.NB;refine ⟨?_, ?_, ?_, h.sub, by rw [List.map_append]; exact hR, fun b hb2 => ?_, fun k hk => ?_, h.PB, fun ad e => Nat.lt_of_lt_of_le (h.PL ad e) ht.size, h.OB, ?_, h.N0, h.NB⟩
 ·exact (ht.block _ (blk_lt h.X) (fun e => by have := (hS _ e).1; omega)).trans h.X
 ·exact (ht.block _ (blk_lt h.Z) (fun e => by have := (hS _ e).1; omega)).trans h.Z
 ·exact h.O.keep ht (fun b e => by have := (hS _ e).1; omega) (fun c b hc e => (hS b e).2.1 c (h.sub.2.2.2.2 c b hc))
 ·rcases hat with e | ⟨b2, e, hle⟩
  ·exact h.VB b (by rw [<- e]; exact hb2)
  ·rw [e] at hb2;injection hb2 with hb2;subst hb2;have := blk_lt h.Z;exact ⟨by omega, fun c hc => by have := hlt c _ hc; omega, fun ad ea => by have := h.PL ad ea; omega⟩
 ·obtain ⟨ad, e, hc⟩ := h.P k hk;refine ⟨ad, e, cell_keep hc ?_⟩;rw [add_block];exact ht.block _ (h.PL ad e) (fun e2 => (hS _ e2).2.2 ad e rfl)
 ·exact Turn.below h.Bl ht (fun b e => by have := (hS _ e).1; omega) (by rw [h.N0]; exact h.Bl.size)
end
theorem freeL_len (now : Int) (l : List S57) (q : List S63) (n : Nat) (t : Bool) : (freeL now l q n t).2.1.length = q.length := by
 unfold freeL;split <;> simp
theorem endL_len (now : Int) (l : List S57) (q : List S63) (i : Nat) : (endL now l q i).1.length = l.length /\ (endL now l q i).2.1.length = q.length := by
 have h1 := (endA_keep now l q i).len;unfold endL;dsimp only;constructor
 ·rw [<- h1];unfold endB;split
  ·simp
  ·split <;> rfl
 ·unfold endA;split
  ·rfl
  ·split
   ·dsimp only;split
    ·dsimp only;split
     ·exact freeL_len _ _ _ _ _
     ·rfl
    ·dsimp only;split
     ·exact freeL_len _ _ _ _ _
     ·rfl
   ·split
    ·exact freeL_len _ _ _ _ _
    ·rfl
theorem endAll_len (now : Int) (l : List S57) (q : List S63) (ps : List Nat) : (endAll now l q ps).1.length = l.length /\ (endAll now l q ps).2.1.length = q.length := by
 have : ∀ (ps : List Nat) st, (ps.foldl (endStep now) st).1.length = st.1.length /\ (ps.foldl (endStep now) st).2.1.length = st.2.1.length := by
  intro ps
  induction ps with
  | nil => intro st; exact ⟨rfl, rfl⟩
  | cons p r ih =>
   intro st;have h1 := ih (endStep now st p);have h2 := endL_len now st.1 st.2.1 p;exact ⟨h1.1.trans h2.1, h1.2.trans h2.2⟩
 exact this ps (l, q, [])
theorem Ids.ahead {l l' : List S57} (h : Ids l l') (id : Int) : ahead l' id = ahead l id := by
 have e : l'.map S57.f0 = l.map S57.f0 := by
  apply List.ext_getElem
  ·simp [h.len]
  ·intro k h1 h2;simp only [List.length_map] at h1 h2;simp only [List.getElem_map];exact h.at_ k h2 h1
 have e2 : ∀ l : List S57, Top.ahead l id = (l.map S57.f0).countP (fun x => decide (x < id)) := by
  intro l;unfold Top.ahead;rw [List.countP_map];rfl
 rw [e2, e2, e]
theorem Ids.isAt {l l' : List S57} (h : Ids l l') (id : Int) : isAt l' id = isAt l id := by
 have e : l'.map S57.f0 = l.map S57.f0 := by
  apply List.ext_getElem
  ·simp [h.len]
  ·intro k h1 h2;simp only [List.length_map] at h1 h2;simp only [List.getElem_map];exact h.at_ k h2 h1
 have e2 : ∀ l : List S57, Top.isAt l id = (l.map S57.f0).any (fun x => x == id) := by
  intro l;unfold Top.isAt;rw [List.any_map];rfl
 rw [e2, e2, e]
structure Tr (N N3 : Nat) (B : Bd) (bx zx : Array Value) (o : OwnR) (A' : Option Addr) (ids : List Int) (w0 : World) (l : List S57) (q : List S63) (E : List Ev) (vE v8 : Value) (ps : List Int) (w : World) : Prop where
 X : w.heap[N]? = some (.cells bx 47 (0, 0))
 Z : w.heap[N + 1]? = some (.cells zx 47 (0, 0))
 O : Own w B l q o
 E : (Kd.raw 4).R 67 w N (fun _ => True) vE (E.map Ev.cells)
 VB : ∀ b, vE.ownBlock = some b -> N + 1 < b /\ b < N3 /\ ∀ c, o.own c ≠ some b
 I : ∀ k (h : k < ids.length), ∃ ad, A' = some ad /\ w.cell? (ad.add k) = some (.int .i64 ids[k])
 IB : ∀ ad, A' = some ad -> 0 < ids.length -> (∀ c, o.own c ≠ some ad.block) /\ ad.block < N3
 P : (Kd.int .i64).R 3 w N3 (fun _ => True) v8 ps
 OB : ∀ c b, o.own c = some b -> N + 1 < b /\ b < N3
 Bl : Below N w0 w
 N0 : N = w0.heap.size
 NB : B <= N
 NB3 : N + 2 <= N3
 N3w : N3 <= w.heap.size
section
variable {N N3 : Nat} {B : Bd} {bx zx : Array Value} {o : OwnR} {A' : Option Addr} {ids : List Int} {w0 : World} {l : List S57} {q : List S63} {E : List Ev} {vE v8 : Value} {ps : List Int} {w w' : World}
theorem Tr.below (h : Tr N N3 B bx zx o A' ids w0 l q E vE v8 ps w) (hb : Below w.heap.size w w') : Tr N N3 B bx zx o A' ids w0 l q E vE v8 ps w' where
 X := blk_below h.X hb
 Z := blk_below h.Z hb
 O := h.O.below hb
 E := Kd.R_below h.E hb
 VB := h.VB
 I := fun k hk => by
  obtain ⟨ad, e, hc⟩ := h.I k hk;exact ⟨ad, e, (hb.cell (World.block_lt_of_cell? _ _ hc)).trans hc⟩
 IB := h.IB
 P := Kd.R_below h.P hb
 OB := h.OB
 Bl := h.Bl.trans (hb.mono (by rw [h.N0]; exact h.Bl.size))
 N0 := h.N0
 NB := h.NB
 NB3 := h.NB3
 N3w := Nat.le_trans h.N3w hb.size
theorem Tr.put (h : Tr N N3 B bx zx o A' ids w0 l q E vE v8 ps w) {v' : Value} (ht : Turn w w' (fun b => some b = v8.ownBlock)) {ps' : List Int} (hR : (Kd.int .i64).R 3 w' N3 (fun _ => True) v' ps') : Tr N N3 B bx zx o A' ids w0 l q E vE v' ps' w' := by
 have hS := fun b (e : some b = v8.ownBlock) => Kd.R_base h.P b e.symm
 have hNB := h.NB;have hNB3 := h.NB3;refine ⟨?_, ?_, ?_, ?_, h.VB, fun k hk => ?_, h.IB, hR, h.OB, ?_, h.N0, h.NB, h.NB3, Nat.le_trans h.N3w ht.size⟩
 ·exact (ht.block _ (blk_lt h.X) (fun e => by have := hS _ e; omega)).trans h.X
 ·exact (ht.block _ (blk_lt h.Z) (fun e => by have := hS _ e; omega)).trans h.Z
 ·exact h.O.keep ht (fun b e => by have := hS b e; omega) (fun c b hc e => by have := hS b e; have := (h.OB c b hc).2; omega)
 ·exact Kd.R_reok rfl (Kd.R_step (Kd.R_tight rfl h.E) (fun b hb hlt => ht.block b hlt (fun e => by have := hS b e; have := (h.VB b hb.symm).2.1; omega))) (fun _ _ => trivial)
 ·obtain ⟨ad, e, hc⟩ := h.I k hk;refine ⟨ad, e, cell_keep hc ?_⟩;rw [add_block];have h2 := (h.IB ad e (by omega)).2;exact ht.block _ (by have := h.N3w; omega) (fun e2 => by have := hS _ e2; omega)
 ·exact Turn.below h.Bl ht (fun b e => by have := hS b e; omega) (by rw [h.N0]; exact h.Bl.size)
theorem Tr.run (h : Tr N N3 B bx zx o A' ids w0 l q E vE v8 ps w) {i : Nat} {x : S57} {e : Ending} (hr : RunP B l q o i x w e w') : Tr N N3 B bx zx o A' ids w0 (l.set i x) q E vE v8 ps w' := by
 obtain ⟨_, hO, ht⟩ := hr;have hS : ∀ b, (o.own .g = some b \/ o.own (.j i) = some b) -> ∃ c, o.own c = some b := fun b hb => hb.elim (fun e => ⟨_, e⟩) (fun e => ⟨_, e⟩)
 have hNB := h.NB;have hNB3 := h.NB3
 have hN : ∀ b, (o.own .g = some b \/ o.own (.j i) = some b) -> N + 1 < b /\ b < N3 := fun b hb => by
  obtain ⟨c, hc⟩ := hS b hb;exact h.OB c b hc
 refine ⟨?_, ?_, hO, ?_, h.VB, fun k hk => ?_, h.IB, ?_, h.OB, ?_, h.N0, h.NB, h.NB3, Nat.le_trans h.N3w ht.size⟩
 ·exact (ht.block _ (blk_lt h.X) (fun e => by have := hN _ e; omega)).trans h.X
 ·exact (ht.block _ (blk_lt h.Z) (fun e => by have := hN _ e; omega)).trans h.Z
 ·exact Kd.R_reok rfl (Kd.R_step (Kd.R_tight rfl h.E) (fun b hb hlt => ht.block b hlt (fun e => by obtain ⟨c, hc⟩ := hS b e; exact (h.VB b hb.symm).2.2 c hc))) (fun _ _ => trivial)
 ·obtain ⟨ad, e, hc⟩ := h.I k hk;refine ⟨ad, e, cell_keep hc ?_⟩;rw [add_block];have h2 := h.IB ad e (by omega);exact ht.block _ (by have := h.N3w; omega) (fun e2 => by obtain ⟨c, hc⟩ := hS _ e2; exact h2.1 c hc)
 ·exact Kd.R_reok rfl (Kd.R_step (Kd.R_tight rfl h.P) (fun b hb hlt => ht.block b hlt (fun e => by have := hN b e; have := Kd.R_base h.P b hb.symm; omega))) (fun _ _ => trivial)
 ·exact Turn.below h.Bl ht (fun b e => by have := hN b e; omega) (by rw [h.N0]; exact h.Bl.size)
theorem Tr.ends (h : Tr N N3 B bx zx o A' ids w0 l q E vE v8 ps w) {bx' : Array Value} (ht : Turn w w' (fun b => b = N)) (hX : w'.heap[N]? = some (.cells bx' 47 (0, 0))) {qs : List Nat} (hq : ps = List.map (fun p : Nat => (p : Int)) qs) : ∃ Ap cp, v8 = .slice Ap qs.length cp /\ Tk N B bx' zx o Ap qs w0 o l q E vE w' := by
 have hNB := h.NB;have hNB3 := h.NB3;obtain ⟨Ap, cp, rfl, hcp, hC⟩ := Kd.R_reads h.P;have hbase := Kd.R_base h.P;have hlt := Kd.R_lt h.P;subst hq;rw [List.length_map];refine ⟨Ap, cp, rfl, hX, ?_, ?_, o.sub_refl, ?_, fun b hb => ⟨(h.VB b hb).1, (h.VB b hb).2.2, fun ad e => ?_⟩, fun k hk => ?_, fun ad e c hc => ?_, fun ad e => ?_, fun c b hc => (h.OB c b hc).1, ?_, h.N0, h.NB⟩
 ·exact (ht.block _ (blk_lt h.Z) (by omega)).trans h.Z
 ·exact h.O.keep ht (fun b e => by omega) (fun c b hc e => by have := (h.OB c b hc).1; omega)
 ·exact Kd.R_reok rfl (Kd.R_step (Kd.R_tight rfl h.E) (fun b hb hlt => ht.block b hlt (fun e => by have := (h.VB b hb.symm).1; omega))) (fun _ _ => trivial)
 ·subst e;have := hbase ad.block rfl;have := (h.VB b hb).2.1;omega
 ·obtain ⟨ad, e, hc⟩ := int_at hC (k := k) (by rw [List.length_map]; exact hk);refine ⟨ad, e, cell_keep (hc.trans (by rw [List.getElem_map])) ?_⟩;subst e;have := hbase ad.block rfl;rw [add_block];exact ht.block _ (hlt _ rfl) (by omega)
 ·subst e;have := hbase ad.block rfl;have := (h.OB c _ hc).2;omega
 ·subst e;exact Nat.lt_of_lt_of_le (hlt _ rfl) ht.size
 ·exact Turn.below h.Bl ht (fun b e => by omega) (by rw [h.N0]; exact h.Bl.size)
end
def tick.T19 : Bool × List (List Nat × List Nat) := (true, [([], []), ([0], [0]), ([], []), ([1, 2], [1, 2]), ([], []), ([4], [4]), ([], []), ([5, 6], [5, 6]), ([3, 7], [3, 7]), ([8], [8]), ([0, 1, 2, 3, 4, 5, 6, 7, 8, 9], []), ([10, 9, 9, 0, 1, 2, 3, 4, 5, 6, 7, 8, 9], [9, 10])])
def tick.B19 : List Nat := [0, 1, 0, 7, 0, 16, 0, 112, 255, 511, 1023, 2047]
theorem tick.tab19 : rtab .any (opsOf Tryz.f61 19) = tick.T19 := by kernel_rfl
theorem tick.bits19 : waitsOk tick.T19.2 tick.B19 = true := by kernel_rfl
def TickP (M now : Int) (l : List S57) (q : List S63) (B : Bd) (w : World) (e : Ending) (w' : World) : Prop :=
 ∃ o A4 c4 v, e = .returned (.tuple #[stV M (now + 1) o.A (tickL M now l q).1.length o.c o.A2 (tickL M now l q).2.1.length o.c2 A4 c4, v, .int .i64 0]) /\ Own w' B (tickL M now l q).1 (tickL M now l q).2.1 o /\ (∀ c b, o.own c = some b -> w.heap.size <= b) /\ (Kd.raw 4).R 67 w' w.heap.size (fun b => ∀ c, o.own c ≠ some b) v ((tickL M now l q).2.2.map Ev.cells) /\ Below w.heap.size w w'
theorem two_nil (w : World) (A A' : Option Addr) (c c' : Nat) : ∀ k, k < 2 -> ∃ B d, (w.alloc (.cells #[.slice A 0 c, .slice A' 0 c'] 45)).cell? ((⟨w.heap.size, 0, none⟩ : Addr).add k) = some (.slice B 0 d) := by
 intro k hk;rw [addr_at, Nat.zero_add, blk_cell (blk_new w _) k]
 match k, hk with
 | 0, _ => exact ⟨_, _, rfl⟩
 | 1, _ => exact ⟨_, _, rfl⟩
theorem tick_calls (M now : Int) (A : Option Addr) (l : List S57) (c : Nat) (A2 : Option Addr) (q : List S63) (c2 : Nat) (A3 : Option Addr) (c3 : Nat) (B : Bd) (w : World) (hw : B.n <= w.heap.size) (hr : Rd w B A l A2 q) (hk : TickOk M now l q) :
  Calls Tryz.prog 61 #[stV M now A l.length c A2 q.length c2 A3 c3] w fun e w' => TickP M now l q B w e w' := by
 have DS := fun wx (hb : Below w.heap.size w wx) => settle_calls M now A l c A2 q c2 A3 c3 B wx (Nat.le_trans hw hb.size) (hr.below hb) hk.ok
 have hCw := hw;have hnow1 := hk.ok.now1;have hnow0 := hk.ok.now0;have hgeq : decide (now >= 4611686018427387904) = false := by simp; omega
 have hwn : IntKind.i64.wrap (now + 1) = now + 1 := by rw [i64_w]; unfold Go.RowKit.wrap64; omega
 have hsf := settleL_few M now l q hk.ok.sane.len;obtain ⟨_, hsane, hrun, hends⟩ := hk;have HT : Hid (tickL M now l q = ((endAll (now + 1) (runAll (settleL M now l q).1 (placesOf M (settleL M now l q).1)) (settleL M now l q).2.1 (placesOf M (settleL M now l q).1)).1, (endAll (now + 1) (runAll (settleL M now l q).1 (placesOf M (settleL M now l q).1)) (settleL M now l q).2.1 (placesOf M (settleL M now l q).1)).2.1, (settleL M now l q).2.2 ++ (endAll (now + 1) (runAll (settleL M now l q).1 (placesOf M (settleL M now l q).1)) (settleL M now l q).2.1 (placesOf M (settleL M now l q).1)).2.2)) := hZ rfl;unfold TickP;unfold SettleP at DS;generalize tickL M now l q = fin at *;obtain ⟨⟨l1, q1, ev1⟩, hst⟩ : ∃ s, settleL M now l q = s := ⟨_, rfl⟩;rw [hst] at hsane hrun hends hsf HT DS;dsimp only at hsane hrun hends hsf HT DS;clear hst;obtain ⟨ps, hps⟩ : ∃ ps, placesOf M l1 = ps := ⟨_, rfl⟩;have hpl : ps.length <= 12 := by rw [<- hps]; exact places_len hsane.len
 have hnd : ps.Nodup := by rw [<- hps]; exact places_nodup hsane.sorted
 have hpa : ∀ k (h : k < ps.length), ∃ (h1 : k < (runsL M l1).length) (h2 : ps[k] < l1.length), l1[ps[k]].f0 = (runsL M l1)[k] := by
  subst hps;intro k h;obtain ⟨h1, h2, h3, _⟩ := places_at hsane.sorted h;exact ⟨h1, h2, h3⟩
 have hil : (runsL M l1).length = ps.length := by rw [<- hps]; unfold placesOf; simp
 rw [hps] at hrun hends HT;have DR := fun wx (o : OwnR) A4 c4 (hw : Kd.C k57 wx o.A l1.length l1) => runs_calls M now o.A o.c l1 (.slice o.A2 q1.length o.c2) A4 c4 wx hw hsane ⟨_, _, _, rfl⟩ (rank_lt (by have := hsane.m1; omega) (by have := readyL_sorted hsane.sorted; rw [List.nodup_iff_pairwise_ne]; exact this.imp (fun h => by omega)))
 rw [hil] at DR;have hsort := hsane.sorted;have hl12 := hsane.len;have HRUN := hZ hrun;have HENDS := hZ hends;have HPA := hZ hpa;have HND := hZ hnd;have HSRT := hZ hsort;generalize runsL M l1 = ids at *;clear hr hps hsane hrun hends hpa hnd hsort hw;unfold stV at *;go_enter Tryz.func61, Tryz.ntmps61
 go_upto_region 4 with (first | (go_at_call 12; (with_reducible refine (DS _ (below_alloc (below_alloc (Below.refl _ _) _) _)).mono ?_); rintro e w1 ⟨o, A4, c4, vE, rfl, hO1, hown1, hR1, hB1⟩; obtain ⟨hx, hz, hs⟩ := two_blocks hB1; have HO1 := hZ hO1; have HR1 := hZ hR1; have HX1 := hZ hx; have HZ1 := hZ hz; have HBW1 := hZ ((below_alloc (below_alloc (Below.refl w.heap.size w) _) _).trans (hB1.mono (by simp; omega))); have e0 := (blk_cell hx 0).trans rfl; have e1 := (blk_cell hx 1).trans rfl; have e2 := (blk_cell hx 2).trans rfl; have e3 := (blk_cell hx 3).trans rfl; have e4 := (blk_cell hx 4).trans rfl; have f0 := blk_frozen hx 0; have f1 := blk_frozen hx 1; have f2 := blk_frozen hx 2; have f3 := blk_frozen hx 3; have f4 := blk_frozen hx 4; clear hO1 hR1 hB1 hx hz))
 have hownB : ∀ cc b, o.own cc = some b -> w.heap.size + 1 < b := fun cc b h => by have := hown1 cc b h; simp only [World.size_alloc] at this; omega
 have HX2 := hZ (blk_put (cs' := #[.int .i64 M, .int .i64 now, .slice o.A l1.length o.c, .slice o.A2 q1.length o.c2, .slice A4 0 c4]) (blk_put (blk_put (blk_put (blk_put HX1.out 0 (.int .i64 M) rfl) 1 (.int .i64 now) rfl) 2 (.slice o.A l1.length o.c) rfl) 3 (.slice o.A2 q1.length o.c2) rfl) 4 (.slice A4 0 c4) rfl);have HT2 := (((((Turn.refl w1 (fun b => b = w.heap.size)).set rfl 0 (.int .i64 M)).set rfl 1 (.int .i64 now)).set rfl 2 (.slice o.A l1.length o.c)).set rfl 3 (.slice o.A2 q1.length o.c2)).set rfl 4 (.slice A4 0 c4);generalize hws : World.setCell _ _ _ = w2 at *;clear hws e0 e1 e2 e3 e4 f0 f1 f2 f3 f4;have HO2 := hZ (HO1.out.keep HT2 (fun b hb => by omega) (fun cc b hc hb => by have := hownB cc b hc; omega));have hvb := Kd.R_base HR1.out;have hvo := HR1.out.1;simp only [World.size_alloc] at hvb;have HR2 := hZ (Kd.R_step (Kd.R_tight rfl HR1.out) (fun b hb hlt => HT2.block b hlt (fun e => by have := hvb b hb.symm; omega)));have HZ2 := hZ ((HT2.block (w.heap.size + 1) (by have := blk_lt HZ1.out; omega) (by omega)).trans HZ1.out);have HB2 : Hid (Below w.heap.size w w2) := hZ (Turn.below HBW1.out HT2 (fun b hb => by omega) HBW1.out.size);have HOB := hZ hownB;have HVB := hZ hvb;have HVO := hZ hvo;clear HO1 HR1 HX1 HZ1 HBW1 HT2 hownB hvb hvo DS hs hown1;have x0 := (blk_cell HX2.out 0).trans rfl;have x1 := (blk_cell HX2.out 1).trans rfl;have x2 := (blk_cell HX2.out 2).trans rfl;have x3 := (blk_cell HX2.out 3).trans rfl;have x4 := (blk_cell HX2.out 4).trans rfl;have DR := DR w2 o A4 c4 HO2.out.reads
 go_wp2_with (first | (go_at_call 57; (with_reducible refine DR.mono ?_); rintro e w3 ⟨A5, c5, rfl, hc5, hC5, hb5, hB3⟩; have HC5 := hZ hC5; have HB5 := hZ hb5; have HB3 := hZ hB3; clear hC5 hb5 hB3))
 have HTR0 : Hid (Tr w.heap.size w3.heap.size B #[.int .i64 M, .int .i64 now, .slice o.A l1.length o.c, .slice o.A2 q1.length o.c2, .slice A4 0 c4] #[.int .i64 0, .int .i64 0, .slice none 0 0, .slice none 0 0, .slice none 0 0] o A5 ids w l1 q1 ev1 vE (.slice none 0 0) [] w3) := hZ (by
  have hs3 := HB3.out.size;refine ⟨blk_below HX2.out HB3.out, blk_below HZ2.out HB3.out, HO2.out.below HB3.out, Kd.R_reok rfl (Kd.R_lower (Kd.R_below HR2.out HB3.out) (by simp only [World.size_alloc]; omega)) (fun _ _ => trivial), fun b hb => ⟨by have := HVB.out b hb; omega, Nat.lt_of_lt_of_le (Kd.R_lt HR2.out b hb) hs3, HVO.out b hb⟩, fun k hk => ?_, fun ad e hne => ⟨fun cc hc => ?_, ?_⟩, Kd.R_nil _ _ _ _ _, fun cc b hc => ⟨HOB.out cc b hc, Nat.lt_of_lt_of_le (HO2.out.bnd cc b hc).2 hs3⟩, HB2.out.trans (HB3.out.mono HB2.out.size), rfl, hCw, by have := blk_lt HZ2.out; omega, Nat.le_refl _⟩
  ·have h5 := HC5.out;rw [<- hil] at h5;exact int_at h5 hk
  ·have := HB5.out ad e;have := (HO2.out.bnd cc _ hc).2;omega
  ·have h5 := HC5.out;rw [<- hil] at h5;obtain ⟨ad2, e2, hc2⟩ := int_at h5 hne;rw [e] at e2;injection e2 with e2;have := World.block_lt_of_cell? _ _ hc2;rw [add_block] at this;rw [e2];exact this)
 clear HX2 HZ2 HO2 HR2 HB2 HOB HVB HVO x0 x1 x2 x3 x4 DR
 go_loopw [8, 33] (fun v8 v33 wr => ∃ (k : Nat), v33 = .int .i64 k /\ k <= ps.length /\ Hid (Tr w.heap.size w3.heap.size B #[.int .i64 M, .int .i64 now, .slice o.A l1.length o.c, .slice o.A2 q1.length o.c2, .slice A4 0 c4] #[.int .i64 0, .int .i64 0, .slice none 0 0, .slice none 0 0, .slice none 0 0] o A5 ids w (runAll l1 (ps.take k)) q1 ev1 vE v8 ((ps.take k).map fun p : Nat => (p : Int)) wr)) (fun _ v33 _ => ps.length - (intOf v33).toNat)
 case atStart => exact ⟨0, rfl, Nat.zero_le _, HTR0⟩
 case round =>
  obtain ⟨k, rfl, hk, HR⟩ := hrel;by_cases hlt : k < ps.length
  ·obtain ⟨h1, h2, h3⟩ := HPA.out k hlt;obtain ⟨ad5, rfl, b0⟩ := HR.out.I k h1;have hids := runAll_ids (ps.take k) l1;have hra := (HRUN.out _ (List.getElem_mem hlt)).keep (l' := runAll l1 (ps.take k)) (fun g1 => ⟨by rw [hids.len]; exact g1, runAll_keep _ _ (not_mem_take HND.out hlt) g1 _⟩);have HTK := hZ (runAll_take (l := l1) hlt);have hal : ahead (runAll l1 (ps.take k)) ids[k] = ps[k] := by rw [hids.ahead, <- h3]; exact ahead_at HSRT.out h2
   have hia : isAt (runAll l1 (ps.take k)) ids[k] = true := by rw [hids.isAt, <- h3]; exact isAt_at h2
   have hsk := hids.sorted HSRT.out;have hlk := hids.len;have HPS := hZ (show ((ps.take (k + 1)).map fun p : Nat => (p : Int)) = ((ps.take k).map fun p : Nat => (p : Int)) ++ [(ps[k] : Int)] from by rw [List.take_succ_eq_append_getElem hlt, List.map_append]; rfl);have hpk : ((ps.take k).map fun p : Nat => (p : Int)).length <= 12 := by rw [List.length_map, List.length_take]; omega
   generalize runAll l1 (ps.take k) = lk at *;generalize (ps.take k).map (fun p : Nat => (p : Int)) = pk at *;generalize ps[k] = i at *;generalize ids[k] = id at *;obtain ⟨hil1, hcbs, hm1, hjob, h6, h4⟩ := hra;obtain ⟨g, hg, _⟩ := HR.out.O.row (by intro e; rw [e] at hil1; simp at hil1);have HG := hZ hg;have DA := fun wx (hx : Own wx B lk q1 o) => at_calls M now o.A o.c lk (.slice o.A2 q1.length o.c2) (.slice A4 0 c4) id wx hx.reads hsk (by omega) ⟨_, _, _, rfl⟩ ⟨_, _, _, rfl⟩
   have DV := fun wx (hx : Own wx B lk q1 o) => run_calls lk q1 B o i g wx hx hil1 hg hcbs hm1 hjob h6 h4
   rw [hal, hia, hlk] at DA;have HGD := hZ (getD57 hil1);generalize lk[i] = xi at *;rw [hg] at DA;have xb := HR.out.X;have x0 := (blk_cell xb 0).trans rfl;have x1 := (blk_cell xb 1).trans rfl;have x2 := (blk_cell xb 2).trans rfl;have x3 := (blk_cell xb 3).trans rfl;have x4 := (blk_cell xb 4).trans rfl;rw [hg] at x2;clear xb hids hal hia hsk hcbs hm1 hjob h6 h4 hg;have hnn : (0 : Int) <= (i : Int) := by omega
   have hnl : (i : Int) < (l1.length : Int) := by omega
   have k0 : (0 : Int) <= (k : Int) := by omega
   have k1 : (k : Int) < (ps.length : Int) := by omega
   go_wp2_with (first
    | (go_at_call 32; (with_reducible refine (DA _ HR.out.O).mono ?_); rintro e w4 ⟨rfl, hB4⟩; have HR4 := hZ (HR.out.below hB4); clear hB4 x0 x1 x2 x3 x4)
    | ((with_reducible refine gate_builtin (b := .append) (xs := #[.tmp 43, .tmp 45]) rfl ?_); at_builtin; refine Kd.R_append (Kd.int .i64) (w0 := w4) w3.heap.size rfl (.tmp 43) (.tmp 45) 61 3 (.int .i64 0) 8 rfl Tryz.underlying61 info3 rfl (by decide) (by omega) _ pk (i : Int) [.int .i64 i] (fun _ => True) (fun _ => False) rfl (by first | (go_simp; done) | (go_simp; rfl)) ?aP (fun _ hk => hk.elim) ?aF ?aO ?aB ?aS ?aL ?_; (case aP => exact rfl); (case aF => exact (fun _ _ => trivial)); (case aO => exact HR4.out.P); (case aB => exact Below.refl _ _); (case aS => exact HR4.out.N3w); (case aL => omega); intro v5 w5 hR5 hB5 hg5 hat5; have HR5 := hZ (HR4.out.put (grown_turn hg5) hR5); have x2 := (blk_cell HR5.out.X 2).trans rfl; rw [HG.out] at x2; clear hR5 hB5 hg5 hat5)
    | (go_at_call 90; (with_reducible refine (DV _ HR5.out.O).mono ?_); rintro e w6 hP; obtain rfl := hP.1; have HR6 := hZ (HR5.out.run hP); clear hP x2))
   go_roundw
   case rel => exact ⟨k + 1, by go_num, by omega, hZ (by rw [HTK.out, HPS.out, HGD.out]; exact HR6.out)⟩
   case measure => first | (simp [intOf]; done) | (simp [intOf]; omega)
  ·have hke : k = ps.length := by omega
   subst hke;rw [List.take_length] at HR;clear HTR0 HC5 HB5 HRUN HPA HND HSRT;have hlr : (runAll l1 ps).length = l1.length := (runAll_ids ps l1).len;generalize runAll l1 ps = lr at *;obtain ⟨pr, hpr⟩ : ∃ pr, (ps.map fun p : Nat => (p : Int)) = pr := ⟨_, rfl⟩;rw [hpr] at HR;go_wp2
   go_loopw [56] (fun v56 wx => v56 = .int .i64 0 /\ wx = wr) (fun _ _ => 0)
   case atStart => exact ⟨rfl, rfl⟩
   case round =>
    obtain ⟨rfl, rfl⟩ := hrel
    go_upto_region 19 with fail
    have x4 := (blk_cell HR.out.X 4).trans rfl;refine start_ (n := 12) (S := fun w' => Hid (Tr w.heap.size w3.heap.size B #[.int .i64 M, .int .i64 now, .slice o.A l1.length o.c, .slice o.A2 q1.length o.c2, .slice A4 0 c4] #[.int .i64 0, .int .i64 0, .slice none 0 0, .slice none 0 0, .slice none 0 0] o A5 ids w lr q1 ev1 vE u8 pr w')) (ds := [11]) #[false, false, false, false, false, false, false, false, false, false, false, false] (by kernel_rfl) rfl rfl ((hZ (HR.out.below (below_drew (Below.refl _ _))))) (fun hHeld => ?_);refine with_tabW tick.tab19 tick.bits19 (fun HT_ HW_ => ?_);have hbd := drB wr;have hsd : wr.heap.size = wr.drew.heap.size := rfl;generalize hwd : wr.drew = wd at *;clear hwd;refine pst 0 (some 69) HT_ ?_;refine pst 2 (some 71) HT_ ?_;refine pst 4 (some 73) HT_ ?_;refine pst 6 (some 75) HT_ ?_;refine tst 1 (some 70) HT_ HW_ hHeld ?_ (hy := by (intro w' s0; have e4 := (blk_cell s0.out.X 4).trans rfl); go_simp; with_reducible rfl);refine pst 3 (some 72) HT_ ?_;refine tst 5 (some 74) HT_ HW_ hHeld ?_ (hy := by (intro w' s0; have e4 := (blk_cell s0.out.X 4).trans rfl); go_simp; with_reducible rfl);refine pst 7 (some 76) HT_ ?_;refine one_ (i := 8) (N := some 77) #[true, true, true, true, true, true, true, true, true, false, false, false] rfl rfl (one_of HT_.out (by kernel_rfl)) (by decide) (fun K hK => ?_);refine value_ (w1 := ?_) (v := ?_) (by rfl) rfl ?_ ?_;rotate_left 2
    ·go_simp;constructor
     ·rfl
     ·rfl
    refine hK.out _ _ ((hZ (hHeld.out.below (below_alloc (Below.refl _ _) _)))) (fun hHeld => ?_);clear hK K;refine norm_ (a' := ?_) ?_ ?_;rotate_left
    ·show Act.put _ (some 77) _ = _;simp only [Act.put, sqA, sqB, sqC, i64_w, i32_w];rfl
    refine one_ (i := 9) (N := some 78) #[true, true, true, true, true, true, true, true, true, true, false, false] rfl rfl (one_of HT_.out (by kernel_rfl)) (by decide) (fun K hK => ?_);refine goes_ Tryz.func91 (by kernel_rfl) rfl #[.slice (some ⟨wd.heap.size, 0, none⟩) 2 2] (by rfl) rfl rfl (by simp only [List.map_toArray, List.map_cons, List.map_nil]; rfl) ?_;with_reducible refine (concat_calls _ _ _ (two_nil wd A4 A4 c4 c4)).mono ?_;rintro e w9 ⟨A9, c9, rfl, hB9⟩;refine ⟨_, rfl, ?_⟩;refine hK.out _ _ ((hZ (hHeld.out.below hB9))) (fun hHeld => ?_);clear hK K;refine norm_ (a' := ?_) ?_ ?_;rotate_left
    ·show Act.put _ (some 78) _ = _;simp only [Act.put, sqA, sqB, sqC, i64_w, i32_w];rfl
    refine pst 10 (some 79) HT_ ?_;refine last_ (i := 11) (N := none) #[true, true, true, true, true, true, true, true, true, true, true, true] rfl rfl (one_of HT_.out (by kernel_rfl)) (by decide) (fun K hK => ?_);have e4 := (blk_cell hHeld.out.X 4).trans rfl;have f4 := blk_frozen hHeld.out.X 4;refine skip_ (w1 := ?_) (by rfl) rfl ?_ ?_;rotate_left
    ·go_simp;rfl
    have HX10 := hZ (blk_put (cs' := #[.int .i64 M, .int .i64 now, .slice o.A l1.length o.c, .slice o.A2 q1.length o.c2, .slice A9 0 c9]) hHeld.out.X 4 (.slice A9 0 c9) rfl);have HT10 := hZ ((Turn.refl w9 (fun k => k = w.heap.size)).set rfl 4 (.slice A9 0 c9));have HR9 := hHeld;clear e4 f4;generalize hws : World.setCell _ _ _ = w10 at *;clear hws;refine hK.out _ _ ?_;clear hK K;refine done_ (done_of HT_.out (by kernel_rfl)) ?_;clear hHeld hB9 hbd hsd x4;have y1 := (blk_cell HX10.out 1).trans rfl;have g1 := blk_frozen HX10.out 1
    go_upto_region 21 with fail
    have HX11 := hZ (blk_put (cs' := #[.int .i64 M, .int .i64 (now + 1), .slice o.A l1.length o.c, .slice o.A2 q1.length o.c2, .slice A9 0 c9]) HX10.out 1 (.int .i64 (now + 1)) rfl);have HT11 := hZ (HT10.out.set rfl 1 (.int .i64 (now + 1)));generalize hws : World.setCell _ _ _ = w11 at *;clear hws y1 g1;obtain ⟨Ap, cp, rfl, hTk⟩ := HR9.out.ends HT11.out HX11.out hpr.symm;have hlt0 : ∀ cc b, o.own cc = some b -> b < w11.heap.size := fun cc b h => (hTk.O.bnd cc b h).2
    have HTK0 : Hid (Tk w.heap.size B #[.int .i64 M, .int .i64 (now + 1), .slice o.A l1.length o.c, .slice o.A2 q1.length o.c2, .slice A9 0 c9] #[.int .i64 0, .int .i64 0, .slice none 0 0, .slice none 0 0, .slice none 0 0] o Ap ps w o (endAll (now + 1) lr q1 (ps.take 0)).1 (endAll (now + 1) lr q1 (ps.take 0)).2.1 (ev1 ++ (endAll (now + 1) lr q1 (ps.take 0)).2.2) vE w11) := hZ (by
     have := hTk;rw [<- List.append_nil ev1] at this;exact this)
    have HLT := hZ hlt0;clear HX10 HT10 HX11 HT11 HR9 hTk hlt0 HR HT_ HW_;go_wp2
    go_loopw [5, 86] (fun v5 v86 wx => ∃ (k : Nat) (o' : OwnR), v86 = .int .i64 k /\ k <= ps.length /\ w11.heap.size <= wx.heap.size /\ Hid (Tk w.heap.size B #[.int .i64 M, .int .i64 (now + 1), .slice o.A l1.length o.c, .slice o.A2 q1.length o.c2, .slice A9 0 c9] #[.int .i64 0, .int .i64 0, .slice none 0 0, .slice none 0 0, .slice none 0 0] o Ap ps w o' (endAll (now + 1) lr q1 (ps.take k)).1 (endAll (now + 1) lr q1 (ps.take k)).2.1 (ev1 ++ (endAll (now + 1) lr q1 (ps.take k)).2.2) v5 wx)) (fun _ v86 _ => ps.length - (intOf v86).toNat)
    case atStart => exact ⟨0, o, rfl, Nat.zero_le _, Nat.le_refl _, HTK0⟩
    case round =>
     obtain ⟨k, o', rfl, hk2, hwx, HK⟩ := hrel;by_cases hlt2 : k < ps.length
     ·obtain ⟨ad, rfl, b0⟩ := HK.out.P k hlt2;have HTK := hZ (endAll_take (now := now + 1) (l := lr) (q := q1) hlt2);have hends := HENDS.out k hlt2;have hlen := endAll_len (now + 1) lr q1 (ps.take k);have hfew := endAll_few (now + 1) lr q1 (ps.take k);have hpt : (ps.take k).length <= 12 := by rw [List.length_take]; omega
      generalize endAll (now + 1) lr q1 (ps.take k) = st at *;obtain ⟨le, qe, ee⟩ := st;dsimp only at *;generalize ps[k] = i at *;have DE := fun wx (hO : Own wx B le qe o') => end_calls M (now + 1) le qe B o' A9 c9 i wx hO hends
      obtain ⟨s1, s2, s3, s4, _⟩ := HK.out.sub;unfold stV at DE;rw [s1, s2, s3, s4, hlen.1, hlen.2, hlr] at DE;have x0 := (blk_cell HK.out.X 0).trans rfl;have x1 := (blk_cell HK.out.X 1).trans rfl;have x2 := (blk_cell HK.out.X 2).trans rfl;have x3 := (blk_cell HK.out.X 3).trans rfl;have x4 := (blk_cell HK.out.X 4).trans rfl;have k0 : (0 : Int) <= (k : Int) := by omega
      have k1 : (k : Int) < (ps.length : Int) := by omega
      have hE4 := endL_few (now + 1) le qe i;generalize hel : endL (now + 1) le qe i = el at *;obtain ⟨lf, qf, ef⟩ := el;dsimp only at *;have HEL := hZ hel;clear hel hends s1 s2 s3 s4
      go_wp2_with (first
       | (go_at_call 92; (with_reducible refine (DE _ HK.out.O).mono ?_); rintro e w12 hd; have hsz12 : wr.heap.size <= w12.heap.size := (by obtain ⟨_, _, _, _, _, _, ht⟩ := hd; exact ht.size); obtain ⟨o2, v2, rfl, hT2, hR2⟩ := HK.out.done hd; have HT12 := hZ hT2; obtain ⟨AL, cL, rfl, hcL, hCL⟩ := Kd.R_reads hR2; rw [List.length_map] at hCL; have HCL := hZ hCL; clear hd hT2 hR2 hCL hcL x0 x1 x2 x3 x4)
       | ((with_reducible refine gate_builtin (b := .append) (xs := #[.tmp 90, .tmp 93]) rfl ?_); at_builtin; refine Kd.R_append_rows (Kd.raw 4) (Rr := (Kd.raw 4).K w12) (okp := fun _ => False) (w0 := w12) w.heap.size rfl (.tmp 90) (.tmp 93) 48 67 (.agg #[.int .i64 0, .int .i64 0, .int .i64 0, .int .i64 0]) 32 rfl Tryz.underlying48 info67 rfl (by decide) (by omega) _ ((ev1 ++ ee).map Ev.cells) (ef.map Ev.cells) AL ef.length cL (fun _ => True) rfl rfl HT12.out.E HCL.out (fun _ _ h => h) (fun _ h => h.elim) (fun _ _ => trivial) (Below.refl _ _) ?aS ?aL ?_; (case aS => (have := blk_lt HT12.out.X; omega)); (case aL => (simp only [List.length_map, List.length_append]; omega)); intro v13 w13 hR13 hB13 hg13 hat13; have hsz13 : w12.heap.size <= w13.heap.size := (grown_turn hg13).size; have HT13 := hZ (HT12.out.ev (grown_turn hg13) hR13 hat13 (fun cc b h => by have := HLT.out cc b h; omega)); clear hR13 hB13 hg13 hat13))
      go_roundw
      case rel => exact ⟨k + 1, o2, by go_num, by omega, by omega, hZ (by
       have hE : endStep (now + 1) (le, qe, ee) i = (lf, qf, ee ++ ef) := by unfold endStep; dsimp only; rw [HEL.out]
       rw [HTK.out, hE];have := HT13.out;rw [List.append_assoc] at this;exact this)⟩
      case measure => first | (simp [intOf]; done) | (simp [intOf]; omega)
     ·have hke : k = ps.length := by omega
      subst hke;rw [List.take_length] at HK;clear HENDS HTK0 HLT;have x0 := (blk_cell HK.out.X 0).trans rfl;have x1 := (blk_cell HK.out.X 1).trans rfl;have x2 := (blk_cell HK.out.X 2).trans rfl;have x3 := (blk_cell HK.out.X 3).trans rfl;have x4 := (blk_cell HK.out.X 4).trans rfl;have z0 := (blk_cell HK.out.Z 0).trans rfl;have z1 := (blk_cell HK.out.Z 1).trans rfl;have z2 := (blk_cell HK.out.Z 2).trans rfl;have z3 := (blk_cell HK.out.Z 3).trans rfl;have z4 := (blk_cell HK.out.Z 4).trans rfl;have f0 := blk_frozen HK.out.Z 0;have f1 := blk_frozen HK.out.Z 1;have f2 := blk_frozen HK.out.Z 2;have f3 := blk_frozen HK.out.Z 3;have f4 := blk_frozen HK.out.Z 4;have HZ5 := hZ (blk_put (cs' := #[.int .i64 M, .int .i64 (now + 1), .slice o.A l1.length o.c, .slice o.A2 q1.length o.c2, .slice A9 0 c9]) (blk_put (blk_put (blk_put (blk_put HK.out.Z 0 (.int .i64 M) rfl) 1 (.int .i64 (now + 1)) rfl) 2 (.slice o.A l1.length o.c) rfl) 3 (.slice o.A2 q1.length o.c2) rfl) 4 (.slice A9 0 c9) rfl);have HT5 := (((((Turn.refl wr (fun k => k = w.heap.size + 1)).set rfl 0 (.int .i64 M)).set rfl 1 (.int .i64 (now + 1))).set rfl 2 (.slice o.A l1.length o.c)).set rfl 3 (.slice o.A2 q1.length o.c2)).set rfl 4 (.slice A9 0 c9);go_wp2;refine bodyPost_ret (results_ctt rfl _ _ (w.heap.size + 1) 47 #[.int .i64 M, .int .i64 (now + 1), .slice o.A l1.length o.c, .slice o.A2 q1.length o.c2, .slice A9 0 c9] (0, 0) _ rfl HZ5.out Tryz.underlying47 rfl (by kernel_rfl)) rfl ?_;generalize hwf : World.setCell _ _ _ = wf at *;clear hwf x0 x1 x2 x3 x4 z0 z1 z2 z3 z4 f0 f1 f2 f3 f4;have hd := HT.out;have hlen := endAll_len (now + 1) lr q1 ps;generalize endAll (now + 1) lr q1 ps = st at *;obtain ⟨le, qe, ee⟩ := st;subst hd;dsimp only at *;have hK := HK.out;obtain ⟨s1, s2, s3, s4, s5⟩ := hK.sub;have hbs := hK.Bl.size;have hOB : ∀ cc b, o'.own cc = some b -> w.heap.size + 1 < b := fun cc b h => hK.OB cc b (s5 cc b h)
      refine ⟨o', A9, c9, u5, ?_, hK.O.keep HT5 (fun b e => by omega) (fun cc b hc e => by have := hOB cc b hc; omega), fun cc b hc => by have := hOB cc b hc; omega, ?_, Turn.below hK.Bl HT5 (fun b e => by omega) hbs⟩
      ·rw [s1, s2, s3, s4, hlen.1, hlen.2, hlr];rfl
      ·have h5 := Kd.R_step (Kd.R_tight rfl hK.E) (fun b hb hlt => HT5.block b hlt (fun e => by have := (hK.VB b hb.symm).1; omega));exact Kd.R_reok rfl h5 (fun b hb cc hc => (hK.VB b hb).2.1 cc (s5 cc b hc))
def doneOf (x : S57) : Int := (x.f2.headD z125).f3
def st1 (now : Int) (x : S57) (m : Int) : Int := if x.f1.f4 ≠ 0 /\ now < x.f1.f3 then min m (x.f1.f3 - now) else m
def st2 (x : S57) (m : Int) : Int := min m (x.f1.f2 - 1)
def st3 (x : S57) (m : Int) : Int := if x.f3 = 1 then m else min m ((servStep x).f1 - doneOf x - 1)
def st4 (q : List S63) (x : S57) (m : Int) : Int := if x.f3 = 2 then min m ((q.getD ((servStep x).f0 - 1).toNat z63).f0 - x.f4 - 1) else m
def stillV (ids : List Int) (now : Int) (q : List S63) (m : Int) (x : S57) : Int := if x.f0 ∈ ids then st4 q x (st3 x (st2 x (st1 now x m))) else st1 now x m
def stillL (M now n : Int) (l : List S57) (q : List S63) : Int := max (l.foldl (stillV (runsL M l) now q) n) 0
def skipJobs (n : Int) : List S125 -> List S125
 | [] => []
 | j :: js => { j with f3 := j.f3 + n } :: js
def skipV (n : Int) (x : S57) : S57 := { x with f1 := useS x.f1 n, f6 := x.f6 + n, f2 := if x.f3 = 1 then x.f2 else skipJobs n x.f2, f4 := if x.f3 = 2 then x.f4 + n else x.f4 }
def skipL (M n : Int) (l : List S57) : List S57 := l.map fun x => if x.f0 ∈ runsL M l then skipV n x else x
def goL : Nat -> Int -> Int -> Int -> List S57 -> List S63 -> List S57 × List S63 × List Ev
 | 0, _, _, _, l, q => (l, q, [])
 | f + 1, M, now, en, l, q =>
  if now < en then
   let s := settleL M now l q
   let k := stillL M now (en - now) s.1 s.2.1
   if 0 < k then
    let r := goL f M (now + k) en (skipL M k s.1) s.2.1
    (r.1, r.2.1, s.2.2 ++ r.2.2)
   else
    let t := tickL M now s.1 s.2.1
    let r := goL f M (now + 1) en t.1 t.2.1
    (r.1, r.2.1, s.2.2 ++ t.2.2 ++ r.2.2)
  else (l, q, [])
structure StillOk (M now : Int) (l : List S57) (q : List S63) : Prop where
 sane : Sane M l
 now0 : 0 <= now
 now1 : now <= 1152921504606846976
 cbs : ∀ k (h : k < l.length), CbsOk l[k].f1
 run : RunOk l
 held : ∀ k (h : k < l.length), 0 <= l[k].f4 /\ l[k].f4 <= 1048576
 lock : ∀ k (h : k < l.length), l[k].f1.f4 = 1 -> l[k].f3 = 2 -> 1 <= (servStep l[k]).f0 /\ (servStep l[k]).f0 <= q.length
 most : ∀ k (h : k < q.length), 1 <= q[k].f0 /\ q[k].f0 <= 1048576
theorem mem_runs {M : Int} {l : List S57} (hs : Sorted l) {k : Nat} (hk : k < l.length) (h : l[k].f0 ∈ runsL M l) : l[k].f1.f4 = 1 := by
 obtain ⟨p, hp, e, hm⟩ := runs_mem h;have h1 := ahead_at hs hp;have h2 := ahead_at hs hk;rw [e] at h1;have : p = k := h1.symm.trans h2;subst this;exact hm
def stil.T11 : Bool × List (List Nat × List Nat) := (true, [([], []), ([], []), ([1], [1]), ([], []), ([3], [3]), ([4], [4]), ([5], [5]), ([6], [6]), ([2, 7], [2, 7]), ([8], [8]), ([0, 9], [0, 9]), ([10, 0, 1, 2, 3, 4, 5, 6, 7, 8, 9, 10], [0, 10])])
def stil.B11 : List Nat := [0, 0, 2, 0, 8, 24, 56, 120, 254, 510, 1023, 2047]
theorem stil.tab11 : rtab .any (opsOf Tryz.f59 11) = stil.T11 := by kernel_rfl
theorem stil.bits11 : waitsOk stil.T11.2 stil.B11 = true := by kernel_rfl
def stil.T13 : Bool × List (List Nat × List Nat) := (true, [([], []), ([], []), ([1], [1]), ([], []), ([3], [3]), ([4], [4]), ([2, 5], [2, 5]), ([6], [6]), ([7], [7]), ([], []), ([9], [9]), ([8, 10], [8, 10]), ([11], [11]), ([0, 12], [0, 12]), ([13, 0, 1, 2, 3, 4, 5, 6, 7, 8, 9, 10, 11, 12, 13], [0, 13])])
def stil.B13 : List Nat := [0, 0, 2, 0, 8, 24, 62, 126, 254, 0, 512, 2046, 4094, 8191, 16383]
theorem stil.tab13 : rtab .any (opsOf Tryz.f59 13) = stil.T13 := by kernel_rfl
theorem stil.bits13 : waitsOk stil.T13.2 stil.B13 = true := by kernel_rfl
theorem still_calls (M now n : Int) (A : Option Addr) (l : List S57) (c : Nat) (A2 : Option Addr) (q : List S63) (c2 : Nat) (A3 : Option Addr) (c3 : Nat) (w : World) (hr : Kd.C k57 w A l.length l) (hr2 : Kd.C k63 w A2 q.length q) (hk : StillOk M now l q) :
  Calls Tryz.prog 59 #[stV M now A l.length c A2 q.length c2 A3 c3, .int .i64 n] w fun e w' => e = .returned (.int .i64 (stillL M now n l q)) /\ Below w.heap.size w w' := by
 have HR := hZ hr;have HR2 := hZ hr2;have HK := hZ hk;have hl12 := hk.sane.len;have hnow0 := hk.now0;have hnow1 := hk.now1;have hpl : (runsL M l).length <= 12 := Nat.le_trans (pickL_le _ _) (Nat.le_trans (readyL_len l) hl12);have D := fun wx (hb : Below w.heap.size w wx) => runs_calls M now A c l (.slice A2 q.length c2) A3 c3 wx (Kd.C_below hr hb) hk.sane ⟨_, _, _, rfl⟩ (rank_lt (by have := hk.sane.m1; omega) (by have := readyL_sorted hk.sane.sorted; rw [List.nodup_iff_pairwise_ne]; exact this.imp (fun h => by omega)))
 have HM : Hid (∀ k (h : k < l.length), l[k].f0 ∈ runsL M l -> l[k].f1.f4 = 1) := hZ (fun k h hm => mem_runs hk.sane.sorted h hm);have HB0 : Hid (Below w.heap.size w (w.alloc (.cells #[.int .i64 M, .int .i64 now, .slice A l.length c, .slice A2 q.length c2, .slice A3 0 c3] 47))) := hZ (below_alloc (Below.refl _ _) _);have HX0 : Hid ((w.alloc (.cells #[.int .i64 M, .int .i64 now, .slice A l.length c, .slice A2 q.length c2, .slice A3 0 c3] 47)).heap[w.heap.size]? = some (.cells #[.int .i64 M, .int .i64 now, .slice A l.length c, .slice A2 q.length c2, .slice A3 0 c3] 47 (0, 0))) := hZ (blk_new _ _);have HF : Hid (stillL M now n l q = max (l.foldl (stillV (runsL M l) now q) n) 0) := hZ rfl;generalize stillL M now n l q = fin at *;clear hr hr2 hk;unfold stV;generalize runsL M l = ids at *;go_enter Tryz.func59, Tryz.ntmps59
 go_wp2_with (go_at_call 57; (with_reducible refine (D _ HB0.out).mono ?_); rintro e w1 ⟨A6, c6, rfl, hc6, hC6, _, hB1⟩; have HC6 := hZ hC6; have HX1 := hZ (blk_below HX0.out hB1); have HB1 := hZ (HB0.out.trans (hB1.mono HB0.out.size)); have x2 := (blk_cell HX1.out 2).trans rfl; clear hC6 hB1)
 clear HB0 HX0 x2
 go_loopw [1, 19] (fun v1 v19 wr => ∃ (i : Nat), v19 = .int .i64 i /\ i <= l.length /\ v1 = .int .i64 ((l.take i).foldl (stillV ids now q) n) /\ Hid (Below w1.heap.size w1 wr)) (fun _ v19 _ => l.length - (intOf v19).toNat)
 case atStart => exact ⟨0, rfl, Nat.zero_le _, rfl, hZ (Below.refl _ _)⟩
 case round =>
  obtain ⟨i, rfl, hi, rfl, HB⟩ := hrel;by_cases hlt : i < l.length
  ·have HTK : Hid ((l.take (i + 1)).foldl (stillV ids now q) n = stillV ids now q ((l.take i).foldl (stillV ids now q) n) l[i]) := hZ (by rw [List.take_succ_eq_append_getElem hlt, List.foldl_append]; rfl);generalize (l.take i).foldl (stillV ids now q) n = m0 at *;have HBW := hZ (HB1.out.trans (HB.out.mono HB1.out.size));obtain ⟨ad, J, cJ, rfl, hC⟩ := cells57 (Kd.C_below HR.out HBW.out) hlt;obtain ⟨r0, r1, r2, r3, r4, r5, r6, r7, r8, r9, r10, hjc, hjobs⟩ := hC;have xb := blk_below HX1.out HB.out;have x1 := (blk_cell xb 1).trans rfl;have hcbs := HK.out.cbs i hlt;have hrun := HK.out.run i hlt;have hheld := HK.out.held i hlt;have hlock := HK.out.lock i hlt;have hmi := HM.out i hlt;generalize l[i] = x at *;have hw1 : IntKind.i64.wrap (x.f1.f3 - now) = x.f1.f3 - now := by have := hcbs.d0; have := hcbs.dm; rw [i64_w]; unfold Go.RowKit.wrap64; omega
   have b0 : (0 : Int) <= (i : Int) := by omega
   have b1 : (i : Int) < (l.length : Int) := by omega
   have t1 := fun o => alloc_cell x1 o
   clear x1
   go_upto_region 5 with fail
   generalize hW : wr.alloc (.cells #[.int .i64 x.f0, .int .i64 x.f1.f0, .int .i64 x.f1.f1, .int .i64 x.f1.f2, .int .i64 x.f1.f3, .int .i64 x.f1.f4, .slice J x.f2.length cJ, .int .i64 x.f3, .int .i64 x.f4, .int .i64 x.f5, .int .i64 x.f6] 57) = wb at *;have hbx : wb.heap[wr.heap.size]? = some (.cells #[.int .i64 x.f0, .int .i64 x.f1.f0, .int .i64 x.f1.f1, .int .i64 x.f1.f2, .int .i64 x.f1.f3, .int .i64 x.f1.f4, .slice J x.f2.length cJ, .int .i64 x.f3, .int .i64 x.f4, .int .i64 x.f5, .int .i64 x.f6] 57 (0, 0)) := by rw [<- hW]; exact blk_new _ _
   have HBb : Hid (Below wr.heap.size wr wb) := hZ (by rw [<- hW]; exact below_alloc (Below.refl _ _) _);have x1 : wb.cell? ⟨w.heap.size, 1, none⟩ = some (.int .i64 now) := by rw [<- hW]; exact t1 _
   have HXb := hZ (blk_below xb HBb.out);have HJ := hZ (Kd.C_below hjobs HBb.out);clear hW t1 xb hjobs r0 r1 r2 r3 r4 r5 r6 r7 r8 r9 r10;have r0 := (blk_cell hbx 0).trans rfl;have r3 := (blk_cell hbx 3).trans rfl;have r4 := (blk_cell hbx 4).trans rfl;have r5 := (blk_cell hbx 5).trans rfl;have r6 := (blk_cell hbx 6).trans rfl;have r7 := (blk_cell hbx 7).trans rfl;have r8 := (blk_cell hbx 8).trans rfl
   go_cut [34] from 20 to 93 (fun v34 wx => v34 = .bool (decide (x.f1.f4 ≠ 0 /\ now < x.f1.f3)) /\ wx = wb)
   case first =>
    by_cases h1 : x.f1.f4 = 0
    ·have g1 : (x.f1.f4 != 0) = false := by simp [h1]
     have e : decide (x.f1.f4 ≠ 0 /\ now < x.f1.f3) = false := by simp [h1]
     clear h1
     go_wp2_with fail
     go_meet;exact ⟨by rw [e], rfl⟩
    ·have g1 : (x.f1.f4 != 0) = true := by simp [h1]
     have e : decide (x.f1.f4 ≠ 0 /\ now < x.f1.f3) = decide (now < x.f1.f3) := by simp [h1]
     clear h1
     go_wp2_with fail
     go_meet;exact ⟨by rw [e], rfl⟩
   case rest =>
    obtain ⟨rfl, rfl⟩ := hcut
    go_upto_if 34 with fail
    go_cut [1] from 20 to 93 (fun v1 wx => v1 = .int .i64 (st1 now x m0) /\ wx = wc)
    case first =>
     by_cases h1 : x.f1.f4 ≠ 0 /\ now < x.f1.f3
     ·have e : st1 now x m0 = min m0 (x.f1.f3 - now) := by unfold st1; rw [if_pos h1]
      have g1 : decide (x.f1.f4 ≠ 0 /\ now < x.f1.f3) = true := by simpa using h1
      go_wp2_with fail
      all_goals
       go_meet;exact ⟨by rw [e]; exact congrArg _ (by omega), rfl⟩
     ·have e : st1 now x m0 = m0 := by unfold st1; rw [if_neg h1]
      have g1 : decide (x.f1.f4 ≠ 0 /\ now < x.f1.f3) = false := by simpa using h1
      go_wp2_with fail
      go_meet;exact ⟨by rw [e], rfl⟩
    case rest =>
     obtain ⟨rfl, hwc⟩ := hcut;subst hwc;have HBA : Hid (Below w1.heap.size w1 wc) := hZ (HB.out.trans (HBb.out.mono HB.out.size));have DCt := contains_calls A6 c6 ids x.f0 wc (Kd.C_below HC6.out HBA.out) (by omega);by_cases hin : x.f0 ∈ ids
     ·have hm1 := hmi hin;obtain ⟨j, js, hj1, hj2⟩ := hrun hm1;have gin : decide (x.f0 ∈ ids) = true := by simpa using hin
      have hb1 := hcbs.mb hm1;have hb0 := hcbs.bq;have hb2 := hcbs.qp;have hb3 := hcbs.pm;have hj3 := hj2.d0;have hj4 := hj2.dn;have HS : Hid (servStep x = stepOf j) := hZ (by unfold servStep; rw [hj1]; rfl);have HD : Hid (doneOf x = j.f3) := hZ (by unfold doneOf; rw [hj1]; rfl);have hst := pgood_at hj2.prog hj2.at0 hj2.atl;have HST : Hid (stepOf j = rd_T72 j.f1 j.f2) := hZ rfl;have DJ := fun A c wx h => jstep_calls j A c wx h hj2
      have HTK2 : Hid ((l.take (i + 1)).foldl (stillV ids now q) n = st4 q x (st3 x (st2 x (st1 now x m0)))) := hZ (by rw [HTK.out]; unfold stillV; rw [if_pos hin]);have hlk : x.f3 = 2 -> 1 <= (stepOf j).f0 /\ (stepOf j).f0 <= q.length := fun h => by have := hlock hm1 h; rwa [HS.out] at this
      rw [<- HST.out] at hst;generalize st1 now x m0 = m1 at *;rw [hj1, List.length_cons] at hbx;have HJ2 := hZ HJ.out;rw [hj1] at HJ2;obtain ⟨ad5, A7, c7, rfl, s0, s1, s2, s3, hpl7, hpr7⟩ := job0 HJ2.out;have HPR := hZ hpr7;have hw2 : IntKind.i64.wrap (x.f1.f2 - 1) = x.f1.f2 - 1 := by rw [i64_w]; unfold Go.RowKit.wrap64; omega
      clear HTK HST hrun hlock hmi hcbs hj2 hpr7 HJ HJ2
      go_upto_region 8 with (go_at_call 86; (with_reducible refine DCt.mono ?_); rintro e w4 ⟨rfl, rfl⟩)
      go_cut [1] from 20 to 93 (fun v1 wx => v1 = .int .i64 (st2 x m1) /\ wx = wc)
      case first =>
       have e : st2 x m1 = min m1 (x.f1.f2 - 1) := rfl
       go_wp2_with fail
       all_goals
        go_meet;exact ⟨by rw [e]; exact congrArg _ (by omega), rfl⟩
      case rest =>
       obtain ⟨rfl, hwc⟩ := hcut;subst hwc;have r6 := (blk_cell hbx 6).trans rfl;generalize stepOf j = sp at *;obtain ⟨sm, sn⟩ := sp;dsimp only at hst hj4 hlk;have hw3 : IntKind.i64.wrap (sn - j.f3) = sn - j.f3 := by rw [i64_w]; unfold Go.RowKit.wrap64; omega
       have hw4 : IntKind.i64.wrap (sn - j.f3 - 1) = sn - j.f3 - 1 := by rw [i64_w]; unfold Go.RowKit.wrap64; omega
       have hlen : (0 : Int) < ((js.length : Int) + 1) := by omega
       go_upto_if 64 with (go_at_call 58; (with_reducible refine (DJ _ _ _ (HPR.out)).mono ?_); rintro e w6 ⟨rfl, hB6⟩; have hbs := blk_below hbx hB6; have f7 := fun o => alloc_cell ((blk_cell hbs 7).trans rfl) o; have HBX6 := hZ hbs; have HB6 := hZ hB6; clear hB6 hbs)
       have HBS : Hid ((w6.alloc (.cells #[.int .i64 sm, .int .i64 sn] 72)).heap[wr.heap.size]? = some (.cells #[.int .i64 x.f0, .int .i64 x.f1.f0, .int .i64 x.f1.f1, .int .i64 x.f1.f2, .int .i64 x.f1.f3, .int .i64 x.f1.f4, .slice (some ad5) (js.length + 1) cJ, .int .i64 x.f3, .int .i64 x.f4, .int .i64 x.f5, .int .i64 x.f6] 57 (0, 0))) := hZ (blk_below HBX6.out (below_alloc (Below.refl _ _) _));have HSS : Hid ((w6.alloc (.cells #[.int .i64 sm, .int .i64 sn] 72)).heap[w6.heap.size]? = some (.cells #[.int .i64 sm, .int .i64 sn] 72 (0, 0))) := hZ (blk_new _ _);have HBW6 : Hid (Below wc.heap.size wc (w6.alloc (.cells #[.int .i64 sm, .int .i64 sn] 72))) := hZ (HB6.out.trans (below_alloc (Below.refl _ _) _ |>.mono HB6.out.size));generalize hws : w6.alloc (.cells #[.int .i64 sm, .int .i64 sn] 72) = ws at *;clear hws f7 HBX6;have y6 := (blk_cell HBS.out 6).trans rfl;have y1 := (blk_cell HSS.out 1).trans rfl;have y3 := (HBW6.out.cell (World.block_lt_of_cell? _ _ s3)).trans s3
       go_cut [1] from 20 to 93 (fun v1 wx => v1 = .int .i64 (st3 x (st2 x m1)) /\ Hid (Below ws.heap.size ws wx))
       case first =>
        by_cases h1 : x.f3 = 1
        ·have e : st3 x (st2 x m1) = st2 x m1 := by unfold st3; rw [if_pos h1]
         have g1 : (x.f3 != 1) = false := by simp [h1]
         clear h1
         go_wp2_with fail
         go_meet;exact ⟨by rw [e], hZ (Below.refl _ _)⟩
        ·have e : st3 x (st2 x m1) = min (st2 x m1) (sn - j.f3 - 1) := by unfold st3; rw [if_neg h1, HS.out, HD.out]
         have g1 : (x.f3 != 1) = true := by simp [h1]
         clear h1;generalize st3 x (st2 x m1) = m3 at *;generalize st2 x m1 = m2 at *
         go_upto_region 11 with fail
         refine start_ (n := 12) (S := fun w' => w'.cell? ⟨w6.heap.size, 1, none⟩ = some (.int .i64 sn) /\ w'.cell? ⟨wr.heap.size, 6, none⟩ = some (.slice (some ad5) (js.length + 1) cJ) /\ w'.cell? ⟨ad5.block, ad5.off + 3, none⟩ = some (.int .i64 j.f3) /\ Hid (Below ws.drew.heap.size ws.drew w')) (ds := [11]) #[false, false, false, false, false, false, false, false, false, false, false, false] (by kernel_rfl) rfl rfl ⟨(show ws.drew.cell? _ = _ from y1), (show ws.drew.cell? _ = _ from y6), (show ws.drew.cell? _ = _ from y3), (hZ (Below.refl ws.drew.heap.size ws.drew))⟩ (fun hHeld => ?_);refine with_tabW stil.tab11 stil.bits11 (fun HT_ HW_ => ?_);have hbd := drB ws;have hsd : ws.heap.size = ws.drew.heap.size := rfl;generalize hwd : ws.drew = wd at *;clear hwd;refine pst 0 (some 65) HT_ ?_;refine pst 1 (some 66) HT_ ?_;refine pst 3 (some 68) HT_ ?_;refine tst 2 (some 67) HT_ HW_ hHeld ?_ (hy := by rintro w' ⟨s0, s1, s2, s3⟩; go_simp; with_reducible rfl);refine tst 4 (some 69) HT_ HW_ hHeld ?_ (hy := by rintro w' ⟨s0, s1, s2, s3⟩; go_simp; with_reducible rfl);refine pst 5 (some 70) HT_ ?_;refine pst 6 (some 71) HT_ ?_;refine tst 7 (some 72) HT_ HW_ hHeld ?_ (hy := by rintro w' ⟨s0, s1, s2, s3⟩; go_simp; with_reducible rfl);refine pst 8 (some 73) HT_ ?_;refine pst 9 (some 74) HT_ ?_;refine pst 10 (some 75) HT_ ?_;refine pst 11 (some 1) HT_ ?_;refine done_ (done_of HT_.out (by kernel_rfl)) ?_
         go_wp2_with fail
         all_goals
          go_meet;exact ⟨by rw [e]; exact congrArg _ (by omega), hbd⟩
       case rest =>
        obtain ⟨rfl, HBZ⟩ := hcut;have HBS2 := hZ (blk_below HBS.out HBZ.out);have x7 := (blk_cell HBS2.out 7).trans rfl;have HBA2 : Hid (Below w1.heap.size w1 wc) := hZ (HBA.out.trans ((HBW6.out.trans (HBZ.out.mono HBW6.out.size)).mono HBA.out.size));clear r0 r3 r4 r5 r6 r7 r8 y6 y1 y3 s0 s1 s2 s3 x1;by_cases h2 : x.f3 = 2
        ·have g2 : (x.f3 == 2) = true := by simp [h2]
         obtain ⟨hk1, hk2⟩ := hlk h2;obtain ⟨nn, hnn⟩ : ∃ nn : Nat, sm = (nn : Int) + 1 := ⟨(sm - 1).toNat, by omega⟩;have hnq : nn < q.length := by omega
         subst hnn;have hgd : q.getD ((nn : Int) + 1 - 1).toNat z63 = q[nn] := by rw [show ((nn : Int) + 1 - 1).toNat = nn by omega]; simp [hnq]
         have HTK3 : Hid (st4 q x (st3 x (st2 x m1)) = min (st3 x (st2 x m1)) (q[nn].f0 - x.f4 - 1)) := hZ (by unfold st4; rw [if_pos h2, HS.out, hgd]);have hmost := HK.out.most nn hnq;obtain ⟨ad8, J8, c8, rfl, hC8⟩ := cells63 (Kd.C_below HR2.out (HB1.out.trans (HBA2.out.mono HB1.out.size))) hnq;have x5 := hC8.1;have x3 := (blk_cell (blk_below HX1.out HBA2.out) 3).trans rfl;have x4 := (blk_cell (blk_below HSS.out HBZ.out) 0).trans rfl;have x6 := (blk_cell HBS2.out 8).trans rfl;have hw5 : IntKind.i64.wrap ((nn : Int) + 1 - 1) = (nn : Int) := by rw [i64_w]; unfold Go.RowKit.wrap64; omega
         have hw6 : IntKind.i64.wrap (q[nn].f0 - x.f4) = q[nn].f0 - x.f4 := by rw [i64_w]; unfold Go.RowKit.wrap64; omega
         have hw7 : IntKind.i64.wrap (q[nn].f0 - x.f4 - 1) = q[nn].f0 - x.f4 - 1 := by rw [i64_w]; unfold Go.RowKit.wrap64; omega
         have hn0 : (0 : Int) <= (nn : Int) := Int.natCast_nonneg nn;have hw8 : Go.RowKit.wrap64 (nn : Int) = (nn : Int) := by unfold Go.RowKit.wrap64; omega
         have hn9 : ((nn : Int)).toNat = nn := Int.toNat_natCast nn;have hn1 : (nn : Int) < (q.length : Int) := Int.ofNat_lt.2 hnq;clear hgd h2 hC8 hlk;generalize st3 x (st2 x m1) = m3 at *
         go_upto_region 13 with fail
         refine start_ (n := 15) (S := fun w' => w'.cell? ⟨w.heap.size, 3, none⟩ = some (.slice (some ad8) q.length c2) /\ w'.cell? ⟨w6.heap.size, 0, none⟩ = some (.int .i64 ((nn : Int) + 1)) /\ w'.cell? (ad8.add (nn * 4)) = some (.int .i64 q[nn].f0) /\ w'.cell? ⟨wr.heap.size, 8, none⟩ = some (.int .i64 x.f4) /\ Hid (Below wc.drew.heap.size wc.drew w')) (ds := [14]) #[false, false, false, false, false, false, false, false, false, false, false, false, false, false, false] (by kernel_rfl) rfl rfl ⟨(show wc.drew.cell? _ = _ from x3), (show wc.drew.cell? _ = _ from x4), (show wc.drew.cell? _ = _ from x5), (show wc.drew.cell? _ = _ from x6), (hZ (Below.refl wc.drew.heap.size wc.drew))⟩ (fun hHeld => ?_);refine with_tabW stil.tab13 stil.bits13 (fun HT_ HW_ => ?_);have hbd := drB wc;have hsd : wc.heap.size = wc.drew.heap.size := rfl;generalize hwd : wc.drew = wd at *;clear hwd;refine pst 0 (some 79) HT_ ?_;refine pst 1 (some 80) HT_ ?_;refine pst 3 (some 82) HT_ ?_;refine pst 9 (some 88) HT_ ?_;refine tst 2 (some 81) HT_ HW_ hHeld ?_ (hy := by rintro w' ⟨s0, s1, s2, s3, s4⟩; go_simp; with_reducible rfl);refine tst 4 (some 83) HT_ HW_ hHeld ?_ (hy := by rintro w' ⟨s0, s1, s2, s3, s4⟩; go_simp; with_reducible rfl);refine pst 5 (some 84) HT_ ?_;refine pst 6 (some 85) HT_ ?_;refine pst 7 (some 86) HT_ ?_;refine tst 8 (some 87) HT_ HW_ hHeld ?_ (hy := by rintro w' ⟨s0, s1, s2, s3, s4⟩; go_simp; with_reducible rfl);refine tst 10 (some 89) HT_ HW_ hHeld ?_ (hy := by rintro w' ⟨s0, s1, s2, s3, s4⟩; go_simp; with_reducible rfl);refine pst 11 (some 90) HT_ ?_;refine pst 12 (some 91) HT_ ?_;refine pst 13 (some 92) HT_ ?_;refine pst 14 (some 1) HT_ ?_;refine done_ (done_of HT_.out (by kernel_rfl)) ?_;go_wp2
         all_goals
          go_roundw
          case rel => exact ⟨i + 1, by go_num, by omega, by rw [HTK2.out, HTK3.out]; exact congrArg _ (by omega), hZ (HBA2.out.trans (hbd.out.mono HBA2.out.size))⟩
          case measure => first | (simp [intOf]; done) | (simp [intOf]; omega)
        ·have g2 : (x.f3 == 2) = false := by simp [h2]
         have HTK3 : Hid (st4 q x (st3 x (st2 x m1)) = st3 x (st2 x m1)) := hZ (by unfold st4; rw [if_neg h2]);go_wp2;go_roundw
         case rel => exact ⟨i + 1, by go_num, by omega, by rw [HTK2.out, HTK3.out], HBA2⟩
         case measure => first | (simp [intOf]; done) | (simp [intOf]; omega)
     ·have gin : decide (x.f0 ∈ ids) = false := by simpa using hin
      have HTK2 : Hid ((l.take (i + 1)).foldl (stillV ids now q) n = st1 now x m0) := hZ (by rw [HTK.out]; unfold stillV; rw [if_neg hin])
      go_wp2_with (go_at_call 86; (with_reducible refine DCt.mono ?_); rintro e w4 ⟨rfl, rfl⟩)
      go_roundw
      case rel => exact ⟨i + 1, by go_num, by omega, by rw [HTK2.out], HBA⟩
      case measure => first | (simp [intOf]; done) | (simp [intOf]; omega)
  ·have hie : i = l.length := by omega
   subst hie;rw [List.take_length];go_wp2
   all_goals
    go_ret;rw [HF.out]
    first
    | exact ⟨congrArg (fun z => Ending.returned (Value.int .i64 z)) (show (0 : Int) = max (l.foldl (stillV ids now q) n) 0 by omega), HB1.out.trans (HB.out.mono HB1.out.size)⟩
    | exact ⟨congrArg (fun z => Ending.returned (Value.int .i64 z)) (show l.foldl (stillV ids now q) n = max (l.foldl (stillV ids now q) n) 0 by omega), HB1.out.trans (HB.out.mono HB1.out.size)⟩
end Go.Proofs.YtfimkmlgnmaopaaGreat.Top
