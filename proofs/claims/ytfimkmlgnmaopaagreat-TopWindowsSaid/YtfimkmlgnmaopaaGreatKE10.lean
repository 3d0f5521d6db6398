/- Part 10 of what is proved of the functions that the law reaches (contracts of functions, plain laws): no condition but those that each theorem names. -/
import Derived.Test.YtfimkmlgnmaopaaGreatKE9
import Derived.ChangeSlices
import Derived.ChangeArms
import Derived.ChangeSame
import Derived.WideShapes
set_option maxHeartbeats 40000000
set_option maxRecDepth 100000
namespace Go.Proofs.YtfimkmlgnmaopaaGreat.Top
open Go.RowKit Go.Proofs.YtfimkmlgnmaopaaGreatW.PrintWords Go.Proofs.YtfimkmlgnmaopaaGreatW.PrintLast Go.Proofs.YtfimkmlgnmaopaaGreatW.PrintMore Go.Proofs.YtfimkmlgnmaopaaGreat.PTopNames
set_option linter.unusedVariables false
set_option linter.unusedSimpArgs false
section
variable {M now c : Int} {wt : Nat -> Int} {l : List S57} {q : List S63} {R : Nat -> List Nat}
theorem Inv.tickV (h : Inv M now c wt noD l q R) (hn : now < 1000000000) (hw : ∀ k, k < l.length -> (at_ l k).f3 = 0 -> wt k <= 0) (hwin : ∀ k, k < l.length -> (at_ l k).f1.f3 <= now + (at_ l k).f1.f1) : TickV M now l (settleL M now l q).1 (goL 1 M now (now + 1) l q).1 (placesOf M (settleL M now l q).1) := by
  obtain ⟨R', hS, _, e1, _, _⟩ := h.settle hw;obtain ⟨_, R1, hI, _, e2, _, _⟩ := h.go1 hn hw;have hs := hS.inv.sane.sorted
  exact { n1 := e1
          n2 := e2
          cbs := fun k hk => (h.serv k hk).cbs
          cbs2 := fun k hk => (hI.serv k (by rw [e2]; exact hk)).cbs
          set := fun k _ => settle_v h.sane.sorted k
          op := fun k hk => hS.op k (by rw [e1]; exact hk)
          ah := fun k hk => (h.serv k hk).ahead
          win := hwin
          go := fun k _ => hS.go_v hn k
          nd := places_nodup hs
          mem := fun p hp => by
            have := (mem_places hs).1 hp;exact ⟨by rw [<- e1]; exact this.1, this.2.1⟩
          full := fun k hk => places_full hS.inv.sane (by rw [e1]; exact hk) }
end
def cond1 (now : Int) (x : S57) : Prop := x.f1.f4 = 1 /\ x.f1.f3 - now = x.f1.f1 /\ x.f1.f2 = x.f1.f0
def cond2 (x : S57) : Prop := x.f1.f4 = 0 \/ (x.f1.f4 = 2 /\ 0 < x.f1.f2)
instance (now : Int) (x : S57) : Decidable (cond1 now x) := by unfold cond1; infer_instance
instance (x : S57) : Decidable (cond2 x) := by unfold cond2; infer_instance
def sn1 (now : Int) (x : S57) (s : Int) : Int := if cond1 now x then now else if cond2 x then -1 else s
def rn1 (now : Int) (x : S57) (r : Int) : Int := if cond1 now x then 0 else r
def sn2 (now : Int) (x y : S57) (s : Int) : Int := if y.f1.f4 = 0 then -1 else sn1 now x s
def rn2 (now : Int) (x y : S57) (r : Int) : Int := rn1 now x r + if x.f6 < y.f6 then 1 else 0
structure WinSt (m now : Int) (l : List S57) (pr : List S85) (sn rn : Nat -> Int) : Prop where
  all : AllIn m pr
  pairs : PairsOf pr l
  win : ∀ k, k < l.length -> (at_ l k).f1.f3 <= now + (at_ l k).f1.f1
  st : ∀ k, k < l.length -> sn k = -1 \/ ∃ C V u, KSt m now (sn k) (rn k) l k C V u
  now0 : 0 <= now
  sb : ∀ k, -1 <= sn k /\ sn k <= now
  rb : ∀ k, 0 <= rn k /\ rn k <= now
section
variable {m now : Int} {l ls l' : List S57} {ps : List Nat} {pr : List S85} {sn rn : Nat -> Int}
theorem TickV.pairs (h : TickV m now l ls l' ps) (hP : PairsOf pr l) : PairsOf pr l' where
  len := h.n2.trans hP.len
  at_ := fun k hk => by
    rw [h.n2] at hk;have h1 := h.q2 hk;rw [h1.1, h1.2.1];exact hP.at_ k hk
theorem TickV.ran (h : TickV m now l ls l' ps) {k : Nat} (hk : k < l.length) : (if (at_ ls k).f6 < (at_ l' k).f6 then (1 : Int) else 0) = if k ∈ ps then 1 else 0 := by
  have h1 := (h.q2 hk).2.2.2.2;by_cases hp : k ∈ ps
  · rw [if_pos hp] at h1 |-; rw [if_pos (by omega)]
  · rw [if_neg hp] at h1 |-; rw [if_neg (by omega)]
theorem WinSt.one (h : WinSt m now l pr sn rn) (hT : TickV m now l ls l' ps) {k : Nat} (hk : k < l.length) : sn2 now (at_ ls k) (at_ l' k) (sn k) = -1 \/ ∃ C V u, KSt m (now + 1) (sn2 now (at_ ls k) (at_ l' k) (sn k)) (rn2 now (at_ ls k) (at_ l' k) (rn k)) l' k C V u := by
  unfold sn2 rn2;rw [hT.ran hk];by_cases hy : (at_ l' k).f1.f4 = 0
  · rw [if_pos hy]; exact .inl rfl
  · rw [if_neg hy];unfold sn1 rn1;by_cases h1 : cond1 now (at_ ls k)
    · rw [if_pos h1, if_pos h1];exact .inr (hT.next h.all h.pairs (hT.begin hk h.now0 h1.1 h1.2.1 h1.2.2) hy)
    · rw [if_neg h1, if_neg h1];by_cases h2 : cond2 (at_ ls k)
      · rw [if_pos h2]; exact .inl rfl
      · rw [if_neg h2];rcases h.st k hk with e | ⟨C, V, u, hK⟩
        · exact .inl e
        · rcases hT.keep hK with e | e | hK2
          · exact absurd e h1
          · exact absurd (.inr e) h2
          · exact .inr (hT.next h.all h.pairs hK2 hy)
theorem WinSt.told (h : WinSt m now l pr sn rn) (hT : TickV m now l ls l' ps) {k : Nat} (hk : k < l.length) (h0 : 0 <= sn2 now (at_ ls k) (at_ l' k) (sn k)) : (now + 1 = sn2 now (at_ ls k) (at_ l' k) (sn k) + (at_ ls k).f1.f1 -> rn2 now (at_ ls k) (at_ l' k) (rn k) = (at_ ls k).f1.f0) /\ rn2 now (at_ ls k) (at_ l' k) (rn k) <= (at_ ls k).f1.f0 := by
  have hs := hT.sq hk;have h2 := hT.q2 hk;rw [hs.1, hs.2.1, <- h2.1, <- h2.2.1];rcases h.one hT hk with e | ⟨C, V, u, hK⟩
  · omega
  · exact hK.told (hT.cbs2 k hk)
theorem WinSt.bnd (h : WinSt m now l pr sn rn) (x y : S57) (k : Nat) : (-1 <= sn2 now x y (sn k) /\ sn2 now x y (sn k) <= now + 1) /\ (0 <= rn2 now x y (rn k) /\ rn2 now x y (rn k) <= now + 1) /\ (-1 <= sn1 now x (sn k) /\ sn1 now x (sn k) <= now) /\ (0 <= rn1 now x (rn k) /\ rn1 now x (rn k) <= now) := by
  have h1 := h.sb k;have h2 := h.rb k;have h3 := h.now0;unfold sn2 rn2 sn1 rn1;refine ⟨?_, ?_, ?_, ?_⟩
  · split
    · omega
    · split
      · omega
      · split <;> omega
  · split <;> split <;> omega
  · split
    · omega
    · split <;> omega
  · split <;> omega
def snK (now : Int) (ls l' : List S57) (sn : Nat -> Int) (kk : Nat) (j : Nat) : Int := if j < kk then sn2 now (at_ ls j) (at_ l' j) (sn j) else sn j
def rnK (now : Int) (ls l' : List S57) (rn : Nat -> Int) (kk : Nat) (j : Nat) : Int := if j < kk then rn2 now (at_ ls j) (at_ l' j) (rn j) else rn j
theorem WinSt.tick (h : WinSt m now l pr sn rn) (hT : TickV m now l ls l' ps) : WinSt m (now + 1) l' pr (snK now ls l' sn l.length) (rnK now ls l' rn l.length) where
  all := h.all
  pairs := hT.pairs h.pairs
  win := fun k hk => hT.win' (by rw [<- hT.n2]; exact hk)
  st := fun k hk => by
    rw [hT.n2] at hk;have := h.one hT hk;unfold snK rnK;rw [if_pos hk, if_pos hk];exact this
  now0 := by have := h.now0; omega
  sb := fun k => by
    unfold snK;split
    · exact (h.bnd _ _ k).1
    · have := h.sb k; omega
  rb := fun k => by
    unfold rnK;split
    · exact (h.bnd _ _ k).2.1
    · have := h.rb k; omega
theorem wakeS_wk {s : S54} (hc : CbsOk s) (hw : s.f3 <= now + s.f1) : (wakeS s now).f0 = s.f0 /\ (wakeS s now).f1 = s.f1 /\ (wakeS s now).f3 <= now + s.f1 /\ ∀ a C, Wk s.f0 s.f1 a now C s.f2 s.f3 -> Wk s.f0 s.f1 a now C (wakeS s now).f2 (wakeS s now).f3 := by
  have hq := hc.q1;have hp := hc.qp;unfold wakeS;by_cases hd : s.f3 <= now
  · rw [if_pos hd];exact ⟨rfl, rfl, Int.le_refl _, fun a C h => h.turn (d' := now + s.f1) hq hp hd (by omega) (by omega) (Int.le_refl _)⟩
  · rw [if_neg hd];by_cases hb : min (s.f3 - now) s.f1 * s.f0 < s.f2 * s.f1
    · rw [if_pos hb];refine ⟨rfl, rfl, hw, fun a C h => h.less (b' := min (s.f3 - now) s.f1 * s.f0 / s.f1) ?_⟩;exact Int.ediv_le_of_le_mul (by omega) (by omega)
    · rw [if_neg hb];exact ⟨rfl, rfl, hw, fun a C h => h⟩
theorem WinSt.rel (h : WinSt m now l pr sn rn) (hc : ∀ k, k < l.length -> CbsOk (at_ l k).f1) {i : Nat} (hi : i < l.length) (P : List S72) : WinSt m now (l.set i (relX now P l[i])) pr sn rn := by
  have hlen : (l.set i (relX now P l[i])).length = l.length := List.length_set
  have hat : ∀ k, at_ (l.set i (relX now P l[i])) k = if k = i then relX now P (at_ l i) else at_ l k := fun k => by
    rw [at_set, at_lt hi];by_cases e : k = i
    · rw [if_pos ⟨e, hi⟩, if_pos e]
    · rw [if_neg (fun h => e h.1), if_neg e]
  have hwi := wakeS_wk (now := now) (hc i hi) (h.win i hi)
  have hf : ∀ k, k < l.length -> (at_ (l.set i (relX now P l[i])) k).f1.f0 = (at_ l k).f1.f0 /\ (at_ (l.set i (relX now P l[i])) k).f1.f1 = (at_ l k).f1.f1 /\ (at_ (l.set i (relX now P l[i])) k).f1.f3 <= now + (at_ l k).f1.f1 /\ (∀ a C, Wk (at_ l k).f1.f0 (at_ l k).f1.f1 a now C (at_ l k).f1.f2 (at_ l k).f1.f3 -> Wk (at_ l k).f1.f0 (at_ l k).f1.f1 a now C (at_ (l.set i (relX now P l[i])) k).f1.f2 (at_ (l.set i (relX now P l[i])) k).f1.f3) /\ ((at_ l k).f1.f4 ≠ 0 -> (at_ (l.set i (relX now P l[i])) k).f1 = (at_ l k).f1) := fun k hk => by
    rw [hat];by_cases e : k = i
    · rw [if_pos e, e];unfold relX;dsimp only;by_cases h0 : (at_ l i).f1.f4 = 0
      · rw [if_pos h0]; exact ⟨hwi.1, hwi.2.1, hwi.2.2.1, hwi.2.2.2, fun h => absurd h0 h⟩
      · rw [if_neg h0]; exact ⟨rfl, rfl, h.win i hi, fun _ _ h => h, fun _ => rfl⟩
    · rw [if_neg e]; exact ⟨rfl, rfl, h.win k hk, fun _ _ h => h, fun _ => rfl⟩
  refine ⟨h.all, ⟨hlen.trans h.pairs.len, fun k hk => ?_⟩, fun k hk => ?_, fun k hk => ?_, h.now0, h.sb, h.rb⟩
  · rw [hlen] at hk;have h1 := hf k hk;rw [h1.1, h1.2.1];exact h.pairs.at_ k hk
  · rw [hlen] at hk;have h1 := hf k hk;rw [h1.2.1];exact h1.2.2.1
  · rw [hlen] at hk;rcases h.st k hk with e | ⟨C, V, u, hK⟩
    · exact .inl e
    · right;refine ⟨C, V, u, ?_⟩;have hmo := hK.mode;have h1 := (hf k hk).2.2.2.2 (by rcases hmo with e | e <;> omega)
      exact { kl := by rw [hlen]; exact hk
              an := hK.an
              a0 := hK.a0
              due := by rw [h1]; exact hK.due
              n1 := by rw [h1]; exact hK.n1
              mode := by rw [h1]; exact hK.mode
              bud := by rw [h1]; exact hK.bud
              time := by rw [h1]; exact hK.time
              u0 := hK.u0
              u1 := by rw [h1]; exact hK.u1
              wk := fun j hj => by
                rw [hlen] at hj;have h2 := hf j hj;rw [h2.1, h2.2.1];exact h2.2.2.2.1 _ _ (hK.wk j hj)
              cn := fun j hj => hK.cn j (by rw [<- hlen]; exact hj)
              v0 := fun j hj => hK.v0 j (by rw [<- hlen]; exact hj)
              sum := by rw [hlen]; exact hK.sum }
theorem openL_all {M : Int} : ∀ (ps : List S85) (bk : List S157), AllIn M (bk.map S157.f1) -> AllIn M ((openL M ps bk).map S157.f1) := by
  intro ps
  induction ps with
  | nil => intro bk h; exact h
  | cons x xs ih =>
    intro bk h;unfold openL;refine ih _ ?_;split
    · rename_i h0;unfold askC at h0;by_cases hx : WOk x
      · rw [if_pos hx] at h0;by_cases ha : allW M (bk.map S157.f1 ++ [x]) = true
        · rw [List.map_append];show AllIn M (bk.map S157.f1 ++ [x]);refine ⟨fun k hk => ?_, fun k hk => ?_⟩
          · by_cases e : k < (bk.map S157.f1).length
            · rw [List.getElem_append_left e]; exact h.ok k e
            · rw [List.getElem_append_right (by omega)];simpa using hx
          · unfold allW at ha;rw [List.all_eq_true] at ha;have := ha k (List.mem_range.2 hk);unfold oneW at this;exact of_decide_eq_true this
        · rw [if_neg ha] at h0;exact absurd h0 (by decide)
      · rw [if_neg hx] at h0;exact absurd h0 (by decide)
    · exact h
theorem WinSt.new {M : Int} (ps : List S85) : WinSt M 0 (servsOf (openL M ps [])) ((openL M ps []).map S157.f1) (fun _ => -1) (fun _ => 0) := by
  have hall := openL_all (M := M) ps [] ⟨fun k hk => by simp at hk, fun k hk => by simp at hk⟩;generalize openL M ps [] = bk at *;have hlen : (servsOf bk).length = (bk.map S157.f1).length := by unfold servsOf; rw [List.length_map, List.length_map]
  have hat : ∀ k, k < (servsOf bk).length -> (at_ (servsOf bk) k).f1 = ⟨((bk.map S157.f1).getD k z85).f0, ((bk.map S157.f1).getD k z85).f1, 0, 0, 0⟩ := fun k hk => by
    have hk2 : k < bk.length := by rw [hlen, List.length_map] at hk; exact hk
    have e : at_ (servsOf bk) k = newServ bk[k].f0 bk[k].f1.f0 bk[k].f1.f1 := by
      rw [at_lt hk];exact List.getElem_map _
    rw [e];simp [newServ, hk2]
  refine ⟨hall, ⟨hlen, fun k hk => ?_⟩, fun k hk => ?_, fun k hk => .inl rfl, Int.le_refl _, fun _ => by omega, fun _ => by omega⟩
  · rw [hat k hk]; exact ⟨rfl, rfl⟩
  · rw [hat k hk];have hk2 : k < (bk.map S157.f1).length := by rw [<- hlen]; exact hk
    have := hall.ok k hk2;have e : (bk.map S157.f1).getD k z85 = (bk.map S157.f1)[k] := by simp only [List.getD_eq_getElem?_getD, List.getElem?_eq_getElem hk2, Option.getD_some]
    show (0 : Int) <= 0 + ((bk.map S157.f1).getD k z85).f1;rw [e];have := this.1;omega
end
def numRows (n : Nat) (f : Nat -> Int) : List (List Value) := (List.range n).map fun (j : Nat) => [.int .i64 (f j)]
theorem numRows_len (n : Nat) (f : Nat -> Int) : (numRows n f).length = n := by simp [numRows]
theorem numRows_get {n : Nat} {f : Nat -> Int} {k : Nat} (h : k < n) {hh : k < (numRows n f).length} : (numRows n f)[k] = [.int .i64 (f k)] := by simp [numRows]
theorem numRows_set {n : Nat} {f g : Nat -> Int} {k : Nat} (hk : k < n) {u : Value} (hu : u = .int .i64 (g k)) (hg : ∀ j, j < n -> j ≠ k -> g j = f j) {hh : k < (numRows n f).length} : (numRows n f).set k ((numRows n f)[k].set 0 u) = numRows n g := by
 apply List.ext_getElem
 ·rw [List.length_set, numRows_len, numRows_len]
 ·intro j h1 h2;have hj : j < n := by rw [numRows_len] at h2; exact h2
  rw [List.getElem_set, numRows_get hj];by_cases e : k = j
  ·subst e; rw [if_pos rfl, numRows_get hk, hu, numRows_get hk]; rfl
  ·rw [if_neg e, numRows_get hj, hg j hj (fun e2 => e e2.symm)]
structure WSt (W w : World) (lab : Nat -> Nat) (N : Nat) (M now c : Int) (wt : Nat -> Int) (l : List S57) (q : List S63) (R : Nat -> List Nat) (bk : List S157) (E : List (List Value)) (eb Nw : Nat) (vN : Value) (b0 : Nat) (wv : Nat -> Int) : Prop where
 law : Law w lab N M now c wt l q R bk E eb
 llen : l.length = bk.length
 names : (Kd.raw 1).R 41 w b0 (fun _ => True) vN (nameRows bk.length)
 nlab : ∀ b, vN.ownBlock = some b -> lab b = 0 /\ b ≠ Nw
 row : RowAt w Nw 0 1 68 (numRows 300 wv)
 rlab : lab Nw = 0
 wtw : ∀ k, k < l.length -> wt k = wv (k + 1)
 zero : ∀ k, k < l.length -> (at_ l k).f3 ≠ 1 -> wt k = 0
 bel : Below W.heap.size W w
 labW : ∀ b, lab b ≠ 0 -> W.heap.size <= b
 nwW : W.heap.size <= Nw
 pos : ∀ j, 0 <= wv j
section
variable {W w w' : World} {lab lab' : Nat -> Nat} {N : Nat} {M now c : Int} {wt : Nat -> Int} {l l' : List S57} {q q' : List S63} {R R' : Nat -> List Nat} {bk : List S157} {E E' : List (List Value)} {eb eb' Nw b0 : Nat} {vN : Value} {wv : Nat -> Int}
theorem grew_zero (hg : Grew w lab lab') {b : Nat} (h : lab b = 0) (hlt : b < w.heap.size) : lab' b = 0 :=
 Classical.byContradiction (fun e => (hg b e).elim (fun h2 => h2 h) (fun h2 => by omega))
theorem WSt.below (h : WSt W w lab N M now c wt l q R bk E eb Nw vN b0 wv) (hb : Below w.heap.size w w') : WSt W w' lab N M now c wt l q R bk E eb Nw vN b0 wv :=
 ⟨h.law.below hb, h.llen, Kd.R_below h.names hb, h.nlab, h.row.below hb, h.rlab, h.wtw, h.zero, h.bel.trans (hb.mono h.bel.size), h.labW, h.nwW, h.pos⟩
theorem WSt.rel (h : WSt W w lab N M now c wt l q R bk E eb Nw vN b0 wv) (hL : Law w' lab' N M now (c + 1) wt l' q R bk E' eb') (hl : l'.length = l.length) (h3 : ∀ k, k < l.length -> (at_ l' k).f3 = (at_ l k).f3) (hg : Grew w lab lab') (hT : Turn w w' (fun b => lab b ≠ 0)) : WSt W w' lab' N M now (c + 1) wt l' q R bk E' eb' Nw vN b0 wv where
 law := hL
 llen := hl.trans h.llen
 names := raw_turn h.names hT (fun b hb e => e (h.nlab b hb).1)
 nlab := fun b hb => ⟨grew_zero hg (h.nlab b hb).1 (Kd.R_lt h.names b hb), (h.nlab b hb).2⟩
 row := h.row.turn hT (fun e => e h.rlab)
 rlab := grew_zero hg h.rlab h.row.lt
 wtw := fun k hk => h.wtw k (by omega)
 zero := fun k hk e => h.zero k (by omega) (by rw [<- h3 k (by omega)]; exact e)
 bel := Turn.below h.bel hT (fun b e => h.labW b e) h.bel.size
 labW := fun b hb => (hg b hb).elim (h.labW b) (fun e => Nat.le_trans h.bel.size e)
 nwW := h.nwW
 pos := h.pos
def wvK (l' : List S57) (wv : Nat -> Int) (k : Nat) (j : Nat) : Int := if 1 <= j /\ j <= k then (if (at_ l' (j - 1)).f3 = 1 then wv j + 1 else 0) else wv j
theorem WSt.go (h : WSt W w lab N M now c wt l q R bk E eb Nw vN b0 wv) {w1 w2 w3 : World} (hL : Law w1 lab' N M (now + 1) c (fun k => wt k + 1) l' q' R' bk E' eb') (hl : l'.length = l.length) (hg : Grew w lab lab') (hT : Turn w w1 (fun b => lab b ≠ 0)) (hB : Below w1.heap.size w1 w2) (hT2 : Turn w2 w3 (fun b => b = Nw)) (hrow : RowAt w3 Nw 0 1 68 (numRows 300 (wvK l' wv l'.length))) : WSt W w3 lab' N M (now + 1) c (fun k => if (at_ l' k).f3 = 1 then wt k + 1 else 0) l' q' R' bk E' eb' Nw vN b0 (wvK l' wv l'.length) := by
 have hz := grew_zero hg h.rlab h.row.lt;have hs1 := hT.size;have hs2 := hB.size;refine ⟨((hL.below hB).turn hT2 (fun b e => by rw [e]; exact hz)).more (Int.le_refl _) (fun k => ?_) (Nat.le_refl _), hl.trans h.llen, ?_, fun b hb => ⟨grew_zero hg (h.nlab b hb).1 (Kd.R_lt h.names b hb), (h.nlab b hb).2⟩, hrow, hz, fun k hk => ?_, fun k hk e => if_neg e, ?_, fun b hb => (hg b hb).elim (h.labW b) (fun e => Nat.le_trans h.bel.size e), h.nwW, fun j => ?_⟩
 ·by_cases e : (at_ l' k).f3 = 1
  ·left; rw [if_pos e]; exact Int.le_refl _
  ·right;intro n hn
   cases hR : R' n with
   | nil => rw [hR] at hn; simp at hn
   | cons a r =>
    rw [hR] at hn;exact e ((hL.inv.rows.first n a r hR).2 k hn)
 ·exact raw_turn (Kd.R_below (raw_turn h.names hT (fun b hb e => e (h.nlab b hb).1)) hB) hT2 (fun b hb e => (h.nlab b hb).2 e)
 ·have h1 := h.wtw k (by omega);unfold wvK;rw [if_pos (show 1 <= k + 1 /\ k + 1 <= l'.length by omega), Nat.add_sub_cancel, h1]
 ·have h1 := Turn.below h.bel hT (fun b e => h.labW b e) h.bel.size;exact Turn.below (h1.trans (hB.mono h1.size)) hT2 (fun b e => by rw [e]; exact h.nwW) (by have := h.bel.size; omega)
 ·have := h.pos j;unfold wvK
  repeat' split
  all_goals omega
end
def nought40 : Array Value := ((numRows 40 (fun _ => 0)).flatten).toArray
theorem nought40_eq : (#[.int .i64 0, .int .i64 0, .int .i64 0, .int .i64 0, .int .i64 0, .int .i64 0, .int .i64 0, .int .i64 0, .int .i64 0, .int .i64 0, .int .i64 0, .int .i64 0, .int .i64 0, .int .i64 0, .int .i64 0, .int .i64 0, .int .i64 0, .int .i64 0, .int .i64 0, .int .i64 0, .int .i64 0, .int .i64 0, .int .i64 0, .int .i64 0, .int .i64 0, .int .i64 0, .int .i64 0, .int .i64 0, .int .i64 0, .int .i64 0, .int .i64 0, .int .i64 0, .int .i64 0, .int .i64 0, .int .i64 0, .int .i64 0, .int .i64 0, .int .i64 0, .int .i64 0, .int .i64 0] : Array Value) = nought40 := by kernel_rfl
theorem num_new34 (w : World) : RowAt (w.alloc (.cells nought40 34)) w.heap.size 0 1 34 (numRows 40 (fun _ => 0)) := by
 refine ⟨fun x hx => ?_, [], [], rfl, ?_⟩
 ·obtain ⟨k, hk, rfl⟩ := List.mem_iff_getElem.1 hx;rw [numRows_get (by rw [numRows_len] at hk; exact hk)];rfl
 ·rw [blk_new, List.nil_append, List.append_nil];rfl
theorem num_cell {w : World} {b n : Nat} {f : Nat -> Int} (h : RowAt w b 0 1 34 (numRows n f)) {k : Nat} (hk : k < n) : w.cell? ⟨b, k, none⟩ = some (.int .i64 (f k)) := by
 have := h.cell (i := k) (by rw [numRows_len]; exact hk) (j := 0) (by decide) (v := .int .i64 (f k)) (by rw [numRows_get hk]; rfl);rw [show 0 + k * 1 + 0 = k by omega] at this;exact this
theorem num_put {w : World} {b n : Nat} {f : Nat -> Int} (h : RowAt w b 0 1 34 (numRows n f)) {k : Nat} (hk : k < n) (v : Int) : RowAt (w.setCell ⟨b, k, none⟩ (.int .i64 v)) b 0 1 34 (numRows n (fun j => if j = k then v else f j)) := by
 have := h.set (i := k) (by rw [numRows_len]; exact hk) (j := 0) (by decide) (.int .i64 v);rw [show 0 + k * 1 + 0 = k by omega, numRows_set (g := fun j => if j = k then v else f j) hk (by rw [if_pos rfl]) (fun j _ hne => if_neg hne)] at this;exact this
theorem num_eq {w : World} {b n : Nat} {f g : Nat -> Int} (h : RowAt w b 0 1 34 (numRows n f)) (e : ∀ k, k < n -> f k = g k) : RowAt w b 0 1 34 (numRows n g) := by
 have : numRows n f = numRows n g := List.map_congr_left (fun k hk => by rw [e k (List.mem_range.1 hk)]);rw [<- this]; exact h
structure XSt (W w : World) (lab : Nat -> Nat) (N : Nat) (M now c : Int) (l : List S57) (q : List S63) (R : Nat -> List Nat) (bk : List S157) (E : List (List Value)) (eb N1 N2 : Nat) (vN : Value) (b0 : Nat) (pr : List S85) (sn rn : Nat -> Int) : Prop where
 law : Law w lab N M now c (fun _ => 0) l q R bk E eb
 llen : l.length = bk.length
 names : (Kd.raw 1).R 41 w b0 (fun _ => True) vN (nameRows bk.length)
 nlab : ∀ b, vN.ownBlock = some b -> lab b = 0 /\ b ≠ N1 /\ b ≠ N2
 row1 : RowAt w N1 0 1 34 (numRows 40 sn)
 row2 : RowAt w N2 0 1 34 (numRows 40 rn)
 ne : N1 ≠ N2
 rl1 : lab N1 = 0
 rl2 : lab N2 = 0
 win : WinSt M now l pr sn rn
 bel : Below W.heap.size W w
 labW : ∀ b, lab b ≠ 0 -> W.heap.size <= b
 w1 : W.heap.size <= N1
 w2 : W.heap.size <= N2
section
variable {W w w' : World} {lab lab' : Nat -> Nat} {N : Nat} {M now c : Int} {l l' : List S57} {q q' : List S63} {R R' : Nat -> List Nat} {bk : List S157} {E E' : List (List Value)} {eb eb' N1 N2 b0 : Nat} {vN : Value} {pr : List S85} {sn rn sn' rn' : Nat -> Int}
theorem XSt.below (h : XSt W w lab N M now c l q R bk E eb N1 N2 vN b0 pr sn rn) (hb : Below w.heap.size w w') : XSt W w' lab N M now c l q R bk E eb N1 N2 vN b0 pr sn rn :=
 ⟨h.law.below hb, h.llen, Kd.R_below h.names hb, h.nlab, h.row1.below hb, h.row2.below hb, h.ne, h.rl1, h.rl2, h.win, h.bel.trans (hb.mono h.bel.size), h.labW, h.w1, h.w2⟩
theorem XSt.more (h : XSt W w lab N M now c l q R bk E eb N1 N2 vN b0 pr sn rn) {c' : Int} (hc : c <= c') (he : eb <= eb') : XSt W w lab N M now c' l q R bk E eb' N1 N2 vN b0 pr sn rn :=
 ⟨h.law.more hc (fun _ => .inl (Int.le_refl _)) he, h.llen, h.names, h.nlab, h.row1, h.row2, h.ne, h.rl1, h.rl2, h.win, h.bel, h.labW, h.w1, h.w2⟩
theorem XSt.rel (h : XSt W w lab N M now c l q R bk E eb N1 N2 vN b0 pr sn rn) {i : Nat} (hi : i < l.length) {P : List S72} {E0 : List (List Value)} (hL : Law w' lab' N M now (c + 1) (fun _ => 0) l' q R bk E' eb') (hl : l'.length = l.length) (hg : Grew w lab lab') (hT : Turn w w' (fun b => lab b ≠ 0)) (h2 : (l' = l /\ E' = E) \/ (l' = l.set i (relX now P l[i]) /\ E' = E0)) : XSt W w' lab' N M now (c + 1) l' q R bk E' eb' N1 N2 vN b0 pr sn rn where
 law := hL
 llen := hl.trans h.llen
 names := raw_turn h.names hT (fun b hb e => e (h.nlab b hb).1)
 nlab := fun b hb => ⟨grew_zero hg (h.nlab b hb).1 (Kd.R_lt h.names b hb), (h.nlab b hb).2⟩
 row1 := h.row1.turn hT (fun e => e h.rl1)
 row2 := h.row2.turn hT (fun e => e h.rl2)
 ne := h.ne
 rl1 := grew_zero hg h.rl1 h.row1.lt
 rl2 := grew_zero hg h.rl2 h.row2.lt
 win := by
  rcases h2 with ⟨rfl, _⟩ | ⟨rfl, _⟩
  ·exact h.win
  ·exact h.win.rel (fun k hk => (h.law.inv.serv k hk).cbs) hi P
 bel := Turn.below h.bel hT (fun b e => h.labW b e) h.bel.size
 labW := fun b hb => (hg b hb).elim (h.labW b) (fun e => Nat.le_trans h.bel.size e)
 w1 := h.w1
 w2 := h.w2
theorem XSt.go (h : XSt W w lab N M now c l q R bk E eb N1 N2 vN b0 pr sn rn) {w1 w2 w3 : World} (hL : Law w1 lab' N M (now + 1) c (fun _ => 0 + 1) l' q' R' bk E' eb') (hl : l'.length = l.length) (hg : Grew w lab lab') (hT : Turn w w1 (fun b => lab b ≠ 0)) (hB : Below w1.heap.size w1 w2) (hT2 : Turn w2 w3 (fun b => b = N1 \/ b = N2)) (hr1 : RowAt w3 N1 0 1 34 (numRows 40 sn')) (hr2 : RowAt w3 N2 0 1 34 (numRows 40 rn')) (hw : WinSt M (now + 1) l' pr sn' rn') : XSt W w3 lab' N M (now + 1) c l' q' R' bk E' eb' N1 N2 vN b0 pr sn' rn' := by
 have hz1 := grew_zero hg h.rl1 h.row1.lt;have hz2 := grew_zero hg h.rl2 h.row2.lt;have hs1 := hT.size;have hs2 := hB.size;refine ⟨((hL.below hB).turn hT2 (fun b e => by rcases e with e | e <;> rw [e]; exact hz1; exact hz2)).more (Int.le_refl _) (fun k => .inl (by show (0 : Int) <= 0 + 1; decide)) (Nat.le_refl _), hl.trans h.llen, ?_, fun b hb => ⟨grew_zero hg (h.nlab b hb).1 (Kd.R_lt h.names b hb), (h.nlab b hb).2⟩, hr1, hr2, h.ne, hz1, hz2, hw, ?_, fun b hb => (hg b hb).elim (h.labW b) (fun e => Nat.le_trans h.bel.size e), h.w1, h.w2⟩
 ·exact raw_turn (Kd.R_below (raw_turn h.names hT (fun b hb e => e (h.nlab b hb).1)) hB) hT2 (fun b hb e => by rcases e with e | e; exact (h.nlab b hb).2.1 e; exact (h.nlab b hb).2.2 e)
 ·have h1 := Turn.below h.bel hT (fun b e => h.labW b e) h.bel.size;exact Turn.below (h1.trans (hB.mono h1.size)) hT2 (fun b e => by rcases e with e | e <;> rw [e]; exact h.w1; exact h.w2) (by have := h.bel.size; omega)
end
def updN (k : Nat) (v : Int) (f : Nat -> Int) (j : Nat) : Int := if j = k then v else f j
structure Ar (wA w : World) (N1 N2 : Nat) (f g : Nat -> Int) : Prop where
 r1 : RowAt w N1 0 1 34 (numRows 40 f)
 r2 : RowAt w N2 0 1 34 (numRows 40 g)
 t : Turn wA w (fun b => b = N1 \/ b = N2)
section
variable {wA w w' : World} {N1 N2 k : Nat} {f g f' g' : Nat -> Int}
theorem Ar.below (h : Ar wA w N1 N2 f g) (hb : Below w.heap.size w w') : Ar wA w' N1 N2 f g := ⟨h.r1.below hb, h.r2.below hb, h.t.trans (Turn.of_below _ hb)⟩
theorem Ar.here (h : Ar wA w N1 N2 f g) : Ar w w N1 N2 f g := ⟨h.r1, h.r2, Turn.refl _ _⟩
theorem Ar.put1 (h : Ar wA w N1 N2 f g) (hk : k < 40) (hne : N1 ≠ N2) (v : Int) : Ar wA (w.setCell ⟨N1, k, none⟩ (.int .i64 v)) N1 N2 (updN k v f) g :=
 ⟨num_put h.r1 hk v, h.r2.set_ne (fun e => hne e.symm) _, h.t.set (.inl rfl) k _⟩
theorem Ar.put2 (h : Ar wA w N1 N2 f g) (hk : k < 40) (hne : N1 ≠ N2) (v : Int) : Ar wA (w.setCell ⟨N2, k, none⟩ (.int .i64 v)) N1 N2 f (updN k v g) :=
 ⟨h.r1.set_ne hne _, num_put h.r2 hk v, h.t.set (.inr rfl) k _⟩
theorem Ar.eq (h : Ar wA w N1 N2 f g) (e1 : ∀ k, f k = f' k) (e2 : ∀ k, g k = g' k) : Ar wA w N1 N2 f' g' := ⟨num_eq h.r1 (fun k _ => e1 k), num_eq h.r2 (fun k _ => e2 k), h.t⟩
theorem Ar.drew (h : Ar wA w N1 N2 f g) : Ar wA w.drew N1 N2 f g := ⟨h.r1.drew, h.r2.drew, h.t.drew⟩
end
theorem updN_same {k : Nat} {v : Int} {f : Nat -> Int} (e : f k = v) (j : Nat) : f j = updN k v f j := by
 unfold updN;split
 ·rename_i h; rw [h, e]
 ·rfl
theorem updN_updN (k : Nat) (v v' : Int) (f : Nat -> Int) (j : Nat) : updN k v (updN k v' f) j = updN k v f j := by
 unfold updN;split <;> rfl
theorem snK_at (now : Int) (ls l' : List S57) (sn : Nat -> Int) (k : Nat) : snK now ls l' sn k k = sn k := if_neg (Nat.lt_irrefl k)
theorem rnK_at (now : Int) (ls l' : List S57) (rn : Nat -> Int) (k : Nat) : rnK now ls l' rn k k = rn k := if_neg (Nat.lt_irrefl k)
theorem snK_succ (now : Int) (ls l' : List S57) (sn : Nat -> Int) (k j : Nat) : updN k (sn2 now (at_ ls k) (at_ l' k) (sn k)) (snK now ls l' sn k) j = snK now ls l' sn (k + 1) j := by
 unfold updN snK;by_cases e : j = k
 ·subst e; rw [if_pos rfl, if_pos (by omega)]
 ·rw [if_neg e];by_cases h : j < k
  ·rw [if_pos h, if_pos (by omega)]
  ·rw [if_neg h, if_neg (by omega)]
theorem rnK_succ (now : Int) (ls l' : List S57) (rn : Nat -> Int) (k j : Nat) : updN k (rn2 now (at_ ls k) (at_ l' k) (rn k)) (rnK now ls l' rn k) j = rnK now ls l' rn (k + 1) j := by
 unfold updN rnK;by_cases e : j = k
 ·subst e; rw [if_pos rfl, if_pos (by omega)]
 ·rw [if_neg e];by_cases h : j < k
  ·rw [if_pos h, if_pos (by omega)]
  ·rw [if_neg h, if_neg (by omega)]
structure RowC (w : World) (ad : Addr) (k : Nat) (x : S57) (p : Ref) : Prop where
 e0 : w.cell? (ad.add (k * 11)) = some (.int .i64 x.f0)
 e1 : w.cell? ⟨(ad.add (k * 11)).block, (ad.add (k * 11)).off + 1, none⟩ = some (.int .i64 x.f1.f0)
 e2 : w.cell? ⟨(ad.add (k * 11)).block, (ad.add (k * 11)).off + 2, none⟩ = some (.int .i64 x.f1.f1)
 e3 : w.cell? ⟨(ad.add (k * 11)).block, (ad.add (k * 11)).off + 3, none⟩ = some (.int .i64 x.f1.f2)
 e4 : w.cell? ⟨(ad.add (k * 11)).block, (ad.add (k * 11)).off + 4, none⟩ = some (.int .i64 x.f1.f3)
 e5 : w.cell? ⟨(ad.add (k * 11)).block, (ad.add (k * 11)).off + 5, none⟩ = some (.int .i64 x.f1.f4)
 e6 : w.cell? ⟨(ad.add (k * 11)).block, (ad.add (k * 11)).off + 6, none⟩ = some (.slice p.1 x.f2.length p.2)
 e7 : w.cell? ⟨(ad.add (k * 11)).block, (ad.add (k * 11)).off + 7, none⟩ = some (.int .i64 x.f3)
 e8 : w.cell? ⟨(ad.add (k * 11)).block, (ad.add (k * 11)).off + 8, none⟩ = some (.int .i64 x.f4)
 e9 : w.cell? ⟨(ad.add (k * 11)).block, (ad.add (k * 11)).off + 9, none⟩ = some (.int .i64 x.f5)
 e10 : w.cell? ⟨(ad.add (k * 11)).block, (ad.add (k * 11)).off + 10, none⟩ = some (.int .i64 x.f6)
theorem rowC {w : World} {g : Nat} {l : List S57} {r : Nat -> Ref} (h : RowAt w g 0 11 57 (rowsOf servRow l r)) {k : Nat} (hk : k < l.length) : RowC w ⟨g, 0, none⟩ k l[k] (r k) := by
 have hl : k < (rowsOf servRow l r).length := by rw [rowsOf_len]; exact hk
 have hc : ∀ (j : Nat) (v : Value), j < 11 -> (servRow l[k] (r k))[j]? = some v -> w.cell? ⟨g, 0 + k * 11 + j, none⟩ = some v := fun j v hj hv => h.cell hl hj (by rw [rowsOf_get hk]; exact hv)
 refine ⟨?_, ?_, ?_, ?_, ?_, ?_, ?_, ?_, ?_, ?_, ?_⟩ <;> rw [addr_at]
 ·exact hc 0 _ (by decide) rfl
 ·exact hc 1 _ (by decide) rfl
 ·exact hc 2 _ (by decide) rfl
 ·exact hc 3 _ (by decide) rfl
 ·exact hc 4 _ (by decide) rfl
 ·exact hc 5 _ (by decide) rfl
 ·exact hc 6 _ (by decide) rfl
 ·exact hc 7 _ (by decide) rfl
 ·exact hc 8 _ (by decide) rfl
 ·exact hc 9 _ (by decide) rfl
 ·exact hc 10 _ (by decide) rfl
def wins.T18 : Bool × List (List Nat × List Nat) := (true, [([], []), ([], []), ([], []), ([], []), ([2, 3], [2, 3]), ([4], [4]), ([5], [5]), ([], []), ([7], [7]), ([6, 8], [6, 8]), ([1, 9], [1, 9]), ([10], [10]), ([], []), ([], []), ([12, 13], [12, 13]), ([14], [14]), ([15], [15]), ([0, 11, 16], [0, 11, 16])])
def wins.B18 : List Nat := [0, 0, 0, 0, 12, 28, 60, 0, 128, 508, 1022, 2046, 0, 0, 12288, 28672, 61440, 131071]
theorem wins.tab18 : rtab .any (opsOf Tryz.f4 18) = wins.T18 := by kernel_rfl
theorem wins.bits18 : waitsOk wins.T18.2 wins.B18 = true := by kernel_rfl
def wins.T41 : Bool × List (List Nat × List Nat) := (true, [([], []), ([0], [0]), ([1], [1]), ([2], [2]), ([3], [3]), ([4], [4]), ([5, 4], [4, 5]), ([4], [4]), ([7, 4], [4, 7]), ([8, 4], [4, 8]), ([4], [4]), ([10, 4], [4, 10]), ([11, 4], [4, 11]), ([9, 12, 4], [4, 9, 12]), ([6, 13, 4], [4, 6, 13]), ([4, 14], [4, 14]), ([15, 4], [15]), ([16], [16]), ([17, 16], [16, 17]), ([18, 16], [16, 18]), ([16], [16]), ([20, 16], [16, 20]), ([21, 16], [16, 21]), ([19, 22, 16], [16, 19, 22]), ([16, 23], [16, 23])])
def wins.B41 : List Nat := [0, 1, 3, 7, 15, 31, 63, 31, 159, 415, 31, 1055, 3103, 8095, 16383, 32767, 65535, 131071, 262143, 524287, 131071, 1179647, 3276799, 8388607, 16777215]
theorem wins.tab41 : rtab .any (opsOf Tryz.f4 41) = wins.T41 := by kernel_rfl
theorem wins.bits41 : waitsOk wins.T41.2 wins.B41 = true := by kernel_rfl
def wins.T43 : Bool × List (List Nat × List Nat) := (true, [([], []), ([0], [0]), ([1], [1]), ([2], [2]), ([3], [3]), ([4], [4]), ([5, 4], [4, 5]), ([6, 4], [4, 6]), ([4], [4]), ([8, 4], [4, 8]), ([9, 4], [4, 9]), ([7, 10, 4], [4, 7, 10]), ([4, 11], [4, 11])])
def wins.B43 : List Nat := [0, 1, 3, 7, 15, 31, 63, 127, 31, 287, 799, 2047, 4095]
theorem wins.tab43 : rtab .any (opsOf Tryz.f4 43) = wins.T43 := by kernel_rfl
theorem wins.bits43 : waitsOk wins.T43.2 wins.B43 = true := by kernel_rfl
theorem name_at9 {w : World} {b0 n cN : Nat} {AN : Option Addr} (h : (Kd.raw 1).R 41 w b0 (fun _ => True) (.slice AN n cN) (nameRows n)) {t : Nat} (ht : t < n) : ∃ an, AN = some an /\ w.cell? (an.add t) = some (.int .u32 (t : Int)) := by
  obtain ⟨A5, c5, e5, hc5, hC5⟩ := Kd.R_reads h;rw [nameRows_len] at e5 hC5;injection e5 with e6 e7 e8;subst e6 e8;obtain ⟨an, hAN, hcn⟩ := hC5.2.2 (by omega);refine ⟨an, hAN, ?_⟩;obtain ⟨cs, hl, hK, hcell⟩ := hcn t [.int .u32 (t : Int)] (by simp [nameRows, ht]);have e : cs = [.int .u32 (t : Int)] := by first | exact hK.1 | exact hK.1.symm
  subst e;have := hcell 0 _ rfl;rw [show t * (Kd.raw 1).sz + 0 = t from by show t * 1 + 0 = t; omega] at this;exact this
theorem topwin_calls (m : Int) (Am : Option Addr) (cm : Nat) (ms : List Int) (Al : Option Addr) (cl : Nat) (ps : List S85) (A : Option Addr) (c : Nat) (dos : List Do3) (w : World) (hm : (Kd.int .i64).C w Am ms.length ms) (hp : Kd.C k85 w Al ps.length ps) (hd : DoAt w A dos) (hmax : dos.length <= 9223372036854775807) :
    Calls Tryz.prog 4 #[.int .i64 m, .slice Am ms.length cm, .slice Al ps.length cl, .slice A dos.length c] w fun e w' => e = .returned (.bool true) /\ Below w.heap.size w w' := by
  have DA := awake_calls w
  have DH := fun wx (hb : Below w.heap.size w wx) => (heavy_calls m Am ms.length cm Al ps.length cl A c dos wx (hd.below hb) hmax).mono (fun e w' h => (by
    rcases h with ⟨h | ⟨h, hL⟩, hB⟩
    · exact ⟨true, h, (fun e => by cases e), hB⟩
    · exact ⟨false, h, fun _ => hL, hB⟩ : ∃ b : Bool, e = .returned (.bool b) /\ (b = false -> Light m ms.length ps.length dos) /\ Below wx.heap.size wx w'))
  go_enter Tryz.func4, Tryz.ntmps4
  go_upto_region 3 with (go_at_call 7; (with_reducible refine DA.mono ?_); rintro e w1 ⟨rfl, hB1⟩; have HB1 := hZ hB1; clear hB1)
  go_upto_if 30 with (go_at_call 8; (with_reducible refine (DH _ HB1.out).mono ?_); rintro e w2 ⟨b, rfl, hb, hB2⟩; have HB2 := hZ (HB1.out.trans (hB2.mono HB1.out.size)); have HLT := hZ hb; clear hB2 hb)
  cases b with
  | true =>
    go_wp2;go_ret;exact ⟨by first | trivial | rfl, HB2.out⟩
  | false =>
    obtain ⟨m1, m2, nm8, nl12, do40, hea⟩ := HLT.out rfl;have HEA := hZ hea;clear hea HLT;have DN := snew_calls m Am cm ms w2 (Kd.C_below hm HB2.out) m1 (by omega) nm8;by_cases hok : newB_ok m ms = true
    · have DN := DN.mono (fun e w' h => h.1 hok);have HOK := hZ hok;clear hok
      go_upto_region 8 with (go_at_call 9; (with_reducible refine DN.mono ?_); rintro e w3 ⟨N, lab, rfl, hS, hB3, hl3⟩; have HS := hZ hS; have HB3 := hZ hB3; have HL3 := hZ hl3; clear hS hB3 hl3)
      clear DN DA DH;have HB3w := hZ (HB2.out.trans (HB3.out.mono HB2.out.size));have hs2 := HB2.out.size;have hlaw : Law w3 lab N m 0 0 (fun _ => 0) [] (ms.map lockOf) (fun _ => []) [] [] 0 := ⟨HS.out, Inv.new HOK.out _, fun k hk => by simp at hk, Nat.le_refl _⟩;have DO := opened_calls N lab m 0 (fun _ => 0) (ms.map lockOf) (fun _ => []) [] 0 Al cl ps w3 hlaw (by decide) w hp HB3w.out (fun b hb => by have := HL3.out b hb; omega) nl12;clear hlaw
      go_upto_region 9 with (go_at_call 10; (with_reducible refine DO.mono ?_); rintro e w4 ⟨vN, lab4, rfl, hR4, hV4, hL4, hBO4, hG4, hT4⟩; have HR4 := hZ hR4; have HV4 := hZ hV4; have HL4 := hZ hL4; have HBO4 := hZ hBO4; have HG4 := hZ hG4; have HT4 := hZ hT4; clear hR4 hV4 hL4 hBO4 hG4 hT4)
      clear DO;have hWIN := WinSt.new (M := m) ps;have hsl : (servsOf (openL m ps [])).length = (openL m ps []).length := by unfold servsOf; rw [List.length_map]
      have hs3 := HB3w.out.size;have hs4 := HT4.out.size;have hnbk : (openL m ps []).length <= 12 := by have := openL_len (M := m) ps []; simp at this; omega
      generalize openL m ps [] = bk at *;generalize bk.map S157.f1 = pr at hWIN;obtain ⟨AN, cN, hvN⟩ := Kd.R_slice HR4.out;rw [nameRows_len] at hvN;subst hvN;have hsz : (w4.alloc (.cells nought40 34)).heap.size = w4.heap.size + 1 := by simp
      obtain ⟨w5, hw5⟩ : ∃ w5, w5 = (w4.alloc (.cells nought40 34)).alloc (.cells nought40 34) := ⟨_, rfl⟩
      have HX5 : Hid (RowAt w5 w4.heap.size 0 1 34 (numRows 40 (fun _ => 0)) /\ RowAt w5 (w4.heap.size + 1) 0 1 34 (numRows 40 (fun _ => 0)) /\ Below w4.heap.size w4 w5) := hZ (by
        rw [hw5];refine ⟨(num_new34 w4).below (below_alloc (Below.refl _ _) _), ?_, below_alloc (below_alloc (Below.refl _ _) _) _⟩;have := num_new34 (w4.alloc (.cells nought40 34));rw [hsz] at this;exact this)
      go_upto_region 10 with fail
      rw [nought40_eq, <- hw5];have HLT4 : Hid (∀ b, lab4 b ≠ 0 -> b < w4.heap.size) := hZ HL4.out.lt;have HNB4 : Hid (∀ b, (Value.slice AN bk.length cN).ownBlock = some b -> lab4 b = 0 /\ b < w4.heap.size) := hZ (fun b e => ⟨HV4.out b e, Kd.R_lt HR4.out b e⟩)
      have HBE4 : Hid (Below w.heap.size w w4 /\ (∀ b, lab4 b ≠ 0 -> w.heap.size <= b) /\ w.heap.size <= w4.heap.size) := hZ (by
        have h1 := Turn.below HB3w.out HT4.out (fun b e => by have := HL3.out b e; omega) hs3;refine ⟨h1, fun b hb2 => ?_, h1.size⟩;rcases HG4.out b hb2 with h | h
        · have := HL3.out b h; omega
        · omega)
      have HWIN := hZ hWIN;clear hWIN hw5 hsz HS HB3 HL3 HOK HV4 HBO4 HG4 HT4 HB3w hs2 hs3 hs4 HB1 HB2;generalize hN1e : w4.heap.size = N1 at *;generalize hN2e : N1 + 1 = N2 at *;have hN12 : N1 < N2 := by omega
      clear hN2e;obtain ⟨b0, hb0⟩ : ∃ b0, b0 = w3.heap.size := ⟨_, rfl⟩;rw [<- hb0] at HR4;clear hb0;go_wp2
      go_loopw [14] (fun v14 wr => ∃ i : Nat, v14 = .int .i64 i /\ i <= 40 /\ Hid (RowAt wr N1 0 1 34 (numRows 40 (fun j => if j < i then -1 else 0))) /\ Hid (Turn w5 wr (fun b => b = N1))) (fun v14 _ => 40 - (intOf v14).toNat)
      case atStart => exact ⟨0, rfl, by omega, hZ (num_eq HX5.out.1 (fun k _ => by rw [if_neg (by omega)])), hZ (Turn.refl _ _)⟩
      case round =>
        obtain ⟨i, rfl, hi, HRI, HTI⟩ := hrel;have hwi : IntKind.i64.wrap ((i : Int) + 1) = (i : Int) + 1 := by rw [i64_w]; unfold Go.RowKit.wrap64; omega
        by_cases hlt : i < 40
        · have i0 : (0 : Int) <= (i : Int) := Int.natCast_nonneg i;have i1 : (i : Int) < 40 := by omega
          have fi : wr.frozen? ⟨N1, i, none⟩ = false := HRI.out.free i;have ci := num_cell HRI.out hlt;generalize (if i < i then (-1 : Int) else 0) = v0 at ci
          have HRN : Hid (RowAt (wr.setCell ⟨N1, i, none⟩ (.int .i64 (-1))) N1 0 1 34 (numRows 40 (fun j => if j < i + 1 then -1 else 0))) := hZ (num_eq (num_put HRI.out hlt (-1)) (fun j _ => by
            by_cases e : j = i
            · rw [if_pos e, if_pos (show j < i + 1 by omega)]
            · rw [if_neg e];by_cases e2 : j < i
              · rw [if_pos e2, if_pos (show j < i + 1 by omega)]
              · rw [if_neg e2, if_neg (show ¬ j < i + 1 by omega)]))
          have HTN : Hid (Turn w5 (wr.setCell ⟨N1, i, none⟩ (.int .i64 (-1))) (fun b => b = N1)) := hZ (HTI.out.set rfl i _);go_wp2;go_roundw
          case rel => exact ⟨i + 1, by go_num, by omega, HRN, HTN⟩
          case measure => simp [intOf]; omega
        · have he40 : i = 40 := by omega
          have HW5 : Hid (XSt w wr lab4 N m 0 0 (servsOf bk) (ms.map lockOf) (fun _ => []) bk [] 0 N1 N2 (.slice AN bk.length cN) b0 pr (fun _ => -1) (fun _ => 0)) := hZ (by
            have hz : ∀ b, b = N1 -> lab4 b = 0 := fun b e => Classical.byContradiction (fun h => by have := HLT4.out b h; omega)
            have hz2 : lab4 N2 = 0 := Classical.byContradiction (fun h => by have := HLT4.out N2 h; omega);have hB := HX5.out.2.2;rw [<- hN1e] at hB
            exact { law := (HL4.out.below hB).turn HTI.out hz
                    llen := hsl
                    names := raw_turn (Kd.R_below HR4.out hB) HTI.out (fun b hb e => by have := HNB4.out b hb; omega)
                    nlab := fun b hb => by have := HNB4.out b hb; exact ⟨this.1, by omega, by omega⟩
                    row1 := num_eq HRI.out (fun j hj => if_pos (by omega))
                    row2 := HX5.out.2.1.turn HTI.out (by omega)
                    ne := by omega
                    rl1 := hz N1 rfl
                    rl2 := hz2
                    win := HWIN.out
                    bel := Turn.below (HBE4.out.1.trans (hB.mono (by rw [hN1e]; exact HBE4.out.2.2))) HTI.out (fun b e => by rw [e]; exact HBE4.out.2.2) (by have := HBE4.out.2.2; have := hB.size; omega)
                    labW := HBE4.out.2.1
                    w1 := HBE4.out.2.2
                    w2 := by have := HBE4.out.2.2; omega })
          clear HRI HTI HX5 HLT4 HNB4 HBE4 HWIN HL4 HR4;go_wp2;clear he40 hlt hi
          go_loopw [15] (fun v15 wr => ∃ (i : Nat) (now : Int) (lab : Nat -> Nat) (l : List S57) (q : List S63) (R : Nat -> List Nat) (E : List (List Value)) (sn rn : Nat -> Int), v15 = .int .i64 i /\ i <= dos.length /\ now <= 200 * (i : Int) /\ Hid (XSt w wr lab N m now (i : Int) l q R bk E (200002 * i) N1 N2 (.slice AN bk.length cN) b0 pr sn rn)) (fun v15 _ => dos.length - (intOf v15).toNat)
          case atStart => exact ⟨0, 0, _, _, _, _, _, _, _, rfl, Nat.zero_le _, by omega, by simpa using HW5⟩
          case round =>
            clear HW5;obtain ⟨i, now, lab, l, q, R, E, sn, rn, rfl, hi, hnow, HW⟩ := hrel;have hw1 : IntKind.i64.wrap ((i : Int) + 1) = (i : Int) + 1 := by rw [i64_w]; unfold Go.RowKit.wrap64; omega
            by_cases hlt : i < dos.length
            · have HD := hZ (hd.below HW.out.bel);obtain ⟨ad, A1, c1, rfl, c0, c1', c2, hC⟩ := HD.out i hlt;have HC := hZ hC;have k0 : (0 : Int) <= (i : Int) := Int.natCast_nonneg i;have k1 : (i : Int) < (dos.length : Int) := by omega
              clear hC
              go_upto_region 17 with fail
              go_cut [64] from 48 to 230 (fun v64 wx => v64 = .bool (decide (0 < bk.length /\ 0 <= dos[i].who)) /\ wx = wr)
              case first =>
                by_cases h1 : 0 < bk.length
                · have g1 : decide ((bk.length : Int) > 0) = true := by simpa using h1
                  by_cases h2 : 0 <= dos[i].who
                  · have g2 : decide (dos[i].who >= 0) = true := by simpa using h2
                    go_wp2;go_meet;exact ⟨by simp [h1, h2], rfl⟩
                  · have g2 : decide (dos[i].who >= 0) = false := by simpa using h2
                    go_wp2;go_meet;exact ⟨by simp [h1, h2], rfl⟩
                · have g1 : decide ((bk.length : Int) > 0) = false := by simpa using h1
                  go_wp2;go_meet;exact ⟨by simp [h1], rfl⟩
              case rest =>
                obtain ⟨rfl, rfl⟩ := hcut
                go_upto_if 64 with fail
                go_cut [15] from 48 to 230 (fun v15 wx => v15 = .int .i64 i /\ ∃ (lab' : Nat -> Nat) (l' : List S57) (E' : List (List Value)), Hid (XSt w wx lab' N m now ((i + 1 : Nat) : Int) l' q R bk E' (200002 * i + 2) N1 N2 (.slice AN bk.length cN) b0 pr sn rn))
                case first =>
                  as_aux_lemma =>
                  by_cases hcd : 0 < bk.length /\ 0 <= dos[i].who
                  · have hb1 : (0 : Int) < (bk.length : Int) := by omega
                    obtain ⟨t, ht⟩ : ∃ t : Nat, dos[i].who.tmod (bk.length : Int) = (t : Int) := ⟨(dos[i].who.tmod (bk.length : Int)).toNat, by
                      have := Int.tmod_nonneg (bk.length : Int) hcd.2;omega⟩
                    have ht2 : t < bk.length := by
                      have := Int.tmod_lt_of_pos dos[i].who hb1;omega
                    rw [show decide (0 < bk.length /\ 0 <= dos[i].who) = true by simpa using hcd];have hlt2 : t < l.length := by rw [HW.out.llen]; exact ht2
                    have DR := fun wx (hb : Below wc.heap.size wc wx) => (HW.out.law.below hb).rel (i := t) hlt2 (by omega) (by omega) A1 c1 dos[i].steps (Kd.C_below HC.out hb)
                    obtain ⟨an, hAN, c3⟩ := name_at9 HW.out.names ht2;subst hAN;have t0 : (0 : Int) <= (t : Int) := Int.natCast_nonneg t;have t1 : (t : Int) < (bk.length : Int) := by omega
                    have hbn : ((bk.length : Int) == 0) = false := by rw [beq_eq_false_iff_ne]; omega
                    have hbne : ¬ bk = [] := fun e => by rw [e] at ht2; simp at ht2
                    have HW6 := HW;clear HW hcd ht2 hb1 HD c1';go_wp2;refine start_ (n := 18) (S := fun w' => Hid (Below wc.heap.size wc w')) (ds := [17]) #[false, false, false, false, false, false, false, false, false, false, false, false, false, false, false, false, false, false] (by kernel_rfl) rfl rfl ((hZ (below_drew (Below.refl _ _)))) (fun hHeld => ?_);refine with_tabW wins.tab18 wins.bits18 (fun HT_ HW_ => ?_);have hbd := drB wc;have hsd : wc.heap.size = wc.drew.heap.size := rfl;generalize hwd : wc.drew = wd at *;clear hwd;refine pst 0 (some 65) HT_ ?_;refine pst 1 (some 66) HT_ ?_;refine pst 2 (some 67) HT_ ?_;refine pst 3 (some 68) HT_ ?_;refine pst 4 (some 69) HT_ ?_;refine pst 5 (some 70) HT_ ?_;refine pst 7 (some 72) HT_ ?_;refine pst 8 (some 73) HT_ ?_;refine pst 12 (some 77) HT_ ?_;refine pst 13 (some 78) HT_ ?_;refine pst 14 (some 79) HT_ ?_;refine pst 15 (some 80) HT_ ?_;refine tst 6 (some 71) HT_ HW_ hHeld ?_ (hy := by (intro w' s0; have e0 := (s0.out.cell (World.block_lt_of_cell? _ _ c0)).trans c0; have e2 := (s0.out.cell (World.block_lt_of_cell? _ _ c2)).trans c2; have e3 := (s0.out.cell (World.block_lt_of_cell? _ _ c3)).trans c3); go_simp; with_reducible rfl);refine pst 9 (some 74) HT_ ?_;refine pst 10 (some 75) HT_ ?_;refine tst 11 (some 76) HT_ HW_ hHeld ?_ (hy := by (intro w' s0; have e0 := (s0.out.cell (World.block_lt_of_cell? _ _ c0)).trans c0; have e2 := (s0.out.cell (World.block_lt_of_cell? _ _ c2)).trans c2; have e3 := (s0.out.cell (World.block_lt_of_cell? _ _ c3)).trans c3); go_simp; with_reducible rfl);refine tst 16 (some 81) HT_ HW_ hHeld ?_ (hy := by (intro w' s0; have e0 := (s0.out.cell (World.block_lt_of_cell? _ _ c0)).trans c0; have e2 := (s0.out.cell (World.block_lt_of_cell? _ _ c2)).trans c2; have e3 := (s0.out.cell (World.block_lt_of_cell? _ _ c3)).trans c3); go_simp; with_reducible rfl);refine last_ (i := 17) (N := some 82) #[true, true, true, true, true, true, true, true, true, true, true, true, true, true, true, true, true, true] rfl rfl (one_of HT_.out (by kernel_rfl)) (by decide) (fun K hK => ?_);refine goes_ Tryz.func11 (by kernel_rfl) rfl #[.pointer (some ⟨N, 0, none⟩), .int .u32 (t : Int), .slice A1 dos[i].steps.length c1] (by rfl) rfl rfl (by simp only [List.map_toArray, List.map_cons, List.map_nil]; rfl) ?_;with_reducible refine (DR _ hHeld.out).mono ?_;rintro e w6 ⟨⟨xa, xb, rfl⟩, ⟨lab2, l2, E2, hL2, hl2, hg2, hl23⟩, hT2⟩;refine ⟨_, rfl, ?_⟩;have HB6 := hHeld;refine hK.out _ _ ?_;clear hK K;refine norm_ (a' := ?_) ?_ ?_;rotate_left
                    · show Act.put _ (some 82) _ = _;simp only [Act.put, sqA, sqB, sqC, i64_w, i32_w];rfl
                    refine done_ (done_of HT_.out (by kernel_rfl)) ?_;have hWn := (HW6.out.below HB6.out).rel hlt2 hL2 hl2 hg2 hT2 hl23
                    have HWn : Hid (XSt w w6 lab2 N m now ((i + 1 : Nat) : Int) l2 q R bk E2 (200002 * i + 2) N1 N2 (.slice (some an) bk.length cN) b0 pr sn rn) := hZ (by
                      rw [show ((i + 1 : Nat) : Int) = (i : Int) + 1 by omega];exact hWn)
                    clear hWn;go_wp2;go_meet;exact ⟨rfl, lab2, l2, E2, HWn⟩
                  · rw [show decide (0 < bk.length /\ 0 <= dos[i].who) = false by simpa using hcd];go_wp2;go_meet;exact ⟨rfl, lab, l, E, hZ (HW.out.more (by omega) (by omega))⟩
                case rest =>
                  as_aux_lemma =>
                  obtain ⟨rfl, lab1, l1, E1, HW1⟩ := hcut;clear HW HD c0 c1' c2 HC;have hN200 := (HEA.out i hlt).2;go_wp2
                  go_loopw [16] (fun v16 wr => ∃ (n : Nat) (now' : Int) (lab : Nat -> Nat) (l : List S57) (q : List S63) (R : Nat -> List Nat) (E : List (List Value)) (sn rn : Nat -> Int), v16 = .int .i64 n /\ n <= dos[i].n.toNat /\ now' <= 200 * (i : Int) + n /\ Hid (XSt w wr lab N m now' ((i + 1 : Nat) : Int) l q R bk E (200002 * i + 2 + 1000 * n) N1 N2 (.slice AN bk.length cN) b0 pr sn rn)) (fun v16 _ => dos[i].n.toNat - (intOf v16).toNat)
                  case atStart => exact ⟨0, now, _, _, _, _, _, _, _, rfl, Nat.zero_le _, by omega, HW1⟩
                  case round =>
                    clear HW1;obtain ⟨n, now', lab, l, q, R, E, sn, rn, rfl, hnn, hnow', HW⟩ := hrel;obtain ⟨wb, rfl⟩ : ∃ x : World, x = wr := ⟨_, rfl⟩;have hwn : IntKind.i64.wrap ((n : Int) + 1) = (n : Int) + 1 := by rw [i64_w]; unfold Go.RowKit.wrap64; omega
                    obtain ⟨ad', A1', c1', hA', e0, e1, e2, hC'⟩ := (hd.below HW.out.bel) i hlt
                    cases hA'
                    clear e0 e2 hC';by_cases hnl : (n : Int) < dos[i].n
                    · have gnl : decide ((n : Int) < dos[i].n) = true := by simpa using hnl
                      have hn200 : n <= 200 := by omega
                      have hn0 := HW.out.win.now0;have hnb : now' < 1000000000 := by omega
                      have DG := fun wx (hb : Below wb.heap.size wb wx) => (HW.out.law.below hb).go hnb (fun k hk h3 => Int.le_refl 0) (by omega)
                      have HTV := hZ (HW.out.law.inv.tickV hnb (fun k hk h3 => Int.le_refl 0) HW.out.win.win);have hSET := HW.out.law.inv.settle (fun k hk h3 => Int.le_refl 0)
                      have HCS : Hid ((settleL m now' l q).1.length = l.length /\ (settleL m now' l q).2.1.length = q.length /\ (∀ k, k < l.length -> CbsOk (at_ (settleL m now' l q).1 k).f1) /\ ∀ k, (at_ (settleL m now' l q).1 k).f0 = (at_ l k).f0) := hZ (by
                        obtain ⟨R', hS, _, a1, a2, _, a3⟩ := hSET;exact ⟨a1, a2, fun k hk => (hS.inv.serv k (by rw [a1]; exact hk)).cbs, a3⟩)
                      clear hSET;have DS := HW.out.law.state;unfold stV at DS
                      go_upto_region 23 with (first
                        | (go_at_call 13; (with_reducible refine DS.mono ?_); rintro e w1 ⟨B1, o1, A41, c41, rfl, hO1, hG1, hown1, hB1⟩; have HO1 := hZ hO1; have HB1 := hZ hB1; clear hO1 hG1 hown1 hB1; have DT := settle_calls m now' o1.A l o1.c o1.A2 q o1.c2 A41 c41 B1 w1 HO1.out.old HO1.out.rd (HW.out.law.inv.mok (fun n _ => HW.out.law.inv.row_len n)); unfold SettleP stV at DT)
                        | (go_at_call 12; (with_reducible refine DT.mono ?_); rintro e w2 ⟨o2, A42, c42, v2, rfl, hO2, hown2, hv2, hB2⟩; have HO2 := hZ hO2; have HOW2 := hZ hown2; have HB2 := hZ hB2; clear hO2 hown2 hv2 hB2))
                      clear DS DT;have hs1 := HB1.out.size;have hs2 := HB2.out.size;generalize hgr : goL 1 m now' (now' + 1) l q = gr at *;clear hgr;obtain ⟨l7, q7, ev7⟩ := gr;generalize hpl : placesOf m (settleL m now' l q).1 = pls at *;clear hpl;generalize hsr : settleL m now' l q = sr at *;clear hsr;obtain ⟨ls, qs, evs⟩ := sr;dsimp only at DG HTV HCS HO2;have HX3 := hZ (blk_new w2 (.cells #[.int .i64 m, .int .i64 now', .slice o2.A ls.length o2.c, .slice o2.A2 qs.length o2.c2, .slice A42 0 c42] 47));have HB23 := hZ (below_alloc (Below.refl w2.heap.size w2) (.cells #[.int .i64 m, .int .i64 now', .slice o2.A ls.length o2.c, .slice o2.A2 qs.length o2.c2, .slice A42 0 c42] 47));generalize hw3 : World.alloc _ _ = w3 at *;clear hw3;have hs23 : w2.heap.size < w3.heap.size := blk_lt HX3.out;have HB3 : Hid (Below wb.heap.size wb w3) := hZ (HB1.out.trans ((HB2.out.mono hs1).trans (HB23.out.mono (by omega))))
                      have HR3 : Hid (∀ k (hk : k < ls.length), ∃ g, o2.A = some ⟨g, 0, none⟩ /\ RowAt w3 g 0 11 57 (rowsOf servRow ls o2.r) /\ wb.heap.size <= g /\ g < w2.heap.size) := hZ (fun k hk => by
                        obtain ⟨g, hg, hr⟩ := HO2.out.row (fun e => by rw [e] at hk; simp at hk);refine ⟨g, hg, hr.below HB23.out, ?_, hr.lt⟩;have := HOW2.out .g g (by rw [OwnR.own, hg]; rfl);omega)
                      clear HO1 HO2 HOW2 HB23;have DG3 := DG w3 HB3.out;clear DG e1
                      go_upto_region 25 with (go_at_call 14; (with_reducible refine DG3.mono ?_); rintro e w7 ⟨rfl, ⟨lab7, R7, hL7, hst7, hl7, hq7, hm7, hg7⟩, hT7⟩; have HL7 := hZ hL7; have HG7 := hZ hg7; have HT7 := hZ hT7; have HLN7 := hZ hl7; clear hL7 hst7 hl7 hq7 hm7 hg7 hT7)
                      clear DG3;have hs7 := HT7.out.size;generalize E ++ ev7.map Ev.cells = E7 at *;have HX7 := hZ ((HT7.out.block w2.heap.size hs23 (fun e => e (Classical.byContradiction (fun h => by have := HW.out.law.lt _ h; omega)))).trans HX3.out);have DS := HL7.out.state;unfold stV at DS
                      go_upto_region 26 with (go_at_call 13; (with_reducible refine DS.mono ?_); rintro e w8 ⟨B8, o8, A48, c48, rfl, hO8, hG8, hown8, hB8⟩; have HO8 := hZ hO8; have HGB8 := hZ hG8; have HOW8 := hZ hown8; have HB8 := hZ hB8; clear hO8 hG8 hown8 hB8)
                      have HX9 := hZ (blk_new w8 (.cells #[.int .i64 m, .int .i64 (now' + 1), .slice o8.A l7.length o8.c, .slice o8.A2 q7.length o8.c2, .slice A48 0 c48] 47));have HB89 := hZ (below_alloc (Below.refl w8.heap.size w8) (.cells #[.int .i64 m, .int .i64 (now' + 1), .slice o8.A l7.length o8.c, .slice o8.A2 q7.length o8.c2, .slice A48 0 c48] 47));clear DS;generalize hw9 : World.alloc _ _ = w9 at *;clear hw9;have hs8 := HB8.out.size;have hs89 : w8.heap.size < w9.heap.size := blk_lt HX9.out;have hN1r : N1 < wb.heap.size := HW.out.row1.lt;have hN2r : N2 < wb.heap.size := HW.out.row2.lt;have hs3 := HB3.out.size;have HB79 : Hid (Below w7.heap.size w7 w9) := hZ (HB8.out.trans (HB89.out.mono HB8.out.size));have HXS9 := hZ (blk_below HX7.out HB79.out);have HM9 : Hid (RdF w9 (fun b => ∃ cc, o8.own cc = some b) B8 o8.A l7 o8.A2 q7 /\ B8.n <= w9.heap.size) := hZ ⟨HO8.out.rdf.below HB89.out, by have := HO8.out.old; omega⟩
                      have HS9 : Hid (∀ b, b = N1 \/ b = N2 -> ¬ (∃ cc, o8.own cc = some b) /\ ¬ B8.G b) := hZ (fun b e => by
                        have hb : lab b = 0 /\ b < wb.heap.size := by
                          rcases e with e | e
                          · rw [e]; exact ⟨HW.out.rl1, hN1r⟩
                          · rw [e]; exact ⟨HW.out.rl2, hN2r⟩
                        refine ⟨fun ⟨cc, hc⟩ => by have := HOW8.out cc b hc; omega, fun hg => ?_⟩;exact HGB8.out b hg (grew_zero HG7.out hb.1 (by omega)))
                      have HR9 : Hid (∀ k (hk : k < ls.length), ∃ g, o2.A = some ⟨g, 0, none⟩ /\ RowAt w9 g 0 11 57 (rowsOf servRow ls o2.r) /\ wb.heap.size <= g) := hZ (fun k hk => by
                        obtain ⟨g, hg, hr, h1, h2⟩ := HR3.out k hk;exact ⟨g, hg, (hr.turn HT7.out (fun e => e (Classical.byContradiction (fun h => by have := HW.out.law.lt _ h; omega)))).below HB79.out, h1⟩)
                      have HAR9 : Hid (Ar w9 w9 N1 N2 (snK now' ls l7 sn 0) (rnK now' ls l7 rn 0)) := hZ (by
                        refine Ar.eq (f := sn) (g := rn) ⟨?_, ?_, Turn.refl _ _⟩ (fun k => by unfold snK; rw [if_neg (by omega)]) (fun k => by unfold rnK; rw [if_neg (by omega)])
                        · exact ((HW.out.row1.below HB3.out).turn HT7.out (fun e => e HW.out.rl1)).below HB79.out
                        · exact ((HW.out.row2.below HB3.out).turn HT7.out (fun e => e HW.out.rl2)).below HB79.out)
                      have hNe : N1 ≠ N2 := by omega
                      have HLS := hZ HCS.out.1;have hl12 : l.length <= 12 := HW.out.law.inv.sane.len;clear HO8 HGB8 HOW8 HX3 HR3 HX7 HB1 HB2;generalize hnb2 : w8.heap.size = NN at *;generalize hsb : w2.heap.size = NS at *;clear hnb2 hsb;go_wp2
                      go_loopw [20] (fun v20 wy => ∃ k : Nat, v20 = .int .i64 k /\ k <= l.length /\ Hid (Ar w9 wy N1 N2 (snK now' ls l7 sn k) (rnK now' ls l7 rn k))) (fun v20 _ => l.length - (intOf v20).toNat)
                      case atStart => exact ⟨0, rfl, Nat.zero_le _, HAR9⟩
                      case round =>
                        clear HAR9;obtain ⟨k, rfl, hk, HA⟩ := hrel;have hsk := HA.out.t.size;have HXK := hZ ((HA.out.t.block NN hs89 (fun e => by omega)).trans HX9.out);have HXSK := hZ ((HA.out.t.block NS (by omega) (fun e => by omega)).trans HXS9.out);have x2 : wr.cell? ⟨NS, 2, none⟩ = some (.slice o2.A ls.length o2.c) := (blk_cell HXSK.out 2).trans rfl;have hwk : IntKind.i64.wrap ((k : Int) + 1) = (k : Int) + 1 := by rw [i64_w]; unfold Go.RowKit.wrap64; omega
                        go_upto_region 27 with fail
                        go_cut [111] from 103 to 230 (fun v111 wx => v111 = .bool (decide (k < l.length)) /\ wx = wr)
                        case first =>
                          by_cases h1 : k < l.length
                          · have h7 : k < ls.length := by have := HLS.out; omega
                            have h8 : k < 40 := by omega
                            have h9 : (k : Int) < 40 := by omega
                            go_wp2;go_meet;exact ⟨by simp [h1], rfl⟩
                          · have h7 : ¬ k < ls.length := by have := HLS.out; omega
                            go_wp2;go_meet;exact ⟨by simp [h1], rfl⟩
                        case rest =>
                          as_aux_lemma =>
                          obtain ⟨rfl, rfl⟩ := hcut;obtain ⟨wk, rfl⟩ : ∃ x : World, x = wc := ⟨_, rfl⟩;by_cases hkl : k < l.length
                          · rw [show decide (k < l.length) = true by simpa using hkl];have hkls : k < ls.length := by have := HLS.out; omega
                            have hkl7 : k < l7.length := by have := HLN7.out; omega
                            have hk40 : k < 40 := by omega
                            have k0' : (0 : Int) <= (k : Int) := Int.natCast_nonneg k;have k1' : (k : Int) < (ls.length : Int) := by omega
                            have k2' : (k : Int) < 40 := by omega
                            obtain ⟨g, hg, hrow, hgb⟩ := HR9.out k hkls;obtain ⟨s0, s1, s2, s3, s4, s5, s6, s7, s8, s9, s10⟩ := rowC (hrow.turn HA.out.t (fun e => by omega)) hkls;obtain ⟨gad, hgad⟩ : ∃ gad : Addr, gad = ⟨g, 0, none⟩ := ⟨_, rfl⟩;rw [<- hgad] at hg s0 s1 s2 s3 s4 s5 s6 s7 s8 s9 s10;rw [hg] at x2;generalize o2.r k = jr at *;obtain ⟨J, cJ⟩ := jr;dsimp only at s6;clear hgad hrow hgb g hg;have hax : at_ ls k = ls[k] := at_lt hkls;have hay : at_ l7 k = l7[k] := at_lt hkl7
                            have hx0 : ls[k].f0 = l7[k].f0 := by
                              rw [<- hax, <- hay, HL7.out.ids k hkl7, HCS.out.2.2.2 k, HW.out.law.ids k hkl]
                            have HTK := hZ (HW.out.win.told HTV.out hkl);have HBK := hZ (HW.out.win.bnd (at_ ls k) (at_ l7 k) k);have HCK := hZ (HCS.out.2.2.1 k hkl);have HWK := hZ (HTV.out.winS hkl);rw [hax, hay] at HTK HBK;rw [hax] at HCK HWK;have HSN := hZ (snK_succ now' ls l7 sn k);have HRN := hZ (rnK_succ now' ls l7 rn k);rw [hax, hay] at HSN HRN;have DF := fun wx (hb : Turn w9 wx (fun b => b = N1 \/ b = N2)) => find_calls m (now' + 1) o8.A l7 o8.c o8.A2 q7 o8.c2 A48 c48 B8 k hkl7 wx (Nat.le_trans HM9.out.2 hb.size) (HM9.out.1.keep hb HS9.out).now HL7.out.inv.sane.sorted (by have := HLN7.out; omega) HL7.out.inv.qlen (fun i h => by have := (HL7.out.inv.mok (fun n _ => HL7.out.inv.row_len n)).jlen i h; omega) (fun i h => by have := (HL7.out.inv.mok (fun n _ => HL7.out.inv.row_len n)).room i h; omega)
                            rw [<- hx0] at DF;unfold stV servV at DF;generalize hxg : ls[k] = x at *;generalize hyg : l7[k] = y at *;clear hxg hyg hax hay hx0
                            go_upto_region 30 with fail
                            have HX10 := hZ (blk_new wk (.cells #[.int .i64 x.f0, .int .i64 x.f1.f0, .int .i64 x.f1.f1, .int .i64 x.f1.f2, .int .i64 x.f1.f3, .int .i64 x.f1.f4, .slice J x.f2.length cJ, .int .i64 x.f3, .int .i64 x.f4, .int .i64 x.f5, .int .i64 x.f6] 57));have HB10 := hZ (below_alloc (Below.refl wk.heap.size wk) (.cells #[.int .i64 x.f0, .int .i64 x.f1.f0, .int .i64 x.f1.f1, .int .i64 x.f1.f2, .int .i64 x.f1.f3, .int .i64 x.f1.f4, .slice J x.f2.length cJ, .int .i64 x.f3, .int .i64 x.f4, .int .i64 x.f5, .int .i64 x.f6] 57));clear s0 s1 s2 s3 s4 s5 s6 s7 s8 s9 s10 x2;generalize hw10 : World.alloc _ _ = w10 at *;clear hw10;have hs10 : wk.heap.size < w10.heap.size := blk_lt HX10.out;have HXN10 := hZ (blk_below HXK.out HB10.out);have HXS10 := hZ (blk_below HXSK.out HB10.out);have HA10 := hZ (HA.out.below HB10.out);have DF10 := DF w10 HA10.out.t;clear DF;have n0 : w10.cell? ⟨NN, 0, none⟩ = some (.int .i64 m) := (blk_cell HXN10.out 0).trans rfl;have n1 : w10.cell? ⟨NN, 1, none⟩ = some (.int .i64 (now' + 1)) := (blk_cell HXN10.out 1).trans rfl;have n2 : w10.cell? ⟨NN, 2, none⟩ = some (.slice o8.A l7.length o8.c) := (blk_cell HXN10.out 2).trans rfl;have n3 : w10.cell? ⟨NN, 3, none⟩ = some (.slice o8.A2 q7.length o8.c2) := (blk_cell HXN10.out 3).trans rfl;have n4 : w10.cell? ⟨NN, 4, none⟩ = some (.slice A48 0 c48) := (blk_cell HXN10.out 4).trans rfl;have y0 : w10.cell? ⟨wk.heap.size, 0, none⟩ = some (.int .i64 x.f0) := (blk_cell HX10.out 0).trans rfl
                            go_upto_region 31 with (go_at_call 15; (with_reducible refine DF10.mono ?_); rintro e w11 ⟨py, rfl, hB11⟩; have HB11 := hZ hB11; clear hB11)
                            obtain ⟨J2, cJ2⟩ := py;dsimp only;clear DF10 n0 n1 n2 n3 n4 y0;have HX12 := hZ (blk_new w11 (.cells #[.int .i64 y.f0, .int .i64 y.f1.f0, .int .i64 y.f1.f1, .int .i64 y.f1.f2, .int .i64 y.f1.f3, .int .i64 y.f1.f4, .slice J2 y.f2.length cJ2, .int .i64 y.f3, .int .i64 y.f4, .int .i64 y.f5, .int .i64 y.f6] 57));have HB12 := hZ (below_alloc (Below.refl w11.heap.size w11) (.cells #[.int .i64 y.f0, .int .i64 y.f1.f0, .int .i64 y.f1.f1, .int .i64 y.f1.f2, .int .i64 y.f1.f3, .int .i64 y.f1.f4, .slice J2 y.f2.length cJ2, .int .i64 y.f3, .int .i64 y.f4, .int .i64 y.f5, .int .i64 y.f6] 57));generalize hw12 : World.alloc _ _ = w12 at *;clear hw12;have hs11 := HB11.out.size;have hs12 : w11.heap.size < w12.heap.size := blk_lt HX12.out;have HBB := hZ (HB11.out.trans (HB12.out.mono HB11.out.size));have HXX := hZ (blk_below HX10.out HBB.out);have HXN := hZ (blk_below HXN10.out HBB.out);have HXS := hZ (blk_below HXS10.out HBB.out);have HA12 := hZ ((HA10.out.below HBB.out).here);have HTW := hZ ((HA10.out.below HBB.out).t);generalize hxb : wk.heap.size = X at *;generalize hyb : w11.heap.size = Y at *;have HNX : Hid (∀ b, b = N1 \/ b = N2 -> b ≠ X /\ b ≠ Y /\ b ≠ NN /\ b ≠ NS) := hZ (fun b e => by omega);have HLT : Hid (X < w12.heap.size /\ Y < w12.heap.size /\ NN < w12.heap.size /\ NS < w12.heap.size) := hZ ⟨blk_lt HXX.out, blk_lt HX12.out, blk_lt HXN.out, blk_lt HXS.out⟩
                            have HC : Hid (∀ wx, Turn w12 wx (fun b => b = N1 \/ b = N2) -> wx.cell? ⟨NS, 1, none⟩ = some (.int .i64 now') /\ wx.cell? ⟨NN, 1, none⟩ = some (.int .i64 (now' + 1)) /\ wx.cell? ⟨X, 1, none⟩ = some (.int .i64 x.f1.f0) /\ wx.cell? ⟨X, 2, none⟩ = some (.int .i64 x.f1.f1) /\ wx.cell? ⟨X, 3, none⟩ = some (.int .i64 x.f1.f2) /\ wx.cell? ⟨X, 4, none⟩ = some (.int .i64 x.f1.f3) /\ wx.cell? ⟨X, 5, none⟩ = some (.int .i64 x.f1.f4) /\ wx.cell? ⟨X, 10, none⟩ = some (.int .i64 x.f6) /\ wx.cell? ⟨Y, 5, none⟩ = some (.int .i64 y.f1.f4) /\ wx.cell? ⟨Y, 10, none⟩ = some (.int .i64 y.f6)) := hZ (fun wx ht => by
                              have bS := (ht.block NS HLT.out.2.2.2 (fun e => (HNX.out _ e).2.2.2 rfl)).trans HXS.out;have bN := (ht.block NN HLT.out.2.2.1 (fun e => (HNX.out _ e).2.2.1 rfl)).trans HXN.out;have bX := (ht.block X HLT.out.1 (fun e => (HNX.out _ e).1 rfl)).trans HXX.out;have bY := (ht.block Y HLT.out.2.1 (fun e => (HNX.out _ e).2.1 rfl)).trans HX12.out;exact ⟨(blk_cell bS 1).trans rfl, (blk_cell bN 1).trans rfl, (blk_cell bX 1).trans rfl, (blk_cell bX 2).trans rfl, (blk_cell bX 3).trans rfl, (blk_cell bX 4).trans rfl, (blk_cell bX 5).trans rfl, (blk_cell bX 10).trans rfl, (blk_cell bY 5).trans rfl, (blk_cell bY 10).trans rfl⟩)
                            clear HX10 HB10 HXN10 HXS10 HA10 HX12 HB12 HBB HXX HXN HXS HB11 HXK HXSK hs10 hs11 hs12 hxb hyb;obtain ⟨S1, hS1⟩ : ∃ S1, S1 = sn1 now' x (sn k) := ⟨_, rfl⟩;obtain ⟨R1, hR1⟩ : ∃ R1, R1 = rn1 now' x (rn k) := ⟨_, rfl⟩;obtain ⟨S2, hS2⟩ : ∃ S2, S2 = sn2 now' x y (sn k) := ⟨_, rfl⟩;obtain ⟨R2, hR2⟩ : ∃ R2, R2 = rn2 now' x y (rn k) := ⟨_, rfl⟩;rw [<- hS2, <- hR2] at HTK HBK;rw [<- hS1, <- hR1] at HBK;rw [<- hS2] at HSN;rw [<- hR2] at HRN;have HS1 := hZ hS1;have HR1 := hZ hR1;have HS2 := hZ hS2;have HR2 := hZ hR2;clear hS1 hR1 hS2 hR2
                            go_upto_region 33 with fail
                            go_cut [152] from 103 to 230 (fun v152 wx => v152 = .bool (decide (cond1 now' x)) /\ wx = w12)
                            case first =>
                              as_aux_lemma =>
                              obtain ⟨p1, p2, p3, p4, p5, p6, p7, p8, p9, p10⟩ := HC.out w12 (Turn.refl _ _)
                              have hwd : IntKind.i64.wrap (x.f1.f3 - now') = x.f1.f3 - now' := by
                                have h1 := HCK.out.d0;have h2 := HWK.out.1;have h3 := HCK.out.pm;rw [i64_w]; unfold Go.RowKit.wrap64; omega
                              have hdc : decide (cond1 now' x) = decide (x.f1.f4 = 1 /\ x.f1.f3 - now' = x.f1.f1 /\ x.f1.f2 = x.f1.f0) := rfl;have HDC := hZ hdc;clear hdc;generalize hcv : decide (cond1 now' x) = cv at *;clear hcv;by_cases a1 : x.f1.f4 = 1
                              · by_cases a2 : x.f1.f3 - now' = x.f1.f1
                                · by_cases a3 : x.f1.f2 = x.f1.f0
                                  · have q1 : (x.f1.f4 == 1) = true := by simpa using a1
                                    have q2 : (x.f1.f3 - now' == x.f1.f1) = true := by simpa using a2
                                    have q3 : (x.f1.f2 == x.f1.f0) = true := by simpa using a3
                                    have hcv : cv = true := by rw [HDC.out]; simp [a1, a2, a3]
                                    clear a1 a2 a3;go_wp2;go_meet;exact ⟨by rw [hcv], rfl⟩
                                  · have q1 : (x.f1.f4 == 1) = true := by simpa using a1
                                    have q2 : (x.f1.f3 - now' == x.f1.f1) = true := by simpa using a2
                                    have q3 : (x.f1.f2 == x.f1.f0) = false := by simpa using a3
                                    have hcv : cv = false := by rw [HDC.out]; simp [a3]
                                    clear a1 a2 a3;go_wp2;go_meet;exact ⟨by rw [hcv], rfl⟩
                                · have q1 : (x.f1.f4 == 1) = true := by simpa using a1
                                  have q2 : (x.f1.f3 - now' == x.f1.f1) = false := by simpa using a2
                                  have hcv : cv = false := by rw [HDC.out]; simp [a2]
                                  clear a1 a2;go_wp2;go_meet;exact ⟨by rw [hcv], rfl⟩
                              · have q1 : (x.f1.f4 == 1) = false := by simpa using a1
                                have hcv : cv = false := by rw [HDC.out]; simp [a1]
                                clear a1;go_wp2;go_meet;exact ⟨by rw [hcv], rfl⟩
                            case rest =>
                              as_aux_lemma =>
                              obtain ⟨rfl, hwe⟩ := hcut;subst hwe;obtain ⟨we, rfl⟩ : ∃ x : World, x = wc := ⟨_, rfl⟩
                              go_upto_if 152 with fail
                              go_cut [20] from 103 to 230 (fun v20 wx => v20 = .int .i64 k /\ Hid (Ar we wx N1 N2 (updN k S1 (snK now' ls l7 sn k)) (updN k R1 (rnK now' ls l7 rn k))))
                              case first =>
                                as_aux_lemma =>
                                obtain ⟨p1, p2, p3, p4, p5, p6, p7, p8, p9, p10⟩ := HC.out we (Turn.refl _ _);by_cases hc1 : cond1 now' x
                                · rw [show decide (cond1 now' x) = true by simpa using hc1];have HSE : Hid (S1 = now' /\ R1 = 0) := hZ (by rw [HS1.out, HR1.out]; unfold sn1 rn1; exact ⟨if_pos hc1, if_pos hc1⟩);have f1 : we.frozen? ⟨N1, k, none⟩ = false := HA12.out.r1.free k;have d1 := num_cell HA12.out.r1 hk40;generalize snK now' ls l7 sn k k = v1 at d1;have HP1 := hZ (HA12.out.put1 hk40 hNe now');have d2 := num_cell HP1.out.r2 hk40;generalize rnK now' ls l7 rn k k = v2 at d2;have f2 : (we.setCell ⟨N1, k, none⟩ (.int .i64 now')).frozen? ⟨N2, k, none⟩ = false := HP1.out.r2.free k;have HP2 := hZ (HP1.out.put2 hk40 hNe 0);clear hc1;go_wp2;go_meet;exact ⟨rfl, hZ (by rw [HSE.out.1, HSE.out.2]; exact HP2.out)⟩
                                · rw [show decide (cond1 now' x) = false by simpa using hc1];have HRE : Hid (R1 = rn k /\ S1 = if cond2 x then -1 else sn k) := hZ (by rw [HS1.out, HR1.out]; unfold sn1 rn1; exact ⟨if_neg hc1, if_neg hc1⟩);have HR1e : Hid (∀ j, rnK now' ls l7 rn k j = updN k R1 (rnK now' ls l7 rn k) j) := hZ (fun j => updN_same (by rw [rnK_at, HRE.out.1]) j);have f1 : we.frozen? ⟨N1, k, none⟩ = false := HA12.out.r1.free k;have d1 := num_cell HA12.out.r1 hk40;generalize snK now' ls l7 sn k k = v1 at d1;have HP1 := hZ (HA12.out.put1 hk40 hNe (-1));have HTT : Hid ((x.f1.f4 = 0 \/ (x.f1.f4 = 2 /\ 0 < x.f1.f2)) -> S1 = -1) := hZ (fun h => by rw [HRE.out.2]; exact if_pos h);have HFF : Hid (¬ (x.f1.f4 = 0 \/ (x.f1.f4 = 2 /\ 0 < x.f1.f2)) -> ∀ j, snK now' ls l7 sn k j = updN k S1 (snK now' ls l7 sn k) j) := hZ (fun h j => updN_same (by rw [snK_at, HRE.out.2]; exact (if_neg h).symm) j);clear hc1;by_cases a1 : x.f1.f4 = 0
                                  · have q1 : (x.f1.f4 == 0) = true := by simpa using a1
                                    have HE : Hid (S1 = -1) := hZ (HTT.out (.inl a1));clear a1;go_wp2;go_meet;exact ⟨rfl, hZ (by rw [HE.out]; exact HP1.out.eq (fun _ => rfl) HR1e.out)⟩
                                  · have q1 : (x.f1.f4 == 0) = false := by simpa using a1
                                    by_cases a2 : x.f1.f4 = 2
                                    · have q2 : (x.f1.f4 == 2) = true := by simpa using a2
                                      by_cases a3 : 0 < x.f1.f2
                                      · have q3 : decide (x.f1.f2 > 0) = true := by simpa using a3
                                        have HE : Hid (S1 = -1) := hZ (HTT.out (.inr ⟨a2, a3⟩));clear a1 a2;go_wp2;go_meet;exact ⟨rfl, hZ (by rw [HE.out]; exact HP1.out.eq (fun _ => rfl) HR1e.out)⟩
                                      · have q3 : decide (x.f1.f2 > 0) = false := by simpa using a3
                                        have HE := hZ (HFF.out (fun h => by rcases h with h | h; exact a1 h; exact a3 h.2));clear a1 a2;go_wp2;go_meet;exact ⟨rfl, hZ (HA12.out.eq HE.out HR1e.out)⟩
                                    · have q2 : (x.f1.f4 == 2) = false := by simpa using a2
                                      have HE := hZ (HFF.out (fun h => by rcases h with h | h; exact a1 h; exact a2 h.1));clear a1 a2;go_wp2;go_meet;exact ⟨rfl, hZ (HA12.out.eq HE.out HR1e.out)⟩
                              case rest =>
                                as_aux_lemma =>
                                obtain ⟨rfl, HA13⟩ := hcut;obtain ⟨wf, rfl⟩ : ∃ x : World, x = wc := ⟨_, rfl⟩;obtain ⟨p1, p2, p3, p4, p5, p6, p7, p8, p9, p10⟩ := HC.out wf HA13.out.t
                                go_upto_if 181 with fail
                                clear p1 p2 p3 p4 p5 p6 p7 p8 p9 p10
                                go_cut [20] from 103 to 230 (fun v20 wx => v20 = .int .i64 k /\ Hid (Ar we wx N1 N2 (updN k S1 (snK now' ls l7 sn k)) (updN k R2 (rnK now' ls l7 rn k))))
                                case first =>
                                  as_aux_lemma =>
                                  by_cases hr : x.f6 < y.f6
                                  · have q1 : decide (y.f6 > x.f6) = true := by simpa using hr
                                    have HE : Hid (R2 = R1 + 1) := hZ (by rw [HR2.out, HR1.out]; unfold rn2; rw [if_pos hr])
                                    have c2 : wf.cell? ⟨N2, k, none⟩ = some (.int .i64 R1) := by
                                      have := num_cell HA13.out.r2 hk40;rw [show updN k R1 (rnK now' ls l7 rn k) k = R1 from if_pos rfl] at this;exact this
                                    have hwr : IntKind.i64.wrap (R1 + 1) = R1 + 1 := by
                                      have := HBK.out.2.2.2;rw [i64_w]; unfold Go.RowKit.wrap64; omega
                                    have f2 : wf.frozen? ⟨N2, k, none⟩ = false := HA13.out.r2.free k;have HP := hZ (HA13.out.put2 hk40 hNe (R1 + 1));go_wp2;go_meet;exact ⟨rfl, hZ (by rw [HE.out]; exact HP.out.eq (fun _ => rfl) (fun j => updN_updN k (R1 + 1) R1 _ j))⟩
                                  · have q1 : decide (y.f6 > x.f6) = false := by simpa using hr
                                    have HE : Hid (R2 = R1) := hZ (by rw [HR2.out, HR1.out]; unfold rn2; rw [if_neg hr, Int.add_zero]);go_wp2;go_meet;exact ⟨rfl, hZ (by rw [HE.out]; exact HA13.out)⟩
                                case rest =>
                                  as_aux_lemma =>
                                  obtain ⟨rfl, HA14⟩ := hcut;obtain ⟨wg, rfl⟩ : ∃ x : World, x = wc := ⟨_, rfl⟩;clear HA13;obtain ⟨p1, p2, p3, p4, p5, p6, p7, p8, p9, p10⟩ := HC.out wg HA14.out.t
                                  go_upto_if 190 with fail
                                  clear p1 p2 p3 p4 p5 p6 p7 p8 p9 p10
                                  go_cut [20] from 103 to 230 (fun v20 wx => v20 = .int .i64 k /\ Hid (Ar we wx N1 N2 (updN k S2 (snK now' ls l7 sn k)) (updN k R2 (rnK now' ls l7 rn k))))
                                  case first =>
                                    as_aux_lemma =>
                                    by_cases hy : y.f1.f4 = 0
                                    · have q1 : (y.f1.f4 == 0) = true := by simpa using hy
                                      have HE : Hid (S2 = -1) := hZ (by rw [HS2.out]; unfold sn2; rw [if_pos hy]);have f1 : wg.frozen? ⟨N1, k, none⟩ = false := HA14.out.r1.free k;have d1 := num_cell HA14.out.r1 hk40;generalize updN k S1 (snK now' ls l7 sn k) k = v1 at d1;have HP := hZ (HA14.out.put1 hk40 hNe (-1));clear hy;go_wp2;go_meet;exact ⟨rfl, hZ (by rw [HE.out]; exact HP.out.eq (fun j => updN_updN k (-1) S1 _ j) (fun _ => rfl))⟩
                                    · have q1 : (y.f1.f4 == 0) = false := by simpa using hy
                                      have HE : Hid (S2 = S1) := hZ (by rw [HS2.out, HS1.out]; unfold sn2; rw [if_neg hy]);clear hy;go_wp2;go_meet;exact ⟨rfl, hZ (by rw [HE.out]; exact HA14.out)⟩
                                  case rest =>
                                    as_aux_lemma =>
                                    obtain ⟨rfl, HA15⟩ := hcut;obtain ⟨wz, rfl⟩ : ∃ x : World, x = wc := ⟨_, rfl⟩;clear HA14
                                    have HCD : Hid (∀ wx, Below wz.heap.size wz wx -> wx.cell? ⟨N1, k, none⟩ = some (.int .i64 S2) /\ wx.cell? ⟨N2, k, none⟩ = some (.int .i64 R2)) := hZ (fun wx hb => by
                                      have h1 := num_cell (HA15.out.below hb).r1 hk40;have h2 := num_cell (HA15.out.below hb).r2 hk40;rw [show updN k S2 (snK now' ls l7 sn k) k = S2 from if_pos rfl] at h1;rw [show updN k R2 (rnK now' ls l7 rn k) k = R2 from if_pos rfl] at h2;exact ⟨h1, h2⟩)
                                    have hwS : IntKind.i64.wrap (S2 + x.f1.f1) = S2 + x.f1.f1 := by
                                      have h1 := HBK.out.1;have h2 := HCK.out.q1;have h3 := HCK.out.qp;have h4 := HCK.out.pm;rw [i64_w]; unfold Go.RowKit.wrap64; omega
                                    go_upto_region 41 with fail
                                    go_cut [217] from 103 to 230 (fun v217 wx => v217 = .bool false /\ Hid (Below wz.heap.size wz wx))
                                    case first =>
                                      as_aux_lemma =>
                                      obtain ⟨p1, p2, p3, p4, p5, p6, p7, p8, p9, p10⟩ := HC.out wz HA15.out.t;obtain ⟨c1, c2⟩ := HCD.out wz (Below.refl _ _);clear p1 p5 p6 p7 p8 p9 p10;by_cases h0 : 0 <= S2
                                      · have g0 : decide (S2 >= 0) = true := by simpa using h0
                                        by_cases he : now' + 1 = S2 + x.f1.f1
                                        · have ge : (now' + 1 == S2 + x.f1.f1) = true := by simpa using he
                                          have gr : (R2 != x.f1.f0) = false := by have := (HTK.out h0).1 he; simp [this]
                                          clear he;go_wp2;refine start_ (n := 25) (S := fun w' => Hid (Below wz.heap.size wz w')) (ds := []) #[false, false, false, false, false, false, false, false, false, false, false, false, false, false, false, false, false, false, false, false, false, false, false, false, false] (by kernel_rfl) rfl rfl ((hZ (below_drew (Below.refl _ _)))) (fun hHeld => ?_);refine with_tabW wins.tab41 wins.bits41 (fun HT_ HW_ => ?_);have hbd := drB wz;have hsd : wz.heap.size = wz.drew.heap.size := rfl;generalize hwd : wz.drew = wd at *;clear hwd;refine pst 0 (some 193) HT_ ?_;refine pst 1 (some 194) HT_ ?_;refine tst 2 (some 195) HT_ HW_ hHeld ?_ (hy := by (intro w' s0; have z1 := (s0.out.cell (World.block_lt_of_cell? _ _ c1)).trans c1; have z2 := (s0.out.cell (World.block_lt_of_cell? _ _ p2)).trans p2; have z4 := (s0.out.cell (World.block_lt_of_cell? _ _ p4)).trans p4; have z3 := (s0.out.cell (World.block_lt_of_cell? _ _ p3)).trans p3; have z5 := (s0.out.cell (World.block_lt_of_cell? _ _ c2)).trans c2); go_simp; with_reducible rfl);refine pst 3 (some 196) HT_ ?_;refine pst 4 (some 197) HT_ ?_;refine pst 5 (some 198) HT_ ?_;refine pst 7 (some 200) HT_ ?_;refine pst 8 (some 201) HT_ ?_;refine pst 10 (some 203) HT_ ?_;refine pst 11 (some 204) HT_ ?_;refine tst 6 (some 199) HT_ HW_ hHeld ?_ (hy := by (intro w' s0; have z1 := (s0.out.cell (World.block_lt_of_cell? _ _ c1)).trans c1; have z2 := (s0.out.cell (World.block_lt_of_cell? _ _ p2)).trans p2; have z4 := (s0.out.cell (World.block_lt_of_cell? _ _ p4)).trans p4; have z3 := (s0.out.cell (World.block_lt_of_cell? _ _ p3)).trans p3; have z5 := (s0.out.cell (World.block_lt_of_cell? _ _ c2)).trans c2); go_simp; with_reducible rfl);refine tst 9 (some 202) HT_ HW_ hHeld ?_ (hy := by (intro w' s0; have z1 := (s0.out.cell (World.block_lt_of_cell? _ _ c1)).trans c1; have z2 := (s0.out.cell (World.block_lt_of_cell? _ _ p2)).trans p2; have z4 := (s0.out.cell (World.block_lt_of_cell? _ _ p4)).trans p4; have z3 := (s0.out.cell (World.block_lt_of_cell? _ _ p3)).trans p3; have z5 := (s0.out.cell (World.block_lt_of_cell? _ _ c2)).trans c2); go_simp; with_reducible rfl);refine tst 12 (some 205) HT_ HW_ hHeld ?_ (hy := by (intro w' s0; have z1 := (s0.out.cell (World.block_lt_of_cell? _ _ c1)).trans c1; have z2 := (s0.out.cell (World.block_lt_of_cell? _ _ p2)).trans p2; have z4 := (s0.out.cell (World.block_lt_of_cell? _ _ p4)).trans p4; have z3 := (s0.out.cell (World.block_lt_of_cell? _ _ p3)).trans p3; have z5 := (s0.out.cell (World.block_lt_of_cell? _ _ c2)).trans c2); go_simp; with_reducible rfl);refine pst 13 (some 206) HT_ ?_;refine pst 14 (some 207) HT_ ?_;refine pst 15 (some 208) HT_ ?_;refine pst 16 (some 209) HT_ ?_;refine pst 17 (some 210) HT_ ?_;refine pst 18 (some 211) HT_ ?_;refine pst 20 (some 213) HT_ ?_;refine pst 21 (some 214) HT_ ?_;refine tst 19 (some 212) HT_ HW_ hHeld ?_ (hy := by (intro w' s0; have z1 := (s0.out.cell (World.block_lt_of_cell? _ _ c1)).trans c1; have z2 := (s0.out.cell (World.block_lt_of_cell? _ _ p2)).trans p2; have z4 := (s0.out.cell (World.block_lt_of_cell? _ _ p4)).trans p4; have z3 := (s0.out.cell (World.block_lt_of_cell? _ _ p3)).trans p3; have z5 := (s0.out.cell (World.block_lt_of_cell? _ _ c2)).trans c2); go_simp; with_reducible rfl);refine tst 22 (some 215) HT_ HW_ hHeld ?_ (hy := by (intro w' s0; have z1 := (s0.out.cell (World.block_lt_of_cell? _ _ c1)).trans c1; have z2 := (s0.out.cell (World.block_lt_of_cell? _ _ p2)).trans p2; have z4 := (s0.out.cell (World.block_lt_of_cell? _ _ p4)).trans p4; have z3 := (s0.out.cell (World.block_lt_of_cell? _ _ p3)).trans p3; have z5 := (s0.out.cell (World.block_lt_of_cell? _ _ c2)).trans c2); go_simp; with_reducible rfl);refine pst 23 (some 216) HT_ ?_;refine pst 24 (some 217) HT_ ?_;refine done_ (done_of HT_.out (by kernel_rfl)) ?_;clear HT_ HW_ hHeld;go_wp2;go_meet;exact ⟨rfl, hbd⟩
                                        · have ge : (now' + 1 == S2 + x.f1.f1) = false := by simpa using he
                                          clear he;go_wp2;refine start_ (n := 25) (S := fun w' => Hid (Below wz.heap.size wz w')) (ds := []) #[false, false, false, false, false, false, false, false, false, false, false, false, false, false, false, false, false, false, false, false, false, false, false, false, false] (by kernel_rfl) rfl rfl ((hZ (below_drew (Below.refl _ _)))) (fun hHeld => ?_);refine with_tabW wins.tab41 wins.bits41 (fun HT_ HW_ => ?_);have hbd := drB wz;have hsd : wz.heap.size = wz.drew.heap.size := rfl;generalize hwd : wz.drew = wd at *;clear hwd;refine pst 0 (some 193) HT_ ?_;refine pst 1 (some 194) HT_ ?_;refine tst 2 (some 195) HT_ HW_ hHeld ?_ (hy := by (intro w' s0; have z1 := (s0.out.cell (World.block_lt_of_cell? _ _ c1)).trans c1; have z2 := (s0.out.cell (World.block_lt_of_cell? _ _ p2)).trans p2; have z4 := (s0.out.cell (World.block_lt_of_cell? _ _ p4)).trans p4); go_simp; with_reducible rfl);refine pst 3 (some 196) HT_ ?_;refine pst 4 (some 197) HT_ ?_;refine pst 5 (some 198) HT_ ?_;refine pst 7 (some 200) HT_ ?_;refine pst 8 (some 201) HT_ ?_;refine pst 10 (some 203) HT_ ?_;refine pst 11 (some 204) HT_ ?_;refine tst 6 (some 199) HT_ HW_ hHeld ?_ (hy := by (intro w' s0; have z1 := (s0.out.cell (World.block_lt_of_cell? _ _ c1)).trans c1; have z2 := (s0.out.cell (World.block_lt_of_cell? _ _ p2)).trans p2; have z4 := (s0.out.cell (World.block_lt_of_cell? _ _ p4)).trans p4); go_simp; with_reducible rfl);refine tst 9 (some 202) HT_ HW_ hHeld ?_ (hy := by (intro w' s0; have z1 := (s0.out.cell (World.block_lt_of_cell? _ _ c1)).trans c1; have z2 := (s0.out.cell (World.block_lt_of_cell? _ _ p2)).trans p2; have z4 := (s0.out.cell (World.block_lt_of_cell? _ _ p4)).trans p4); go_simp; with_reducible rfl);refine tst 12 (some 205) HT_ HW_ hHeld ?_ (hy := by (intro w' s0; have z1 := (s0.out.cell (World.block_lt_of_cell? _ _ c1)).trans c1; have z2 := (s0.out.cell (World.block_lt_of_cell? _ _ p2)).trans p2; have z4 := (s0.out.cell (World.block_lt_of_cell? _ _ p4)).trans p4); go_simp; with_reducible rfl);refine pst 13 (some 206) HT_ ?_;refine pst 14 (some 207) HT_ ?_;refine pst 15 (some 208) HT_ ?_;refine pst 16 (some 209) HT_ ?_;refine pure_ (i := 17) (N := some 210) (v := undef) (a' := ?_) #[true, true, true, true, true, true, true, true, true, true, true, true, true, true, true, true, true, true, false, false, false, false, false, false, false] rfl rfl (any_of HT_.out (by kernel_rfl)) (fun _ _ _ h => h) (Or.inr ⟨by rfl, rfl⟩) ?_ ?_;rotate_left
                                          · simp only [Act.put, sqA, sqB, sqC, i64_w, i32_w];rfl
                                          refine pure_ (i := 18) (N := some 211) (v := undef) (a' := ?_) #[true, true, true, true, true, true, true, true, true, true, true, true, true, true, true, true, true, true, true, false, false, false, false, false, false] rfl rfl (any_of HT_.out (by kernel_rfl)) (fun _ _ _ h => h) (Or.inr ⟨by rfl, rfl⟩) ?_ ?_;rotate_left
                                          · simp only [Act.put, sqA, sqB, sqC, i64_w, i32_w];rfl
                                          refine pure_ (i := 19) (N := some 212) (v := undef) (a' := ?_) #[true, true, true, true, true, true, true, true, true, true, true, true, true, true, true, true, true, true, true, true, false, false, false, false, false] rfl rfl (any_of HT_.out (by kernel_rfl)) (fun _ _ _ h => h) (Or.inr ⟨by rfl, rfl⟩) ?_ ?_;rotate_left
                                          · simp only [Act.put, sqA, sqB, sqC, i64_w, i32_w];rfl
                                          refine pure_ (i := 20) (N := some 213) (v := undef) (a' := ?_) #[true, true, true, true, true, true, true, true, true, true, true, true, true, true, true, true, true, true, true, true, true, false, false, false, false] rfl rfl (any_of HT_.out (by kernel_rfl)) (fun _ _ _ h => h) (Or.inr ⟨by rfl, rfl⟩) ?_ ?_;rotate_left
                                          · simp only [Act.put, sqA, sqB, sqC, i64_w, i32_w];rfl
                                          refine pure_ (i := 21) (N := some 214) (v := undef) (a' := ?_) #[true, true, true, true, true, true, true, true, true, true, true, true, true, true, true, true, true, true, true, true, true, true, false, false, false] rfl rfl (any_of HT_.out (by kernel_rfl)) (fun _ _ _ h => h) (Or.inr ⟨by rfl, rfl⟩) ?_ ?_;rotate_left
                                          · simp only [Act.put, sqA, sqB, sqC, i64_w, i32_w];rfl
                                          refine pure_ (i := 22) (N := some 215) (v := undef) (a' := ?_) #[true, true, true, true, true, true, true, true, true, true, true, true, true, true, true, true, true, true, true, true, true, true, true, false, false] rfl rfl (any_of HT_.out (by kernel_rfl)) (fun _ _ _ h => h) (Or.inr ⟨by rfl, rfl⟩) ?_ ?_;rotate_left
                                          · simp only [Act.put, sqA, sqB, sqC, i64_w, i32_w];rfl
                                          refine pure_ (i := 23) (N := some 216) (v := undef) (a' := ?_) #[true, true, true, true, true, true, true, true, true, true, true, true, true, true, true, true, true, true, true, true, true, true, true, true, false] rfl rfl (any_of HT_.out (by kernel_rfl)) (fun _ _ _ h => h) (Or.inr ⟨by rfl, rfl⟩) ?_ ?_;rotate_left
                                          · simp only [Act.put, sqA, sqB, sqC, i64_w, i32_w];rfl
                                          refine pst 24 (some 217) HT_ ?_;refine done_ (done_of HT_.out (by kernel_rfl)) ?_;clear HT_ HW_ hHeld;go_wp2;go_meet;exact ⟨rfl, hbd⟩
                                      · have g0 : decide (S2 >= 0) = false := by simpa using h0
                                        go_wp2;refine start_ (n := 25) (S := fun w' => Hid (Below wz.heap.size wz w')) (ds := []) #[false, false, false, false, false, false, false, false, false, false, false, false, false, false, false, false, false, false, false, false, false, false, false, false, false] (by kernel_rfl) rfl rfl ((hZ (below_drew (Below.refl _ _)))) (fun hHeld => ?_);refine with_tabW wins.tab41 wins.bits41 (fun HT_ HW_ => ?_);have hbd := drB wz;have hsd : wz.heap.size = wz.drew.heap.size := rfl;generalize hwd : wz.drew = wd at *;clear hwd;refine pst 0 (some 193) HT_ ?_;refine pst 1 (some 194) HT_ ?_;refine tst 2 (some 195) HT_ HW_ hHeld ?_ (hy := by (intro w' s0; have z1 := (s0.out.cell (World.block_lt_of_cell? _ _ c1)).trans c1); go_simp; with_reducible rfl);refine pst 3 (some 196) HT_ ?_;refine pst 4 (some 197) HT_ ?_;refine pure_ (i := 5) (N := some 198) (v := undef) (a' := ?_) #[true, true, true, true, true, true, false, false, false, false, false, false, false, false, false, false, false, false, false, false, false, false, false, false, false] rfl rfl (any_of HT_.out (by kernel_rfl)) (fun _ _ _ h => h) (Or.inr ⟨by rfl, rfl⟩) ?_ ?_;rotate_left
                                        · simp only [Act.put, sqA, sqB, sqC, i64_w, i32_w];rfl
                                        refine pure_ (i := 6) (N := some 199) (v := undef) (a' := ?_) #[true, true, true, true, true, true, true, false, false, false, false, false, false, false, false, false, false, false, false, false, false, false, false, false, false] rfl rfl (any_of HT_.out (by kernel_rfl)) (fun _ _ _ h => h) (Or.inr ⟨by rfl, rfl⟩) ?_ ?_;rotate_left
                                        · simp only [Act.put, sqA, sqB, sqC, i64_w, i32_w];rfl
                                        refine pure_ (i := 7) (N := some 200) (v := undef) (a' := ?_) #[true, true, true, true, true, true, true, true, false, false, false, false, false, false, false, false, false, false, false, false, false, false, false, false, false] rfl rfl (any_of HT_.out (by kernel_rfl)) (fun _ _ _ h => h) (Or.inr ⟨by rfl, rfl⟩) ?_ ?_;rotate_left
                                        · simp only [Act.put, sqA, sqB, sqC, i64_w, i32_w];rfl
                                        refine pure_ (i := 8) (N := some 201) (v := undef) (a' := ?_) #[true, true, true, true, true, true, true, true, true, false, false, false, false, false, false, false, false, false, false, false, false, false, false, false, false] rfl rfl (any_of HT_.out (by kernel_rfl)) (fun _ _ _ h => h) (Or.inr ⟨by rfl, rfl⟩) ?_ ?_;rotate_left
                                        · simp only [Act.put, sqA, sqB, sqC, i64_w, i32_w];rfl
                                        refine pure_ (i := 9) (N := some 202) (v := undef) (a' := ?_) #[true, true, true, true, true, true, true, true, true, true, false, false, false, false, false, false, false, false, false, false, false, false, false, false, false] rfl rfl (any_of HT_.out (by kernel_rfl)) (fun _ _ _ h => h) (Or.inr ⟨by rfl, rfl⟩) ?_ ?_;rotate_left
                                        · simp only [Act.put, sqA, sqB, sqC, i64_w, i32_w];rfl
                                        refine pure_ (i := 10) (N := some 203) (v := undef) (a' := ?_) #[true, true, true, true, true, true, true, true, true, true, true, false, false, false, false, false, false, false, false, false, false, false, false, false, false] rfl rfl (any_of HT_.out (by kernel_rfl)) (fun _ _ _ h => h) (Or.inr ⟨by rfl, rfl⟩) ?_ ?_;rotate_left
                                        · simp only [Act.put, sqA, sqB, sqC, i64_w, i32_w];rfl
                                        refine pure_ (i := 11) (N := some 204) (v := undef) (a' := ?_) #[true, true, true, true, true, true, true, true, true, true, true, true, false, false, false, false, false, false, false, false, false, false, false, false, false] rfl rfl (any_of HT_.out (by kernel_rfl)) (fun _ _ _ h => h) (Or.inr ⟨by rfl, rfl⟩) ?_ ?_;rotate_left
                                        · simp only [Act.put, sqA, sqB, sqC, i64_w, i32_w];rfl
                                        refine pure_ (i := 12) (N := some 205) (v := undef) (a' := ?_) #[true, true, true, true, true, true, true, true, true, true, true, true, true, false, false, false, false, false, false, false, false, false, false, false, false] rfl rfl (any_of HT_.out (by kernel_rfl)) (fun _ _ _ h => h) (Or.inr ⟨by rfl, rfl⟩) ?_ ?_;rotate_left
                                        · simp only [Act.put, sqA, sqB, sqC, i64_w, i32_w];rfl
                                        refine pure_ (i := 13) (N := some 206) (v := undef) (a' := ?_) #[true, true, true, true, true, true, true, true, true, true, true, true, true, true, false, false, false, false, false, false, false, false, false, false, false] rfl rfl (any_of HT_.out (by kernel_rfl)) (fun _ _ _ h => h) (Or.inr ⟨by rfl, rfl⟩) ?_ ?_;rotate_left
                                        · simp only [Act.put, sqA, sqB, sqC, i64_w, i32_w];rfl
                                        refine pure_ (i := 14) (N := some 207) (v := undef) (a' := ?_) #[true, true, true, true, true, true, true, true, true, true, true, true, true, true, true, false, false, false, false, false, false, false, false, false, false] rfl rfl (any_of HT_.out (by kernel_rfl)) (fun _ _ _ h => h) (Or.inr ⟨by rfl, rfl⟩) ?_ ?_;rotate_left
                                        · simp only [Act.put, sqA, sqB, sqC, i64_w, i32_w];rfl
                                        refine pst 15 (some 208) HT_ ?_;refine pst 16 (some 209) HT_ ?_;refine pure_ (i := 17) (N := some 210) (v := undef) (a' := ?_) #[true, true, true, true, true, true, true, true, true, true, true, true, true, true, true, true, true, true, false, false, false, false, false, false, false] rfl rfl (any_of HT_.out (by kernel_rfl)) (fun _ _ _ h => h) (Or.inr ⟨by rfl, rfl⟩) ?_ ?_;rotate_left
                                        · simp only [Act.put, sqA, sqB, sqC, i64_w, i32_w];rfl
                                        refine pure_ (i := 18) (N := some 211) (v := undef) (a' := ?_) #[true, true, true, true, true, true, true, true, true, true, true, true, true, true, true, true, true, true, true, false, false, false, false, false, false] rfl rfl (any_of HT_.out (by kernel_rfl)) (fun _ _ _ h => h) (Or.inr ⟨by rfl, rfl⟩) ?_ ?_;rotate_left
                                        · simp only [Act.put, sqA, sqB, sqC, i64_w, i32_w];rfl
                                        refine pure_ (i := 19) (N := some 212) (v := undef) (a' := ?_) #[true, true, true, true, true, true, true, true, true, true, true, true, true, true, true, true, true, true, true, true, false, false, false, false, false] rfl rfl (any_of HT_.out (by kernel_rfl)) (fun _ _ _ h => h) (Or.inr ⟨by rfl, rfl⟩) ?_ ?_;rotate_left
                                        · simp only [Act.put, sqA, sqB, sqC, i64_w, i32_w];rfl
                                        refine pure_ (i := 20) (N := some 213) (v := undef) (a' := ?_) #[true, true, true, true, true, true, true, true, true, true, true, true, true, true, true, true, true, true, true, true, true, false, false, false, false] rfl rfl (any_of HT_.out (by kernel_rfl)) (fun _ _ _ h => h) (Or.inr ⟨by rfl, rfl⟩) ?_ ?_;rotate_left
                                        · simp only [Act.put, sqA, sqB, sqC, i64_w, i32_w];rfl
                                        refine pure_ (i := 21) (N := some 214) (v := undef) (a' := ?_) #[true, true, true, true, true, true, true, true, true, true, true, true, true, true, true, true, true, true, true, true, true, true, false, false, false] rfl rfl (any_of HT_.out (by kernel_rfl)) (fun _ _ _ h => h) (Or.inr ⟨by rfl, rfl⟩) ?_ ?_;rotate_left
                                        · simp only [Act.put, sqA, sqB, sqC, i64_w, i32_w];rfl
                                        refine pure_ (i := 22) (N := some 215) (v := undef) (a' := ?_) #[true, true, true, true, true, true, true, true, true, true, true, true, true, true, true, true, true, true, true, true, true, true, true, false, false] rfl rfl (any_of HT_.out (by kernel_rfl)) (fun _ _ _ h => h) (Or.inr ⟨by rfl, rfl⟩) ?_ ?_;rotate_left
                                        · simp only [Act.put, sqA, sqB, sqC, i64_w, i32_w];rfl
                                        refine pure_ (i := 23) (N := some 216) (v := undef) (a' := ?_) #[true, true, true, true, true, true, true, true, true, true, true, true, true, true, true, true, true, true, true, true, true, true, true, true, false] rfl rfl (any_of HT_.out (by kernel_rfl)) (fun _ _ _ h => h) (Or.inr ⟨by rfl, rfl⟩) ?_ ?_;rotate_left
                                        · simp only [Act.put, sqA, sqB, sqC, i64_w, i32_w];rfl
                                        refine pst 24 (some 217) HT_ ?_;refine done_ (done_of HT_.out (by kernel_rfl)) ?_;clear HT_ HW_ hHeld;go_wp2;go_meet;exact ⟨rfl, hbd⟩
                                    case rest =>
                                      as_aux_lemma =>
                                      obtain ⟨rfl, HB16⟩ := hcut;obtain ⟨wy, rfl⟩ : ∃ x : World, x = wc := ⟨_, rfl⟩
                                      go_upto_region 43 with fail
                                      go_cut [230] from 103 to 230 (fun v230 wx => v230 = .bool false /\ Hid (Below wz.heap.size wz wx))
                                      case first =>
                                        as_aux_lemma =>
                                        obtain ⟨p1, p2, p3, p4, p5, p6, p7, p8, p9, p10⟩ := HC.out wy (HA15.out.below HB16.out).t;obtain ⟨c1, c2⟩ := HCD.out wy HB16.out;clear p1 p2 p4 p5 p6 p7 p8 p9 p10;by_cases h0 : 0 <= S2
                                        · have g0 : decide (S2 >= 0) = true := by simpa using h0
                                          have gr : decide (R2 > x.f1.f0) = false := by have := (HTK.out h0).2; simp; omega
                                          go_wp2;refine start_ (n := 13) (S := fun w' => Hid (Below wy.heap.size wy w')) (ds := []) #[false, false, false, false, false, false, false, false, false, false, false, false, false] (by kernel_rfl) rfl rfl ((hZ (below_drew (Below.refl _ _)))) (fun hHeld => ?_);refine with_tabW wins.tab43 wins.bits43 (fun HT_ HW_ => ?_);have hbd := drB wy;have hsd : wy.heap.size = wy.drew.heap.size := rfl;generalize hwd : wy.drew = wd at *;clear hwd;refine pst 0 (some 218) HT_ ?_;refine pst 1 (some 219) HT_ ?_;refine tst 2 (some 220) HT_ HW_ hHeld ?_ (hy := by (intro w' s0; have z1 := (s0.out.cell (World.block_lt_of_cell? _ _ c1)).trans c1; have z3 := (s0.out.cell (World.block_lt_of_cell? _ _ p3)).trans p3; have z5 := (s0.out.cell (World.block_lt_of_cell? _ _ c2)).trans c2); go_simp; with_reducible rfl);refine pst 3 (some 221) HT_ ?_;refine pst 4 (some 222) HT_ ?_;refine pst 5 (some 223) HT_ ?_;refine pst 6 (some 224) HT_ ?_;refine pst 8 (some 226) HT_ ?_;refine pst 9 (some 227) HT_ ?_;refine tst 7 (some 225) HT_ HW_ hHeld ?_ (hy := by (intro w' s0; have z1 := (s0.out.cell (World.block_lt_of_cell? _ _ c1)).trans c1; have z3 := (s0.out.cell (World.block_lt_of_cell? _ _ p3)).trans p3; have z5 := (s0.out.cell (World.block_lt_of_cell? _ _ c2)).trans c2); go_simp; with_reducible rfl);refine tst 10 (some 228) HT_ HW_ hHeld ?_ (hy := by (intro w' s0; have z1 := (s0.out.cell (World.block_lt_of_cell? _ _ c1)).trans c1; have z3 := (s0.out.cell (World.block_lt_of_cell? _ _ p3)).trans p3; have z5 := (s0.out.cell (World.block_lt_of_cell? _ _ c2)).trans c2); go_simp; with_reducible rfl);refine pst 11 (some 229) HT_ ?_;refine pst 12 (some 230) HT_ ?_;refine done_ (done_of HT_.out (by kernel_rfl)) ?_;clear HT_ HW_ hHeld;go_wp2;go_meet;exact ⟨rfl, hZ (HB16.out.trans (hbd.out.mono HB16.out.size))⟩
                                        · have g0 : decide (S2 >= 0) = false := by simpa using h0
                                          go_wp2;refine start_ (n := 13) (S := fun w' => Hid (Below wy.heap.size wy w')) (ds := []) #[false, false, false, false, false, false, false, false, false, false, false, false, false] (by kernel_rfl) rfl rfl ((hZ (below_drew (Below.refl _ _)))) (fun hHeld => ?_);refine with_tabW wins.tab43 wins.bits43 (fun HT_ HW_ => ?_);have hbd := drB wy;have hsd : wy.heap.size = wy.drew.heap.size := rfl;generalize hwd : wy.drew = wd at *;clear hwd;refine pst 0 (some 218) HT_ ?_;refine pst 1 (some 219) HT_ ?_;refine tst 2 (some 220) HT_ HW_ hHeld ?_ (hy := by (intro w' s0; have z1 := (s0.out.cell (World.block_lt_of_cell? _ _ c1)).trans c1); go_simp; with_reducible rfl);refine pst 3 (some 221) HT_ ?_;refine pst 4 (some 222) HT_ ?_;refine pure_ (i := 5) (N := some 223) (v := undef) (a' := ?_) #[true, true, true, true, true, true, false, false, false, false, false, false, false] rfl rfl (any_of HT_.out (by kernel_rfl)) (fun _ _ _ h => h) (Or.inr ⟨by rfl, rfl⟩) ?_ ?_;rotate_left
                                          · simp only [Act.put, sqA, sqB, sqC, i64_w, i32_w];rfl
                                          refine pure_ (i := 6) (N := some 224) (v := undef) (a' := ?_) #[true, true, true, true, true, true, true, false, false, false, false, false, false] rfl rfl (any_of HT_.out (by kernel_rfl)) (fun _ _ _ h => h) (Or.inr ⟨by rfl, rfl⟩) ?_ ?_;rotate_left
                                          · simp only [Act.put, sqA, sqB, sqC, i64_w, i32_w];rfl
                                          refine pure_ (i := 7) (N := some 225) (v := undef) (a' := ?_) #[true, true, true, true, true, true, true, true, false, false, false, false, false] rfl rfl (any_of HT_.out (by kernel_rfl)) (fun _ _ _ h => h) (Or.inr ⟨by rfl, rfl⟩) ?_ ?_;rotate_left
                                          · simp only [Act.put, sqA, sqB, sqC, i64_w, i32_w];rfl
                                          refine pure_ (i := 8) (N := some 226) (v := undef) (a' := ?_) #[true, true, true, true, true, true, true, true, true, false, false, false, false] rfl rfl (any_of HT_.out (by kernel_rfl)) (fun _ _ _ h => h) (Or.inr ⟨by rfl, rfl⟩) ?_ ?_;rotate_left
                                          · simp only [Act.put, sqA, sqB, sqC, i64_w, i32_w];rfl
                                          refine pure_ (i := 9) (N := some 227) (v := undef) (a' := ?_) #[true, true, true, true, true, true, true, true, true, true, false, false, false] rfl rfl (any_of HT_.out (by kernel_rfl)) (fun _ _ _ h => h) (Or.inr ⟨by rfl, rfl⟩) ?_ ?_;rotate_left
                                          · simp only [Act.put, sqA, sqB, sqC, i64_w, i32_w];rfl
                                          refine pure_ (i := 10) (N := some 228) (v := undef) (a' := ?_) #[true, true, true, true, true, true, true, true, true, true, true, false, false] rfl rfl (any_of HT_.out (by kernel_rfl)) (fun _ _ _ h => h) (Or.inr ⟨by rfl, rfl⟩) ?_ ?_;rotate_left
                                          · simp only [Act.put, sqA, sqB, sqC, i64_w, i32_w];rfl
                                          refine pure_ (i := 11) (N := some 229) (v := undef) (a' := ?_) #[true, true, true, true, true, true, true, true, true, true, true, true, false] rfl rfl (any_of HT_.out (by kernel_rfl)) (fun _ _ _ h => h) (Or.inr ⟨by rfl, rfl⟩) ?_ ?_;rotate_left
                                          · simp only [Act.put, sqA, sqB, sqC, i64_w, i32_w];rfl
                                          refine pst 12 (some 230) HT_ ?_;refine done_ (done_of HT_.out (by kernel_rfl)) ?_;clear HT_ HW_ hHeld;go_wp2;go_meet;exact ⟨rfl, hZ (HB16.out.trans (hbd.out.mono HB16.out.size))⟩
                                      case rest =>
                                        as_aux_lemma =>
                                        obtain ⟨rfl, HB17⟩ := hcut
                                        have HA18 : Hid (Ar w9 wc N1 N2 (snK now' ls l7 sn (k + 1)) (rnK now' ls l7 rn (k + 1))) := hZ (by
                                          have h1 := HA15.out.below HB17.out;exact Ar.eq ⟨h1.r1, h1.r2, HTW.out.trans h1.t⟩ HSN.out HRN.out)
                                        go_wp2;go_roundw
                                        case rel => exact ⟨k + 1, by go_num, by omega, HA18⟩
                                        case measure => simp [intOf]; omega
                          · rw [show decide (k < l.length) = false by simpa using hkl];obtain rfl : k = l.length := by omega
                            have HWn : Hid (XSt w wk lab7 N m (now' + 1) ((i + 1 : Nat) : Int) l7 q7 R7 bk E7 (200002 * i + 2 + 1000 * (n + 1)) N1 N2 (.slice AN bk.length cN) b0 pr (snK now' ls l7 sn l.length) (rnK now' ls l7 rn l.length)) := hZ (by
                              have := (HW.out.below HB3.out).go HL7.out HLN7.out HG7.out HT7.out HB79.out HA.out.t HA.out.r1 HA.out.r2 (HW.out.win.tick HTV.out);rw [show 200002 * i + 2 + 1000 * (n + 1) = 200002 * i + 2 + 1000 * n + 1000 by omega];exact this)
                            go_wp2;go_roundw
                            case rel => exact ⟨n + 1, now' + 1, lab7, l7, q7, R7, E7, _, _, by go_num, by omega, by omega, HWn⟩
                            case measure => simp [intOf]; omega
                    · have HWn : Hid (XSt w wb lab N m now' ((i + 1 : Nat) : Int) l q R bk E (200002 * (i + 1)) N1 N2 (.slice AN bk.length cN) b0 pr sn rn) := hZ (HW.out.more (Int.le_refl _) (by omega));have gnl : decide ((n : Int) < dos[i].n) = false := by simpa using hnl
                      go_wp2;go_roundw
                      case rel => exact ⟨i + 1, now', lab, l, q, R, E, sn, rn, by go_num, by omega, by omega, HWn⟩
                      case measure => simp [intOf]; omega
            · obtain rfl : i = dos.length := by omega
              go_wp2;go_ret;exact ⟨by first | trivial | rfl, HW.out.bel⟩
    · have DN := DN.mono (fun e w' h => h.2 (by simpa using hok))
      go_wp2_with (go_at_call 9; (with_reducible refine DN.mono ?_); rintro e w3 ⟨⟨p, rfl⟩, hB3⟩; have HB3 := hZ (HB2.out.trans (hB3.mono HB2.out.size)); clear hB3)
      go_ret;exact ⟨by first | trivial | rfl, HB3.out⟩
end Go.Proofs.YtfimkmlgnmaopaaGreat.Top
namespace Go.Proofs.YtfimkmlgnmaopaaGreat.Open
open Go.RowKit Go.ChangeShapes Go.WideShapes Go.Proofs.YtfimkmlgnmaopaaGreatW.PrintWords Go.Proofs.YtfimkmlgnmaopaaGreat.PTopNames Go.Proofs.YtfimkmlgnmaopaaGreat.Top
theorem add_add (a : Addr) (m n : Nat) : (a.add m).add n = a.add (m + n) := by
 unfold Addr.add;by_cases hm : m = 0
 ·subst hm; simp
 ·by_cases hn : n = 0
  ·subst hn; simp
  ·simp [hm, hn, Nat.add_assoc]
theorem add_field2 (a : Addr) (m n : Nat) (hn : n ≠ 0) : a.add (m + n) = ⟨(a.add m).block, (a.add m).off + n, none⟩ := by
 unfold Addr.add;by_cases hm : m = 0
 ·subst hm; simp [hn]
 ·simp [hm, Nat.add_assoc]
theorem open_rows {H α : Type} {enc : TypeId × Value -> H} {P : Program} {w : World} {base : Nat} {spare : Nat -> Bool} {held : Bool} {t e : TypeId} {fuel : Nat} {A : Option Addr} {len cap : Nat} {x : DataW H × List MemPlace}
  (K : α -> List Value -> Prop) (sz : Nat) (hu : P.underlying t = some (.slice e)) (hc : P.cellsOf e = sz)
  (hel : ∀ fuel cs x, DataW.trod enc P w base spare held fuel e cs = some x -> ∃ a, K a cs)
  (h : DataW.trod enc P w base spare held fuel t [.slice A len cap] = some x) :
  ∃ l : List α, l.length = len /\ ReadsRow K sz w A len l /\ len <= cap /\ len <= maxLen := by
 rcases DataW.trod_slice hu h with ⟨h0, _⟩ | ⟨a, len', cap', elems, rest, n, _, hcs, _, hb, hl, hm, hlen, hget, _, _⟩
 ·injection h0 with h0 _;injection h0 with h1 h2 h3;subst h1 h2 h3;exact ⟨[], rfl, ⟨rfl, by omega, fun h => absurd h (by omega)⟩, Nat.le_refl _, by unfold maxLen; omega⟩
 ·injection hcs with h0 _;injection h0 with h1 h2 h3;subst h1 h2 h3
  have each : ∀ i, i < len -> ∃ a0 : α, ∃ cs, cs.length = sz /\ K a0 cs /\ ∀ j u, cs[j]? = some u -> w.cell? (a.add (i * sz + j)) = some u := by
   intro i hi;have h1 := hget i hi;rw [List.getElem?_eq_getElem (by omega), hc, Option.bind_eq_some_iff] at h1;obtain ⟨cs, h2, h3⟩ := h1;obtain ⟨a0, ha0⟩ := hel _ _ _ h3;obtain ⟨c1, c2, c3⟩ := World.cells?_some h2;refine ⟨a0, cs, c2, ha0, fun j u hj => ?_⟩;have hjl : j < sz := by rw [<- c2]; exact (List.getElem?_eq_some_iff.1 hj).1
   have := c3 j hjl;rw [hj] at this;rw [<- this, add_add]
  have build : ∀ m, m <= len -> ∃ l : List α, l.length = m /\ ∀ j p, l[j]? = some p -> ∃ c, c.length = sz /\ K p c /\ ∀ i u, c[i]? = some u -> w.cell? (a.add (j * sz + i)) = some u := by
   intro m
   induction m with
   | zero => intro _; exact ⟨[], rfl, fun j p h => by simp at h⟩
   | succ m ih =>
    intro hm';obtain ⟨l, h1, h2⟩ := ih (by omega);obtain ⟨a0, cs, h3, h4, h5⟩ := each m (by omega);refine ⟨l ++ [a0], by simp [h1], fun j p hj => ?_⟩;by_cases hjm : j < m
    ·rw [List.getElem?_append_left (by omega)] at hj;exact h2 j p hj
    ·have hjl := (List.getElem?_eq_some_iff.1 hj).1;simp only [List.length_append, List.length_singleton] at hjl;obtain rfl : j = m := by omega
     rw [<- h1, List.getElem?_append_right (Nat.le_refl _), Nat.sub_self] at hj;have : a0 = p := by simpa using hj
     subst this;exact ⟨cs, h3, h4, h5⟩
  obtain ⟨l, h1, h2⟩ := build len (Nat.le_refl _);exact ⟨l, h1, ⟨h1, by have := Nat.le_trans hl hm; unfold maxLen at this; omega, fun _ => ⟨a, rfl, h2⟩⟩, hl, Nat.le_trans hl hm⟩
theorem open_longs {H : Type} {enc : TypeId × Value -> H} {w : World} {base : Nat} {spare : Nat -> Bool} {held : Bool} {A : Option Addr} {len cap : Nat} {d : DataW H} {ps : List MemPlace}
  (h : DataW.Trod enc Tryz.prog w base spare held 23 (.slice A len cap) d ps) :
  ∃ l : List Int, l.length = len /\ (Kd.int .i64).C w A len l /\ len <= cap /\ len <= maxLen := by
 obtain ⟨fuel, hf⟩ := h;exact open_rows (fun (b : Int) cs => cs = [.int .i64 b]) 1 Tryz.underlying23 (by kernel_rfl) (fun _ _ _ h => by obtain ⟨b, h1, _, _⟩ := DataW.trod_int (k := .i64) (by kernel_rfl) h; exact ⟨b, h1⟩) hf
/-- a slice of pairs. -/
theorem open_pairs {H : Type} {enc : TypeId × Value -> H} {w : World} {base : Nat} {spare : Nat -> Bool} {held : Bool} {A : Option Addr} {len cap : Nat} {d : DataW H} {ps : List MemPlace}
  (h : DataW.Trod enc Tryz.prog w base spare held 24 (.slice A len cap) d ps) :
  ∃ l : List S85, l.length = len /\ Kd.C k85 w A len l /\ len <= cap /\ len <= maxLen := by
 obtain ⟨fuel, hf⟩ := h
 obtain ⟨l, h1, h2, h3, h4⟩ := open_rows (fun (b : S85) cs => cs = [.int .i64 b.f0, .int .i64 b.f1]) 2 Tryz.underlying24 (by kernel_rfl) (fun fuel cs x h => by
  obtain ⟨y0, y1, n, rfl, hl, e0, e1⟩ := trod_struct2 Tryz.underlying85 h;obtain ⟨n0, c0, _, _⟩ := DataW.trod_int (k := .i64) (by kernel_rfl) e0;obtain ⟨n1, c1, _, _⟩ := DataW.trod_int (k := .i64) (by kernel_rfl) e1;have hl2 : cs.length = 2 := by rw [hl]; kernel_rfl
  refine ⟨⟨n0, n1⟩, ?_⟩
  match cs, hl2 with
  | [u0, u1], _ =>
   rw [show Tryz.prog.cellsOf _ = 1 by kernel_rfl] at c0 c1;simp at c0 c1;rw [c0, c1]) hf
 refine ⟨l, h1, ⟨h2.1, h2.2.1, fun hp => ?_⟩, h3, h4⟩;obtain ⟨a, ha, hb⟩ := h2.2.2 hp;refine ⟨a, ha, fun j p hj => ?_⟩;obtain ⟨c, c1, c2, c3⟩ := hb j p hj;exact ⟨c, c1, c2 ▸ k85_mk w p, c3⟩
/-- a slice of steps. -/
theorem open_steps {H : Type} {enc : TypeId × Value -> H} {w : World} {base : Nat} {spare : Nat -> Bool} {held : Bool} {A : Option Addr} {len cap fuel : Nat} {x : DataW H × List MemPlace}
  (hf : DataW.trod enc Tryz.prog w base spare held fuel 35 [.slice A len cap] = some x) :
  ∃ l : List S72, l.length = len /\ Kd.C k72 w A len l := by
 obtain ⟨l, h1, h2, h3, h4⟩ := open_rows (fun (b : S72) cs => cs = [.int .i64 b.f0, .int .i64 b.f1]) 2 Tryz.underlying35 (by kernel_rfl) (fun fuel cs x h => by
  obtain ⟨y0, y1, n, rfl, hl, e0, e1⟩ := trod_struct2 Tryz.underlying72 h;obtain ⟨n0, c0, _, _⟩ := DataW.trod_int (k := .i64) (by kernel_rfl) e0;obtain ⟨n1, c1, _, _⟩ := DataW.trod_int (k := .i64) (by kernel_rfl) e1;have hl2 : cs.length = 2 := by rw [hl]; kernel_rfl
  refine ⟨⟨n0, n1⟩, ?_⟩
  match cs, hl2 with
  | [u0, u1], _ =>
   rw [show Tryz.prog.cellsOf _ = 1 by kernel_rfl] at c0 c1;simp at c0 c1;rw [c0, c1]) hf
 refine ⟨l, h1, ⟨h2.1, h2.2.1, fun hp => ?_⟩⟩;obtain ⟨a, ha, hb⟩ := h2.2.2 hp;refine ⟨a, ha, fun j p hj => ?_⟩;obtain ⟨c, c1, c2, c3⟩ := hb j p hj;exact ⟨c, c1, c2 ▸ k72_mk w p, c3⟩
/-- a slice of what is to be done. -/
theorem open_dos {H : Type} {enc : TypeId × Value -> H} {w : World} {base : Nat} {spare : Nat -> Bool} {held : Bool} {A : Option Addr} {len cap : Nat} {d : DataW H} {ps : List MemPlace}
  (h : DataW.Trod enc Tryz.prog w base spare held 25 (.slice A len cap) d ps) :
  ∃ l : List Do3, l.length = len /\ DoAt w A l /\ len <= maxLen := by
 obtain ⟨fuel, hf⟩ := h
 obtain ⟨l, h1, h2, h3, h4⟩ := open_rows (fun (b : Do3) cs => ∃ A1 c1, cs = [.int .i64 b.who, .int .i64 b.n, .slice A1 b.steps.length c1] /\ Kd.C k72 w A1 b.steps.length b.steps) 3 Tryz.underlying25 (by kernel_rfl) (fun fuel cs x h => by
  obtain ⟨xs, n, _, rfl, hl, hlen, hf⟩ := DataW.trod_struct Tryz.underlying37 h;have hl2 : cs.length = 3 := by rw [hl]; kernel_rfl
  have e0 := hf 0 _ rfl;have e1 := hf 1 _ rfl;have e2 := hf 2 _ rfl
  match xs, hlen, cs, hl2 with
  | [y0, y1, y2], _, [u0, u1, u2], _ =>
   simp only [List.getElem?_cons_zero, List.getElem?_cons_succ] at e0 e1 e2;obtain ⟨n0, c0, _, _⟩ := DataW.trod_int (k := .i64) (by kernel_rfl) e0;obtain ⟨n1, c1, _, _⟩ := DataW.trod_int (k := .i64) (by kernel_rfl) e1;rw [show Tryz.prog.cellsOf _ = 1 by kernel_rfl] at c0 c1;simp at c0 c1;subst c0 c1;rw [show Tryz.prog.cellsOf _ = 1 by kernel_rfl] at e2;simp at e2
   have hs : ∃ A1 n1 c1, u2 = .slice A1 n1 c1 := by
    rcases DataW.trod_slice Tryz.underlying35 e2 with ⟨h0, _⟩ | ⟨a, len', cap', elems, rest, n, _, hcs, _⟩
    ·injection h0 with h0 _;exact ⟨_, _, _, h0⟩
    ·injection hcs with h0 _;exact ⟨_, _, _, h0⟩
   obtain ⟨A1, m1, c1, rfl⟩ := hs;obtain ⟨st, hst, hC⟩ := open_steps e2;subst hst;exact ⟨⟨n0, n1, st⟩, A1, c1, rfl, hC⟩) hf
 refine ⟨l, h1, fun k hk => ?_, h4⟩;obtain ⟨a, ha, hb⟩ := h2.2.2 (by omega);obtain ⟨c, c1, ⟨A1, cc, rfl, c2⟩, c4⟩ := hb k l[k] (List.getElem?_eq_getElem hk);exact ⟨a, A1, cc, ha, c4 0 _ rfl, by rw [<- add_field2 _ _ 1 (by omega)]; exact c4 1 _ rfl, by rw [<- add_field2 _ _ 2 (by omega)]; exact c4 2 _ rfl, c2⟩
end Go.Proofs.YtfimkmlgnmaopaaGreat.Open
