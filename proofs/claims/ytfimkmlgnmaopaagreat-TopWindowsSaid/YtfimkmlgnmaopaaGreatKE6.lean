/- Part 6 of what is proved of the functions that the law reaches (contracts of functions, plain laws): no condition but those that each theorem names. -/
import Derived.Test.YtfimkmlgnmaopaaGreatKE5
set_option maxHeartbeats 40000000
set_option maxRecDepth 100000
namespace Go.Proofs.YtfimkmlgnmaopaaGreat.Top
open Go.RowKit Go.Proofs.YtfimkmlgnmaopaaGreatW.PrintWords Go.Proofs.YtfimkmlgnmaopaaGreatW.PrintLast Go.Proofs.YtfimkmlgnmaopaaGreatW.PrintMore Go.Proofs.YtfimkmlgnmaopaaGreat.PTopNames
set_option linter.unusedVariables false
set_option linter.unusedSimpArgs false
def skip.T14 : Bool × List (List Nat × List Nat) := (true, [([], []), ([0], [0]), ([1], [1]), ([2], [2]), ([], []), ([4], [4]), ([5], [5]), ([6], [6]), ([7], [7]), ([8], [8]), ([], []), ([9, 10], [9, 10]), ([11], [11]), ([12], [12]), ([12], [12]), ([3, 0, 1, 2, 3, 4, 5, 6, 7, 8, 9, 10, 11, 12, 13], [3]), ([15, 13, 11, 0, 1, 2, 3, 4, 5, 6, 7, 8, 9, 10, 11, 12, 13], [13, 15])])
def skip.B14 : List Nat := [0, 1, 3, 7, 0, 16, 48, 112, 240, 496, 0, 2032, 4080, 8176, 8176, 16383, 49151]
theorem skip.tab14 : rtab .any (opsOf Tryz.f60 14) = skip.T14 := by kernel_rfl
theorem skip.bits14 : waitsOk skip.T14.2 skip.B14 = true := by kernel_rfl
theorem ints_keep {w w' : World} {S : Nat -> Prop} {A : Option Addr} {n : Nat} {l : List Int} (h : (Kd.int .i64).C w A n l) (ht : Turn w w' S) (hA : ∀ ad, A = some ad -> 0 < n -> ¬ S ad.block) : (Kd.int .i64).C w' A n l := by
 refine ⟨h.1, h.2.1, fun h0 => ?_⟩;obtain ⟨ad, e, hc⟩ := h.2.2 h0;refine ⟨ad, e, fun j p hp => ?_⟩;obtain ⟨cs, h1, h2, h3⟩ := hc j p hp;refine ⟨cs, h1, h2, fun i u hu => ?_⟩;have h4 := h3 i u hu;have h5 := World.block_lt_of_cell? _ _ h4;rw [add_block] at h5;refine cell_keep h4 ?_;rw [add_block];exact ht.block _ h5 (hA ad e h0)
theorem ints_lt {w : World} {ad : Addr} {n : Nat} {l : List Int} (h : (Kd.int .i64).C w (some ad) n l) (h0 : 0 < n) : ad.block < w.heap.size := by
 have h1 : 0 < l.length := by rw [h.1]; exact h0
 obtain ⟨ad2, e, hc⟩ := h.2.2 h0;injection e with e;subst e;obtain ⟨cs, h2, h3, h4⟩ := hc 0 l[0] (List.getElem?_eq_getElem h1);have e2 : cs = [.int .i64 l[0]] := by first | exact h3 | exact h3.symm
 subst e2;have h5 := World.block_lt_of_cell? _ _ (h4 0 _ rfl)
 rwa [add_block] at h5
theorem Own.raw {w : World} {B : Bd} {l : List S57} {q : List S63} {o : OwnR} (h : Own w B l q o) : (Kd.raw 11).C w o.A l.length (rowsOf servRow l o.r) := by
 by_cases hx : l = []
 ·subst hx; exact C_nil' _ _ _
 ·obtain ⟨g, e, hr⟩ := h.row hx;rw [e, <- rowsOf_len (f := servRow) (r := o.r)];exact raw_of_row hr (by rw [rowsOf_len]; have := h.max; omega) (mem_rowsOf (fun x p u hu => by simp only [servRow, List.mem_cons, List.not_mem_nil, or_false] at hu; rcases hu with rfl | rfl | rfl | rfl | rfl | rfl | rfl | rfl | rfl | rfl | rfl <;> rfl))
theorem raw_jobs {w : World} {b oo : Nat} {x : List S125} {rr : Nat -> Ref} (h : RowAt w b oo 4 125 (rowsOf jobRow x rr)) (hm : x.length <= 100000) : (Kd.raw 4).C w (some ⟨b, oo, none⟩) x.length (rowsOf jobRow x rr) := by
 have h2 := raw_of_row h (by rw [rowsOf_len]; omega) (mem_rowsOf (fun x p u hu => by simp only [jobRow, List.mem_cons, List.not_mem_nil, or_false] at hu; rcases hu with rfl | rfl | rfl | rfl <;> rfl));rw [rowsOf_len] at h2;exact h2
theorem Own.fresh {w w' : World} {B : Bd} {l : List S57} {q : List S63} {o : OwnR} (h : Own w B l q o) (hb : Below w.heap.size w w') {A : Option Addr} {c : Nat} (hA : l ≠ [] -> ∃ g, A = some ⟨g, 0, none⟩ /\ RowAt w' g 0 11 57 (rowsOf servRow l o.r)) (hc : l.length <= c) (hn : ∀ b, A.map (·.block) = some b -> w.heap.size <= b /\ b < w'.heap.size) : Own w' B l q { o with A := A, c := c } := by
 have h1 := h.below hb;have hlt : ∀ c b, o.own c = some b -> b < w.heap.size := fun c b e => (h.bnd c b e).2
 refine ⟨h.max, ⟨hc, h.cap.2⟩, hA, h1.lok, h1.jobs, fun i hi => ⟨(h1.que i hi).1, (h1.que i hi).2⟩, fun c d b hc hd => ?_, fun c b hc => ?_, h1.old⟩
 ·cases c with
  | g =>
   have := hn b hc
   cases d with
   | g => rfl
   | h => have := hlt .h b hd; omega
   | j k => have := hlt (.j k) b hd; omega
   | q k => have := hlt (.q k) b hd; omega
  | h =>
   cases d with
   | g => have := hn b hd; have := hlt .h b hc; omega
   | h => rfl
   | j k => exact h.apart .h (.j k) b hc hd
   | q k => exact h.apart .h (.q k) b hc hd
  | j i =>
   cases d with
   | g => have := hn b hd; have := hlt (.j i) b hc; omega
   | h => exact h.apart (.j i) .h b hc hd
   | j k => exact h.apart (.j i) (.j k) b hc hd
   | q k => exact h.apart (.j i) (.q k) b hc hd
  | q i =>
   cases d with
   | g => have := hn b hd; have := hlt (.q i) b hc; omega
   | h => exact h.apart (.q i) .h b hc hd
   | j k => exact h.apart (.q i) (.j k) b hc hd
   | q k => exact h.apart (.q i) (.q k) b hc hd
 ·cases c with
  | g => have := hn b hc; have := h.old; exact ⟨by omega, this |> fun _ => (hn b hc).2⟩
  | h => exact h1.bnd .h b hc
  | j k => exact h1.bnd (.j k) b hc
  | q k => exact h1.bnd (.q k) b hc
theorem Own.servNew {w w' : World} {B : Bd} {l : List S57} {q : List S63} {o : OwnR} {i : Nat} (h : Own w B l q o) (hi : i < l.length) (x : S57) (p : Ref) {g : Nat} (hg : o.A = some ⟨g, 0, none⟩) (ht : Turn w w' (fun b => b = g)) (hr : RowAt w' g 0 11 57 ((rowsOf servRow l o.r).set i (servRow x p))) (hj : JobsAt w' B x.f2 p) (hp : ∀ b, ob p = some b -> (∀ c, o.own c ≠ some b) /\ B.n <= b /\ b < w'.heap.size) : Own w' B (l.set i x) q { o with r := upd o.r i p } := by
 have hgo : o.own .g = some g := by show o.A.map _ = _; rw [hg]; rfl
 have hgB := (h.bnd .g g hgo).1
 have hown : ∀ c b, ({ o with r := upd o.r i p } : OwnR).own c = some b -> (c ≠ .j i /\ o.own c = some b) \/ (c = .j i /\ ob p = some b) := by
  intro c b hb
  cases c with
  | g => exact .inl ⟨by simp, hb⟩
  | h => exact .inl ⟨by simp, hb⟩
  | q k => exact .inl ⟨by simp, hb⟩
  | j k =>
   change ob (upd o.r i p k) = some b at hb;by_cases e : k = i
   ·subst e; rw [upd_self] at hb; exact .inr ⟨rfl, hb⟩
   ·rw [upd_ne _ _ e] at hb; exact .inl ⟨by intro e2; injection e2 with e2; exact e e2, hb⟩
 have hne : ∀ c b, c ≠ .g -> o.own c = some b -> b ≠ g := fun c b hc hb e => hc (h.apart c .g b hb (by rw [e]; exact hgo))
 refine ⟨by rw [List.length_set]; exact h.max, by rw [List.length_set]; exact h.cap, fun hx => ⟨g, hg, by rw [rowsOf_set]; exact hr⟩, fun hx => ?_, fun k hk => ?_, fun k hk => ?_, fun c d b hc hd => ?_, fun c b hb => ?_, Nat.le_trans h.old ht.size⟩
 ·obtain ⟨g2, e, hr2⟩ := h.lok hx;exact ⟨g2, e, hr2.turn ht (hne .h g2 (by simp) (by show o.A2.map _ = _; rw [e]; rfl))⟩
 ·have hk2 : k < l.length := by simpa using hk
  show JobsAt w' B (l.set i x)[k].f2 (upd o.r i p k);rw [mem_set_get];by_cases e : i = k
  ·subst e; rw [if_pos rfl, upd_self]; exact hj
  ·rw [if_neg e, upd_ne _ _ (fun h => e h.symm)];exact (h.jobs k hk2).keep ht (fun b hb => by rw [hb]; exact hgB) h.old (fun b hb => hne (.j k) b (by simp) hb)
 ·exact ⟨(h.que k hk).1, fun W' hW => (h.que k hk).2 W' (fun b hb hlt => by rw [hW b hb (Nat.lt_of_lt_of_le hlt ht.size)]; exact ht.block b hlt (hne _ b (by simp) hb))⟩
 ·rcases hown c b hc with ⟨_, h1⟩ | ⟨e1, h1⟩
  ·rcases hown d b hd with ⟨_, h2⟩ | ⟨e2, h2⟩
   ·exact h.apart c d b h1 h2
   ·exact absurd h1 ((hp b h2).1 c)
  ·rcases hown d b hd with ⟨_, h2⟩ | ⟨e2, h2⟩
   ·exact absurd h2 ((hp b h1).1 d)
   ·rw [e1, e2]
 ·rcases hown c b hb with ⟨_, h1⟩ | ⟨_, h1⟩
  ·exact ⟨(h.bnd c b h1).1, Nat.lt_of_lt_of_le (h.bnd c b h1).2 ht.size⟩
  ·exact (hp b h1).2
def skipUp (ids : List Int) (n : Int) (l : List S57) (i : Nat) : List S57 := l.mapIdx fun k x => if k < i /\ x.f0 ∈ ids then skipV n x else x
theorem skipUp_len (ids : List Int) (n : Int) (l : List S57) (i : Nat) : (skipUp ids n l i).length = l.length := by simp [skipUp]
theorem skipUp_get (ids : List Int) (n : Int) (l : List S57) {i k : Nat} (hk : k < l.length) {hh : k < (skipUp ids n l i).length} : (skipUp ids n l i)[k] = if k < i /\ l[k].f0 ∈ ids then skipV n l[k] else l[k] := by simp [skipUp]
theorem skipUp_zero (ids : List Int) (n : Int) (l : List S57) : skipUp ids n l 0 = l := by
 apply List.ext_getElem
 ·rw [skipUp_len]
 ·intro k h1 h2;rw [skipUp_get ids n l h2, if_neg (by omega)]
theorem skipUp_all {M n : Int} {l : List S57} : skipUp (runsL M l) n l l.length = skipL M n l := by
 apply List.ext_getElem
 ·rw [skipUp_len]; simp [skipL]
 ·intro k h1 h2;have hk : k < l.length := by rw [skipUp_len] at h1; exact h1
  rw [skipUp_get _ n l hk];simp only [skipL, List.getElem_map, hk, true_and]
theorem skipUp_succ (ids : List Int) (n : Int) (l : List S57) {i : Nat} (hi : i < l.length) : skipUp ids n l (i + 1) = (skipUp ids n l i).set i (if l[i].f0 ∈ ids then skipV n l[i] else l[i]) := by
 apply List.ext_getElem
 ·rw [List.length_set, skipUp_len, skipUp_len]
 ·intro k h1 h2;have hk : k < l.length := by rw [skipUp_len] at h1; exact h1
  rw [skipUp_get ids n l hk, List.getElem_set];by_cases e : i = k
  ·subst e; rw [if_pos rfl]; simp
  ·rw [if_neg e, skipUp_get ids n l hk];by_cases h : k < i
   ·simp [h, show k < i + 1 by omega]
   ·simp [h, show ¬ k < i + 1 by omega]
theorem turns_calls (A : Option Addr) (c : Nat) (n : Int) (w : World) : Calls Tryz.prog 89 #[.slice A 0 c, .int .i64 0, .int .i64 n] w fun e w' => e = .returned (.slice A 0 c) /\ Below w.heap.size w w' := by
 go_enter Tryz.func89, Tryz.ntmps89;go_wp2;go_ret;exact ⟨rfl, Below.refl _ _⟩
structure SkipOk (M n : Int) (l : List S57) : Prop where
 sane : Sane M l
 n1 : 1 <= n
 nm : n <= 1152921504606846976
 run : ∀ k (h : k < l.length), l[k].f0 ∈ runsL M l -> CbsOk l[k].f1 /\ l[k].f1.f4 = 1 /\ n <= l[k].f1.f2 /\ (∃ j js, l[k].f2 = j :: js /\ JobOk j /\ (l[k].f3 ≠ 1 -> j.f3 + n <= (stepOf j).f1)) /\ (0 <= l[k].f6 /\ l[k].f6 <= 1152921504606846976) /\ (0 <= l[k].f4 /\ l[k].f4 <= 1048576)
def SkipP (M now n : Int) (l : List S57) (q : List S63) (B : Bd) (o : OwnR) (w : World) (e : Ending) (w' : World) : Prop :=
 ∃ o' A4 c4, e = .returned (stV M (now + n) o'.A (skipL M n l).length o'.c o'.A2 q.length o'.c2 A4 c4) /\ Own w' B (skipL M n l) q o' /\ (∀ c b, o'.own c = some b -> (∃ c2, o.own c2 = some b) \/ w.heap.size <= b) /\ Below w.heap.size w w'
theorem skip_calls (M now n : Int) (l : List S57) (q : List S63) (B : Bd) (o : OwnR) (A4 : Option Addr) (c4 : Nat) (w : World) (hO : Own w B l q o) (hk : SkipOk M n l) (hnow0 : 0 <= now) (hnow1 : now + n <= 4611686018427387904) :
  Calls Tryz.prog 60 #[stV M now o.A l.length o.c o.A2 q.length o.c2 A4 c4, .int .i64 n] w fun e w' => SkipP M now n l q B o w e w' := by
 have hl12 := hk.sane.len;have hn1 := hk.n1;have hnm := hk.nm;have hgn : (n == 0) = false := by simp; omega
 have hwn : IntKind.i64.wrap (now + n) = now + n := by rw [i64_w]; unfold Go.RowKit.wrap64; omega
 have hpl : (runsL M l).length <= 12 := Nat.le_trans (pickL_le _ _) (Nat.le_trans (readyL_len l) hl12);have DR := fun wx (hx : Own wx B l q o) => runs_calls M now o.A o.c l (.slice o.A2 q.length o.c2) A4 c4 wx hx.reads hk.sane ⟨_, _, _, rfl⟩ (rank_lt (by have := hk.sane.m1; omega) (by have := readyL_sorted hk.sane.sorted; rw [List.nodup_iff_pairwise_ne]; exact this.imp (fun h => by omega)))
 have HO := hZ hO;have HRUN := hZ hk.run;have HALL : Hid (skipUp (runsL M l) n l l.length = skipL M n l) := hZ skipUp_all;unfold SkipP;generalize skipL M n l = fin at *;generalize runsL M l = ids at *;have HOLD := hZ hO.old;have HOB := hZ (fun cc b (h : o.own cc = some b) => (hO.bnd cc b h).2);clear hO hk;unfold stV at *;go_enter Tryz.func60, Tryz.ntmps60
 go_upto_region 4 with (go_at_call 57; (with_reducible refine (DR _ (HO.out.below (below_alloc (below_alloc (Below.refl _ _) _) _))).mono ?_); rintro e w1 ⟨A6, c6, rfl, hc6, hC6, hb6, hB1⟩; have HB6 := hZ hb6; obtain ⟨hx, hz, hs⟩ := two_blocks hB1; have HC6 := hZ hC6; have HX1 := hZ hx; have HZ1 := hZ hz; have HBW1 := hZ ((below_alloc (below_alloc (Below.refl w.heap.size w) _) _).trans (hB1.mono (by simp; omega))); clear hC6 hx hz hB1 hb6)
 have hs1 : w.heap.size + 2 <= w1.heap.size := by omega
 have HO1 := hZ (HO.out.below HBW1.out);have hraw := HO1.out.raw;have x2 := (blk_cell HX1.out 2).trans rfl;have DC := fun wx (hb : Below w1.heap.size w1 wx) => clone57 o.A l.length o.c _ wx (Kd.C_below hraw hb) (by omega)
 go_upto_region 5 with (go_at_call 47; (with_reducible refine (DC _ (Below.refl _ _)).mono ?_); rintro e w2 ⟨v7, rfl, hR7, hB2⟩; obtain ⟨A7, c7, e7, hc7, _⟩ := Kd.R_reads hR7; rw [rowsOf_len] at e7 hc7; subst e7; have HX2 := hZ (blk_below HX1.out hB2); have HB2 := hZ hB2; have HR7 := hZ hR7; have f2 := blk_frozen HX2.out 2; have y2 := (blk_cell HX2.out 2).trans rfl; clear hB2 hR7)
 have HX3 := hZ (blk_put (cs' := #[.int .i64 M, .int .i64 now, .slice A7 l.length c7, .slice o.A2 q.length o.c2, .slice A4 0 c4]) HX2.out 2 (.slice A7 l.length c7) rfl);have HT3 := hZ ((Turn.refl w2 (fun b => b = w.heap.size)).set rfl 2 (.slice A7 l.length c7));generalize hws : World.setCell _ _ _ = w3 at *;clear hws f2 y2 x2 DC hraw;have hs2 : w1.heap.size <= w2.heap.size := HB2.out.size;have hbase := Kd.R_base HR7.out;have hltb := Kd.R_lt HR7.out;have hgb : ∀ b, A7.map (·.block) = some b -> w1.heap.size <= b /\ b < w2.heap.size := fun b hb => ⟨hbase b (ownB_map hb), hltb b (ownB_map hb)⟩
 have hRow : l ≠ [] -> ∃ g, A7 = some ⟨g, 0, none⟩ /\ RowAt w2 g 0 11 57 (rowsOf servRow l o.r) := fun h => by
  obtain ⟨g, cap, e, _, _, _, _, hRow⟩ := row_of_R HR7.out (by rw [rowsOf_len]; exact List.length_pos_iff.2 h);injection e with e1 e2 e3;exact ⟨g, e1, hRow⟩
 have HBo : Hid (∀ cc b, o.own cc = some b -> b < w.heap.size) := HOB
 have HO2 : Hid (Own w3 B l q { o with A := A7, c := c7 }) := hZ ((HO1.out.fresh HB2.out hRow hc7 hgb).keep HT3.out (fun b e => by have := HO.out.old; omega) (fun cc b hc e => by
  have hne : b ≠ w.heap.size := by
   cases cc with
   | g => have := hgb b hc; omega
   | h => have := HBo.out .h b hc; omega
   | j k => have := HBo.out (.j k) b hc; omega
   | q k => have := HBo.out (.q k) b hc; omega
  exact hne e))
 have HN2 : Hid (∀ cc b, ({ o with A := A7, c := c7 } : OwnR).own cc = some b -> (cc ≠ .g /\ ∃ c2, o.own c2 = some b) \/ w1.heap.size <= b) := hZ (fun cc b hc => by
  cases cc with
  | g => exact .inr (hgb b hc).1
  | h => exact .inl ⟨by simp, .h, hc⟩
  | j k => exact .inl ⟨by simp, .j k, hc⟩
  | q k => exact .inl ⟨by simp, .q k, hc⟩)
 have HZ3 := hZ ((HT3.out.block _ (by have := blk_lt (blk_below HZ1.out HB2.out); omega) (by omega)).trans (blk_below HZ1.out HB2.out));have HL6 : Hid (∀ ad, A6 = some ad -> 0 < ids.length -> ad.block < w1.heap.size) := hZ (fun ad e h0 => by have := HC6.out; rw [e] at this; exact ints_lt this h0);have HC3 : Hid ((Kd.int .i64).C w3 A6 ids.length ids) := hZ (ints_keep (Kd.C_below HC6.out HB2.out) HT3.out (fun ad e _ => by have := HB6.out ad e; simp only [World.size_alloc] at this; omega));have HB3 : Hid (Below w.heap.size w w3) := hZ (Turn.below (HBW1.out.trans (HB2.out.mono (by omega))) HT3.out (fun b e => by omega) (by omega));have hs3 : w1.heap.size <= w3.heap.size := by have := HT3.out.size; omega
 clear HX1 HX2 HZ1 HBW1 HO1 HB2 HR7 HT3 hbase hltb hgb hRow HBo hs2;have x2 := (blk_cell HX3.out 2).trans rfl;go_wp2;clear x2 HB6 HC6 DR;have HT0 : Hid (Turn w3 w3 (fun b => w1.heap.size <= b)) := hZ (Turn.refl _ _);have HO2' : Hid (Own w3 B (skipUp ids n l 0) q { o with A := A7, c := c7 }) := hZ (by rw [skipUp_zero]; exact HO2.out);clear HO2
 go_loopw [24] (fun v24 wr => ∃ (i : Nat) (o' : OwnR), v24 = .int .i64 i /\ i <= l.length /\ o'.A = A7 /\ o'.c = c7 /\ o'.A2 = o.A2 /\ o'.c2 = o.c2 /\ Hid (Own wr B (skipUp ids n l i) q o') /\ Hid (∀ cc b, o'.own cc = some b -> (cc ≠ .g /\ ∃ c2, o.own c2 = some b) \/ w1.heap.size <= b) /\ Hid (Turn w3 wr (fun b => w1.heap.size <= b))) (fun v24 _ => l.length - (intOf v24).toNat)
 case atStart => exact ⟨0, { o with A := A7, c := c7 }, rfl, Nat.zero_le _, rfl, rfl, rfl, rfl, HO2', HN2, HT0⟩
 case round =>
  clear HO2' HN2 HT0;obtain ⟨i, o', rfl, hi, e1, e2, e3, e4, HO, HN, HT⟩ := hrel;by_cases hlt : i < l.length
  ·have hX := (HT.out.block _ (blk_lt HX3.out) (by omega)).trans HX3.out;have x2 := (blk_cell hX 2).trans rfl;have hi1 : i < (skipUp ids n l i).length := by rw [skipUp_len]; exact hlt
   have hgi : (skipUp ids n l i)[i] = l[i] := by rw [skipUp_get ids n l hlt, if_neg (by omega)]
   have HSU := hZ (skipUp_succ ids n l hlt);obtain ⟨g, hg, hrow⟩ := HO.out.row (by intro e; rw [e] at hi1; simp at hi1)
   have hgN : w1.heap.size <= g := by
    rcases HN.out .g g (by show o'.A.map _ = _; rw [hg]; rfl) with h | h
    ·exact absurd rfl h.1
    ·exact h
   have DCt := contains_calls A6 c6 ids l[i].f0 wr (ints_keep HC3.out HT.out (fun ad e h0 => by have := HL6.out ad e h0; omega)) (by omega);have hr := HRUN.out i hlt;have hserv := serv_at hrow hi1;rw [hgi] at hserv;have HGI := hZ hgi;generalize skipUp ids n l i = lt at *;generalize l[i] = x at *;have hg7 : A7 = some ⟨g, 0, none⟩ := by rw [<- e1]; exact hg
   subst hg7;have b0 : (0 : Int) <= (i : Int) := by omega
   have b1 : (i : Int) < (l.length : Int) := by omega
   have r0 := hserv.e0;have HG := hZ hg;have HROW := hZ hrow;have HSERV := hZ hserv;clear hX hgi hrow hserv hg;by_cases hin : x.f0 ∈ ids
   ·have gin : decide (x.f0 ∈ ids) = true := by simpa using hin
    obtain ⟨hcbs, hm1, hbn, ⟨j, js, hxj, hj, hj2⟩, ⟨h60, h61⟩, ⟨h40, h41⟩⟩ := hr hin;have D := fun wx => use_calls x.f1 n wx hcbs hm1 hn1 hbn
    have HJ := hZ hj;have hw6 : IntKind.i64.wrap (x.f6 + n) = x.f6 + n := by rw [i64_w]; unfold Go.RowKit.wrap64; omega
    have hw4 : IntKind.i64.wrap (x.f4 + n) = x.f4 + n := by rw [i64_w]; unfold Go.RowKit.wrap64; omega
    have HX : Hid (skipV n x = { x with f1 := useS x.f1 n, f6 := x.f6 + n, f2 := if x.f3 = 1 then x.f2 else skipJobs n x.f2, f4 := if x.f3 = 2 then x.f4 + n else x.f4 }) := hZ rfl;have HSU2 : Hid (skipUp ids n l (i + 1) = lt.set i (skipV n x)) := hZ (by rw [HSU.out, if_pos hin]);generalize hu : useS x.f1 n = u at *;generalize skipV n x = xx at *;obtain ⟨_, r1, r2, r3, r4, r5, r6, r7, r8, r9, r10⟩ := HSERV.out;have hrow := HROW.out;have hsg := HGI.out;unfold agg54 at D;have hgo : o'.own .g = some g := by show o'.A.map _ = _; rw [HG.out]; rfl
    have hgS : ∀ b, b = g -> w1.heap.size <= b := fun b e => by omega
    have hbw : w1.heap.size <= wr.heap.size := by have := HT.out.size; omega
    clear hj hr hin hcbs hm1 hbn hu HSU HSERV HROW hsg
    go_upto_region 11 with (first | (go_at_call 86; (with_reducible refine DCt.mono ?_); rintro e w4 ⟨rfl, rfl⟩) | (go_at_call 87; (with_reducible refine (D _).mono ?_); rintro e w5 ⟨rfl, hB1⟩; have s1 := (hB1.cell (World.block_lt_of_cell? _ _ r1)).trans r1; have s2 := (hB1.cell (World.block_lt_of_cell? _ _ r2)).trans r2; have s3 := (hB1.cell (World.block_lt_of_cell? _ _ r3)).trans r3; have s4 := (hB1.cell (World.block_lt_of_cell? _ _ r4)).trans r4; have s5 := (hB1.cell (World.block_lt_of_cell? _ _ r5)).trans r5; have hfz := fun k => (hrow.below hB1).free k; have HB1 := hZ hB1; clear hB1))
    have HRow2 := hZ (serv_set54 (hrow.below HB1.out) hi1 u);have HT2 := hZ (turn_set54 (Turn.refl w5 (fun b => b = g)) rfl (i * 11 + 1) (.int .i64 u.f0) (.int .i64 u.f1) (.int .i64 u.f2) (.int .i64 u.f3) (.int .i64 u.f4));generalize hws : World.setCell _ _ _ = w6 at *;clear hws s1 s2 s3 s4 s5 hfz r0 r1 r2 r3 r4 r5 r6 r7 r8 r9 r10 hrow D DCt
    have HO2 : Hid (Own w6 B (lt.set i { x with f1 := u }) q o') := hZ (by
     have := (HO.out.below HB1.out).serv0 hi1 { lt[i] with f1 := u } rfl HG.out HT2.out HRow2.out
     rwa [HGI.out] at this)
    have hi2 : i < (lt.set i { x with f1 := u }).length := by rw [List.length_set]; exact hi1
    obtain ⟨hrow, hserv⟩ := HO2.out.cells hi2 HG.out;have hx1 : (lt.set i { x with f1 := u })[i] = { x with f1 := u } := List.getElem_set_self hi2;have hfz := hrow.free (i * 11 + 10);have r10 := hserv.e10;rw [hx1] at r10;dsimp only at r10;have HRow := hZ hrow;have HX1 := hZ hx1;clear hrow hserv hx1 HRow2
    go_upto_region 12 with fail
    have HRow3 := hZ (serv_set HRow.out (rows_at hi2) (j := 10) (by omega) (.int .i64 (x.f6 + n)));have HT3 := hZ ((Turn.refl w6 (fun b => b = g)).set rfl (i * 11 + 10) (.int .i64 (x.f6 + n)));generalize hws : World.setCell _ _ _ = w7 at *;clear hws r10 hfz HRow hw6
    have HO3 : Hid (Own w7 B (lt.set i { x with f1 := u, f6 := x.f6 + n }) q o') := hZ (by
     have := HO2.out.serv0 hi2 { x with f1 := u, f6 := x.f6 + n } (by rw [HX1.out]) HG.out HT3.out (by
      have h := HRow3.out;rw [HX1.out] at h;exact h)
     rwa [List.set_set] at this)
    clear HRow3 HO2 HX1 hi2;have hi2 : i < (lt.set i { x with f1 := u, f6 := x.f6 + n }).length := by rw [List.length_set]; exact hi1
    obtain ⟨hrow, hserv⟩ := HO3.out.cells hi2 HG.out;have hx1 : (lt.set i { x with f1 := u, f6 := x.f6 + n })[i] = { x with f1 := u, f6 := x.f6 + n } := List.getElem_set_self hi2;obtain ⟨r0, r1, r2, r3, r4, r5, r6, r7, r8, r9, r10⟩ := hserv;have HTA : Hid (Turn w3 w7 (fun b => w1.heap.size <= b)) := hZ (((HT.out.trans (Turn.of_below _ HB1.out)).trans (HT2.out.imp hgS)).trans (HT3.out.imp hgS));rw [hx1] at r6 r7 r8;dsimp only at r6 r7 r8;rw [hxj] at r6;have HX1 := hZ hx1;have HX0 := hZ hxj;have hf6 := hrow.free (i * 11 + 6);have HRow := hZ hrow;have hsz7 : w1.heap.size <= w7.heap.size := by have := HTA.out.size; omega
    clear HT2 HT3 HB1 hrow hx1 r0 r1 r2 r3 r4 r5 r9 r10 hxj HO HT hbw;by_cases h1 : x.f3 = 1
    ·rw [h1] at r7
     have HXX : Hid (xx = { x with f1 := u, f6 := x.f6 + n }) := hZ (by
      rw [HX.out, if_pos h1, if_neg (by omega)])
     go_wp2;go_roundw
     case rel => exact ⟨i + 1, o', by go_num, by omega, e1, e2, e3, e4, hZ (by rw [HSU2.out, HXX.out]; exact HO3.out), HN, HTA⟩
     case measure => first | (simp [intOf]; done) | (simp [intOf]; omega)
    ·have g1 : (x.f3 != 1) = true := by simpa using h1
     have hj3 := hj2 h1;have hJA := HO3.out.jobs i hi2;obtain ⟨b, oo, rr, hb, hjrow, hpr⟩ := hJA.row (by rw [HX1.out]; simp [HX0.out]);have hjm := hJA.max;rw [HX1.out] at hjrow hpr hjm;dsimp only at hjrow hpr hjm;rw [HX0.out] at hjrow hpr hjm;rw [hb] at r6;have HPR := hZ hpr;have DC := fun wx (hb : Below w7.heap.size w7 wx) => clone125 (some ⟨b, oo, none⟩) (js.length + 1) (o'.r i).2 _ wx (Kd.C_below (raw_jobs hjrow hjm) hb) hjm
     clear hJA hjrow hpr hb hj2
     go_upto_region 14 with (go_at_call 50; (with_reducible refine (DC _ (Below.refl _ _)).mono ?_); rintro e w8 ⟨v5, rfl, hR5, hB5⟩; obtain ⟨A5, c5, e5, hc5, _⟩ := Kd.R_reads hR5; rw [rowsOf_len, List.length_cons] at e5 hc5; subst e5; have HR5 := hZ hR5; have f6 := (HRow.out.below hB5).free (i * 11 + 6); have s6 := (hB5.cell (World.block_lt_of_cell? _ _ r6)).trans r6; have HB5 := hZ hB5; clear hR5 hB5)
     have HRow8 := hZ (serv_set (HRow.out.below HB5.out) (rows_at hi2) (j := 6) (by omega) (.slice A5 (js.length + 1) c5));have HT8 := hZ ((Turn.refl w8 (fun b => b = g)).set rfl (i * 11 + 6) (.slice A5 (js.length + 1) c5));generalize hws : World.setCell _ _ _ = w9 at *;clear hws f6 s6 hf6 HRow DC;have hne1 : rowsOf jobRow (j :: js) rr ≠ [] := by intro e; have := congrArg List.length e; rw [rowsOf_len] at this; simp at this
     obtain ⟨b5, cap5, e5, _, _, hb5, _, hj5⟩ := row_of_R HR5.out (List.length_pos_iff.2 hne1);injection e5 with e5 hle e6;clear hle;subst e5;have hb5l := Kd.R_lt HR5.out b5 rfl;have hbg : b5 ≠ g := by have := (HO3.out.bnd .g g hgo).2; omega
     have HJ9 : Hid (RowAt w9 b5 0 4 125 (rowsOf jobRow (j :: js) rr)) := hZ (hj5.turn HT8.out hbg);have HPR8 : Hid (Progs w8 B (j :: js) rr) := hZ (HPR.out.below HB5.out);have HPR9 : Hid (Progs w9 B (j :: js) rr) := hZ (fun k hk => ⟨(HPR8.out k hk).1, fun W' hW => (HPR8.out k hk).2 W' (fun b2 hb2 hlt2 => by rw [hW b2 hb2 (Nat.lt_of_lt_of_le hlt2 HT8.out.size)]; exact HT8.out.block b2 hlt2 (fun e => by have := (HO3.out.bnd .g g hgo).1; have := B.lt b2 hb2; omega))⟩)
     have HO9 : Hid (Own w9 B (lt.set i { x with f1 := u, f6 := x.f6 + n }) q { o' with r := upd o'.r i (some ⟨b5, 0, none⟩, c5) }) := hZ (by
      have h8 := HO3.out.below HB5.out
      have := h8.servNew hi2 { x with f1 := u, f6 := x.f6 + n } (some ⟨b5, 0, none⟩, c5) HG.out HT8.out (by
       have h := HRow8.out;rw [HX1.out] at h
       have e : servRow { x with f1 := u, f6 := x.f6 + n } (some ⟨b5, 0, none⟩, c5) = (servRow { x with f1 := u, f6 := x.f6 + n } (o'.r i)).set 6 (.slice (some ⟨b5, 0, none⟩) (js.length + 1) c5) := by
        unfold servRow;rw [HX0.out];rfl
       rw [e]
       exact h) ⟨by rw [HX0.out]; simpa using hc5, by rw [HX0.out]; exact hjm, fun _ => ⟨b5, 0, rr, rfl, by rw [HX0.out]; exact HJ9.out, by rw [HX0.out]; exact HPR9.out⟩⟩ (fun b2 e => by
        have e2 : b5 = b2 := by simpa [ob] using e
        subst e2;have hsz := HO3.out.old;refine ⟨fun c hc => ?_, by omega, Nat.lt_of_lt_of_le hb5l HT8.out.size⟩;have := (HO3.out.bnd c _ hc).2;omega)
      rw [List.set_set] at this;exact this)
     have HTB : Hid (Turn w3 w9 (fun b => w1.heap.size <= b)) := hZ ((HTA.out.trans (Turn.of_below _ HB5.out)).trans (HT8.out.imp hgS))
     have HN9 : Hid (∀ cc b, ({ o' with r := upd o'.r i (some ⟨b5, 0, none⟩, c5) } : OwnR).own cc = some b -> (cc ≠ .g /\ ∃ c2, o.own c2 = some b) \/ w1.heap.size <= b) := hZ (fun cc b hc => by
      cases cc with
      | g => exact HN.out .g b hc
      | h => exact HN.out .h b hc
      | q k => exact HN.out (.q k) b hc
      | j k =>
       change ob (upd o'.r i _ k) = some b at hc;by_cases e : k = i
       ·subst e;rw [upd_self] at hc;have e2 : b5 = b := by simpa [ob] using hc
        exact .inr (by omega)
       ·rw [upd_ne _ _ e] at hc;exact HN.out (.j k) b hc)
     have hb5w : w1.heap.size <= b5 := by omega
     have hg9 : ({ o' with r := upd o'.r i (some ⟨b5, 0, none⟩, c5) } : OwnR).A = some ⟨g, 0, none⟩ := HG.out;have hri : ({ o' with r := upd o'.r i (some ⟨b5, 0, none⟩, c5) } : OwnR).r i = (some ⟨b5, 0, none⟩, c5) := upd_self _ _ _;have HRI := hZ hri;have hA9 : ({ o' with r := upd o'.r i (some ⟨b5, 0, none⟩, c5) } : OwnR).c = c7 /\ ({ o' with r := upd o'.r i (some ⟨b5, 0, none⟩, c5) } : OwnR).A2 = o.A2 /\ ({ o' with r := upd o'.r i (some ⟨b5, 0, none⟩, c5) } : OwnR).c2 = o.c2 := ⟨e2, e3, e4⟩;have HG9 := hZ hg9;have HA9 := hZ hA9;generalize ({ o' with r := upd o'.r i (some ⟨b5, 0, none⟩, c5) } : OwnR) = o9 at *;clear hg9 hri hA9 HN HTA HO3 HRow8 HT8 HB5 hj5 HR5 hne1 HPR HPR8 hb5l e1 e2 e3 e4 HG hgo;have hserv9 := HO9.out.cells hi2 HG9.out;have r6 := hserv9.2.e6;rw [HX1.out, HRI.out] at r6;dsimp only at r6;rw [HX0.out] at r6;simp only [List.length_cons] at r6;have hCp : Hid (Kd.C k72 w9 (rr 0).1 j.f1.length j.f1) := hZ ((HPR9.out 0 (by simp)).2 w9 (fun _ _ _ => rfl));have hlen : (0 : Int) < ((js.length : Int) + 1) := by omega
     have DR := fun wx (hh : Below w9.heap.size w9 wx) => jrun_calls j (rr 0).1 (rr 0).2 n wx (Kd.C_below hCp.out hh) HJ.out (by omega) (by omega)
     have HS9 := hZ hserv9;clear r7 r8 hserv9
     go_upto_region 14 with fail
     refine start_ (n := 17) (S := fun w' => Hid (RowAt w' b5 0 4 125 (rowsOf jobRow (j :: js) rr)) /\ w'.cell? ⟨g, i * 11 + 6, none⟩ = some (.slice (some ⟨b5, 0, none⟩) (js.length + 1) c5) /\ Hid (Below w9.drew.heap.size w9.drew w')) (ds := [16]) #[false, false, false, false, false, false, false, false, false, false, false, false, false, false, false, false, false] (by kernel_rfl) rfl rfl ⟨(hZ HJ9.out.drew), (show w9.drew.cell? _ = _ from r6), (hZ (Below.refl w9.drew.heap.size w9.drew))⟩ (fun hHeld => ?_);refine with_tabW skip.tab14 skip.bits14 (fun HT_ HW_ => ?_);have hbd := drB w9;have hsd : w9.heap.size = w9.drew.heap.size := rfl;generalize hwd : w9.drew = wd at *;clear hwd;refine pst 0 (some 72) HT_ ?_;refine pst 1 (some 73) HT_ ?_;refine pst 2 (some 74) HT_ ?_;refine pst 4 (some 76) HT_ ?_;refine pst 5 (some 77) HT_ ?_;refine pst 6 (some 78) HT_ ?_;refine pst 10 (some 82) HT_ ?_;refine tst 3 (some 75) HT_ HW_ hHeld ?_ (hy := by (rintro w' ⟨s0, s1, s2⟩; obtain ⟨e0, e1, e2, e3⟩ := job_at s0.out); go_simp; with_reducible rfl);refine tst 7 (some 79) HT_ HW_ hHeld ?_ (hy := by (rintro w' ⟨s0, s1, s2⟩; obtain ⟨e0, e1, e2, e3⟩ := job_at s0.out); go_simp; with_reducible rfl);refine pst 8 (some 80) HT_ ?_;refine tst 9 (some 81) HT_ HW_ hHeld ?_ (hy := by (rintro w' ⟨s0, s1, s2⟩; obtain ⟨e0, e1, e2, e3⟩ := job_at s0.out); go_simp; with_reducible rfl);refine one_ (i := 11) (N := some 83) #[true, true, true, true, true, true, true, true, true, true, true, true, false, false, false, false, false] rfl rfl (one_of HT_.out (by kernel_rfl)) (by decide) (fun K hK => ?_);refine goes_ Tryz.func88 (by kernel_rfl) rfl #[.agg #[.int .i64 j.f0, .slice (rr 0).1 j.f1.length (rr 0).2, .int .i64 j.f2, .int .i64 j.f3], .int .i64 n] (by rfl) rfl rfl (by simp only [List.map_toArray, List.map_cons, List.map_nil]; rfl) ?_;with_reducible refine (DR _ (hbd.out.trans (hHeld.2.2.out.mono hbd.out.size))).mono ?_;rintro e w10 ⟨rfl, hB10⟩;refine ⟨_, rfl, ?_⟩;refine hK.out _ _ ⟨(hZ (hHeld.1.out.below hB10)), ((hB10.cell (World.block_lt_of_cell? _ _ hHeld.2.1)).trans hHeld.2.1), (hZ (hHeld.2.2.out.trans (hB10.mono hHeld.2.2.out.size)))⟩ (fun hHeld => ?_);clear hK K;refine norm_ (a' := ?_) ?_ ?_;rotate_left
     ·show Act.put _ (some 83) _ = _;simp only [Act.put, sqA, sqB, sqC, i64_w, i32_w];rfl
     refine pst 12 (some 71) HT_ ?_;refine pst 13 (some 84) HT_ ?_;refine pst 14 (some 85) HT_ ?_;refine pst 15 (some 86) HT_ ?_;refine last_ (i := 16) (N := none) #[true, true, true, true, true, true, true, true, true, true, true, true, true, true, true, true, true] rfl rfl (one_of HT_.out (by kernel_rfl)) (by decide) (fun K hK => ?_);obtain ⟨x0, x1, x2, x3⟩ := job_at hHeld.1.out;have y := hHeld.1.out.free;refine skip_ (w1 := ?_) (by rfl) rfl ?_ ?_;rotate_left
     ·go_simp;rfl
     have HJ11 := hZ (job_set hHeld.1.out (.int .i64 j.f0) (.slice (rr 0).1 j.f1.length (rr 0).2) (.int .i64 j.f2) (.int .i64 (j.f3 + n)));have HT11 := hZ (turn_set4 (Turn.refl w10 (fun k => k = b5)) rfl 0 (.int .i64 j.f0) (.slice (rr 0).1 j.f1.length (rr 0).2) (.int .i64 j.f2) (.int .i64 (j.f3 + n)));clear x0 x1 x2 x3 y;generalize hws : World.setCell _ _ _ = w11 at *;clear hws;refine hK.out _ _ ?_;clear hK K;refine done_ (done_of HT_.out (by kernel_rfl)) ?_;have HB10 := hZ (hbd.out.trans (hHeld.2.2.out.mono hbd.out.size));have hbo : o9.own (.j i) = some b5 := by show ob (o9.r i) = _; rw [HRI.out]; rfl
     have HO11 : Hid (Own w11 B (lt.set i { x with f1 := u, f6 := x.f6 + n, f2 := { j with f3 := j.f3 + n } :: js }) q o9) := hZ (by
      have h5 := HO9.out.below HB10.out;have := h5.job hi2 (j := j) (js := js) (j' := { j with f3 := j.f3 + n }) (by rw [HX1.out]; exact HX0.out) rfl (by rw [HRI.out]) (HPR9.out.below HB10.out) HT11.out HJ11.out;rw [HX1.out, List.set_set] at this;exact this)
     have HTC : Hid (Turn w3 w11 (fun b => w1.heap.size <= b)) := hZ ((HTB.out.trans (Turn.of_below _ HB10.out)).trans (HT11.out.imp (fun b e => by omega)));clear hHeld hB10 HB10 hbd hsd HT11 HJ11 HTB HO9 HPR9 HJ9 hi2 HX1 r6 DR hCp hlen HS9 HT_ HW_;have hi2 : i < (lt.set i { x with f1 := u, f6 := x.f6 + n, f2 := { j with f3 := j.f3 + n } :: js }).length := by rw [List.length_set]; exact hi1
     obtain ⟨hrow, hserv⟩ := HO11.out.cells hi2 HG9.out;have hx1 : (lt.set i { x with f1 := u, f6 := x.f6 + n, f2 := { j with f3 := j.f3 + n } :: js })[i] = { x with f1 := u, f6 := x.f6 + n, f2 := { j with f3 := j.f3 + n } :: js } := List.getElem_set_self hi2;have r7 := hserv.e7;have r8 := hserv.e8;rw [hx1] at r7 r8;dsimp only at r7 r8;have HRow := hZ hrow;have hfz := hrow.free (i * 11 + 8);have HX1 := hZ hx1;have hgo : o9.own .g = some g := by show o9.A.map _ = _; rw [HG9.out]; rfl
     clear hrow hserv hx1;by_cases h2 : x.f3 = 2
     ·have g2 : (x.f3 == 2) = true := by simpa using h2
      go_wp2;have HRow8 := serv_set HRow.out (rows_at hi2) (j := 8) (by omega) (.int .i64 (x.f4 + n));have HT8 := ((Turn.refl w11 (fun b => b = g)).set rfl (i * 11 + 8) (.int .i64 (x.f4 + n)))
      have HO12 := HO11.out.serv0 hi2 { x with f1 := u, f6 := x.f6 + n, f2 := { j with f3 := j.f3 + n } :: js, f4 := x.f4 + n } (by rw [HX1.out]) HG9.out HT8 (by
       rw [HX1.out] at HRow8;exact HRow8)
      rw [List.set_set] at HO12;have HXX : xx = { x with f1 := u, f6 := x.f6 + n, f2 := { j with f3 := j.f3 + n } :: js, f4 := x.f4 + n } := by rw [HX.out, if_neg h1, if_pos h2, HX0.out]; rfl
      rw [<- HXX] at HO12;have HO13 := hZ HO12;have HTD := hZ (HTC.out.trans (HT8.imp hgS));clear HRow8 HT8 HO12;go_roundw
      case rel => exact ⟨i + 1, o9, by go_num, by omega, HG9.out, HA9.out.1, HA9.out.2.1, HA9.out.2.2, hZ (by rw [HSU2.out]; exact HO13.out), HN9, HTD⟩
      case measure => first | (simp [intOf]; done) | (simp [intOf]; omega)
     ·have g2 : (x.f3 == 2) = false := by simpa using h2
      have HXX : Hid (xx = { x with f1 := u, f6 := x.f6 + n, f2 := { j with f3 := j.f3 + n } :: js }) := hZ (by rw [HX.out, if_neg h1, if_neg h2, HX0.out]; rfl);go_wp2;go_roundw
      case rel => exact ⟨i + 1, o9, by go_num, by omega, HG9.out, HA9.out.1, HA9.out.2.1, HA9.out.2.2, hZ (by rw [HSU2.out, HXX.out]; exact HO11.out), HN9, HTC⟩
      case measure => first | (simp [intOf]; done) | (simp [intOf]; omega)
   ·have gin : decide (x.f0 ∈ ids) = false := by simpa using hin
    go_wp2_with (go_at_call 86; (with_reducible refine DCt.mono ?_); rintro e w4 ⟨rfl, rfl⟩)
    go_roundw
    case rel =>
     refine ⟨i + 1, o', by go_num, by omega, e1, e2, e3, e4, hZ ?_, HN, HT⟩;rw [HSU.out, if_neg hin];have : lt.set i x = lt := by rw [<- HGI.out]; exact List.set_getElem_self hi1
     rw [this];exact HO.out
    case measure => first | (simp [intOf]; done) | (simp [intOf]; omega)
  ·have hie : i = l.length := by omega
   subst hie;rw [HALL.out] at HO;have HX4 := hZ ((HT.out.block _ (blk_lt HX3.out) (by omega)).trans HX3.out);have HZ4 := hZ ((HT.out.block _ (blk_lt HZ3.out) (by omega)).trans HZ3.out);have HB4 : Hid (Below w.heap.size w wr) := hZ (Turn.below HB3.out HT.out (fun b e => by omega) (by omega));have hle : w1.heap.size <= wr.heap.size := by have := HT.out.size; omega
   have hfl : fin.length = l.length := by rw [<- HALL.out, skipUp_len]
   clear HT HX3 HZ3 HB3 HC3 HALL HRUN HL6;have x4 := (blk_cell HX4.out 4).trans rfl
   go_upto_region 20 with (go_at_call 89; (with_reducible refine (turns_calls _ _ _ _).mono ?_); rintro e w5 ⟨rfl, hB5⟩; have HX5 := hZ (blk_below HX4.out hB5); have HB5 := hZ hB5; have y1 := (blk_cell HX5.out 1).trans rfl; have y4 := (blk_cell HX5.out 4).trans rfl; have f1 := blk_frozen HX5.out 1; have f4 := blk_frozen HX5.out 4; clear hB5)
   have HX6 := hZ (blk_put (cs' := #[.int .i64 M, .int .i64 (now + n), .slice A7 l.length c7, .slice o.A2 q.length o.c2, .slice A4 0 c4]) (blk_put (cs' := #[.int .i64 M, .int .i64 now, .slice A7 l.length c7, .slice o.A2 q.length o.c2, .slice A4 0 c4]) HX5.out 4 (.slice A4 0 c4) rfl) 1 (.int .i64 (now + n)) rfl);have HT6 := hZ (((Turn.refl w5 (fun b => b = w.heap.size)).set rfl 4 (.slice A4 0 c4)).set rfl 1 (.int .i64 (now + n)));generalize hws : World.setCell _ _ _ = w6 at *;clear hws y1 y4 f1 f4 x4;have HZ6 := hZ ((HT6.out.block _ (by have := blk_lt (blk_below HZ4.out HB5.out); omega) (by omega)).trans (blk_below HZ4.out HB5.out));have x0 := (blk_cell HX6.out 0).trans rfl;have x1 := (blk_cell HX6.out 1).trans rfl;have x2 := (blk_cell HX6.out 2).trans rfl;have x3 := (blk_cell HX6.out 3).trans rfl;have x4 := (blk_cell HX6.out 4).trans rfl;have z0 := (blk_cell HZ6.out 0).trans rfl;have z1 := (blk_cell HZ6.out 1).trans rfl;have z2 := (blk_cell HZ6.out 2).trans rfl;have z3 := (blk_cell HZ6.out 3).trans rfl;have z4 := (blk_cell HZ6.out 4).trans rfl;have f0 := blk_frozen HZ6.out 0;have f1 := blk_frozen HZ6.out 1;have f2 := blk_frozen HZ6.out 2;have f3 := blk_frozen HZ6.out 3;have f4 := blk_frozen HZ6.out 4;have HZ7 := hZ (blk_put (cs' := #[.int .i64 M, .int .i64 (now + n), .slice A7 l.length c7, .slice o.A2 q.length o.c2, .slice A4 0 c4]) (blk_put (blk_put (blk_put (blk_put HZ6.out 0 (.int .i64 M) rfl) 1 (.int .i64 (now + n)) rfl) 2 (.slice A7 l.length c7) rfl) 3 (.slice o.A2 q.length o.c2) rfl) 4 (.slice A4 0 c4) rfl);have HT7 := hZ (((((Turn.refl w6 (fun k => k = w.heap.size + 1)).set rfl 0 (.int .i64 M)).set rfl 1 (.int .i64 (now + n))).set rfl 2 (.slice A7 l.length c7)).set rfl 3 (.slice o.A2 q.length o.c2)).set rfl 4 (.slice A4 0 c4);go_wp2;refine bodyPost_ret (results_cell_row rfl _ _ (w.heap.size + 1) 47 #[.int .i64 M, .int .i64 (now + n), .slice A7 l.length c7, .slice o.A2 q.length o.c2, .slice A4 0 c4] (0, 0) _ rfl HZ7.out Tryz.underlying47 rfl (by kernel_rfl)) rfl ?_;generalize hwf : World.setCell _ _ _ = wf at *;clear hwf x0 x1 x2 x3 x4 z0 z1 z2 z3 z4 f0 f1 f2 f3 f4;have hoo := HO.out.old;have hN := HN.out;have hob := HOB.out
   have hown : ∀ cc b, o'.own cc = some b -> b ≠ w.heap.size /\ b ≠ w.heap.size + 1 := fun cc b hc => by
    rcases hN cc b hc with ⟨_, c2, h⟩ | h
    ·have := hob c2 b h; omega
    ·omega
   have hBn : B.n <= w.heap.size := HOLD.out;have h1 := (HO.out.below HB5.out).keep HT6.out (fun b e => by omega) (fun cc b hc e => (hown cc b hc).1 e);have h2 := h1.keep HT7 (fun b e => by omega) (fun cc b hc e => (hown cc b hc).2 e);have hs5 := HB5.out.size;have hs6 := HT6.out.size;refine ⟨o', A4, c4, ?_, h2, fun cc b hc => ?_, ?_⟩
   ·rw [e1, e2, e3, e4, hfl]
   ·rcases hN cc b hc with ⟨_, h⟩ | h
    ·exact .inl h
    ·exact .inr (by omega)
   ·exact Turn.below (Turn.below (HB4.out.trans (HB5.out.mono (by omega))) HT6.out (fun b e => by omega) (by omega)) HT7 (fun b e => by omega) (by omega)
def RdF (w : World) (F : Nat -> Prop) (B : Bd) (A : Option Addr) (l : List S57) (A2 : Option Addr) (q : List S63) : Prop :=
 ∀ W' : World, (∀ b, (F b \/ B.G b) -> b < w.heap.size -> W'.heap[b]? = w.heap[b]?) -> Rd W' B A l A2 q
theorem RdF.now {w : World} {F : Nat -> Prop} {B : Bd} {A : Option Addr} {l : List S57} {A2 : Option Addr} {q : List S63} (h : RdF w F B A l A2 q) : Rd w B A l A2 q := h w (fun _ _ _ => rfl)
theorem RdF.keep {w w' : World} {F : Nat -> Prop} {B : Bd} {A : Option Addr} {l : List S57} {A2 : Option Addr} {q : List S63} (h : RdF w F B A l A2 q) {S : Nat -> Prop} (ht : Turn w w' S) (hS : ∀ b, S b -> ¬ F b /\ ¬ B.G b) : RdF w' F B A l A2 q := fun W' hW => h W' (fun b hb hlt => by
 rw [hW b hb (Nat.lt_of_lt_of_le hlt ht.size)];exact ht.block b hlt (fun e => hb.elim (hS b e).1 (hS b e).2))
theorem RdF.below {w w' : World} {F : Nat -> Prop} {B : Bd} {A : Option Addr} {l : List S57} {A2 : Option Addr} {q : List S63} (h : RdF w F B A l A2 q) (hb : Below w.heap.size w w') : RdF w' F B A l A2 q := h.keep (S := fun _ => False) (Turn.of_below _ hb) (fun _ e => e.elim)
theorem Own.rdf {w : World} {B : Bd} {l : List S57} {q : List S63} {o : OwnR} (h : Own w B l q o) : RdF w (fun b => ∃ c, o.own c = some b) B o.A l o.A2 q := fun W' hW => by
 have hown : ∀ c b, o.own c = some b -> W'.heap[b]? = w.heap[b]? := fun c b hc => hW b (.inl ⟨c, hc⟩) (h.bnd c b hc).2
 refine ⟨⟨o.r, ?_, fun i hi => ?_⟩, ?_⟩
 ·by_cases hx : l = []
  ·subst hx; exact C_nil' _ _ _
  ·obtain ⟨g, e, hr⟩ := h.row hx;rw [e, <- rowsOf_len (f := servRow) (r := o.r)];exact raw_of_row (hr.same (hown .g g (by show o.A.map _ = _; rw [e]; rfl))) (by rw [rowsOf_len]; have := h.max; omega) (mem_rowsOf (fun x p u hu => by simp only [servRow, List.mem_cons, List.not_mem_nil, or_false] at hu; rcases hu with rfl | rfl | rfl | rfl | rfl | rfl | rfl | rfl | rfl | rfl | rfl <;> rfl))
 ·have hj := h.jobs i hi;refine ⟨hj.cap, ?_⟩;by_cases hx : l[i].f2 = []
  ·exact ⟨fun _ => (none, 0), by rw [hx]; exact C_nil' _ _ _, fun k hk => by rw [hx] at hk; simp at hk⟩
  ·obtain ⟨b, oo, rr, e, hr, hp⟩ := hj.row hx;refine ⟨rr, ?_, fun k hk => ⟨(hp k hk).1, fun W2 hW2 => (hp k hk).2 W2 (fun b2 hb2 hlt => ?_)⟩⟩
   ·rw [e];exact raw_jobs (hr.same (hown (.j i) b (by show ob (o.r i) = _; rw [ob, e]; rfl))) hj.max
   ·have e2 := hW b2 (.inr hb2) hlt;rw [<- e2];refine hW2 b2 hb2 ?_;have h3 : w.heap[b2]? = some (w.heap[b2]) := Array.getElem?_eq_getElem hlt;rw [h3] at e2;exact (Array.getElem?_eq_some_iff.1 e2).1
 ·by_cases hx : q = []
  ·subst hx; exact C_nil' _ _ _
  ·obtain ⟨g, e, hr⟩ := h.lok hx;rw [e];refine RowAt.kd (d := k63) (hr.same (hown .h g (by show o.A2.map _ = _; rw [e]; rfl))) rowsOf_len (by have := h.max; omega) (fun i h1 h2 => ?_);rw [rowsOf_get h1];exact k63_mk W' q[i] (h.que i h1).1 ((h.que i h1).2 W' (fun b hb hlt => hown _ b hb))
theorem tickL_few (M now : Int) (l : List S57) (q : List S63) (hl : l.length <= 12) (h2 : (settleL M now l q).1.length <= 12) : (tickL M now l q).2.2.length <= 150 := by
 unfold tickL;dsimp only;have h1 := settleL_few M now l q hl;have h3 := endAll_few (now + 1) (runAll (settleL M now l q).1 (placesOf M (settleL M now l q).1)) (settleL M now l q).2.1 (placesOf M (settleL M now l q).1);have h4 := places_len (M := M) h2;rw [List.length_append];omega
structure GoInv (M en : Int) (I : Int -> List S57 -> List S63 -> Prop) : Prop where
 ok : ∀ now l q, I now l q -> now < en -> MOk M now l q /\ StillOk M now (settleL M now l q).1 (settleL M now l q).2.1
 skip : ∀ now l q, I now l q -> now < en -> 0 < stillL M now (en - now) (settleL M now l q).1 (settleL M now l q).2.1 -> SkipOk M (stillL M now (en - now) (settleL M now l q).1 (settleL M now l q).2.1) (settleL M now l q).1 /\ now + stillL M now (en - now) (settleL M now l q).1 (settleL M now l q).2.1 <= en /\ I (now + stillL M now (en - now) (settleL M now l q).1 (settleL M now l q).2.1) (skipL M (stillL M now (en - now) (settleL M now l q).1 (settleL M now l q).2.1) (settleL M now l q).1) (settleL M now l q).2.1
 tick : ∀ now l q, I now l q -> now < en -> stillL M now (en - now) (settleL M now l q).1 (settleL M now l q).2.1 <= 0 -> TickOk M now (settleL M now l q).1 (settleL M now l q).2.1 /\ I (now + 1) (tickL M now (settleL M now l q).1 (settleL M now l q).2.1).1 (tickL M now (settleL M now l q).1 (settleL M now l q).2.1).2.1
def stX (M now : Int) (A : Option Addr) (n c : Nat) (A2 : Option Addr) (n2 c2 : Nat) (A3 : Option Addr) (c3 : Nat) : Array Value := #[.int .i64 M, .int .i64 now, .slice A n c, .slice A2 n2 c2, .slice A3 0 c3]
structure Gb (M now : Int) (N : Nat) (B : Bd) (F0 : Nat -> Prop) (w0 : World) (l : List S57) (q : List S63) (E : List Ev) (A : Option Addr) (c : Nat) (A2 : Option Addr) (c2 : Nat) (A4 : Option Addr) (c4 : Nat) (v : Value) (w : World) : Prop where
 X : w.heap[N]? = some (.cells (stX M now A l.length c A2 q.length c2 A4 c4) 47 (0, 0))
 Z : w.heap[N + 1]? = some (.cells (stX 0 0 none 0 0 none 0 0 none 0) 47 (0, 0))
 E : (Kd.raw 4).R 67 w N (fun _ => True) v (E.map Ev.cells)
 VB : ∀ b, v.ownBlock = some b -> N + 1 < b
 Bl : Below N w0 w
 N0 : N = w0.heap.size
 F1 : ∀ b, F0 b -> b < N
 BN : B.n <= N
structure Gk (M now : Int) (N : Nat) (B : Bd) (F0 : Nat -> Prop) (w0 : World) (l : List S57) (q : List S63) (E : List Ev) (A : Option Addr) (c : Nat) (A2 : Option Addr) (c2 : Nat) (A4 : Option Addr) (c4 : Nat) (v : Value) (w : World) : Prop extends Gb M now N B F0 w0 l q E A c A2 c2 A4 c4 v w where
 R : ∃ F, RdF w F B A l A2 q /\ ∀ b, F b -> (F0 b \/ N + 1 < b) /\ b < w.heap.size /\ v.ownBlock ≠ some b
section
variable {M now : Int} {N : Nat} {B : Bd} {F0 : Nat -> Prop} {w0 : World} {l : List S57} {q : List S63} {E : List Ev} {A : Option Addr} {c : Nat} {A2 : Option Addr} {c2 : Nat} {A4 : Option Addr} {c4 : Nat} {v : Value} {w w' : World}
theorem Gb.turn (h : Gb M now N B F0 w0 l q E A c A2 c2 A4 c4 v w) {S : Nat -> Prop} (ht : Turn w w' S) (hS : ∀ b, S b -> N + 1 < b /\ v.ownBlock ≠ some b) : Gb M now N B F0 w0 l q E A c A2 c2 A4 c4 v w' where
 X := (ht.block _ (blk_lt h.X) (fun e => by have := hS _ e; omega)).trans h.X
 Z := (ht.block _ (blk_lt h.Z) (fun e => by have := hS _ e; omega)).trans h.Z
 E := Kd.R_reok rfl (Kd.R_step (Kd.R_tight rfl h.E) (fun b hb hlt => ht.block b hlt (fun e => (hS b e).2 hb.symm))) (fun _ _ => trivial)
 VB := h.VB
 Bl := Turn.below h.Bl ht (fun b e => by have := hS b e; omega) (by rw [h.N0]; exact h.Bl.size)
 N0 := h.N0
 F1 := h.F1
 BN := h.BN
theorem Gk.below (h : Gk M now N B F0 w0 l q E A c A2 c2 A4 c4 v w) (hb : Below w.heap.size w w') : Gk M now N B F0 w0 l q E A c A2 c2 A4 c4 v w' where
 toGb := h.toGb.turn (S := fun _ => False) (Turn.of_below _ hb) (fun _ e => e.elim)
 R := by
  obtain ⟨F, h1, h2⟩ := h.R;exact ⟨F, h1.below hb, fun b hF => ⟨(h2 b hF).1, Nat.lt_of_lt_of_le (h2 b hF).2.1 hb.size, (h2 b hF).2.2⟩⟩
theorem Gb.ev (h : Gb M now N B F0 w0 l q E A c A2 c2 A4 c4 v w) {v' : Value} (ht : Turn w w' (fun b => some b = v.ownBlock)) {E' : List Ev} (hR : (Kd.raw 4).R 67 w' N (fun _ => True) v' (E.map Ev.cells ++ E'.map Ev.cells)) (hat : v'.ownBlock = v.ownBlock \/ ∃ b, v'.ownBlock = some b /\ w.heap.size <= b) : Gb M now N B F0 w0 l q (E ++ E') A c A2 c2 A4 c4 v' w' := by
 have hS := fun b (e : some b = v.ownBlock) => h.VB b e.symm
 have hNZ := blk_lt h.Z;refine ⟨?_, ?_, by rw [List.map_append]; exact hR, fun b hb => ?_, ?_, h.N0, h.F1, h.BN⟩
 ·exact (ht.block _ (blk_lt h.X) (fun e => by have := hS _ e; omega)).trans h.X
 ·exact (ht.block _ (blk_lt h.Z) (fun e => by have := hS _ e; omega)).trans h.Z
 ·rcases hat with e2 | ⟨b2, e2, hle⟩
  ·exact h.VB b (by rw [<- e2]; exact hb)
  ·rw [e2] at hb; injection hb with hb; omega
 ·exact Turn.below h.Bl ht (fun b e => by have := hS b e; omega) (by rw [h.N0]; exact h.Bl.size)
theorem Gk.ev (h : Gk M now N B F0 w0 l q E A c A2 c2 A4 c4 v w) {v' : Value} (ht : Turn w w' (fun b => some b = v.ownBlock)) {E' : List Ev} (hR : (Kd.raw 4).R 67 w' N (fun _ => True) v' (E.map Ev.cells ++ E'.map Ev.cells)) (hat : v'.ownBlock = v.ownBlock \/ ∃ b, v'.ownBlock = some b /\ w.heap.size <= b) : Gk M now N B F0 w0 l q (E ++ E') A c A2 c2 A4 c4 v' w' := by
 have hS := fun b (e : some b = v.ownBlock) => h.VB b e.symm
 have hBN := h.BN;refine ⟨h.toGb.ev ht hR hat, ?_⟩;obtain ⟨F, h1, h2⟩ := h.R;refine ⟨F, h1.keep ht (fun b e => ⟨fun hF => (h2 b hF).2.2 e.symm, fun hG => by have := hS b e; have := B.lt b hG; omega⟩), fun b hF => ⟨(h2 b hF).1, Nat.lt_of_lt_of_le (h2 b hF).2.1 ht.size, fun e => ?_⟩⟩;rcases hat with e2 | ⟨b2, e2, hle⟩
 ·rw [e2] at e; exact (h2 b hF).2.2 e
 ·rw [e2] at e;injection e with e;have := (h2 b hF).2.1;omega
theorem Gb.next (h : Gb M now N B F0 w0 l q E A c A2 c2 A4 c4 v w) {now' : Int} {l' : List S57} {q' : List S63} {o : OwnR} {A5 : Option Addr} {c5 : Nat} (hO : Own w B l' q' o) (hown : ∀ cc b, o.own cc = some b -> N + 1 < b /\ v.ownBlock ≠ some b) (ht : Turn w w' (fun b => b = N)) (hX : w'.heap[N]? = some (.cells (stX M now' o.A l'.length o.c o.A2 q'.length o.c2 A5 c5) 47 (0, 0))) : Gk M now' N B F0 w0 l' q' E o.A o.c o.A2 o.c2 A5 c5 v w' where
 X := hX
 Z := (ht.block _ (blk_lt h.Z) (by omega)).trans h.Z
 R := by
  refine ⟨fun b => ∃ c, o.own c = some b, hO.rdf.keep ht (fun b e => ⟨fun ⟨c, hc⟩ => by have := (hown c b hc).1; omega, fun hG => by have := h.BN; have := B.lt b hG; omega⟩), fun b ⟨c, hc⟩ => ⟨.inr (hown c b hc).1, Nat.lt_of_lt_of_le (hO.bnd c b hc).2 ht.size, (hown c b hc).2⟩⟩
 E := Kd.R_reok rfl (Kd.R_step (Kd.R_tight rfl h.E) (fun b hb hlt => ht.block b hlt (fun e => by have := h.VB b hb.symm; omega))) (fun _ _ => trivial)
 VB := h.VB
 Bl := Turn.below h.Bl ht (fun b e => by omega) (by rw [h.N0]; exact h.Bl.size)
 N0 := h.N0
 F1 := h.F1
 BN := h.BN
end
theorem goL_done (f : Nat) (M now en : Int) (l : List S57) (q : List S63) (h : ¬ now < en) : goL f M now en l q = (l, q, []) := by
 cases f with
 | zero => rfl
 | succ f => rw [goL, if_neg h]
theorem stX_cells {w : World} {N : Nat} {M now : Int} {A : Option Addr} {n c : Nat} {A2 : Option Addr} {n2 c2 : Nat} {A4 : Option Addr} {c4 : Nat} (h : w.heap[N]? = some (.cells (stX M now A n c A2 n2 c2 A4 c4) 47 (0, 0))) :
    w.cell? ⟨N, 0, none⟩ = some (.int .i64 M) /\ w.cell? ⟨N, 1, none⟩ = some (.int .i64 now) /\ w.cell? ⟨N, 2, none⟩ = some (.slice A n c) /\ w.cell? ⟨N, 3, none⟩ = some (.slice A2 n2 c2) /\ w.cell? ⟨N, 4, none⟩ = some (.slice A4 0 c4) :=
  ⟨(blk_cell h 0).trans rfl, (blk_cell h 1).trans rfl, (blk_cell h 2).trans rfl, (blk_cell h 3).trans rfl, (blk_cell h 4).trans rfl⟩
theorem raws_keep {sz : Nat} {w w' : World} {S : Nat -> Prop} {A : Option Addr} {n : Nat} {l : List (List Value)} (h : (Kd.raw sz).C w A n l) (ht : Turn w w' S) (hA : ∀ ad, A = some ad -> ¬ S ad.block) : (Kd.raw sz).C w' A n l := by
  refine ⟨h.1, h.2.1, fun h0 => ?_⟩;obtain ⟨ad, e, hc⟩ := h.2.2 h0;refine ⟨ad, e, fun j p hp => ?_⟩;obtain ⟨cs, h1, h2, h3⟩ := hc j p hp;refine ⟨cs, h1, h2, fun i u hu => ?_⟩;have h4 := h3 i u hu;have h5 := World.block_lt_of_cell? _ _ h4;rw [add_block] at h5;refine cell_keep h4 ?_;rw [add_block];exact ht.block _ h5 (hA ad e)
def put5 (w : World) (N : Nat) (M now : Int) (A : Option Addr) (n c : Nat) (A2 : Option Addr) (n2 c2 : Nat) (A4 : Option Addr) (c4 : Nat) : World := ((((w.setCell ⟨N, 0, none⟩ (.int .i64 M)).setCell ⟨N, 1, none⟩ (.int .i64 now)).setCell ⟨N, 2, none⟩ (.slice A n c)).setCell ⟨N, 3, none⟩ (.slice A2 n2 c2)).setCell ⟨N, 4, none⟩ (.slice A4 0 c4)
theorem stX_put {w : World} {N : Nat} {M now : Int} {A : Option Addr} {n c : Nat} {A2 : Option Addr} {n2 c2 : Nat} {A4 : Option Addr} {c4 : Nat} (h : w.heap[N]? = some (.cells (stX M now A n c A2 n2 c2 A4 c4) 47 (0, 0))) (M' now' : Int) (A' : Option Addr) (n' c' : Nat) (A2' : Option Addr) (n2' c2' : Nat) (A4' : Option Addr) (c4' : Nat) :
    (put5 w N M' now' A' n' c' A2' n2' c2' A4' c4').heap[N]? = some (.cells (stX M' now' A' n' c' A2' n2' c2' A4' c4') 47 (0, 0)) /\ Turn w (put5 w N M' now' A' n' c' A2' n2' c2' A4' c4') (fun b => b = N) :=
  ⟨blk_put (blk_put (blk_put (blk_put (blk_put h 0 (.int .i64 M') rfl) 1 (.int .i64 now') rfl) 2 (.slice A' n' c') rfl) 3 (.slice A2' n2' c2') rfl) 4 (.slice A4' 0 c4') rfl,
   (((((Turn.refl w (fun b => b = N)).set rfl 0 (.int .i64 M')).set rfl 1 (.int .i64 now')).set rfl 2 (.slice A' n' c')).set rfl 3 (.slice A2' n2' c2')).set rfl 4 (.slice A4' 0 c4')⟩
theorem go_calls (M now n : Int) (A : Option Addr) (l : List S57) (c : Nat) (A2 : Option Addr) (q : List S63) (c2 : Nat) (A3 : Option Addr) (c3 : Nat) (B : Bd) (F0 : Nat -> Prop) (w : World) (hB : B.n <= w.heap.size) (hF : RdF w F0 B A l A2 q) (hF0 : ∀ b, F0 b -> b < w.heap.size) (I : Int -> List S57 -> List S63 -> Prop) (hI : GoInv M (now + n) I) (h0 : I now l q) (hn : 0 <= n) (hn2 : n <= 1000) (hnow : 0 <= now) (hnow2 : now <= 1000000000) :
    Calls Tryz.prog 31 #[stV M now A l.length c A2 q.length c2 A3 c3, .int .i64 n] w fun e w' => ∃ A' c' A2' c2' A4 c4 v F, e = .returned (.tuple #[stV M (now + n) A' (goL n.toNat M now (now + n) l q).1.length c' A2' (goL n.toNat M now (now + n) l q).2.1.length c2' A4 c4, v, .int .i64 0]) /\ RdF w' F B A' (goL n.toNat M now (now + n) l q).1 A2' (goL n.toNat M now (now + n) l q).2.1 /\ (∀ b, F b -> (F0 b \/ w.heap.size <= b) /\ b < w'.heap.size /\ v.ownBlock ≠ some b) /\ (Kd.raw 4).R 67 w' w.heap.size (fun _ => True) v ((goL n.toNat M now (now + n) l q).2.2.map Ev.cells) /\ (goL n.toNat M now (now + n) l q).2.2.length <= 300 * n.toNat /\ I (now + n) (goL n.toNat M now (now + n) l q).1 (goL n.toNat M now (now + n) l q).2.1 /\ Below w.heap.size w w' := by
  have HG0 : Hid (Gk M now w.heap.size B F0 w l q [] A c A2 c2 A3 c3 (.slice none 0 0) ((w.alloc (.cells (stX M now A l.length c A2 q.length c2 A3 c3) 47)).alloc (.cells (stX 0 0 none 0 0 none 0 0 none 0) 47))) := hZ (by
    have h2 := two_blocks (w := w) (x := stX M now A l.length c A2 q.length c2 A3 c3) (y := stX 0 0 none 0 0 none 0 0 none 0) (tx := 47) (ty := 47) (Below.refl _ _);have hb : Below w.heap.size w ((w.alloc (.cells (stX M now A l.length c A2 q.length c2 A3 c3) 47)).alloc (.cells (stX 0 0 none 0 0 none 0 0 none 0) 47)) := below_alloc (below_alloc (Below.refl _ _) _) _;exact ⟨⟨h2.1, h2.2.1, Kd.R_nil _ _ _ _ _, fun b h => by simp [Value.ownBlock] at h, hb, rfl, hF0, hB⟩, ⟨F0, hF.below hb, fun b h => ⟨.inl h, Nat.lt_of_lt_of_le (hF0 b h) hb.size, by simp [Value.ownBlock]⟩⟩⟩)
  have HI := hZ hI;have H0 := hZ h0;have g1 : decide (n < 0) = false := by simp; omega
  have hw1 : IntKind.i64.wrap (4611686018427387904 - now) = 4611686018427387904 - now := by rw [i64_w]; unfold Go.RowKit.wrap64; omega
  have g2 : decide (n > 4611686018427387904 - now) = false := by simp; omega
  have hw2 : IntKind.i64.wrap (now + n) = now + n := by rw [i64_w]; unfold Go.RowKit.wrap64; omega
  have HR : Hid (∃ r, goL n.toNat M now (now + n) l q = r) := hZ ⟨_, rfl⟩;obtain ⟨fin, hfin⟩ := HR.out;rw [hfin];have HFIN := hZ hfin;clear hfin HR hI h0 hF hF0;generalize hen : now + n = en at *;unfold stV;go_enter Tryz.func31, Tryz.ntmps31;go_wp2;generalize hw0 : (w.alloc (.cells (stX M now A l.length c A2 q.length c2 A3 c3) 47)).alloc (.cells (stX 0 0 none 0 0 none 0 0 none 0) 47) = wz at HG0;have hz2 : (w.alloc (.cells #[.int .i64 M, .int .i64 now, .slice A l.length c, .slice A2 q.length c2, .slice A3 0 c3] 47)).alloc (.cells #[.int .i64 0, .int .i64 0, .slice none 0 0, .slice none 0 0, .slice none 0 0] 47) = wz := hw0;rw [hz2];clear hw0 hz2
  go_loopg [7] n.toNat (fun f v7 wr => ∃ (nk : Int) (lk : List S57) (qk : List S63) (ek : List Ev) (A : Option Addr) (c : Nat) (A2 : Option Addr) (c2 : Nat) (A4 : Option Addr) (c4 : Nat), en - nk <= f /\ now <= nk /\ nk <= en /\ (ek.length : Int) <= 300 * (nk - now) /\ Hid (fin = ((goL f M nk en lk qk).1, (goL f M nk en lk qk).2.1, ek ++ (goL f M nk en lk qk).2.2)) /\ Hid (I nk lk qk) /\ Hid (Gk M nk w.heap.size B F0 w lk qk ek A c A2 c2 A4 c4 v7 wr))
  case atStart => exact ⟨now, l, q, [], A, c, A2, c2, A3, c3, by omega, by omega, by omega, by simp, hZ (by rw [<- HFIN.out]; simp), H0, HG0⟩
  case round =>
    clear H0 HG0 HFIN;obtain ⟨nk, lk, qk, ek, A, c, A2, c2, A4, c4, hf, hnk, hnk2, hek, HFK, HIK, HGK⟩ := hrel;obtain ⟨x0, x1, x2, x3, x4⟩ := stX_cells HGK.out.X;by_cases hlt : nk < en
    · have glt : decide (nk < en) = true := by simpa using hlt
      obtain ⟨f, rfl⟩ : ∃ f, gk = f + 1 := ⟨gk - 1, by omega⟩;obtain ⟨hmok, hstill⟩ := HI.out.ok nk lk qk HIK.out hlt;have hskip := HI.out.skip nk lk qk HIK.out hlt;have htick := HI.out.tick nk lk qk HIK.out hlt;have hsf := settleL_few M nk lk qk hmok.sane.len
      have hgo : goL (f + 1) M nk en lk qk = if 0 < stillL M nk (en - nk) (settleL M nk lk qk).1 (settleL M nk lk qk).2.1 then ((goL f M (nk + stillL M nk (en - nk) (settleL M nk lk qk).1 (settleL M nk lk qk).2.1) en (skipL M (stillL M nk (en - nk) (settleL M nk lk qk).1 (settleL M nk lk qk).2.1) (settleL M nk lk qk).1) (settleL M nk lk qk).2.1).1, (goL f M (nk + stillL M nk (en - nk) (settleL M nk lk qk).1 (settleL M nk lk qk).2.1) en (skipL M (stillL M nk (en - nk) (settleL M nk lk qk).1 (settleL M nk lk qk).2.1) (settleL M nk lk qk).1) (settleL M nk lk qk).2.1).2.1, (settleL M nk lk qk).2.2 ++ (goL f M (nk + stillL M nk (en - nk) (settleL M nk lk qk).1 (settleL M nk lk qk).2.1) en (skipL M (stillL M nk (en - nk) (settleL M nk lk qk).1 (settleL M nk lk qk).2.1) (settleL M nk lk qk).1) (settleL M nk lk qk).2.1).2.2) else ((goL f M (nk + 1) en (tickL M nk (settleL M nk lk qk).1 (settleL M nk lk qk).2.1).1 (tickL M nk (settleL M nk lk qk).1 (settleL M nk lk qk).2.1).2.1).1, (goL f M (nk + 1) en (tickL M nk (settleL M nk lk qk).1 (settleL M nk lk qk).2.1).1 (tickL M nk (settleL M nk lk qk).1 (settleL M nk lk qk).2.1).2.1).2.1, (settleL M nk lk qk).2.2 ++ (tickL M nk (settleL M nk lk qk).1 (settleL M nk lk qk).2.1).2.2 ++ (goL f M (nk + 1) en (tickL M nk (settleL M nk lk qk).1 (settleL M nk lk qk).2.1).1 (tickL M nk (settleL M nk lk qk).1 (settleL M nk lk qk).2.1).2.1).2.2) := by
        rw [goL, if_pos hlt]
      rw [hgo] at HFK
      have DS : ∀ wx, Gk M nk w.heap.size B F0 w lk qk ek A c A2 c2 A4 c4 u7 wx -> Calls Tryz.prog 12 #[stV M nk A lk.length c A2 qk.length c2 A4 c4] wx fun e w' => SettleP M nk lk qk B wx e w' := fun wx h => by
        obtain ⟨F, hF, _⟩ := h.R;exact settle_calls M nk A lk c A2 qk c2 A4 c4 B wx (by have := h.BN; have := blk_lt h.X; omega) hF.now hmok
      unfold SettleP at DS;have htf : ∀ (l1 : List S57) (q1 : List S63), l1.length <= 12 -> TickOk M nk l1 q1 -> (tickL M nk l1 q1).2.2.length <= 150 := fun l1 q1 h1 h2 => tickL_few M nk l1 q1 h1 h2.sane.len
      obtain ⟨⟨l1, q1, ev1⟩, hst⟩ : ∃ s, settleL M nk lk qk = s := ⟨_, rfl⟩;rw [hst] at hstill hskip htick hsf DS HFK;dsimp only at hstill hskip htick hsf DS HFK;have hwe : IntKind.i64.wrap (en - nk) = en - nk := by rw [i64_w]; unfold Go.RowKit.wrap64; omega
      have hl1 := hstill.sane.len;have DW := fun (o1 : OwnR) A5 c5 wx (hO : Own wx B l1 q1 o1) => still_calls M nk (en - nk) o1.A l1 o1.c o1.A2 q1 o1.c2 A5 c5 wx hO.reads hO.readsL hstill
      clear hst hgo hmok hstill;unfold stV at DS DW
      go_upto_region 9 with (go_at_call 12; (with_reducible refine (DS _ HGK.out).mono ?_); rintro e w1 ⟨o1, A5, c5, v1, rfl, hO1, hown1, hR1, hB1⟩; obtain ⟨AL, cL, rfl, _, hCL⟩ := Kd.R_reads hR1; rw [List.length_map] at hCL; have HCL := hZ hCL; have HO1 := hZ hO1; have HOWN := hZ hown1; have HB1 := hZ hB1; clear hO1 hown1 hR1 hB1 hCL)
      have HT9 : Hid ((w1.alloc (.cells (stX M nk o1.A l1.length o1.c o1.A2 q1.length o1.c2 A5 c5) 47)).heap[w1.heap.size]? = some (.cells (stX M nk o1.A l1.length o1.c o1.A2 q1.length o1.c2 A5 c5) 47 (0, 0))) := hZ (blk_new _ _);have HBA : Hid (Below w1.heap.size w1 (w1.alloc (.cells (stX M nk o1.A l1.length o1.c o1.A2 q1.length o1.c2 A5 c5) 47))) := hZ (below_alloc (Below.refl _ _) _);generalize hw2 : w1.alloc (.cells (stX M nk o1.A l1.length o1.c o1.A2 q1.length o1.c2 A5 c5) 47) = w2 at HT9 HBA;have hz2 : w1.alloc (.cells #[.int .i64 M, .int .i64 nk, .slice o1.A l1.length o1.c, .slice o1.A2 q1.length o1.c2, .slice A5 0 c5] 47) = w2 := hw2;rw [hz2];clear hw2 hz2;have HGK2 := hZ ((HGK.out.below HB1.out).below HBA.out);have HO2 := hZ (HO1.out.below HBA.out);have HCL2 := hZ (Kd.C_below HCL.out HBA.out);have hs1 := HB1.out.size;have hvl := Kd.R_lt HGK.out.E;have hvb := HGK.out.VB;have hNN := blk_lt HGK.out.Z;have hBN := HGK.out.BN;have HVL := hZ hvl;have HVB := hZ hvb;clear HO1 HCL HGK HBA HB1 x0 x1 x2 x3 x4 DS hvl hvb
      go_upto_region 10 with ((with_reducible refine gate_builtin (b := .append) (xs := #[.tmp 36, .tmp 37]) rfl ?_); at_builtin; refine Kd.R_append_rows (Kd.raw 4) (Rr := (Kd.raw 4).K w2) (okp := fun _ => False) (w0 := w2) w.heap.size rfl (.tmp 36) (.tmp 37) 48 67 (.agg #[.int .i64 0, .int .i64 0, .int .i64 0, .int .i64 0]) 32 rfl Tryz.underlying48 info67 rfl (by decide) (by omega) _ (ek.map Ev.cells) (ev1.map Ev.cells) AL ev1.length cL (fun _ => True) rfl rfl HGK2.out.E HCL2.out (fun _ _ h => h) (fun _ h => h.elim) (fun _ _ => trivial) (Below.refl _ _) ?aS ?aL ?_; (case aS => (have := blk_lt HGK2.out.X; omega)); (case aL => (simp only [List.length_map]; omega)); intro v3 w3 hR3 hB3 hg3 hat3; have HT3 := hZ (grown_turn hg3); have HGK3 := hZ (HGK2.out.ev (grown_turn hg3) hR3 hat3); have HAT3 := hZ hat3; clear hR3 hB3 hg3 hat3)
      have HO3 := hZ (HO2.out.keep HT3.out (fun b e => by have := HVB.out b e.symm; omega) (fun cc b hc e => by have := HOWN.out cc b hc; have := HVL.out b e.symm; omega));have HT93 := hZ ((HT3.out.block _ (blk_lt HT9.out) (fun e => by have := HVL.out _ e.symm; omega)).trans HT9.out);have hs3 := HT3.out.size;have hs2 := blk_lt HT9.out
      have HV3 : Hid (∀ cc b, o1.own cc = some b -> v3.ownBlock ≠ some b) := hZ (fun cc b hc e => by
        rcases HAT3.out with h | ⟨b2, h, hle⟩
        · rw [h] at e;have := HVL.out b e;have := HOWN.out cc b hc;omega
        · rw [h] at e;injection e with e;have := (HO2.out.bnd cc b hc).2;omega)
      clear HO2 HCL2 HGK2 HT3 HT9 HVB;obtain ⟨y0, y1, y2, y3, y4⟩ := stX_cells HT93.out;have DW := DW o1 A5 c5 w3 HO3.out;generalize stillL M nk (en - nk) l1 q1 = k at *;by_cases hk : 0 < k
      · have gk : decide (k > 0) = true := by simpa using hk
        obtain ⟨hsk1, hsk2, hsk3⟩ := hskip hk;rw [if_pos hk] at HFK;have DK := fun wx (hO : Own wx B l1 q1 o1) => skip_calls M nk k l1 q1 B o1 A5 c5 wx hO hsk1 (by omega) (by omega)
        unfold SkipP stV at DK;have HI2 := hZ hsk3;generalize skipL M k l1 = l2 at *;clear hskip htick hsk1 hsk3
        go_wp2_with (first
          | (go_at_call 59; (with_reducible refine DW.mono ?_); rintro e w4 ⟨rfl, hB4⟩; have HB4 := hZ hB4; obtain ⟨y0, y1, y2, y3, y4⟩ := stX_cells (blk_below HT93.out hB4); clear hB4)
          | (go_at_call 60; (with_reducible refine (DK _ (HO3.out.below HB4.out)).mono ?_); rintro e w5 ⟨o2, A6, c6, rfl, hO5, hown5, hB5⟩; have HGK5 := hZ ((HGK3.out.below HB4.out).below hB5); obtain ⟨x0, x1, x2, x3, x4⟩ := stX_cells HGK5.out.X; have f0 := blk_frozen HGK5.out.X 0; have f1 := blk_frozen HGK5.out.X 1; have f2 := blk_frozen HGK5.out.X 2; have f3 := blk_frozen HGK5.out.X 3; have f4 := blk_frozen HGK5.out.X 4; have HO5 := hZ hO5; have HOWN5 := hZ hown5; clear hO5 hown5 hB5))
        have hXP := stX_put HGK5.out.X M (nk + k) o2.A l2.length o2.c o2.A2 q1.length o2.c2 A6 c6;unfold put5 at hXP;generalize hws : World.setCell _ _ _ = w6 at *;have HXP := hZ hXP;have hs4 := HB4.out.size
        have HO6 := hZ (HO5.out.keep hXP.2 (fun b e => by omega) (fun cc b hc e => by
          rcases HOWN5.out cc b hc with ⟨c2', h⟩ | h
          · have := HOWN.out c2' b h; omega
          · omega))
        have HGK6 := hZ (HGK5.out.toGb.next HO5.out (fun cc b hc => by
          rcases HOWN5.out cc b hc with ⟨c2', h⟩ | h
          · exact ⟨by have := HOWN.out c2' b h; omega, HV3.out c2' b h⟩
          · refine ⟨by omega, fun e => ?_⟩;have := Kd.R_lt HGK3.out.E b e;omega) hXP.2 hXP.1)
        clear hws x0 x1 x2 x3 x4 f0 f1 f2 f3 f4 y0 y1 y2 y3 y4 hXP;go_roundg f
        case measure => omega
        case rel => exact ⟨nk + k, l2, q1, ek ++ ev1, o2.A, o2.c, o2.A2, o2.c2, A6, c6, by omega, by omega, hsk2, by (rw [List.length_append]; omega), hZ (by rw [HFK.out]; simp only [List.append_assoc]), HI2, HGK6⟩
      · have gk : decide (k > 0) = false := by simpa using hk
        obtain ⟨htk1, htk2⟩ := htick (by omega);rw [if_neg hk] at HFK;have DK := fun wx (hO : Own wx B l1 q1 o1) => tick_calls M nk o1.A l1 o1.c o1.A2 q1 o1.c2 A5 c5 B wx hO.old hO.rd htk1
        unfold TickP stV at DK;have HI2 := hZ htk2;have hfew := htf l1 q1 hl1 htk1;generalize tickL M nk l1 q1 = tk at *;obtain ⟨l2, q2, ev2⟩ := tk;dsimp only at DK HI2 hfew HFK;clear hskip htick htk1 htk2 htf
        go_upto_region 14 with (first
          | (go_at_call 59; (with_reducible refine DW.mono ?_); rintro e w4 ⟨rfl, hB4⟩; have HB4 := hZ hB4; obtain ⟨y0, y1, y2, y3, y4⟩ := stX_cells (blk_below HT93.out hB4); clear hB4)
          | (go_at_call 61; (with_reducible refine (DK _ (HO3.out.below HB4.out)).mono ?_); rintro e w5 ⟨o2, A6, c6, v2, rfl, hO5, hown5, hR5, hB5⟩; obtain ⟨AM, cM, rfl, _, hCM⟩ := Kd.R_reads hR5; rw [List.length_map] at hCM; have HVO := hZ hR5.1; have HV5 := hZ (fun b (h : (Value.slice AM (ev2.map Ev.cells).length cM).ownBlock = some b) => And.intro (Kd.R_base hR5 b h) (Kd.R_lt hR5 b h)); have HCM := hZ hCM; have HGK5 := hZ ((HGK3.out.below HB4.out).below hB5); have HT95 := hZ (blk_below (blk_below HT93.out HB4.out) hB5); obtain ⟨x0, x1, x2, x3, x4⟩ := stX_cells HT95.out; have f0 := blk_frozen HT95.out 0; have f1 := blk_frozen HT95.out 1; have f2 := blk_frozen HT95.out 2; have f3 := blk_frozen HT95.out 3; have f4 := blk_frozen HT95.out 4; have HO5 := hZ hO5; have HOWN5 := hZ hown5; have HB5 := hZ hB5; clear hO5 hown5 hB5 hR5 hCM))
        have hXP := stX_put HT95.out M (nk + 1) o2.A l2.length o2.c o2.A2 q2.length o2.c2 A6 c6;unfold put5 at hXP;generalize hws : World.setCell _ _ _ = w6 at *;have hs4 := HB4.out.size;have hs5 := HB5.out.size;have HO6 := hZ (HO5.out.keep hXP.2 (fun b e => by omega) (fun cc b hc e => by have := HOWN5.out cc b hc; omega))
        have HGB6 := hZ (HGK5.out.toGb.turn hXP.2 (fun b e => by
          subst e;refine ⟨by omega, fun e => ?_⟩;rcases HAT3.out with h | ⟨b2, h, hle⟩
          · rw [h] at e;have := HVL.out _ e;omega
          · rw [h] at e;injection e with e;omega))
        have HT96 := hZ hXP.1
        have HCM6 : Hid ((Kd.raw 4).C w6 AM ev2.length (ev2.map Ev.cells)) := hZ (raws_keep HCM.out hXP.2 (fun ad e h => by
          have := (HV5.out ad.block (by rw [e]; rfl)).1;omega))
        have HV9 : Hid (∀ b, v3.ownBlock = some b -> w.heap.size + 1 < b /\ b < w3.heap.size /\ b ≠ w1.heap.size) := hZ (fun b e => by
          refine ⟨HGK3.out.VB b e, Kd.R_lt HGK3.out.E b e, ?_⟩;rcases HAT3.out with h | ⟨b2, h, hle⟩
          · rw [h] at e;have := HVL.out _ e;omega
          · rw [h] at e;injection e with e;omega)
        have HW6 : Hid (∀ cc b, o2.own cc = some b -> b < w6.heap.size) := hZ (fun cc b hc => (HO6.out.bnd cc b hc).2);have hs6 := hXP.2.size;clear hws x0 x1 x2 x3 x4 f0 f1 f2 f3 f4 y0 y1 y2 y3 y4 hXP HGK5 HO5 HT95 HGK3 HO3 HCM
        go_wp2_with ((with_reducible refine gate_builtin (b := .append) (xs := #[.tmp 56, .tmp 57]) rfl ?_); at_builtin; refine Kd.R_append_rows (Kd.raw 4) (Rr := (Kd.raw 4).K w6) (okp := fun _ => False) (w0 := w6) w.heap.size rfl (.tmp 56) (.tmp 57) 48 67 (.agg #[.int .i64 0, .int .i64 0, .int .i64 0, .int .i64 0]) 32 rfl Tryz.underlying48 info67 rfl (by decide) (by omega) _ ((ek ++ ev1).map Ev.cells) (ev2.map Ev.cells) AM ev2.length cM (fun _ => True) rfl rfl HGB6.out.E HCM6.out (fun _ _ h => h) (fun _ h => h.elim) (fun _ _ => trivial) (Below.refl _ _) ?aS ?aL ?_; (case aS => (have := blk_lt HGB6.out.X; omega)); (case aL => (simp only [List.length_map, List.length_append]; omega)); intro v7 w7 hR7 hB7 hg7 hat7; have HT7 := hZ (grown_turn hg7); have HGB7 := hZ (HGB6.out.ev (grown_turn hg7) hR7 hat7); have HAT7 := hZ hat7; obtain ⟨z0, z1, z2, z3, z4⟩ := stX_cells ((HT7.out.block _ (blk_lt HT96.out) (fun e => by have := HV9.out _ e.symm; omega)).trans HT96.out); obtain ⟨x0, x1, x2, x3, x4⟩ := stX_cells HGB7.out.X; have f0 := blk_frozen HGB7.out.X 0; have f1 := blk_frozen HGB7.out.X 1; have f2 := blk_frozen HGB7.out.X 2; have f3 := blk_frozen HGB7.out.X 3; have f4 := blk_frozen HGB7.out.X 4; clear hR7 hB7 hg7 hat7)
        have hXP := stX_put HGB7.out.X M (nk + 1) o2.A l2.length o2.c o2.A2 q2.length o2.c2 A6 c6;unfold put5 at hXP;generalize hws : World.setCell _ _ _ = w8 at *;have HO7 := hZ (HO6.out.keep HT7.out (fun b e => by have := HV9.out _ e.symm; omega) (fun cc b hc e => by have := HV9.out _ e.symm; have := HOWN5.out cc b hc; omega))
        have HGK8 := hZ (HGB7.out.next HO7.out (fun cc b hc => ⟨by have := HOWN5.out cc b hc; omega, fun e => by
          have h5 := HOWN5.out cc b hc;have h6 := HW6.out cc b hc;rcases HAT7.out with h | ⟨b2, h, hle⟩
          · rw [h] at e;have := HV9.out _ e;omega
          · rw [h] at e;injection e with e;omega⟩) hXP.2 hXP.1)
        clear hws x0 x1 x2 x3 x4 f0 f1 f2 f3 f4 z0 z1 z2 z3 z4 hXP;go_roundg f
        case measure => omega
        case rel => exact ⟨nk + 1, l2, q2, ek ++ ev1 ++ ev2, o2.A, o2.c, o2.A2, o2.c2, A6, c6, by omega, by omega, by omega, by (rw [List.length_append, List.length_append]; omega), hZ (by rw [HFK.out]; simp only [List.append_assoc]), HI2, HGK8⟩
    · have glt : decide (nk < en) = false := by simpa using hlt
      have he : nk = en := by omega
      subst he;rw [goL_done _ _ _ _ _ _ hlt] at HFK;dsimp only at HFK;rw [List.append_nil] at HFK;obtain ⟨z0, z1, z2, z3, z4⟩ := stX_cells HGK.out.Z;have f0 := blk_frozen HGK.out.Z 0;have f1 := blk_frozen HGK.out.Z 1;have f2 := blk_frozen HGK.out.Z 2;have f3 := blk_frozen HGK.out.Z 3;have f4 := blk_frozen HGK.out.Z 4;have hXP := stX_put HGK.out.Z M nk A lk.length c A2 qk.length c2 A4 c4;unfold put5 at hXP;have HXP := hZ hXP;clear hXP;go_wp2;refine bodyPost_ret (results_ctt rfl _ _ (w.heap.size + 1) 47 (stX M nk A lk.length c A2 qk.length c2 A4 c4) (0, 0) _ rfl HXP.out.1 Tryz.underlying47 rfl (by kernel_rfl)) rfl ?_;generalize hwf : World.setCell _ _ _ = wf at *;clear hwf x0 x1 x2 x3 x4 z0 z1 z2 z3 z4 f0 f1 f2 f3 f4;have hK := HGK.out;have ht := HXP.out.2;obtain ⟨F, hF1, hF2⟩ := hK.R;have hN0 := hK.BN;rw [HFK.out];refine ⟨A, c, A2, c2, A4, c4, u7, rfl, F, hF1.keep ht (fun b e => ⟨fun h => by have := (hF2 b h).1; rcases this with h2 | h2; have := hK.F1 b h2; omega; omega, fun h => by have := B.lt b h; omega⟩), fun b h => ⟨?_, Nat.lt_of_lt_of_le (hF2 b h).2.1 ht.size, (hF2 b h).2.2⟩, ?_, ?_, HIK.out, ?_⟩
      · rcases (hF2 b h).1 with h2 | h2
        · exact .inl h2
        · exact .inr (by omega)
      · exact Kd.R_reok rfl (Kd.R_step (Kd.R_tight rfl hK.E) (fun b hb hlt => ht.block b hlt (fun e => by have := hK.VB b hb.symm; omega))) (fun _ _ => trivial)
      · show ek.length <= 300 * n.toNat;omega
      · exact Turn.below hK.Bl ht (fun b e => by omega) hK.Bl.size
def at_ (l : List S57) (k : Nat) : S57 := l.getD k z57
theorem at_lt {l : List S57} {k : Nat} (h : k < l.length) : at_ l k = l[k] := getD57 h
theorem at_set (l : List S57) (i : Nat) (x : S57) (k : Nat) : at_ (l.set i x) k = if k = i /\ i < l.length then x else at_ l k := by
 unfold at_;rw [List.getD_eq_getElem?_getD, List.getD_eq_getElem?_getD, List.getElem?_set];by_cases h : i = k
 ·subst h;by_cases h2 : i < l.length
  ·rw [if_pos rfl, if_pos h2, if_pos ⟨rfl, h2⟩]; rfl
  ·rw [if_pos rfl, if_neg h2, if_neg (fun e => h2 e.2), List.getElem?_eq_none (by omega)]
 ·rw [if_neg h, if_neg (fun e => h e.1.symm)]
theorem at_map (f : S57 -> S57) (hf : f z57 = z57) (l : List S57) (k : Nat) : at_ (l.map f) k = f (at_ l k) := by
 unfold at_;rw [List.getD_eq_getElem?_getD, List.getD_eq_getElem?_getD, List.getElem?_map]
 cases l[k]? with
 | none => exact hf.symm
 | some x => rfl
theorem list_at (l : List S57) : l = (List.range l.length).map (at_ l) := by
 apply List.ext_getElem
 ·simp
 ·intro k h1 h2;rw [List.getElem_map, List.getElem_range, at_lt h1]
theorem count_at (p : S57 -> Bool) (l : List S57) : l.countP p = (List.range l.length).countP (fun k => p (at_ l k)) := by
 conv => lhs; rw [list_at l]
 rw [List.countP_map];rfl
theorem count_mono {p p' : S57 -> Bool} {l l' : List S57} (hl : l'.length = l.length) (h : ∀ k, k < l.length -> p' (at_ l' k) = true -> p (at_ l k) = true) : l'.countP p' <= l.countP p := by
 rw [count_at, count_at p l, hl];exact List.countP_mono_left (fun k hk => h k (List.mem_range.1 hk))
theorem sorted_at {l : List S57} : Sorted l ↔ ∀ a b, a < b -> b < l.length -> (at_ l a).f0 < (at_ l b).f0 := by
 unfold Sorted;rw [List.pairwise_iff_getElem];constructor
 ·intro h a b hab hb;rw [at_lt (by omega), at_lt hb];exact h a b (by omega) hb hab
 ·intro h a b ha hb hab;have := h a b hab hb
  rwa [at_lt ha, at_lt hb] at this
theorem nodup_sub {l : List Nat} : ∀ {m : List Nat}, l.Nodup -> (∀ x ∈ l, x ∈ m) -> l.length <= m.length := by
 induction l with
 | nil => intro m _ _; simp
 | cons x r ih =>
  intro m hn hs;have h1 := hs x (by simp);have h2 := ih (m := m.erase x) (List.nodup_cons.1 hn).2 (fun y hy => (List.mem_erase_of_ne (fun e => by subst e; exact (List.nodup_cons.1 hn).1 hy)).2 (hs y (List.mem_cons_of_mem _ hy)));rw [List.length_erase_of_mem h1] at h2;have h3 := List.length_pos_of_mem h1;simp only [List.length_cons];omega
structure ServOk (now c : Int) (d : Prop) (ql : Nat) (x : S57) : Prop where
 cbs : CbsOk x.f1
 due : x.f1.f3 <= now + 2147483648
 ahead : x.f1.f4 ≠ 0 -> now <= x.f1.f3
 idle : x.f1.f4 = 0 -> x.f2 = [] /\ x.f3 = 0
 busy : x.f1.f4 ≠ 0 -> x.f2 ≠ []
 jlen : x.f2.length <= 8
 jobs : ∀ j ∈ x.f2, JobOk j /\ ∀ s ∈ j.f1, s.f0 <= ql
 rest : ∀ j ∈ x.f2.tail, j.f2 = 0 /\ j.f3 = 0
 sec : 0 <= x.f3 /\ x.f3 <= 2
 spin : x.f3 <= 1 -> 0 < (servStep x).f0 -> doneOf x = 0
 sem : x.f3 ≠ 0 -> 0 < (servStep x).f0
 secm : x.f3 ≠ 0 -> x.f1.f4 ≠ 0 /\ (x.f1.f2 ≠ 0 -> x.f1.f4 = 1)
 part : x.f1.f4 ≠ 0 -> ¬ d -> doneOf x < (servStep x).f1
 held : 0 <= x.f4 /\ x.f4 <= 1048576
 ran : 0 <= x.f6 /\ x.f6 <= now
 num : 0 <= x.f5 /\ x.f5 <= c
structure Rows (M now : Int) (wt : Nat -> Int) (D : Nat -> Prop) (l : List S57) (q : List S63) (R : Nat -> List Nat) : Prop where
 hold0 : ∀ n (h : n < q.length), q[n].f1 = 0 -> q[n].f2 = []
 ids : ∀ n (h : n < q.length), (if q[n].f1 = 0 then [] else q[n].f1 :: q[n].f2) = (R n).map (fun k => (at_ l k).f0)
 nodup : ∀ n, (R n).Nodup
 mem : ∀ n k, k ∈ R n ↔ k < l.length /\ (at_ l k).f3 ≠ 0 /\ (servStep (at_ l k)).f0 = (n : Int) + 1
 first : ∀ n k r, R n = k :: r -> (at_ l k).f3 = 2 /\ ∀ k' ∈ r, (at_ l k').f3 = 1
 most : ∀ n (h : n < q.length) k r, R n = k :: r -> (at_ l k).f4 <= q[n].f0 /\ (¬ D k -> (at_ l k).f4 < q[n].f0)
 time : ∀ n (h : n < q.length) (p k : Nat), (R n)[p]? = some k -> q[n].f0 - (at_ l ((R n).headD 0)).f4 + p * q[n].f0 <= (at_ l k).f1.f2 /\ q[n].f0 - (at_ l ((R n).headD 0)).f4 + p * q[n].f0 <= (at_ l k).f1.f3 - now
 wait : ∀ n (h : n < q.length) (p k : Nat), (R n)[p + 1]? = some k -> q[n].f0 - (at_ l ((R n).headD 0)).f4 + p * q[n].f0 <= (M - 1) * q[n].f0 - wt k
structure Inv (M now c : Int) (wt : Nat -> Int) (D : Nat -> Prop) (l : List S57) (q : List S63) (R : Nat -> List Nat) : Prop where
 sane : Sane M l
 now0 : 0 <= now
 now1 : now <= 1000000000
 qlen : q.length <= 8
 qmost : ∀ n (h : n < q.length), 1 <= q[n].f0 /\ q[n].f0 <= 1048576
 serv : ∀ k, k < l.length -> ServOk now c (D k) q.length (at_ l k)
 rows : Rows M now wt D l q R
theorem Sane.keep {M : Int} {l l' : List S57} (h : Sane M l) (hl : l'.length = l.length) (h0 : ∀ k, k < l.length -> (at_ l' k).f0 = (at_ l k).f0) (hf : ∀ k, k < l.length -> fixd (at_ l' k) = true -> fixd (at_ l k) = true) : Sane M l' where
 m1 := h.m1
 m2 := h.m2
 len := by have := h.len; omega
 sorted := by
  rw [sorted_at];intro a b hab hb;rw [h0 a (by omega), h0 b (by omega)];exact sorted_at.1 h.sorted a b hab (by omega)
 id := fun k hk => by
  have hk2 : k < l.length := by omega
  have := h.id k hk2;rw [<- at_lt hk, h0 k hk2, at_lt hk2];exact this
 fix := by
  have := h.fix;rw [fixes_count] at *;have h2 := count_mono (p := fixd) (p' := fixd) hl hf;omega
theorem Rows.keep {M now now' : Int} {wt : Nat -> Int} {D : Nat -> Prop} {l l' : List S57} {q : List S63} {R : Nat -> List Nat} (h : Rows M now wt D l q R) (hn : now' <= now) (hl : l'.length = l.length) (h0 : ∀ k, k < l.length -> (at_ l' k).f0 = (at_ l k).f0) (h3 : ∀ k, k < l.length -> (at_ l' k).f3 = (at_ l k).f3)
  (hs : ∀ k, k < l.length -> (at_ l k).f3 ≠ 0 -> (at_ l' k).f1 = (at_ l k).f1 /\ servStep (at_ l' k) = servStep (at_ l k) /\ (at_ l' k).f4 = (at_ l k).f4) : Rows M now' wt D l' q R := by
 have hm : ∀ n k, k ∈ R n -> k < l.length /\ (at_ l k).f3 ≠ 0 := fun n k hk => ⟨((h.mem n k).1 hk).1, ((h.mem n k).1 hk).2.1⟩
 have hh : ∀ n (p k : Nat), (R n)[p]? = some k -> (at_ l' ((R n).headD 0)).f4 = (at_ l ((R n).headD 0)).f4 := by
  intro n p k hp
  cases hr : R n with
  | nil => rw [hr] at hp; simp at hp
  | cons a r =>
   have := hm n a (by rw [hr]; simp);exact (hs a this.1 this.2).2.2
 refine ⟨h.hold0, fun n hn => ?_, h.nodup, fun n k => ?_, fun n k r e => ?_, fun n hn k r e => ?_, fun n hn2 p k hp => ?_, fun n hn2 p k hp => ?_⟩
 ·rw [h.ids n hn];exact List.map_congr_left (fun k hk => (h0 k (hm n k hk).1).symm)
 ·rw [h.mem n k, hl];constructor
  ·rintro ⟨a, b, e⟩; exact ⟨a, by rw [h3 k a]; exact b, by rw [(hs k a b).2.1]; exact e⟩
  ·rintro ⟨a, b, e⟩; rw [h3 k a] at b; rw [(hs k a b).2.1] at e; exact ⟨a, b, e⟩
 ·have h1 := h.first n k r e;have hk := hm n k (by rw [e]; simp);exact ⟨by rw [h3 k hk.1]; exact h1.1, fun k' hk' => by rw [h3 k' (hm n k' (by rw [e]; exact List.mem_cons_of_mem _ hk')).1]; exact h1.2 k' hk'⟩
 ·have hk := hm n k (by rw [e]; simp);rw [(hs k hk.1 hk.2).2.2];exact h.most n hn k r e
 ·have hk := hm n k (List.mem_of_getElem? hp);rw [hh n p k hp, (hs k hk.1 hk.2).1];have := h.time n hn2 p k hp;exact ⟨this.1, by omega⟩
 ·rw [hh n _ k hp];exact h.wait n hn2 p k hp
section
variable {M now c : Int} {wt : Nat -> Int} {D : Nat -> Prop} {l : List S57} {q : List S63} {R : Nat -> List Nat}
theorem Inv.mok (h : Inv M now c wt D l q R) (hq : ∀ n (hn : n < q.length), (R n).length <= 12) : MOk M now l q where
  sane := h.sane
  now0 := h.now0
  now1 := by have := h.now1; omega
  cbs := fun k hk => by have := (h.serv k hk).cbs; rwa [at_lt hk] at this
  job := fun k hk => by have := (h.serv k hk).jobs; rwa [at_lt hk] at this
  jlen := fun k hk => by have := (h.serv k hk).jlen; rwa [at_lt hk] at this
  mode := fun k hk => by have := (h.serv k hk).busy; rwa [at_lt hk] at this
  qlen := h.qlen
  most := h.qmost
  room := fun n hn => by
    have h1 := h.rows.ids n hn;have h2 := congrArg List.length h1;rw [List.length_map] at h2;have h3 := hq n hn;by_cases e : q[n].f1 = 0
    · rw [h.rows.hold0 n hn e]; simp
    · rw [if_neg e] at h2; simp at h2; omega
theorem Inv.row_len (h : Inv M now c wt D l q R) (n : Nat) : (R n).length <= 12 := by
  have h1 := nodup_sub (m := List.range l.length) (h.rows.nodup n) (fun k hk => List.mem_range.2 ((h.rows.mem n k).1 hk).1);rw [List.length_range] at h1;have := h.sane.len;omega
theorem upT_win {t d p : Int} (hp : 1 <= p) (hd : d <= t) : t < upT t d p /\ upT t d p <= t + p := by
  exact ⟨upT_gt hp, upT_le hp⟩
theorem ServOk.turn {d : Prop} {ql : Nat} {x : S57} (h : ServOk now c d ql x) (h0 : 0 <= now) (h1 : now <= 1000000000) : ServOk now c d ql (turn1 now x) := by
  unfold turn1;by_cases ht : turnsB now x = true
  · rw [if_pos ht];unfold turnsB at ht;simp only [Bool.and_eq_true, decide_eq_true_eq] at ht;obtain ⟨⟨hm, h3⟩, hd⟩ := ht;have hc := turnS_ok h.cbs h0 (by omega) hd;have hp : 1 <= x.f1.f1 := by have := h.cbs.q1; have := h.cbs.qp; omega
    have hu := upT_win hp hd;have hpm := h.cbs.pm;have hq := h.cbs.q1
    exact { cbs := hc
            due := by show upT now x.f1.f3 x.f1.f1 <= _; omega
            ahead := fun _ => by show now <= upT now x.f1.f3 x.f1.f1; omega
            idle := fun e => by
              exfalso;have e2 : (if x.f1.f0 = 0 then (2 : Int) else 1) = 0 := e;rw [if_neg (by omega)] at e2;exact absurd e2 (by decide)
            busy := fun _ => h.busy hm
            jlen := h.jlen, jobs := h.jobs, rest := h.rest, sec := h.sec, spin := h.spin, sem := h.sem
            secm := fun e => absurd h3 e
            part := fun _ => h.part hm
            held := h.held, ran := h.ran, num := h.num }
  · rw [if_neg ht]; exact h
theorem turn1_z (now : Int) : turn1 now z57 = z57 := by
  unfold turn1 turnsB;rw [if_neg (by simp [z57, z54])]
theorem turn_at (now : Int) (l : List S57) (k : Nat) : at_ (turnL now l) k = turn1 now (at_ l k) := at_map _ (turn1_z now) l k
theorem turn1_f0 (now : Int) (x : S57) : (turn1 now x).f0 = x.f0 /\ (turn1 now x).f2 = x.f2 /\ (turn1 now x).f3 = x.f3 /\ (turn1 now x).f4 = x.f4 := by
  unfold turn1; split <;> exact ⟨rfl, rfl, rfl, rfl⟩
theorem turn1_sec (now : Int) (x : S57) (h : x.f3 ≠ 0) : turn1 now x = x := by
  unfold turn1 turnsB;rw [if_neg (by simp [h])]
theorem turn1_due {now : Int} {x : S57} (h : x.f1.f4 ≠ 0) (hs : x.f3 ≠ 0 -> now < x.f1.f3) (hc : CbsOk x.f1) : now < (turn1 now x).f1.f3 := by
  unfold turn1;by_cases ht : turnsB now x = true
  · rw [if_pos ht];unfold turnsB at ht;simp only [Bool.and_eq_true, decide_eq_true_eq] at ht;exact (upT_win (by have := hc.q1; have := hc.qp; omega) ht.2).1
  · rw [if_neg ht];unfold turnsB at ht;simp only [Bool.and_eq_true, decide_eq_true_eq, not_and] at ht;by_cases h3 : x.f3 = 0
    · have := ht ⟨h, h3⟩; omega
    · exact hs h3
theorem Inv.turn (h : Inv M now c wt D l q R) : Inv M now c wt D (turnL now l) q R where
  sane := h.sane.keep (turnL_len now l) (fun k _ => by rw [turn_at, (turn1_f0 now _).1]) (fun k _ hf => by
    rw [turn_at] at hf;unfold fixd at hf |-;simp only [Bool.and_eq_true, bne_iff_ne, ne_eq, beq_iff_eq] at hf |-;rw [(turn1_f0 now _).2.2.1] at hf;rw [turn1_sec now _ hf.2] at hf;exact hf)
  now0 := h.now0
  now1 := h.now1
  qlen := h.qlen
  qmost := h.qmost
  serv := fun k hk => by
    rw [turnL_len] at hk;rw [turn_at];exact (h.serv k hk).turn h.now0 h.now1
  rows := h.rows.keep (Int.le_refl _) (turnL_len now l) (fun k _ => by rw [turn_at, (turn1_f0 now _).1]) (fun k _ => by rw [turn_at, (turn1_f0 now _).2.2.1]) (fun k _ e => by rw [turn_at, turn1_sec now _ e]; exact ⟨rfl, rfl, rfl⟩)
theorem Inv.fixed_due (h : Inv M now c wt D l q R) {k : Nat} (hk : k < l.length) (h3 : (at_ l k).f3 ≠ 0) : ∃ n, ∃ (hn : n < q.length), k ∈ R n /\ ((∀ a r, R n = a :: r -> ¬ D a) -> now < (at_ l k).f1.f3 /\ 0 < (at_ l k).f1.f2) := by
  have hs := h.serv k hk;have h1 := hs.sem h3;have hb := hs.busy (hs.secm h3).1
  cases hx : (at_ l k).f2 with
  | nil => exact absurd hx hb
  | cons j js =>
    have hj := hs.jobs j (by rw [hx]; simp);have hst : servStep (at_ l k) = stepOf j := by unfold servStep; rw [hx]; rfl
    have hle : (servStep (at_ l k)).f0 <= q.length := by
      rw [hst];refine hj.2 _ ?_;unfold stepOf;have h2 := hj.1.at0;have h4 := hj.1.atl;obtain ⟨t, ht⟩ : ∃ t : Nat, j.f2 = t := ⟨j.f2.toNat, by omega⟩;rw [ht] at h4 |-;have ht2 : t < j.f1.length := by omega
      rw [show rd_T72 j.f1 (t : Int) = j.f1[t] by simp [rd_T72, ht2]];exact List.getElem_mem ht2
    obtain ⟨n, hn⟩ : ∃ n : Nat, (servStep (at_ l k)).f0 = (n : Int) + 1 := ⟨((servStep (at_ l k)).f0 - 1).toNat, by omega⟩;have hnq : n < q.length := by omega
    have hmem : k ∈ R n := (h.rows.mem n k).2 ⟨hk, h3, hn⟩;refine ⟨n, hnq, hmem, fun hD => ?_⟩;obtain ⟨p, hp⟩ := List.mem_iff_getElem?.1 hmem;have ht := h.rows.time n hnq p k hp;have hq := h.qmost n hnq
    cases hR : R n with
    | nil => rw [hR] at hmem; simp at hmem
    | cons a r =>
      have hh := (h.rows.most n hnq a r hR).2 (hD a r hR);rw [hR] at ht;simp only [List.headD_cons] at ht;have hp0 : 0 <= (p : Int) * q[n].f0 := Int.mul_nonneg (by omega) (by omega);omega
end
theorem countP_lt {α : Type} {p p' : α -> Bool} {l : List α} (h : ∀ x ∈ l, p x = true -> p' x = true) {x : α} (hx : x ∈ l) (h1 : p' x = true) (h2 : p x = false) : l.countP p < l.countP p' := by
  induction l with
  | nil => simp at hx
  | cons a r ih =>
    simp only [List.countP_cons];have hle : r.countP p <= r.countP p' := List.countP_mono_left (fun y hy => h y (List.mem_cons_of_mem _ hy));rcases List.mem_cons.1 hx with rfl | hr
    · rw [h1, h2]; simp; omega
    · have h3 := ih (fun y hy => h y (List.mem_cons_of_mem _ hy)) hr;have h4 := h a (by simp);by_cases ha : p a = true
      · rw [ha, h4 ha]; simpa using h3
      · have ha2 : p a = false := by simpa using ha
        rw [ha2];simp only [Bool.false_eq_true, if_false, Nat.add_zero];split <;> omega
section
variable {M now c : Int} {wt : Nat -> Int} {D : Nat -> Prop} {l : List S57} {q : List S63} {R : Nat -> List Nat}
def Open (now : Int) (l : List S57) : Prop := ∀ k, k < l.length -> (at_ l k).f1.f4 ≠ 0 -> now < (at_ l k).f1.f3
theorem Inv.wait (h : Inv M now c wt D l q R) {i : Nat} (hi : i < l.length) (hm : (at_ l i).f1.f4 = 1) (h3 : (at_ l i).f3 = 0) : Inv M now c wt D (waitAt l i) q R := by
  have e : waitAt l i = l.set i { at_ l i with f1 := { (at_ l i).f1 with f4 := 2 } } := rfl
  have hat : ∀ k, at_ (waitAt l i) k = if k = i then { at_ l i with f1 := { (at_ l i).f1 with f4 := 2 } } else at_ l k := fun k => by
    rw [e, at_set];by_cases hk : k = i
    · rw [if_pos ⟨hk, hi⟩, if_pos hk]
    · rw [if_neg (fun h => hk h.1), if_neg hk]
  have hs := h.serv i hi;obtain ⟨a1, a2, a3, a4, a5, a6, a7, a8, a9, a10⟩ := hs.cbs;refine ⟨h.sane.keep (waitAt_len l i) (fun k hk => ?_) (fun k hk hf => ?_), h.now0, h.now1, h.qlen, h.qmost, fun k hk => ?_, h.rows.keep (Int.le_refl _) (waitAt_len l i) (fun k hk => ?_) (fun k hk => ?_) (fun k hk h0 => ?_)⟩
  · rw [hat]; split
    · subst_vars; rfl
    · rfl
  · rw [hat] at hf;by_cases hk : k = i
    · rw [if_pos hk] at hf; simp [fixd] at hf
    · rwa [if_neg hk] at hf
  · rw [waitAt_len] at hk;rw [hat];by_cases hki : k = i
    · subst hki;rw [if_pos rfl]
      exact { cbs := ⟨a1, a2, a3, a4, a5, a6, a7, by show (0 : Int) <= 2; decide, by show (2 : Int) <= 2; decide, fun h => absurd h (by show ¬ (2 : Int) = 1; decide)⟩
              due := hs.due
              ahead := fun _ => hs.ahead (by rw [hm]; decide)
              idle := fun e => absurd e (by show ¬ (2 : Int) = 0; decide)
              busy := fun _ => hs.busy (by rw [hm]; decide)
              jlen := hs.jlen, jobs := hs.jobs, rest := hs.rest, sec := hs.sec, spin := hs.spin, sem := hs.sem
              secm := fun e => absurd h3 e
              part := fun _ => hs.part (by rw [hm]; decide)
              held := hs.held, ran := hs.ran, num := hs.num }
    · rw [if_neg hki]; exact h.serv k hk
  · rw [hat]; split
    · subst_vars; rfl
    · rfl
  · rw [hat]; split
    · subst_vars; rfl
    · rfl
  · rw [hat];by_cases hki : k = i
    · subst hki; exact absurd h3 h0
    · rw [if_neg hki]; exact ⟨rfl, rfl, rfl⟩
theorem wait_open (h : Open now l) {i : Nat} (hi : i < l.length) (hm : (at_ l i).f1.f4 = 1) : Open now (waitAt l i) := by
  intro k hk hk2;rw [waitAt_len] at hk;have e : waitAt l i = l.set i { at_ l i with f1 := { (at_ l i).f1 with f4 := 2 } } := rfl;rw [e, at_set] at hk2 |-;by_cases hki : k = i
  · subst hki;rw [if_pos ⟨rfl, hi⟩];exact h k hk (by rw [hm]; decide)
  · rw [if_neg (fun h => hki h.1)] at hk2 |-;exact h k hk hk2
theorem asks_at (hs : Sorted l) {p : Nat × Int} (h : p ∈ asksL M l) : p.1 < l.length /\ (at_ l p.1).f1.f4 = 1 /\ (at_ l p.1).f3 = 0 /\ p.2 = (servStep (at_ l p.1)).f0 /\ 0 < p.2 := by
  obtain ⟨hi, h1, h2, h3, h4⟩ := asks_mem hs h;rw [at_lt hi];exact ⟨hi, h1, h2, h3, h4⟩
theorem readies_le (l : List S57) : readies l <= l.length := List.countP_le_length
theorem Inv.refuse : ∀ (n : Nat) (l : List S57), Inv M now c wt D l q R -> Open now l -> readies l < n -> Inv M now c wt D (refAll n M now l q).1 q R /\ Open now (refAll n M now l q).1 /\ refuseL M now (refAll n M now l q).1 q = none := by
  intro n
  induction n with
  | zero => intro l _ _ hn; omega
  | succ n ih =>
    intro l h ho hn;unfold refAll
    cases hr : refuseL M now l q with
    | none => exact ⟨h, ho, hr⟩
    | some p =>
      have hp : p ∈ asksL M l := List.mem_of_find?_eq_some hr;obtain ⟨h1, h2, h3, h4, h5⟩ := asks_at h.sane.sorted hp;have h6 := readies_wait h1 (by rw [<- at_lt h1]; exact h2);exact ih _ (h.wait h1 h2 h3) (wait_open ho h1 h2) (by omega)
def rk (l : List S57) (x : S57) : Nat := l.countP (fun y => (y.f1.f4 == 1) && (entOf y).ltB (entOf x))
theorem rank_rk (l : List S57) (x : S57) : rank (readyL l) (entOf x) = rk l x := by
  unfold rank readyL rk;rw [List.countP_map, List.countP_filter];congr 1;funext y;simp [Bool.and_comm]
theorem mem_places (hs : Sorted l) {k : Nat} : k ∈ placesOf M l ↔ k < l.length /\ (at_ l k).f1.f4 = 1 /\ (rk l (at_ l k) : Int) < M := by
  unfold placesOf runsL pickL pickE;constructor
  · intro h;obtain ⟨id, hid, e⟩ := List.mem_map.1 h;obtain ⟨en, hen, rfl⟩ := List.mem_map.1 hid;obtain ⟨h1, h2⟩ := List.mem_filter.1 hen;unfold readyL at h1;obtain ⟨x, hx, rfl⟩ := List.mem_map.1 h1;obtain ⟨hx1, hx2⟩ := List.mem_filter.1 hx;obtain ⟨i, hi, rfl⟩ := List.mem_iff_getElem.1 hx1;have e2 : ahead l (entOf l[i]).id = i := ahead_at hs hi;rw [e2] at e;subst e;rw [at_lt hi];rw [rank_rk] at h2;exact ⟨hi, by simpa using hx2, by simpa using h2⟩
  · rintro ⟨hk, hm, hr⟩;rw [at_lt hk] at hm hr;refine List.mem_map.2 ⟨l[k].f0, List.mem_map.2 ⟨entOf l[k], List.mem_filter.2 ⟨?_, ?_⟩, rfl⟩, ahead_at hs hk⟩
    · unfold readyL;exact List.mem_map.2 ⟨l[k], List.mem_filter.2 ⟨List.getElem_mem hk, by simpa using hm⟩, rfl⟩
    · rw [rank_rk]; simpa using hr
theorem fixed_runs (h : Sane M l) {k : Nat} (hk : k < l.length) (hf : fixd (at_ l k) = true) : k ∈ placesOf M l := by
  rw [mem_places h.sorted];have hf2 := hf;unfold fixd at hf2;simp only [Bool.and_eq_true, beq_iff_eq, bne_iff_ne, ne_eq] at hf2;refine ⟨hk, hf2.1, ?_⟩
  have h1 : rk l (at_ l k) < l.countP fixd := by
    rw [at_lt hk] at hf |-;refine countP_lt (x := l[k]) (fun y _ hy => ?_) (List.getElem_mem hk) hf ?_
    · simp only [Bool.and_eq_true] at hy
      have hf3 : (entOf l[k]).fixed = true := by
        unfold fixd at hf;simp only [Bool.and_eq_true] at hf;exact hf.2
      have h5 := hy.2;unfold Ent.ltB at h5;rw [hf3] at h5;simp only [Bool.not_true, Bool.and_false, Bool.false_or, Bool.and_eq_true, beq_iff_eq] at h5;unfold fixd;rw [hy.1];simp only [Bool.true_and];exact h5.1
    · have h6 : (entOf l[k]).ltB (entOf l[k]) = false := by
        unfold Ent.ltB;simp
      rw [h6];simp
  have := h.fix;rw [fixes_count] at this;omega
theorem mem_asks (hs : Sorted l) {p : Nat × Int} : p ∈ asksL M l ↔ p.1 ∈ placesOf M l /\ asksB (at_ l p.1) = true /\ p.2 = (servStep (at_ l p.1)).f0 := by
  unfold asksL asksOf placesOf;rw [List.mem_filterMap];constructor
  · rintro ⟨i, hi, e⟩;by_cases ha : asksB (l.getD i z57) = true
    · rw [if_pos ha] at e;injection e with e;subst e;exact ⟨hi, ha, rfl⟩
    · rw [if_neg ha] at e; cases e
  · rintro ⟨h1, h2, h3⟩;exact ⟨p.1, h1, by rw [show asksB (l.getD p.1 z57) = true from h2, if_pos rfl]; exact congrArg some (Prod.ext rfl h3.symm)⟩
end
theorem job_step {j : S125} (h : JobOk j) : stepOf j ∈ j.f1 := by
  have h2 := h.at0;have h4 := h.atl;obtain ⟨t, ht⟩ : ∃ t : Nat, j.f2 = t := ⟨j.f2.toNat, by omega⟩;unfold stepOf;rw [ht] at h4 |-;have ht2 : t < j.f1.length := by omega
  rw [show rd_T72 j.f1 (t : Int) = j.f1[t] by simp [rd_T72, ht2]];exact List.getElem_mem ht2
theorem good_step {p : List S72} (h : pgoodB p = true) {s : S72} (hs : s ∈ p) : poddB s = false := by
  unfold pgoodB at h;simp only [Bool.and_eq_true, Bool.not_eq_true'] at h;have := h.2;rw [List.any_eq_false] at this;simpa using this s hs
section
variable {M now c : Int} {wt : Nat -> Int} {D : Nat -> Prop} {l : List S57} {q : List S63} {R : Nat -> List Nat}
theorem ServOk.head {d : Prop} {ql : Nat} {x : S57} (h : ServOk now c d ql x) (hb : x.f2 ≠ []) : ∃ j js, x.f2 = j :: js /\ JobOk j /\ (∀ s ∈ j.f1, s.f0 <= ql) /\ servStep x = stepOf j /\ doneOf x = j.f3 := by
  cases hx : x.f2 with
  | nil => exact absurd hx hb
  | cons j js =>
    have hj := h.jobs j (by rw [hx]; simp);exact ⟨j, js, rfl, hj.1, hj.2, by unfold servStep; rw [hx]; rfl, by unfold doneOf; rw [hx]; rfl⟩
theorem ServOk.step_le {d : Prop} {ql : Nat} {x : S57} (h : ServOk now c d ql x) (hb : x.f2 ≠ []) : (servStep x).f0 <= ql := by
  obtain ⟨j, js, _, hj, hq, hs, _⟩ := h.head hb;rw [hs];exact hq _ (job_step hj)
theorem Inv.row_fixed (h : Inv M now c wt (fun _ => False) l q R) (n : Nat) {k : Nat} (hk : k ∈ R n) : k < l.length /\ fixd (at_ l k) = true := by
  have hm := (h.rows.mem n k).1 hk;obtain ⟨n', hn', _, ht⟩ := h.fixed_due hm.1 hm.2.1;have h2 := ht (fun _ _ _ => id);have h3 := ((h.serv k hm.1).secm hm.2.1).2 (by omega);refine ⟨hm.1, ?_⟩;unfold fixd;simp [h3, hm.2.1]
theorem Inv.row_count (h : Inv M now c wt (fun _ => False) l q R) (n : Nat) : (R n).length <= l.countP fixd := by
  have h1 := nodup_sub (m := (List.range l.length).filter (fun k => fixd (at_ l k))) (h.rows.nodup n) (fun k hk => by
    have := h.row_fixed n hk;exact List.mem_filter.2 ⟨List.mem_range.2 this.1, this.2⟩)
  rw [count_at];rw [List.countP_eq_length_filter];exact h1
theorem countP_set_succ {p : S57 -> Bool} {l : List S57} : ∀ {i : Nat} {x : S57}, (l.set i x).countP p <= l.countP p + 1 := by
  induction l with
  | nil => simp
  | cons a r ih =>
    intro i x
    cases i with
    | zero =>
      simp only [List.set_cons_zero, List.countP_cons];split <;> split <;> omega
    | succ i =>
      simp only [List.set_cons_succ, List.countP_cons];have := ih (i := i) (x := x);omega
theorem grant1_eq (now : Int) (l : List S57) (q : List S63) (ev : List Ev) (i : Nat) {k : Nat} (hk : k < q.length) : grant1 now (l, q, ev) (i, (k : Int) + 1) = if q[k].f1 ≠ 0 then (l.set i { at_ l i with f3 := 1 }, q.set k { q[k] with f2 := q[k].f2 ++ [(at_ l i).f0] }, ev) else (l.set i { at_ l i with f3 := 2, f4 := 0 }, q.set k { q[k] with f1 := (at_ l i).f0, f3 := false }, ev ++ (if q[k].f3 then [⟨now, 7, (at_ l i).f0, 0⟩] else []) ++ [⟨now, 6, (at_ l i).f0, (k : Int) + 1⟩]) := by
  have e1 : ((k : Int) + 1 - 1).toNat = k := by omega
  have e2 : q.getD k z63 = q[k] := by simp [hk]
  unfold grant1;simp only [e1, e2];rfl
def pushR (R : Nat -> List Nat) (k i : Nat) : Nat -> List Nat := fun n => if n = k then R k ++ [i] else R n
theorem Inv.grant (h : Inv M now c wt (fun _ => False) l q R) (ho : Open now l) {i k : Nat} (hi : i < l.length) (hm : (at_ l i).f1.f4 = 1) (h3 : (at_ l i).f3 = 0) (hs : (servStep (at_ l i)).f0 = (k : Int) + 1) (hk : k < q.length) (hb : M * q[k].f0 <= (at_ l i).f1.f2) (hd : M * q[k].f0 <= (at_ l i).f1.f3 - now) (hc : (l.countP fixd : Int) + 1 <= M) (hw : wt i <= 0) (ev : List Ev) :
    Inv M now c wt (fun _ => False) (grant1 now (l, q, ev) (i, (k : Int) + 1)).1 (grant1 now (l, q, ev) (i, (k : Int) + 1)).2.1 (pushR R k i) := by
  have hser := h.serv i hi;have hqm := h.qmost k hk;have hids := h.rows.ids k hk;have hi0 : (at_ l i).f0 ≠ 0 := by have := h.sane.id i hi; rw [at_lt hi]; omega
  obtain ⟨x, sec, hl', hf0, hf1, hf2, hf3, hf4, hf56, hsec⟩ : ∃ (x : S57) (sec : Int), (grant1 now (l, q, ev) (i, (k : Int) + 1)).1 = l.set i x /\ x.f0 = (at_ l i).f0 /\ x.f1 = (at_ l i).f1 /\ x.f2 = (at_ l i).f2 /\ x.f3 = sec /\ (x.f4 = if sec = 2 then 0 else (at_ l i).f4) /\ (x.f5 = (at_ l i).f5 /\ x.f6 = (at_ l i).f6) /\ sec = (if q[k].f1 ≠ 0 then 1 else 2) := by
    rw [grant1_eq now l q ev i hk];by_cases e : q[k].f1 ≠ 0
    · rw [if_pos e];exact ⟨_, 1, rfl, rfl, rfl, rfl, rfl, by rw [if_neg (by decide)], ⟨rfl, rfl⟩, by rw [if_pos e]⟩
    · rw [if_neg e];exact ⟨_, 2, rfl, rfl, rfl, rfl, rfl, by rw [if_pos rfl], ⟨rfl, rfl⟩, by rw [if_neg e]⟩
  obtain ⟨y, hq', hy0, hy1, hy2⟩ : ∃ y : S63, (grant1 now (l, q, ev) (i, (k : Int) + 1)).2.1 = q.set k y /\ y.f0 = q[k].f0 /\ (y.f1 = if q[k].f1 ≠ 0 then q[k].f1 else (at_ l i).f0) /\ (y.f2 = if q[k].f1 ≠ 0 then q[k].f2 ++ [(at_ l i).f0] else q[k].f2) := by
    rw [grant1_eq now l q ev i hk];by_cases e : q[k].f1 ≠ 0
    · rw [if_pos e, if_pos e, if_pos e];exact ⟨_, rfl, rfl, rfl, rfl⟩
    · rw [if_neg e, if_neg e, if_neg e];exact ⟨_, rfl, rfl, rfl, rfl⟩
  rw [hl', hq']
  have hat : ∀ k', at_ (l.set i x) k' = if k' = i then x else at_ l k' := fun k' => by
    rw [at_set];by_cases e : k' = i
    · rw [if_pos ⟨e, hi⟩, if_pos e]
    · rw [if_neg (fun h => e h.1), if_neg e]
  have hss : servStep x = servStep (at_ l i) := by unfold servStep; rw [hf2]
  have hdn : doneOf x = doneOf (at_ l i) := by unfold doneOf; rw [hf2]
  have hsec1 : sec = 1 \/ sec = 2 := by rw [hsec]; split <;> simp
  have hnil : q[k].f1 = 0 ↔ R k = [] := by
    constructor
    · intro e;rw [if_pos e] at hids;exact List.map_eq_nil_iff.1 hids.symm
    · intro e;rw [e] at hids;by_cases e2 : q[k].f1 = 0
      · exact e2
      · rw [if_neg e2] at hids; simp at hids
  have hsec2 : R k = [] -> sec = 2 := fun e => by rw [hsec, if_neg (fun hc => hc (hnil.2 e))]
  have hni : ∀ n, i ∉ R n := fun n hmem => ((h.rows.mem n i).1 hmem).2.1 h3
  have hne : ∀ n k', k' ∈ R n -> k' ≠ i := fun n k' hmem e => hni n (e ▸ hmem)
  refine ⟨?_, h.now0, h.now1, by rw [List.length_set]; exact h.qlen, fun n hn => ?_, fun k' hk' => ?_, ?_⟩
  · refine ⟨h.sane.m1, h.sane.m2, by rw [List.length_set]; exact h.sane.len, ?_, ?_, ?_⟩
    · rw [sorted_at];intro a b hab hb2;rw [List.length_set] at hb2;have e : ∀ k', (at_ (l.set i x) k').f0 = (at_ l k').f0 := fun k' => by rw [hat]; split <;> simp_all
      rw [e, e];exact sorted_at.1 h.sane.sorted a b hab hb2
    · intro k' hk';have hk2 : k' < l.length := by simpa using hk'
      rw [<- at_lt hk', hat];split
      · rw [hf0, at_lt hi]; exact h.sane.id i hi
      · rw [at_lt hk2]; exact h.sane.id k' hk2
    · rw [fixes_count];have : (l.set i x).countP fixd <= l.countP fixd + 1 := countP_set_succ;omega
  · rw [List.getElem_set];split
    · subst_vars; rw [hy0]; exact hqm
    · exact h.qmost n (by simpa using hn)
  · rw [List.length_set] at hk';rw [hat];by_cases e : k' = i
    · subst e;rw [if_pos rfl];rw [List.length_set]
      exact { cbs := by rw [hf1]; exact hser.cbs
              due := by rw [hf1]; exact hser.due
              ahead := by rw [hf1]; exact hser.ahead
              idle := fun e => by rw [hf1, hm] at e; exact absurd e (by decide)
              busy := by rw [hf1, hf2]; exact hser.busy
              jlen := by rw [hf2]; exact hser.jlen
              jobs := by rw [hf2]; exact hser.jobs
              rest := by rw [hf2]; exact hser.rest
              sec := by rw [hf3]; omega
              spin := fun _ => by rw [hss, hdn]; exact hser.spin (by omega)
              sem := fun _ => by rw [hss, hs]; omega
              secm := fun _ => by rw [hf1, hm]; exact ⟨by decide, fun _ => rfl⟩
              part := fun _ => by rw [hss, hdn]; exact hser.part (by rw [hm]; decide)
              held := by rw [hf4]; split; (· decide); exact hser.held
              ran := by rw [hf56.2]; exact hser.ran
              num := by rw [hf56.1]; exact hser.num }
    · rw [if_neg e, List.length_set]; exact h.serv k' hk'
  · have hrow : ∀ n, n ≠ k -> pushR R k i n = R n := fun n e => if_neg e
    have hrowk : pushR R k i k = R k ++ [i] := if_pos rfl;have hold : ∀ n k', k' ∈ R n -> at_ (l.set i x) k' = at_ l k' := fun n k' hmem => by rw [hat, if_neg (hne n k' hmem)]
    have hcnt := h.row_count k;have hqn : ∀ n (hn : n < (q.set k y).length), n ≠ k -> (q.set k y)[n] = q[n]'(by simpa using hn) := fun n hn e => by rw [List.getElem_set, if_neg (fun e2 => e e2.symm)]
    have hqk : ∀ (hn : k < (q.set k y).length), (q.set k y)[k] = y := fun hn => by rw [List.getElem_set, if_pos rfl]
    refine ⟨fun n hn e => ?_, fun n hn => ?_, fun n => ?_, fun n k' => ?_, fun n a r e => ?_, fun n hn a r e => ?_, fun n hn p a hp => ?_, fun n hn p a hp => ?_⟩
    · by_cases en : n = k
      · subst en;rw [hqk] at e |-;rw [hy1] at e;by_cases e1 : q[n].f1 ≠ 0
        · rw [if_pos e1] at e; exact absurd e e1
        · rw [if_neg e1] at e; exact absurd e hi0
      · rw [hqn n hn en] at e |-;exact h.rows.hold0 n (by simpa using hn) e
    · by_cases en : n = k
      · subst en;rw [hqk, hrowk, List.map_append, List.map_congr_left (g := fun k' => (at_ l k').f0) (fun k' hk' => by rw [hold n k' hk']), <- hids];have ex : (at_ (l.set i x) i).f0 = (at_ l i).f0 := by rw [hat, if_pos rfl]; exact hf0
        rw [hy1, hy2];by_cases e1 : q[n].f1 ≠ 0
        · rw [if_pos e1, if_pos e1, if_neg e1];simp [ex, if_neg e1]
        · rw [if_neg e1, if_neg e1, if_neg hi0];have e2 : q[n].f1 = 0 := by simpa using e1
          rw [h.rows.hold0 n hk e2, if_pos e2];simp [ex]
      · rw [hqn n hn en, hrow n en, h.rows.ids n (by simpa using hn)];exact List.map_congr_left (fun k' hk' => by rw [hold n k' hk'])
    · by_cases en : n = k
      · subst en;rw [hrowk]
        exact List.nodup_append.2 ⟨h.rows.nodup n, by simp, fun a ha b hb => by
          simp only [List.mem_cons, List.not_mem_nil, or_false] at hb;subst hb;exact hne n a ha⟩
      · rw [hrow n en]; exact h.rows.nodup n
    · rw [List.length_set];by_cases ek : k' = i
      · subst ek;rw [hat, if_pos rfl, hss, hs, hf3];by_cases en : n = k
        · subst en;rw [hrowk];exact ⟨fun _ => ⟨hi, by omega, rfl⟩, fun _ => by simp⟩
        · rw [hrow n en];exact ⟨fun hm => absurd hm (hni n), fun hm => absurd hm.2.2 (by omega)⟩
      · rw [hat, if_neg ek];by_cases en : n = k
        · subst en;rw [hrowk, <- h.rows.mem n k'];simp [ek]
        · rw [hrow n en]; exact h.rows.mem n k'
    · by_cases en : n = k
      · subst en;rw [hrowk] at e
        cases hR : R n with
        | nil =>
          rw [hR] at e;simp only [List.nil_append, List.cons.injEq] at e;obtain ⟨rfl, rfl⟩ := e;rw [hat, if_pos rfl, hf3, hsec2 hR];exact ⟨rfl, fun k' hk' => by simp at hk'⟩
        | cons b s =>
          rw [hR] at e;simp only [List.cons_append, List.cons.injEq] at e;obtain ⟨rfl, rfl⟩ := e;have h1 := h.rows.first n b s hR;rw [hold n b (by rw [hR]; simp)];refine ⟨h1.1, fun k' hk' => ?_⟩;rcases List.mem_append.1 hk' with hk' | hk'
          · rw [hold n k' (by rw [hR]; exact List.mem_cons_of_mem _ hk')]; exact h1.2 k' hk'
          · simp only [List.mem_cons, List.not_mem_nil, or_false] at hk';subst hk';rw [hat, if_pos rfl, hf3, hsec, if_pos (fun e => by rw [hnil.1 e] at hR; simp at hR)]
      · rw [hrow n en] at e;have h1 := h.rows.first n a r e;rw [hold n a (by rw [e]; simp)];exact ⟨h1.1, fun k' hk' => by rw [hold n k' (by rw [e]; exact List.mem_cons_of_mem _ hk')]; exact h1.2 k' hk'⟩
    · by_cases en : n = k
      · subst en;rw [hqk, hy0];rw [hrowk] at e
        cases hR : R n with
        | nil =>
          rw [hR] at e;simp only [List.nil_append, List.cons.injEq] at e;obtain ⟨rfl, rfl⟩ := e;rw [hat, if_pos rfl, hf4, if_pos (hsec2 hR)];exact ⟨by omega, fun _ => by omega⟩
        | cons b s =>
          rw [hR] at e;simp only [List.cons_append, List.cons.injEq] at e;obtain ⟨rfl, rfl⟩ := e;rw [hold n b (by rw [hR]; simp)];exact h.rows.most n hk b s hR
      · rw [hqn n hn en];rw [hrow n en] at e;rw [hold n a (by rw [e]; simp)];exact h.rows.most n (by simpa using hn) a r e
    · by_cases en : n = k
      · subst en;rw [hqk, hy0];rw [hrowk] at hp |-
        cases hR : R n with
        | nil =>
          rw [hR] at hp;simp only [List.nil_append] at hp |-
          cases p with
          | succ p => simp at hp
          | zero =>
            simp only [List.getElem?_cons_zero, Option.some.injEq] at hp;subst hp;simp only [List.headD_cons];rw [hat, if_pos rfl, hf1, hf4, if_pos (hsec2 hR)];have := h.sane.m1;have h5 : 1 * q[n].f0 <= M * q[n].f0 := Int.mul_le_mul_of_nonneg_right this (by omega);simp only [Int.natCast_zero, Int.zero_mul, Int.cast_ofNat_Int];omega
        | cons b s =>
          rw [hR] at hp;simp only [List.cons_append, List.headD_cons];rw [hold n b (by rw [hR]; simp)];rw [hR] at hcnt;by_cases hlt : p < (b :: s).length
          · rw [List.getElem?_append_left hlt] at hp;have h1 := h.rows.time n hk p a (by rw [hR]; exact hp);rw [hR] at h1;rw [hold n a (by rw [hR]; exact List.mem_of_getElem? hp)];exact h1
          · have hpe : p = (b :: s).length := by
              rcases Nat.lt_or_ge p ((b :: s).length + 1) with h6 | h6
              · omega
              · rw [List.getElem?_eq_none (by simp at *; omega)] at hp; cases hp
            subst hpe;rw [List.getElem?_append_right (Nat.le_refl _), Nat.sub_self] at hp;simp only [List.getElem?_cons_zero, Option.some.injEq] at hp;subst hp;rw [hat, if_pos rfl, hf1];have hb4 : 0 <= (at_ l b).f4 := (h.serv b ((h.rows.mem n b).1 (by rw [hR]; simp)).1).held.1;have h5 : (((b :: s).length : Int) + 1) * q[n].f0 <= M * q[n].f0 := Int.mul_le_mul_of_nonneg_right (by omega) (by omega);rw [Int.add_mul, Int.one_mul] at h5;omega
      · rw [hqn n hn en];rw [hrow n en] at hp |-;have hmem := List.mem_of_getElem? hp;rw [hold n a hmem];have h1 := h.rows.time n (by simpa using hn) p a hp
        cases hR : R n with
        | nil => rw [hR] at hp; simp at hp
        | cons b s =>
          rw [hR] at h1;simp only [List.headD_cons] at h1 |-;rw [hold n b (by rw [hR]; simp)];exact h1
    · by_cases en : n = k
      · subst en;rw [hqk, hy0];rw [hrowk] at hp |-
        cases hR : R n with
        | nil =>
          rw [hR] at hp;simp at hp
        | cons b s =>
          rw [hR] at hp;simp only [List.cons_append, List.headD_cons];rw [hold n b (by rw [hR]; simp)];rw [hR] at hcnt;by_cases hlt : p + 1 < (b :: s).length
          · rw [List.getElem?_append_left hlt] at hp;have h1 := h.rows.wait n hk p a (by rw [hR]; exact hp);rw [hR] at h1;exact h1
          · have hpe : p + 1 = (b :: s).length := by
              rcases Nat.lt_or_ge (p + 1) ((b :: s).length + 1) with h6 | h6
              · omega
              · rw [List.getElem?_eq_none (by simp at *; omega)] at hp; cases hp
            rw [hpe, List.getElem?_append_right (Nat.le_refl _), Nat.sub_self] at hp;simp only [List.getElem?_cons_zero, Option.some.injEq] at hp;subst hp;have hb4 : 0 <= (at_ l b).f4 := (h.serv b ((h.rows.mem n b).1 (by rw [hR]; simp)).1).held.1;have h5 : ((p : Int) + 1) * q[n].f0 <= (M - 1) * q[n].f0 := Int.mul_le_mul_of_nonneg_right (by omega) (by omega);rw [Int.add_mul, Int.one_mul] at h5;omega
      · rw [hqn n hn en];rw [hrow n en] at hp |-;have hmem := List.mem_of_getElem? hp;have h1 := h.rows.wait n (by simpa using hn) p a hp
        cases hR : R n with
        | nil => rw [hR] at hp; simp at hp
        | cons b s =>
          rw [hR] at h1;simp only [List.headD_cons] at h1 |-;rw [hold n b (by rw [hR]; simp)];exact h1
end
def noD : Nat -> Prop := fun _ => False
def Grows (R R' : Nat -> List Nat) : Prop := ∀ n, ∃ s, R' n = R n ++ s
theorem Grows.refl (R : Nat -> List Nat) : Grows R R := fun n => ⟨[], by simp⟩
theorem Grows.trans {a b c : Nat -> List Nat} (h : Grows a b) (k : Grows b c) : Grows a c := fun n => by
  obtain ⟨s, hs⟩ := h n;obtain ⟨t, ht⟩ := k n;exact ⟨s ++ t, by rw [ht, hs, List.append_assoc]⟩
theorem grows_push (R : Nat -> List Nat) (k i : Nat) : Grows R (pushR R k i) := fun n => by
  unfold pushR;split
  · subst_vars; exact ⟨[i], rfl⟩
  · exact ⟨[], by simp⟩
section
variable {M now c : Int} {wt : Nat -> Int} {l : List S57} {q : List S63} {R : Nat -> List Nat}
structure AskOk (M now : Int) (l : List S57) (q : List S63) (p : Nat × Int) : Prop where
  lt : p.1 < l.length
  m : (at_ l p.1).f1.f4 = 1
  s0 : (at_ l p.1).f3 = 0
  st : p.2 = (servStep (at_ l p.1)).f0
  pos : 0 < p.2
  b : M * (q.getD (p.2 - 1).toNat z63).f0 <= (at_ l p.1).f1.f2
  d : M * (q.getD (p.2 - 1).toNat z63).f0 <= (at_ l p.1).f1.f3 - now
theorem asks_ok (hs : Sorted l) (hr : refuseL M now l q = none) {p : Nat × Int} (hp : p ∈ asksL M l) : AskOk M now l q p := by
  obtain ⟨h1, h2, h3, h4, h5⟩ := asks_at hs hp;unfold refuseL at hr;have h6 := List.find?_eq_none.1 hr p hp;unfold askFails enoughB at h6;simp only [Bool.not_eq_true', Bool.and_eq_false_iff, decide_eq_false_iff_not, not_or, Int.not_le, Bool.not_eq_false, Bool.not_eq_true, Bool.and_eq_true, decide_eq_true_eq, Decidable.not_not] at h6;exact ⟨h1, h2, h3, h4, h5, Int.not_lt.1 h6.1, Int.not_lt.1 h6.2⟩
structure Granted (M now c : Int) (wt : Nat -> Int) (l : List S57) (q : List S63) (R : Nat -> List Nat) (is : List Nat) (l' : List S57) (q' : List S63) (R' : Nat -> List Nat) : Prop where
  inv : Inv M now c wt noD l' q' R'
  op : Open now l'
  gr : Grows R R'
  len : l'.length = l.length
  qlen : q'.length = q.length
  most : ∀ n, (q'.getD n z63).f0 = (q.getD n z63).f0
  same : ∀ k, (at_ l' k).f0 = (at_ l k).f0 /\ (at_ l' k).f1 = (at_ l k).f1 /\ (at_ l' k).f2 = (at_ l k).f2
  oth : ∀ k, k ∉ is -> at_ l' k = at_ l k
  sec : ∀ k, k ∈ is -> (at_ l' k).f3 ≠ 0
theorem grant_one (h : Inv M now c wt noD l q R) (ho : Open now l) {p : Nat × Int} (hp : AskOk M now l q p) (hc : (l.countP fixd : Int) + 1 <= M) (hw : wt p.1 <= 0) (ev : List Ev) :
    ∃ R', Granted M now c wt l q R [p.1] (grant1 now (l, q, ev) p).1 (grant1 now (l, q, ev) p).2.1 R' /\ (∀ p' : Nat × Int, p'.1 ≠ p.1 -> AskOk M now l q p' -> AskOk M now (grant1 now (l, q, ev) p).1 (grant1 now (l, q, ev) p).2.1 p') /\ (grant1 now (l, q, ev) p).1.countP fixd <= l.countP fixd + 1 := by
  obtain ⟨i, s⟩ := p;obtain ⟨h1, h2, h3, h4, h5, h6, h7⟩ := hp;dsimp only at *;obtain ⟨k, rfl⟩ : ∃ k : Nat, s = (k : Int) + 1 := ⟨(s - 1).toNat, by omega⟩;have hb2 : (at_ l i).f2 ≠ [] := (h.serv i h1).busy (by rw [h2]; decide);have hk : k < q.length := by have := (h.serv i h1).step_le hb2; omega
  have e1 : ((k : Int) + 1 - 1).toNat = k := by omega
  have e2 : q.getD k z63 = q[k] := by simp [hk]
  rw [e1, e2] at h6 h7;have hg := h.grant ho h1 h2 h3 h4.symm hk h6 h7 hc hw ev
  have hl : (grant1 now (l, q, ev) (i, (k : Int) + 1)).1 = l.set i { at_ l i with f3 := if q[k].f1 ≠ 0 then 1 else 2, f4 := if q[k].f1 ≠ 0 then (at_ l i).f4 else 0 } := by
    rw [grant1_eq now l q ev i hk];split <;> rfl
  have hq : ∃ y : S63, (grant1 now (l, q, ev) (i, (k : Int) + 1)).2.1 = q.set k y /\ y.f0 = q[k].f0 := by
    rw [grant1_eq now l q ev i hk];split
    · exact ⟨_, rfl, rfl⟩
    · exact ⟨_, rfl, rfl⟩
  obtain ⟨y, hq, hy⟩ := hq;rw [hl, hq] at hg |-
  have hat : ∀ k', at_ (l.set i { at_ l i with f3 := if q[k].f1 ≠ 0 then 1 else 2, f4 := if q[k].f1 ≠ 0 then (at_ l i).f4 else 0 }) k' = if k' = i then { at_ l i with f3 := if q[k].f1 ≠ 0 then 1 else 2, f4 := if q[k].f1 ≠ 0 then (at_ l i).f4 else 0 } else at_ l k' := fun k' => by
    rw [at_set];by_cases e : k' = i
    · rw [if_pos ⟨e, h1⟩, if_pos e]
    · rw [if_neg (fun h => e h.1), if_neg e]
  have hmost : ∀ n, ((q.set k y).getD n z63).f0 = (q.getD n z63).f0 := fun n => by
    rw [List.getD_eq_getElem?_getD, List.getD_eq_getElem?_getD, List.getElem?_set];by_cases e : k = n
    · subst e; rw [if_pos rfl, if_pos hk]; simp [hy, hk]
    · rw [if_neg e]
  refine ⟨_, ⟨hg, fun k' hk' hm' => ?_, grows_push R k i, List.length_set .., List.length_set .., hmost, fun k' => ?_, fun k' hk' => ?_, fun k' hk' => ?_⟩, fun p' hp' ha => ?_, countP_set_succ⟩
  · rw [List.length_set] at hk';rw [hat] at hm' |-;by_cases e : k' = i
    · subst e; rw [if_pos rfl] at hm' |-; exact ho k' hk' hm'
    · rw [if_neg e] at hm' |-; exact ho k' hk' hm'
  · rw [hat]; split
    · subst_vars; exact ⟨rfl, rfl, rfl⟩
    · exact ⟨rfl, rfl, rfl⟩
  · rw [hat, if_neg (by simpa using hk')]
  · rw [hat, if_pos (by simpa using hk')];dsimp only;split <;> decide
  · obtain ⟨a1, a2, a3, a4, a5, a6, a7⟩ := ha;have e : at_ (l.set i { at_ l i with f3 := if q[k].f1 ≠ 0 then 1 else 2, f4 := if q[k].f1 ≠ 0 then (at_ l i).f4 else 0 }) p'.1 = at_ l p'.1 := by rw [hat, if_neg hp']
    exact ⟨by rw [List.length_set]; exact a1, by rw [e]; exact a2, by rw [e]; exact a3, by rw [e]; exact a4, a5, by rw [e, hmost]; exact a6, by rw [e, hmost]; exact a7⟩
theorem Granted.nil (h : Inv M now c wt noD l q R) (ho : Open now l) : Granted M now c wt l q R [] l q R := ⟨h, ho, Grows.refl R, rfl, rfl, fun _ => rfl, fun _ => ⟨rfl, rfl, rfl⟩, fun _ _ => rfl, fun _ h => by simp at h⟩
theorem Granted.trans {is js : List Nat} {l' l'' : List S57} {q' q'' : List S63} {R' R'' : Nat -> List Nat} (h : Granted M now c wt l q R is l' q' R') (k : Granted M now c wt l' q' R' js l'' q'' R'') (hd : ∀ i ∈ is, i ∉ js) : Granted M now c wt l q R (is ++ js) l'' q'' R'' where
  inv := k.inv
  op := k.op
  gr := h.gr.trans k.gr
  len := k.len.trans h.len
  qlen := k.qlen.trans h.qlen
  most := fun n => (k.most n).trans (h.most n)
  same := fun n => ⟨(k.same n).1.trans (h.same n).1, (k.same n).2.1.trans (h.same n).2.1, (k.same n).2.2.trans (h.same n).2.2⟩
  oth := fun n hn => by rw [k.oth n (fun e => hn (List.mem_append_right _ e)), h.oth n (fun e => hn (List.mem_append_left _ e))]
  sec := fun n hn => by
    by_cases e : n ∈ js
    · exact k.sec n e
    · rw [k.oth n e];exact h.sec n ((List.mem_append.1 hn).resolve_right e)
theorem grants : ∀ (ps : List (Nat × Int)) (l : List S57) (q : List S63) (R : Nat -> List Nat) (ev : List Ev), Inv M now c wt noD l q R -> Open now l -> (∀ p ∈ ps, AskOk M now l q p) -> (ps.map Prod.fst).Nodup -> (l.countP fixd : Int) + ps.length <= M -> (∀ p ∈ ps, wt p.1 <= 0) ->
    ∃ R', Granted M now c wt l q R (ps.map Prod.fst) (ps.foldl (grant1 now) (l, q, ev)).1 (ps.foldl (grant1 now) (l, q, ev)).2.1 R' := by
  intro ps
  induction ps with
  | nil => intro l q R ev h ho _ _ _ _; exact ⟨R, Granted.nil h ho⟩
  | cons p ps ih =>
    intro l q R ev h ho ha hn hc hw;simp only [List.length_cons] at hc;have hn2 := List.nodup_cons.1 (by simpa using hn : (p.1 :: ps.map Prod.fst).Nodup);obtain ⟨R1, hg, hk, hf⟩ := grant_one h ho (ha p (by simp)) (by omega) (hw p (by simp)) ev;have hps : ∀ p' ∈ ps, p'.1 ≠ p.1 := fun p' hp' e => hn2.1 (e ▸ List.mem_map_of_mem hp')
    obtain ⟨R2, hg2⟩ := ih _ _ R1 (grant1 now (l, q, ev) p).2.2 hg.inv hg.op (fun p' hp' => hk p' (hps p' hp') (ha p' (List.mem_cons_of_mem _ hp'))) hn2.2 (by omega) (fun p' hp' => hw p' (List.mem_cons_of_mem _ hp'));refine ⟨R2, ?_⟩
    have := hg.trans hg2 (fun i hi => by
      simp only [List.mem_cons, List.not_mem_nil, or_false] at hi;subst hi;exact hn2.1)
    exact this
structure Settled (M now c : Int) (wt : Nat -> Int) (l : List S57) (q : List S63) (R : Nat -> List Nat) : Prop where
  inv : Inv M now c wt noD l q R
  op : Open now l
  none : ∀ k, k ∈ placesOf M l -> asksB (at_ l k) = false
theorem asks_nodup (hs : Sorted l) : ((asksL M l).map Prod.fst).Nodup := by
  have e : (asksL M l).map Prod.fst = (placesOf M l).filter (fun i => asksB (at_ l i)) := by
    show (List.filterMap _ (placesOf M l)).map Prod.fst = _;rw [List.map_filterMap]
    induction placesOf M l with
    | nil => rfl
    | cons a r ih =>
      rw [List.filterMap_cons, List.filter_cons];by_cases ha : asksB (l.getD a z57) = true
      · rw [if_pos ha];simp only [Option.map_some];rw [ih, show asksB (at_ l a) = true from ha];rfl
      · rw [if_neg ha];simp only [Option.map_none];rw [ih];have ha2 : asksB (at_ l a) = false := Bool.eq_false_iff.2 ha;rw [ha2];rfl
  rw [e];exact (places_nodup hs).filter _
theorem places_M (h : Sane M l) : ((placesOf M l).length : Int) <= M := by
  have h1 := rank_lt (n := M) (es := readyL l) (by have := h.m1; omega) (by
    rw [List.nodup_iff_pairwise_ne];exact (readyL_sorted h.sorted).imp (fun h => by omega))
  unfold placesOf runsL;rw [List.length_map];have := h.m1;omega
theorem asks_count (h : Sane M l) : (l.countP fixd : Int) + (asksL M l).length <= M := by
  have h1 := places_M h
  have h2 : ((List.range l.length).filter (fun k => fixd (at_ l k)) ++ (asksL M l).map Prod.fst).length <= (placesOf M l).length := by
    refine nodup_sub (List.nodup_append.2 ⟨List.nodup_range.filter _, asks_nodup h.sorted, fun a ha b hb e => ?_⟩) (fun x hx => ?_)
    · subst e;obtain ⟨p, hp, rfl⟩ := List.mem_map.1 hb;have h3 := (asks_at h.sorted hp).2.2.1;have h4 := (List.mem_filter.1 ha).2;unfold fixd at h4;simp [h3] at h4
    · rcases List.mem_append.1 hx with hx | hx
      · have h3 := List.mem_filter.1 hx;exact fixed_runs h (List.mem_range.1 h3.1) h3.2
      · obtain ⟨p, hp, rfl⟩ := List.mem_map.1 hx;exact ((mem_asks h.sorted).1 hp).1
  rw [List.length_append, List.length_map, <- List.countP_eq_length_filter, <- count_at] at h2;omega
theorem Granted.settled {l' : List S57} {q' : List S63} {R' : Nat -> List Nat} (hs : Sane M l) (h : Granted M now c wt l q R ((asksL M l).map Prod.fst) l' q' R') : Settled M now c wt l' q' R' where
  inv := h.inv
  op := h.op
  none := fun k hk => by
    obtain ⟨h1, h2, h3⟩ := (mem_places h.inv.sane.sorted).1 hk;by_cases ha : k ∈ (asksL M l).map Prod.fst
    · have := h.sec k ha;unfold asksB;simp [this]
    · rw [h.oth k ha]
      cases hb : asksB (at_ l k) with
      | false => rfl
      | true =>
        exfalso;apply ha;have e := h.oth k ha;rw [e] at h2 h3;refine List.mem_map.2 ⟨(k, (servStep (at_ l k)).f0), (mem_asks hs.sorted).2 ⟨(mem_places hs.sorted).2 ⟨by rw [<- h.len]; exact h1, h2, ?_⟩, hb, rfl⟩, rfl⟩
        have hf : (at_ l k).f3 = 0 := by
          unfold asksB at hb;simp only [Bool.and_eq_true, beq_iff_eq] at hb;exact hb.2
        have h5 : rk l (at_ l k) <= rk l' (at_ l k) := by
          unfold rk;refine count_mono h.len.symm (fun i hi hy => ?_);simp only [Bool.and_eq_true, beq_iff_eq] at hy |-;refine ⟨by rw [(h.same i).2.1]; exact hy.1, ?_⟩;by_cases hi2 : i ∈ (asksL M l).map Prod.fst
          · have h6 := h.sec i hi2;unfold Ent.ltB entOf;dsimp only;rw [show ((at_ l' i).f3 != 0) = true by simpa using h6, hf];rfl
          · rw [h.oth i hi2]; exact hy.2
        show (rk l (at_ l k) : Int) < M;omega
theorem refAll_sec : ∀ (n : Nat) (l : List S57) (k : Nat), (at_ (refAll n M now l q).1 k).f3 = (at_ l k).f3 := by
  intro n
  induction n with
  | zero => intro l k; rfl
  | succ n ih =>
    intro l k;unfold refAll
    cases refuseL M now l q with
    | none => rfl
    | some p =>
      dsimp only;rw [ih];unfold waitAt;rw [at_set];split
      · rename_i h; rw [h.1]; rfl
      · rfl
theorem refAll_f0 : ∀ (n : Nat) (l : List S57) (k : Nat), (at_ (refAll n M now l q).1 k).f0 = (at_ l k).f0 := by
 intro n
 induction n with
 | zero => intro l k; rfl
 | succ n ih =>
  intro l k;unfold refAll
  cases refuseL M now l q with
  | none => rfl
  | some p =>
   dsimp only;rw [ih];unfold waitAt;rw [at_set];split
   ·rename_i h; rw [h.1]; rfl
   ·rfl
theorem Inv.settle (h : Inv M now c wt noD l q R) (hw : ∀ k, k < l.length -> (at_ l k).f3 = 0 -> wt k <= 0) : ∃ R', Settled M now c wt (settleL M now l q).1 (settleL M now l q).2.1 R' /\ Grows R R' /\ (settleL M now l q).1.length = l.length /\ (settleL M now l q).2.1.length = q.length /\ (∀ n, ((settleL M now l q).2.1.getD n z63).f0 = (q.getD n z63).f0) /\ (∀ k, (at_ (settleL M now l q).1 k).f0 = (at_ l k).f0) := by
 have h1 := h.turn
 have h2 : Open now (turnL now l) := fun k hk hm => by
  rw [turnL_len] at hk;rw [turn_at] at hm |-
  have hm2 : (at_ l k).f1.f4 ≠ 0 := by
   intro e;apply hm;unfold turn1 turnsB;rw [if_neg (by simp [e])];exact e
  refine turn1_due hm2 (fun h3 => ?_) (h.serv k hk).cbs;obtain ⟨n, _, _, ht⟩ := h.fixed_due hk h3;exact (ht (fun _ _ _ => id)).1
 obtain ⟨h3, h4, h5⟩ := Inv.refuse (l.length + 1) (turnL now l) h1 h2 (by have := readies_le (turnL now l); rw [turnL_len] at this; omega);have hlen : (refAll (l.length + 1) M now (turnL now l) q).1.length = l.length := by rw [refAll_len, turnL_len]
 obtain ⟨R', hg⟩ := grants (asksL M (refAll (l.length + 1) M now (turnL now l) q).1) _ q R (turnE now l ++ (refAll (l.length + 1) M now (turnL now l) q).2) h3 h4 (fun p hp => asks_ok h3.sane.sorted h5 hp) (asks_nodup h3.sane.sorted) (asks_count h3.sane) (fun p hp => by
  obtain ⟨a1, _, a3, _⟩ := asks_at h3.sane.sorted hp;rw [hlen] at a1;refine hw p.1 a1 ?_;rw [<- a3, refAll_sec, turn_at, (turn1_f0 now _).2.2.1])
 exact ⟨R', Granted.settled h3.sane hg, hg.gr, hg.len.trans hlen, hg.qlen, hg.most, fun k => ((hg.same k).1.trans (refAll_f0 _ _ k)).trans (by rw [turn_at]; exact (turn1_f0 now _).1)⟩
end
section
variable {M now c : Int} {wt : Nat -> Int} {l : List S57} {q : List S63} {R : Nat -> List Nat}
theorem Settled.again (h : Settled M now c wt l q R) : settleL M now l q = (l, q, []) := by
  have h1 : ∀ k, k < l.length -> turnsB now (at_ l k) = false := fun k hk => by
    unfold turnsB;by_cases hm : (at_ l k).f1.f4 = 0
    · simp [hm]
    · have := h.op k hk hm;simp
      intros
      omega
  have h2 : turnL now l = l := by
    unfold turnL
    conv => lhs; rw [list_at l]
    conv => rhs; rw [list_at l]
    rw [List.map_map];refine List.map_congr_left (fun k hk => ?_);show turn1 now (at_ l k) = at_ l k;unfold turn1;rw [h1 k (List.mem_range.1 hk)];rfl
  have h3 : turnE now l = [] := by
    unfold turnE;rw [List.map_eq_nil_iff, List.filter_eq_nil_iff];intro x hx;obtain ⟨k, hk, rfl⟩ := List.mem_iff_getElem.1 hx;have := h1 k hk;rw [at_lt hk] at this;simp [this]
  have h4 : asksL M l = [] := by
    cases ha : asksL M l with
    | nil => rfl
    | cons p ps =>
      exfalso;have h5 := (mem_asks h.inv.sane.sorted (p := p)).1 (by rw [ha]; simp);have h6 := h.none p.1 h5.1;rw [h5.2.1] at h6
      cases h6
  unfold settleL;rw [h2, h3]
  have h5 : refAll (l.length + 1) M now l q = (l, []) := by
    unfold refAll;have : refuseL M now l q = Option.none := by unfold refuseL; rw [h4]; rfl
    rw [this]
  rw [h5];dsimp only;rw [h4];rfl
theorem runAll_at : ∀ (ps : List Nat) (l : List S57), ps.Nodup -> (∀ p ∈ ps, p < l.length) -> ∀ k, at_ (runAll l ps) k = if k ∈ ps then runV (at_ l k) else at_ l k := by
  intro ps
  induction ps with
  | nil => intro l _ _ k; simp [runAll]
  | cons p ps ih =>
    intro l hn hl k;have hn2 := List.nodup_cons.1 hn;have e : runAll l (p :: ps) = runAll (l.set p (runV (at_ l p))) ps := rfl;rw [e, ih _ hn2.2 (fun p' hp' => by rw [List.length_set]; exact hl p' (List.mem_cons_of_mem _ hp')), at_set];have hp := hl p (by simp);by_cases hk : k = p
    · subst hk;rw [if_neg hn2.1, if_pos ⟨rfl, hp⟩, if_pos (by simp)]
    · have e2 : (if k = p /\ p < l.length then runV (at_ l p) else at_ l k) = at_ l k := if_neg (fun h => hk h.1);rw [e2];have : k ∈ p :: ps ↔ k ∈ ps := by simp [hk]
      by_cases h2 : k ∈ ps
      · rw [if_pos h2, if_pos (this.2 h2)]
      · rw [if_neg h2, if_neg (fun h => h2 (this.1 h))]
theorem runAll_len : ∀ (ps : List Nat) (l : List S57), (runAll l ps).length = l.length := fun ps l => (runAll_ids ps l).len
theorem runV_step {x : S57} : servStep (runV x) = servStep x := by
  unfold servStep runV;dsimp only;split
  · rfl
  · cases x.f2 with
    | nil => rfl
    | cons j js => rfl
theorem Inv.holder {D : Nat -> Prop} (h : Inv M now c wt D l q R) {k : Nat} (hk : k < l.length) (h3 : (at_ l k).f3 = 2) : ∃ n, ∃ (hn : n < q.length), (servStep (at_ l k)).f0 = (n : Int) + 1 /\ ∃ r, R n = k :: r := by
  obtain ⟨n, hn, hm, _⟩ := h.fixed_due hk (by rw [h3]; decide);refine ⟨n, hn, ((h.rows.mem n k).1 hm).2.2, ?_⟩
  cases hR : R n with
  | nil => rw [hR] at hm; simp at hm
  | cons a r =>
    rw [hR] at hm;rcases List.mem_cons.1 hm with rfl | hr
    · exact ⟨r, rfl⟩
    · have := (h.rows.first n a r hR).2 k hr;rw [h3] at this;exact absurd this (by decide)
theorem ServOk.later {d : Prop} {ql : Nat} {x : S57} (h : ServOk now c d ql x) (ho : x.f1.f4 ≠ 0 -> now < x.f1.f3) (d' : Prop) (hd : d -> d') : ServOk (now + 1) c d' ql x where
  cbs := h.cbs
  due := by have := h.due; omega
  ahead := fun e => by have := ho e; omega
  idle := h.idle
  busy := h.busy
  jlen := h.jlen
  jobs := h.jobs
  rest := h.rest
  sec := h.sec
  spin := h.spin
  sem := h.sem
  secm := h.secm
  part := fun e hn => h.part e (fun hh => hn (hd hh))
  held := h.held
  ran := by have := h.ran; omega
  num := h.num
theorem runV_ok {d : Prop} {ql : Nat} {x : S57} (h : ServOk now c False ql x) (ho : now < x.f1.f3) (hm : x.f1.f4 = 1) (ha : asksB x = false) (hh : x.f3 = 2 -> x.f4 < 1048576) (hd : d) : ServOk (now + 1) c d ql (runV x) := by
  have hb := h.busy (by rw [hm]; decide);obtain ⟨j, js, hx, hj, hq, hst, hdn⟩ := h.head hb;have hpos := h.cbs.mb hm;have hpart := h.part (by rw [hm]; decide) id;rw [hst, hdn] at hpart;obtain ⟨a1, a2, a3, a4, a5, a6, a7, a8, a9, a10⟩ := h.cbs;have hst2 : servStep (runV x) = servStep x := runV_step;have hf2 : (runV x).f2 = if x.f3 = 1 then j :: js else { j with f3 := j.f3 + 1 } :: js := by unfold runV; dsimp only; rw [hx]; rfl
  have hf3 : (runV x).f3 = x.f3 := rfl;have hf14 : (runV x).f1.f4 = if x.f1.f2 - 1 = 0 then 2 else 1 := rfl;have hf12 : (runV x).f1.f2 = x.f1.f2 - 1 := rfl
  exact { cbs := readyS_ok (s := { x.f1 with f2 := x.f1.f2 - 1 }) ⟨a1, a2, a3, by show 0 <= x.f1.f2 - 1; omega, by show x.f1.f2 - 1 <= x.f1.f0; omega, a6, a7, by show (0 : Int) <= 0; decide, by show (0 : Int) <= 2; decide, fun e => absurd e (by show ¬ (0 : Int) = 1; decide)⟩
          due := by have := h.due; show x.f1.f3 <= _; omega
          ahead := fun _ => by show now + 1 <= x.f1.f3; omega
          idle := fun e => by rw [hf14] at e; split at e <;> exact absurd e (by decide)
          busy := fun _ => by rw [hf2]; split <;> simp
          jlen := by have := h.jlen; rw [hf2]; rw [hx] at this; split <;> exact this
          jobs := by
            rw [hf2];intro j' hj';have hold : ∀ j' ∈ js, JobOk j' /\ ∀ s ∈ j'.f1, s.f0 <= ql := fun j' hj' => h.jobs j' (by rw [hx]; exact List.mem_cons_of_mem _ hj')
            split at hj'
            · exact h.jobs j' (by rw [hx]; exact hj')
            · rcases List.mem_cons.1 hj' with rfl | hj'
              · exact ⟨⟨hj.num, hj.prog, hj.at0, hj.atl, by have := hj.d0; show 0 <= j.f3 + 1; omega, by show j.f3 + 1 <= (stepOf j).f1; omega⟩, hq⟩
              · exact hold j' hj'
          rest := by
            have := h.rest;rw [hx] at this;rw [hf2];split <;> exact this
          sec := h.sec
          spin := fun e1 e2 => by
            rw [hst2] at e2;rw [hf3] at e1;by_cases e : x.f3 = 1
            · have := h.spin e1 e2;rw [hdn] at this;unfold doneOf;rw [hf2, if_pos e];exact this
            · exfalso;have := h.sec;have e0 : x.f3 = 0 := by omega
              unfold asksB at ha;simp [e0] at ha;omega
          sem := fun e => by rw [hst2]; exact h.sem e
          secm := fun e => by
            rw [hf14, hf12];refine ⟨by split <;> decide, fun e2 => by rw [if_neg e2]⟩
          part := fun _ hn => absurd hd hn
          held := by
            have := h.held;show 0 <= (if x.f3 = 2 then x.f4 + 1 else x.f4) /\ (if x.f3 = 2 then x.f4 + 1 else x.f4) <= 1048576;split
            · have := hh (by assumption); omega
            · exact this
          ran := by have := h.ran; show 0 <= x.f6 + 1 /\ x.f6 + 1 <= now + 1; omega
          num := h.num }
theorem Settled.run (h : Settled M now c wt l q R) (hn : now < 1000000000) : Inv M (now + 1) c (fun k => wt k + 1) (fun k => k ∈ placesOf M l) (runAll l (placesOf M l)) q R := by
  have hs := h.inv.sane.sorted;have hat := runAll_at (placesOf M l) l (places_nodup hs) (fun p hp => ((mem_places hs).1 hp).1);have hlen := runAll_len (placesOf M l) l
  have hfix : ∀ k, k < l.length -> (at_ l k).f3 ≠ 0 -> k ∈ placesOf M l := fun k hk h3 => by
    obtain ⟨n, _, hm, _⟩ := h.inv.fixed_due hk h3;exact fixed_runs h.inv.sane hk (h.inv.row_fixed n hm).2
  have hf3 : ∀ k, (at_ (runAll l (placesOf M l)) k).f3 = (at_ l k).f3 := fun k => by rw [hat]; split <;> rfl
  have hst : ∀ k, servStep (at_ (runAll l (placesOf M l)) k) = servStep (at_ l k) := fun k => by
    rw [hat]; split
    · exact runV_step
    · rfl
  have hmost : ∀ k, k < l.length -> (at_ l k).f3 = 2 -> (at_ l k).f4 < 1048576 := fun k hk e => by
    obtain ⟨n, hnq, _, r, hR⟩ := h.inv.holder hk e;have := (h.inv.rows.most n hnq k r hR).2 id;have := h.inv.qmost n hnq;omega
  have hrm : ∀ n k, k ∈ R n -> k < l.length /\ k ∈ placesOf M l := fun n k hk => by
    have := (h.inv.rows.mem n k).1 hk;exact ⟨this.1, hfix k this.1 this.2.1⟩
  refine ⟨h.inv.sane.keep hlen (fun k _ => by rw [hat]; split <;> rfl) (fun k hk hf => ?_), by have := h.inv.now0; omega, by omega, h.inv.qlen, h.inv.qmost, fun k hk => ?_, ?_⟩
  · by_cases hp : k ∈ placesOf M l
    · have h1 := ((mem_places hs).1 hp).2.1;unfold fixd at hf |-;rw [hf3] at hf;simp only [Bool.and_eq_true] at hf |-;exact ⟨by simpa using h1, hf.2⟩
    · rw [hat, if_neg hp] at hf; exact hf
  · rw [hlen] at hk;rw [hat];by_cases hp : k ∈ placesOf M l
    · rw [if_pos hp];have h1 := (mem_places hs).1 hp;exact runV_ok (h.inv.serv k hk) (h.op k hk (by rw [h1.2.1]; decide)) h1.2.1 (h.none k hp) (hmost k hk) hp
    · rw [if_neg hp];exact (h.inv.serv k hk).later (h.op k hk) _ (fun hh => hh.elim)
  · refine ⟨h.inv.rows.hold0, fun n hn => ?_, h.inv.rows.nodup, fun n k => ?_, fun n k r e => ?_, fun n hn k r e => ?_, fun n hn p k hp => ?_, fun n hn p k hp => ?_⟩
    · rw [h.inv.rows.ids n hn];exact List.map_congr_left (fun k _ => by rw [hat]; split <;> rfl)
    · rw [hlen, hf3, hst]; exact h.inv.rows.mem n k
    · rw [hf3];have h1 := h.inv.rows.first n k r e;exact ⟨h1.1, fun k' hk' => by rw [hf3]; exact h1.2 k' hk'⟩
    · have hk := hrm n k (by rw [e]; simp);have h1 := (h.inv.rows.most n hn k r e).2 id;have h2 := (h.inv.rows.first n k r e).1;rw [hat, if_pos hk.2];refine ⟨?_, fun hd => absurd hk.2 hd⟩;show (if (at_ l k).f3 = 2 then (at_ l k).f4 + 1 else (at_ l k).f4) <= _;rw [if_pos h2]; omega
    · have hk := hrm n k (List.mem_of_getElem? hp);have h1 := h.inv.rows.time n hn p k hp;have hf12 : (at_ (runAll l (placesOf M l)) k).f1.f2 = (at_ l k).f1.f2 - 1 := by rw [hat, if_pos hk.2]; rfl
      have hf13 : (at_ (runAll l (placesOf M l)) k).f1.f3 = (at_ l k).f1.f3 := by rw [hat, if_pos hk.2]; rfl
      rw [hf12, hf13]
      cases hR : R n with
      | nil => rw [hR] at hp; simp at hp
      | cons a r =>
        rw [hR] at h1;simp only [List.headD_cons] at h1 |-;have ha := hrm n a (by rw [hR]; simp);have h2 := (h.inv.rows.first n a r hR).1
        have e4 : (at_ (runAll l (placesOf M l)) a).f4 = (at_ l a).f4 + 1 := by
          rw [hat, if_pos ha.2];show (if (at_ l a).f3 = 2 then (at_ l a).f4 + 1 else (at_ l a).f4) = _;rw [if_pos h2]
        rw [e4];omega
    · have h1 := h.inv.rows.wait n hn p k hp
      cases hR : R n with
      | nil => rw [hR] at hp; simp at hp
      | cons a r =>
        rw [hR] at h1;simp only [List.headD_cons] at h1 |-;have ha := hrm n a (by rw [hR]; simp);have h2 := (h.inv.rows.first n a r hR).1
        have e4 : (at_ (runAll l (placesOf M l)) a).f4 = (at_ l a).f4 + 1 := by
          rw [hat, if_pos ha.2];show (if (at_ l a).f3 = 2 then (at_ l a).f4 + 1 else (at_ l a).f4) = _;rw [if_pos h2]
        rw [e4];omega
end
section
variable {M now c : Int} {wt : Nat -> Int} {D : Nat -> Prop} {l : List S57} {q : List S63} {R : Nat -> List Nat}
theorem Inv.set0 (h : Inv M now c wt D l q R) {i : Nat} (hi : i < l.length) (h3 : (at_ l i).f3 = 0) {x : S57} (h0 : x.f0 = (at_ l i).f0) (hx3 : x.f3 = 0) (D' : Nat -> Prop) (hx : ServOk now c (D' i) q.length x) (hD : ∀ k, k ≠ i -> (D k ↔ D' k)) : Inv M now c wt D' (l.set i x) q R := by
  have hat : ∀ k, at_ (l.set i x) k = if k = i then x else at_ l k := fun k => by
    rw [at_set];by_cases e : k = i
    · rw [if_pos ⟨e, hi⟩, if_pos e]
    · rw [if_neg (fun h => e h.1), if_neg e]
  refine ⟨h.sane.keep (List.length_set ..) (fun k _ => ?_) (fun k _ hf => ?_), h.now0, h.now1, h.qlen, h.qmost, fun k hk => ?_, ?_⟩
  · rw [hat]; split
    · subst_vars; exact h0
    · rfl
  · rw [hat] at hf;by_cases e : k = i
    · rw [if_pos e] at hf;unfold fixd at hf;simp [hx3] at hf
    · rwa [if_neg e] at hf
  · rw [List.length_set] at hk;rw [hat];by_cases e : k = i
    · subst e; rw [if_pos rfl]; exact hx
    · rw [if_neg e];have hs := h.serv k hk;have hp : (at_ l k).f1.f4 ≠ 0 -> ¬ D' k -> doneOf (at_ l k) < (servStep (at_ l k)).f1 := fun hm hd => hs.part hm (fun hd2 => hd ((hD k e).1 hd2))
      exact { hs with part := hp }
  · have hr := h.rows.keep (l' := l.set i x) (Int.le_refl now) (List.length_set ..) (fun k _ => by rw [hat]; split; (· subst_vars; exact h0); rfl) (fun k _ => by rw [hat]; split; (· subst_vars; rw [hx3, h3]); rfl) (fun k _ e0 => by
      rw [hat, if_neg (fun e => by subst e; exact e0 h3)];exact ⟨rfl, rfl, rfl⟩)
    have hp : ∀ n (hn : n < q.length) k r, R n = k :: r -> (at_ (l.set i x) k).f4 <= q[n].f0 /\ (¬ D' k -> (at_ (l.set i x) k).f4 < q[n].f0) := fun n hn k r e => by
      have h1 := hr.most n hn k r e;have h2 := (h.rows.mem n k).1 (by rw [e]; simp);have hne : k ≠ i := fun e2 => by subst e2; exact h2.2.1 h3
      exact ⟨h1.1, fun hd => h1.2 (fun hd2 => hd ((hD k hne).1 hd2))⟩
    exact { hr with most := hp }
def popR (R : Nat -> List Nat) (n : Nat) : Nat -> List Nat := fun m => if m = n then (R n).tail else R m
theorem Inv.pop (h : Inv M now c wt D l q R) {i n : Nat} (hi : i < l.length) (hn : n < q.length) {r : List Nat} (hR : R n = i :: r) {x : S57} (h0 : x.f0 = (at_ l i).f0) (hx3 : x.f3 = 0) (D' : Nat -> Prop) (hx : ServOk now c (D' i) q.length x) (hD : ∀ k, k ≠ i -> r.head? ≠ some k -> (D k -> D' k))
    {l' : List S57} {q' : List S63} {y : S63} (hl : l'.length = l.length) (hat : ∀ k, at_ l' k = if k = i then x else if r.head? = some k then { at_ l k with f3 := 2, f4 := 0 } else at_ l k) (hq : q' = q.set n y) (hy0 : y.f0 = q[n].f0) (hy1 : (if y.f1 = 0 then [] else y.f1 :: y.f2) = r.map (fun k => (at_ l k).f0)) (hy2 : y.f1 = 0 -> y.f2 = []) : Inv M now c wt D' l' q' (popR R n) := by
  have hni : ∀ m k, k ∈ popR R n m -> k ∈ R m /\ k ≠ i := fun m k hk => by
    unfold popR at hk;by_cases e : m = n
    · subst e;rw [if_pos rfl, hR] at hk;rw [hR];exact ⟨List.mem_cons_of_mem _ hk, fun e2 => by subst e2; have := h.rows.nodup m; rw [hR] at this; exact (List.nodup_cons.1 this).1 hk⟩
    · rw [if_neg e] at hk;refine ⟨hk, fun e2 => ?_⟩;subst e2;have h1 := ((h.rows.mem m k).1 hk).2.2;have h2 := ((h.rows.mem n k).1 (by rw [hR]; simp)).2.2;omega
  have hhead : ∀ m k, k ∈ R m -> r.head? = some k -> m = n := fun m k hk e => by
    have h1 := ((h.rows.mem m k).1 hk).2.2;have h2 := ((h.rows.mem n k).1 (by rw [hR]; exact List.mem_cons_of_mem _ (List.mem_of_head? e))).2.2;omega
  have hheadi : r.head? ≠ some i := fun e => by
    have := h.rows.nodup n;rw [hR] at this;exact (List.nodup_cons.1 this).1 (List.mem_of_head? e)
  have hf0 : ∀ k, (at_ l' k).f0 = (at_ l k).f0 := fun k => by
    rw [hat]; split
    · subst_vars; exact h0
    · split <;> rfl
  have hold : ∀ m k, k ∈ popR R n m -> (at_ l' k).f1 = (at_ l k).f1 /\ (at_ l' k).f2 = (at_ l k).f2 := fun m k hk => by
    rw [hat, if_neg (hni m k hk).2]; split <;> exact ⟨rfl, rfl⟩
  have h1n := h.rows.first n i r hR;have hrow1 : popR R n n = r := by unfold popR; rw [if_pos rfl, hR]; rfl
  have hrow2 : ∀ m, m ≠ n -> popR R n m = R m := fun m e => if_neg e
  have hkeep : ∀ m, m ≠ n -> ∀ k, k ∈ R m -> at_ l' k = at_ l k := fun m e k hk => by
    rw [hat, if_neg (hni m k (by rw [hrow2 m e]; exact hk)).2, if_neg (fun e2 => e (hhead m k hk e2))]
  have hqn : ∀ m (hm : m < q'.length), m ≠ n -> q'[m] = q[m]'(by rw [hq] at hm; simpa using hm) := fun m hm e => by subst hq; rw [List.getElem_set, if_neg (fun e2 => e e2.symm)]
  have hqk : ∀ (hm : n < q'.length), q'[n] = y := fun hm => by subst hq; rw [List.getElem_set, if_pos rfl]
  have hql : q'.length = q.length := by rw [hq, List.length_set]
  have hqm := h.qmost n hn;refine ⟨h.sane.keep hl (fun k _ => hf0 k) (fun k _ hf => ?_), h.now0, h.now1, by rw [hql]; exact h.qlen, fun m hm => ?_, fun k hk => ?_, ?_⟩
  · rw [hat] at hf;by_cases e : k = i
    · rw [if_pos e] at hf;unfold fixd at hf;simp [hx3] at hf
    · rw [if_neg e] at hf;by_cases e2 : r.head? = some k
      · rw [if_pos e2] at hf;have := h1n.2 k (List.mem_of_head? e2);unfold fixd at hf |-;simp only [Bool.and_eq_true] at hf |-;exact ⟨hf.1, by rw [this]; rfl⟩
      · rwa [if_neg e2] at hf
  · by_cases e : m = n
    · subst e; rw [hqk, hy0]; exact hqm
    · rw [hqn m hm e]; exact h.qmost m (by omega)
  · rw [hl] at hk;rw [hat, hql];by_cases e : k = i
    · subst e; rw [if_pos rfl]; exact hx
    · rw [if_neg e];have hs := h.serv k hk;by_cases e2 : r.head? = some k
      · rw [if_pos e2];have h3 := h1n.2 k (List.mem_of_head? e2);have hsm := hs.sem (by rw [h3]; decide);have hsp := hs.spin (by rw [h3]; decide) hsm;have hmm := hs.secm (by rw [h3]; decide);obtain ⟨j, js, hx, hj, hqq, hst, hdn⟩ := hs.head (hs.busy hmm.1);have hpo := good_step hj.prog (job_step hj)
        have h1 : 1 <= (servStep (at_ l k)).f1 := by
          rw [hst];unfold poddB at hpo;simp only [decide_eq_false_iff_not, not_or] at hpo;omega
        exact { cbs := hs.cbs, due := hs.due, ahead := hs.ahead, idle := fun e => absurd e hmm.1, busy := hs.busy, jlen := hs.jlen, jobs := hs.jobs, rest := hs.rest
                sec := by show (0 : Int) <= 2 /\ (2 : Int) <= 2; decide
                spin := fun e => absurd e (by show ¬ (2 : Int) <= 1; decide)
                sem := fun _ => hsm
                secm := fun _ => hmm
                part := fun _ _ => by show doneOf (at_ l k) < (servStep (at_ l k)).f1; omega
                held := by show (0 : Int) <= 0 /\ (0 : Int) <= 1048576; decide
                ran := hs.ran, num := hs.num }
      · rw [if_neg e2];have hp : (at_ l k).f1.f4 ≠ 0 -> ¬ D' k -> doneOf (at_ l k) < (servStep (at_ l k)).f1 := fun hm hd => hs.part hm (fun hd2 => hd (hD k e e2 hd2))
        exact { hs with part := hp }
  · refine ⟨fun m hm e => ?_, fun m hm => ?_, fun m => ?_, fun m k => ?_, fun m k s e => ?_, fun m hm k s e => ?_, fun m hm p k hp => ?_, fun m hm p k hp => ?_⟩
    · by_cases en : m = n
      · subst en; rw [hqk] at e |-; exact hy2 e
      · rw [hqn m hm en] at e |-; exact h.rows.hold0 m (by omega) e
    · by_cases en : m = n
      · subst en;rw [hqk, hy1, hrow1];exact List.map_congr_left (fun k _ => (hf0 k).symm)
      · rw [hqn m hm en, hrow2 m en, h.rows.ids m (by omega)];exact List.map_congr_left (fun k _ => (hf0 k).symm)
    · by_cases en : m = n
      · subst en;rw [hrow1];have := h.rows.nodup m;rw [hR] at this;exact (List.nodup_cons.1 this).2
      · rw [hrow2 m en]; exact h.rows.nodup m
    · rw [hl];by_cases e : k = i
      · subst e;rw [hat, if_pos rfl, hx3];exact ⟨fun hm => absurd rfl (hni m k hm).2, fun hm => absurd rfl hm.2.1⟩
      · have hs : servStep (at_ l' k) = servStep (at_ l k) := by
          rw [hat, if_neg e]; split <;> rfl
        have h3 : (at_ l' k).f3 ≠ 0 ↔ (at_ l k).f3 ≠ 0 := by
          rw [hat, if_neg e];by_cases e2 : r.head? = some k
          · rw [if_pos e2];have := h1n.2 k (List.mem_of_head? e2);rw [this];simp
          · rw [if_neg e2]
        rw [hs, h3, <- h.rows.mem m k];by_cases en : m = n
        · subst en;rw [hrow1, hR];simp [e]
        · rw [hrow2 m en]
    · by_cases en : m = n
      · subst en;rw [hrow1] at e;have hk : r.head? = some k := by rw [e]; rfl
        have hki : k ≠ i := fun e2 => by subst e2; exact hheadi hk
        rw [hat, if_neg hki, if_pos hk];refine ⟨rfl, fun k' hk' => ?_⟩;have hk2 : k' ∈ r := by rw [e]; exact List.mem_cons_of_mem _ hk'
        have hne1 : k' ≠ i := (hni m k' (by rw [hrow1]; exact hk2)).2
        have hne2 : r.head? ≠ some k' := fun e2 => by
          rw [e] at e2;simp only [List.head?_cons, Option.some.injEq] at e2;subst e2;have := h.rows.nodup m;rw [hR, e] at this;exact (List.nodup_cons.1 (List.nodup_cons.1 this).2).1 hk'
        rw [hat, if_neg hne1, if_neg hne2];exact h1n.2 k' hk2
      · rw [hrow2 m en] at e;have h2 := h.rows.first m k s e;rw [hkeep m en k (by rw [e]; simp)];exact ⟨h2.1, fun k' hk' => by rw [hkeep m en k' (by rw [e]; exact List.mem_cons_of_mem _ hk')]; exact h2.2 k' hk'⟩
    · by_cases en : m = n
      · subst en;rw [hrow1] at e;have hk : r.head? = some k := by rw [e]; rfl
        have hki : k ≠ i := fun e2 => by subst e2; exact hheadi hk
        rw [hqk, hy0, hat, if_neg hki, if_pos hk];exact ⟨by show (0 : Int) <= _; omega, fun _ => by show (0 : Int) < _; omega⟩
      · rw [hrow2 m en] at e;have hmem : k ∈ R m := by rw [e]; simp
        rw [hqn m hm en, hkeep m en k hmem];have h2 := h.rows.most m (by omega) k s e;have hki : k ≠ i := (hni m k (by rw [hrow2 m en]; exact hmem)).2;have hkh : r.head? ≠ some k := fun e2 => en (hhead m k hmem e2)
        exact ⟨h2.1, fun hd => h2.2 (fun hd2 => hd (hD k hki hkh hd2))⟩
    · by_cases en : m = n
      · subst en;rw [hrow1] at hp |-;have hk2 := List.mem_of_getElem? hp;have h2 := h.rows.time m hn (p + 1) k (by rw [hR]; simpa using hp);rw [hR] at h2;simp only [List.headD_cons] at h2;have h4 := (h.rows.most m hn i r hR).1;rw [hqk, hy0, (hold m k (by rw [hrow1]; exact hk2)).1]
        cases hr : r with
        | nil => rw [hr] at hp; simp at hp
        | cons a s =>
          simp only [List.headD_cons];have ha : r.head? = some a := by rw [hr]; rfl
          have hai : a ≠ i := fun e2 => by subst e2; exact hheadi ha
          have e4 : (at_ l' a).f4 = 0 := by rw [hat, if_neg hai, if_pos ha]
          rw [e4]
          have e5 : ((p + 1 : Nat) : Int) * q[m].f0 = (p : Int) * q[m].f0 + q[m].f0 := by
            rw [Int.natCast_add, Int.add_mul];simp
          rw [e5] at h2;omega
      · rw [hrow2 m en] at hp |-;have hk2 := List.mem_of_getElem? hp;rw [hqn m hm en, hkeep m en k hk2];have h2 := h.rows.time m (by omega) p k hp
        cases hr : R m with
        | nil => rw [hr] at hp; simp at hp
        | cons a s =>
          rw [hr] at h2;simp only [List.headD_cons] at h2 |-;rw [hkeep m en a (by rw [hr]; simp)];exact h2
    · by_cases en : m = n
      · subst en;rw [hrow1] at hp |-;have hk2 := List.mem_of_getElem? hp;have h2 := h.rows.wait m hn (p + 1) k (by rw [hR]; simpa using hp);rw [hR] at h2;simp only [List.headD_cons] at h2;have h4 := (h.rows.most m hn i r hR).1;rw [hqk, hy0]
        cases hr : r with
        | nil => rw [hr] at hp; simp at hp
        | cons a s =>
          simp only [List.headD_cons];have ha : r.head? = some a := by rw [hr]; rfl
          have hai : a ≠ i := fun e2 => by subst e2; exact hheadi ha
          have e4 : (at_ l' a).f4 = 0 := by rw [hat, if_neg hai, if_pos ha]
          rw [e4]
          have e5 : ((p + 1 : Nat) : Int) * q[m].f0 = (p : Int) * q[m].f0 + q[m].f0 := by
            rw [Int.natCast_add, Int.add_mul];simp
          rw [e5] at h2;omega
      · rw [hrow2 m en] at hp |-;have hk2 := List.mem_of_getElem? hp;rw [hqn m hm en];have h2 := h.rows.wait m (by omega) p k hp
        cases hr : R m with
        | nil => rw [hr] at hp; simp at hp
        | cons a s =>
          rw [hr] at h2;simp only [List.headD_cons] at h2 |-;rw [hkeep m en a (by rw [hr]; simp)];exact h2
end
end Go.Proofs.YtfimkmlgnmaopaaGreat.Top
