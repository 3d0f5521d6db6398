/- Part 3 of what is proved of the functions that the law reaches (contracts of functions, plain laws): no condition but those that each theorem names. -/
import Derived.Test.YtfimkmlgnmaopaaGreatKE2
set_option maxHeartbeats 40000000
set_option maxRecDepth 100000
namespace Go.Proofs.YtfimkmlgnmaopaaGreat.Top
open Go.RowKit Go.Proofs.YtfimkmlgnmaopaaGreatW.PrintWords Go.Proofs.YtfimkmlgnmaopaaGreatW.PrintLast Go.Proofs.YtfimkmlgnmaopaaGreatW.PrintMore Go.Proofs.YtfimkmlgnmaopaaGreat.PTopNames
set_option linter.unusedVariables false
set_option linter.unusedSimpArgs false
def cloS.T1 : Bool × List (List Nat × List Nat) := (true, [([], []), ([0], [0]), ([1], [1]), ([], []), ([3], [3]), ([4, 2], [4]), ([], []), ([6], [6]), ([7, 5], [7]), ([0, 1, 2, 3, 4, 6, 7], []), ([9, 2, 8, 0, 1, 2, 3, 4, 6, 7], [2, 9]), ([0, 1, 2, 3, 4, 5, 6, 7, 9, 10], []), ([11, 5, 10, 0, 1, 2, 3, 4, 5, 6, 7, 9, 10], [5, 11]), ([0, 1, 2, 3, 4, 5, 6, 7, 8, 9, 10, 11, 12], []), ([13, 8, 12, 0, 1, 2, 3, 4, 5, 6, 7, 8, 9, 10, 11, 12], [8, 13])])
def cloS.B1 : List Nat := [0, 1, 3, 0, 8, 31, 0, 64, 255, 223, 1023, 2047, 4095, 8191, 16383]
theorem cloS.tab1 : rtab .any (opsOf Tryz.f25 1) = cloS.T1 := by kernel_rfl
theorem cloS.bits1 : waitsOk cloS.T1.2 cloS.B1 = true := by kernel_rfl
def cloS.T5 : Bool × List (List Nat × List Nat) := (true, [([], []), ([0], [0]), ([], []), ([], []), ([3], [3]), ([], []), ([4, 5], [4, 5]), ([6], [6]), ([7], [7]), ([8], [8]), ([1, 2, 0, 1, 2, 3, 4, 5, 6, 7, 8, 9], [1, 2]), ([10, 0, 1, 2, 3, 4, 5, 6, 7, 8, 9], [10]), ([11, 9, 9, 0, 1, 2, 3, 4, 5, 6, 7, 8, 9], [9, 11])])
def cloS.B5 : List Nat := [0, 1, 0, 0, 8, 0, 56, 120, 248, 504, 1023, 2047, 4095]
theorem cloS.tab5 : rtab .any (opsOf Tryz.f25 5) = cloS.T5 := by kernel_rfl
theorem cloS.bits5 : waitsOk cloS.T5.2 cloS.B5 = true := by kernel_rfl
def cloS.T10 : Bool × List (List Nat × List Nat) := (true, [([], []), ([0], [0]), ([], []), ([], []), ([3], [3]), ([], []), ([4, 5], [4, 5]), ([6], [6]), ([7], [7]), ([8], [8]), ([1, 2, 0, 1, 2, 3, 4, 5, 6, 7, 8, 9], [1, 2]), ([10, 0, 1, 2, 3, 4, 5, 6, 7, 8, 9], [10]), ([11, 9, 9, 0, 1, 2, 3, 4, 5, 6, 7, 8, 9], [9, 11])])
def cloS.B10 : List Nat := [0, 1, 0, 0, 8, 0, 56, 120, 248, 504, 1023, 2047, 4095]
theorem cloS.tab10 : rtab .any (opsOf Tryz.f25 10) = cloS.T10 := by kernel_rfl
theorem cloS.bits10 : waitsOk cloS.T10.2 cloS.B10 = true := by kernel_rfl
def QueR (w : World) (B : Bd) (q : List S63) (o : OwnR) : Prop := ∀ i (h : i < q.length), (Kd.int .i64).R 3 w B (fun b => o.own (.q i) = some b) (.slice (o.s i).1 q[i].f2.length (o.s i).2) q[i].f2
def JobR (w : World) (B : Bd) (l : List S57) (o : OwnR) : Prop := ∀ i (h : i < l.length), ∃ rr, (Kd.raw 4).R 125 w B (fun b => o.own (.j i) = some b) (.slice (o.r i).1 l[i].f2.length (o.r i).2) (rowsOf jobRow l[i].f2 rr) /\ Progs w B l[i].f2 rr
theorem row_cell6 {w : World} {g i : Nat} {l : List S57} {r : Nat -> Ref} (h : RowAt w g 0 11 57 (rowsOf servRow l r)) (hi : i < l.length) : w.cell? ⟨g, i * 11 + 6, none⟩ = some (.slice (r i).1 l[i].f2.length (r i).2) := by
 have := h.cell (i := i) (by rw [rowsOf_len]; exact hi) (j := 6) (by omega) (v := .slice (r i).1 l[i].f2.length (r i).2) (by rw [rowsOf_get hi]; rfl)
 rwa [Nat.zero_add] at this
theorem row_set6 {w : World} {g i : Nat} {l : List S57} {r : Nat -> Ref} (h : RowAt w g 0 11 57 (rowsOf servRow l r)) (hi : i < l.length) (p : Ref) : RowAt (w.setCell ⟨g, i * 11 + 6, none⟩ (.slice p.1 l[i].f2.length p.2)) g 0 11 57 (rowsOf servRow l (upd r i p)) := by
 have := h.set (i := i) (by rw [rowsOf_len]; exact hi) (j := 6) (by omega) (.slice p.1 l[i].f2.length p.2);rw [Nat.zero_add, rowsOf_get hi] at this
 have e : rowsOf servRow l (upd r i p) = (rowsOf servRow l r).set i (servRow l[i] p) := by
  have hs : l.set i l[i] = l := List.set_getElem_self hi
  conv => lhs; rw [<- hs]
  exact rowsOf_set
 rw [e];exact this
theorem row_cell2 {w : World} {g i : Nat} {q : List S63} {r : Nat -> Ref} (h : RowAt w g 0 4 63 (rowsOf lockRow q r)) (hi : i < q.length) : w.cell? ⟨g, i * 4 + 2, none⟩ = some (.slice (r i).1 q[i].f2.length (r i).2) := by
 have := h.cell (i := i) (by rw [rowsOf_len]; exact hi) (j := 2) (by omega) (v := .slice (r i).1 q[i].f2.length (r i).2) (by rw [rowsOf_get hi]; rfl)
 rwa [Nat.zero_add] at this
theorem row_set2 {w : World} {g i : Nat} {q : List S63} {r : Nat -> Ref} (h : RowAt w g 0 4 63 (rowsOf lockRow q r)) (hi : i < q.length) (p : Ref) : RowAt (w.setCell ⟨g, i * 4 + 2, none⟩ (.slice p.1 q[i].f2.length p.2)) g 0 4 63 (rowsOf lockRow q (upd r i p)) := by
 have := h.set (i := i) (by rw [rowsOf_len]; exact hi) (j := 2) (by omega) (.slice p.1 q[i].f2.length p.2);rw [Nat.zero_add, rowsOf_get hi] at this
 have e : rowsOf lockRow q (upd r i p) = (rowsOf lockRow q r).set i (lockRow q[i] p) := by
  have hs : q.set i q[i] = q := List.set_getElem_self hi
  conv => lhs; rw [<- hs]
  exact rowsOf_set
 rw [e];exact this
theorem ownB_map {A : Option Addr} {n c b : Nat} (h : A.map (·.block) = some b) : (Value.slice A n c).ownBlock = some b := by
 cases A with
 | none => simp at h
 | some ad => simpa [Value.ownBlock] using h
theorem own_made {w : World} {m : Bd} {N N2 : Nat} {l : List S57} {q : List S63} {A7 A10 : Option Addr} {c7 c10 : Nat} {rn sn : Nat -> Ref} (hmax : l.length <= 100000 /\ q.length <= 100000) (hc7 : l.length <= c7) (hc10 : q.length <= c10) (hlj : ∀ i (h : i < l.length), l[i].f2.length <= 100000)
  (hX : l ≠ [] -> ∃ g, A7 = some ⟨g, 0, none⟩ /\ RowAt w g 0 11 57 (rowsOf servRow l rn)) (hL : q ≠ [] -> ∃ g, A10 = some ⟨g, 0, none⟩ /\ RowAt w g 0 4 63 (rowsOf lockRow q sn))
  (hJ : JobsCopied w m N l l.length rn) (hQ : QuesCopied w N2 q q.length sn) (hG : ∀ b, A7.map (·.block) = some b -> m <= b /\ b < N) (hH : ∀ b, A10.map (·.block) = some b -> m <= b /\ b < N)
  (hGH : ∀ b b2, A7.map (·.block) = some b -> A10.map (·.block) = some b2 -> b ≠ b2) (hbJ : ∀ k b, ob (rn k) = some b -> N <= b /\ b < N2) (h1 : m <= N) (h2 : N <= N2) (h3 : N2 <= w.heap.size) :
  Own w m l q ⟨A7, c7, A10, c10, rn, sn⟩ /\ QueR w m q ⟨A7, c7, A10, c10, rn, sn⟩ /\ JobR w m l ⟨A7, c7, A10, c10, rn, sn⟩ := by
 refine ⟨⟨hmax, ⟨hc7, hc10⟩, hX, hL, fun i hi => ?_, fun i hi => ?_, fun c d b hc hd => ?_, fun c b hb => ?_, by omega⟩, fun i hi => ?_, fun i hi => ?_⟩
 ·obtain ⟨h4, rr, h5, h6⟩ := hJ.row i hi hi;refine ⟨h4, hlj i hi, fun hne => ?_⟩;obtain ⟨g, cap, e, _, _, _, hok, hR⟩ := row_of_R h5 (by rw [rowsOf_len]; exact List.length_pos_iff.2 hne);injection e with e1 e2 e3;exact ⟨g, 0, rr, e1, hR, h6⟩
 ·obtain ⟨h4, h5⟩ := hQ.row i hi hi;exact ⟨h4, Kd.R_F h5⟩
 ·have hq : ∀ k b, ob (sn k) = some b -> N2 <= b := fun k b h => (hQ.bnd k b h).1
  cases c with
  | g =>
   have a := hG b hc
   cases d with
   | g => rfl
   | h => exact absurd rfl (hGH b b hc hd)
   | j k => have := hbJ k b hd; omega
   | q k => have := hq k b hd; omega
  | h =>
   have a := hH b hc
   cases d with
   | g => exact absurd rfl (hGH b b hd hc)
   | h => rfl
   | j k => have := hbJ k b hd; omega
   | q k => have := hq k b hd; omega
  | j i =>
   have a := hbJ i b hc
   cases d with
   | g => have := hG b hd; omega
   | h => have := hH b hd; omega
   | j k => rw [hJ.apart i k b hc hd]
   | q k => have := hq k b hd; omega
  | q i =>
   have a := hq i b hc
   cases d with
   | g => have := hG b hd; omega
   | h => have := hH b hd; omega
   | j k => have := hbJ k b hd; omega
   | q k => rw [hQ.apart i k b hc hd]
 ·cases c with
  | g => have := hG b hb; omega
  | h => have := hH b hb; omega
  | j k => have := hbJ k b hb; omega
  | q k => have := hQ.bnd k b hb; omega
 ·exact Kd.R_lower (hQ.row i hi hi).2 (by omega)
 ·obtain ⟨h4, rr, h5, h6⟩ := hJ.row i hi hi;exact ⟨rr, Kd.R_lower h5 (by omega), h6⟩
def SerC (w : World) (A : Option Addr) (c : Nat) : Prop := (A = none /\ c = 0) \/ ∃ g cur, A = some ⟨g, 0, none⟩ /\ w.heap[g]? = some (.cells cur 57 (0, 0)) /\ cur.size = c * 11 /\ c <= maxLen
theorem serC_of_R {w : World} {base : Nat} {ok : Nat -> Prop} {A : Option Addr} {n c : Nat} {xs : List (List Value)} (h : (Kd.raw 11).R 57 w base ok (.slice A n c) xs) : SerC w A c := by
 obtain ⟨hok, inner, ho, hr⟩ := h;obtain ⟨hil, hv⟩ := ho;rcases hv with ⟨e, h0⟩ | ⟨g, cap, cur, e, hb, hheap, hnc, hcm, hcs, htake⟩
 ·injection e with e1 e2 e3;exact .inl ⟨e1, e3⟩
 ·injection e with e1 e2 e3;subst e1 e3;exact .inr ⟨g, cur, rfl, hheap, hcs, hcm⟩
theorem SerC.turn {w w' : World} {A : Option Addr} {c : Nat} (h : SerC w A c) {S : Nat -> Prop} (ht : Turn w w' S) (hS : ∀ b, A.map (·.block) = some b -> ¬ S b) : SerC w' A c := by
 rcases h with h | ⟨g, cur, e, h1, h2, h3⟩
 ·exact .inl h
 ·exact .inr ⟨g, cur, e, (ht.block g (blk_lt h1) (hS g (by rw [e]; rfl))).trans h1, h2, h3⟩
theorem SerC.below {w w' : World} {A : Option Addr} {c : Nat} (h : SerC w A c) (hb : Below w.heap.size w w') : SerC w' A c := h.turn (Turn.of_below (fun _ => False) hb) (fun _ _ e => e)
theorem SerC.drew {w : World} {A : Option Addr} {c : Nat} (h : SerC w A c) : SerC w.drew A c := h
theorem SerC.set {w : World} {g c : Nat} (h : SerC w (some ⟨g, 0, none⟩) c) (k : Nat) (v : Value) : SerC (w.setCell ⟨g, k, none⟩ v) (some ⟨g, 0, none⟩) c := by
 rcases h with h | ⟨g2, cur, e, h1, h2, h3⟩
 ·exact absurd h.1 (by simp)
 ·injection e with e;injection e with e;subst e;exact .inr ⟨g, cur.setIfInBounds k v, rfl, blk_set k v h1, by simpa using h2, h3⟩
theorem clone2_calls (M now : Int) (A : Option Addr) (l : List S57) (c : Nat) (A2 : Option Addr) (q : List S63) (c2 : Nat) (A3 : Option Addr) (c3 : Nat) (B : Bd) (w : World) (hw : B.n <= w.heap.size) (hr : Rd w B A l A2 q) (hl : l.length <= 100000) (hq : q.length <= 100000) (hlj : ∀ i (h : i < l.length), l[i].f2.length <= 100000) (hqj : ∀ i (h : i < q.length), q[i].f2.length <= 100000) :
  Calls Tryz.prog 25 #[stV M now A l.length c A2 q.length c2 A3 c3] w fun e w' => ∃ o A4 c4, e = .returned (stV M now o.A l.length o.c o.A2 q.length o.c2 A4 c4) /\ Own w' B l q o /\ QueR w' B q o /\ JobR w' B l o /\ (∀ cc b, o.own cc = some b -> w.heap.size <= b) /\ Below w.heap.size w w' /\ SerC w' o.A o.c := by
 obtain ⟨r0, hC57, hJ0⟩ := hr.serv;obtain ⟨s0, hC63, hQ0⟩ := raw63 hr.lock;have HC57 := hZ hC57;have HC63 := hZ hC63;have HJ0 := hZ hJ0;have HQ0 := hZ hQ0;have HLJ := hZ hlj;have HQJ := hZ hqj;clear hr hC57 hC63 hJ0 hQ0 hlj hqj;unfold stV;have HX : Hid (((w.alloc (.cells #[.int .i64 M, .int .i64 now, .slice A l.length c, .slice A2 q.length c2, .slice A3 0 c3] 47)).alloc (.cells #[.int .i64 0, .int .i64 0, .slice none 0 0, .slice none 0 0, .slice none 0 0] 47)).heap[w.heap.size]? = some (.cells #[.int .i64 M, .int .i64 now, .slice A l.length c, .slice A2 q.length c2, .slice A3 0 c3] 47 (0, 0))) := hZ (two_blocks (Below.refl _ _)).1;have HZ : Hid (((w.alloc (.cells #[.int .i64 M, .int .i64 now, .slice A l.length c, .slice A2 q.length c2, .slice A3 0 c3] 47)).alloc (.cells #[.int .i64 0, .int .i64 0, .slice none 0 0, .slice none 0 0, .slice none 0 0] 47)).heap[w.heap.size + 1]? = some (.cells #[.int .i64 0, .int .i64 0, .slice none 0 0, .slice none 0 0, .slice none 0 0] 47 (0, 0))) := hZ (two_blocks (Below.refl _ _)).2.1;have hb0 : Hid (Below w.heap.size w ((w.alloc (.cells #[.int .i64 M, .int .i64 now, .slice A l.length c, .slice A2 q.length c2, .slice A3 0 c3] 47)).alloc (.cells #[.int .i64 0, .int .i64 0, .slice none 0 0, .slice none 0 0, .slice none 0 0] 47))) := hZ (below_alloc (below_alloc (Below.refl _ _) _) _);go_enter Tryz.func25, Tryz.ntmps25;go_wp2;have hsz : w.heap.size + 2 <= ((w.alloc (.cells #[.int .i64 M, .int .i64 now, .slice A l.length c, .slice A2 q.length c2, .slice A3 0 c3] 47)).alloc (.cells #[.int .i64 0, .int .i64 0, .slice none 0 0, .slice none 0 0, .slice none 0 0] 47)).heap.size := by simp
 generalize hw0 : (w.alloc (.cells #[.int .i64 M, .int .i64 now, .slice A l.length c, .slice A2 q.length c2, .slice A3 0 c3] 47)).alloc (.cells #[.int .i64 0, .int .i64 0, .slice none 0 0, .slice none 0 0, .slice none 0 0] 47) = w0 at *;clear hw0;refine start_ (n := 15) (S := fun w' => Hid (w'.heap[w.heap.size]? = some (.cells #[.int .i64 M, .int .i64 now, .slice A l.length c, .slice A2 q.length c2, .slice A3 0 c3] 47 (0, 0))) /\ Hid (Below w0.drew.heap.size w0.drew w')) (ds := [10, 12, 14]) #[false, false, false, false, false, false, false, false, false, false, false, false, false, false, false] (by kernel_rfl) rfl rfl ⟨(hZ (show w0.drew.heap[w.heap.size]? = _ from HX.out)), (hZ (Below.refl w0.drew.heap.size w0.drew))⟩ (fun hHeld => ?_);refine with_tabW cloS.tab1 cloS.bits1 (fun HT_ HW_ => ?_);have hbd : Hid (Below w.heap.size w w0.drew) := hZ (hb0.out.trans ⟨rfl, rfl, rfl, Nat.le_refl _, fun _ _ => rfl⟩);have hsd : w.heap.size + 2 <= w0.drew.heap.size := hsz;have HZd : Hid (w0.drew.heap[w.heap.size + 1]? = _) := hZ (show w0.drew.heap[w.heap.size + 1]? = _ from HZ.out);generalize hwd : w0.drew = wd at *;clear hwd;refine pst 0 (some 5) HT_ ?_;refine pst 3 (some 8) HT_ ?_;refine pst 6 (some 11) HT_ ?_;refine tst 1 (some 6) HT_ HW_ hHeld ?_ (hy := by (rintro w' ⟨s0, s1⟩; have e2 := (blk_cell s0.out 2).trans rfl; have e3 := (blk_cell s0.out 3).trans rfl; have e4 := (blk_cell s0.out 4).trans rfl; clear s0 s1); go_simp; with_reducible rfl);refine tst 4 (some 9) HT_ HW_ hHeld ?_ (hy := by (rintro w' ⟨s0, s1⟩; have e2 := (blk_cell s0.out 2).trans rfl; have e3 := (blk_cell s0.out 3).trans rfl; have e4 := (blk_cell s0.out 4).trans rfl; clear s0 s1); go_simp; with_reducible rfl);refine tst 7 (some 12) HT_ HW_ hHeld ?_ (hy := by (rintro w' ⟨s0, s1⟩; have e2 := (blk_cell s0.out 2).trans rfl; have e3 := (blk_cell s0.out 3).trans rfl; have e4 := (blk_cell s0.out 4).trans rfl; clear s0 s1); go_simp; with_reducible rfl);refine one_ (i := 2) (N := some 7) #[true, true, true, true, true, false, true, true, false, false, false, false, false, false, false] rfl rfl (one_of HT_.out (by kernel_rfl)) (by decide) (fun K hK => ?_);refine goes_ Tryz.func47 (by kernel_rfl) rfl #[.slice A l.length c] (by rfl) rfl rfl (by simp only [List.map_toArray, List.map_cons, List.map_nil]; rfl) ?_;with_reducible refine (clone57 A l.length c _ _ (Kd.C_below HC57.out (((hbd.out.trans (hHeld.2.out.mono (by omega)))))) hl).mono ?_;rintro e w5 ⟨v7, rfl, hR7, hB7⟩;refine ⟨_, rfl, ?_⟩;obtain ⟨A7, c7, e7, hc7, _⟩ := Kd.R_reads hR7;rw [rowsOf_len] at e7 hc7;subst e7;have HR7 := hZ hR7;have HB7 := hZ hB7;have hs5 := hHeld.2.out.size;refine hK.out _ _ ⟨(hZ (blk_below hHeld.1.out hB7)), (hZ (hHeld.2.out.trans (hB7.mono hHeld.2.out.size)))⟩ (fun hHeld => ?_);clear hK K;refine norm_ (a' := ?_) ?_ ?_;rotate_left
 ·show Act.put _ (some 7) _ = _;simp only [Act.put, sqA, sqB, sqC, i64_w, i32_w];rfl
 refine pst 9 (some 14) HT_ ?_;refine one_ (i := 5) (N := some 10) #[true, true, true, true, true, true, true, true, false, true, false, false, false, false, false] rfl rfl (one_of HT_.out (by kernel_rfl)) (by decide) (fun K hK => ?_);refine goes_ Tryz.func48 (by kernel_rfl) rfl #[.slice A2 q.length c2] (by rfl) rfl rfl (by simp only [List.map_toArray, List.map_cons, List.map_nil]; rfl) ?_;with_reducible refine (clone63 A2 q.length c2 _ _ (Kd.C_below HC63.out (((hbd.out.trans (hHeld.2.out.mono (by omega)))))) hq).mono ?_;rintro e w6 ⟨v10, rfl, hR10, hB10⟩;refine ⟨_, rfl, ?_⟩;obtain ⟨A10, c10, e10, hc10, _⟩ := Kd.R_reads hR10;rw [rowsOf_len] at e10 hc10;subst e10;have HR10 := hZ hR10;have HB10 := hZ hB10;refine hK.out _ _ ⟨(hZ (blk_below hHeld.1.out hB10)), (hZ (hHeld.2.out.trans (hB10.mono hHeld.2.out.size)))⟩ (fun hHeld => ?_);clear hK K;refine norm_ (a' := ?_) ?_ ?_;rotate_left
 ·show Act.put _ (some 10) _ = _;simp only [Act.put, sqA, sqB, sqC, i64_w, i32_w];rfl
 refine one_ (i := 8) (N := some 13) #[true, true, true, true, true, true, true, true, true, true, false, false, false, false, false] rfl rfl (one_of HT_.out (by kernel_rfl)) (by decide) (fun K hK => ?_);refine goes_ Tryz.func49 (by kernel_rfl) rfl #[.slice A3 0 c3] (by rfl) rfl rfl (by simp only [List.map_toArray, List.map_cons, List.map_nil]; rfl) ?_;with_reducible refine (clone134 A3 0 c3 [] _ (C_nil' _ _ _) (by omega)).mono ?_;rintro e w8 ⟨v13, rfl, hR13, hB13⟩;refine ⟨_, rfl, ?_⟩;obtain ⟨A13, c13, e13, hc13, _⟩ := Kd.R_reads hR13;subst e13;have HR13 := hZ hR13;have HB13 := hZ hB13;refine hK.out _ _ ⟨(hZ (blk_below hHeld.1.out hB13)), (hZ (hHeld.2.out.trans (hB13.mono hHeld.2.out.size)))⟩ (fun hHeld => ?_);clear hK K;refine norm_ (a' := ?_) ?_ ?_;rotate_left
 ·show Act.put _ (some 13) _ = _;simp only [Act.put, sqA, sqB, sqC, i64_w, i32_w];rfl
 refine last_ (i := 10) (N := none) #[true, true, true, true, true, true, true, true, true, true, true, false, false, false, false] rfl rfl (one_of HT_.out (by kernel_rfl)) (by decide) (fun K hK => ?_);have HBW8 := hZ hHeld.2.out;have e2 := (blk_cell hHeld.1.out 2).trans rfl;have z2 := blk_frozen hHeld.1.out 2;refine skip_ (w1 := ?_) (by rfl) rfl ?_ ?_;rotate_left
 ·go_simp;rfl
 have HP1 := hZ (blk_put (cs := #[.int .i64 M, .int .i64 now, .slice A l.length c, .slice A2 q.length c2, .slice A3 0 c3]) (cs' := #[.int .i64 M, .int .i64 now, .slice A7 l.length c7, .slice A2 q.length c2, .slice A3 0 c3]) hHeld.1.out 2 (.slice A7 l.length c7) rfl);have HT1 := hZ ((Turn.refl w8 (fun k => k = w.heap.size)).set rfl 2 (.slice A7 l.length c7));clear e2 z2;generalize hws : World.setCell _ _ _ = ws1 at *;clear hws;refine hK.out _ _ ?_;clear hK K;refine pst 11 (some 15) HT_ ?_;refine last_ (i := 12) (N := none) #[true, true, true, true, true, true, true, true, true, true, true, true, true, false, false] rfl rfl (one_of HT_.out (by kernel_rfl)) (by decide) (fun K hK => ?_);have e2 := (blk_cell HP1.out 3).trans rfl;have z2 := blk_frozen HP1.out 3;refine skip_ (w1 := ?_) (by rfl) rfl ?_ ?_;rotate_left
 ·go_simp;rfl
 have HP2 := hZ (blk_put (cs := #[.int .i64 M, .int .i64 now, .slice A7 l.length c7, .slice A2 q.length c2, .slice A3 0 c3]) (cs' := #[.int .i64 M, .int .i64 now, .slice A7 l.length c7, .slice A10 q.length c10, .slice A3 0 c3]) HP1.out 3 (.slice A10 q.length c10) rfl);have HT2 := hZ (HT1.out.set rfl 3 (.slice A10 q.length c10));clear e2 z2;generalize hws : World.setCell _ _ _ = ws2 at *;clear hws;refine hK.out _ _ ?_;clear hK K;refine pst 13 (some 16) HT_ ?_;refine last_ (i := 14) (N := none) #[true, true, true, true, true, true, true, true, true, true, true, true, true, true, true] rfl rfl (one_of HT_.out (by kernel_rfl)) (by decide) (fun K hK => ?_);have e2 := (blk_cell HP2.out 4).trans rfl;have z2 := blk_frozen HP2.out 4;refine skip_ (w1 := ?_) (by rfl) rfl ?_ ?_;rotate_left
 ·go_simp;rfl
 have HP3 := hZ (blk_put (cs := #[.int .i64 M, .int .i64 now, .slice A7 l.length c7, .slice A10 q.length c10, .slice A3 0 c3]) (cs' := #[.int .i64 M, .int .i64 now, .slice A7 l.length c7, .slice A10 q.length c10, .slice A13 0 c13]) HP2.out 4 (.slice A13 0 c13) rfl);have HT3 := hZ (HT2.out.set rfl 4 (.slice A13 0 c13));clear e2 z2;generalize hws : World.setCell _ _ _ = ws3 at *;clear hws;refine hK.out _ _ ?_;clear hK K;refine done_ (done_of HT_.out (by kernel_rfl)) ?_;have hs13 := HB13.out.size;have hs10 := HB10.out.size;have hs7 := HB7.out.size;have hs3 : w8.heap.size <= ws3.heap.size := HT3.out.size;have KR7 := hZ (Kd.R_step (Kd.R_bound (Kd.R_below (Kd.R_below HR7.out HB10.out) HB13.out)) (fun b hb hlt => HT3.out.block b hlt (by omega)));have KR10 := hZ (Kd.R_step (Kd.R_bound (Kd.R_below HR10.out HB13.out)) (fun b hb hlt => HT3.out.block b hlt (by omega)));have HB3 : Hid (Below w.heap.size w ws3) := hZ (Turn.below (hbd.out.trans (HBW8.out.mono (by omega))) HT3.out (fun k h => by omega) (by omega));have HZ3 : Hid (ws3.heap[w.heap.size + 1]? = some (.cells #[.int .i64 0, .int .i64 0, .slice none 0 0, .slice none 0 0, .slice none 0 0] 47 (0, 0))) := hZ ((HT3.out.block _ (by omega) (by omega)).trans ((HBW8.out.block _ (by omega)).trans HZd.out))
 have hgb : ∀ b, A7.map (·.block) = some b -> w.heap.size < b /\ b < w5.heap.size := fun b hb => by
  have h1 := Kd.R_base HR7.out b (ownB_map hb);have h2 := Kd.R_lt HR7.out b (ownB_map hb);omega
 have hhb : ∀ b, A10.map (·.block) = some b -> w5.heap.size <= b /\ b < ws3.heap.size := fun b hb => by
  have h1 := Kd.R_base HR10.out b (ownB_map hb);have h2 := Kd.R_lt HR10.out b (ownB_map hb);omega
 have HRow7 : Hid (l ≠ [] -> ∃ g, A7 = some ⟨g, 0, none⟩ /\ RowAt ws3 g 0 11 57 (rowsOf servRow l r0)) := hZ (fun h => by
  obtain ⟨g, cap, e, _, _, _, _, hRow⟩ := row_of_R KR7.out (by rw [rowsOf_len]; exact List.length_pos_iff.2 h);injection e with e1 e2 e3;exact ⟨g, e1, hRow⟩)
 have HRow10 : Hid (q ≠ [] -> ∃ g, A10 = some ⟨g, 0, none⟩ /\ RowAt ws3 g 0 4 63 (rowsOf lockRow q s0)) := hZ (fun h => by
  obtain ⟨g, cap, e, _, _, _, _, hRow⟩ := row_of_R KR10.out (by rw [rowsOf_len]; exact List.length_pos_iff.2 h);injection e with e1 e2 e3;exact ⟨g, e1, hRow⟩)
 have hsw : w.heap.size + 2 <= ws3.heap.size := by omega
 have HSC3 := hZ (serC_of_R KR7.out);have HX3 := hZ HP3.out;have hgh : ∀ b b2, A7.map (·.block) = some b -> A10.map (·.block) = some b2 -> b ≠ b2 := fun b b2 h1 h2 => by have := hgb b h1; have := hhb b2 h2; omega
 have hgb2 : ∀ b, A7.map (·.block) = some b -> w.heap.size + 2 <= b /\ b < ws3.heap.size := fun b hb => by
  have h1 := Kd.R_base HR7.out b (ownB_map hb);have := hgb b hb;omega
 have hhb2 : ∀ b, A10.map (·.block) = some b -> w.heap.size + 2 <= b /\ b < ws3.heap.size := fun b hb => by have := hhb b hb; omega
 have HGH := hZ hgh;have HGB := hZ hgb2;have HHB := hZ hhb2;clear hgb hhb hgh hgb2 hhb2 HR7 HR10 HR13 HB7 HB10 HB13 HT1 HT2 HT3 HP1 HP2 HP3 hHeld HBW8 hb0 HX HZ HZd hbd hR7 hR10 hR13 KR7 KR10 hs13 hs10 hs7 hs3 hs5 hsd hsz;have q2 := (blk_cell HX3.out 2).trans rfl;go_wp2;clear q2
 go_loopw [20] (fun v20 wr => ∃ (i : Nat) (rn : Nat -> Ref), v20 = .int .i64 i /\ i <= l.length /\ Hid (SerC wr A7 c7) /\ Hid (wr.heap[w.heap.size]? = some (.cells #[.int .i64 M, .int .i64 now, .slice A7 l.length c7, .slice A10 q.length c10, .slice A13 0 c13] 47 (0, 0))) /\ Hid (wr.heap[w.heap.size + 1]? = some (.cells #[.int .i64 0, .int .i64 0, .slice none 0 0, .slice none 0 0, .slice none 0 0] 47 (0, 0))) /\ Hid (l ≠ [] -> ∃ g, A7 = some ⟨g, 0, none⟩ /\ RowAt wr g 0 11 57 (rowsOf servRow l (mix i rn r0))) /\ Hid (q ≠ [] -> ∃ g, A10 = some ⟨g, 0, none⟩ /\ RowAt wr g 0 4 63 (rowsOf lockRow q s0)) /\ Hid (JobsCopied wr B ws3.heap.size l i rn) /\ Hid (Below w.heap.size w wr) /\ ws3.heap.size <= wr.heap.size) (fun v20 _ => l.length - (intOf v20).toNat)
 case atStart => exact ⟨0, _, rfl, Nat.zero_le _, HSC3, HX3, HZ3, hZ (by rw [mix_zero]; exact HRow7.out), HRow10, hZ (JobsCopied.start _ _ _ _), HB3, Nat.le_refl _⟩
 case round =>
  clear HSC3;obtain ⟨i, rn, rfl, hi, HSC, HXr, HZr, HSr, HLr, HJC, HB, hszr⟩ := hrel;by_cases hlt : i < l.length
  ·obtain ⟨g, rfl, hrow⟩ := HSr.out (by intro e; rw [e] at hlt; simp at hlt);have HRow := hZ hrow;have hgN := HGB.out g rfl;have hgne := fun b (h : A10.map (·.block) = some b) (e : b = g) => HGH.out g b rfl h e.symm
   have HGN := hZ hgne;obtain ⟨hj1, rj, hrj, hpj⟩ := HJ0.out i hlt;have hjl := HLJ.out i hlt
   have cell6 : ∀ {wx : World}, RowAt wx g 0 11 57 (rowsOf servRow l (mix i rn r0)) -> wx.cell? ⟨g, i * 11 + 6, none⟩ = some (.slice (r0 i).1 l[i].f2.length (r0 i).2) := fun h => by
    have := row_cell6 h hlt
    rwa [mix_at] at this
   have set6 : ∀ {wx : World} {A5 : Option Addr} {c5 : Nat}, RowAt wx g 0 11 57 (rowsOf servRow l (mix i rn r0)) -> RowAt (wx.setCell ⟨g, i * 11 + 6, none⟩ (.slice A5 l[i].f2.length c5)) g 0 11 57 (rowsOf servRow l (mix (i + 1) (upd rn i (A5, c5)) r0)) := fun {wx A5 c5} h => by
    have := row_set6 h hlt (A5, c5);rw [mix_succ];exact this
   have b0 : (0 : Int) <= (i : Int) := by omega
   have b1 : (i : Int) < (l.length : Int) := by omega
   clear hrow hgne hj1
   go_upto_region 5 with fail
   refine start_ (n := 13) (S := fun w' => Hid (w'.heap[w.heap.size]? = some (.cells #[.int .i64 M, .int .i64 now, .slice (some ⟨g, 0, none⟩) l.length c7, .slice A10 q.length c10, .slice A13 0 c13] 47 (0, 0))) /\ Hid (RowAt w' g 0 11 57 (rowsOf servRow l (mix i rn r0))) /\ Hid (Below wr.drew.heap.size wr.drew w')) (ds := [12]) #[false, false, false, false, false, false, false, false, false, false, false, false, false] (by kernel_rfl) rfl rfl ⟨(hZ (show wr.drew.heap[w.heap.size]? = _ from HXr.out)), (hZ HRow.out.drew), (hZ (Below.refl wr.drew.heap.size wr.drew))⟩ (fun hHeld => ?_);refine with_tabW cloS.tab5 cloS.bits5 (fun HT_ HW_ => ?_);have hbd : Hid (Below w.heap.size w wr.drew) := hZ (HB.out.trans ⟨rfl, rfl, rfl, Nat.le_refl _, fun _ _ => rfl⟩);have hsd : wr.heap.size = wr.drew.heap.size := rfl;have HJCd := hZ (HJC.out.keep (w2 := wr.drew) (Turn.of_below (fun _ => False) ⟨rfl, rfl, rfl, Nat.le_refl _, fun _ _ => rfl⟩) (fun _ h => h.elim) (by omega));have HZd : Hid (wr.drew.heap[w.heap.size + 1]? = some (.cells #[.int .i64 0, .int .i64 0, .slice none 0 0, .slice none 0 0, .slice none 0 0] 47 (0, 0))) := hZ (show wr.drew.heap[w.heap.size + 1]? = _ from HZr.out);have HSCd := hZ (SerC.drew HSC.out); have HLd : Hid (q ≠ [] -> ∃ g, A10 = some ⟨g, 0, none⟩ /\ RowAt wr.drew g 0 4 63 (rowsOf lockRow q s0)) := hZ (fun h => by obtain ⟨h2, e, hr⟩ := HLr.out h; exact ⟨h2, e, hr.drew⟩);generalize hwd : wr.drew = wd at *;clear hwd;refine pst 0 (some 23) HT_ ?_;refine pst 2 (some 25) HT_ ?_;refine pst 3 (some 26) HT_ ?_;refine pst 5 (some 28) HT_ ?_;refine tst 1 (some 24) HT_ HW_ hHeld ?_ (hy := by (rintro w' ⟨s0, s1, s2⟩; have e2 := (blk_cell s0.out 2).trans rfl; have e6 := cell6 s1.out; clear s0 s1 s2); go_simp; with_reducible rfl);refine tst 4 (some 27) HT_ HW_ hHeld ?_ (hy := by (rintro w' ⟨s0, s1, s2⟩; have e2 := (blk_cell s0.out 2).trans rfl; have e6 := cell6 s1.out; clear s0 s1 s2); go_simp; with_reducible rfl);refine pst 6 (some 29) HT_ ?_;refine pst 7 (some 30) HT_ ?_;refine tst 8 (some 31) HT_ HW_ hHeld ?_ (hy := by (rintro w' ⟨s0, s1, s2⟩; have e2 := (blk_cell s0.out 2).trans rfl; have e6 := cell6 s1.out; clear s0 s1 s2); go_simp; with_reducible rfl);refine one_ (i := 9) (N := some 32) #[true, true, true, true, true, true, true, true, true, true, false, false, false] rfl rfl (one_of HT_.out (by kernel_rfl)) (by decide) (fun K hK => ?_);refine goes_ Tryz.func50 (by kernel_rfl) rfl #[.slice (r0 i).1 l[i].f2.length (r0 i).2] (by rfl) rfl rfl (by simp only [List.map_toArray, List.map_cons, List.map_nil]; rfl) ?_;with_reducible refine (clone125 (r0 i).1 l[i].f2.length (r0 i).2 _ _ (Kd.C_below hrj (((hbd.out.trans (hHeld.2.2.out.mono (by omega)))))) hjl).mono ?_;rintro e w5 ⟨v32, rfl, hR5, hB5⟩;refine ⟨_, rfl, ?_⟩;obtain ⟨A5, c5, e5, hc5, hC5⟩ := Kd.R_reads hR5;rw [rowsOf_len] at e5 hc5;subst e5;have HJS := hZ ((HJCd.out.keep (w2 := _) (Turn.of_below (fun _ => False) hHeld.2.2.out) (fun _ h => h.elim) (by omega)).step hlt hB5 (by have := hHeld.2.2.out.size; omega) (by have := hHeld.2.2.out.size; omega) hR5 hc5 (hpj.below ((hbd.out.trans (hHeld.2.2.out.mono (by omega))).trans (hB5.mono (by have := hHeld.2.2.out.size; omega)))));clear hC5;refine hK.out _ _ ⟨(hZ (blk_below hHeld.1.out hB5)), (hZ (hHeld.2.1.out.below hB5)), (hZ (hHeld.2.2.out.trans (hB5.mono hHeld.2.2.out.size)))⟩ (fun hHeld => ?_);clear hK K;refine norm_ (a' := ?_) ?_ ?_;rotate_left
   ·show Act.put _ (some 32) _ = _;simp only [Act.put, sqA, sqB, sqC, i64_w, i32_w];rfl
   refine pst 10 (some 33) HT_ ?_;refine pst 11 (some 34) HT_ ?_;refine last_ (i := 12) (N := none) #[true, true, true, true, true, true, true, true, true, true, true, true, true] rfl rfl (one_of HT_.out (by kernel_rfl)) (by decide) (fun K hK => ?_);have HX5 := hZ hHeld.1.out;have HRow5 := hZ hHeld.2.1.out;have HB5 := hZ hHeld.2.2.out;have e6 := cell6 hHeld.2.1.out;have z6 := hHeld.2.1.out.free (i * 11 + 6);refine skip_ (w1 := ?_) (by rfl) rfl ?_ ?_;rotate_left
   ·go_simp;rfl
   have HT5 := hZ ((Turn.refl w5 (fun k => k = g)).set rfl (i * 11 + 6) (.slice A5 l[i].f2.length c5));have HRow6 := hZ (set6 HRow5.out (A5 := A5) (c5 := c5));have HSC6 := hZ ((HSCd.out.below HB5.out).set (i * 11 + 6) (.slice A5 l[i].f2.length c5));clear e6 z6;generalize hws : World.setCell _ _ _ = ws at *;clear hws;refine hK.out _ _ ?_;clear hK K;refine done_ (done_of HT_.out (by kernel_rfl)) ?_;have hgs := HB5.out.size;have HX6 := hZ ((HT5.out.block w.heap.size (by omega) (by omega)).trans HX5.out);have HZ6 := hZ ((HT5.out.block (w.heap.size + 1) (by omega) (by omega)).trans ((HB5.out.block (w.heap.size + 1) (by omega)).trans HZd.out))
   have HL6 : Hid (q ≠ [] -> ∃ g, A10 = some ⟨g, 0, none⟩ /\ RowAt ws g 0 4 63 (rowsOf lockRow q s0)) := hZ (fun h => by
    obtain ⟨h2, e, hr⟩ := HLd.out h;exact ⟨h2, e, (hr.below HB5.out).turn HT5.out (HGN.out h2 (by rw [e]; rfl))⟩)
   have HJ6 := hZ (HJS.out.keep HT5.out (fun b hb => by subst hb; omega) (by omega));have HB6 : Hid (Below w.heap.size w ws) := hZ (Turn.below (hbd.out.trans (HB5.out.mono (by omega))) HT5.out (fun k h => by omega) (by omega));have hsz6 : ws3.heap.size <= ws.heap.size := by have := HT5.out.size; omega
   clear HX5 HRow5 HB5 HT5 hHeld hbd hsd HJCd HZd HLd HJS hR5 hB5;go_wp2;go_roundw
   case rel => exact ⟨i + 1, _, by go_num, by omega, HSC6, HX6, HZ6, hZ (fun _ => ⟨g, rfl, HRow6.out⟩), HL6, HJ6, HB6, hsz6⟩
   case measure => first | (simp [intOf]; done) | (simp [intOf]; omega)
  ·have hie : i = l.length := by omega
   subst hie
   have HSr2 : Hid (l ≠ [] -> ∃ g, A7 = some ⟨g, 0, none⟩ /\ RowAt wr g 0 11 57 (rowsOf servRow l rn)) := hZ (fun h => by
    obtain ⟨g, e, hr⟩ := HSr.out h;refine ⟨g, e, ?_⟩;rw [rowsOf_congr (r := rn) (r' := mix l.length rn r0) (fun k hk => by simp [mix, hk])];exact hr)
   have HLr0 : Hid (q ≠ [] -> ∃ g, A10 = some ⟨g, 0, none⟩ /\ RowAt wr g 0 4 63 (rowsOf lockRow q (mix 0 (fun _ => (none, 0)) s0))) := hZ (by rw [mix_zero]; exact HLr.out);clear HSr hlt HLr HX3 HZ3 HRow7 HRow10 HB3;have q3 := (blk_cell HXr.out 3).trans rfl;go_wp2;clear q3;obtain ⟨wq, hwq⟩ : ∃ wq : World, wq = wr := ⟨_, rfl⟩;rw [<- hwq] at hszr;have HQ0w : Hid (QuesCopied wr wq.heap.size q 0 (fun _ => (none, 0))) := hZ (QuesCopied.start _ _ _);have hsq : wq.heap.size <= wr.heap.size := by rw [hwq]; exact Nat.le_refl _
   have hbJ : Hid (∀ k b, ob (rn k) = some b -> ws3.heap.size <= b /\ b < wq.heap.size) := hZ (by rw [hwq]; exact HJC.out.bnd);clear hwq
   go_loopw [39] (fun v39 wr => ∃ (i : Nat) (sn : Nat -> Ref), v39 = .int .i64 i /\ i <= q.length /\ Hid (SerC wr A7 c7) /\ Hid (wr.heap[w.heap.size]? = some (.cells #[.int .i64 M, .int .i64 now, .slice A7 l.length c7, .slice A10 q.length c10, .slice A13 0 c13] 47 (0, 0))) /\ Hid (wr.heap[w.heap.size + 1]? = some (.cells #[.int .i64 0, .int .i64 0, .slice none 0 0, .slice none 0 0, .slice none 0 0] 47 (0, 0))) /\ Hid (l ≠ [] -> ∃ g, A7 = some ⟨g, 0, none⟩ /\ RowAt wr g 0 11 57 (rowsOf servRow l rn)) /\ Hid (q ≠ [] -> ∃ g, A10 = some ⟨g, 0, none⟩ /\ RowAt wr g 0 4 63 (rowsOf lockRow q (mix i sn s0))) /\ Hid (JobsCopied wr B ws3.heap.size l l.length rn) /\ Hid (QuesCopied wr wq.heap.size q i sn) /\ Hid (Below w.heap.size w wr) /\ wq.heap.size <= wr.heap.size) (fun v39 _ => q.length - (intOf v39).toNat)
   case atStart => exact ⟨0, _, rfl, Nat.zero_le _, HSC, HXr, HZr, HSr2, HLr0, HJC, HQ0w, HB, hsq⟩
   case round =>
    clear HSC HXr HZr HSr2 HLr0 HJC HQ0w HB hsq;obtain ⟨i, sn, rfl, hi, HSC, HXr, HZr, HSr, HLr, HJC, HQC, HB, hszr2⟩ := hrel;by_cases hlt : i < q.length
    ·obtain ⟨g, rfl, hrow⟩ := HLr.out (by intro e; rw [e] at hlt; simp at hlt);have HRow := hZ hrow;have hgN := HHB.out g rfl;have HGN := hZ (fun b (h : A7.map (·.block) = some b) => HGH.out b g h rfl);obtain ⟨hj1, hj2⟩ := HQ0.out i hlt;have hrj := raw_of_int hj2;have hjl := HQJ.out i hlt
     have cell2 : ∀ {wx : World}, RowAt wx g 0 4 63 (rowsOf lockRow q (mix i sn s0)) -> wx.cell? ⟨g, i * 4 + 2, none⟩ = some (.slice (s0 i).1 q[i].f2.length (s0 i).2) := fun h => by
      have := row_cell2 h hlt
      rwa [mix_at] at this
     have set2 : ∀ {wx : World} {A5 : Option Addr} {c5 : Nat}, RowAt wx g 0 4 63 (rowsOf lockRow q (mix i sn s0)) -> RowAt (wx.setCell ⟨g, i * 4 + 2, none⟩ (.slice A5 q[i].f2.length c5)) g 0 4 63 (rowsOf lockRow q (mix (i + 1) (upd sn i (A5, c5)) s0)) := fun {wx A5 c5} h => by
      have := row_set2 h hlt (A5, c5);rw [mix_succ];exact this
     have b0 : (0 : Int) <= (i : Int) := by omega
     have b1 : (i : Int) < (q.length : Int) := by omega
     clear hrow hj1
     go_upto_region 10 with fail
     refine start_ (n := 13) (S := fun w' => Hid (w'.heap[w.heap.size]? = some (.cells #[.int .i64 M, .int .i64 now, .slice A7 l.length c7, .slice (some ⟨g, 0, none⟩) q.length c10, .slice A13 0 c13] 47 (0, 0))) /\ Hid (RowAt w' g 0 4 63 (rowsOf lockRow q (mix i sn s0))) /\ Hid (Below wr.drew.heap.size wr.drew w')) (ds := [12]) #[false, false, false, false, false, false, false, false, false, false, false, false, false] (by kernel_rfl) rfl rfl ⟨(hZ (show wr.drew.heap[w.heap.size]? = _ from HXr.out)), (hZ HRow.out.drew), (hZ (Below.refl wr.drew.heap.size wr.drew))⟩ (fun hHeld => ?_);refine with_tabW cloS.tab10 cloS.bits10 (fun HT_ HW_ => ?_);have hbd : Hid (Below w.heap.size w wr.drew) := hZ (HB.out.trans ⟨rfl, rfl, rfl, Nat.le_refl _, fun _ _ => rfl⟩);have hsd : wr.heap.size = wr.drew.heap.size := rfl;have HJCd := hZ (HQC.out.keep (w2 := wr.drew) (Turn.of_below (fun _ => False) ⟨rfl, rfl, rfl, Nat.le_refl _, fun _ _ => rfl⟩) (fun _ h => h.elim));have HZd : Hid (wr.drew.heap[w.heap.size + 1]? = some (.cells #[.int .i64 0, .int .i64 0, .slice none 0 0, .slice none 0 0, .slice none 0 0] 47 (0, 0))) := hZ (show wr.drew.heap[w.heap.size + 1]? = _ from HZr.out);have HSCd := hZ (SerC.drew HSC.out); have HJJd := hZ (HJC.out.keep (w2 := wr.drew) (Turn.of_below (fun _ => False) ⟨rfl, rfl, rfl, Nat.le_refl _, fun _ _ => rfl⟩) (fun _ h => h.elim) (by omega)); have HLd : Hid (l ≠ [] -> ∃ g, A7 = some ⟨g, 0, none⟩ /\ RowAt wr.drew g 0 11 57 (rowsOf servRow l rn)) := hZ (fun h => by obtain ⟨h2, e, hr⟩ := HSr.out h; exact ⟨h2, e, hr.drew⟩);generalize hwd : wr.drew = wd at *;clear hwd;refine pst 0 (some 42) HT_ ?_;refine pst 2 (some 44) HT_ ?_;refine pst 3 (some 45) HT_ ?_;refine pst 5 (some 47) HT_ ?_;refine tst 1 (some 43) HT_ HW_ hHeld ?_ (hy := by (rintro w' ⟨s0_, s1, s2⟩; have e2 := (blk_cell s0_.out 3).trans rfl; have e6 := cell2 s1.out; clear s0_ s1 s2); go_simp; with_reducible rfl);refine tst 4 (some 46) HT_ HW_ hHeld ?_ (hy := by (rintro w' ⟨s0_, s1, s2⟩; have e2 := (blk_cell s0_.out 3).trans rfl; have e6 := cell2 s1.out; clear s0_ s1 s2); go_simp; with_reducible rfl);refine pst 6 (some 48) HT_ ?_;refine pst 7 (some 49) HT_ ?_;refine tst 8 (some 50) HT_ HW_ hHeld ?_ (hy := by (rintro w' ⟨s0_, s1, s2⟩; have e2 := (blk_cell s0_.out 3).trans rfl; have e6 := cell2 s1.out; clear s0_ s1 s2); go_simp; with_reducible rfl);refine one_ (i := 9) (N := some 51) #[true, true, true, true, true, true, true, true, true, true, false, false, false] rfl rfl (one_of HT_.out (by kernel_rfl)) (by decide) (fun K hK => ?_);refine goes_ Tryz.func51 (by kernel_rfl) rfl #[.slice (s0 i).1 q[i].f2.length (s0 i).2] (by rfl) rfl rfl (by simp only [List.map_toArray, List.map_cons, List.map_nil]; rfl) ?_;with_reducible refine (clone3 (s0 i).1 q[i].f2.length (s0 i).2 _ _ (Kd.C_below hrj (((hbd.out.trans (hHeld.2.2.out.mono (by omega)))))) hjl).mono ?_;rintro e w5 ⟨v51, rfl, hR5, hB5⟩;refine ⟨_, rfl, ?_⟩;have hR5 := int_of_raw hR5;obtain ⟨A5, c5, e5, hc5, hC5⟩ := Kd.R_reads hR5;subst e5;have HJS := hZ ((HJCd.out.keep (w2 := _) (Turn.of_below (fun _ => False) hHeld.2.2.out) (fun _ h => h.elim)).step hlt hB5 (by have := hHeld.2.2.out.size; omega) hR5 hc5);clear hC5;refine hK.out _ _ ⟨(hZ (blk_below hHeld.1.out hB5)), (hZ (hHeld.2.1.out.below hB5)), (hZ (hHeld.2.2.out.trans (hB5.mono hHeld.2.2.out.size)))⟩ (fun hHeld => ?_);clear hK K;refine norm_ (a' := ?_) ?_ ?_;rotate_left
     ·show Act.put _ (some 51) _ = _;simp only [Act.put, sqA, sqB, sqC, i64_w, i32_w];rfl
     refine pst 10 (some 52) HT_ ?_;refine pst 11 (some 53) HT_ ?_;refine last_ (i := 12) (N := none) #[true, true, true, true, true, true, true, true, true, true, true, true, true] rfl rfl (one_of HT_.out (by kernel_rfl)) (by decide) (fun K hK => ?_);have HX5 := hZ hHeld.1.out;have HRow5 := hZ hHeld.2.1.out;have HB5 := hZ hHeld.2.2.out;have e6 := cell2 hHeld.2.1.out;have z6 := hHeld.2.1.out.free (i * 4 + 2);refine skip_ (w1 := ?_) (by rfl) rfl ?_ ?_;rotate_left
     ·go_simp;rfl
     have HT5 := hZ ((Turn.refl w5 (fun k => k = g)).set rfl (i * 4 + 2) (.slice A5 q[i].f2.length c5));have HRow6 := hZ (set2 HRow5.out (A5 := A5) (c5 := c5))
     skip
     clear e6 z6;generalize hws : World.setCell _ _ _ = ws at *;clear hws;refine hK.out _ _ ?_;clear hK K;refine done_ (done_of HT_.out (by kernel_rfl)) ?_;have hgs := HB5.out.size;have HX6 := hZ ((HT5.out.block w.heap.size (by omega) (by omega)).trans HX5.out);have HZ6 := hZ ((HT5.out.block (w.heap.size + 1) (by omega) (by omega)).trans ((HB5.out.block (w.heap.size + 1) (by omega)).trans HZd.out))
     have HS6 : Hid (l ≠ [] -> ∃ g, A7 = some ⟨g, 0, none⟩ /\ RowAt ws g 0 11 57 (rowsOf servRow l rn)) := hZ (fun h => by
      obtain ⟨h2, e, hr⟩ := HLd.out h;exact ⟨h2, e, (hr.below HB5.out).turn HT5.out (HGN.out h2 (by rw [e]; rfl))⟩)
     have HSC6 := hZ ((HSCd.out.below HB5.out).turn HT5.out (fun b hb => HGN.out b hb));have HJ6 := hZ ((HJJd.out.keep (w2 := w5) (Turn.of_below (fun _ => False) HB5.out) (fun _ h => h.elim) (by omega)).keep HT5.out (fun b hb => by subst hb; omega) (by omega));have HQ6 := hZ (HJS.out.keep HT5.out (fun b hb => by subst hb; omega));have HB6 : Hid (Below w.heap.size w ws) := hZ (Turn.below (hbd.out.trans (HB5.out.mono (by omega))) HT5.out (fun k h => by omega) (by omega));have hsz6 : wq.heap.size <= ws.heap.size := by have := HT5.out.size; omega
     clear HX5 HRow5 HB5 HT5 hHeld hbd hsd HJCd HZd HLd HJJd HJS hR5 hB5;go_wp2;go_roundw
     case rel => exact ⟨i + 1, _, by go_num, by omega, HSC6, HX6, HZ6, HS6, hZ (fun _ => ⟨g, rfl, HRow6.out⟩), HJ6, HQ6, HB6, hsz6⟩
     case measure => first | (simp [intOf]; done) | (simp [intOf]; omega)
    ·have hie : i = q.length := by omega
     subst hie;have q0 := (blk_cell HXr.out 0).trans rfl;have q1 := (blk_cell HXr.out 1).trans rfl;have q2 := (blk_cell HXr.out 2).trans rfl;have q3 := (blk_cell HXr.out 3).trans rfl;have q4 := (blk_cell HXr.out 4).trans rfl;have z0 := (blk_cell HZr.out 0).trans rfl;have z1 := (blk_cell HZr.out 1).trans rfl;have z2 := (blk_cell HZr.out 2).trans rfl;have z3 := (blk_cell HZr.out 3).trans rfl;have z4 := (blk_cell HZr.out 4).trans rfl;have f0 := blk_frozen HZr.out 0;have f1 := blk_frozen HZr.out 1;have f2 := blk_frozen HZr.out 2;have f3 := blk_frozen HZr.out 3;have f4 := blk_frozen HZr.out 4;have HZ5 := hZ (blk_put (cs' := #[.int .i64 M, .int .i64 now, .slice A7 l.length c7, .slice A10 q.length c10, .slice A13 0 c13]) (blk_put (blk_put (blk_put (blk_put HZr.out 0 (.int .i64 M) rfl) 1 (.int .i64 now) rfl) 2 (.slice A7 l.length c7) rfl) 3 (.slice A10 q.length c10) rfl) 4 (.slice A13 0 c13) rfl);have HT5 := hZ (((((Turn.refl wr (fun k => k = w.heap.size + 1)).set rfl 0 (.int .i64 M)).set rfl 1 (.int .i64 now)).set rfl 2 (.slice A7 l.length c7)).set rfl 3 (.slice A10 q.length c10)).set rfl 4 (.slice A13 0 c13);go_wp2;refine bodyPost_ret (results_cell_row rfl _ _ (w.heap.size + 1) 47 #[.int .i64 M, .int .i64 now, .slice A7 l.length c7, .slice A10 q.length c10, .slice A13 0 c13] (0, 0) _ rfl HZ5.out Tryz.underlying47 rfl (by kernel_rfl)) rfl ?_;generalize hwf : World.setCell _ _ _ = wf at *;clear hwf q0 q1 q2 q3 q4 z0 z1 z2 z3 z4 f0 f1 f2 f3 f4;refine ⟨⟨A7, c7, A10, c10, rn, sn⟩, A13, c13, rfl, ?_⟩
     have hS2 : q ≠ [] -> ∃ g, A10 = some ⟨g, 0, none⟩ /\ RowAt wf g 0 4 63 (rowsOf lockRow q sn) := fun h => by
      obtain ⟨g, e, hr⟩ := HLr.out h;refine ⟨g, e, ?_⟩;rw [rowsOf_congr (r := sn) (r' := mix q.length sn s0) (fun k hk => by simp [mix, hk])];exact hr.turn HT5 (by have := HHB.out g (by rw [e]; rfl); omega)
     have hX2 : l ≠ [] -> ∃ g, A7 = some ⟨g, 0, none⟩ /\ RowAt wf g 0 11 57 (rowsOf servRow l rn) := fun h => by
      obtain ⟨g, e, hr⟩ := HSr.out h;exact ⟨g, e, hr.turn HT5 (by have := HGB.out g (by rw [e]; rfl); omega)⟩
     have hf := HT5.size;obtain ⟨h1, h2, h3⟩ := own_made (w := wf) (m := B) (N := ws3.heap.size) (N2 := wq.heap.size) ⟨hl, hq⟩ hc7 hc10 HLJ.out hX2 hS2 (HJC.out.keep HT5 (fun b hb => by omega) (by omega)) (HQC.out.keep HT5 (fun b hb => by omega)) (fun b hb => by have := HGB.out b hb; omega) (fun b hb => by have := HHB.out b hb; omega) HGH.out hbJ.out (by omega) hszr (by omega);refine ⟨h1, h2, h3, fun cc b hb => ?_, Turn.below HB.out HT5 (fun k h => by omega) (by omega), HSC.out.turn HT5 (fun b hb => by have := HGB.out b hb; omega)⟩
     cases cc with
     | g => have := HGB.out b hb; omega
     | h => have := HHB.out b hb; omega
     | j k => have := hbJ.out k b hb; omega
     | q k => have := HQC.out.bnd k b hb; omega
theorem clone_calls (M now : Int) (A : Option Addr) (l : List S57) (c : Nat) (A2 : Option Addr) (q : List S63) (c2 : Nat) (A3 : Option Addr) (c3 : Nat) (B : Bd) (w : World) (hw : B.n <= w.heap.size) (hr : Rd w B A l A2 q) (hl : l.length <= 100000) (hq : q.length <= 100000) (hlj : ∀ i (h : i < l.length), l[i].f2.length <= 100000) (hqj : ∀ i (h : i < q.length), q[i].f2.length <= 100000) :
  Calls Tryz.prog 25 #[stV M now A l.length c A2 q.length c2 A3 c3] w fun e w' => ∃ o A4 c4, e = .returned (stV M now o.A l.length o.c o.A2 q.length o.c2 A4 c4) /\ Own w' B l q o /\ QueR w' B q o /\ JobR w' B l o /\ (∀ cc b, o.own cc = some b -> w.heap.size <= b) /\ Below w.heap.size w w' :=
 (clone2_calls M now A l c A2 q c2 A3 c3 B w hw hr hl hq hlj hqj).mono fun e w' ⟨o, A4, c4, h1, h2, h3, h4, h5, h6, _⟩ => ⟨o, A4, c4, h1, h2, h3, h4, h5, h6⟩
def refu.T8 : Bool × List (List Nat × List Nat) := (true, [([], []), ([], []), ([1], [1]), ([2], [2]), ([3], [3]), ([], []), ([], []), ([5, 6], [5, 6]), ([7], [7]), ([0, 4, 8], [0, 4, 8]), ([9], [9]), ([10, 9, 0, 1, 2, 3, 4, 5, 6, 7, 8, 9, 10], [10]), ([11, 0, 1, 2, 3, 4, 5, 6, 7, 8, 9, 10, 11], [])])
def refu.B8 : List Nat := [0, 0, 2, 6, 14, 0, 0, 96, 224, 511, 1023, 2047, 4095]
theorem refu.tab8 : rtab .any (opsOf Tryz.f29 8) = refu.T8 := by kernel_rfl
theorem refu.bits8 : waitsOk refu.T8.2 refu.B8 = true := by kernel_rfl
structure ServAt (w : World) (g i : Nat) (x : S57) (p : Ref) : Prop where
 e0 : w.cell? ⟨g, i * 11, none⟩ = some (.int .i64 x.f0)
 e1 : w.cell? ⟨g, i * 11 + 1, none⟩ = some (.int .i64 x.f1.f0)
 e2 : w.cell? ⟨g, i * 11 + 2, none⟩ = some (.int .i64 x.f1.f1)
 e3 : w.cell? ⟨g, i * 11 + 3, none⟩ = some (.int .i64 x.f1.f2)
 e4 : w.cell? ⟨g, i * 11 + 4, none⟩ = some (.int .i64 x.f1.f3)
 e5 : w.cell? ⟨g, i * 11 + 5, none⟩ = some (.int .i64 x.f1.f4)
 e6 : w.cell? ⟨g, i * 11 + 6, none⟩ = some (.slice p.1 x.f2.length p.2)
 e7 : w.cell? ⟨g, i * 11 + 7, none⟩ = some (.int .i64 x.f3)
 e8 : w.cell? ⟨g, i * 11 + 8, none⟩ = some (.int .i64 x.f4)
 e9 : w.cell? ⟨g, i * 11 + 9, none⟩ = some (.int .i64 x.f5)
 e10 : w.cell? ⟨g, i * 11 + 10, none⟩ = some (.int .i64 x.f6)
theorem serv_at {w : World} {g i : Nat} {l : List S57} {r : Nat -> Ref} (h : RowAt w g 0 11 57 (rowsOf servRow l r)) (hi : i < l.length) : ServAt w g i l[i] (r i) := by
 have H : ∀ (j : Nat), j < 11 -> ∀ v, (servRow l[i] (r i))[j]? = some v -> w.cell? ⟨g, i * 11 + j, none⟩ = some v := fun j hj v hv => by
  have := h.cell (i := i) (by rw [rowsOf_len]; exact hi) (j := j) hj (v := v) (by rw [rowsOf_get hi]; exact hv)
  rwa [Nat.zero_add] at this
 exact ⟨H 0 (by omega) _ rfl, H 1 (by omega) _ rfl, H 2 (by omega) _ rfl, H 3 (by omega) _ rfl, H 4 (by omega) _ rfl, H 5 (by omega) _ rfl, H 6 (by omega) _ rfl, H 7 (by omega) _ rfl, H 8 (by omega) _ rfl, H 9 (by omega) _ rfl, H 10 (by omega) _ rfl⟩
theorem serv_set {w : World} {g i j : Nat} {rows : List (List Value)} (h : RowAt w g 0 11 57 rows) {r0 : List Value} (hr : rows[i]? = some r0) (hj : j < 11) (v : Value) : RowAt (w.setCell ⟨g, i * 11 + j, none⟩ v) g 0 11 57 (rows.set i (r0.set j v)) := by
 obtain ⟨hi, e⟩ := List.getElem?_eq_some_iff.1 hr;have := h.set hi hj v;rw [Nat.zero_add, e] at this;exact this
theorem serv_set54 {w : World} {g i : Nat} {l : List S57} {r : Nat -> Ref} (h : RowAt w g 0 11 57 (rowsOf servRow l r)) (hi : i < l.length) (s : S54) :
  RowAt (((((w.setCell ⟨g, i * 11 + 1, none⟩ (.int .i64 s.f0)).setCell ⟨g, i * 11 + 1 + 1, none⟩ (.int .i64 s.f1)).setCell ⟨g, i * 11 + 1 + 2, none⟩ (.int .i64 s.f2)).setCell ⟨g, i * 11 + 1 + 3, none⟩ (.int .i64 s.f3)).setCell ⟨g, i * 11 + 1 + 4, none⟩ (.int .i64 s.f4)) g 0 11 57 ((rowsOf servRow l r).set i (servRow { l[i] with f1 := s } (r i))) := by
 have h0 : (rowsOf servRow l r)[i]? = some (servRow l[i] (r i)) := by rw [List.getElem?_eq_getElem (by rw [rowsOf_len]; exact hi), rowsOf_get hi]
 have hl : i < (rowsOf servRow l r).length := by rw [rowsOf_len]; exact hi
 have h1 := serv_set h h0 (j := 1) (by omega) (.int .i64 s.f0);have h2 := serv_set h1 (i := i) (j := 2) (List.getElem?_set_self hl) (by omega) (.int .i64 s.f1);have h3 := serv_set h2 (i := i) (j := 3) (List.getElem?_set_self (by simpa using hl)) (by omega) (.int .i64 s.f2);have h4 := serv_set h3 (i := i) (j := 4) (List.getElem?_set_self (by simpa using hl)) (by omega) (.int .i64 s.f3);have h5 := serv_set h4 (i := i) (j := 5) (List.getElem?_set_self (by simpa using hl)) (by omega) (.int .i64 s.f4);simp only [List.set_set] at h5;exact h5
theorem at54 {w : World} {g i : Nat} {l : List S57} {r : Nat -> Ref} (h : RowAt w g 0 11 57 (rowsOf servRow l r)) (hi : i < l.length) : w.cell? ⟨g, i * 11 + 1, none⟩ = some (.int .i64 l[i].f1.f0) /\ w.cell? ⟨g, i * 11 + 1 + 1, none⟩ = some (.int .i64 l[i].f1.f1) /\ w.cell? ⟨g, i * 11 + 1 + 2, none⟩ = some (.int .i64 l[i].f1.f2) /\ w.cell? ⟨g, i * 11 + 1 + 3, none⟩ = some (.int .i64 l[i].f1.f3) /\ w.cell? ⟨g, i * 11 + 1 + 4, none⟩ = some (.int .i64 l[i].f1.f4) := by
 obtain ⟨_, r1, r2, r3, r4, r5, _⟩ := serv_at h hi;exact ⟨r1, r2, r3, r4, r5⟩
theorem turn_set54 {w w' : World} {S : Nat -> Prop} (h : Turn w w' S) {g : Nat} (hg : S g) (a : Nat) (v0 v1 v2 v3 v4 : Value) : Turn w (((((w'.setCell ⟨g, a, none⟩ v0).setCell ⟨g, a + 1, none⟩ v1).setCell ⟨g, a + 2, none⟩ v2).setCell ⟨g, a + 3, none⟩ v3).setCell ⟨g, a + 4, none⟩ v4) S :=
 ((((h.set hg _ _).set hg _ _).set hg _ _).set hg _ _).set hg _ _
theorem lock_at {w : World} {g i : Nat} {q : List S63} {r : Nat -> Ref} (h : RowAt w g 0 4 63 (rowsOf lockRow q r)) (hi : i < q.length) : w.cell? ⟨g, i * 4, none⟩ = some (.int .i64 q[i].f0) /\ w.cell? ⟨g, i * 4 + 1, none⟩ = some (.int .i64 q[i].f1) /\ w.cell? ⟨g, i * 4 + 2, none⟩ = some (.slice (r i).1 q[i].f2.length (r i).2) /\ w.cell? ⟨g, i * 4 + 3, none⟩ = some (.bool q[i].f3) := by
 have H : ∀ (j : Nat), j < 4 -> ∀ v, (lockRow q[i] (r i))[j]? = some v -> w.cell? ⟨g, i * 4 + j, none⟩ = some v := fun j hj v hv => by
  have := h.cell (i := i) (by rw [rowsOf_len]; exact hi) (j := j) hj (v := v) (by rw [rowsOf_get hi]; exact hv)
  rwa [Nat.zero_add] at this
 exact ⟨H 0 (by omega) _ rfl, H 1 (by omega) _ rfl, H 2 (by omega) _ rfl, H 3 (by omega) _ rfl⟩
theorem reps_one {w : World} {base : Nat} {ok : Nat -> Prop} {a b c d : Int} : Reps ((Kd.raw 4).M w base ok) (Kd.raw 4).sz [[.int .i64 a, .int .i64 b, .int .i64 c, .int .i64 d]] [.int .i64 a, .int .i64 b, .int .i64 c, .int .i64 d] := by
 refine ⟨rfl, fun i p hp => ?_⟩
 cases i with
 | zero =>
  simp only [List.getElem?_cons_zero, Option.some.injEq] at hp;subst hp;refine ⟨rfl, rfl, fun u hu => ?_⟩;have hu' : u ∈ [(.int .i64 a : Value), .int .i64 b, .int .i64 c, .int .i64 d] := hu;simp only [List.mem_cons, List.not_mem_nil, or_false] at hu';rcases hu' with rfl | rfl | rfl | rfl <;> rfl
 | succ i => simp at hp
structure MOk (M now : Int) (l : List S57) (q : List S63) : Prop where
 sane : Sane M l
 now0 : 0 <= now
 now1 : now <= 1152921504606846976
 cbs : ∀ k (h : k < l.length), CbsOk l[k].f1
 job : ∀ k (h : k < l.length), ∀ j ∈ l[k].f2, JobOk j /\ ∀ s ∈ j.f1, s.f0 <= q.length
 jlen : ∀ k (h : k < l.length), l[k].f2.length <= 8
 mode : ∀ k (h : k < l.length), l[k].f1.f4 ≠ 0 -> l[k].f2 ≠ []
 qlen : q.length <= 8
 most : ∀ k (h : k < q.length), 1 <= q[k].f0 /\ q[k].f0 <= 1048576
 room : ∀ k (h : k < q.length), q[k].f2.length <= 1000
theorem MOk.run {M now : Int} {l : List S57} {q : List S63} (h : MOk M now l q) : RunOk l := by
 intro k hk hm;have h1 := h.mode k hk (by omega)
 cases hx : l[k].f2 with
 | nil => exact absurd hx h1
 | cons j r => exact ⟨j, r, rfl, (h.job k hk j (by rw [hx]; simp)).1⟩
def leB (a b : Ent) : Bool := !b.ltB a
theorem srt_exists (es : List Ent) : ∃ es' : List Ent, es'.Perm es /\ Srt es' es'.length := by
 refine ⟨es.mergeSort leB, List.mergeSort_perm _ _, ?_⟩
 have h := List.pairwise_mergeSort (le := leB) (fun a b c h1 h2 => by
  unfold leB at *;simp only [Bool.not_eq_true', <- Bool.not_eq_true] at *;rw [ltB_iff] at *;exact Ent.le_trans (a := a) (b := b) (c := c) h1 h2) (fun a b => by
  unfold leB
  cases h : b.ltB a
  ·rfl
  ·have h2 : a.ltB b = false := by
    rw [Bool.eq_false_iff];intro h3;rw [ltB_iff] at h h3;exact Ent.lt_irrefl _ (Ent.lt_trans h h3)
   rw [h2]; rfl) es
 intro a b hab hb;generalize es.mergeSort leB = m at *;rw [List.pairwise_iff_getElem] at h;have := h a b (by omega) hb hab;unfold leB at this;simp only [Bool.not_eq_true', <- Bool.not_eq_true] at this;rw [ltB_iff] at this;have ea : atE m a = m[a]'(by omega) := by simp [atE, show a < m.length by omega]
 have eb : atE m b = m[b] := by simp [atE, hb]
 rw [ea, eb];exact this
theorem rank_lt {es : List Ent} {n : Int} (hn : 0 <= n) (hd : (es.map Ent.id).Nodup) : (pickL n es).length <= n.toNat := by
 obtain ⟨es', hp, hs⟩ := srt_exists es;have hne := ne_of_perm hp hd;have hlen := hp.length_eq
 have h1 : (pickL n es).length = (es'.filter (fun e => decide ((rank es e : Int) < n))).length := by
  unfold pickL pickE;rw [List.length_map];exact ((hp.filter _).length_eq).symm
 by_cases hk : n.toNat <= es'.length
 ·have h2 := take_rank hs hne hk
  have h3 : es'.filter (fun e => decide ((rank es e : Int) < n)) = es'.filter (fun e => decide (rank es' e < n.toNat)) := by
   apply List.filter_congr;intro x hx;rw [rank_perm hp];have : ((rank es x : Int) < n) ↔ rank es x < n.toNat := by omega
   exact decide_eq_decide.2 this
  rw [h1, h3, <- h2, List.length_take];omega
 ·rw [h1];refine Nat.le_trans (List.length_filter_le _ _) (by omega)
theorem Own.serv0 {w w' : World} {B : Bd} {l : List S57} {q : List S63} {o : OwnR} {i : Nat} (h : Own w B l q o) (hi : i < l.length) (x : S57) (hx : x.f2 = l[i].f2) {g : Nat} (hg : o.A = some ⟨g, 0, none⟩) (ht : Turn w w' (fun b => b = g)) (hr : RowAt w' g 0 11 57 ((rowsOf servRow l o.r).set i (servRow x (o.r i)))) : Own w' B (l.set i x) q o := by
 have hgo : o.own .g = some g := by show o.A.map _ = _; rw [hg]; rfl
 have h1 := h.serv hi x (o.r i) hg ht hr (by rw [hx]; exact (h.jobs i hi).keep ht (fun b hb => by rw [hb]; exact (h.bnd .g g hgo).1) h.old (fun b hb e => by have := h.apart (.j i) .g b hb (by rw [e]; exact hgo); cases this)) (fun b hb => hb);rw [upd_same] at h1;exact h1
theorem asks_mem {M : Int} {l : List S57} (hs : Sorted l) {p : Nat × Int} (h : p ∈ asksL M l) : ∃ hi : p.1 < l.length, l[p.1].f1.f4 = 1 /\ l[p.1].f3 = 0 /\ p.2 = (servStep l[p.1]).f0 /\ 0 < p.2 := by
 unfold asksL asksOf at h;obtain ⟨i, hi, he⟩ := List.mem_filterMap.1 h;obtain ⟨id, hid, rfl⟩ := List.mem_map.1 hi;obtain ⟨k, hk, rfl, hm⟩ := runs_mem hid;rw [ahead_at hs hk] at he;have hg : l.getD k z57 = l[k] := by simp [hk]
 rw [hg] at he;by_cases ha : asksB l[k] = true
 ·rw [if_pos ha] at he;injection he with he;subst he;unfold asksB at ha;simp only [Bool.and_eq_true, decide_eq_true_eq, beq_iff_eq] at ha;exact ⟨hk, hm, ha.2, rfl, ha.1⟩
 ·rw [if_neg ha] at he
  cases he
def askFails (M now : Int) (l : List S57) (q : List S63) (p : Nat × Int) : Bool := !enoughB M (q.getD (p.2 - 1).toNat z63).f0 (l.getD p.1 z57).f1.f2 ((l.getD p.1 z57).f1.f3 - now)
def refuseL (M now : Int) (l : List S57) (q : List S63) : Option (Nat × Int) := (asksL M l).find? (askFails M now l q)
def waitAt (l : List S57) (i : Nat) : List S57 := l.set i { l.getD i z57 with f1 := { (l.getD i z57).f1 with f4 := 2 } }
def RefuseP (M now : Int) (B : Bd) (l : List S57) (q : List S63) (o : OwnR) (w : World) (e : Ending) (w' : World) : Prop :=
 Turn w w' (fun b => o.own .g = some b) /\ match refuseL M now l q with
 | none => e = .returned (.tuple #[.slice none 0 0, .bool false]) /\ Own w' B l q o
 | some p => ∃ v, e = .returned (.tuple #[v, .bool true]) /\ (Kd.raw 4).R 67 w' w.heap.size (fun _ => True) v [[.int .i64 now, .int .i64 8, .int .i64 (l.getD p.1 z57).f0, .int .i64 p.2]] /\ Own w' B (waitAt l p.1) q o
theorem sem_at {M now : Int} {l : List S57} {q : List S63} (h : MOk M now l q) {p : Nat × Int} (hp : p ∈ asksL M l) : 1 <= p.2 /\ p.2 <= q.length := by
 obtain ⟨hi, hm, h3, he, h0⟩ := asks_mem h.sane.sorted hp;obtain ⟨j, r, hx, hj⟩ := h.run p.1 hi hm;have h1 := (h.job p.1 hi j (by rw [hx]; simp)).2;have e : servStep l[p.1] = stepOf j := by unfold servStep; rw [hx]; rfl
 rw [e] at he;refine ⟨by omega, ?_⟩;rw [he];apply h1;unfold stepOf;have a := hj.at0;have b := hj.atl;obtain ⟨k, hk⟩ : ∃ k : Nat, j.f2 = k := ⟨j.f2.toNat, by omega⟩;rw [hk] at b |-;have hk2 : k < j.f1.length := by omega
 rw [rd72 hk2];exact List.getElem_mem hk2
theorem find_first {α : Type} {p : α -> Bool} {l : List α} {k : Nat} (hk : k < l.length) (h1 : ∀ j (h : j < l.length), j < k -> p l[j] = false) (h2 : p l[k] = true) {x : α} (hx : l[k] = x) : l.find? p = some x := by
 subst hx
 induction l generalizing k with
 | nil => simp at hk
 | cons a r ih =>
  cases k with
  | zero => simp only [List.getElem_cons_zero] at h2; simp [List.find?_cons, h2]
  | succ k =>
   have h3 := h1 0 (by simp) (by omega);simp only [List.getElem_cons_zero] at h3;rw [List.find?_cons, h3];simp only [List.getElem_cons_succ];exact ih (by simpa using hk) (fun j hj hjk => by have := h1 (j + 1) (by simpa using hj) (by omega); simpa using this) h2
theorem refuse_calls (M now : Int) (l : List S57) (q : List S63) (B : Bd) (o : OwnR) (A4 : Option Addr) (c4 : Nat) (w : World) (hO : Own w B l q o) (hk : MOk M now l q) :
  Calls Tryz.prog 29 #[stV M now o.A l.length o.c o.A2 q.length o.c2 A4 c4] w fun e w' => RefuseP M now B l q o w e w' := by
 have D := fun wx (hb : Below w.heap.size w wx) => asks_calls M now o.A l o.c o.A2 q.length o.c2 A4 c4 wx (Kd.C_below hO.reads hb) hk.sane hk.run (rank_lt (by have := hk.sane.m1; omega) (by have := readyL_sorted hk.sane.sorted; rw [List.nodup_iff_pairwise_ne]; exact this.imp (fun h => by omega)))
 have HMEM := hZ (fun p (hp : p ∈ asksL M l) => asks_mem hk.sane.sorted hp);have HSEM := hZ (fun p (hp : p ∈ asksL M l) => sem_at hk hp);have HK := hZ hk;have HO := hZ hO
 have hal : (asksL M l).length <= 12 := by
  unfold asksL asksOf;refine Nat.le_trans (List.length_filterMap_le _ _) ?_;rw [List.length_map];exact Nat.le_trans (pickL_le _ _) (Nat.le_trans (readyL_len l) hk.sane.len)
 have HP : Hid (refuseL M now l q = (asksL M l).find? (askFails M now l q)) := hZ rfl;clear hO hk;have HB0 : Hid (Below w.heap.size w (w.alloc (.cells #[.int .i64 M, .int .i64 now, .slice o.A l.length o.c, .slice o.A2 q.length o.c2, .slice A4 0 c4] 47))) := hZ (below_alloc (Below.refl _ _) _);have HX0 : Hid ((w.alloc (.cells #[.int .i64 M, .int .i64 now, .slice o.A l.length o.c, .slice o.A2 q.length o.c2, .slice A4 0 c4] 47)).heap[w.heap.size]? = some (.cells #[.int .i64 M, .int .i64 now, .slice o.A l.length o.c, .slice o.A2 q.length o.c2, .slice A4 0 c4] 47 (0, 0))) := hZ (blk_new _ _);unfold stV at *;generalize asksL M l = aq at *;go_enter Tryz.func29, Tryz.ntmps29
 go_wp2_with (go_at_call 30; (with_reducible refine (D _ HB0.out).mono ?_); rintro e w1 ⟨A5, c5, A6, c6, rfl, hc5, hc6, hC5, hC6, hba5, hba6, hB1⟩; have HC5 := hZ hC5; have HC6 := hZ hC6; have HX1 := hZ (blk_below HX0.out hB1); have HB1 := hZ (HB0.out.trans (hB1.mono HB0.out.size)); clear hC5 hC6 hB1)
 clear HB0 HX0 D
 go_loopw [16] (fun v16 wr => ∃ (k : Nat), v16 = .int .i64 k /\ k <= aq.length /\ Hid (∀ j (h : j < aq.length), j < k -> askFails M now l q aq[j] = false) /\ Hid (Below w1.heap.size w1 wr)) (fun v16 _ => aq.length - (intOf v16).toNat)
 case atStart => exact ⟨0, rfl, Nat.zero_le _, hZ (fun j _ h => absurd h (by omega)), hZ (Below.refl _ _)⟩
 case round =>
  obtain ⟨k, rfl, hkl, HN, HB⟩ := hrel;by_cases hlt : k < aq.length
  ·obtain ⟨⟨i, sm⟩, hp⟩ : ∃ p, aq[k] = p := ⟨_, rfl⟩;obtain ⟨hi, hm1, hm2, hm3, hm4⟩ := HMEM.out (i, sm) (by rw [<- hp]; exact List.getElem_mem hlt);obtain ⟨hs1, hs2⟩ := HSEM.out (i, sm) (by rw [<- hp]; exact List.getElem_mem hlt);dsimp only at hi hm1 hm2 hm3 hm4 hs1 hs2;clear hm3;have hl1 : ((aq.map fun x => (x.1 : Int)).length) = aq.length := List.length_map _;have hl2 : ((aq.map fun x => x.2).length) = aq.length := List.length_map _;obtain ⟨ad4, rfl, a0⟩ := int_at (l := aq.map fun x => (x.1 : Int)) (by rw [hl1]; exact HC5.out) (k := k) (by rw [hl1]; exact hlt);obtain ⟨ad5, rfl, a1⟩ := int_at (l := aq.map fun x => x.2) (by rw [hl2]; exact HC6.out) (k := k) (by rw [hl2]; exact hlt);simp only [List.getElem_map, hp] at a0 a1;have b0 := (HB.out.cell (World.block_lt_of_cell? w1 _ a0)).trans a0;have b1 := (HB.out.cell (World.block_lt_of_cell? w1 _ a1)).trans a1;have HBW := hZ (HB1.out.trans (HB.out.mono HB1.out.size));have HOr := hZ (HO.out.below HBW.out);obtain ⟨g, hg, hrow⟩ := HOr.out.row (by intro e; rw [e] at hi; simp at hi);obtain ⟨h, hh, hlok⟩ := HOr.out.lok (by intro e; rw [e] at hs2; simp at hs2; omega);obtain ⟨n, hn⟩ : ∃ n : Nat, sm = (n : Int) + 1 := ⟨(sm - 1).toNat, by omega⟩;have hnq : n < q.length := by omega
   obtain ⟨r0, r1, r2, r3, r4, r5, r6, r7, r8, r9, r10⟩ := serv_at hrow hi;obtain ⟨k0, k1, k2, k3⟩ := lock_at hlok hnq;have hmost := HK.out.most n hnq;have hcbs := HK.out.cbs i hi;have hnow0 := HK.out.now0;have hnow1 := HK.out.now1;have hM1 := HK.out.sane.m1;have hM2 := HK.out.sane.m2
   have hfail : askFails M now l q aq[k] = !enoughB M q[n].f0 l[i].f1.f2 (l[i].f1.f3 - now) := by
    rw [hp];unfold askFails;have e1 : (sm - 1).toNat = n := by omega
    simp only [e1];simp [hi, hnq]
   have hwd : IntKind.i64.wrap (l[i].f1.f3 - now) = l[i].f1.f3 - now := by have := hcbs.d0; have := hcbs.dm; rw [i64_w]; unfold Go.RowKit.wrap64; omega
   have hxb := (HB.out.block w.heap.size (blk_lt HX1.out)).trans HX1.out;have q0 := (blk_cell hxb 0).trans rfl;have q1 := (blk_cell hxb 1).trans rfl;have q2 := (blk_cell hxb 2).trans rfl;have q3 := (blk_cell hxb 3).trans rfl;have DE := fun wx => (enough_calls M q[n].f0 l[i].f1.f2 (l[i].f1.f3 - now) wx hM1 hM2 hmost.1 hmost.2).mono (fun _ _ h => (⟨h.1, h.2.symm⟩ : _ /\ _ = wx))
   subst hn;have hq8 := HK.out.qlen;have n1 : IntKind.i64.wrap ((n : Int) + 1 - 1) = (n : Int) := by rw [i64_w]; unfold Go.RowKit.wrap64; omega
   have n0 : (0 : Int) <= (n : Int) := by omega
   have n2 : (n : Int) < (q.length : Int) := by omega
   have i0 : (0 : Int) <= (i : Int) := by omega
   have i1 : (i : Int) < (l.length : Int) := by omega
   have kk0 : (0 : Int) <= (k : Int) := by omega
   have kk1 : (k : Int) < (aq.length : Int) := by omega
   rw [hg] at q2;rw [hh] at q3;have HXB := hZ hxb;have HCB := hZ hcbs;have HF := hZ hfail;clear hxb hcbs hfail a0 a1 hmost hnow0 hnow1 hs1 hs2
   cases hen : enoughB M q[n].f0 l[i].f1.f2 (l[i].f1.f3 - now)
   ·rw [hen] at DE HF;go_wp2;go_quiet (first | (go_at_call 55; refine Calls.quiet_of_same (DE _)));have HB2 : Hid (Below wr.heap.size wr (wr.drewN nq)) := hZ (pw_below_drewN (Below.refl _ _) _)
    have DW : ∀ wx, Calls Tryz.prog 56 #[.agg #[.int .i64 l[i].f1.f0, .int .i64 l[i].f1.f1, .int .i64 l[i].f1.f2, .int .i64 l[i].f1.f3, .int .i64 1]] wx fun e w' => e = .returned (.tuple #[.agg #[.int .i64 l[i].f1.f0, .int .i64 l[i].f1.f1, .int .i64 l[i].f1.f2, .int .i64 l[i].f1.f3, .int .i64 2], .int .i64 0]) /\ Below wx.heap.size wx w' := fun wx => by
     have := wait_calls l[i].f1 wx HCB.out hm1;unfold agg54 at this;rw [hm1] at this;exact this
    generalize wr.drewN nq = w2 at *;have HO2 := hZ (HOr.out.below HB2.out);have HX2 := hZ (blk_below HXB.out HB2.out);have hsm2 := (HB2.out.cell (World.block_lt_of_cell? _ _ b1)).trans b1;clear q0 q1 q2 q3 r0 r1 r2 r3 r4 r5 r6 r7 r8 r9 r10 k0 k1 k2 k3 b0 b1 DE hrow hlok hwd n0 n1 n2;obtain ⟨g', hg', hrow⟩ := HO2.out.row (by intro e; rw [e] at hi; simp at hi);obtain rfl : g = g' := by rw [hg] at hg'; injection hg' with hg'; injection hg'
    obtain ⟨r0, r1, r2, r3, r4, r5, r6, r7, r8, r9, r10⟩ := serv_at hrow hi;have hfr := fun k => hrow.free k
    rw [hm1] at r5
    go_upto_region 8 with (first | (go_at_call 56; (with_reducible refine (DW _).mono ?_); rintro e w3 ⟨rfl, hB3⟩; obtain ⟨s1, s2, s3, s4, s5⟩ := at54 (hrow.below hB3) hi; have hfz := fun k => (hrow.below hB3).free k; have HB3 := hZ hB3; clear hB3))
    have HRow4 := hZ (serv_set54 (hrow.below HB3.out) hi { l[i].f1 with f4 := 2 });have HT4 := hZ (turn_set54 (Turn.refl w3 (fun b => b = g)) rfl (i * 11 + 1) (.int .i64 l[i].f1.f0) (.int .i64 l[i].f1.f1) (.int .i64 l[i].f1.f2) (.int .i64 l[i].f1.f3) (.int .i64 2));generalize hws : World.setCell _ _ _ = w4 at *;clear hws s1 s2 s3 s4 s5 hfz r0 r1 r2 r3 r4 r5 r6 r7 r8 r9 r10 hfr hrow;have hgb := (HO.out.bnd .g g (by show o.A.map _ = _; rw [hg]; rfl)).2;have hs3 := HB3.out.size;have hs2 := HB2.out.size;have HO4 := hZ ((HO2.out.below HB3.out).serv0 hi { l[i] with f1 := { l[i].f1 with f4 := 2 } } rfl hg HT4.out HRow4.out);have hba5' := hba6 ad5 rfl;rw [World.size_alloc] at hba5';have hs1 := HBW.out.size
    have hid4 : w4.cell? ⟨g, i * 11, none⟩ = some (.int .i64 l[i].f0) := by
     have := HRow4.out.cell (i := i) (by rw [List.length_set, rowsOf_len]; exact hi) (j := 0) (by omega) (v := .int .i64 l[i].f0) (by rw [List.getElem_set_self]; rfl)
     rwa [Nat.zero_add, Nat.add_zero] at this
    have HX4 : Hid (w4.heap[w.heap.size]? = some (.cells #[.int .i64 M, .int .i64 now, .slice (some ⟨g, 0, none⟩) l.length o.c, .slice (some ⟨h, 0, none⟩) q.length o.c2, .slice A4 0 c4] 47 (0, 0))) := hZ (by
     rw [<- hg, <- hh];exact (HT4.out.block _ (by have := blk_lt HX2.out; omega) (by omega)).trans ((HB3.out.block _ (blk_lt HX2.out)).trans HX2.out))
    have hsm4 : w4.cell? (ad5.add k) = some (.int .i64 ((n : Int) + 1)) := by
     have h3 := (HB3.out.cell (World.block_lt_of_cell? _ _ hsm2)).trans hsm2;have h4 := World.block_lt_of_cell? _ _ h3;rw [<- h3];simp only [World.cell?, HT4.out.block _ h4 (by rw [add_block]; omega)]
    have HTA : Hid (Turn w w4 (fun b => o.own .g = some b)) := hZ (((Turn.of_below _ HBW.out).trans ((Turn.of_below _ HB2.out).trans (Turn.of_below _ HB3.out))).trans (HT4.out.imp (fun b e => by rw [e]; show o.A.map _ = _; rw [hg]; rfl)));have h0x : (0 : Int) <= (n : Int) + 1 := by omega
    generalize hx0 : l[i].f0 = id0 at *;refine start_ (n := 13) (S := fun w' => Hid (w'.heap[w.heap.size]? = some (.cells #[.int .i64 M, .int .i64 now, .slice (some ⟨g, 0, none⟩) l.length o.c, .slice (some ⟨h, 0, none⟩) q.length o.c2, .slice A4 0 c4] 47 (0, 0))) /\ w'.cell? ⟨g, i * 11, none⟩ = some (.int .i64 id0) /\ w'.cell? (ad5.add k) = some (.int .i64 ((n : Int) + 1)) /\ Hid (Below w4.drew.heap.size w4.drew w')) (ds := []) #[false, false, false, false, false, false, false, false, false, false, false, false, false] (by kernel_rfl) rfl rfl ⟨(hZ (show w4.drew.heap[w.heap.size]? = _ from HX4.out)), (show w4.drew.cell? _ = _ from hid4), (show w4.drew.cell? _ = _ from hsm4), (hZ (Below.refl w4.drew.heap.size w4.drew))⟩ (fun hHeld => ?_);refine with_tabW refu.tab8 refu.bits8 (fun HT_ HW_ => ?_);have hbd := drB w4;generalize hwd : w4.drew = wd at *;clear hwd;refine pst 1 (some 64) HT_ ?_;refine pst 2 (some 65) HT_ ?_;refine pst 3 (some 66) HT_ ?_;refine pst 5 (some 68) HT_ ?_;refine pst 6 (some 69) HT_ ?_;refine pst 7 (some 70) HT_ ?_;refine tst 0 (some 63) HT_ HW_ hHeld ?_ (hy := by (rintro w' ⟨s0, s1, s2, s3⟩; have e0 := (blk_cell s0.out 0).trans rfl; have e1 := (blk_cell s0.out 1).trans rfl; have e2 := (blk_cell s0.out 2).trans rfl; have e3 := (blk_cell s0.out 3).trans rfl; have e4 := (blk_cell s0.out 4).trans rfl; clear s0 s3); go_simp; with_reducible rfl);refine tst 4 (some 67) HT_ HW_ hHeld ?_ (hy := by (rintro w' ⟨s0, s1, s2, s3⟩; have e0 := (blk_cell s0.out 0).trans rfl; have e1 := (blk_cell s0.out 1).trans rfl; have e2 := (blk_cell s0.out 2).trans rfl; have e3 := (blk_cell s0.out 3).trans rfl; have e4 := (blk_cell s0.out 4).trans rfl; clear s0 s3); go_simp; with_reducible rfl);refine tst 8 (some 71) HT_ HW_ hHeld ?_ (hy := by (rintro w' ⟨s0, s1, s2, s3⟩; have e0 := (blk_cell s0.out 0).trans rfl; have e1 := (blk_cell s0.out 1).trans rfl; have e2 := (blk_cell s0.out 2).trans rfl; have e3 := (blk_cell s0.out 3).trans rfl; have e4 := (blk_cell s0.out 4).trans rfl; clear s0 s3); go_simp; with_reducible rfl);refine one_ (i := 9) (N := some 72) #[true, true, true, true, true, true, true, true, true, true, false, false, false] rfl rfl (one_of HT_.out (by kernel_rfl)) (by decide) (fun K hK => ?_);refine goes_ Tryz.func28 (by kernel_rfl) rfl #[stV M now (some ⟨g, 0, none⟩) l.length o.c (some ⟨h, 0, none⟩) q.length o.c2 A4 c4, .int .i64 8, .int .i64 id0, .int .i64 ((n : Int) + 1)] (by rfl) rfl rfl (by simp only [List.map_toArray, List.map_cons, List.map_nil]; rfl) ?_;with_reducible refine (event_calls M now _ _ _ _ _ _ _ _ 8 id0 ((n : Int) + 1) _).mono ?_;rintro e w5 ⟨rfl, hB5⟩;refine ⟨_, rfl, ?_⟩;refine hK.out _ _ ⟨(hZ (blk_below hHeld.1.out hB5)), (hB5.cell (World.block_lt_of_cell? _ _ hHeld.2.1)).trans hHeld.2.1, (hB5.cell (World.block_lt_of_cell? _ _ hHeld.2.2.1)).trans hHeld.2.2.1, (hZ (hHeld.2.2.2.out.trans (hB5.mono hHeld.2.2.2.out.size)))⟩ (fun hHeld => ?_);clear hK K;refine norm_ (a' := ?_) ?_ ?_;rotate_left
    ·show Act.put _ (some 72) _ = _;simp only [Act.put, sqA, sqB, sqC, i64_w, i32_w];rfl
    refine one_ (i := 10) (N := some 73) #[true, true, true, true, true, true, true, true, true, true, true, false, false] rfl rfl (one_of HT_.out (by kernel_rfl)) (by decide) (fun K hK => ?_);refine Kd.R_lit_step (Kd.raw 4) (w0 := w5) w5.heap.size 67 (by rfl) (N := 73) rfl (xs := [[.int .i64 now, .int .i64 8, .int .i64 id0, .int .i64 ((n : Int) + 1)]]) (inner := [.int .i64 now, .int .i64 8, .int .i64 id0, .int .i64 ((n : Int) + 1)]) (ok := fun _ => True) (okp := fun _ => False) ?hr ?hp (fun _ h => h.elim) trivial (Below.refl _ _) (Nat.le_refl _) (by simp) ?_
    (case hr => first | (go_simp; done) | (go_simp; rfl))
    (case hp => exact reps_one)
    intro v73 w6 hR6 hB6 _ _;have HR6 := hZ hR6;have HB56 := hZ hB6;refine hK.out _ _ ⟨(hZ (blk_below hHeld.1.out hB6)), (hB6.cell (World.block_lt_of_cell? _ _ hHeld.2.1)).trans hHeld.2.1, (hB6.cell (World.block_lt_of_cell? _ _ hHeld.2.2.1)).trans hHeld.2.2.1, (hZ (hHeld.2.2.2.out.trans (hB6.mono hHeld.2.2.2.out.size)))⟩ (fun hHeld => ?_);clear hK K;refine norm_ (a' := ?_) ?_ ?_;rotate_left
    ·show Act.put _ (some 73) _ = _;simp only [Act.put, sqA, sqB, sqC, i64_w, i32_w];rfl
    refine pst 11 (some 2) HT_ ?_;refine pst 12 (some 3) HT_ ?_;refine done_ (done_of HT_.out (by kernel_rfl)) ?_;have HBF := hZ (hbd.out.trans (hHeld.2.2.2.out.mono hbd.out.size));have HOF := hZ (HO4.out.below HBF.out);have HTF := hZ (HTA.out.trans (Turn.of_below _ HBF.out));have hbase6 : w.heap.size <= w5.heap.size := by have := HTA.out.size; have := hbd.out.size; have := hB5.size; omega
    have HRF := hZ (Kd.R_lower HR6.out hbase6)
    have HFS : Hid (refuseL M now l q = some (i, (n : Int) + 1)) := hZ (by
     rw [HP.out];refine find_first hlt ?_ ?_ hp
     ·intro j hj hjk; exact HN.out j hj hjk
     ·rw [HF.out]; rfl)
    have HID := hZ hx0;clear hHeld HBF HO4 HTA HR6 HB56 hR6 hB6 hB5 hx0;go_wp2;go_ret2;unfold RefuseP;rw [HFS.out];have e1 : l.getD i z57 = l[i] := by simp [hi]
    refine ⟨HTF.out, v73, rfl, ?_, ?_⟩
    ·show (Kd.raw 4).R 67 _ w.heap.size (fun _ => True) v73 [[.int .i64 now, .int .i64 8, .int .i64 (l.getD i z57).f0, .int .i64 ((n : Int) + 1)]];rw [e1, HID.out];exact HRF.out
    ·show Own _ B (waitAt l i) q o;unfold waitAt;rw [e1];exact HOF.out
   ·rw [hen] at DE HF;go_wp2;go_quiet (first | (go_at_call 55; refine Calls.quiet_of_same (DE _)));go_wp2;go_roundw
    case rel => exact ⟨k + 1, by go_num, by omega, hZ (fun j h hj => by
     by_cases e : j = k
     ·subst e; exact HF.out
     ·exact HN.out j h (by omega)), hZ (pw_below_drewN HB.out _)⟩
    case measure => first | (simp [intOf]; done) | (simp [intOf]; omega)
  ·have hke : k = aq.length := by omega
   subst hke
   have HFN : Hid (refuseL M now l q = none) := hZ (by
    rw [HP.out, List.find?_eq_none];intro x hx;obtain ⟨j, hj, rfl⟩ := List.mem_iff_getElem.1 hx;rw [HN.out j hj hj]; simp)
   have HBW := hZ (HB1.out.trans (HB.out.mono HB1.out.size));go_wp2;go_ret2;unfold RefuseP;rw [HFN.out];exact ⟨Turn.of_below _ HBW.out, rfl, HO.out.below HBW.out⟩
structure Ev where
 at_ : Int
 kind : Int
 who : Int
 n : Int
def Ev.cells (e : Ev) : List Value := [.int .i64 e.at_, .int .i64 e.kind, .int .i64 e.who, .int .i64 e.n]
def turnsB (now : Int) (x : S57) : Bool := decide (x.f1.f4 ≠ 0) && decide (x.f3 = 0) && decide (x.f1.f3 <= now)
def turn1 (now : Int) (x : S57) : S57 := if turnsB now x then { x with f1 := turnS x.f1 now } else x
def turnE (now : Int) (l : List S57) : List Ev := (l.filter (turnsB now)).map fun x => ⟨now, 5, x.f0, 0⟩
def turnUp (now : Int) (l : List S57) (i : Nat) : List S57 := l.mapIdx fun k x => if k < i then turn1 now x else x
def turnL (now : Int) (l : List S57) : List S57 := l.map (turn1 now)
theorem turnUp_len (now : Int) (l : List S57) (i : Nat) : (turnUp now l i).length = l.length := by simp [turnUp]
theorem turnUp_get (now : Int) (l : List S57) {i k : Nat} (hk : k < l.length) {hh : k < (turnUp now l i).length} : (turnUp now l i)[k] = if k < i then turn1 now l[k] else l[k] := by simp [turnUp]
theorem turnUp_zero (now : Int) (l : List S57) : turnUp now l 0 = l := by
 apply List.ext_getElem
 ·rw [turnUp_len]
 ·intro k h1 h2;rw [turnUp_get now l h2, if_neg (by omega)]
theorem turnUp_all (now : Int) (l : List S57) {i : Nat} (hi : l.length <= i) : turnUp now l i = turnL now l := by
 apply List.ext_getElem
 ·rw [turnUp_len]; simp [turnL]
 ·intro k h1 h2;have hk : k < l.length := by rw [turnUp_len] at h1; exact h1
  rw [turnUp_get now l hk, if_pos (by omega)];simp [turnL]
theorem turnUp_at (now : Int) (l : List S57) {i : Nat} (hi : i < l.length) {hh : i < (turnUp now l i).length} : (turnUp now l i)[i] = l[i] := by
 rw [turnUp_get now l hi, if_neg (by omega)]
theorem turnUp_succ (now : Int) (l : List S57) {i : Nat} (hi : i < l.length) : turnUp now l (i + 1) = (turnUp now l i).set i (turn1 now l[i]) := by
 apply List.ext_getElem
 ·rw [List.length_set, turnUp_len, turnUp_len]
 ·intro k h1 h2;have hk : k < l.length := by rw [turnUp_len] at h1; exact h1
  rw [turnUp_get now l hk, List.getElem_set];by_cases e : i = k
  ·subst e; rw [if_pos (by omega), if_pos rfl]
  ·rw [if_neg e, turnUp_get now l hk];by_cases h : k < i
   ·rw [if_pos h, if_pos (by omega)]
   ·rw [if_neg h, if_neg (by omega)]
theorem turnE_take (now : Int) (l : List S57) {i : Nat} (hi : i < l.length) : turnE now (l.take (i + 1)) = turnE now (l.take i) ++ (if turnsB now l[i] then [⟨now, 5, l[i].f0, 0⟩] else []) := by
 unfold turnE;rw [List.take_succ_eq_append_getElem hi, List.filter_append, List.map_append];congr 1
 cases h : turnsB now l[i] <;> simp [h]
def fixd (x : S57) : Bool := (x.f1.f4 == 1) && (x.f3 != 0)
theorem fixes_count (l : List S57) : fixes (readyL l) = l.countP fixd := by
 induction l with
 | nil => rfl
 | cons x r ih =>
  have e : readyL (x :: r) = (if x.f1.f4 == 1 then [entOf x] else []) ++ readyL r := by
   unfold readyL;rw [List.filter_cons];by_cases h1 : (x.f1.f4 == 1) = true
   ·rw [if_pos h1, if_pos h1]; rfl
   ·rw [if_neg h1, if_neg h1]; rfl
  rw [e, List.countP_cons];by_cases h1 : (x.f1.f4 == 1) = true
  ·rw [if_pos h1];show fixes (entOf x :: readyL r) = _;unfold fixes fixd;rw [ih, h1];show (if (x.f3 != 0) = true then 1 else 0) + _ = _ + (if (x.f3 != 0) = true then 1 else 0);exact Nat.add_comm _ _
  ·rw [if_neg h1];have h2 : fixd x = false := by unfold fixd; simp [h1]
   rw [h2];simpa using ih
theorem countP_set_le {p : S57 -> Bool} {l : List S57} {i : Nat} (hi : i < l.length) {x : S57} (h : p x = true -> p l[i] = true) : (l.set i x).countP p <= l.countP p := by
 induction l generalizing i with
 | nil => simp at hi
 | cons a r ih =>
  cases i with
  | zero =>
   simp only [List.set_cons_zero, List.countP_cons];simp only [List.getElem_cons_zero] at h
   cases hp : p x
   ·simp
   ·rw [h hp]; simp
  | succ i =>
   simp only [List.set_cons_succ, List.countP_cons];have := ih (i := i) (by simpa using hi) (by simpa using h);omega
theorem MOk.set {M now : Int} {l : List S57} {q : List S63} (h : MOk M now l q) {i : Nat} (hi : i < l.length) {x : S57} (h0 : x.f0 = l[i].f0) (h1 : CbsOk x.f1) (h2 : x.f2 = l[i].f2) (hm : x.f1.f4 ≠ 0 -> l[i].f1.f4 ≠ 0) (hf : fixd x = true -> fixd l[i] = true) : MOk M now (l.set i x) q where
 sane := by
  refine ⟨h.sane.m1, h.sane.m2, by rw [List.length_set]; exact h.sane.len, ?_, fun k hk => ?_, ?_⟩
  ·have hs := h.sane.sorted;unfold Sorted at *;rw [List.pairwise_iff_getElem] at *;intro a b ha hb hab;have ha' : a < l.length := by simpa using ha
   have hb' : b < l.length := by simpa using hb
   have e : ∀ k (hk : k < l.length), ((l.set i x)[k]'(by simpa using hk)).f0 = l[k].f0 := by
    intro k hk;rw [List.getElem_set];by_cases e : i = k
    ·subst e; rw [if_pos rfl]; exact h0
    ·rw [if_neg e]
   rw [e a ha', e b hb'];exact hs a b ha' hb' hab
  ·have hk' : k < l.length := by simpa using hk
   rw [List.getElem_set];by_cases e : i = k
   ·subst e; rw [if_pos rfl, h0]; exact h.sane.id i hi
   ·rw [if_neg e]; exact h.sane.id k hk'
  ·rw [fixes_count];have := countP_set_le (p := fixd) hi hf;have h3 := h.sane.fix;rw [fixes_count] at h3;omega
 now0 := h.now0
 now1 := h.now1
 cbs := fun k hk => by
  have hk' : k < l.length := by simpa using hk
  rw [List.getElem_set];by_cases e : i = k
  ·subst e; rw [if_pos rfl]; exact h1
  ·rw [if_neg e]; exact h.cbs k hk'
 job := fun k hk => by
  have hk' : k < l.length := by simpa using hk
  rw [List.getElem_set];by_cases e : i = k
  ·subst e; rw [if_pos rfl, h2]; exact h.job i hi
  ·rw [if_neg e]; exact h.job k hk'
 jlen := fun k hk => by
  have hk' : k < l.length := by simpa using hk
  rw [List.getElem_set];by_cases e : i = k
  ·subst e; rw [if_pos rfl, h2]; exact h.jlen i hi
  ·rw [if_neg e]; exact h.jlen k hk'
 mode := fun k hk => by
  have hk' : k < l.length := by simpa using hk
  rw [List.getElem_set];by_cases e : i = k
  ·subst e; rw [if_pos rfl, h2]; exact fun hh => h.mode i hi (hm hh)
  ·rw [if_neg e]; exact h.mode k hk'
 qlen := h.qlen
 most := h.most
 room := h.room
theorem readyS_ok {s : S54} (h : CbsOk { s with f4 := 0 }) : CbsOk (readyS s) := by
 obtain ⟨h1, h2, h3, h4, h5, h6, h7, h8, h9, h10⟩ := h;unfold readyS;dsimp only at *;by_cases hb : s.f2 = 0
 ·rw [if_pos hb];exact ⟨h1, h2, h3, h4, h5, h6, h7, (by first | decide | (show (0 : Int) <= 2; decide) | (show (0 : Int) <= 0; decide)), (by first | decide | (show (2 : Int) <= 2; decide) | (show (0 : Int) <= 2; decide)), fun h => by simp at h⟩
 ·rw [if_neg hb];exact ⟨h1, h2, h3, h4, h5, h6, h7, (by show (0 : Int) <= 1; decide), (by show (1 : Int) <= 2; decide), fun _ => by show 0 < s.f2; omega⟩
theorem turnS_ok {s : S54} {now : Int} (h : CbsOk s) (h0 : 0 <= now) (h1 : now <= 1152921504606846976) (hd : s.f3 <= now) : CbsOk (turnS s now) := by
 obtain ⟨a1, a2, a3, a4, a5, a6, a7, a8, a9, a10⟩ := h;have hp : 1 <= s.f1 := by omega
 have u1 := upT_gt (t := now) (d := s.f3) hp;have u2 := upT_le (t := now) (d := s.f3) hp;unfold turnS;refine readyS_ok ⟨a1, a2, a3, by show 0 <= s.f0; omega, by show s.f0 <= s.f0; omega, by show 0 <= upT now s.f3 s.f1; omega, by show upT now s.f3 s.f1 <= _; omega, (by first | decide | (show (0 : Int) <= 2; decide) | (show (0 : Int) <= 0; decide)), (by first | decide | (show (2 : Int) <= 2; decide) | (show (0 : Int) <= 2; decide)), fun h => by simp at h⟩
theorem turn1_ok {M now : Int} {l : List S57} {q : List S63} (h : MOk M now l q) (i : Nat) : MOk M now (turnUp now l i) q := by
 induction i with
 | zero => rw [turnUp_zero]; exact h
 | succ i ih =>
  by_cases hi : i < l.length
  ·rw [turnUp_succ now l hi];have hi2 : i < (turnUp now l i).length := by rw [turnUp_len]; exact hi
   have e := turnUp_at now l hi (hh := hi2);unfold turn1;by_cases ht : turnsB now l[i] = true
   ·rw [if_pos ht];have ht2 := ht;unfold turnsB at ht2;simp only [Bool.and_eq_true, decide_eq_true_eq] at ht2;refine ih.set hi2 (by rw [e]) (turnS_ok (h.cbs i hi) h.now0 h.now1 ht2.2) (by rw [e]) (fun _ => by rw [e]; exact ht2.1.1) (fun hf => ?_);unfold fixd at hf;simp only [Bool.and_eq_true, bne_iff_ne, ne_eq] at hf;exact absurd ht2.1.2 hf.2
   ·rw [if_neg ht]
    have e2 : (turnUp now l i).set i l[i] = turnUp now l i := by
     rw [<- e];exact List.set_getElem_self hi2
    rw [e2];exact ih
  ·have e3 : turnUp now l (i + 1) = turnUp now l i := by rw [turnUp_all now l (by omega), turnUp_all now l (by omega)]
   rw [e3];exact ih
theorem waitAt_ok {M now : Int} {l : List S57} {q : List S63} (h : MOk M now l q) {i : Nat} (hi : i < l.length) (hm : l[i].f1.f4 = 1) : MOk M now (waitAt l i) q := by
 unfold waitAt;have e : l.getD i z57 = l[i] := by simp [hi]
 rw [e];refine h.set hi rfl ?_ rfl (fun _ => by omega) (fun hf => ?_)
 ·obtain ⟨a1, a2, a3, a4, a5, a6, a7, a8, a9, a10⟩ := h.cbs i hi;exact ⟨a1, a2, a3, a4, a5, a6, a7, (by first | decide | (show (0 : Int) <= 2; decide) | (show (0 : Int) <= 0; decide)), (by first | decide | (show (2 : Int) <= 2; decide) | (show (0 : Int) <= 2; decide)), fun h => by simp at h⟩
 ·unfold fixd at hf;simp at hf
def refAll : Nat -> Int -> Int -> List S57 -> List S63 -> List S57 × List Ev
 | 0, _, _, l, _ => (l, [])
 | n + 1, M, now, l, q => match refuseL M now l q with
  | none => (l, [])
  | some p => ((refAll n M now (waitAt l p.1) q).1, ⟨now, 8, (l.getD p.1 z57).f0, p.2⟩ :: (refAll n M now (waitAt l p.1) q).2)
def readies (l : List S57) : Nat := l.countP (fun x => x.f1.f4 == 1)
theorem readies_wait {l : List S57} {i : Nat} (hi : i < l.length) (hm : l[i].f1.f4 = 1) : readies (waitAt l i) < readies l := by
 unfold readies waitAt;have e : l.getD i z57 = l[i] := by simp [hi]
 rw [e];generalize hx : ({ l[i] with f1 := { l[i].f1 with f4 := 2 } } : S57) = x;have h2 : (x.f1.f4 == 1) = false := by rw [<- hx]; rfl
 clear hx e
 induction l generalizing i with
 | nil => simp at hi
 | cons a r ih =>
  cases i with
  | zero =>
   simp only [List.set_cons_zero, List.countP_cons, h2];simp only [List.getElem_cons_zero] at hm;simp [hm]
  | succ i =>
   simp only [List.set_cons_succ, List.countP_cons];have := ih (i := i) (by simpa using hi) (by simpa using hm);omega
def grant1 (now : Int) (st : List S57 × List S63 × List Ev) (p : Nat × Int) : List S57 × List S63 × List Ev :=
 let v := st.1.getD p.1 z57
 let k := (p.2 - 1).toNat
 let x := st.2.1.getD k z63
 if x.f1 ≠ 0 then (st.1.set p.1 { v with f3 := 1 }, st.2.1.set k { x with f2 := x.f2 ++ [v.f0] }, st.2.2)
 else (st.1.set p.1 { v with f3 := 2, f4 := 0 }, st.2.1.set k { x with f1 := v.f0, f3 := false }, st.2.2 ++ (if x.f3 then [⟨now, 7, v.f0, 0⟩] else []) ++ [⟨now, 6, v.f0, p.2⟩])
def settleL (M now : Int) (l : List S57) (q : List S63) : List S57 × List S63 × List Ev :=
 let a := refAll (l.length + 1) M now (turnL now l) q
 (asksL M a.1).foldl (grant1 now) (a.1, q, turnE now l ++ a.2)
theorem Own.lock {w w' : World} {B : Bd} {l : List S57} {q : List S63} {o : OwnR} {n : Nat} (h : Own w B l q o) (hn : n < q.length) (x : S63) (p : Ref) {h0 : Nat} (hh : o.A2 = some ⟨h0, 0, none⟩) (ht : Turn w w' (fun b => b = h0 \/ o.own (.q n) = some b)) (hr : RowAt w' h0 0 4 63 ((rowsOf lockRow q o.s).set n (lockRow x p))) (hc : x.f2.length <= p.2) (hF : Kd.F (Kd.int .i64) w' (fun b => ob p = some b) p.1 x.f2.length x.f2) (hp : ∀ b, ob p = some b -> (o.own (.q n) = some b \/ w.heap.size <= b) /\ b < w'.heap.size) : Own w' B l (q.set n x) { o with s := upd o.s n p } := by
 have hho : o.own .h = some h0 := by show o.A2.map _ = _; rw [hh]; rfl
 have hhB := (h.bnd .h h0 hho).1
 have hown : ∀ c b, ({ o with s := upd o.s n p } : OwnR).own c = some b -> (c ≠ .q n /\ o.own c = some b) \/ (c = .q n /\ ob p = some b) := by
  intro c b hb
  cases c with
  | g => exact .inl ⟨by simp, hb⟩
  | h => exact .inl ⟨by simp, hb⟩
  | j k => exact .inl ⟨by simp, hb⟩
  | q k =>
   change ob (upd o.s n p k) = some b at hb;by_cases e : k = n
   ·subst e; rw [upd_self] at hb; exact .inr ⟨rfl, hb⟩
   ·rw [upd_ne _ _ e] at hb;exact .inl ⟨by intro e2; injection e2 with e2; exact e e2, hb⟩
 have hne : ∀ c b, c ≠ .h -> c ≠ .q n -> o.own c = some b -> ¬ (b = h0 \/ o.own (.q n) = some b) := by
  rintro c b hc1 hc2 hb (e | e)
  ·exact hc1 (h.apart c .h b hb (by rw [e]; exact hho))
  ·exact hc2 (h.apart c (.q n) b hb e)
 have hSB : ∀ b, (b = h0 \/ o.own (.q n) = some b) -> B <= b := by
  rintro b (e | e)
  ·rw [e]; exact hhB
  ·exact (h.bnd _ b e).1
 refine ⟨by rw [List.length_set]; exact h.max, by rw [List.length_set]; exact h.cap, fun hx => ?_, fun hx => ⟨h0, hh, by rw [rowsOf_set]; exact hr⟩, fun k hk => ?_, fun k hk => ?_, fun c d b hc hd => ?_, fun c b hb => ?_, Nat.le_trans h.old ht.size⟩
 ·obtain ⟨g2, e, hr2⟩ := h.row hx;exact ⟨g2, e, hr2.turn ht (hne .g g2 (by simp) (by simp) (by show o.A.map _ = _; rw [e]; rfl))⟩
 ·exact (h.jobs k hk).keep ht hSB h.old (fun b hb => hne (.j k) b (by simp) (by simp) hb)
 ·have hk2 : k < q.length := by simpa using hk
  show (q.set n x)[k].f2.length <= (upd o.s n p k).2 /\ Kd.F (Kd.int .i64) w' (fun b => ob (upd o.s n p k) = some b) (upd o.s n p k).1 (q.set n x)[k].f2.length (q.set n x)[k].f2;rw [List.getElem_set];by_cases e : n = k
  ·subst e;rw [if_pos rfl, upd_self];exact ⟨hc, hF⟩
  ·rw [if_neg e, upd_ne _ _ (fun h => e h.symm)]
   exact ⟨(h.que k hk2).1, fun W' hW => (h.que k hk2).2 W' (fun b hb hlt => by
    rw [hW b hb (Nat.lt_of_lt_of_le hlt ht.size)];exact ht.block b hlt (hne (.q k) b (by simp) (by intro e2; injection e2 with e2; exact e e2.symm) hb))⟩
 ·rcases hown c b hc with ⟨c1, c2⟩ | ⟨c1, c2⟩ <;> rcases hown d b hd with ⟨d1, d2⟩ | ⟨d1, d2⟩
  ·exact h.apart c d b c2 d2
  ·rcases (hp b d2).1 with e | e
   ·exact absurd (h.apart c (.q n) b c2 e) c1
   ·have := (h.bnd c b c2).2; omega
  ·rcases (hp b c2).1 with e | e
   ·exact absurd (h.apart d (.q n) b d2 e) d1
   ·have := (h.bnd d b d2).2; omega
  ·rw [c1, d1]
 ·rcases hown c b hb with ⟨c1, c2⟩ | ⟨c1, c2⟩
  ·exact ⟨(h.bnd c b c2).1, Nat.lt_of_lt_of_le (h.bnd c b c2).2 ht.size⟩
  ·refine ⟨?_, (hp b c2).2⟩;rcases (hp b c2).1 with e | e
   ·exact (h.bnd _ b e).1
   ·exact Nat.le_trans h.old e
theorem Own.lock0 {w w' : World} {B : Bd} {l : List S57} {q : List S63} {o : OwnR} {n : Nat} (h : Own w B l q o) (hn : n < q.length) (x : S63) (hx : x.f2 = q[n].f2) {h0 : Nat} (hh : o.A2 = some ⟨h0, 0, none⟩) (ht : Turn w w' (fun b => b = h0)) (hr : RowAt w' h0 0 4 63 ((rowsOf lockRow q o.s).set n (lockRow x (o.s n)))) : Own w' B l (q.set n x) o := by
 have hho : o.own .h = some h0 := by show o.A2.map _ = _; rw [hh]; rfl
 have h1 := h.lock hn x (o.s n) hh (ht.imp (fun b e => .inl e)) hr (by rw [hx]; exact (h.que n hn).1) (by
  rw [hx]
  exact fun W' hW => (h.que n hn).2 W' (fun b hb hlt => by
   rw [hW b hb (Nat.lt_of_lt_of_le hlt ht.size)];exact ht.block b hlt (fun e => by have := h.apart (.q n) .h b hb (by rw [e]; exact hho); cases this))) (fun b hb => ⟨.inl hb, Nat.lt_of_lt_of_le (h.bnd (.q n) b hb).2 ht.size⟩)
 have e : ({ o with s := upd o.s n (o.s n) } : OwnR) = o := by rw [upd_same]
 rw [e] at h1;exact h1
theorem QueR.keep {w w' : World} {B : Bd} {l : List S57} {q : List S63} {o : OwnR} {S : Nat -> Prop} (h : QueR w B q o) (ht : Turn w w' S) (hS : ∀ k b, o.own (.q k) = some b -> ¬ S b) : QueR w' B q o :=
 fun k hk => Kd.R_step (h k hk) (fun b hb hlt => ht.block b hlt (hS k b hb))
theorem QueR.set {w' : World} {B : Bd} {q : List S63} {o : OwnR} {n : Nat} {x : S63} {p : Ref} (h : ∀ k (hk : k < q.length), k ≠ n -> (Kd.int .i64).R 3 w' B (fun b => o.own (.q k) = some b) (.slice (o.s k).1 q[k].f2.length (o.s k).2) q[k].f2) (hR : (Kd.int .i64).R 3 w' B (fun b => ob p = some b) (.slice p.1 x.f2.length p.2) x.f2) : QueR w' B (q.set n x) { o with s := upd o.s n p } := by
 intro k hk;have hk2 : k < q.length := by simpa using hk
 show (Kd.int .i64).R 3 w' B (fun b => ob (upd o.s n p k) = some b) (.slice (upd o.s n p k).1 (q.set n x)[k].f2.length (upd o.s n p k).2) (q.set n x)[k].f2;rw [List.getElem_set];by_cases e : n = k
 ·subst e;rw [if_pos rfl, upd_self];exact hR
 ·rw [if_neg e, upd_ne _ _ (fun h => e h.symm)];exact h k hk2 (fun h => e h.symm)
theorem QueR.set0 {w : World} {B : Bd} {q : List S63} {o : OwnR} {n : Nat} (h : QueR w B q o) (hn : n < q.length) (x : S63) (hx : x.f2 = q[n].f2) : QueR w B (q.set n x) o := by
 intro k hk;have hk2 : k < q.length := by simpa using hk
 rw [List.getElem_set];by_cases e : n = k
 ·subst e;rw [if_pos rfl, hx];exact h n hn
 ·rw [if_neg e];exact h k hk2
theorem lock_set {w : World} {g i j : Nat} {rows : List (List Value)} (h : RowAt w g 0 4 63 rows) {r0 : List Value} (hr : rows[i]? = some r0) (hj : j < 4) (v : Value) : RowAt (w.setCell ⟨g, i * 4 + j, none⟩ v) g 0 4 63 (rows.set i (r0.set j v)) := by
 obtain ⟨hi, e⟩ := List.getElem?_eq_some_iff.1 hr;have := h.set hi hj v;rw [Nat.zero_add, e] at this;exact this
theorem rows_at {α : Type} {f : α -> Ref -> List Value} {l : List α} {r : Nat -> Ref} {i : Nat} (h : i < l.length) : (rowsOf f l r)[i]? = some (f l[i] (r i)) := by rw [List.getElem?_eq_getElem (by rw [rowsOf_len]; exact h), rowsOf_get h]
theorem ob_own {p : Ref} {n b : Nat} (h : some b = (Value.slice p.1 n p.2).ownBlock) : ob p = some b := by
 unfold ob
 cases hp : p.1 with
 | none => rw [hp] at h; simp [Value.ownBlock] at h
 | some ad => rw [hp] at h; simpa [Value.ownBlock] using h.symm
theorem own_ob {p : Ref} {n b : Nat} (h : ob p = some b) : (Value.slice p.1 n p.2).ownBlock = some b := by
 unfold ob at h
 cases hp : p.1 with
 | none => rw [hp] at h; simp at h
 | some ad => rw [hp] at h; simpa [Value.ownBlock] using h
structure L3 (C : Bd) (B N N2 : Nat) (bx zr : Array Value) (w0 w2 : World) (o : OwnR) (lk : List S57) (qk : List S63) (ek : List Ev) (v4 : Value) (w3 : World) : Prop where
 X : w3.heap[B]? = some (.cells bx 47 (0, 0))
 Z : w3.heap[B + 1]? = some (.cells zr 47 (0, 0))
 O : Own w3 C lk qk o
 Q : QueR w3 C qk o
 E : (Kd.raw 4).R 67 w3 N (fun _ => True) v4 (ek.map Ev.cells)
 NB : ∀ cc b, o.own cc = some b -> B + 2 <= b /\ (b < N2 \/ w2.heap.size <= b) /\ v4.ownBlock ≠ some b
 VB : ∀ b, v4.ownBlock = some b -> N <= b /\ (b < N2 \/ w2.heap.size <= b)
 T : Turn w2 w3 (fun b => b < N2 \/ w2.heap.size <= b)
 Bl : Below B w0 w3
 hN : B + 2 <= N
 hB : B <= w0.heap.size
 hC : C <= B
section
variable {C : Bd} {B N N2 : Nat} {bx zr : Array Value} {w0 w2 : World} {o : OwnR} {lk : List S57} {qk : List S63} {ek : List Ev} {v4 : Value} {w3 w' : World}
theorem L3.below (h : L3 C B N N2 bx zr w0 w2 o lk qk ek v4 w3) (hb : Below w3.heap.size w3 w') : L3 C B N N2 bx zr w0 w2 o lk qk ek v4 w' where
 X := blk_below h.X hb
 Z := blk_below h.Z hb
 O := h.O.below hb
 Q := fun k hk => Kd.R_below (h.Q k hk) hb
 E := Kd.R_below h.E hb
 NB := h.NB
 VB := h.VB
 T := h.T.trans (Turn.of_below _ hb)
 Bl := h.Bl.trans (hb.mono (Nat.le_trans h.hB h.Bl.size))
 hN := h.hN
 hB := h.hB
 hC := h.hC
theorem L3.turn' {lk' : List S57} {qk' : List S63} {o' : OwnR} (h : L3 C B N N2 bx zr w0 w2 o lk qk ek v4 w3) {S : Nat -> Prop} (ht : Turn w3 w' S) (hS : ∀ b, S b -> ∃ cc, o.own cc = some b) (ho : ∀ cc b, o'.own cc = some b -> (∃ c2, o.own c2 = some b) \/ w3.heap.size <= b) (hO : Own w' C lk' qk' o') (hQ : QueR w' C qk' o') : L3 C B N N2 bx zr w0 w2 o' lk' qk' ek v4 w' where
 X := (ht.block B (blk_lt h.X) (fun e => by obtain ⟨cc, hc⟩ := hS _ e; have := (h.NB cc _ hc).1; omega)).trans h.X
 Z := (ht.block (B + 1) (blk_lt h.Z) (fun e => by obtain ⟨cc, hc⟩ := hS _ e; have := (h.NB cc _ hc).1; omega)).trans h.Z
 O := hO
 Q := hQ
 E := Kd.R_reok rfl (Kd.R_step (Kd.R_tight rfl h.E) (fun b hb hlt => ht.block b hlt (fun e => by obtain ⟨cc, hc⟩ := hS _ e; exact (h.NB cc _ hc).2.2 hb.symm))) (fun _ _ => trivial)
 NB := fun cc b hb => by
  rcases ho cc b hb with ⟨c2, hc⟩ | hge
  ·exact h.NB c2 b hc
  ·have h1 := h.T.size;have h2 := blk_lt h.Z;exact ⟨by omega, .inr (by omega), fun e => by have := Kd.R_lt h.E b e; omega⟩
 VB := h.VB
 T := h.T.trans (ht.imp (fun b e => by obtain ⟨cc, hc⟩ := hS _ e; exact (h.NB cc _ hc).2.1))
 Bl := Turn.below h.Bl ht (fun b e => by obtain ⟨cc, hc⟩ := hS _ e; have := (h.NB cc _ hc).1; omega) (Nat.le_trans h.hB h.Bl.size)
 hN := h.hN
 hB := h.hB
 hC := h.hC
theorem L3.turn {lk' : List S57} {qk' : List S63} (h : L3 C B N N2 bx zr w0 w2 o lk qk ek v4 w3) {S : Nat -> Prop} (ht : Turn w3 w' S) (hS : ∀ b, S b -> ∃ cc, o.own cc = some b) (hO : Own w' C lk' qk' o) (hQ : QueR w' C qk' o) : L3 C B N N2 bx zr w0 w2 o lk' qk' ek v4 w' :=
 h.turn' ht hS (fun cc b hb => .inl ⟨cc, hb⟩) hO hQ
theorem L3.serv (h : L3 C B N N2 bx zr w0 w2 o lk qk ek v4 w3) {i : Nat} (hi : i < lk.length) (x : S57) (hx : x.f2 = lk[i].f2) {g : Nat} (hg : o.A = some ⟨g, 0, none⟩) (ht : Turn w3 w' (fun b => b = g)) (hr : RowAt w' g 0 11 57 ((rowsOf servRow lk o.r).set i (servRow x (o.r i)))) : L3 C B N N2 bx zr w0 w2 o (lk.set i x) qk ek v4 w' := by
 have hgo : o.own .g = some g := by show o.A.map _ = _; rw [hg]; rfl
 refine h.turn ht (fun b e => ⟨.g, by rw [e]; exact hgo⟩) (h.O.serv0 hi x hx hg ht hr) (h.Q.keep (l := lk) ht (fun k b hb e => by have := h.O.apart (.q k) .g b hb (by rw [e]; exact hgo); cases this))
theorem L3.lock0 (h : L3 C B N N2 bx zr w0 w2 o lk qk ek v4 w3) {n : Nat} (hn : n < qk.length) (x : S63) (hx : x.f2 = qk[n].f2) {h0 : Nat} (hh : o.A2 = some ⟨h0, 0, none⟩) (ht : Turn w3 w' (fun b => b = h0)) (hr : RowAt w' h0 0 4 63 ((rowsOf lockRow qk o.s).set n (lockRow x (o.s n)))) : L3 C B N N2 bx zr w0 w2 o lk (qk.set n x) ek v4 w' := by
 have hho : o.own .h = some h0 := by show o.A2.map _ = _; rw [hh]; rfl
 refine h.turn ht (fun b e => ⟨.h, by rw [e]; exact hho⟩) (h.O.lock0 hn x hx hh ht hr) ((h.Q.keep (l := lk) ht (fun k b hb e => by have := h.O.apart (.q k) .h b hb (by rw [e]; exact hho); cases this)).set0 hn x hx)
theorem L3.que (h : L3 C B N N2 bx zr w0 w2 o lk qk ek v4 w3) {n : Nat} (hn : n < qk.length) (x : S63) (p : Ref) {h0 : Nat} (hh : o.A2 = some ⟨h0, 0, none⟩) (ht : Turn w3 w' (fun b => b = h0 \/ o.own (.q n) = some b)) (hr : RowAt w' h0 0 4 63 ((rowsOf lockRow qk o.s).set n (lockRow x p))) (hc : x.f2.length <= p.2) (hR : (Kd.int .i64).R 3 w' C (fun b => ob p = some b) (.slice p.1 x.f2.length p.2) x.f2) (hp : ∀ b, ob p = some b -> o.own (.q n) = some b \/ w3.heap.size <= b) : L3 C B N N2 bx zr w0 w2 { o with s := upd o.s n p } lk (qk.set n x) ek v4 w' := by
 have hho : o.own .h = some h0 := by show o.A2.map _ = _; rw [hh]; rfl
 have hp2 : ∀ b, ob p = some b -> (o.own (.q n) = some b \/ w3.heap.size <= b) /\ b < w'.heap.size := fun b hb => ⟨hp b hb, Kd.R_lt hR b (own_ob hb)⟩
 have hS : ∀ b, (b = h0 \/ o.own (.q n) = some b) -> ∃ cc, o.own cc = some b := fun b e => by
  rcases e with e | e
  ·exact ⟨.h, by rw [e]; exact hho⟩
  ·exact ⟨.q n, e⟩
 have hO := h.O.lock hn x p hh ht hr hc (Kd.R_F hR) hp2;refine h.turn' ht hS (fun cc b hb => ?_) hO (QueR.set (fun k hk hne => Kd.R_step (h.Q k hk) (fun b hb hlt => ht.block b hlt (fun e => ?_))) hR)
 ·cases cc with
  | g => exact .inl ⟨.g, hb⟩
  | h => exact .inl ⟨.h, hb⟩
  | j k => exact .inl ⟨.j k, hb⟩
  | q k =>
   change ob (upd o.s n p k) = some b at hb;by_cases e : k = n
   ·subst e;rw [upd_self] at hb;rcases hp b hb with e | e
    ·exact .inl ⟨_, e⟩
    ·exact .inr e
   ·rw [upd_ne _ _ e] at hb;exact .inl ⟨.q k, hb⟩
 ·rcases e with e | e
  ·have := h.O.apart (.q k) .h b hb (by rw [e]; exact hho); cases this
  ·have := h.O.apart (.q k) (.q n) b hb e; injection this with this; exact hne this
theorem L3.ev (h : L3 C B N N2 bx zr w0 w2 o lk qk ek v4 w3) {w'' : World} {v' : Value} (hb : Below w3.heap.size w3 w') (ht : Turn w' w'' (fun b => some b = v4.ownBlock)) (e : Ev) (hR : (Kd.raw 4).R 67 w'' N (fun _ => True) v' (ek.map Ev.cells ++ [e.cells])) (hat : v'.ownBlock = v4.ownBlock \/ ∃ b, v'.ownBlock = some b /\ w'.heap.size <= b) : L3 C B N N2 bx zr w0 w2 o lk qk (ek ++ [e]) v' w'' := by
 have h1 := h.below hb;have hS : ∀ b, some b = v4.ownBlock -> N <= b /\ (b < N2 \/ w2.heap.size <= b) := fun b e => h.VB b e.symm
 have hsz := h1.T.size;have hN := h.hN;have hCB := h.hC;refine ⟨?_, ?_, ?_, ?_, ?_, ?_, ?_, ?_, ?_, h.hN, h.hB, h.hC⟩
 ·exact (ht.block B (blk_lt h1.X) (fun e => by have := (hS _ e).1; omega)).trans h1.X
 ·exact (ht.block (B + 1) (blk_lt h1.Z) (fun e => by have := (hS _ e).1; omega)).trans h1.Z
 ·exact h1.O.keep ht (fun b e => by have := (hS _ e).1; omega) (fun cc b hc e => (h.NB cc b hc).2.2 e.symm)
 ·exact h1.Q.keep (l := lk) ht (fun k b hb e => (h.NB (.q k) b hb).2.2 e.symm)
 ·rw [List.map_append]; exact hR
 ·intro cc b hc;refine ⟨(h.NB cc b hc).1, (h.NB cc b hc).2.1, fun e => ?_⟩;rcases hat with ha | ⟨b2, hb2, hle⟩
  ·exact (h.NB cc b hc).2.2 (by rw [<- ha]; exact e)
  ·rw [hb2] at e;injection e with e;have := (h1.O.bnd cc b hc).2;omega
 ·intro b hb2;rcases hat with ha | ⟨b2, hb3, hle⟩
  ·exact h.VB b (by rw [<- ha]; exact hb2)
  ·rw [hb3] at hb2;injection hb2 with hb2
   exact ⟨by
    have := Kd.R_base hR b (by rw [hb3, hb2]);exact this, .inr (by omega)⟩
 ·exact h1.T.trans (ht.imp (fun b e => (hS b e).2))
 ·exact Turn.below h1.Bl ht (fun b e => by have := (hS _ e).1; omega) (Nat.le_trans h1.hB h1.Bl.size)
end
end Go.Proofs.YtfimkmlgnmaopaaGreat.Top
