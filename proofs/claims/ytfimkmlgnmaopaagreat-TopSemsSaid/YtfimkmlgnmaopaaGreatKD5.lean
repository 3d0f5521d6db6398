/- Part 5 of what is proved of the functions that the law reaches (contracts of functions, plain laws): no condition but those that each theorem names. -/
import Derived.Test.YtfimkmlgnmaopaaGreatKD4
namespace Go.Proofs.YtfimkmlgnmaopaaGreat.Top
set_option maxHeartbeats 40000000
set_option maxRecDepth 100000
open Go.RowKit Go.Proofs.YtfimkmlgnmaopaaGreatW.PrintWords Go.Proofs.YtfimkmlgnmaopaaGreatW.PrintLast Go.Proofs.YtfimkmlgnmaopaaGreatW.PrintMore Go.Proofs.YtfimkmlgnmaopaaGreat.PTopNames
set_option linter.unusedVariables false
set_option linter.unusedSimpArgs false
def free.T8 : Bool × List (List Nat × List Nat) := (true, [([], []), ([], []), ([1], [1]), ([2], [2]), ([3], [3]), ([0, 4], [0, 4]), ([5], [5]), ([6], [6]), ([6], [6]), ([7, 5, 0, 1, 2, 3, 4, 5, 6, 7], [7]), ([8, 9, 0, 1, 2, 3, 4, 5, 6, 7, 8, 9], [8])])
def free.B8 : List Nat := [0, 0, 2, 6, 14, 31, 63, 127, 127, 255, 1023]
theorem free.tab8 : rtab .any (opsOf Tryz.f110 8) = free.T8 := by kernel_rfl
theorem free.bits8 : waitsOk free.T8.2 free.B8 = true := by kernel_rfl
def free.T9 : Bool × List (List Nat × List Nat) := (true, [([], []), ([0], [0]), ([], []), ([], []), ([3], [3]), ([], []), ([1, 2, 0, 1, 2], [1, 2]), ([6, 0, 1, 2], [6]), ([7, 0, 1, 2], [7]), ([4, 5, 0, 1, 2, 3, 4, 5, 6, 7, 8], [4, 5]), ([9, 0, 1, 2, 3, 4, 5, 6, 7, 8], [9]), ([10, 8, 0, 1, 2, 3, 4, 5, 6, 7, 8], [10])])
def free.B9 : List Nat := [0, 1, 0, 0, 8, 0, 7, 71, 199, 511, 1023, 2047]
theorem free.tab9 : rtab .any (opsOf Tryz.f110 9) = free.T9 := by kernel_rfl
theorem free.bits9 : waitsOk free.T9.2 free.B9 = true := by kernel_rfl
def free.T12 : Bool × List (List Nat × List Nat) := (true, [([], []), ([], []), ([], []), ([2], [2]), ([3], [3]), ([4], [4]), ([1, 5], [1, 5]), ([6], [6]), ([0, 7, 6], [0, 7]), ([8, 8, 0, 1, 2, 3, 4, 5, 6, 7, 8], [0, 8])])
def free.B12 : List Nat := [0, 0, 0, 4, 12, 28, 62, 126, 255, 511]
theorem free.tab12 : rtab .any (opsOf Tryz.f110 12) = free.T12 := by kernel_rfl
theorem free.bits12 : waitsOk free.T12.2 free.B12 = true := by kernel_rfl
def free.T13 : Bool × List (List Nat × List Nat) := (true, [([], []), ([], []), ([], []), ([2], [2]), ([3], [3]), ([4], [4]), ([], []), ([1, 5, 6], [1, 5, 6]), ([7], [7]), ([0, 8, 7], [0, 8]), ([9, 9, 0, 1, 2, 3, 4, 5, 6, 7, 8, 9], [9])])
def free.B13 : List Nat := [0, 0, 0, 4, 12, 28, 0, 126, 254, 511, 1023]
theorem free.tab13 : rtab .any (opsOf Tryz.f110 13) = free.T13 := by kernel_rfl
theorem free.bits13 : waitsOk free.T13.2 free.B13 = true := by kernel_rfl
def freeL (now : Int) (l : List S57) (q : List S63) (n : Nat) (thrown : Bool) : List S57 × List S63 × List Ev :=
 match (q.getD n z63).f2 with
 | [] => (l, q.set n { q.getD n z63 with f1 := 0, f3 := thrown }, [])
 | id :: rest => (l.set (ahead l id) { l.getD (ahead l id) z57 with f3 := 2, f4 := 0 }, q.set n { q.getD n z63 with f1 := id, f2 := rest }, (if thrown then [⟨now, 7, id, 0⟩] else []) ++ [⟨now, 6, id, (n : Int) + 1⟩])
def OwnR.sub (o' o : OwnR) : Prop := o'.A = o.A /\ o'.c = o.c /\ o'.A2 = o.A2 /\ o'.c2 = o.c2 /\ ∀ c b, o'.own c = some b -> o.own c = some b
theorem OwnR.sub_refl (o : OwnR) : o.sub o := ⟨rfl, rfl, rfl, rfl, fun _ _ h => h⟩
theorem OwnR.sub.trans {a b c : OwnR} (h : a.sub b) (k : b.sub c) : a.sub c := ⟨h.1.trans k.1, h.2.1.trans k.2.1, h.2.2.1.trans k.2.2.1, h.2.2.2.1.trans k.2.2.2.1, fun x y z => k.2.2.2.2 x y (h.2.2.2.2 x y z)⟩
def DoneP (B : Bd) (o : OwnR) (l : List S57) (q : List S63) (E : List Ev) (w : World) (e : Ending) (w' : World) : Prop :=
 ∃ o' v, e = .returned v /\ o'.sub o /\ Own w' B l q o' /\ (Kd.raw 4).R 67 w' w.heap.size (fun _ => True) v (E.map Ev.cells) /\ Turn w w' (fun b => ∃ c, o.own c = some b)
theorem serv_get {w : World} {h n j : Nat} {rows : List (List Value)} (H : RowAt w h 0 11 57 rows) {r0 : List Value} (hr : rows[n]? = some r0) (hj : j < 11) {v : Value} (hv : r0[j]? = some v) : w.cell? ⟨h, n * 11 + j, none⟩ = some v := by
 obtain ⟨hi, e⟩ := List.getElem?_eq_some_iff.1 hr;have := H.cell hi hj (v := v) (by rw [e]; exact hv)
 rwa [Nat.zero_add] at this
theorem lock_get {w : World} {h n j : Nat} {rows : List (List Value)} (H : RowAt w h 0 4 63 rows) {r0 : List Value} (hr : rows[n]? = some r0) (hj : j < 4) {v : Value} (hv : r0[j]? = some v) : w.cell? ⟨h, n * 4 + j, none⟩ = some v := by
 obtain ⟨hi, e⟩ := List.getElem?_eq_some_iff.1 hr;have := H.cell hi hj (v := v) (by rw [e]; exact hv)
 rwa [Nat.zero_add] at this
theorem free_calls (M now : Int) (l : List S57) (q : List S63) (B : Bd) (o : OwnR) (A4 : Option Addr) (c4 : Nat) (n : Nat) (thrown : Bool) (w : World) (hO : Own w B l q o) (hs : Sorted l) (hl : l.length <= 12) (hn : n < q.length) (hq8 : q.length <= 8) (hq : ∀ id ∈ q[n].f2, ∃ (p : Nat) (h : p < l.length), l[p].f0 = id) (hqm : q[n].f2.length <= 1000) :
  Calls Tryz.prog 110 #[stV M now o.A l.length o.c o.A2 q.length o.c2 A4 c4, .int .i64 ((n : Int) + 1), .bool thrown] w fun e w' => DoneP B o (freeL now l q n thrown).1 (freeL now l q n thrown).2.1 (freeL now l q n thrown).2.2 w e w' := by
 obtain ⟨h, hh, hlok⟩ := hO.lok (by intro e; rw [e] at hn; simp at hn);have hho : o.own .h = some h := by show o.A2.map _ = _; rw [hh]; rfl
 have hhB := hO.bnd .h h hho;have HO := hI hO;have HH := hI hh;have n1 : IntKind.i64.wrap ((n : Int) + 1 - 1) = (n : Int) := by rw [i64_w]; unfold Go.RowKit.wrap64; omega
 have n0 : (0 : Int) <= (n : Int) := by omega
 have n2 : (n : Int) < (q.length : Int) := by omega
 have HF : Hid (freeL now l q n thrown = match q[n].f2 with
 | [] => (l, q.set n { q[n] with f1 := 0, f3 := thrown }, [])
 | id :: rest => (l.set (ahead l id) { l.getD (ahead l id) z57 with f3 := 2, f4 := 0 }, q.set n { q[n] with f1 := id, f2 := rest }, (if thrown then [⟨now, 7, id, 0⟩] else []) ++ [⟨now, 6, id, (n : Int) + 1⟩])) := hI (by
  unfold freeL;rw [show q.getD n z63 = q[n] by simp [hn]])
 generalize freeL now l q n thrown = fr at *;have HL := hI (hlok.below ((below_alloc (Below.refl w.heap.size w) (.cells #[.int .i64 M, .int .i64 now, .slice o.A l.length o.c, .slice (some ⟨h, 0, none⟩) q.length o.c2, .slice A4 0 c4] 47))));have HX := hI (blk_new w (.cells #[.int .i64 M, .int .i64 now, .slice o.A l.length o.c, .slice (some ⟨h, 0, none⟩) q.length o.c2, .slice A4 0 c4] 47));have HB0 := hI ((below_alloc (Below.refl w.heap.size w) (.cells #[.int .i64 M, .int .i64 now, .slice o.A l.length o.c, .slice (some ⟨h, 0, none⟩) q.length o.c2, .slice A4 0 c4] 47)));unfold stV;rw [hh];clear hlok hO hh;go_enter Tryz.func110, Tryz.ntmps110
 go_upto_region 1 with fail
 generalize hw1 : World.alloc _ _ = w1 at *;clear hw1;obtain ⟨k0, k1, k2, k3⟩ := lock_at HL.out hn;have kf := HL.out.free (n * 4 + 1);have q3 := (blk_cell HX.out 3).trans rfl
 go_upto_region 3 with fail
 have HR2 := hI (lock_set HL.out (rows_at hn) (j := 1) (by omega) (.int .i64 0));have HT2 := hI ((Turn.refl w1 (fun b => b = h)).set rfl (n * 4 + 1) (.int .i64 0));have hrl : n < (rowsOf lockRow q o.s).length := by rw [rowsOf_len]; exact hn
 have k2 := lock_get HR2.out (List.getElem?_set_self hrl) (j := 2) (by omega) (v := .slice (o.s n).1 q[n].f2.length (o.s n).2) rfl;have hX2 := (HT2.out.block w.heap.size (blk_lt HX.out) (by omega)).trans HX.out;have HX2 := hI hX2;generalize hws : World.setCell _ _ _ = w2 at *;clear hws k0 k1 k3 kf q3 hX2 HL HX;have k1 := lock_get HR2.out (List.getElem?_set_self hrl) (j := 1) (by omega) (v := .int .i64 0) rfl;have k3 := lock_get HR2.out (List.getElem?_set_self hrl) (j := 3) (by omega) (v := .bool q[n].f3) rfl;have kf1 := HR2.out.free (n * 4 + 1);have kf2 := HR2.out.free (n * 4 + 2);have kf3 := HR2.out.free (n * 4 + 3)
 cases hx : q[n].f2 with
 | nil =>
  rw [hx] at HF k2;simp only [List.length_nil] at k2;go_wp2;go_ret;have HR3 := lock_set HR2.out (List.getElem?_set_self hrl) (j := 3) (by omega) (.bool thrown);have HT3 := (Turn.refl w2 (fun b => b = h)).set rfl (n * 4 + 3) (.bool thrown);rw [HF.out];refine ⟨o, _, rfl, o.sub_refl, ?_, Kd.R_nil _ _ _ _ _, ?_⟩
  ·refine (HO.out.below HB0.out).lock0 hn { q[n] with f1 := 0, f3 := thrown } rfl HH.out (HT2.out.trans HT3) ?_;rw [List.set_set] at HR3;exact HR3
  ·exact (Turn.of_below _ HB0.out).trans ((HT2.out.trans HT3).imp (fun b e => ⟨.h, by rw [e]; exact hho⟩))
 | cons id rest =>
  rw [hx] at HF k2;obtain ⟨p, hp, hpid⟩ := hq id (by rw [hx]; simp)
  have hC2 : (Kd.int .i64).C w2 (o.s n).1 (id :: rest).length (id :: rest) := by
   have := ((HO.out.below HB0.out).que n hn).2 w2 (fun b hb hlt => HT2.out.block b hlt (fun e => by have := HO.out.apart (.q n) .h b hb (by rw [e]; exact hho); cases this))
   rwa [hx] at this
  have hcap := (HO.out.que n hn).1;rw [hx] at hcap;obtain ⟨ad, had, a0⟩ := int_at hC2 (k := 0) (by simp);rw [had] at k2;simp only [List.length_cons] at k2 hcap;have a0 : w2.cell? ad = some (.int .i64 id) := by simpa [Addr.add] using a0
  have hr0 : (0 : Int) < ((rest.length + 1 : Nat) : Int) := by omega
  go_upto_region 8 with fail
  have HR4 := hI (lock_set (lock_set HR2.out (List.getElem?_set_self hrl) (j := 1) (by omega) (.int .i64 id)) (List.getElem?_set_self (by simpa using hrl)) (j := 2) (by omega) (.slice (if (o.s n).2 = 1 then some ad else some ⟨ad.block, ad.off + 1, none⟩) rest.length ((o.s n).2 - 1)));have HT4 := hI (((Turn.refl w2 (fun b => b = h)).set rfl (n * 4 + 1) (.int .i64 id)).set rfl (n * 4 + 2) (.slice (if (o.s n).2 = 1 then some ad else some ⟨ad.block, ad.off + 1, none⟩) rest.length ((o.s n).2 - 1)))
  have hFq : Kd.F (Kd.int .i64) w1 (fun b => o.own (.q n) = some b) (if (o.s n).2 = 1 then some ad else some ⟨ad.block, ad.off + 1, none⟩) rest.length rest := by
   have := ((HO.out.below HB0.out).que n hn).2;rw [hx] at this;have := Kd.F_cut (d := Kd.int .i64) (m := 1) (c := (o.s n).2) this (by simp) (by simpa using hcap);rw [had] at this;exact this
  have hob : ∀ b, ob (if (o.s n).2 = 1 then some ad else some ⟨ad.block, ad.off + 1, none⟩, (o.s n).2 - 1) = some b ↔ o.own (.q n) = some b := by
   intro b;show _ ↔ ob (o.s n) = some b;unfold ob;rw [had];by_cases e : (o.s n).2 = 1
   ·simp [e]
   ·simp [e]
  generalize hA' : (if (o.s n).2 = 1 then some ad else some ⟨ad.block, ad.off + 1, none⟩) = A' at *;generalize hws : World.setCell _ _ _ = w4 at *;clear hws hA' k1 k2 k3 kf1 kf2 kf3 a0;simp only [List.set_set] at HR4
  have HO4 : Hid (Own w4 B l (q.set n { q[n] with f1 := id, f2 := rest }) { o with s := upd o.s n (A', (o.s n).2 - 1) }) := hI (by
   have hT := HT2.out.trans HT4.out;refine (HO.out.below HB0.out).lock hn { q[n] with f1 := id, f2 := rest } (A', (o.s n).2 - 1) HH.out (hT.imp (fun b e => .inl e)) HR4.out (by show rest.length <= (o.s n).2 - 1; omega) ?_ (fun b hb => ⟨.inl ((hob b).1 hb), ?_⟩)
   ·intro W' hW;refine hFq W' (fun b hb hlt => ?_);rw [hW b ((hob b).2 hb) (Nat.lt_of_lt_of_le hlt hT.size)];exact hT.block b hlt (fun e => by have := HO.out.apart (.q n) .h b hb (by rw [e]; exact hho); cases this)
   ·have := (HO.out.bnd (.q n) b ((hob b).1 hb)).2;have := HB0.out.size;have := hT.size;omega)
  have hsub : ({ o with s := upd o.s n (A', (o.s n).2 - 1) } : OwnR).sub o := by
   refine ⟨rfl, rfl, rfl, rfl, fun c b hc => ?_⟩
   cases c with
   | g => exact hc
   | h => exact hc
   | j k => exact hc
   | q k =>
    change ob (upd o.s n (A', (o.s n).2 - 1) k) = some b at hc;by_cases e : k = n
    ·subst e; rw [upd_self] at hc; exact (hob b).1 hc
    ·rw [upd_ne _ _ e] at hc; exact hc
  have HSUB := hI hsub;have hk4 := lock_get HR4.out (List.getElem?_set_self hrl) (j := 1) (by omega) (v := .int .i64 id) rfl
  obtain ⟨g, hg⟩ : ∃ g, o.A = some ⟨g, 0, none⟩ := by
   obtain ⟨g, hg, _⟩ := HO.out.row (by intro e; rw [e] at hp; simp at hp);exact ⟨g, hg⟩
  have hgo : o.own .g = some g := by show o.A.map _ = _; rw [hg]; rfl
  have hgB := HO.out.bnd .g g hgo;have HG := hI hg
  have HX4 : Hid (w4.heap[w.heap.size]? = some (.cells #[.int .i64 M, .int .i64 now, .slice (some ⟨g, 0, none⟩) l.length o.c, .slice (some ⟨h, 0, none⟩) q.length o.c2, .slice A4 0 c4] 47 (0, 0))) := hI (by
   have := (HT4.out.block w.heap.size (blk_lt HX2.out) (by omega)).trans HX2.out;rw [hg] at this;exact this)
  have HTA : Hid (Turn w w4 (fun b => ∃ c, o.own c = some b)) := hI ((Turn.of_below _ HB0.out).trans ((HT2.out.trans HT4.out).imp (fun b e => ⟨.h, by rw [e]; exact hho⟩)));have DA := fun wx (hb : Below w4.heap.size w4 wx) => at_calls M now o.A o.c l (.slice (some ⟨h, 0, none⟩) q.length o.c2) (.slice A4 0 c4) id wx (HO4.out.below hb).reads hs (by omega) ⟨_, _, _, rfl⟩ ⟨_, _, _, rfl⟩
  have hpa : ahead l id = p := by rw [<- hpid]; exact ahead_at hs hp
  rw [hg, hpa] at DA;dsimp only at HF;rw [hpa, show l.getD p z57 = l[p] by simp [hp]] at HF;rw [hg];clear HT2 HT4 HR2 HX2 hob hFq had hC2 hcap hr0 n1 hg HR4;refine start_ (n := 11) (S := fun w' => Hid (w'.heap[w.heap.size]? = some (.cells #[.int .i64 M, .int .i64 now, .slice (some ⟨g, 0, none⟩) l.length o.c, .slice (some ⟨h, 0, none⟩) q.length o.c2, .slice A4 0 c4] 47 (0, 0))) /\ w'.cell? ⟨h, n * 4 + 1, none⟩ = some (.int .i64 id) /\ Hid (Below w4.drew.heap.size w4.drew w')) (ds := []) #[false, false, false, false, false, false, false, false, false, false, false] (by kernel_rfl) rfl rfl ⟨(hI (show w4.drew.heap[w.heap.size]? = _ from HX4.out)), (show w4.drew.cell? _ = _ from hk4), (hI (Below.refl w4.drew.heap.size w4.drew))⟩ (fun hHeld => ?_);refine with_tabW free.tab8 free.bits8 (fun HT_ HW_ => ?_);have hbd : Hid (Below w4.heap.size w4 w4.drew) := hI ⟨rfl, rfl, rfl, Nat.le_refl _, fun _ _ => rfl⟩;have hsd : w4.heap.size = w4.drew.heap.size := rfl;generalize hwd : w4.drew = wd at *;clear hwd;refine pst 1 (some 48) HT_ ?_;refine pst 2 (some 49) HT_ ?_;refine pst 3 (some 50) HT_ ?_;refine tst 0 (some 47) HT_ HW_ hHeld ?_ (hy := by (rintro w' ⟨s0, s1, s2⟩; have e0 := (blk_cell s0.out 0).trans rfl; have e1 := (blk_cell s0.out 1).trans rfl; have e2 := (blk_cell s0.out 2).trans rfl; have e3 := (blk_cell s0.out 3).trans rfl; have e4 := (blk_cell s0.out 4).trans rfl); go_simp; with_reducible rfl);refine tst 4 (some 51) HT_ HW_ hHeld ?_ (hy := by (rintro w' ⟨s0, s1, s2⟩; have e0 := (blk_cell s0.out 0).trans rfl; have e1 := (blk_cell s0.out 1).trans rfl; have e2 := (blk_cell s0.out 2).trans rfl; have e3 := (blk_cell s0.out 3).trans rfl; have e4 := (blk_cell s0.out 4).trans rfl); go_simp; with_reducible rfl);refine one_ (i := 5) (N := some 52) #[true, true, true, true, true, true, false, false, false, false, false] rfl rfl (one_of HT_.out (by kernel_rfl)) (by decide) (fun K hK => ?_);refine goes_ Tryz.func32 (by kernel_rfl) rfl #[.agg #[.int .i64 M, .int .i64 now, .slice (some ⟨g, 0, none⟩) l.length o.c, .slice (some ⟨h, 0, none⟩) q.length o.c2, .slice A4 0 c4], .int .i64 id] (by rfl) rfl rfl (by simp only [List.map_toArray, List.map_cons, List.map_nil]; rfl) ?_;with_reducible refine (DA _ (hbd.out.trans (hHeld.2.2.out.mono hbd.out.size))).mono ?_;rintro e w5 ⟨rfl, hB5⟩;refine ⟨_, rfl, ?_⟩;refine hK.out _ _ ⟨(hI (blk_below hHeld.1.out hB5)), ((hB5.cell (World.block_lt_of_cell? _ _ hHeld.2.1)).trans hHeld.2.1), (hI (hHeld.2.2.out.trans (hB5.mono hHeld.2.2.out.size)))⟩ (fun hHeld => ?_);clear hK K;refine norm_ (a' := ?_) ?_ ?_;rotate_left
  ·show Act.put _ (some 52) _ = _;simp only [Act.put, List.setIfInBounds_toArray, List.set_cons_zero, List.set_cons_succ, i64_w, i32_w];rfl
  refine pst 6 (some 46) HT_ ?_;refine pst 7 (some 53) HT_ ?_;refine pst 8 (some 54) HT_ ?_;refine pst 9 (some 8) HT_ ?_;refine pst 10 (some 9) HT_ ?_;refine done_ (done_of HT_.out (by kernel_rfl)) ?_;have HB5 := hI (hbd.out.trans (hHeld.2.2.out.mono hbd.out.size));have HO5 := hI (HO4.out.below HB5.out);have HX5 := hHeld.1;have hk5 := hHeld.2.1;have HRow5 := hI (HO5.out.cells hp HG.out).1;have hpl : p < (rowsOf servRow l o.r).length := by rw [rowsOf_len]; exact hp
  have p0 : (0 : Int) <= (p : Int) := by omega
  have p1 : (p : Int) < (l.length : Int) := by omega
  have hs5 : w.heap.size < w5.heap.size := blk_lt HX5.out;clear hHeld hbd hsd hB5 HO4 HX4 DA hk4
  go_upto_region 9 with fail
  refine start_ (n := 12) (S := fun w' => Hid (w'.heap[w.heap.size]? = some (.cells #[.int .i64 M, .int .i64 now, .slice (some ⟨g, 0, none⟩) l.length o.c, .slice (some ⟨h, 0, none⟩) q.length o.c2, .slice A4 0 c4] 47 (0, 0)))) (ds := [11]) #[false, false, false, false, false, false, false, false, false, false, false, false] (by kernel_rfl) rfl rfl ((hI (show w5.drew.heap[w.heap.size]? = _ from HX5.out))) (fun hHeld => ?_);refine with_tabW free.tab9 free.bits9 (fun HT_ HW_ => ?_);have HRow5d := hI HRow5.out.drew;have hbd : Hid (Below w5.heap.size w5 w5.drew) := hI ⟨rfl, rfl, rfl, Nat.le_refl _, fun _ _ => rfl⟩;have hsd : w5.heap.size = w5.drew.heap.size := rfl;generalize hwd : w5.drew = wd at *;clear hwd;refine pst 0 (some 55) HT_ ?_;refine pst 2 (some 57) HT_ ?_;refine pst 3 (some 58) HT_ ?_;refine pst 5 (some 60) HT_ ?_;refine tst 1 (some 56) HT_ HW_ hHeld ?_ (hy := by (intro w' s0; have e0 := (blk_cell s0.out 0).trans rfl; have e1 := (blk_cell s0.out 1).trans rfl; have e2 := (blk_cell s0.out 2).trans rfl; have e3 := (blk_cell s0.out 3).trans rfl; have e4 := (blk_cell s0.out 4).trans rfl); go_simp; with_reducible rfl);refine pst 6 (some 61) HT_ ?_;refine pst 7 (some 62) HT_ ?_;refine tst 4 (some 59) HT_ HW_ hHeld ?_ (hy := by (intro w' s0; have e0 := (blk_cell s0.out 0).trans rfl; have e1 := (blk_cell s0.out 1).trans rfl; have e2 := (blk_cell s0.out 2).trans rfl; have e3 := (blk_cell s0.out 3).trans rfl; have e4 := (blk_cell s0.out 4).trans rfl); go_simp; with_reducible rfl);refine one_ (i := 8) (N := none) #[true, true, true, true, true, true, true, true, true, false, false, false] rfl rfl (one_of HT_.out (by kernel_rfl)) (by decide) (fun K hK => ?_);have y0 := (serv_at HRow5d.out hp).e7;have y1 := HRow5d.out.free (p * 11 + 7);refine skip_ (w1 := ?_) (by rfl) rfl ?_ ?_;rotate_left
  ·go_simp;rfl
  have HR8 := hI (serv_set HRow5d.out (rows_at hp) (j := 7) (by omega) (.int .i64 2));have HT8 := hI ((Turn.refl wd (fun b => b = g)).set rfl (p * 11 + 7) (.int .i64 2));clear y0 y1;generalize hws : World.setCell _ _ _ = w6 at *;clear hws;refine hK.out _ _ ((hI ((HT8.out.block _ (blk_lt hHeld.out) (by omega)).trans hHeld.out))) (fun hHeld => ?_);clear hK K;refine pst 9 (some 63) HT_ ?_;refine pst 10 (some 64) HT_ ?_;refine last_ (i := 11) (N := none) #[true, true, true, true, true, true, true, true, true, true, true, true] rfl rfl (one_of HT_.out (by kernel_rfl)) (by decide) (fun K hK => ?_);have y0 := serv_get HR8.out (List.getElem?_set_self hpl) (j := 8) (by omega) (v := .int .i64 l[p].f4) rfl;have y1 := HR8.out.free (p * 11 + 8);refine skip_ (w1 := ?_) (by rfl) rfl ?_ ?_;rotate_left
  ·go_simp;rfl
  have HR9 := hI (serv_set HR8.out (List.getElem?_set_self hpl) (j := 8) (by omega) (.int .i64 0));have HT9 := hI ((Turn.refl w6 (fun b => b = g)).set rfl (p * 11 + 8) (.int .i64 0));clear y0 y1;generalize hws : World.setCell _ _ _ = w7 at *;clear hws;refine hK.out _ _ ?_;clear hK K;refine done_ (done_of HT_.out (by kernel_rfl)) ?_;have hTD : Turn w5 w7 (fun b => b = g) := ((Turn.of_below _ hbd.out).trans HT8.out).trans HT9.out;have HTD := hI hTD
  have HO7 : Hid (Own w7 B (l.set p { l[p] with f3 := 2, f4 := 0 }) (q.set n { q[n] with f1 := id, f2 := rest }) { o with s := upd o.s n (A', (o.s n).2 - 1) }) := hI (by
   refine HO5.out.serv0 hp { l[p] with f3 := 2, f4 := 0 } rfl HG.out hTD ?_;have := HR9.out;rw [List.set_set] at this;exact this)
  have hne : h ≠ g := fun e => by have := HO.out.apart .h .g h hho (by rw [e]; exact hgo); cases this
  have HX8 := hI ((hTD.block _ (blk_lt HX5.out) (by omega)).trans HX5.out)
  have hk8 : w7.cell? ⟨h, n * 4 + 1, none⟩ = some (.int .i64 id) := by
   rw [<- hk5];simp only [World.cell?, hTD.block h (World.block_lt_of_cell? _ _ hk5) hne]
  have HTB : Hid (Turn w w7 (fun b => ∃ c, o.own c = some b)) := hI (HTA.out.trans ((Turn.of_below _ HB5.out).trans (hTD.imp (fun b e => ⟨.g, by rw [e]; exact hgo⟩))));have HE8 : Hid ((Kd.raw 4).R 67 w7 w.heap.size (fun _ => True) (.slice none 0 0) []) := hI (Kd.R_nil _ _ _ _ _);have hs7 : w.heap.size <= w7.heap.size := HTB.out.size;clear HT8 HT9 HR8 HR9 hTD HO5 HX5 hk5 HRow5 HRow5d hbd hsd hHeld HTA HB5 p0 p1;have HOB : Hid (∀ cc b, o.own cc = some b -> b < w.heap.size) := hI (fun cc b hc => (HO.out.bnd cc b hc).2)
  cases thrown
  ·go_upto_region 13 with fail
   refine start_ (n := 11) (S := fun w' => Hid (w'.heap[w.heap.size]? = some (.cells #[.int .i64 M, .int .i64 now, .slice (some ⟨g, 0, none⟩) l.length o.c, .slice (some ⟨h, 0, none⟩) q.length o.c2, .slice A4 0 c4] 47 (0, 0))) /\ w'.cell? ⟨h, n * 4 + 1, none⟩ = some (.int .i64 id) /\ Hid ((Kd.raw 4).R 67 w' w.heap.size (fun _ => True) (.slice none 0 0) ([] : List (List Value))) /\ Hid (Below w7.drew.heap.size w7.drew w')) (ds := [9]) #[false, false, false, false, false, false, false, false, false, false, false] (by kernel_rfl) rfl rfl ⟨(hI (show w7.drew.heap[w.heap.size]? = _ from HX8.out)), (show w7.drew.cell? _ = _ from hk8), (hI (Kd.R_drew HE8.out)), (hI (Below.refl w7.drew.heap.size w7.drew))⟩ (fun hHeld => ?_);refine with_tabW free.tab13 free.bits13 (fun HT_ HW_ => ?_);have hbd : Hid (Below w7.heap.size w7 w7.drew) := hI ⟨rfl, rfl, rfl, Nat.le_refl _, fun _ _ => rfl⟩;have hsd : w7.heap.size = w7.drew.heap.size := rfl;generalize hwd : w7.drew = wd at *;clear hwd;refine pst 0 (some 75) HT_ ?_;refine pst 2 (some 77) HT_ ?_;refine pst 3 (some 78) HT_ ?_;refine pst 4 (some 79) HT_ ?_;refine pst 6 (some 81) HT_ ?_;refine tst 1 (some 76) HT_ HW_ hHeld ?_ (hy := by (rintro w' ⟨s0, s1, s2, s3⟩; have e0 := (blk_cell s0.out 0).trans rfl; have e1 := (blk_cell s0.out 1).trans rfl; have e2 := (blk_cell s0.out 2).trans rfl; have e3 := (blk_cell s0.out 3).trans rfl; have e4 := (blk_cell s0.out 4).trans rfl); go_simp; with_reducible rfl);refine tst 5 (some 80) HT_ HW_ hHeld ?_ (hy := by (rintro w' ⟨s0, s1, s2, s3⟩; have e0 := (blk_cell s0.out 0).trans rfl; have e1 := (blk_cell s0.out 1).trans rfl; have e2 := (blk_cell s0.out 2).trans rfl; have e3 := (blk_cell s0.out 3).trans rfl; have e4 := (blk_cell s0.out 4).trans rfl); go_simp; with_reducible rfl);refine one_ (i := 7) (N := some 82) #[true, true, true, true, true, true, true, true, false, false, false] rfl rfl (one_of HT_.out (by kernel_rfl)) (by decide) (fun K hK => ?_);refine goes_ Tryz.func28 (by kernel_rfl) rfl #[stV M now (some ⟨g, 0, none⟩) l.length o.c (some ⟨h, 0, none⟩) q.length o.c2 A4 c4, .int .i64 6, .int .i64 id, .int .i64 ((n : Int) + 1)] (by rfl) rfl rfl (by simp only [List.map_toArray, List.map_cons, List.map_nil]; rfl) ?_;with_reducible refine (event_calls _ _ _ _ _ _ _ _ _ _ 6 id ((n : Int) + 1) _).mono ?_;rintro e w9 ⟨rfl, hB9⟩;refine ⟨_, rfl, ?_⟩;refine hK.out _ _ ⟨(hI (blk_below hHeld.1.out hB9)), ((hB9.cell (World.block_lt_of_cell? _ _ hHeld.2.1)).trans hHeld.2.1), (hI (Kd.R_below hHeld.2.2.1.out hB9)), (hI (hHeld.2.2.2.out.trans (hB9.mono hHeld.2.2.2.out.size)))⟩ (fun hHeld => ?_);clear hK K;refine norm_ (a' := ?_) ?_ ?_;rotate_left
   ·show Act.put _ (some 82) _ = _;simp only [Act.put, List.setIfInBounds_toArray, List.set_cons_zero, List.set_cons_succ, i64_w, i32_w];rfl
   refine one_ (i := 8) (N := some 83) #[true, true, true, true, true, true, true, true, true, false, false] rfl rfl (one_of HT_.out (by kernel_rfl)) (by decide) (fun K hK => ?_);refine Kd.R_lit_step (Kd.raw 4) (w0 := w9) w9.heap.size 67 (by rfl) (N := 83) rfl (xs := [[.int .i64 now, .int .i64 6, .int .i64 id, .int .i64 ((n : Int) + 1)]]) (inner := [.int .i64 now, .int .i64 6, .int .i64 id, .int .i64 ((n : Int) + 1)]) (ok := fun _ => True) (okp := fun _ => False) ?hr ?hp (fun _ h => h.elim) trivial (Below.refl _ _) (Nat.le_refl _) (by simp) ?_
   (case hr => first | (go_simp; done) | (go_simp; rfl))
   (case hp => exact reps_one)
   intro vL w10 hR10 hB10 _ _;obtain ⟨AL, cL, eL, hcL, hCL⟩ := Kd.R_reads hR10;subst eL;refine hK.out _ _ ⟨(hI (blk_below hHeld.1.out hB10)), ((hB10.cell (World.block_lt_of_cell? _ _ hHeld.2.1)).trans hHeld.2.1), (hI (Kd.R_below hHeld.2.2.1.out hB10)), (hI (hHeld.2.2.2.out.trans (hB10.mono hHeld.2.2.2.out.size)))⟩ (fun hHeld => ?_);clear hK K;refine norm_ (a' := ?_) ?_ ?_;rotate_left
   ·show Act.put _ (some 83) _ = _;simp only [Act.put, List.setIfInBounds_toArray, List.set_cons_zero, List.set_cons_succ, i64_w, i32_w];rfl
   refine last_ (i := 9) (N := some 84) #[true, true, true, true, true, true, true, true, true, true, false] rfl rfl (one_of HT_.out (by kernel_rfl)) (by decide) (fun K hK => ?_);refine Kd.R_append_rows_step (Kd.raw 4) (Rr := (Kd.raw 4).K w10) (w0 := w10) w.heap.size (by rfl) (.tmp 75) (.tmp 83) 48 67 (.agg #[.int .i64 0, .int .i64 0, .int .i64 0, .int .i64 0]) 32 rfl Tryz.underlying48 info67 rfl (by decide) (by omega) (.slice none 0 0) ([] : List (List Value)) [[.int .i64 now, .int .i64 6, .int .i64 id, .int .i64 ((n : Int) + 1)]] AL 1 cL (fun _ => True) (fun _ => False) (by rfl) (by rfl) hHeld.2.2.1.out hCL (fun _ _ h => h) (fun _ h => h.elim) (fun _ _ => trivial) (Below.refl _ _) (by have := hHeld.2.2.2.out.size; omega) (by simp only [List.length_map, List.length_append, List.length_cons, List.length_nil]; omega) ?_;intro vO w11 hR11 hB11 hg11 hat11;have HR11 := hI hR11;have HT11 := hI (grown_turn hg11);have HAT := hI hat11;have HB10x := hI (hbd.out.trans (hHeld.2.2.2.out.mono hbd.out.size));have HRin := hI hHeld.2.2.1.out;clear hR11 hB11 hg11 hat11;refine hK.out _ _ ?_;clear hK K;refine norm_ (a' := ?_) ?_ ?_;rotate_left
   ·show Act.put _ (some 84) _ = _;simp only [Act.put, List.setIfInBounds_toArray, List.set_cons_zero, List.set_cons_succ, i64_w, i32_w];rfl
   refine pst 10 (some 6) HT_ ?_;refine done_ (done_of HT_.out (by kernel_rfl)) ?_;go_wp2;go_ret;have ubase := Kd.R_base HRin.out;have HO10 := HO7.out.below HB10x.out;have hT := Turn.of_below (fun b => ∃ c, o.own c = some b) HB10x.out;rw [HF.out];refine ⟨_, _, rfl, HSUB.out, HO10.keep HT11.out (fun b e => by simp [Value.ownBlock] at e) (fun cc b hc e => by simp [Value.ownBlock] at e), HR11.out, (HTB.out.trans hT).trans (HT11.out.imp (fun b e => by simp [Value.ownBlock] at e))⟩
  ·go_upto_region 12 with fail
   refine start_ (n := 10) (S := fun w' => Hid (w'.heap[w.heap.size]? = some (.cells #[.int .i64 M, .int .i64 now, .slice (some ⟨g, 0, none⟩) l.length o.c, .slice (some ⟨h, 0, none⟩) q.length o.c2, .slice A4 0 c4] 47 (0, 0))) /\ w'.cell? ⟨h, n * 4 + 1, none⟩ = some (.int .i64 id) /\ Hid ((Kd.raw 4).R 67 w' w.heap.size (fun _ => True) (.slice none 0 0) ([] : List (List Value))) /\ Hid (Below w7.drew.heap.size w7.drew w')) (ds := [8]) #[false, false, false, false, false, false, false, false, false, false] (by kernel_rfl) rfl rfl ⟨(hI (show w7.drew.heap[w.heap.size]? = _ from HX8.out)), (show w7.drew.cell? _ = _ from hk8), (hI (Kd.R_drew HE8.out)), (hI (Below.refl w7.drew.heap.size w7.drew))⟩ (fun hHeld => ?_);refine with_tabW free.tab12 free.bits12 (fun HT_ HW_ => ?_);have hbd : Hid (Below w7.heap.size w7 w7.drew) := hI ⟨rfl, rfl, rfl, Nat.le_refl _, fun _ _ => rfl⟩;have hsd : w7.heap.size = w7.drew.heap.size := rfl;generalize hwd : w7.drew = wd at *;clear hwd;refine pst 0 (some 66) HT_ ?_;refine pst 2 (some 68) HT_ ?_;refine pst 3 (some 69) HT_ ?_;refine pst 4 (some 70) HT_ ?_;refine tst 1 (some 67) HT_ HW_ hHeld ?_ (hy := by (rintro w' ⟨s0, s1, s2, s3⟩; have e0 := (blk_cell s0.out 0).trans rfl; have e1 := (blk_cell s0.out 1).trans rfl; have e2 := (blk_cell s0.out 2).trans rfl; have e3 := (blk_cell s0.out 3).trans rfl; have e4 := (blk_cell s0.out 4).trans rfl); go_simp; with_reducible rfl);refine tst 5 (some 71) HT_ HW_ hHeld ?_ (hy := by (rintro w' ⟨s0, s1, s2, s3⟩; have e0 := (blk_cell s0.out 0).trans rfl; have e1 := (blk_cell s0.out 1).trans rfl; have e2 := (blk_cell s0.out 2).trans rfl; have e3 := (blk_cell s0.out 3).trans rfl; have e4 := (blk_cell s0.out 4).trans rfl); go_simp; with_reducible rfl);refine one_ (i := 6) (N := some 72) #[true, true, true, true, true, true, true, false, false, false] rfl rfl (one_of HT_.out (by kernel_rfl)) (by decide) (fun K hK => ?_);refine goes_ Tryz.func28 (by kernel_rfl) rfl #[stV M now (some ⟨g, 0, none⟩) l.length o.c (some ⟨h, 0, none⟩) q.length o.c2 A4 c4, .int .i64 7, .int .i64 id, .int .i64 0] (by rfl) rfl rfl (by simp only [List.map_toArray, List.map_cons, List.map_nil]; rfl) ?_;with_reducible refine (event_calls _ _ _ _ _ _ _ _ _ _ 7 id 0 _).mono ?_;rintro e w9 ⟨rfl, hB9⟩;refine ⟨_, rfl, ?_⟩;refine hK.out _ _ ⟨(hI (blk_below hHeld.1.out hB9)), ((hB9.cell (World.block_lt_of_cell? _ _ hHeld.2.1)).trans hHeld.2.1), (hI (Kd.R_below hHeld.2.2.1.out hB9)), (hI (hHeld.2.2.2.out.trans (hB9.mono hHeld.2.2.2.out.size)))⟩ (fun hHeld => ?_);clear hK K;refine norm_ (a' := ?_) ?_ ?_;rotate_left
   ·show Act.put _ (some 72) _ = _;simp only [Act.put, List.setIfInBounds_toArray, List.set_cons_zero, List.set_cons_succ, i64_w, i32_w];rfl
   refine one_ (i := 7) (N := some 73) #[true, true, true, true, true, true, true, true, false, false] rfl rfl (one_of HT_.out (by kernel_rfl)) (by decide) (fun K hK => ?_);refine Kd.R_lit_step (Kd.raw 4) (w0 := w9) w9.heap.size 67 (by rfl) (N := 73) rfl (xs := [[.int .i64 now, .int .i64 7, .int .i64 id, .int .i64 0]]) (inner := [.int .i64 now, .int .i64 7, .int .i64 id, .int .i64 0]) (ok := fun _ => True) (okp := fun _ => False) ?hr ?hp (fun _ h => h.elim) trivial (Below.refl _ _) (Nat.le_refl _) (by simp) ?_
   (case hr => first | (go_simp; done) | (go_simp; rfl))
   (case hp => exact reps_one)
   intro vL w10 hR10 hB10 _ _;obtain ⟨AL, cL, eL, hcL, hCL⟩ := Kd.R_reads hR10;subst eL;refine hK.out _ _ ⟨(hI (blk_below hHeld.1.out hB10)), ((hB10.cell (World.block_lt_of_cell? _ _ hHeld.2.1)).trans hHeld.2.1), (hI (Kd.R_below hHeld.2.2.1.out hB10)), (hI (hHeld.2.2.2.out.trans (hB10.mono hHeld.2.2.2.out.size)))⟩ (fun hHeld => ?_);clear hK K;refine norm_ (a' := ?_) ?_ ?_;rotate_left
   ·show Act.put _ (some 73) _ = _;simp only [Act.put, List.setIfInBounds_toArray, List.set_cons_zero, List.set_cons_succ, i64_w, i32_w];rfl
   refine last_ (i := 8) (N := some 74) #[true, true, true, true, true, true, true, true, true, false] rfl rfl (one_of HT_.out (by kernel_rfl)) (by decide) (fun K hK => ?_);refine Kd.R_append_rows_step (Kd.raw 4) (Rr := (Kd.raw 4).K w10) (w0 := w10) w.heap.size (by rfl) (.tmp 66) (.tmp 73) 48 67 (.agg #[.int .i64 0, .int .i64 0, .int .i64 0, .int .i64 0]) 32 rfl Tryz.underlying48 info67 rfl (by decide) (by omega) (.slice none 0 0) ([] : List (List Value)) [[.int .i64 now, .int .i64 7, .int .i64 id, .int .i64 0]] AL 1 cL (fun _ => True) (fun _ => False) (by rfl) (by rfl) hHeld.2.2.1.out hCL (fun _ _ h => h) (fun _ h => h.elim) (fun _ _ => trivial) (Below.refl _ _) (by have := hHeld.2.2.2.out.size; omega) (by simp only [List.length_map, List.length_append, List.length_cons, List.length_nil]; omega) ?_;intro vO w11 hR11 hB11 hg11 hat11;have HR11 := hI hR11;have HT11 := hI (grown_turn hg11);have HAT := hI hat11;have HB10x := hI (hbd.out.trans (hHeld.2.2.2.out.mono hbd.out.size));have HRin := hI hHeld.2.2.1.out;clear hR11 hB11 hg11 hat11;refine hK.out _ _ ?_;clear hK K;refine norm_ (a' := ?_) ?_ ?_;rotate_left
   ·show Act.put _ (some 74) _ = _;simp only [Act.put, List.setIfInBounds_toArray, List.set_cons_zero, List.set_cons_succ, i64_w, i32_w];rfl
   refine pst 9 (some 10) HT_ ?_;refine done_ (done_of HT_.out (by kernel_rfl)) ?_;have HO11 := hI ((HO7.out.below HB10x.out).keep HT11.out (fun b e => by simp [Value.ownBlock] at e) (fun cc b hc e => by simp [Value.ownBlock] at e));have hT1 := (Turn.of_below (fun b => ∃ c, o.own c = some b) HB10x.out).trans (HT11.out.imp (fun b e => by simp [Value.ownBlock] at e));have HTC := hI (HTB.out.trans hT1);have HX11 := hI ((HT11.out.block _ (blk_lt (blk_below HX8.out HB10x.out)) (fun e => by simp [Value.ownBlock] at e)).trans (blk_below HX8.out HB10x.out))
   have hk11 : w11.cell? ⟨h, n * 4 + 1, none⟩ = some (.int .i64 id) := by
    have hk10 := (HB10x.out.cell (World.block_lt_of_cell? _ _ hk8)).trans hk8;rw [<- hk10];simp only [World.cell?, HT11.out.block h (World.block_lt_of_cell? _ _ hk10) (fun e => by simp [Value.ownBlock] at e)]
   have HE11 := hI HR11.out;have hs11 : w.heap.size <= w11.heap.size := HTC.out.size;clear HX8 hk8 HE8 HTB hT1 HT11 HAT HRin HB10x hHeld HO7 hbd hsd HR11 hR10 hB10 hB9 hCL hs7;have HX8 := HX11;have hk8 := hk11;have HE8 := HE11;clear HX11 hk11 HE11
   go_upto_region 13 with fail
   refine start_ (n := 11) (S := fun w' => Hid (w'.heap[w.heap.size]? = some (.cells #[.int .i64 M, .int .i64 now, .slice (some ⟨g, 0, none⟩) l.length o.c, .slice (some ⟨h, 0, none⟩) q.length o.c2, .slice A4 0 c4] 47 (0, 0))) /\ w'.cell? ⟨h, n * 4 + 1, none⟩ = some (.int .i64 id) /\ Hid ((Kd.raw 4).R 67 w' w.heap.size (fun _ => True) vO [[.int .i64 now, .int .i64 7, .int .i64 id, .int .i64 0]]) /\ Hid (Below w11.drew.heap.size w11.drew w')) (ds := [9]) #[false, false, false, false, false, false, false, false, false, false, false] (by kernel_rfl) rfl rfl ⟨(hI (show w11.drew.heap[w.heap.size]? = _ from HX8.out)), (show w11.drew.cell? _ = _ from hk8), (hI (Kd.R_drew HE8.out)), (hI (Below.refl w11.drew.heap.size w11.drew))⟩ (fun hHeld => ?_);refine with_tabW free.tab13 free.bits13 (fun HT_ HW_ => ?_);have hbd : Hid (Below w11.heap.size w11 w11.drew) := hI ⟨rfl, rfl, rfl, Nat.le_refl _, fun _ _ => rfl⟩;have hsd : w11.heap.size = w11.drew.heap.size := rfl;generalize hwd : w11.drew = wd at *;clear hwd;refine pst 0 (some 75) HT_ ?_;refine pst 2 (some 77) HT_ ?_;refine pst 3 (some 78) HT_ ?_;refine pst 4 (some 79) HT_ ?_;refine pst 6 (some 81) HT_ ?_;refine tst 1 (some 76) HT_ HW_ hHeld ?_ (hy := by (rintro w' ⟨s0, s1, s2, s3⟩; have e0 := (blk_cell s0.out 0).trans rfl; have e1 := (blk_cell s0.out 1).trans rfl; have e2 := (blk_cell s0.out 2).trans rfl; have e3 := (blk_cell s0.out 3).trans rfl; have e4 := (blk_cell s0.out 4).trans rfl); go_simp; with_reducible rfl);refine tst 5 (some 80) HT_ HW_ hHeld ?_ (hy := by (rintro w' ⟨s0, s1, s2, s3⟩; have e0 := (blk_cell s0.out 0).trans rfl; have e1 := (blk_cell s0.out 1).trans rfl; have e2 := (blk_cell s0.out 2).trans rfl; have e3 := (blk_cell s0.out 3).trans rfl; have e4 := (blk_cell s0.out 4).trans rfl); go_simp; with_reducible rfl);refine one_ (i := 7) (N := some 82) #[true, true, true, true, true, true, true, true, false, false, false] rfl rfl (one_of HT_.out (by kernel_rfl)) (by decide) (fun K hK => ?_);refine goes_ Tryz.func28 (by kernel_rfl) rfl #[stV M now (some ⟨g, 0, none⟩) l.length o.c (some ⟨h, 0, none⟩) q.length o.c2 A4 c4, .int .i64 6, .int .i64 id, .int .i64 ((n : Int) + 1)] (by rfl) rfl rfl (by simp only [List.map_toArray, List.map_cons, List.map_nil]; rfl) ?_;with_reducible refine (event_calls _ _ _ _ _ _ _ _ _ _ 6 id ((n : Int) + 1) _).mono ?_;rintro e w9 ⟨rfl, hB9⟩;refine ⟨_, rfl, ?_⟩;refine hK.out _ _ ⟨(hI (blk_below hHeld.1.out hB9)), ((hB9.cell (World.block_lt_of_cell? _ _ hHeld.2.1)).trans hHeld.2.1), (hI (Kd.R_below hHeld.2.2.1.out hB9)), (hI (hHeld.2.2.2.out.trans (hB9.mono hHeld.2.2.2.out.size)))⟩ (fun hHeld => ?_);clear hK K;refine norm_ (a' := ?_) ?_ ?_;rotate_left
   ·show Act.put _ (some 82) _ = _;simp only [Act.put, List.setIfInBounds_toArray, List.set_cons_zero, List.set_cons_succ, i64_w, i32_w];rfl
   refine one_ (i := 8) (N := some 83) #[true, true, true, true, true, true, true, true, true, false, false] rfl rfl (one_of HT_.out (by kernel_rfl)) (by decide) (fun K hK => ?_);refine Kd.R_lit_step (Kd.raw 4) (w0 := w9) w9.heap.size 67 (by rfl) (N := 83) rfl (xs := [[.int .i64 now, .int .i64 6, .int .i64 id, .int .i64 ((n : Int) + 1)]]) (inner := [.int .i64 now, .int .i64 6, .int .i64 id, .int .i64 ((n : Int) + 1)]) (ok := fun _ => True) (okp := fun _ => False) ?hr ?hp (fun _ h => h.elim) trivial (Below.refl _ _) (Nat.le_refl _) (by simp) ?_
   (case hr => first | (go_simp; done) | (go_simp; rfl))
   (case hp => exact reps_one)
   intro vL w10 hR10 hB10 _ _;obtain ⟨AL, cL, eL, hcL, hCL⟩ := Kd.R_reads hR10;subst eL;refine hK.out _ _ ⟨(hI (blk_below hHeld.1.out hB10)), ((hB10.cell (World.block_lt_of_cell? _ _ hHeld.2.1)).trans hHeld.2.1), (hI (Kd.R_below hHeld.2.2.1.out hB10)), (hI (hHeld.2.2.2.out.trans (hB10.mono hHeld.2.2.2.out.size)))⟩ (fun hHeld => ?_);clear hK K;refine norm_ (a' := ?_) ?_ ?_;rotate_left
   ·show Act.put _ (some 83) _ = _;simp only [Act.put, List.setIfInBounds_toArray, List.set_cons_zero, List.set_cons_succ, i64_w, i32_w];rfl
   refine last_ (i := 9) (N := some 84) #[true, true, true, true, true, true, true, true, true, true, false] rfl rfl (one_of HT_.out (by kernel_rfl)) (by decide) (fun K hK => ?_);refine Kd.R_append_rows_step (Kd.raw 4) (Rr := (Kd.raw 4).K w10) (w0 := w10) w.heap.size (by rfl) (.tmp 75) (.tmp 83) 48 67 (.agg #[.int .i64 0, .int .i64 0, .int .i64 0, .int .i64 0]) 32 rfl Tryz.underlying48 info67 rfl (by decide) (by omega) vO [[.int .i64 now, .int .i64 7, .int .i64 id, .int .i64 0]] [[.int .i64 now, .int .i64 6, .int .i64 id, .int .i64 ((n : Int) + 1)]] AL 1 cL (fun _ => True) (fun _ => False) (by rfl) (by rfl) hHeld.2.2.1.out hCL (fun _ _ h => h) (fun _ h => h.elim) (fun _ _ => trivial) (Below.refl _ _) (by have := hHeld.2.2.2.out.size; omega) (by simp only [List.length_map, List.length_append, List.length_cons, List.length_nil]; omega) ?_;intro vF w12 hR11 hB11 hg11 hat11;have HR11 := hI hR11;have HT11 := hI (grown_turn hg11);have HAT := hI hat11;have HB10x := hI (hbd.out.trans (hHeld.2.2.2.out.mono hbd.out.size));have HRin := hI hHeld.2.2.1.out;clear hR11 hB11 hg11 hat11;refine hK.out _ _ ?_;clear hK K;refine norm_ (a' := ?_) ?_ ?_;rotate_left
   ·show Act.put _ (some 84) _ = _;simp only [Act.put, List.setIfInBounds_toArray, List.set_cons_zero, List.set_cons_succ, i64_w, i32_w];rfl
   refine pst 10 (some 6) HT_ ?_;refine done_ (done_of HT_.out (by kernel_rfl)) ?_;go_wp2;go_ret;have ubase := Kd.R_base HRin.out;have HO10 := HO11.out.below HB10x.out;have hT := Turn.of_below (fun b => ∃ c, o.own c = some b) HB10x.out;rw [HF.out];have hub : ∀ b, some b = vO.ownBlock -> w.heap.size <= b := fun b e => ubase b e.symm
   refine ⟨_, _, rfl, HSUB.out, HO10.keep HT11.out (fun b e => by have := hub b e; have := HO.out.old; omega) (fun cc b hc e => by have := hub b e; have := HOB.out cc b (HSUB.out.2.2.2.2 cc b hc); omega), HR11.out, ?_⟩;have hA := HTC.out.trans hT;refine ⟨HT11.out.os.trans hA.os, HT11.out.tape.trans hA.tape, HT11.out.output.trans hA.output, Nat.le_trans hA.size HT11.out.size, fun k hk hn => ?_⟩;rw [HT11.out.block k (Nat.lt_of_lt_of_le hk hA.size) (fun e => by have := hub k e; omega)];exact hA.block k hk hn
theorem Own.job2 {w w' : World} {B : Bd} {l : List S57} {q : List S63} {o : OwnR} {i : Nat} (h : Own w B l q o) (hi : i < l.length) {j j' : S125} {js : List S125} (hx : l[i].f2 = j :: js) {b oo : Nat} {rr : Nat -> Ref} (hb : (o.r i).1 = some ⟨b, oo, none⟩) (hp : Progs w B (j :: js) rr) {p0 : Ref} (hp0 : j'.f1.length <= p0.2 /\ Kd.F k72 w B.G p0.1 j'.f1.length j'.f1) (ht : Turn w w' (fun k => k = b)) (hr : RowAt w' b oo 4 125 ((rowsOf jobRow (j :: js) rr).set 0 (jobRow j' p0))) : Own w' B (l.set i { l[i] with f2 := j' :: js }) q o := by
 have hbo : o.own (.j i) = some b := by show ob (o.r i) = _; rw [ob, hb]; rfl
 have hbB := (h.bnd _ b hbo).1;have hne : ∀ c b2, c ≠ .j i -> o.own c = some b2 -> b2 ≠ b := fun c b2 hc hb2 e => hc (h.apart c (.j i) b2 hb2 (by rw [e]; exact hbo))
 refine ⟨by rw [List.length_set]; exact h.max, by rw [List.length_set]; exact h.cap, fun hl => ?_, fun hq => ?_, fun k hk => ?_, fun k hk => ?_, h.apart, fun c b hb => ⟨(h.bnd c b hb).1, Nat.lt_of_lt_of_le (h.bnd c b hb).2 ht.size⟩, Nat.le_trans h.old ht.size⟩
 ·obtain ⟨g, e, hr2⟩ := h.row (by intro e; rw [e] at hi; simp at hi);refine ⟨g, e, ?_⟩
  have e2 : rowsOf servRow (l.set i { l[i] with f2 := j' :: js }) o.r = rowsOf servRow l o.r := by
   rw [rowsOf_set_same];apply List.ext_getElem
   ·simp
   ·intro k h1 h2;rw [List.getElem_set];by_cases e : i = k
    ·subst e;rw [if_pos rfl, rowsOf_get hi];unfold servRow;rw [hx];rfl
    ·rw [if_neg e]
  rw [e2];exact hr2.turn ht (hne .g g (by simp) (by show o.A.map _ = _; rw [e]; rfl))
 ·obtain ⟨g2, e, hr2⟩ := h.lok hq;exact ⟨g2, e, hr2.turn ht (hne .h g2 (by simp) (by show o.A2.map _ = _; rw [e]; rfl))⟩
 ·have hk2 : k < l.length := by simpa using hk
  rw [mem_set_get];by_cases e : i = k
  ·subst e;rw [if_pos rfl];have h0 := h.jobs i hi;rw [hx] at h0;refine ⟨by have := h0.cap; simpa using this, by have := h0.max; simpa using this, fun _ => ⟨b, oo, upd rr 0 p0, hb, ?_, ?_⟩⟩
   ·have e3 : rowsOf jobRow (j' :: js) (upd rr 0 p0) = (rowsOf jobRow (j :: js) rr).set 0 (jobRow j' p0) := by
     rw [<- rowsOf_set]; rfl
    show RowAt w' b oo 4 125 (rowsOf jobRow (j' :: js) (upd rr 0 p0));rw [e3]; exact hr
   ·intro k hk;have hk' : k < (j :: js).length := by simpa using hk
    cases k with
    | zero =>
     show j'.f1.length <= (upd rr 0 p0 0).2 /\ Kd.F k72 w' B.G (upd rr 0 p0 0).1 j'.f1.length j'.f1;rw [upd_self];refine ⟨hp0.1, fun W' hW => hp0.2 W' (fun b2 hb2 hlt => ?_)⟩;rw [hW b2 hb2 (Nat.lt_of_lt_of_le hlt ht.size)];exact ht.block b2 hlt (fun e => by have := B.lt b2 hb2; omega)
    | succ k =>
     show (j :: js)[k + 1].f1.length <= (upd rr 0 p0 (k + 1)).2 /\ Kd.F k72 w' B.G (upd rr 0 p0 (k + 1)).1 (j :: js)[k + 1].f1.length (j :: js)[k + 1].f1;rw [upd_ne _ _ (by omega)];refine ⟨(hp (k + 1) hk').1, fun W' hW => (hp (k + 1) hk').2 W' (fun b2 hb2 hlt => ?_)⟩;rw [hW b2 hb2 (Nat.lt_of_lt_of_le hlt ht.size)];exact ht.block b2 hlt (fun e => by have := B.lt b2 hb2; omega)
  ·rw [if_neg e];exact (h.jobs k hk2).keep ht (fun b2 hb2 => by rw [hb2]; exact hbB) h.old (fun b2 hb2 => hne (.j k) b2 (by intro e2; injection e2 with e2; exact e e2.symm) hb2)
 ·exact ⟨(h.que k hk).1, fun W' hW => (h.que k hk).2 W' (fun b2 hb2 hlt => by rw [hW b2 hb2 (Nat.lt_of_lt_of_le hlt ht.size)]; exact ht.block b2 hlt (hne _ b2 (by simp) hb2))⟩
structure En (B : Bd) (N s : Nat) (bx jx sx : Array Value) (w0 : World) (o0 o : OwnR) (l : List S57) (q : List S63) (E : List Ev) (v : Value) (w : World) : Prop where
 X : w.heap[N]? = some (.cells bx 47 (0, 0))
 J : w.heap[N + 1]? = some (.cells jx 125 (0, 0))
 S : w.heap[s]? = some (.cells sx 72 (0, 0))
 O : Own w B l q o
 sub : o.sub o0
 E : (Kd.raw 4).R 67 w N (fun _ => True) v (E.map Ev.cells)
 VB : ∀ b, v.ownBlock = some b -> s < b
 T : Turn w0 w (fun b => ∃ c, o0.own c = some b)
 own0 : ∀ c b, o0.own c = some b -> b < N
 N0 : N = w0.heap.size
 hs : N + 1 < s
 BN : B <= N
section
variable {B : Bd} {N s : Nat} {bx jx sx : Array Value} {w0 : World} {o0 o : OwnR} {l : List S57} {q : List S63} {E : List Ev} {v : Value} {w w' : World}
theorem En.below (h : En B N s bx jx sx w0 o0 o l q E v w) (hb : Below w.heap.size w w') : En B N s bx jx sx w0 o0 o l q E v w' where
 X := blk_below h.X hb
 J := blk_below h.J hb
 S := blk_below h.S hb
 O := h.O.below hb
 sub := h.sub
 E := Kd.R_below h.E hb
 VB := h.VB
 T := h.T.trans (Turn.of_below _ hb)
 own0 := h.own0
 N0 := h.N0
 hs := h.hs
 BN := h.BN
theorem En.turn (h : En B N s bx jx sx w0 o0 o l q E v w) {o' : OwnR} {l' : List S57} {q' : List S63} {S : Nat -> Prop} (ht : Turn w w' S) (hS : ∀ b, S b -> ∃ c, o.own c = some b) (hO : Own w' B l' q' o') (ho : o'.sub o) : En B N s bx jx sx w0 o0 o' l' q' E v w' := by
 have hN : ∀ b, S b -> b < N := fun b e => by
  obtain ⟨c, hc⟩ := hS b e;exact h.own0 c b (h.sub.2.2.2.2 c b hc)
 have hs := h.hs;refine ⟨?_, ?_, ?_, hO, ho.trans h.sub, ?_, h.VB, ?_, h.own0, h.N0, h.hs, h.BN⟩
 ·exact (ht.block _ (blk_lt h.X) (fun e => by have := hN _ e; omega)).trans h.X
 ·exact (ht.block _ (blk_lt h.J) (fun e => by have := hN _ e; omega)).trans h.J
 ·exact (ht.block _ (blk_lt h.S) (fun e => by have := hN _ e; omega)).trans h.S
 ·exact Kd.R_reok rfl (Kd.R_step (Kd.R_tight rfl h.E) (fun b hb hlt => ht.block b hlt (fun e => by have := hN _ e; have := h.VB b hb.symm; omega))) (fun _ _ => trivial)
 ·exact h.T.trans (ht.imp (fun b e => by
   obtain ⟨c, hc⟩ := hS b e;exact ⟨c, h.sub.2.2.2.2 c b hc⟩))
theorem En.serv (h : En B N s bx jx sx w0 o0 o l q E v w) {i : Nat} (hi : i < l.length) (x : S57) (hx : x.f2 = l[i].f2) {g : Nat} (hg : o.A = some ⟨g, 0, none⟩) (ht : Turn w w' (fun b => b = g)) (hr : RowAt w' g 0 11 57 ((rowsOf servRow l o.r).set i (servRow x (o.r i)))) : En B N s bx jx sx w0 o0 o (l.set i x) q E v w' :=
 h.turn ht (fun b e => ⟨.g, by rw [e]; show o.A.map _ = _; rw [hg]; rfl⟩) (h.O.serv0 hi x hx hg ht hr) o.sub_refl
theorem En.pop (h : En B N s bx jx sx w0 o0 o l q E v w) {i : Nat} (hi : i < l.length) {j : S125} {js : List S125} (hx : l[i].f2 = j :: js) (x : S57) (hx2 : x.f2 = js) {g : Nat} (hg : o.A = some ⟨g, 0, none⟩) {b oo : Nat} (hb : (o.r i).1 = some ⟨b, oo, none⟩) (ht : Turn w w' (fun b => b = g)) (hr : RowAt w' g 0 11 57 ((rowsOf servRow l o.r).set i (servRow x (if (o.r i).2 = 1 then some ⟨b, oo, none⟩ else some ⟨b, oo + 4, none⟩, (o.r i).2 - 1)))) : ∃ o', o'.sub o /\ o'.A = o.A /\ En B N s bx jx sx w0 o0 o' (l.set i x) q E v w' := by
 have hgo : o.own .g = some g := by show o.A.map _ = _; rw [hg]; rfl
 have hbo : o.own (.j i) = some b := by show ob (o.r i) = _; rw [ob, hb]; rfl
 have hbg : b ≠ g := fun e => by have := h.O.apart (.j i) .g b hbo (by rw [e]; exact hgo); cases this
 have hJ := h.O.jobs i hi;obtain ⟨b2, o2, rr, e2, hrow, hpr⟩ := hJ.row (by rw [hx]; simp);rw [hb] at e2;injection e2 with e2;injection e2 with e3 e4;subst e3 e4;rw [hx] at hrow hpr;have hcap : js.length + 1 <= (o.r i).2 := by have := hJ.cap; rw [hx] at this; simpa using this
 have hp2 : ∀ k, ob ((if (o.r i).2 = 1 then some ⟨b, oo, none⟩ else some ⟨b, oo + 4, none⟩, (o.r i).2 - 1) : Ref) = some k -> ob (o.r i) = some k := by
  intro k hk;have hbo' : ob (o.r i) = some b := hbo;unfold ob at hk;by_cases e : (o.r i).2 = 1
  ·simp [e] at hk; rw [hbo', hk]
  ·simp [e] at hk; rw [hbo', hk]
 have hjobs : JobsAt w' B x.f2 (if (o.r i).2 = 1 then some ⟨b, oo, none⟩ else some ⟨b, oo + 4, none⟩, (o.r i).2 - 1) := by
  rw [hx2];refine ⟨by show js.length <= (o.r i).2 - 1; omega, by have := hJ.max; rw [hx] at this; simp at this; omega, fun hne => ?_⟩
  have hc : (o.r i).2 ≠ 1 := fun e => by
   have : js.length ≠ 0 := fun e2 => hne (List.length_eq_zero_iff.1 e2)
   omega
  refine ⟨b, oo + 4, fun k => rr (k + 1), by show (if _ then _ else _) = _; rw [if_neg hc], ?_, ?_⟩
  ·have h1 : rowsOf jobRow (j :: js) rr = jobRow j (rr 0) :: rowsOf jobRow js (fun k => rr (k + 1)) := by
    unfold rowsOf;rw [List.mapIdx_cons]
   rw [h1] at hrow;exact (hrow.tail).turn ht hbg
  ·intro k hk;have := hpr (k + 1) (by simpa using hk);refine ⟨this.1, fun W' hW => this.2 W' (fun b2 hb2 hlt => ?_)⟩;rw [hW b2 hb2 (Nat.lt_of_lt_of_le hlt ht.size)];exact ht.block b2 hlt (fun e => by have := (h.O.bnd .g g hgo).1; have := B.lt b2 hb2; omega)
 have hO := h.O.serv hi x _ hg ht hr hjobs hp2
 have hsub : ({ o with r := upd o.r i (if (o.r i).2 = 1 then some ⟨b, oo, none⟩ else some ⟨b, oo + 4, none⟩, (o.r i).2 - 1) } : OwnR).sub o := by
  refine ⟨rfl, rfl, rfl, rfl, fun c k hc => ?_⟩
  cases c with
  | g => exact hc
  | h => exact hc
  | q k => exact hc
  | j k2 =>
   change ob (upd o.r i _ k2) = some k at hc;by_cases e : k2 = i
   ·subst e; rw [upd_self] at hc; exact hp2 k hc
   ·rw [upd_ne _ _ e] at hc; exact hc
 exact ⟨_, hsub, rfl, h.turn ht (fun b e => ⟨.g, by rw [e]; exact hgo⟩) hO hsub⟩
theorem En.job (h : En B N s bx jx sx w0 o0 o l q E v w) {i : Nat} (hi : i < l.length) {j j' : S125} {js : List S125} (hx : l[i].f2 = j :: js) {b oo : Nat} {rr : Nat -> Ref} (hb : (o.r i).1 = some ⟨b, oo, none⟩) (hp : Progs w B (j :: js) rr) {p0 : Ref} (hp0 : j'.f1.length <= p0.2 /\ Kd.F k72 w B.G p0.1 j'.f1.length j'.f1) (ht : Turn w w' (fun k => k = b)) (hr : RowAt w' b oo 4 125 ((rowsOf jobRow (j :: js) rr).set 0 (jobRow j' p0))) : En B N s bx jx sx w0 o0 o (l.set i { l[i] with f2 := j' :: js }) q E v w' :=
 h.turn ht (fun k e => ⟨.j i, by rw [e]; show ob (o.r i) = _; rw [ob, hb]; rfl⟩) (h.O.job2 hi hx hb hp hp0 ht hr) o.sub_refl
theorem En.done (h : En B N s bx jx sx w0 o0 o l q E v w) {l' : List S57} {q' : List S63} {E' : List Ev} {e : Ending} (hd : DoneP B o l' q' E' w e w') : ∃ o' v', e = .returned v' /\ o'.A = o.A /\ En B N s bx jx sx w0 o0 o' l' q' E v w' /\ (Kd.raw 4).R 67 w' w.heap.size (fun _ => True) v' (E'.map Ev.cells) := by
 obtain ⟨o', v', rfl, hsub, hO, hR, hT⟩ := hd;exact ⟨o', v', rfl, hsub.1, h.turn hT (fun b e => e) hO hsub, hR⟩
theorem En.told (h : En B N s bx jx sx w0 o0 o l q [] v w) {E' : List Ev} {v' : Value} {M : Nat} (hR : (Kd.raw 4).R 67 w M (fun _ => True) v' (E'.map Ev.cells)) (hM : s < M) : En B N s bx jx sx w0 o0 o l q E' v' w :=
 { h with E := Kd.R_lower hR (by have := h.hs; omega), VB := fun b hb => by have := Kd.R_base hR b hb; omega }
theorem En.ev (h : En B N s bx jx sx w0 o0 o l q E v w) {w'' : World} {v' : Value} (hb : Below w.heap.size w w') (ht : Turn w' w'' (fun b => some b = v.ownBlock)) {E' : List Ev} (hR : (Kd.raw 4).R 67 w'' N (fun _ => True) v' (E.map Ev.cells ++ E'.map Ev.cells)) (hat : v'.ownBlock = v.ownBlock \/ ∃ b, v'.ownBlock = some b /\ w'.heap.size <= b) : En B N s bx jx sx w0 o0 o l q (E ++ E') v' w'' := by
 have h1 := h.below hb;have hs := h.hs;have hS : ∀ b, some b = v.ownBlock -> s < b := fun b e => h.VB b e.symm
 have hl : s < w'.heap.size := blk_lt h1.S;refine ⟨?_, ?_, ?_, ?_, h.sub, by rw [List.map_append]; exact hR, fun b hb2 => ?_, ?_, h.own0, h.N0, h.hs, h.BN⟩
 ·exact (ht.block _ (blk_lt h1.X) (fun e => by have := hS _ e; omega)).trans h1.X
 ·exact (ht.block _ (blk_lt h1.J) (fun e => by have := hS _ e; omega)).trans h1.J
 ·exact (ht.block _ (blk_lt h1.S) (fun e => by have := hS _ e; omega)).trans h1.S
 ·refine h1.O.keep ht (fun b e => ?_) (fun c b hc e => ?_)
  ·have := hS b e; have := h.BN; omega
  ·have := hS b e; have := h.own0 c b (h.sub.2.2.2.2 c b hc); omega
 ·rcases hat with e | ⟨b2, e, hle⟩
  ·exact h.VB b (by rw [<- e]; exact hb2)
  ·rw [e] at hb2; injection hb2 with hb2; omega
 ·have hA := h1.T;refine ⟨ht.os.trans hA.os, ht.tape.trans hA.tape, ht.output.trans hA.output, Nat.le_trans hA.size ht.size, fun k hk hn => ?_⟩;rw [ht.block k (Nat.lt_of_lt_of_le hk hA.size) (fun e => by have := hS k e; have := h.N0; omega)];exact hA.block k hk hn
end
def endA (now : Int) (l : List S57) (q : List S63) (i : Nat) : List S57 × List S63 × List Ev :=
 match (l.getD i z57).f2 with
 | [] => (l, q, [])
 | j :: js =>
  if j.f3 = (stepOf j).f1 then
   let a := if (l.getD i z57).f3 = 2 then freeL now (l.set i { l.getD i z57 with f3 := 0 }) q ((stepOf j).f0 - 1).toNat false else (l, q, [])
   if j.f2 + 1 = (j.f1.length : Int) then (a.1.set i { a.1.getD i z57 with f2 := js }, a.2.1, a.2.2 ++ [⟨now, 2, (l.getD i z57).f0, j.f0⟩])
   else (a.1.set i { a.1.getD i z57 with f2 := { j with f2 := j.f2 + 1, f3 := 0 } :: js }, a.2.1, a.2.2)
  else if (l.getD i z57).f3 = 2 /\ (l.getD i z57).f4 = (q.getD ((stepOf j).f0 - 1).toNat z63).f0 then
   let a := freeL now (l.set i { l.getD i z57 with f2 := js, f3 := 0 }) q ((stepOf j).f0 - 1).toNat true
   (a.1, a.2.1, ⟨now, 3, (l.getD i z57).f0, j.f0⟩ :: a.2.2)
  else (l, q, [])
def endB (now : Int) (l : List S57) (i : Nat) : List S57 × List Ev :=
 if (l.getD i z57).f2.length = 0 then (l.set i { l.getD i z57 with f1 := { (l.getD i z57).f1 with f4 := 0 } }, [⟨now, 10, (l.getD i z57).f0, 0⟩])
 else if (l.getD i z57).f1.f4 = 2 then (l, [⟨now, 4, (l.getD i z57).f0, 0⟩]) else (l, [])
def endL (now : Int) (l : List S57) (q : List S63) (i : Nat) : List S57 × List S63 × List Ev :=
 ((endB now (endA now l q i).1 i).1, (endA now l q i).2.1, (endA now l q i).2.2 ++ (endB now (endA now l q i).1 i).2)
structure Alike (l l' : List S57) : Prop where
 len : l'.length = l.length
 at_ : ∀ k (h : k < l.length) (h' : k < l'.length), l'[k].f0 = l[k].f0 /\ l'[k].f1 = l[k].f1 /\ l'[k].f2 = l[k].f2
theorem freeL_alike (now : Int) (l : List S57) (q : List S63) (n : Nat) (t : Bool) : Alike l (freeL now l q n t).1 := by
 unfold freeL;split
 ·exact ⟨rfl, fun _ _ _ => ⟨rfl, rfl, rfl⟩⟩
 ·rename_i id rest _;refine ⟨by simp, fun k h h' => ?_⟩;simp only [List.getElem_set];by_cases e : ahead l id = k
  ·subst e;rw [if_pos rfl];simp [h]
  ·rw [if_neg e]; exact ⟨rfl, rfl, rfl⟩
theorem freeL_few (now : Int) (l : List S57) (q : List S63) (n : Nat) (t : Bool) : (freeL now l q n t).2.2.length <= 2 := by
 unfold freeL;split
 ·simp
 ·cases t <;> simp
def endw.T11 : Bool × List (List Nat × List Nat) := (true, [([], []), ([0], [0]), ([1], [1]), ([2], [2]), ([], []), ([4], [4]), ([5], [5]), ([6], [6]), ([6], [6]), ([3, 0, 1, 2, 3, 4, 5, 6, 7], [3]), ([9, 7, 5, 0, 1, 2, 3, 4, 5, 6, 7], [7, 9])])
def endw.B11 : List Nat := [0, 1, 3, 7, 0, 16, 48, 112, 112, 255, 767]
theorem endw.tab11 : rtab .any (opsOf Tryz.f92 11) = endw.T11 := by kernel_rfl
theorem endw.bits11 : waitsOk endw.T11.2 endw.B11 = true := by kernel_rfl
def endw.T13 : Bool × List (List Nat × List Nat) := (true, [([], []), ([], []), ([], []), ([2], [2]), ([3], [3]), ([4], [4]), ([], []), ([6], [6]), ([1, 5, 7], [1, 5, 7]), ([8], [8]), ([0, 9, 8], [0, 9]), ([10, 10, 0, 1, 2, 3, 4, 5, 6, 7, 8, 9, 10], [0, 10])])
def endw.B13 : List Nat := [0, 0, 0, 4, 12, 28, 0, 64, 254, 510, 1023, 2047]
theorem endw.tab13 : rtab .any (opsOf Tryz.f92 13) = endw.T13 := by kernel_rfl
theorem endw.bits13 : waitsOk endw.T13.2 endw.B13 = true := by kernel_rfl
def endw.T15 : Bool × List (List Nat × List Nat) := (true, [([], []), ([], []), ([], []), ([2], [2]), ([3], [3]), ([4], [4]), ([], []), ([6], [6]), ([1, 5, 7], [1, 5, 7]), ([8], [8]), ([0, 9, 8], [0, 9]), ([10, 10, 0, 1, 2, 3, 4, 5, 6, 7, 8, 9, 10], [0, 10])])
def endw.B15 : List Nat := [0, 0, 0, 4, 12, 28, 0, 64, 254, 510, 1023, 2047]
theorem endw.tab15 : rtab .any (opsOf Tryz.f92 15) = endw.T15 := by kernel_rfl
theorem endw.bits15 : waitsOk endw.T15.2 endw.B15 = true := by kernel_rfl
def endw.T21 : Bool × List (List Nat × List Nat) := (true, [([], []), ([], []), ([], []), ([2], [2]), ([3], [3]), ([4], [4]), ([1, 5], [1, 5]), ([6], [6]), ([0, 7, 6], [0, 7]), ([8, 8, 0, 1, 2, 3, 4, 5, 6, 7, 8], [0, 8])])
def endw.B21 : List Nat := [0, 0, 0, 4, 12, 28, 62, 126, 255, 511]
theorem endw.tab21 : rtab .any (opsOf Tryz.f92 21) = endw.T21 := by kernel_rfl
theorem endw.bits21 : waitsOk endw.T21.2 endw.B21 = true := by kernel_rfl
def endw.T23 : Bool × List (List Nat × List Nat) := (true, [([], []), ([], []), ([], []), ([2], [2]), ([3], [3]), ([4], [4]), ([1, 5], [1, 5]), ([6], [6]), ([0, 7, 6], [0, 7]), ([8, 8, 0, 1, 2, 3, 4, 5, 6, 7, 8], [0, 8])])
def endw.B23 : List Nat := [0, 0, 0, 4, 12, 28, 62, 126, 255, 511]
theorem endw.tab23 : rtab .any (opsOf Tryz.f92 23) = endw.T23 := by kernel_rfl
theorem endw.bits23 : waitsOk endw.T23.2 endw.B23 = true := by kernel_rfl
theorem Alike.set {l : List S57} {i : Nat} (x : S57) (hi : i < l.length) (h0 : x.f0 = l[i].f0) (h1 : x.f1 = l[i].f1) (h2 : x.f2 = l[i].f2) : Alike l (l.set i x) := by
 refine ⟨by simp, fun k h h' => ?_⟩;rw [List.getElem_set];by_cases e : i = k
 ·subst e; rw [if_pos rfl]; exact ⟨h0, h1, h2⟩
 ·rw [if_neg e]; exact ⟨rfl, rfl, rfl⟩
structure Kept (l l' : List S57) : Prop where
 len : l'.length = l.length
 at_ : ∀ k (h : k < l.length) (h' : k < l'.length), l'[k].f0 = l[k].f0 /\ l'[k].f1 = l[k].f1
theorem Kept.refl (l : List S57) : Kept l l := ⟨rfl, fun _ _ _ => ⟨rfl, rfl⟩⟩
theorem Kept.trans {a b c : List S57} (h : Kept a b) (k : Kept b c) : Kept a c := by
 refine ⟨k.len.trans h.len, fun n h1 h2 => ?_⟩;have h3 : n < b.length := by rw [h.len]; exact h1
 exact ⟨(k.at_ n h3 h2).1.trans (h.at_ n h1 h3).1, (k.at_ n h3 h2).2.trans (h.at_ n h1 h3).2⟩
theorem Kept.set {l a : List S57} (h : Kept l a) {i : Nat} (x : S57) (hx : ∀ (h : i < a.length), x.f0 = a[i].f0 /\ x.f1 = a[i].f1) : Kept l (a.set i x) := by
 refine h.trans ⟨by rw [List.length_set], fun k h1 h2 => ?_⟩;rw [List.getElem_set];by_cases e : i = k
 ·subst e; rw [if_pos rfl]; exact hx h1
 ·rw [if_neg e]; exact ⟨rfl, rfl⟩
theorem Alike.kept {l l' : List S57} (h : Alike l l') : Kept l l' := ⟨h.len, fun k h1 h2 => ⟨(h.at_ k h1 h2).1, (h.at_ k h1 h2).2.1⟩⟩
theorem getD57 {l : List S57} {i : Nat} (h : i < l.length) : l.getD i z57 = l[i] := by simp [h]
theorem Kept.sorted {l l' : List S57} (h : Kept l l') (hs : Sorted l) : Sorted l' := by
 unfold Sorted at *;rw [List.pairwise_iff_getElem] at *;intro a b ha hb hab;have ha' : a < l.length := by rw [<- h.len]; exact ha
 have hb' : b < l.length := by rw [<- h.len]; exact hb
 rw [(h.at_ a ha' ha).1, (h.at_ b hb' hb).1];exact hs a b ha' hb' hab
theorem Kept.ids {l l' : List S57} (h : Kept l l') {id : Int} (he : ∃ (p : Nat) (h : p < l.length), l[p].f0 = id) : ∃ (p : Nat) (h : p < l'.length), l'[p].f0 = id := by
 obtain ⟨p, hp, e⟩ := he;exact ⟨p, by rw [h.len]; exact hp, by rw [(h.at_ p hp (by rw [h.len]; exact hp)).1]; exact e⟩
theorem endA_keep (now : Int) (l : List S57) (q : List S63) (i : Nat) : Kept l (endA now l q i).1 := by
 have F : ∀ (x : S57) (hx : ∀ (h : i < l.length), x.f0 = l[i].f0 /\ x.f1 = l[i].f1) n t, Kept l (freeL now (l.set i x) q n t).1 :=
  fun x hx n t => ((Kept.refl l).set x hx).trans (freeL_alike now (l.set i x) q n t).kept
 have E : ∀ (a : List S57) (js : List S125), Kept l a -> Kept l (a.set i { a.getD i z57 with f2 := js }) := fun a js h => h.set _ (fun h => by rw [getD57 h]; exact ⟨rfl, rfl⟩)
 unfold endA;split
 ·exact Kept.refl l
 ·rename_i j js _;split
  ·have hA : Kept l (if (l.getD i z57).f3 = 2 then freeL now (l.set i { l.getD i z57 with f3 := 0 }) q ((stepOf j).f0 - 1).toNat false else (l, q, [])).1 := by
    split
    ·exact F _ (fun h => by rw [getD57 h]; exact ⟨rfl, rfl⟩) _ _
    ·exact Kept.refl l
   dsimp only;split
   ·exact E _ _ hA
   ·exact E _ _ hA
  ·split
   ·exact F _ (fun h => by rw [getD57 h]; exact ⟨rfl, rfl⟩) _ _
   ·exact Kept.refl l
theorem endA_few (now : Int) (l : List S57) (q : List S63) (i : Nat) : (endA now l q i).2.2.length <= 3 := by
 unfold endA;split
 ·simp
 ·rename_i j js _;have h1 := freeL_few now (l.set i { l.getD i z57 with f3 := 0 }) q ((stepOf j).f0 - 1).toNat false;have h2 := freeL_few now (l.set i { l.getD i z57 with f2 := js, f3 := 0 }) q ((stepOf j).f0 - 1).toNat true;split
  ·dsimp only;split
   ·rw [List.length_append];split
    ·exact Nat.succ_le_succ h1
    ·simp
   ·dsimp only;split
    ·exact Nat.le_trans h1 (by omega)
    ·simp
  ·split
   ·exact Nat.succ_le_succ h2
   ·simp
theorem endA_held {now : Int} {l : List S57} {q : List S63} {i n : Nat} {j : S125} {js : List S125} {st1 : Int} (hi : i < l.length) (hx : l[i].f2 = j :: js) (hst : stepOf j = ⟨(n : Int) + 1, st1⟩) (hov : j.f3 ≠ st1) (h2 : l[i].f3 = 2) (hn : n < q.length) (hm : l[i].f4 = q[n].f0) : endA now l q i = ((freeL now (l.set i { l[i] with f2 := js, f3 := 0 }) q n true).1, (freeL now (l.set i { l[i] with f2 := js, f3 := 0 }) q n true).2.1, [⟨now, 3, l[i].f0, j.f0⟩] ++ (freeL now (l.set i { l[i] with f2 := js, f3 := 0 }) q n true).2.2) := by
 unfold endA;rw [getD57 hi];have e : ((stepOf j).f0 - 1).toNat = n := by rw [hst]; show ((n : Int) + 1 - 1).toNat = n; omega
 have e2 : q.getD n z63 = q[n] := by simp [hn]
 simp only [hx];rw [e, e2, if_neg (by rw [hst]; exact hov), if_pos ⟨h2, hm⟩];rfl
theorem Alike.trans {a b c : List S57} (h : Alike a b) (k : Alike b c) : Alike a c := by
 refine ⟨k.len.trans h.len, fun n h1 h2 => ?_⟩;have h3 : n < b.length := by rw [h.len]; exact h1
 exact ⟨(k.at_ n h3 h2).1.trans (h.at_ n h1 h3).1, (k.at_ n h3 h2).2.1.trans (h.at_ n h1 h3).2.1, (k.at_ n h3 h2).2.2.trans (h.at_ n h1 h3).2.2⟩
def overA (now : Int) (l : List S57) (q : List S63) (i : Nat) (x : S57) (st0 : Int) : List S57 × List S63 × List Ev := if x.f3 = 2 then freeL now (l.set i { x with f3 := 0 }) q (st0 - 1).toNat false else (l, q, [])
theorem overA_alike (now : Int) (l : List S57) (q : List S63) {i : Nat} (hi : i < l.length) (st0 : Int) : Alike l (overA now l q i l[i] st0).1 /\ (overA now l q i l[i] st0).2.2.length <= 2 := by
 unfold overA;split
 ·exact ⟨(Alike.set { l[i] with f3 := 0 } hi rfl rfl rfl).trans (freeL_alike _ _ _ _ _), freeL_few _ _ _ _ _⟩
 ·exact ⟨⟨rfl, fun _ _ _ => ⟨rfl, rfl, rfl⟩⟩, by simp⟩
theorem endA_over {now : Int} {l : List S57} {q : List S63} {i : Nat} {j : S125} {js : List S125} {st0 st1 : Int} (hi : i < l.length) (hx : l[i].f2 = j :: js) (hst : stepOf j = ⟨st0, st1⟩) (hov : j.f3 = st1) {l1 : List S57} {q1 : List S63} {e1 : List Ev} (ha : overA now l q i l[i] st0 = (l1, q1, e1)) (hi1 : i < l1.length) : endA now l q i = if j.f2 + 1 = (j.f1.length : Int) then (l1.set i { l1[i] with f2 := js }, q1, e1 ++ [⟨now, 2, l[i].f0, j.f0⟩]) else (l1.set i { l1[i] with f2 := { j with f2 := j.f2 + 1, f3 := 0 } :: js }, q1, e1) := by
 unfold overA at ha;unfold endA;rw [getD57 hi];simp only [hx] at ha |-;rw [if_pos (by rw [hst]; exact hov), hst];dsimp only at ha |-;rw [ha];dsimp only;rw [getD57 hi1]
theorem endA_none {now : Int} {l : List S57} {q : List S63} {i : Nat} {j : S125} {js : List S125} {st0 st1 : Int} (hi : i < l.length) (hx : l[i].f2 = j :: js) (hst : stepOf j = ⟨st0, st1⟩) (hov : j.f3 ≠ st1) (h2 : l[i].f3 = 2 -> ∃ (n : Nat) (hn : n < q.length), st0 = (n : Int) + 1 /\ l[i].f4 ≠ q[n].f0) : endA now l q i = (l, q, []) := by
 unfold endA;rw [getD57 hi];simp only [hx];rw [if_neg (by rw [hst]; exact hov), if_neg];rintro ⟨a, b⟩;obtain ⟨n, hn, e, h⟩ := h2 a;rw [hst, e] at b;have e1 : ((n : Int) + 1 - 1).toNat = n := by omega
 have e2 : q.getD n z63 = q[n] := by simp [hn]
 dsimp only at b;rw [e1, e2] at b;exact h b
structure EndOk (l : List S57) (q : List S63) (i : Nat) : Prop where
 sorted : Sorted l
 len : l.length <= 12
 qlen : q.length <= 8
 que : ∀ n (h : n < q.length), (∀ id ∈ q[n].f2, ∃ (p : Nat) (h : p < l.length), l[p].f0 = id) /\ q[n].f2.length <= 1000
 at_ : ∃ h : i < l.length, CbsOk l[i].f1 /\ l[i].f1.f4 ≠ 0 /\ ∃ j js, l[i].f2 = j :: js /\ JobOk j /\ (stepOf j).f0 <= q.length /\ (l[i].f3 = 2 -> 1 <= (stepOf j).f0)
theorem end_calls (M now : Int) (l : List S57) (q : List S63) (B : Bd) (o : OwnR) (A4 : Option Addr) (c4 : Nat) (i : Nat) (w : World) (hO : Own w B l q o) (hk : EndOk l q i) :
  Calls Tryz.prog 92 #[stV M now o.A l.length o.c o.A2 q.length o.c2 A4 c4, .int .i64 i] w fun e w' => DoneP B o (endL now l q i).1 (endL now l q i).2.1 (endL now l q i).2.2 w e w' := by
 obtain ⟨hs, hl12, hq8, hque, hi, hcbs, hmode, j, js, hx, hj, hsem, hsem2⟩ := hk;obtain ⟨g, hg, hrow⟩ := hO.row (by intro e; rw [e] at hi; simp at hi);obtain ⟨b, oo, rr, hb, hjrow, hpr⟩ := (hO.jobs i hi).row (by rw [hx]; simp);rw [hx] at hjrow hpr;have hjc := job_at hjrow;have hserv := serv_at hrow hi;have r6 := hserv.e6;rw [hx, hb] at r6;simp only [List.length_cons] at r6;have HO := hI hO;have HG := hI hg;have HJ := hI hj;have HXX := hI hx;have HP0 := hI (hpr 0 (by simp));have hjl : (0 : Int) < ((js.length + 1 : Nat) : Int) := by omega
 have i0 : (0 : Int) <= (i : Int) := by omega
 have i1 : (i : Int) < (l.length : Int) := by omega
 have HEND : Hid (endL now l q i = ((endB now (endA now l q i).1 i).1, (endA now l q i).2.1, (endA now l q i).2.2 ++ (endB now (endA now l q i).1 i).2)) := hI rfl;generalize endL now l q i = fin at *;have hown0 : ∀ c b, o.own c = some b -> b < w.heap.size := fun c b h => (hO.bnd c b h).2
 have HWN := hI hown0;have hold := hO.old;obtain ⟨⟨st0, st1⟩, hst⟩ : ∃ st, stepOf j = st := ⟨_, rfl⟩;rw [hst] at hsem hsem2;dsimp only at hsem hsem2;have HST := hI hst;unfold stV;rw [hg];have HB0 := hI (below_alloc (Below.refl w.heap.size w) (.cells #[.int .i64 M, .int .i64 now, .slice (some ⟨g, 0, none⟩) l.length o.c, .slice o.A2 q.length o.c2, .slice A4 0 c4] 47));have HX := hI (blk_new w (.cells #[.int .i64 M, .int .i64 now, .slice (some ⟨g, 0, none⟩) l.length o.c, .slice o.A2 q.length o.c2, .slice A4 0 c4] 47));have HSZ : Hid ((w.alloc (.cells #[.int .i64 M, .int .i64 now, .slice (some ⟨g, 0, none⟩) l.length o.c, .slice o.A2 q.length o.c2, .slice A4 0 c4] 47)).heap.size = w.heap.size + 1) := hI (World.size_alloc _ _);have HJC := hI hjc;clear hO hg hj hx hpr hst hown0 hserv hjc;go_enter Tryz.func92, Tryz.ntmps92
 go_upto_region 1 with fail
 generalize hw1 : World.alloc _ _ = w1 at *;clear hw1;have q2 := (blk_cell HX.out 2).trans rfl;have r6 := (HB0.out.cell (World.block_lt_of_cell? _ _ r6)).trans r6;obtain ⟨z0, z1, z2, z3⟩ := job_at (hjrow.below HB0.out);have hs1 := HSZ.out
 go_upto_region 4 with fail
 have hJ2 := blk_new w1 (.cells #[.int .i64 j.f0, .slice (rr 0).1 j.f1.length (rr 0).2, .int .i64 j.f2, .int .i64 j.f3] 125);rw [hs1] at hJ2;have HB12 := below_alloc (Below.refl w1.heap.size w1) (.cells #[.int .i64 j.f0, .slice (rr 0).1 j.f1.length (rr 0).2, .int .i64 j.f2, .int .i64 j.f3] 125);have HX2 := hI (blk_below HX.out HB12);have HB2 := hI (HB0.out.trans (HB12.mono (by omega)));have HJ2 := hI hJ2;generalize hw1 : World.alloc _ _ = w2 at *;clear hw1 hJ2 HB12 HX HB0 HSZ hs1 z0 z1 z2 z3 q2 r6;have hCp : Kd.C k72 w2 (rr 0).1 j.f1.length j.f1 := HP0.out.2 w2 (fun b hb hlt => HB2.out.block b hlt);have DS := fun wx (hh : Below w2.heap.size w2 wx) => jstep_calls j (rr 0).1 (rr 0).2 wx (Kd.C_below hCp hh) HJ.out
 rw [HST.out] at DS;dsimp only at DS;have u0 := (blk_cell HJ2.out 0).trans rfl;have u1 := (blk_cell HJ2.out 1).trans rfl;have u2 := (blk_cell HJ2.out 2).trans rfl;have u3 := (blk_cell HJ2.out 3).trans rfl
 go_upto_region 5 with (first | (go_at_call 58; (with_reducible refine (DS _ (Below.refl _ _)).mono ?_); rintro e w3 ⟨rfl, hB3⟩; have HB3 := hI hB3; clear hB3))
 have hS4 := blk_new w3 (.cells #[.int .i64 st0, .int .i64 st1] 72);have HB34 := below_alloc (Below.refl w3.heap.size w3) (.cells #[.int .i64 st0, .int .i64 st1] 72);have HB24 := HB3.out.trans (HB34.mono HB3.out.size);have hss : w.heap.size + 1 < w3.heap.size := Nat.lt_of_lt_of_le (blk_lt HJ2.out) HB3.out.size;generalize hsn : w3.heap.size = s at *
 have HE4 : Hid (En B w.heap.size s #[.int .i64 M, .int .i64 now, .slice (some ⟨g, 0, none⟩) l.length o.c, .slice o.A2 q.length o.c2, .slice A4 0 c4] #[.int .i64 j.f0, .slice (rr 0).1 j.f1.length (rr 0).2, .int .i64 j.f2, .int .i64 j.f3] #[.int .i64 st0, .int .i64 st1] w o o l q [] (.slice none 0 0) (w3.alloc (.cells #[.int .i64 st0, .int .i64 st1] 72))) := hI
  ⟨blk_below HX2.out HB24, blk_below HJ2.out HB24, hS4, HO.out.below (HB2.out.trans (HB24.mono HB2.out.size)), o.sub_refl, Kd.R_nil _ _ _ _ _, fun b e => by simp [Value.ownBlock] at e, Turn.of_below _ (HB2.out.trans (HB24.mono HB2.out.size)), HWN.out, rfl, hss, hold⟩
 generalize hw1 : World.alloc _ _ = w4 at *;clear hw1 hS4 HB34 HB24 HB3 HX2 HJ2 HB2 DS hCp u0 u1 u2 u3 hsn;have u3 := (blk_cell HE4.out.J 3).trans rfl;have x1 := (blk_cell HE4.out.S 1).trans rfl;have hka := endA_keep now l q i;have hfa := endA_few now l q i;obtain ⟨⟨la, qa, ea⟩, hea⟩ : ∃ a, endA now l q i = a := ⟨_, rfl⟩;rw [hea] at HEND hka hfa;dsimp only at HEND hka hfa;have HEA := hI hea;have hla := hka.len;have hia : i < la.length := by rw [hla]; exact hi
 have hid := (hka.at_ i hi hia).1;have hcbsA := (hka.at_ i hi hia).2;have HCB := hI hcbsA;have HID := hI hid;have HHC := hI hcbs;have HMD := hI hmode;clear hea hka hid hcbsA hcbs hmode
 go_upto_block 0 with fail
 go_cut [5, 10] from 11 (fun v5 v10 wx => ∃ oN, oN.A = o.A /\ Hid (En B w.heap.size s #[.int .i64 M, .int .i64 now, .slice (some ⟨g, 0, none⟩) l.length o.c, .slice o.A2 q.length o.c2, .slice A4 0 c4] #[.int .i64 j.f0, .slice (rr 0).1 j.f1.length (rr 0).2, .int .i64 j.f2, .int .i64 j.f3] #[.int .i64 st0, .int .i64 st1] w o oN la qa ea v5 wx))
 case rest =>
  obtain ⟨oN, hgN, HEN⟩ := hcut;have hgN2 := hgN.trans HG.out;clear HE4 u3 x1 HEA;obtain ⟨hrow, hserv⟩ := HEN.out.O.cells hia hgN2;have r0 := hserv.e0;have r5 := hserv.e5;have r6 := hserv.e6;have ⟨r1, r2, r3, r4, _⟩ := at54 hrow hia;have HRow := hI hrow;generalize hid0 : la[i].f0 = id0 at r0 HID;have HI0 := hI hid0;have hNs : w.heap.size <= wc.heap.size := HEN.out.T.size;clear hserv hid0 hrow;by_cases hz : la[i].f2.length = 0
  ·rw [hz] at r6;have DI := fun wx => idle_calls la[i].f1 wx (by rw [HCB.out]; exact HHC.out) (by rw [HCB.out]; exact HMD.out)
   unfold agg54 at DI;dsimp only at DI
   go_upto_region 21 with (first | (go_at_call 112; (with_reducible refine (DI _).mono ?_); rintro e w5 ⟨rfl, hB5⟩; obtain ⟨s1, s2, s3, s4, s5⟩ := at54 (HRow.out.below hB5) hia; have hfz := fun k => (HRow.out.below hB5).free k; have HB5 := hI hB5; clear hB5))
   have HRow6 := hI (serv_set54 (HRow.out.below HB5.out) hia { la[i].f1 with f4 := 0 });have HT6 := hI (turn_set54 (Turn.refl w5 (fun b => b = g)) rfl (i * 11 + 1) (.int .i64 la[i].f1.f0) (.int .i64 la[i].f1.f1) (.int .i64 la[i].f1.f2) (.int .i64 la[i].f1.f3) (.int .i64 0));generalize hws : World.setCell _ _ _ = w6 at *;have HE6 := hI ((HEN.out.below HB5.out).serv hia { la[i] with f1 := { la[i].f1 with f4 := 0 } } rfl hgN2 HT6.out HRow6.out)
   have hid6 : w6.cell? ⟨g, i * 11, none⟩ = some (.int .i64 id0) := by
    have := HRow6.out.cell (i := i) (by rw [List.length_set, rowsOf_len]; exact hia) (j := 0) (by omega) (v := .int .i64 la[i].f0) (by rw [List.getElem_set_self]; rfl);rw [HI0.out] at this
    rwa [Nat.zero_add, Nat.add_zero] at this
   have hNs6 : w.heap.size <= w6.heap.size := HE6.out.T.size;clear hws s1 s2 s3 s4 s5 hfz r0 r1 r2 r3 r4 r5 r6 DI HRow HRow6 HT6 HB5 HEN hNs;generalize hlb : la.set i { la[i] with f1 := { la[i].f1 with f4 := 0 } } = lb at *;have HLB := hI hlb;clear hlb;refine start_ (n := 10) (S := fun w' => Hid (En B w.heap.size s #[.int .i64 M, .int .i64 now, .slice (some ⟨g, 0, none⟩) l.length o.c, .slice o.A2 q.length o.c2, .slice A4 0 c4] #[.int .i64 j.f0, .slice (rr 0).1 j.f1.length (rr 0).2, .int .i64 j.f2, .int .i64 j.f3] #[.int .i64 st0, .int .i64 st1] w o oN lb qa ea u5 w') /\ w'.cell? ⟨g, i * 11, none⟩ = some (.int .i64 id0) /\ Hid (Below w6.drew.heap.size w6.drew w')) (ds := [8]) #[false, false, false, false, false, false, false, false, false, false] (by kernel_rfl) rfl rfl ⟨(hI (HE6.out.below (below_drew (Below.refl _ _)))), (show w6.drew.cell? _ = _ from hid6), (hI (Below.refl w6.drew.heap.size w6.drew))⟩ (fun hHeld => ?_);refine with_tabW endw.tab21 endw.bits21 (fun HT_ HW_ => ?_);have hbd : Hid (Below w6.heap.size w6 w6.drew) := hI ⟨rfl, rfl, rfl, Nat.le_refl _, fun _ _ => rfl⟩;have hsd : w6.heap.size = w6.drew.heap.size := rfl;generalize hwd : w6.drew = wd at *;clear hwd;refine pst 0 (some 156) HT_ ?_;refine pst 2 (some 158) HT_ ?_;refine pst 3 (some 159) HT_ ?_;refine pst 4 (some 160) HT_ ?_;refine tst 1 (some 157) HT_ HW_ hHeld ?_ (hy := by (rintro w' ⟨s0, s1, s2⟩; have e0 := (blk_cell s0.out.X 0).trans rfl; have e1 := (blk_cell s0.out.X 1).trans rfl; have e2 := (blk_cell s0.out.X 2).trans rfl; have e3 := (blk_cell s0.out.X 3).trans rfl; have e4 := (blk_cell s0.out.X 4).trans rfl); go_simp; with_reducible rfl);refine tst 5 (some 161) HT_ HW_ hHeld ?_ (hy := by (rintro w' ⟨s0, s1, s2⟩; have e0 := (blk_cell s0.out.X 0).trans rfl; have e1 := (blk_cell s0.out.X 1).trans rfl; have e2 := (blk_cell s0.out.X 2).trans rfl; have e3 := (blk_cell s0.out.X 3).trans rfl; have e4 := (blk_cell s0.out.X 4).trans rfl); go_simp; with_reducible rfl);refine one_ (i := 6) (N := some 162) #[true, true, true, true, true, true, true, false, false, false] rfl rfl (one_of HT_.out (by kernel_rfl)) (by decide) (fun K hK => ?_);refine goes_ Tryz.func28 (by kernel_rfl) rfl #[stV M now (some ⟨g, 0, none⟩) l.length o.c o.A2 q.length o.c2 A4 c4, .int .i64 10, .int .i64 id0, .int .i64 0] (by rfl) rfl rfl (by simp only [List.map_toArray, List.map_cons, List.map_nil]; rfl) ?_;with_reducible refine (event_calls _ _ _ _ _ _ _ _ _ _ 10 id0 0 _).mono ?_;rintro e w9 ⟨rfl, hB9⟩;refine ⟨_, rfl, ?_⟩;refine hK.out _ _ ⟨(hI (hHeld.1.out.below hB9)), ((hB9.cell (World.block_lt_of_cell? _ _ hHeld.2.1)).trans hHeld.2.1), (hI (hHeld.2.2.out.trans (hB9.mono hHeld.2.2.out.size)))⟩ (fun hHeld => ?_);clear hK K;refine norm_ (a' := ?_) ?_ ?_;rotate_left
   ·show Act.put _ (some 162) _ = _;simp only [Act.put, List.setIfInBounds_toArray, List.set_cons_zero, List.set_cons_succ, i64_w, i32_w];rfl
   refine one_ (i := 7) (N := some 163) #[true, true, true, true, true, true, true, true, false, false] rfl rfl (one_of HT_.out (by kernel_rfl)) (by decide) (fun K hK => ?_);refine Kd.R_lit_step (Kd.raw 4) (w0 := w9) w9.heap.size 67 (by rfl) (N := 163) rfl (xs := [[.int .i64 now, .int .i64 10, .int .i64 id0, .int .i64 0]]) (inner := [.int .i64 now, .int .i64 10, .int .i64 id0, .int .i64 0]) (ok := fun _ => True) (okp := fun _ => False) ?hr ?hp (fun _ h => h.elim) trivial (Below.refl _ _) (Nat.le_refl _) (by simp) ?_
   (case hr => first | (go_simp; done) | (go_simp; rfl))
   (case hp => exact reps_one)
   intro vL w10 hR10 hB10 _ _;obtain ⟨AL, cL, eL, hcL, hCL⟩ := Kd.R_reads hR10;subst eL;refine hK.out _ _ ⟨(hI (hHeld.1.out.below hB10)), ((hB10.cell (World.block_lt_of_cell? _ _ hHeld.2.1)).trans hHeld.2.1), (hI (hHeld.2.2.out.trans (hB10.mono hHeld.2.2.out.size)))⟩ (fun hHeld => ?_);clear hK K;refine norm_ (a' := ?_) ?_ ?_;rotate_left
   ·show Act.put _ (some 163) _ = _;simp only [Act.put, List.setIfInBounds_toArray, List.set_cons_zero, List.set_cons_succ, i64_w, i32_w];rfl
   refine last_ (i := 8) (N := some 164) #[true, true, true, true, true, true, true, true, true, false] rfl rfl (one_of HT_.out (by kernel_rfl)) (by decide) (fun K hK => ?_);refine Kd.R_append_rows_step (Kd.raw 4) (Rr := (Kd.raw 4).K w10) (w0 := w10) w.heap.size (by rfl) (.tmp 156) (.tmp 163) 48 67 (.agg #[.int .i64 0, .int .i64 0, .int .i64 0, .int .i64 0]) 32 rfl Tryz.underlying48 info67 rfl (by decide) (by omega) u5 (ea.map Ev.cells) [[.int .i64 now, .int .i64 10, .int .i64 id0, .int .i64 0]] AL 1 cL (fun _ => True) (fun _ => False) (by rfl) (by rfl) hHeld.1.out.E hCL (fun _ _ h => h) (fun _ h => h.elim) (fun _ _ => trivial) (Below.refl _ _) (by have := hHeld.2.2.out.size; omega) (by simp only [List.length_map, List.length_append, List.length_cons, List.length_nil]; omega) ?_;intro vO w11 hR11 hB11 hg11 hat11;have HR11 := hI hR11;have HT11 := hI (grown_turn hg11);have HAT := hI hat11;have HB10x := hI (hbd.out.trans (hHeld.2.2.out.mono hbd.out.size));clear hR11 hB11 hg11 hat11;refine hK.out _ _ ?_;clear hK K;refine norm_ (a' := ?_) ?_ ?_;rotate_left
   ·show Act.put _ (some 164) _ = _;simp only [Act.put, List.setIfInBounds_toArray, List.set_cons_zero, List.set_cons_succ, i64_w, i32_w];rfl
   refine pst 9 (some 5) HT_ ?_;refine done_ (done_of HT_.out (by kernel_rfl)) ?_;have HEF := hI (HE6.out.ev (E' := [⟨now, 10, id0, 0⟩]) HB10x.out HT11.out HR11.out HAT.out);clear hHeld HB10x HT11 HR11 HAT hbd hsd HE6 hid6;go_wp2;go_ret
   have hfin : fin = (lb, qa, ea ++ [⟨now, 10, id0, 0⟩]) := by
    rw [HEND.out];unfold endB;rw [getD57 hia, if_pos hz, HLB.out, HI0.out]
   rw [hfin];exact ⟨oN, _, rfl, HEF.out.sub, HEF.out.O, HEF.out.E, HEF.out.T⟩
  ·have hzb : (((la[i].f2.length : Nat) : Int) == 0) = false := beq_eq_false_iff_ne.2 (by omega);have hid4 : wc.cell? ⟨g, i * 11, none⟩ = some (.int .i64 id0) := r0;by_cases hm2 : la[i].f1.f4 = 2
   ·have hmb : (la[i].f1.f4 == 2) = true := by simpa using hm2
    go_upto_region 23 with fail
    clear r0 r1 r2 r3 r4 r5 r6 HRow;refine start_ (n := 10) (S := fun w' => Hid (En B w.heap.size s #[.int .i64 M, .int .i64 now, .slice (some ⟨g, 0, none⟩) l.length o.c, .slice o.A2 q.length o.c2, .slice A4 0 c4] #[.int .i64 j.f0, .slice (rr 0).1 j.f1.length (rr 0).2, .int .i64 j.f2, .int .i64 j.f3] #[.int .i64 st0, .int .i64 st1] w o oN la qa ea u5 w') /\ w'.cell? ⟨g, i * 11, none⟩ = some (.int .i64 id0) /\ Hid (Below wc.drew.heap.size wc.drew w')) (ds := [8]) #[false, false, false, false, false, false, false, false, false, false] (by kernel_rfl) rfl rfl ⟨(hI (HEN.out.below (below_drew (Below.refl _ _)))), (show wc.drew.cell? _ = _ from hid4), (hI (Below.refl wc.drew.heap.size wc.drew))⟩ (fun hHeld => ?_);refine with_tabW endw.tab23 endw.bits23 (fun HT_ HW_ => ?_);have hbd : Hid (Below wc.heap.size wc wc.drew) := hI ⟨rfl, rfl, rfl, Nat.le_refl _, fun _ _ => rfl⟩;have hsd : wc.heap.size = wc.drew.heap.size := rfl;generalize hwd : wc.drew = wd at *;clear hwd;refine pst 0 (some 172) HT_ ?_;refine pst 2 (some 174) HT_ ?_;refine pst 3 (some 175) HT_ ?_;refine pst 4 (some 176) HT_ ?_;refine tst 1 (some 173) HT_ HW_ hHeld ?_ (hy := by (rintro w' ⟨s0, s1, s2⟩; have e0 := (blk_cell s0.out.X 0).trans rfl; have e1 := (blk_cell s0.out.X 1).trans rfl; have e2 := (blk_cell s0.out.X 2).trans rfl; have e3 := (blk_cell s0.out.X 3).trans rfl; have e4 := (blk_cell s0.out.X 4).trans rfl); go_simp; with_reducible rfl);refine tst 5 (some 177) HT_ HW_ hHeld ?_ (hy := by (rintro w' ⟨s0, s1, s2⟩; have e0 := (blk_cell s0.out.X 0).trans rfl; have e1 := (blk_cell s0.out.X 1).trans rfl; have e2 := (blk_cell s0.out.X 2).trans rfl; have e3 := (blk_cell s0.out.X 3).trans rfl; have e4 := (blk_cell s0.out.X 4).trans rfl); go_simp; with_reducible rfl);refine one_ (i := 6) (N := some 178) #[true, true, true, true, true, true, true, false, false, false] rfl rfl (one_of HT_.out (by kernel_rfl)) (by decide) (fun K hK => ?_);refine goes_ Tryz.func28 (by kernel_rfl) rfl #[stV M now (some ⟨g, 0, none⟩) l.length o.c o.A2 q.length o.c2 A4 c4, .int .i64 4, .int .i64 id0, .int .i64 0] (by rfl) rfl rfl (by simp only [List.map_toArray, List.map_cons, List.map_nil]; rfl) ?_;with_reducible refine (event_calls _ _ _ _ _ _ _ _ _ _ 4 id0 0 _).mono ?_;rintro e w9 ⟨rfl, hB9⟩;refine ⟨_, rfl, ?_⟩;refine hK.out _ _ ⟨(hI (hHeld.1.out.below hB9)), ((hB9.cell (World.block_lt_of_cell? _ _ hHeld.2.1)).trans hHeld.2.1), (hI (hHeld.2.2.out.trans (hB9.mono hHeld.2.2.out.size)))⟩ (fun hHeld => ?_);clear hK K;refine norm_ (a' := ?_) ?_ ?_;rotate_left
    ·show Act.put _ (some 178) _ = _;simp only [Act.put, List.setIfInBounds_toArray, List.set_cons_zero, List.set_cons_succ, i64_w, i32_w];rfl
    refine one_ (i := 7) (N := some 179) #[true, true, true, true, true, true, true, true, false, false] rfl rfl (one_of HT_.out (by kernel_rfl)) (by decide) (fun K hK => ?_);refine Kd.R_lit_step (Kd.raw 4) (w0 := w9) w9.heap.size 67 (by rfl) (N := 179) rfl (xs := [[.int .i64 now, .int .i64 4, .int .i64 id0, .int .i64 0]]) (inner := [.int .i64 now, .int .i64 4, .int .i64 id0, .int .i64 0]) (ok := fun _ => True) (okp := fun _ => False) ?hr ?hp (fun _ h => h.elim) trivial (Below.refl _ _) (Nat.le_refl _) (by simp) ?_
    (case hr => first | (go_simp; done) | (go_simp; rfl))
    (case hp => exact reps_one)
    intro vL w10 hR10 hB10 _ _;obtain ⟨AL, cL, eL, hcL, hCL⟩ := Kd.R_reads hR10;subst eL;refine hK.out _ _ ⟨(hI (hHeld.1.out.below hB10)), ((hB10.cell (World.block_lt_of_cell? _ _ hHeld.2.1)).trans hHeld.2.1), (hI (hHeld.2.2.out.trans (hB10.mono hHeld.2.2.out.size)))⟩ (fun hHeld => ?_);clear hK K;refine norm_ (a' := ?_) ?_ ?_;rotate_left
    ·show Act.put _ (some 179) _ = _;simp only [Act.put, List.setIfInBounds_toArray, List.set_cons_zero, List.set_cons_succ, i64_w, i32_w];rfl
    refine last_ (i := 8) (N := some 180) #[true, true, true, true, true, true, true, true, true, false] rfl rfl (one_of HT_.out (by kernel_rfl)) (by decide) (fun K hK => ?_);refine Kd.R_append_rows_step (Kd.raw 4) (Rr := (Kd.raw 4).K w10) (w0 := w10) w.heap.size (by rfl) (.tmp 172) (.tmp 179) 48 67 (.agg #[.int .i64 0, .int .i64 0, .int .i64 0, .int .i64 0]) 32 rfl Tryz.underlying48 info67 rfl (by decide) (by omega) u5 (ea.map Ev.cells) [[.int .i64 now, .int .i64 4, .int .i64 id0, .int .i64 0]] AL 1 cL (fun _ => True) (fun _ => False) (by rfl) (by rfl) hHeld.1.out.E hCL (fun _ _ h => h) (fun _ h => h.elim) (fun _ _ => trivial) (Below.refl _ _) (by have := hHeld.2.2.out.size; omega) (by simp only [List.length_map, List.length_append, List.length_cons, List.length_nil]; omega) ?_;intro vO w11 hR11 hB11 hg11 hat11;have HR11 := hI hR11;have HT11 := hI (grown_turn hg11);have HAT := hI hat11;have HB10x := hI (hbd.out.trans (hHeld.2.2.out.mono hbd.out.size));clear hR11 hB11 hg11 hat11;refine hK.out _ _ ?_;clear hK K;refine norm_ (a' := ?_) ?_ ?_;rotate_left
    ·show Act.put _ (some 180) _ = _;simp only [Act.put, List.setIfInBounds_toArray, List.set_cons_zero, List.set_cons_succ, i64_w, i32_w];rfl
    refine pst 9 (some 5) HT_ ?_;refine done_ (done_of HT_.out (by kernel_rfl)) ?_;have HEF := hI (HEN.out.ev (E' := [⟨now, 4, id0, 0⟩]) HB10x.out HT11.out HR11.out HAT.out);clear hHeld HB10x HT11 HR11 HAT hbd hsd HEN hid4;go_wp2;go_ret
    have hfin : fin = (la, qa, ea ++ [⟨now, 4, id0, 0⟩]) := by
     rw [HEND.out];unfold endB;rw [getD57 hia, if_neg hz, if_pos hm2, HI0.out]
    rw [hfin];exact ⟨oN, _, rfl, HEF.out.sub, HEF.out.O, HEF.out.E, HEF.out.T⟩
   ·have hmb : (la[i].f1.f4 == 2) = false := by simpa using hm2
    go_wp2;go_ret
    have hfin : fin = (la, qa, ea) := by
     rw [HEND.out];unfold endB;rw [getD57 hia, if_neg hz, if_neg hm2, List.append_nil]
    rw [hfin];exact ⟨oN, _, rfl, HEN.out.sub, HEN.out.O, HEN.out.E, HEN.out.T⟩
 case first =>
  have hserv := (HE4.out.O.cells hi HG.out).2;have r7 := hserv.e7;have r8 := hserv.e8;clear hserv;by_cases hov : j.f3 = st1
  ·skip
   have hovb : (j.f3 == st1) = true := by rw [hov]; simp
   have hAL := overA_alike now l q hi st0;obtain ⟨⟨l1, q1, e1⟩, ha1⟩ : ∃ a, overA now l q i l[i] st0 = a := ⟨_, rfl⟩;rw [ha1] at hAL;dsimp only at hAL;obtain ⟨hAL, hfew⟩ := hAL;have hi1 : i < l1.length := by rw [hAL.len]; exact hi
   have HOV := hI (endA_over hi HXX.out HST.out hov ha1 hi1);have HA1 := hI ha1;have HAL := hI (hAL.at_ i hi hi1);have hl1 := hAL.len;have HOVE := hI hov;clear hAL ha1 hov
   go_upto_block 2 with fail
   go_cut [5, 10] from 11 (fun v5 v10 wx => ∃ o1, o1.A = o.A /\ Hid (En B w.heap.size s #[.int .i64 M, .int .i64 now, .slice (some ⟨g, 0, none⟩) l.length o.c, .slice o.A2 q.length o.c2, .slice A4 0 c4] #[.int .i64 j.f0, .slice (rr 0).1 j.f1.length (rr 0).2, .int .i64 j.f2, .int .i64 j.f3] #[.int .i64 st0, .int .i64 st1] w o o1 l1 q1 e1 v5 wx))
   case rest =>
    obtain ⟨o1, hg1, HE1⟩ := hcut;clear HE4 u3 x1 r7 r8;have hgN := hg1.trans HG.out;have hx1 : l1[i].f2 = j :: js := HAL.out.2.2.trans HXX.out;obtain ⟨b1, oo1, rr1, hb1, hjr1, hpr1⟩ := (HE1.out.O.jobs i hi1).row (by rw [hx1]; simp);rw [hx1] at hjr1 hpr1;have r6 := (HE1.out.O.cells hi1 hgN).2.e6;rw [hx1, hb1] at r6;simp only [List.length_cons] at r6
    have hF : ∀ wx, Turn w wx (fun b => ∃ c, o.own c = some b) -> Kd.F k72 wx B.G (rr 0).1 j.f1.length j.f1 := fun wx hT W' hW => HP0.out.2 W' (fun b hb hlt => by
     rw [hW b hb (Nat.lt_of_lt_of_le hlt hT.size)];exact hT.block b hlt (fun ⟨c, hc⟩ => by have := (HO.out.bnd c b hc).1; have := B.lt b hb; omega))
    have DN := fun wx (hT : Turn w wx (fun b => ∃ c, o.own c = some b)) => jnext_calls j (rr 0).1 (rr 0).2 wx (hF wx hT wx (fun _ _ _ => rfl)) HJ.out (by rw [HST.out]; exact HOVE.out)
    have HJR := hI hjr1;have HPR := hI hpr1;have HB1 := hI hb1;have HX1 := hI hx1;have HFF := hI hF;clear hjr1 hpr1 hb1 hx1 hF
    go_upto_region 11 with fail
    refine start_ (n := 11) (S := fun w' => Hid (En B w.heap.size s #[.int .i64 M, .int .i64 now, .slice (some ⟨g, 0, none⟩) l.length o.c, .slice o.A2 q.length o.c2, .slice A4 0 c4] #[.int .i64 j.f0, .slice (rr 0).1 j.f1.length (rr 0).2, .int .i64 j.f2, .int .i64 j.f3] #[.int .i64 st0, .int .i64 st1] w o o1 l1 q1 e1 u5 w') /\ w'.cell? ⟨g, i * 11 + 6, none⟩ = some (.slice (some ⟨b1, oo1, none⟩) (js.length + 1) (o1.r i).2) /\ Hid (RowAt w' b1 oo1 4 125 (rowsOf jobRow (j :: js) rr1)) /\ Hid (Below wc.drew.heap.size wc.drew w')) (ds := [10]) #[false, false, false, false, false, false, false, false, false, false, false] (by kernel_rfl) rfl rfl ⟨(hI (HE1.out.below (below_drew (Below.refl _ _)))), (show wc.drew.cell? _ = _ from r6), (hI HJR.out.drew), (hI (Below.refl wc.drew.heap.size wc.drew))⟩ (fun hHeld => ?_);refine with_tabW endw.tab11 endw.bits11 (fun HT_ HW_ => ?_);have hbd : Hid (Below wc.heap.size wc wc.drew) := hI ⟨rfl, rfl, rfl, Nat.le_refl _, fun _ _ => rfl⟩;have hsd : wc.heap.size = wc.drew.heap.size := rfl;generalize hwd : wc.drew = wd at *;clear hwd;refine pst 0 (some 71) HT_ ?_;refine pst 1 (some 72) HT_ ?_;refine pst 2 (some 73) HT_ ?_;refine tst 3 (some 74) HT_ HW_ hHeld ?_ (hy := by (rintro w' ⟨s0, s1, s2, s3⟩; have u0 := (blk_cell s0.out.J 0).trans rfl; have u1 := (blk_cell s0.out.J 1).trans rfl; have u2 := (blk_cell s0.out.J 2).trans rfl; have u3 := (blk_cell s0.out.J 3).trans rfl); go_simp; with_reducible rfl);refine tst 4 (some 75) HT_ HW_ hHeld ?_ (hy := by (rintro w' ⟨s0, s1, s2, s3⟩; have u0 := (blk_cell s0.out.J 0).trans rfl; have u1 := (blk_cell s0.out.J 1).trans rfl; have u2 := (blk_cell s0.out.J 2).trans rfl; have u3 := (blk_cell s0.out.J 3).trans rfl); go_simp; with_reducible rfl);refine one_ (i := 5) (N := some 76) #[true, true, true, true, true, true, false, false, false, false, false] rfl rfl (one_of HT_.out (by kernel_rfl)) (by decide) (fun K hK => ?_);refine goes_ Tryz.func111 (by kernel_rfl) rfl #[.agg #[.int .i64 j.f0, .slice (rr 0).1 j.f1.length (rr 0).2, .int .i64 j.f2, .int .i64 j.f3]] (by rfl) rfl rfl (by simp only [List.map_toArray, List.map_cons, List.map_nil]; rfl) ?_;with_reducible refine (DN _ hHeld.1.out.T).mono ?_;rintro e w5 ⟨rfl, hB5⟩;refine ⟨_, rfl, ?_⟩;refine hK.out _ _ ⟨(hI (hHeld.1.out.below hB5)), ((hB5.cell (World.block_lt_of_cell? _ _ hHeld.2.1)).trans hHeld.2.1), (hI (hHeld.2.2.1.out.below hB5)), (hI (hHeld.2.2.2.out.trans (hB5.mono hHeld.2.2.2.out.size)))⟩ (fun hHeld => ?_);clear hK K;refine norm_ (a' := ?_) ?_ ?_;rotate_left
    ·show Act.put _ (some 76) _ = _;simp only [Act.put, List.setIfInBounds_toArray, List.set_cons_zero, List.set_cons_succ, i64_w, i32_w];rfl
    refine pst 6 (some 70) HT_ ?_;refine pst 7 (some 77) HT_ ?_;refine pst 8 (some 78) HT_ ?_;refine pst 9 (some 79) HT_ ?_;refine last_ (i := 10) (N := none) #[true, true, true, true, true, true, true, true, true, true, true] rfl rfl (one_of HT_.out (by kernel_rfl)) (by decide) (fun K hK => ?_);obtain ⟨x0, x1, x2, x3⟩ := job_at hHeld.2.2.1.out;have y := hHeld.2.2.1.out.free;refine skip_ (w1 := ?_) (by rfl) rfl ?_ ?_;rotate_left
    ·go_simp;rfl
    have HJ7 := hI (job_set hHeld.2.2.1.out (.int .i64 j.f0) (.slice (rr 0).1 j.f1.length (rr 0).2) (.int .i64 (j.f2 + 1)) (.int .i64 0));have HT7 := hI (turn_set4 (Turn.refl w5 (fun k => k = b1)) rfl oo1 (.int .i64 j.f0) (.slice (rr 0).1 j.f1.length (rr 0).2) (.int .i64 (j.f2 + 1)) (.int .i64 0));clear x0 x1 x2 x3 y;generalize hws : World.setCell _ _ _ = w7 at *;clear hws;refine hK.out _ _ ?_;clear hK K;refine done_ (done_of HT_.out (by kernel_rfl)) ?_
    have HE2 : Hid (En B w.heap.size s #[.int .i64 M, .int .i64 now, .slice (some ⟨g, 0, none⟩) l.length o.c, .slice o.A2 q.length o.c2, .slice A4 0 c4] #[.int .i64 j.f0, .slice (rr 0).1 j.f1.length (rr 0).2, .int .i64 j.f2, .int .i64 j.f3] #[.int .i64 st0, .int .i64 st1] w o o1 (l1.set i { l1[i] with f2 := { j with f2 := j.f2 + 1, f3 := 0 } :: js }) q1 e1 u5 w7) := hI (by
     have h5 := hHeld.1.out
     have hpr5 : Progs w5 B (j :: js) rr1 := fun k hk => ⟨(HPR.out k hk).1, fun W' hW => (HPR.out k hk).2 W' (fun b hb hlt => by
      rw [hW b hb (Nat.lt_of_lt_of_le hlt (Nat.le_trans hbd.out.size hHeld.2.2.2.out.size))];exact (hbd.out.trans (hHeld.2.2.2.out.mono hbd.out.size)).block b hlt)⟩
     exact h5.job hi1 (j := j) (js := js) (j' := { j with f2 := j.f2 + 1, f3 := 0 }) HX1.out HB1.out hpr5 (p0 := rr 0) ⟨HP0.out.1, HFF.out _ h5.T⟩ HT7.out HJ7.out)
    have hl2 : i < (l1.set i { l1[i] with f2 := { j with f2 := j.f2 + 1, f3 := 0 } :: js }).length := by rw [List.length_set]; exact hi1
    have hx2 : (l1.set i { l1[i] with f2 := { j with f2 := j.f2 + 1, f3 := 0 } :: js })[i] = { l1[i] with f2 := { j with f2 := j.f2 + 1, f3 := 0 } :: js } := List.getElem_set_self hl2;have h0 : (l1.set i { l1[i] with f2 := { j with f2 := j.f2 + 1, f3 := 0 } :: js })[i].f0 = l[i].f0 := by rw [hx2]; exact HAL.out.1
    have hset : ∀ y : S57, (l1.set i { l1[i] with f2 := { j with f2 := j.f2 + 1, f3 := 0 } :: js }).set i y = l1.set i y := fun y => List.set_set ..
    have HX2 := hI hx2;have HSET := hI hset;have HL2 : Hid (l1.set i { l1[i] with f2 := { j with f2 := j.f2 + 1, f3 := 0 } :: js } = l1.set i { l1[i] with f2 := { j with f2 := j.f2 + 1, f3 := 0 } :: js }) := hI rfl;generalize hj2 : ({ j with f2 := j.f2 + 1, f3 := 0 } : S125) = j2 at *;generalize hll2 : l1.set i { l1[i] with f2 := j2 :: js } = l2 at *;have HLL := hI hll2;have HJ2 := hI hj2;clear hHeld HJ7 HT7 HE1 HJR HPR HB1 HX1 DN r6 hbd hsd hx2 hset HL2 hj2 hll2 hB5;have hx2 : l2[i].f2 = j2 :: js := by rw [HX2.out]
    obtain ⟨b2, oo2, rr2, hb2, hjr2, hpr2⟩ := (HE2.out.O.jobs i hl2).row (by rw [hx2]; simp);rw [hx2] at hjr2;obtain ⟨z0, z1, z2, z3⟩ := job_at hjr2;have hs2 := (HE2.out.O.cells hl2 hgN).2;have r6 := hs2.e6;rw [hx2, hb2] at r6;simp only [List.length_cons] at r6;have r0 := hs2.e0;rw [h0] at r0;have ej2 : j2.f2 = j.f2 + 1 := by rw [<- HJ2.out]
    rw [ej2] at z2;have u1 := (blk_cell HE2.out.J 1).trans rfl;have HB2 := hI hb2;have HX2F := hI hx2;clear hjr2 hpr2 hs2 hb2 hx2 z0 z1 z3 ej2 h0
    go_upto_region 12 with fail
    go_quiet (fail);by_cases hat : j.f2 + 1 = (j.f1.length : Int)
    ·have hatb : (j.f2 + 1 == (j.f1.length : Int)) = true := by rw [hat]; simp
     have HAT2 := hI hat;clear hat
     go_upto_region 13 with fail
     have HE3 := hI (HE2.out.below (pw_below_drewN (Below.refl _ _) nq));generalize w7.drewN nq = w8 at *;clear HE2 r0 r6 z2 u1 HB2;have hid8 := (HE3.out.O.cells hl2 hgN).2.e0;have h0 : l2[i].f0 = l[i].f0 := by rw [HX2.out]; exact HAL.out.1
     rw [h0] at hid8;generalize hid0 : l[i].f0 = id0 at hid8 HID HOV;have HI0 := hI hid0;have hNs8 : w.heap.size <= w8.heap.size := HE3.out.T.size;clear hid0 h0;refine start_ (n := 12) (S := fun w' => Hid (En B w.heap.size s #[.int .i64 M, .int .i64 now, .slice (some ⟨g, 0, none⟩) l.length o.c, .slice o.A2 q.length o.c2, .slice A4 0 c4] #[.int .i64 j.f0, .slice (rr 0).1 j.f1.length (rr 0).2, .int .i64 j.f2, .int .i64 j.f3] #[.int .i64 st0, .int .i64 st1] w o o1 l2 q1 e1 u5 w') /\ w'.cell? ⟨g, i * 11, none⟩ = some (.int .i64 id0) /\ Hid (Below w8.drew.heap.size w8.drew w')) (ds := [10]) #[false, false, false, false, false, false, false, false, false, false, false, false] (by kernel_rfl) rfl rfl ⟨(hI (HE3.out.below (below_drew (Below.refl _ _)))), (show w8.drew.cell? _ = _ from hid8), (hI (Below.refl w8.drew.heap.size w8.drew))⟩ (fun hHeld => ?_);refine with_tabW endw.tab13 endw.bits13 (fun HT_ HW_ => ?_);have hbd : Hid (Below w8.heap.size w8 w8.drew) := hI ⟨rfl, rfl, rfl, Nat.le_refl _, fun _ _ => rfl⟩;have hsd : w8.heap.size = w8.drew.heap.size := rfl;generalize hwd : w8.drew = wd at *;clear hwd;refine pst 0 (some 91) HT_ ?_;refine pst 2 (some 93) HT_ ?_;refine pst 3 (some 94) HT_ ?_;refine pst 4 (some 95) HT_ ?_;refine pst 6 (some 97) HT_ ?_;refine tst 1 (some 92) HT_ HW_ hHeld ?_ (hy := by (rintro w' ⟨s0, s1, s2⟩; have e0 := (blk_cell s0.out.X 0).trans rfl; have e1 := (blk_cell s0.out.X 1).trans rfl; have e2 := (blk_cell s0.out.X 2).trans rfl; have e3 := (blk_cell s0.out.X 3).trans rfl; have e4 := (blk_cell s0.out.X 4).trans rfl; have u0 := (blk_cell s0.out.J 0).trans rfl); go_simp; with_reducible rfl);refine tst 5 (some 96) HT_ HW_ hHeld ?_ (hy := by (rintro w' ⟨s0, s1, s2⟩; have e0 := (blk_cell s0.out.X 0).trans rfl; have e1 := (blk_cell s0.out.X 1).trans rfl; have e2 := (blk_cell s0.out.X 2).trans rfl; have e3 := (blk_cell s0.out.X 3).trans rfl; have e4 := (blk_cell s0.out.X 4).trans rfl; have u0 := (blk_cell s0.out.J 0).trans rfl); go_simp; with_reducible rfl);refine tst 7 (some 98) HT_ HW_ hHeld ?_ (hy := by (rintro w' ⟨s0, s1, s2⟩; have e0 := (blk_cell s0.out.X 0).trans rfl; have e1 := (blk_cell s0.out.X 1).trans rfl; have e2 := (blk_cell s0.out.X 2).trans rfl; have e3 := (blk_cell s0.out.X 3).trans rfl; have e4 := (blk_cell s0.out.X 4).trans rfl; have u0 := (blk_cell s0.out.J 0).trans rfl); go_simp; with_reducible rfl);refine one_ (i := 8) (N := some 99) #[true, true, true, true, true, true, true, true, true, false, false, false] rfl rfl (one_of HT_.out (by kernel_rfl)) (by decide) (fun K hK => ?_);refine goes_ Tryz.func28 (by kernel_rfl) rfl #[stV M now (some ⟨g, 0, none⟩) l.length o.c o.A2 q.length o.c2 A4 c4, .int .i64 2, .int .i64 id0, .int .i64 j.f0] (by rfl) rfl rfl (by simp only [List.map_toArray, List.map_cons, List.map_nil]; rfl) ?_;with_reducible refine (event_calls _ _ _ _ _ _ _ _ _ _ 2 id0 j.f0 _).mono ?_;rintro e w9 ⟨rfl, hB9⟩;refine ⟨_, rfl, ?_⟩;refine hK.out _ _ ⟨(hI (hHeld.1.out.below hB9)), ((hB9.cell (World.block_lt_of_cell? _ _ hHeld.2.1)).trans hHeld.2.1), (hI (hHeld.2.2.out.trans (hB9.mono hHeld.2.2.out.size)))⟩ (fun hHeld => ?_);clear hK K;refine norm_ (a' := ?_) ?_ ?_;rotate_left
     ·show Act.put _ (some 99) _ = _;simp only [Act.put, List.setIfInBounds_toArray, List.set_cons_zero, List.set_cons_succ, i64_w, i32_w];rfl
     refine one_ (i := 9) (N := some 100) #[true, true, true, true, true, true, true, true, true, true, false, false] rfl rfl (one_of HT_.out (by kernel_rfl)) (by decide) (fun K hK => ?_);refine Kd.R_lit_step (Kd.raw 4) (w0 := w9) w9.heap.size 67 (by rfl) (N := 100) rfl (xs := [[.int .i64 now, .int .i64 2, .int .i64 id0, .int .i64 j.f0]]) (inner := [.int .i64 now, .int .i64 2, .int .i64 id0, .int .i64 j.f0]) (ok := fun _ => True) (okp := fun _ => False) ?hr ?hp (fun _ h => h.elim) trivial (Below.refl _ _) (Nat.le_refl _) (by simp) ?_
     (case hr => first | (go_simp; done) | (go_simp; rfl))
     (case hp => exact reps_one)
     intro vL w10 hR10 hB10 _ _;obtain ⟨AL, cL, eL, hcL, hCL⟩ := Kd.R_reads hR10;subst eL;refine hK.out _ _ ⟨(hI (hHeld.1.out.below hB10)), ((hB10.cell (World.block_lt_of_cell? _ _ hHeld.2.1)).trans hHeld.2.1), (hI (hHeld.2.2.out.trans (hB10.mono hHeld.2.2.out.size)))⟩ (fun hHeld => ?_);clear hK K;refine norm_ (a' := ?_) ?_ ?_;rotate_left
     ·show Act.put _ (some 100) _ = _;simp only [Act.put, List.setIfInBounds_toArray, List.set_cons_zero, List.set_cons_succ, i64_w, i32_w];rfl
     refine last_ (i := 10) (N := some 101) #[true, true, true, true, true, true, true, true, true, true, true, false] rfl rfl (one_of HT_.out (by kernel_rfl)) (by decide) (fun K hK => ?_);refine Kd.R_append_rows_step (Kd.raw 4) (Rr := (Kd.raw 4).K w10) (w0 := w10) w.heap.size (by rfl) (.tmp 91) (.tmp 100) 48 67 (.agg #[.int .i64 0, .int .i64 0, .int .i64 0, .int .i64 0]) 32 rfl Tryz.underlying48 info67 rfl (by decide) (by omega) u5 (e1.map Ev.cells) [[.int .i64 now, .int .i64 2, .int .i64 id0, .int .i64 j.f0]] AL 1 cL (fun _ => True) (fun _ => False) (by rfl) (by rfl) hHeld.1.out.E hCL (fun _ _ h => h) (fun _ h => h.elim) (fun _ _ => trivial) (Below.refl _ _) (by have := hHeld.2.2.out.size; omega) (by simp only [List.length_map, List.length_append, List.length_cons, List.length_nil]; omega) ?_;intro vO w11 hR11 hB11 hg11 hat11;have HR11 := hI hR11;have HT11 := hI (grown_turn hg11);have HAT := hI hat11;have HB10x := hI (hbd.out.trans (hHeld.2.2.out.mono hbd.out.size));clear hR11 hB11 hg11 hat11;refine hK.out _ _ ?_;clear hK K;refine norm_ (a' := ?_) ?_ ?_;rotate_left
     ·show Act.put _ (some 101) _ = _;simp only [Act.put, List.setIfInBounds_toArray, List.set_cons_zero, List.set_cons_succ, i64_w, i32_w];rfl
     refine pst 11 (some 5) HT_ ?_;refine done_ (done_of HT_.out (by kernel_rfl)) ?_;have HEF := hI (HE3.out.ev (E' := [⟨now, 2, id0, j.f0⟩]) HB10x.out HT11.out HR11.out HAT.out);clear hHeld HB10x HT11 HR11 HAT hbd hsd HE3 hid8 hR10 hB10 hB9 hCL hcL;obtain ⟨b3, oo3, rr3, hb3, _, _⟩ := (HEF.out.O.jobs i hl2).row (by rw [HX2F.out]; simp);have hs3 := (HEF.out.O.cells hl2 hgN).2;have r6 := hs3.e6;rw [HX2F.out, hb3] at r6;simp only [List.length_cons] at r6;have hRow11 := (HEF.out.O.cells hl2 hgN).1;have HRow11 := hI hRow11;have f6 := hRow11.free (i * 11 + 6);have hcapp := (HEF.out.O.jobs i hl2).cap;rw [HX2F.out] at hcapp;simp only [List.length_cons] at hcapp;have HB3 := hI hb3;clear hs3 hRow11 hb3;have hA3 := HEA.out;rw [HOV.out, if_pos HAT2.out] at hA3;injection hA3 with h3a h3b;injection h3b with h3b h3c;have HRow12 := serv_set HRow11.out (rows_at hl2) (j := 6) (by omega) (.slice (if (o1.r i).2 = 1 then some ⟨b3, oo3, none⟩ else some ⟨b3, oo3 + 4, none⟩) js.length ((o1.r i).2 - 1));have HT12 := ((Turn.refl w11 (fun b => b = g)).set rfl (i * 11 + 6) (.slice (if (o1.r i).2 = 1 then some ⟨b3, oo3, none⟩ else some ⟨b3, oo3 + 4, none⟩) js.length ((o1.r i).2 - 1)))
     obtain ⟨o2, hsub2, hA2, hE12⟩ := HEF.out.pop hl2 HX2F.out { l1[i] with f2 := js } rfl hgN HB3.out HT12 (by
      rw [HX2.out] at HRow12;exact HRow12)
     rw [HSET.out] at hE12;dsimp only at hE12;rw [h3a, h3b, h3c] at hE12;have HA2 := hI hA2;clear HRow12 HT12 hA2 hsub2 h3a h3b h3c HOV HEF;by_cases hc1 : (o1.r i).2 = 1
     ·rw [if_pos hc1, hc1] at hE12;have HE12 := hI hE12;clear hE12;go_wp2;go_meet;exact ⟨o2, HA2.out.trans hg1, HE12⟩
     ·rw [if_neg hc1] at hE12;have HE12 := hI hE12;clear hE12;go_wp2;go_meet;exact ⟨o2, HA2.out.trans hg1, HE12⟩
    ·have hatb : (j.f2 + 1 == (j.f1.length : Int)) = false := beq_eq_false_iff_ne.2 hat;go_wp2;go_meet;have hA3 := HEA.out;rw [HOV.out, if_neg hat] at hA3;injection hA3 with h3a h3b;injection h3b with h3b h3c;subst h3a h3b h3c;exact ⟨o1, hg1, hI (HE2.out.below (pw_below_drewN (Below.refl _ _) _))⟩
   case first =>
    by_cases hsec : l[i].f3 = 2
    ·have hsecb : (l[i].f3 == 2) = true := by rw [hsec]; rfl
     obtain ⟨n, rfl⟩ : ∃ n : Nat, st0 = (n : Int) + 1 := ⟨(st0 - 1).toNat, by have := hsem2 hsec; omega⟩;have hn : n < q.length := by omega
     have hRow4 := (HE4.out.O.cells hi HG.out).1;have HRow4 := hI hRow4;have f7 := hRow4.free (i * 11 + 7);have HA2 := HA1.out;unfold overA at HA2;rw [if_pos hsec, show ((n : Int) + 1 - 1).toNat = n by omega] at HA2;have HSC := hI hsec;clear hRow4 hsec
     go_upto_region 10 with fail
     have HRow5 := hI (serv_set HRow4.out (rows_at hi) (j := 7) (by omega) (.int .i64 0));have HT5 := hI ((Turn.refl w4 (fun b => b = g)).set rfl (i * 11 + 7) (.int .i64 0));generalize hws : World.setCell _ _ _ = w5 at *;have HE5 := hI (HE4.out.serv hi { l[i] with f3 := 0 } rfl HG.out HT5.out HRow5.out);have hK : Kept l (l.set i { l[i] with f3 := 0 }) := (Kept.refl l).set _ (fun _ => ⟨rfl, rfl⟩);generalize hl2 : l.set i { l[i] with f3 := 0 } = l2 at *;have DF := fun wx (hw : Own wx B l2 q o) => free_calls M now l2 q B o A4 c4 n false wx hw (hK.sorted hs) (by rw [hK.len]; exact hl12) hn hq8 (fun id h => hK.ids ((hque n hn).1 id h)) (hque n hn).2
     rw [HG.out, hK.len] at DF;unfold stV at DF;rw [HA2] at DF;dsimp only at DF;have e0 := (blk_cell HE5.out.X 0).trans rfl;have e1' := (blk_cell HE5.out.X 1).trans rfl;have e2' := (blk_cell HE5.out.X 2).trans rfl;have e3' := (blk_cell HE5.out.X 3).trans rfl;have e4' := (blk_cell HE5.out.X 4).trans rfl;have x0 := (blk_cell HE5.out.S 0).trans rfl;have hs5 : s < w5.heap.size := blk_lt HE5.out.S;clear hws HE4 HRow4 HRow5 HT5 f7 r7 r8 hK hl2 HA2 u3 x1
     go_wp2_with (first
      | (go_at_call 110; (with_reducible refine (DF _ HE5.out.O).mono ?_); rintro e w6 hP; obtain ⟨o3, v3, rfl, hA3, hE6, hR6⟩ := HE5.out.done hP; have HE6 := hI (hE6.told hR6 hs5); have HA3 := hI hA3; clear hP hE6 hR6 hA3))
     go_meet;exact ⟨o3, HA3.out, HE6⟩
    ·have hsecb : (l[i].f3 == 2) = false := beq_eq_false_iff_ne.2 hsec;go_wp2;go_meet;have hA3 := HA1.out;unfold overA at hA3;rw [if_neg hsec] at hA3;injection hA3 with h3a h3b;injection h3b with h3b h3c;subst h3a h3b h3c;exact ⟨o, rfl, HE4⟩
  ·have hovb : (j.f3 == st1) = false := beq_eq_false_iff_ne.2 hov;by_cases hsec : l[i].f3 = 2
   ·have hsecb : (l[i].f3 == 2) = true := by rw [hsec]; rfl
    obtain ⟨n, rfl⟩ : ∃ n : Nat, st0 = (n : Int) + 1 := ⟨(st0 - 1).toNat, by have := hsem2 hsec; omega⟩;have hn : n < q.length := by omega
    obtain ⟨h, hh, hlok⟩ := HE4.out.O.lok (by intro e; rw [e] at hn; simp at hn);obtain ⟨k0, _, _, _⟩ := lock_at hlok hn;have q3 : w4.cell? ⟨w.heap.size, 3, none⟩ = some (.slice (some ⟨h, 0, none⟩) q.length o.c2) := by rw [<- hh]; exact (blk_cell HE4.out.X 3).trans rfl
    have x0 := (blk_cell HE4.out.S 0).trans rfl;have n1 : IntKind.i64.wrap ((n : Int) + 1 - 1) = (n : Int) := by rw [i64_w]; unfold Go.RowKit.wrap64; omega
    have n0 : (0 : Int) <= (n : Int) := by omega
    have n2 : (n : Int) < (q.length : Int) := by omega
    have HH := hI hh;clear hlok hh;by_cases hmost : l[i].f4 = q[n].f0
    ·have hmb : (l[i].f4 == q[n].f0) = true := by rw [hmost]; simp
     go_upto_region 8 with fail
     go_quiet (fail)
     go_upto_region 15 with fail
     have HE5 := hI (HE4.out.below (pw_below_drewN (Below.refl _ _) nq));generalize w4.drewN nq = w5 at *;clear HE4 u3 x1 r7 r8 k0 q3 x0;have hid5 : w5.cell? ⟨g, i * 11, none⟩ = some (.int .i64 l[i].f0) := (HE5.out.O.cells hi HG.out).2.e0;generalize hid0 : l[i].f0 = id0 at hid5 HID;have HI0 := hI hid0;have hNs5 : w.heap.size <= w5.heap.size := HE5.out.T.size;clear hid0;refine start_ (n := 12) (S := fun w' => Hid (En B w.heap.size s #[.int .i64 M, .int .i64 now, .slice (some ⟨g, 0, none⟩) l.length o.c, .slice o.A2 q.length o.c2, .slice A4 0 c4] #[.int .i64 j.f0, .slice (rr 0).1 j.f1.length (rr 0).2, .int .i64 j.f2, .int .i64 j.f3] #[.int .i64 ((n : Int) + 1), .int .i64 st1] w o o l q [] (.slice none 0 0) w') /\ w'.cell? ⟨g, i * 11, none⟩ = some (.int .i64 id0) /\ Hid (Below w5.drew.heap.size w5.drew w')) (ds := [10]) #[false, false, false, false, false, false, false, false, false, false, false, false] (by kernel_rfl) rfl rfl ⟨(hI (HE5.out.below (below_drew (Below.refl _ _)))), (show w5.drew.cell? _ = _ from hid5), (hI (Below.refl w5.drew.heap.size w5.drew))⟩ (fun hHeld => ?_);refine with_tabW endw.tab15 endw.bits15 (fun HT_ HW_ => ?_);have hbd : Hid (Below w5.heap.size w5 w5.drew) := hI ⟨rfl, rfl, rfl, Nat.le_refl _, fun _ _ => rfl⟩;have hsd : w5.heap.size = w5.drew.heap.size := rfl;generalize hwd : w5.drew = wd at *;clear hwd;refine pst 0 (some 110) HT_ ?_;refine pst 2 (some 112) HT_ ?_;refine pst 3 (some 113) HT_ ?_;refine pst 4 (some 114) HT_ ?_;refine pst 6 (some 116) HT_ ?_;refine tst 1 (some 111) HT_ HW_ hHeld ?_ (hy := by (rintro w' ⟨s0, s1, s2⟩; have e0 := (blk_cell s0.out.X 0).trans rfl; have e1 := (blk_cell s0.out.X 1).trans rfl; have e2 := (blk_cell s0.out.X 2).trans rfl; have e3 := (blk_cell s0.out.X 3).trans rfl; have e4 := (blk_cell s0.out.X 4).trans rfl; have u0 := (blk_cell s0.out.J 0).trans rfl); go_simp; with_reducible rfl);refine tst 5 (some 115) HT_ HW_ hHeld ?_ (hy := by (rintro w' ⟨s0, s1, s2⟩; have e0 := (blk_cell s0.out.X 0).trans rfl; have e1 := (blk_cell s0.out.X 1).trans rfl; have e2 := (blk_cell s0.out.X 2).trans rfl; have e3 := (blk_cell s0.out.X 3).trans rfl; have e4 := (blk_cell s0.out.X 4).trans rfl; have u0 := (blk_cell s0.out.J 0).trans rfl); go_simp; with_reducible rfl);refine tst 7 (some 117) HT_ HW_ hHeld ?_ (hy := by (rintro w' ⟨s0, s1, s2⟩; have e0 := (blk_cell s0.out.X 0).trans rfl; have e1 := (blk_cell s0.out.X 1).trans rfl; have e2 := (blk_cell s0.out.X 2).trans rfl; have e3 := (blk_cell s0.out.X 3).trans rfl; have e4 := (blk_cell s0.out.X 4).trans rfl; have u0 := (blk_cell s0.out.J 0).trans rfl); go_simp; with_reducible rfl);refine one_ (i := 8) (N := some 118) #[true, true, true, true, true, true, true, true, true, false, false, false] rfl rfl (one_of HT_.out (by kernel_rfl)) (by decide) (fun K hK => ?_);refine goes_ Tryz.func28 (by kernel_rfl) rfl #[stV M now (some ⟨g, 0, none⟩) l.length o.c o.A2 q.length o.c2 A4 c4, .int .i64 3, .int .i64 id0, .int .i64 j.f0] (by rfl) rfl rfl (by simp only [List.map_toArray, List.map_cons, List.map_nil]; rfl) ?_;with_reducible refine (event_calls _ _ _ _ _ _ _ _ _ _ 3 id0 j.f0 _).mono ?_;rintro e w9 ⟨rfl, hB9⟩;refine ⟨_, rfl, ?_⟩;refine hK.out _ _ ⟨(hI (hHeld.1.out.below hB9)), ((hB9.cell (World.block_lt_of_cell? _ _ hHeld.2.1)).trans hHeld.2.1), (hI (hHeld.2.2.out.trans (hB9.mono hHeld.2.2.out.size)))⟩ (fun hHeld => ?_);clear hK K;refine norm_ (a' := ?_) ?_ ?_;rotate_left
     ·show Act.put _ (some 118) _ = _;simp only [Act.put, List.setIfInBounds_toArray, List.set_cons_zero, List.set_cons_succ, i64_w, i32_w];rfl
     refine one_ (i := 9) (N := some 119) #[true, true, true, true, true, true, true, true, true, true, false, false] rfl rfl (one_of HT_.out (by kernel_rfl)) (by decide) (fun K hK => ?_);refine Kd.R_lit_step (Kd.raw 4) (w0 := w9) w9.heap.size 67 (by rfl) (N := 119) rfl (xs := [[.int .i64 now, .int .i64 3, .int .i64 id0, .int .i64 j.f0]]) (inner := [.int .i64 now, .int .i64 3, .int .i64 id0, .int .i64 j.f0]) (ok := fun _ => True) (okp := fun _ => False) ?hr ?hp (fun _ h => h.elim) trivial (Below.refl _ _) (Nat.le_refl _) (by simp) ?_
     (case hr => first | (go_simp; done) | (go_simp; rfl))
     (case hp => exact reps_one)
     intro vL w10 hR10 hB10 _ _;obtain ⟨AL, cL, eL, hcL, hCL⟩ := Kd.R_reads hR10;subst eL;refine hK.out _ _ ⟨(hI (hHeld.1.out.below hB10)), ((hB10.cell (World.block_lt_of_cell? _ _ hHeld.2.1)).trans hHeld.2.1), (hI (hHeld.2.2.out.trans (hB10.mono hHeld.2.2.out.size)))⟩ (fun hHeld => ?_);clear hK K;refine norm_ (a' := ?_) ?_ ?_;rotate_left
     ·show Act.put _ (some 119) _ = _;simp only [Act.put, List.setIfInBounds_toArray, List.set_cons_zero, List.set_cons_succ, i64_w, i32_w];rfl
     refine last_ (i := 10) (N := some 120) #[true, true, true, true, true, true, true, true, true, true, true, false] rfl rfl (one_of HT_.out (by kernel_rfl)) (by decide) (fun K hK => ?_);refine Kd.R_append_rows_step (Kd.raw 4) (Rr := (Kd.raw 4).K w10) (w0 := w10) w.heap.size (by rfl) (.tmp 110) (.tmp 119) 48 67 (.agg #[.int .i64 0, .int .i64 0, .int .i64 0, .int .i64 0]) 32 rfl Tryz.underlying48 info67 rfl (by decide) (by omega) (.slice none 0 0) ([].map Ev.cells) [[.int .i64 now, .int .i64 3, .int .i64 id0, .int .i64 j.f0]] AL 1 cL (fun _ => True) (fun _ => False) (by rfl) (by rfl) hHeld.1.out.E hCL (fun _ _ h => h) (fun _ h => h.elim) (fun _ _ => trivial) (Below.refl _ _) (by have := hHeld.2.2.out.size; omega) (by simp only [List.length_map, List.length_append, List.length_cons, List.length_nil]; omega) ?_;intro vO w11 hR11 hB11 hg11 hat11;have HR11 := hI hR11;have HT11 := hI (grown_turn hg11);have HAT := hI hat11;have HB10x := hI (hbd.out.trans (hHeld.2.2.out.mono hbd.out.size));clear hR11 hB11 hg11 hat11;refine hK.out _ _ ?_;clear hK K;refine norm_ (a' := ?_) ?_ ?_;rotate_left
     ·show Act.put _ (some 120) _ = _;simp only [Act.put, List.setIfInBounds_toArray, List.set_cons_zero, List.set_cons_succ, i64_w, i32_w];rfl
     refine pst 11 (some 5) HT_ ?_;refine done_ (done_of HT_.out (by kernel_rfl)) ?_;have HEF := hI (HE5.out.ev (E' := [⟨now, 3, id0, j.f0⟩]) HB10x.out HT11.out HR11.out HAT.out);have HVO := hI hHeld;clear hHeld HVO HB10x HT11 HR11 HAT hbd hsd HE5 hid5 hR10 hB10 hB9 hCL hcL;simp only [List.nil_append] at HEF;obtain ⟨b1, oo1, rr1, hb1, _, _⟩ := (HEF.out.O.jobs i hi).row (by rw [HXX.out]; simp);have hserv := (HEF.out.O.cells hi HG.out).2;have r6 := hserv.e6;have r7 := hserv.e7;rw [HXX.out, hb1] at r6;simp only [List.length_cons] at r6;have hRow11 := (HEF.out.O.cells hi HG.out).1;have HRow11 := hI hRow11;have f6 := hRow11.free (i * 11 + 6);have f7 := hRow11.free (i * 11 + 7);have HB1 := hI hb1;have hcapp := (HEF.out.O.jobs i hi).cap;rw [HXX.out] at hcapp;simp only [List.length_cons] at hcapp;clear hserv hRow11 hb1
     go_upto_region 18 with fail
     have hrl : i < (rowsOf servRow l o.r).length := by rw [rowsOf_len]; exact hi
     have HRow12 := hI (serv_set (serv_set HRow11.out (rows_at hi) (j := 6) (by omega) (.slice (if (o.r i).2 = 1 then some ⟨b1, oo1, none⟩ else some ⟨b1, oo1 + 4, none⟩) js.length ((o.r i).2 - 1))) (List.getElem?_set_self hrl) (j := 7) (by omega) (.int .i64 0));have HT12 := hI (((Turn.refl w11 (fun b => b = g)).set rfl (i * 11 + 6) (.slice (if (o.r i).2 = 1 then some ⟨b1, oo1, none⟩ else some ⟨b1, oo1 + 4, none⟩) js.length ((o.r i).2 - 1))).set rfl (i * 11 + 7) (.int .i64 0));generalize hws : World.setCell _ _ _ = w12 at *;clear hws r6 r7 f6 f7 HRow11;simp only [List.set_set] at HRow12;obtain ⟨o2, hsub2, hA2, hE12⟩ := HEF.out.pop hi HXX.out { l[i] with f2 := js, f3 := 0 } rfl HG.out HB1.out HT12.out HRow12.out;have HE12 := hI hE12;clear HT12 HRow12;generalize (if (o.r i).2 = 1 then some (⟨b1, oo1, none⟩ : Addr) else some ⟨b1, oo1 + 4, none⟩) = pA at *;have hK : Kept l (l.set i { l[i] with f2 := js, f3 := 0 }) := (Kept.refl l).set _ (fun _ => ⟨rfl, rfl⟩);have hA3 := HEA.out;rw [endA_held hi HXX.out HST.out hov hsec hn hmost] at hA3;generalize hl2 : l.set i { l[i] with f2 := js, f3 := 0 } = l2 at *;have hff := freeL_few now l2 q n true;have DF := fun wx (hw : Own wx B l2 q o2) => free_calls M now l2 q B o2 A4 c4 n true wx hw (hK.sorted hs) (by rw [hK.len]; exact hl12) hn hq8 (fun id h => hK.ids ((hque n hn).1 id h)) (hque n hn).2
     rw [hsub2.1, hsub2.2.1, hsub2.2.2.1, hsub2.2.2.2.1, HG.out, hK.len] at DF;unfold stV at DF;generalize freeL now l2 q n true = fr at *;obtain ⟨l3, q3, e3⟩ := fr;injection hA3 with h3a h3b;injection h3b with h3b h3c;dsimp only at h3a h3b h3c hff DF;have H3A := hI h3a;have H3B := hI h3b;have H3C := hI h3c;have HSUB2 := hI hA2;have e0 := (blk_cell HE12.out.X 0).trans rfl;have e1 := (blk_cell HE12.out.X 1).trans rfl;have e2 := (blk_cell HE12.out.X 2).trans rfl;have e3' := (blk_cell HE12.out.X 3).trans rfl;have e4 := (blk_cell HE12.out.X 4).trans rfl;have x0 := (blk_cell HE12.out.S 0).trans rfl;clear hE12 hK hl2 h3a h3b h3c hsub2 hA2 HEF HB1 HEA
     go_wp2_with (first
      | ((with_reducible refine gate_builtin (b := .append) (xs := #[.tmp 132, .tmp 136]) rfl ?_); at_builtin; refine Kd.R_append_rows (Kd.raw 4) (Rr := (Kd.raw 4).K w13) (okp := fun _ => False) (w0 := w13) w.heap.size rfl (.tmp 132) (.tmp 136) 48 67 (.agg #[.int .i64 0, .int .i64 0, .int .i64 0, .int .i64 0]) 32 rfl Tryz.underlying48 info67 rfl (by decide) (by omega) _ (List.map Ev.cells [⟨now, 3, id0, j.f0⟩]) (e3.map Ev.cells) AL _ cL (fun _ => True) rfl rfl HE13.out.E HCL.out (fun _ _ h => h) (fun _ h => h.elim) (fun _ _ => trivial) (Below.refl _ _) HE13.out.T.size ?aL ?_; (case aL => (simp only [List.length_map, List.length_append, List.length_cons, List.length_nil]; omega)); intro vF w14 hR14 hB14 hg14 hat14; have HE14 := hI (HE13.out.ev (E' := e3) (Below.refl _ _) (grown_turn hg14) hR14 hat14); clear hR14 hB14 hg14 hat14)
      | (go_at_call 110; (with_reducible refine (DF _ HE12.out.O).mono ?_); rintro e w13 hP; obtain ⟨o3, v3, rfl, hA3, hE13, hR13⟩ := HE12.out.done hP; obtain ⟨AL, cL, rfl, hcL, hCL⟩ := Kd.R_reads hR13; simp only [List.length_map] at hCL; have HE13 := hI hE13; have HCL := hI hCL; have HA3 := hI hA3; clear hP hE13 hR13 hCL hcL hA3))
     go_meet;refine ⟨o3, HA3.out.trans HSUB2.out, ?_⟩;rw [<- H3A.out, <- H3B.out, <- H3C.out, HI0.out];exact HE14
    ·have hmb : (l[i].f4 == q[n].f0) = false := beq_eq_false_iff_ne.2 hmost
     go_upto_region 8 with fail
     go_quiet (fail);go_wp2;go_meet;have hA3 := HEA.out;rw [endA_none hi HXX.out HST.out hov (fun _ => ⟨n, hn, rfl, hmost⟩)] at hA3;injection hA3 with h3a h3b;injection h3b with h3b h3c;subst h3a h3b h3c;exact ⟨o, rfl, hI (HE4.out.below (pw_below_drewN (Below.refl _ _) _))⟩
   ·have hsecb : (l[i].f3 == 2) = false := beq_eq_false_iff_ne.2 hsec
    go_upto_region 8 with fail
    go_quiet (fail);go_wp2;go_meet;have hA3 := HEA.out;rw [endA_none hi HXX.out HST.out hov (fun e => absurd e hsec)] at hA3;injection hA3 with h3a h3b;injection h3b with h3b h3c;subst h3a h3b h3c;exact ⟨o, rfl, hI (HE4.out.below (pw_below_drewN (Below.refl _ _) _))⟩
theorem grow_calls (w : World) : Calls Tryz.prog 109 #[.slice none 0 0, .int .i64 0] w fun e w' => e = .returned (.slice none 0 0) /\ w' = w := by
 go_enter Tryz.func109, Tryz.ntmps109;go_wp2;go_ret;exact ⟨rfl, rfl⟩
theorem concat_calls (ad : Addr) (c : Nat) (w : World) (h : ∀ k, k < 2 -> ∃ A c, w.cell? (ad.add k) = some (.slice A 0 c)) :
  Calls Tryz.prog 91 #[.slice (some ad) 2 c] w fun e w' => ∃ A' c', e = .returned (.slice A' 0 c') /\ Below w.heap.size w w' := by
 have HC := hI h;clear h;go_enter Tryz.func91, Tryz.ntmps91;go_wp2
 go_loopw [3, 11] (fun v3 v11 wr => ∃ (k : Nat), v11 = .int .i64 k /\ k <= 2 /\ v3 = .int .i64 0 /\ wr = w) (fun _ v11 _ => 2 - (intOf v11).toNat)
 case atStart => exact ⟨0, rfl, Nat.zero_le _, rfl, rfl⟩
 case round =>
  obtain ⟨k, rfl, hk, rfl, rfl⟩ := hrel;by_cases hlt : k < 2
  ·obtain ⟨A, c1, hc⟩ := HC.out k hlt;have k0 : (0 : Int) <= (k : Int) := by omega
   have k1 : (k : Int) < 2 := by omega
   go_wp2;go_roundw
   case rel => exact ⟨k + 1, by go_num, by omega, by first | rfl | trivial⟩
   case measure => first | (simp [intOf]; done) | (simp [intOf]; omega)
  ·have hk2 : k = 2 := by omega
   subst hk2
   go_wp2_with (go_at_call 109; (with_reducible refine (grow_calls _).mono ?_); rintro e w1 ⟨rfl, rfl⟩)
   go_loopw [6, 27] (fun v6 v27 wr => ∃ (k : Nat), v27 = .int .i64 k /\ k <= 2 /\ Hid ((Kd.raw 2).R 134 wr w1.heap.size (fun _ => True) v6 []) /\ Hid (Below w1.heap.size w1 wr)) (fun _ v27 _ => 2 - (intOf v27).toNat)
   case atStart => exact ⟨0, rfl, Nat.zero_le _, hI (Kd.R_nil _ _ _ _ _), hI (Below.refl _ _)⟩
   case round =>
    obtain ⟨k, rfl, hk, HR, HB⟩ := hrel;by_cases hlt : k < 2
    ·obtain ⟨A, c1, hc0⟩ := HC.out k hlt;have hc := (HB.out.cell (World.block_lt_of_cell? _ _ hc0)).trans hc0;clear hc0;have k0 : (0 : Int) <= (k : Int) := by omega
     have k1 : (k : Int) < 2 := by omega
     go_wp2_with (((with_reducible refine gate_builtin (b := .append) (xs := #[.tmp 31, .tmp 32]) rfl ?_); at_builtin; refine Kd.R_append_rows (Kd.raw 2) (Rr := (Kd.raw 2).K wr) (okp := fun _ => False) (w0 := w1) w1.heap.size rfl (.tmp 31) (.tmp 32) 45 134 (.agg #[.int .i64 0, .int .i64 0]) 16 rfl Tryz.underlying45 info134 rfl (by decide) (by omega) _ [] [] A 0 c1 (fun _ => True) rfl rfl HR.out (C_nil' (Kd.raw 2) wr A) (fun _ _ h => h) (fun _ h => h.elim) (fun _ _ => trivial) HB.out HB.out.size (by simp) ?_; intro v2 w2 hR2 hB2 _ _; have HR2 := hI hR2; have HB2 := hI hB2; clear hR2 hB2))
     go_roundw
     case rel => exact ⟨k + 1, by go_num, by omega, HR2, HB2⟩
     case measure => first | (simp [intOf]; done) | (simp [intOf]; omega)
    ·have hk2 : k = 2 := by omega
     subst hk2;obtain ⟨A, c1, rfl, _, _⟩ := Kd.R_reads HR.out;go_wp2;go_ret;exact ⟨A, c1, rfl, HB.out⟩
def placesOf (M : Int) (l : List S57) : List Nat := (runsL M l).map (ahead l)
def runAll (l : List S57) (ps : List Nat) : List S57 := ps.foldl (fun l p => l.set p (runV (l.getD p z57))) l
def endStep (now : Int) (st : List S57 × List S63 × List Ev) (p : Nat) : List S57 × List S63 × List Ev := ((endL now st.1 st.2.1 p).1, (endL now st.1 st.2.1 p).2.1, st.2.2 ++ (endL now st.1 st.2.1 p).2.2)
def endAll (now : Int) (l : List S57) (q : List S63) (ps : List Nat) : List S57 × List S63 × List Ev := ps.foldl (endStep now) (l, q, [])
def tickL (M now : Int) (l : List S57) (q : List S63) : List S57 × List S63 × List Ev :=
 let s := settleL M now l q
 let e := endAll (now + 1) (runAll s.1 (placesOf M s.1)) s.2.1 (placesOf M s.1)
 (e.1, e.2.1, s.2.2 ++ e.2.2)
def RunAt (l : List S57) (p : Nat) : Prop := ∃ h : p < l.length, CbsOk l[p].f1 /\ l[p].f1.f4 = 1 /\ (∃ j js, l[p].f2 = j :: js /\ JobOk j /\ (l[p].f3 ≠ 1 -> j.f3 + 1 <= (stepOf j).f1)) /\ (0 <= l[p].f6 /\ l[p].f6 <= 4611686018427387904) /\ (0 <= l[p].f4 /\ l[p].f4 <= 4611686018427387904)
structure TickOk (M now : Int) (l : List S57) (q : List S63) : Prop where
 ok : MOk M now l q
 sane : Sane M (settleL M now l q).1
 run : ∀ p ∈ placesOf M (settleL M now l q).1, RunAt (settleL M now l q).1 p
 ends : ∀ k (h : k < (placesOf M (settleL M now l q).1).length), EndOk (endAll (now + 1) (runAll (settleL M now l q).1 (placesOf M (settleL M now l q).1)) (settleL M now l q).2.1 ((placesOf M (settleL M now l q).1).take k)).1 (endAll (now + 1) (runAll (settleL M now l q).1 (placesOf M (settleL M now l q).1)) (settleL M now l q).2.1 ((placesOf M (settleL M now l q).1).take k)).2.1 (placesOf M (settleL M now l q).1)[k]
structure Ids (l l' : List S57) : Prop where
 len : l'.length = l.length
 at_ : ∀ k (h : k < l.length) (h' : k < l'.length), l'[k].f0 = l[k].f0
theorem Ids.refl (l : List S57) : Ids l l := ⟨rfl, fun _ _ _ => rfl⟩
theorem Ids.trans {a b c : List S57} (h : Ids a b) (k : Ids b c) : Ids a c := by
 refine ⟨k.len.trans h.len, fun n h1 h2 => ?_⟩;have h3 : n < b.length := by rw [h.len]; exact h1
 exact (k.at_ n h3 h2).trans (h.at_ n h1 h3)
theorem Ids.set {l : List S57} (i : Nat) (x : S57) (hx : ∀ (h : i < l.length), x.f0 = l[i].f0) : Ids l (l.set i x) := by
 refine ⟨by rw [List.length_set], fun k h1 h2 => ?_⟩;rw [List.getElem_set];by_cases e : i = k
 ·subst e; rw [if_pos rfl]; exact hx h1
 ·rw [if_neg e]
theorem Ids.sorted {l l' : List S57} (h : Ids l l') (hs : Sorted l) : Sorted l' := by
 unfold Sorted at *;rw [List.pairwise_iff_getElem] at *;intro a b ha hb hab;have ha' : a < l.length := by rw [<- h.len]; exact ha
 have hb' : b < l.length := by rw [<- h.len]; exact hb
 rw [h.at_ a ha' ha, h.at_ b hb' hb];exact hs a b ha' hb' hab
theorem runAll_ids (ps : List Nat) : ∀ (l : List S57), Ids l (runAll l ps) := by
 induction ps with
 | nil => exact fun l => Ids.refl l
 | cons p r ih =>
  intro l;exact (Ids.set p (runV (l.getD p z57)) (fun h => by rw [getD57 h]; rfl)).trans (ih _)
theorem runAll_keep (ps : List Nat) : ∀ (l : List S57) {i : Nat} (h : i ∉ ps) (h1 : i < l.length) (h2 : i < (runAll l ps).length), (runAll l ps)[i] = l[i] := by
 induction ps with
 | nil => exact fun l i _ _ _ => rfl
 | cons p r ih =>
  intro l i h h1 h2;have h3 : i < (l.set p (runV (l.getD p z57))).length := by rw [List.length_set]; exact h1
  have := ih (l.set p (runV (l.getD p z57))) (i := i) (fun e => h (List.mem_cons_of_mem _ e)) h3 h2;refine this.trans ?_;rw [List.getElem_set, if_neg (fun e => h (by rw [e]; simp))]
theorem runAll_take {l : List S57} {ps : List Nat} {k : Nat} (h : k < ps.length) : runAll l (ps.take (k + 1)) = (runAll l (ps.take k)).set ps[k] (runV ((runAll l (ps.take k)).getD ps[k] z57)) := by
 unfold runAll;rw [List.take_succ_eq_append_getElem h, List.foldl_append];rfl
theorem endAll_take {now : Int} {l : List S57} {q : List S63} {ps : List Nat} {k : Nat} (h : k < ps.length) : endAll now l q (ps.take (k + 1)) = endStep now (endAll now l q (ps.take k)) ps[k] := by
 unfold endAll;rw [List.take_succ_eq_append_getElem h, List.foldl_append];rfl
theorem runs_nodup {M : Int} {l : List S57} (hs : Sorted l) : (runsL M l).Nodup := by
 have h1 := readyL_sorted hs;unfold runsL pickL pickE;have h2 : ((readyL l).map Ent.id).Nodup := by rw [List.nodup_iff_pairwise_ne]; exact h1.imp (fun h => by omega)
 exact h2.sublist ((List.filter_sublist).map _)
theorem places_at {M : Int} {l : List S57} (hs : Sorted l) {k : Nat} (h : k < (placesOf M l).length) : ∃ (h1 : k < (runsL M l).length) (h2 : (placesOf M l)[k] < l.length), l[(placesOf M l)[k]].f0 = (runsL M l)[k] /\ l[(placesOf M l)[k]].f1.f4 = 1 := by
 have h1 : k < (runsL M l).length := by unfold placesOf at h; simpa using h
 have e : (placesOf M l)[k] = ahead l (runsL M l)[k] := by show ((runsL M l).map (ahead l))[k]'h = _; exact List.getElem_map _
 obtain ⟨p, hp, hp1, hp2⟩ := runs_mem (List.getElem_mem h1);have e2 : (placesOf M l)[k] = p := by rw [e, <- hp1]; exact ahead_at hs hp
 refine ⟨h1, by rw [e2]; exact hp, ?_⟩;simp only [e2];exact ⟨hp1, hp2⟩
theorem places_nodup {M : Int} {l : List S57} (hs : Sorted l) : (placesOf M l).Nodup := by
 rw [List.nodup_iff_pairwise_ne, List.pairwise_iff_getElem];intro a b ha hb hab e;obtain ⟨a1, a2, a3, _⟩ := places_at hs ha;obtain ⟨b1, b2, b3, _⟩ := places_at hs hb;have h1 : (runsL M l)[a] = (runsL M l)[b] := by rw [<- a3, <- b3]; simp only [e]
 have h2 := runs_nodup (M := M) hs;rw [List.nodup_iff_pairwise_ne, List.pairwise_iff_getElem] at h2;exact h2 a b a1 b1 hab h1
theorem places_len {M : Int} {l : List S57} (hl : l.length <= 12) : (placesOf M l).length <= 12 := by
 unfold placesOf;rw [List.length_map];exact Nat.le_trans (pickL_le _ _) (Nat.le_trans (readyL_len l) hl)
theorem not_mem_take {ps : List Nat} (hn : ps.Nodup) {k : Nat} (h : k < ps.length) : ps[k] ∉ ps.take k := by
 intro hm;obtain ⟨a, ha, e⟩ := List.mem_iff_getElem.1 hm;rw [List.length_take] at ha;rw [List.getElem_take] at e;rw [List.nodup_iff_pairwise_ne, List.pairwise_iff_getElem] at hn;exact hn a k (by omega) h (by omega) e
theorem RunAt.keep {l l' : List S57} {p : Nat} (h : RunAt l p) (he : ∀ (h1 : p < l.length), ∃ h2 : p < l'.length, l'[p] = l[p]) : RunAt l' p := by
 obtain ⟨h1, h3⟩ := h;obtain ⟨h2, e⟩ := he h1;exact ⟨h2, by rw [e]; exact h3⟩
theorem refAll_few : ∀ (n : Nat) (M now : Int) (l : List S57) (q : List S63), (refAll n M now l q).2.length <= n
 | 0, _, _, _, _ => by simp [refAll]
 | n + 1, M, now, l, q => by
  rw [refAll];split
  ·simp
  ·simp only [List.length_cons];have := refAll_few n M now;exact Nat.succ_le_succ (this _ _)
theorem grant1_few (now : Int) (st : List S57 × List S63 × List Ev) (p : Nat × Int) : (grant1 now st p).2.2.length <= st.2.2.length + 2 := by
 unfold grant1;dsimp only;split
 ·exact Nat.le_add_right _ _
 ·split <;> simp
theorem grants_few (now : Int) : ∀ (ps : List (Nat × Int)) (st : List S57 × List S63 × List Ev), (ps.foldl (grant1 now) st).2.2.length <= st.2.2.length + 2 * ps.length
 | [], st => by simp
 | p :: r, st => by
  have h1 := grants_few now r (grant1 now st p);have h2 := grant1_few now st p;simp only [List.foldl_cons, List.length_cons];omega
theorem turnL_len (now : Int) (l : List S57) : (turnL now l).length = l.length := by simp [turnL]
theorem waitAt_len (l : List S57) (i : Nat) : (waitAt l i).length = l.length := by simp [waitAt]
theorem refAll_len : ∀ (n : Nat) (M now : Int) (l : List S57) (q : List S63), (refAll n M now l q).1.length = l.length
 | 0, _, _, _, _ => rfl
 | n + 1, M, now, l, q => by
  rw [refAll];split
  ·rfl
  ·exact (refAll_len n M now _ _).trans (waitAt_len _ _)
theorem asksL_few {M : Int} {l : List S57} (hl : l.length <= 12) : (asksL M l).length <= 12 := by
 unfold asksL asksOf;refine Nat.le_trans (List.length_filterMap_le _ _) ?_;rw [List.length_map];exact Nat.le_trans (pickL_le _ _) (Nat.le_trans (readyL_len l) hl)
theorem settleL_few (M now : Int) (l : List S57) (q : List S63) (hl : l.length <= 12) : (settleL M now l q).2.2.length <= 100 := by
 unfold settleL;dsimp only;refine Nat.le_trans (grants_few _ _ _) ?_;have h1 := refAll_few (l.length + 1) M now (turnL now l) q;have h2 : (refAll (l.length + 1) M now (turnL now l) q).1.length <= 12 := by rw [refAll_len, turnL_len]; exact hl
 have h3 := asksL_few (M := M) h2
 have h4 : (turnE now l).length <= 12 := by
  unfold turnE;rw [List.length_map];exact Nat.le_trans (List.length_filter_le _ _) hl
 rw [List.length_append];omega
theorem endL_few (now : Int) (l : List S57) (q : List S63) (i : Nat) : (endL now l q i).2.2.length <= 4 := by
 unfold endL;dsimp only;have := endA_few now l q i;rw [List.length_append]
 have h2 : (endB now (endA now l q i).1 i).2.length <= 1 := by
  unfold endB;split
  ·simp
  ·split <;> simp
 omega
theorem endAll_few (now : Int) (l : List S57) (q : List S63) (ps : List Nat) : (endAll now l q ps).2.2.length <= 4 * ps.length := by
 have : ∀ (ps : List Nat) st, (ps.foldl (endStep now) st).2.2.length <= st.2.2.length + 4 * ps.length := by
  intro ps
  induction ps with
  | nil => intro st; simp
  | cons p r ih =>
   intro st;have h1 := ih (endStep now st p);have h2 := endL_few now st.1 st.2.1 p;have h3 : (endStep now st p).2.2.length = st.2.2.length + (endL now st.1 st.2.1 p).2.2.length := by unfold endStep; simp
   simp only [List.foldl_cons, List.length_cons];omega
 have := this ps (l, q, []);simpa [endAll] using this
structure Tk (N : Nat) (B : Bd) (bx zx : Array Value) (o : OwnR) (Ap : Option Addr) (ps : List Nat) (w0 : World) (o' : OwnR) (l : List S57) (q : List S63) (E : List Ev) (v : Value) (w : World) : Prop where
 X : w.heap[N]? = some (.cells bx 47 (0, 0))
 Z : w.heap[N + 1]? = some (.cells zx 47 (0, 0))
 O : Own w B l q o'
 sub : o'.sub o
 E : (Kd.raw 4).R 67 w N (fun _ => True) v (E.map Ev.cells)
 VB : ∀ b, v.ownBlock = some b -> N + 1 < b /\ (∀ c, o.own c ≠ some b) /\ ∀ ad, Ap = some ad -> ad.block ≠ b
 P : ∀ k (h : k < ps.length), ∃ ad, Ap = some ad /\ w.cell? (ad.add k) = some (.int .i64 ps[k])
 PB : ∀ ad, Ap = some ad -> ∀ c, o.own c ≠ some ad.block
 PL : ∀ ad, Ap = some ad -> ad.block < w.heap.size
 OB : ∀ c b, o.own c = some b -> N + 1 < b
 Bl : Below N w0 w
 N0 : N = w0.heap.size
 NB : B <= N
section
variable {N : Nat} {B : Bd} {bx zx : Array Value} {o : OwnR} {Ap : Option Addr} {ps : List Nat} {w0 : World} {o' : OwnR} {l : List S57} {q : List S63} {E : List Ev} {v : Value} {w w' : World}
theorem cell_keep {w w' : World} {ad : Addr} {v : Value} (h : w.cell? ad = some v) (hb : w'.heap[ad.block]? = w.heap[ad.block]?) : w'.cell? ad = some v := by
 rw [<- h];simp only [World.cell?, hb]
theorem Tk.below (h : Tk N B bx zx o Ap ps w0 o' l q E v w) (hb : Below w.heap.size w w') : Tk N B bx zx o Ap ps w0 o' l q E v w' where
 X := blk_below h.X hb
 Z := blk_below h.Z hb
 O := h.O.below hb
 sub := h.sub
 E := Kd.R_below h.E hb
 VB := h.VB
 P := fun k hk => by
  obtain ⟨ad, e, hc⟩ := h.P k hk;exact ⟨ad, e, (hb.cell (World.block_lt_of_cell? _ _ hc)).trans hc⟩
 PB := h.PB
 PL := fun ad e => Nat.lt_of_lt_of_le (h.PL ad e) hb.size
 OB := h.OB
 Bl := h.Bl.trans (hb.mono (by rw [h.N0]; exact h.Bl.size))
 N0 := h.N0
 NB := h.NB
theorem Tk.done (h : Tk N B bx zx o Ap ps w0 o' l q E v w) {l' : List S57} {q' : List S63} {E' : List Ev} {e : Ending} (hd : DoneP B o' l' q' E' w e w') : ∃ o2 v', e = .returned v' /\ Tk N B bx zx o Ap ps w0 o2 l' q' E v w' /\ (Kd.raw 4).R 67 w' w.heap.size (fun _ => True) v' (E'.map Ev.cells) := by
 obtain ⟨o2, v', rfl, hsub, hO, hR, hT⟩ := hd;have hS : ∀ b, (∃ c, o'.own c = some b) -> ∃ c, o.own c = some b := fun b ⟨c, hc⟩ => ⟨c, h.sub.2.2.2.2 c b hc⟩
 refine ⟨o2, v', rfl, ⟨?_, ?_, hO, hsub.trans h.sub, ?_, h.VB, fun k hk => ?_, h.PB, fun ad e => Nat.lt_of_lt_of_le (h.PL ad e) hT.size, h.OB, ?_, h.N0, h.NB⟩, hR⟩
 ·exact (hT.block _ (blk_lt h.X) (fun e => by obtain ⟨c, hc⟩ := hS _ e; have := h.OB c _ hc; omega)).trans h.X
 ·exact (hT.block _ (blk_lt h.Z) (fun e => by obtain ⟨c, hc⟩ := hS _ e; have := h.OB c _ hc; omega)).trans h.Z
 ·exact Kd.R_reok rfl (Kd.R_step (Kd.R_tight rfl h.E) (fun b hb hlt => hT.block b hlt (fun e => by obtain ⟨c, hc⟩ := hS _ e; exact (h.VB b hb.symm).2.1 c hc))) (fun _ _ => trivial)
 ·obtain ⟨ad, e, hc⟩ := h.P k hk;refine ⟨ad, e, cell_keep hc ?_⟩;rw [add_block];exact hT.block _ (h.PL ad e) (fun e2 => by obtain ⟨c, hc⟩ := hS _ e2; exact h.PB ad e c hc)
 ·exact Turn.below h.Bl hT (fun b e => by obtain ⟨c, hc⟩ := hS _ e; have := h.OB c _ hc; omega) (by rw [h.N0]; exact h.Bl.size)
theorem Tk.ev (h : Tk N B bx zx o Ap ps w0 o' l q E v w) {v' : Value} (ht : Turn w w' (fun b => some b = v.ownBlock)) {E' : List Ev} (hR : (Kd.raw 4).R 67 w' N (fun _ => True) v' (E.map Ev.cells ++ E'.map Ev.cells)) (hat : v'.ownBlock = v.ownBlock \/ ∃ b, v'.ownBlock = some b /\ w.heap.size <= b) (hlt : ∀ c b, o.own c = some b -> b < w.heap.size) : Tk N B bx zx o Ap ps w0 o' l q (E ++ E') v' w' := by
 have hS := fun b (e : some b = v.ownBlock) => h.VB b e.symm
 have hNB := h.NB;refine ⟨?_, ?_, ?_, h.sub, by rw [List.map_append]; exact hR, fun b hb2 => ?_, fun k hk => ?_, h.PB, fun ad e => Nat.lt_of_lt_of_le (h.PL ad e) ht.size, h.OB, ?_, h.N0, h.NB⟩
 ·exact (ht.block _ (blk_lt h.X) (fun e => by have := (hS _ e).1; omega)).trans h.X
 ·exact (ht.block _ (blk_lt h.Z) (fun e => by have := (hS _ e).1; omega)).trans h.Z
 ·exact h.O.keep ht (fun b e => by have := (hS _ e).1; omega) (fun c b hc e => (hS b e).2.1 c (h.sub.2.2.2.2 c b hc))
 ·rcases hat with e | ⟨b2, e, hle⟩
  ·exact h.VB b (by rw [<- e]; exact hb2)
  ·rw [e] at hb2;injection hb2 with hb2;subst hb2;have := blk_lt h.Z;exact ⟨by omega, fun c hc => by have := hlt c _ hc; omega, fun ad ea => by have := h.PL ad ea; omega⟩
 ·obtain ⟨ad, e, hc⟩ := h.P k hk;refine ⟨ad, e, cell_keep hc ?_⟩;rw [add_block];exact ht.block _ (h.PL ad e) (fun e2 => (hS _ e2).2.2 ad e rfl)
 ·exact Turn.below h.Bl ht (fun b e => by have := (hS _ e).1; omega) (by rw [h.N0]; exact h.Bl.size)
end
theorem freeL_len (now : Int) (l : List S57) (q : List S63) (n : Nat) (t : Bool) : (freeL now l q n t).2.1.length = q.length := by
 unfold freeL;split <;> simp
theorem endL_len (now : Int) (l : List S57) (q : List S63) (i : Nat) : (endL now l q i).1.length = l.length /\ (endL now l q i).2.1.length = q.length := by
 have h1 := (endA_keep now l q i).len;unfold endL;dsimp only;constructor
 ·rw [<- h1];unfold endB;split
  ·simp
  ·split <;> rfl
 ·unfold endA;split
  ·rfl
  ·split
   ·dsimp only;split
    ·dsimp only;split
     ·exact freeL_len _ _ _ _ _
     ·rfl
    ·dsimp only;split
     ·exact freeL_len _ _ _ _ _
     ·rfl
   ·split
    ·exact freeL_len _ _ _ _ _
    ·rfl
theorem endAll_len (now : Int) (l : List S57) (q : List S63) (ps : List Nat) : (endAll now l q ps).1.length = l.length /\ (endAll now l q ps).2.1.length = q.length := by
 have : ∀ (ps : List Nat) st, (ps.foldl (endStep now) st).1.length = st.1.length /\ (ps.foldl (endStep now) st).2.1.length = st.2.1.length := by
  intro ps
  induction ps with
  | nil => intro st; exact ⟨rfl, rfl⟩
  | cons p r ih =>
   intro st;have h1 := ih (endStep now st p);have h2 := endL_len now st.1 st.2.1 p;exact ⟨h1.1.trans h2.1, h1.2.trans h2.2⟩
 exact this ps (l, q, [])
theorem Ids.ahead {l l' : List S57} (h : Ids l l') (id : Int) : ahead l' id = ahead l id := by
 have e : l'.map S57.f0 = l.map S57.f0 := by
  apply List.ext_getElem
  ·simp [h.len]
  ·intro k h1 h2;simp only [List.length_map] at h1 h2;simp only [List.getElem_map];exact h.at_ k h2 h1
 have e2 : ∀ l : List S57, Top.ahead l id = (l.map S57.f0).countP (fun x => decide (x < id)) := by
  intro l;unfold Top.ahead;rw [List.countP_map];rfl
 rw [e2, e2, e]
theorem Ids.isAt {l l' : List S57} (h : Ids l l') (id : Int) : isAt l' id = isAt l id := by
 have e : l'.map S57.f0 = l.map S57.f0 := by
  apply List.ext_getElem
  ·simp [h.len]
  ·intro k h1 h2;simp only [List.length_map] at h1 h2;simp only [List.getElem_map];exact h.at_ k h2 h1
 have e2 : ∀ l : List S57, Top.isAt l id = (l.map S57.f0).any (fun x => x == id) := by
  intro l;unfold Top.isAt;rw [List.any_map];rfl
 rw [e2, e2, e]
structure Tr (N N3 : Nat) (B : Bd) (bx zx : Array Value) (o : OwnR) (A' : Option Addr) (ids : List Int) (w0 : World) (l : List S57) (q : List S63) (E : List Ev) (vE v8 : Value) (ps : List Int) (w : World) : Prop where
 X : w.heap[N]? = some (.cells bx 47 (0, 0))
 Z : w.heap[N + 1]? = some (.cells zx 47 (0, 0))
 O : Own w B l q o
 E : (Kd.raw 4).R 67 w N (fun _ => True) vE (E.map Ev.cells)
 VB : ∀ b, vE.ownBlock = some b -> N + 1 < b /\ b < N3 /\ ∀ c, o.own c ≠ some b
 I : ∀ k (h : k < ids.length), ∃ ad, A' = some ad /\ w.cell? (ad.add k) = some (.int .i64 ids[k])
 IB : ∀ ad, A' = some ad -> 0 < ids.length -> (∀ c, o.own c ≠ some ad.block) /\ ad.block < N3
 P : (Kd.int .i64).R 3 w N3 (fun _ => True) v8 ps
 OB : ∀ c b, o.own c = some b -> N + 1 < b /\ b < N3
 Bl : Below N w0 w
 N0 : N = w0.heap.size
 NB : B <= N
 NB3 : N + 2 <= N3
 N3w : N3 <= w.heap.size
section
variable {N N3 : Nat} {B : Bd} {bx zx : Array Value} {o : OwnR} {A' : Option Addr} {ids : List Int} {w0 : World} {l : List S57} {q : List S63} {E : List Ev} {vE v8 : Value} {ps : List Int} {w w' : World}
theorem Tr.below (h : Tr N N3 B bx zx o A' ids w0 l q E vE v8 ps w) (hb : Below w.heap.size w w') : Tr N N3 B bx zx o A' ids w0 l q E vE v8 ps w' where
 X := blk_below h.X hb
 Z := blk_below h.Z hb
 O := h.O.below hb
 E := Kd.R_below h.E hb
 VB := h.VB
 I := fun k hk => by
  obtain ⟨ad, e, hc⟩ := h.I k hk;exact ⟨ad, e, (hb.cell (World.block_lt_of_cell? _ _ hc)).trans hc⟩
 IB := h.IB
 P := Kd.R_below h.P hb
 OB := h.OB
 Bl := h.Bl.trans (hb.mono (by rw [h.N0]; exact h.Bl.size))
 N0 := h.N0
 NB := h.NB
 NB3 := h.NB3
 N3w := Nat.le_trans h.N3w hb.size
theorem Tr.put (h : Tr N N3 B bx zx o A' ids w0 l q E vE v8 ps w) {v' : Value} (ht : Turn w w' (fun b => some b = v8.ownBlock)) {ps' : List Int} (hR : (Kd.int .i64).R 3 w' N3 (fun _ => True) v' ps') : Tr N N3 B bx zx o A' ids w0 l q E vE v' ps' w' := by
 have hS := fun b (e : some b = v8.ownBlock) => Kd.R_base h.P b e.symm
 have hNB := h.NB;have hNB3 := h.NB3;refine ⟨?_, ?_, ?_, ?_, h.VB, fun k hk => ?_, h.IB, hR, h.OB, ?_, h.N0, h.NB, h.NB3, Nat.le_trans h.N3w ht.size⟩
 ·exact (ht.block _ (blk_lt h.X) (fun e => by have := hS _ e; omega)).trans h.X
 ·exact (ht.block _ (blk_lt h.Z) (fun e => by have := hS _ e; omega)).trans h.Z
 ·exact h.O.keep ht (fun b e => by have := hS b e; omega) (fun c b hc e => by have := hS b e; have := (h.OB c b hc).2; omega)
 ·exact Kd.R_reok rfl (Kd.R_step (Kd.R_tight rfl h.E) (fun b hb hlt => ht.block b hlt (fun e => by have := hS b e; have := (h.VB b hb.symm).2.1; omega))) (fun _ _ => trivial)
 ·obtain ⟨ad, e, hc⟩ := h.I k hk;refine ⟨ad, e, cell_keep hc ?_⟩;rw [add_block];have h2 := (h.IB ad e (by omega)).2;exact ht.block _ (by have := h.N3w; omega) (fun e2 => by have := hS _ e2; omega)
 ·exact Turn.below h.Bl ht (fun b e => by have := hS b e; omega) (by rw [h.N0]; exact h.Bl.size)
theorem Tr.run (h : Tr N N3 B bx zx o A' ids w0 l q E vE v8 ps w) {i : Nat} {x : S57} {e : Ending} (hr : RunP B l q o i x w e w') : Tr N N3 B bx zx o A' ids w0 (l.set i x) q E vE v8 ps w' := by
 obtain ⟨_, hO, ht⟩ := hr;have hS : ∀ b, (o.own .g = some b \/ o.own (.j i) = some b) -> ∃ c, o.own c = some b := fun b hb => hb.elim (fun e => ⟨_, e⟩) (fun e => ⟨_, e⟩)
 have hNB := h.NB;have hNB3 := h.NB3
 have hN : ∀ b, (o.own .g = some b \/ o.own (.j i) = some b) -> N + 1 < b /\ b < N3 := fun b hb => by
  obtain ⟨c, hc⟩ := hS b hb;exact h.OB c b hc
 refine ⟨?_, ?_, hO, ?_, h.VB, fun k hk => ?_, h.IB, ?_, h.OB, ?_, h.N0, h.NB, h.NB3, Nat.le_trans h.N3w ht.size⟩
 ·exact (ht.block _ (blk_lt h.X) (fun e => by have := hN _ e; omega)).trans h.X
 ·exact (ht.block _ (blk_lt h.Z) (fun e => by have := hN _ e; omega)).trans h.Z
 ·exact Kd.R_reok rfl (Kd.R_step (Kd.R_tight rfl h.E) (fun b hb hlt => ht.block b hlt (fun e => by obtain ⟨c, hc⟩ := hS b e; exact (h.VB b hb.symm).2.2 c hc))) (fun _ _ => trivial)
 ·obtain ⟨ad, e, hc⟩ := h.I k hk;refine ⟨ad, e, cell_keep hc ?_⟩;rw [add_block];have h2 := h.IB ad e (by omega);exact ht.block _ (by have := h.N3w; omega) (fun e2 => by obtain ⟨c, hc⟩ := hS _ e2; exact h2.1 c hc)
 ·exact Kd.R_reok rfl (Kd.R_step (Kd.R_tight rfl h.P) (fun b hb hlt => ht.block b hlt (fun e => by have := hN b e; have := Kd.R_base h.P b hb.symm; omega))) (fun _ _ => trivial)
 ·exact Turn.below h.Bl ht (fun b e => by have := hN b e; omega) (by rw [h.N0]; exact h.Bl.size)
theorem Tr.ends (h : Tr N N3 B bx zx o A' ids w0 l q E vE v8 ps w) {bx' : Array Value} (ht : Turn w w' (fun b => b = N)) (hX : w'.heap[N]? = some (.cells bx' 47 (0, 0))) {qs : List Nat} (hq : ps = List.map (fun p : Nat => (p : Int)) qs) : ∃ Ap cp, v8 = .slice Ap qs.length cp /\ Tk N B bx' zx o Ap qs w0 o l q E vE w' := by
 have hNB := h.NB;have hNB3 := h.NB3;obtain ⟨Ap, cp, rfl, hcp, hC⟩ := Kd.R_reads h.P;have hbase := Kd.R_base h.P;have hlt := Kd.R_lt h.P;subst hq;rw [List.length_map];refine ⟨Ap, cp, rfl, hX, ?_, ?_, o.sub_refl, ?_, fun b hb => ⟨(h.VB b hb).1, (h.VB b hb).2.2, fun ad e => ?_⟩, fun k hk => ?_, fun ad e c hc => ?_, fun ad e => ?_, fun c b hc => (h.OB c b hc).1, ?_, h.N0, h.NB⟩
 ·exact (ht.block _ (blk_lt h.Z) (by omega)).trans h.Z
 ·exact h.O.keep ht (fun b e => by omega) (fun c b hc e => by have := (h.OB c b hc).1; omega)
 ·exact Kd.R_reok rfl (Kd.R_step (Kd.R_tight rfl h.E) (fun b hb hlt => ht.block b hlt (fun e => by have := (h.VB b hb.symm).1; omega))) (fun _ _ => trivial)
 ·subst e;have := hbase ad.block rfl;have := (h.VB b hb).2.1;omega
 ·obtain ⟨ad, e, hc⟩ := int_at hC (k := k) (by rw [List.length_map]; exact hk);refine ⟨ad, e, cell_keep (hc.trans (by rw [List.getElem_map])) ?_⟩;subst e;have := hbase ad.block rfl;rw [add_block];exact ht.block _ (hlt _ rfl) (by omega)
 ·subst e;have := hbase ad.block rfl;have := (h.OB c _ hc).2;omega
 ·subst e;exact Nat.lt_of_lt_of_le (hlt _ rfl) ht.size
 ·exact Turn.below h.Bl ht (fun b e => by omega) (by rw [h.N0]; exact h.Bl.size)
end
end Go.Proofs.YtfimkmlgnmaopaaGreat.Top
