/- Part 4 of what is proved of the functions that the law reaches (contracts of functions, plain laws): no condition but those that each theorem names. -/
import Derived.Test.YtfimkmlgnmaopaaGreatKC3
namespace Go.Proofs.YtfimkmlgnmaopaaGreat.Top
open Go.RowKit Go.Proofs.YtfimkmlgnmaopaaGreatW.PrintWords Go.Proofs.YtfimkmlgnmaopaaGreatW.PrintLast Go.Proofs.YtfimkmlgnmaopaaGreatW.PrintMore Go.Proofs.YtfimkmlgnmaopaaGreat.PTopNames
set_option linter.unusedVariables false
set_option linter.unusedSimpArgs false
def setl.T8 : Bool × List (List Nat × List Nat) := (true, [([], []), ([0], [0]), ([1], [1]), ([2], [2]), ([], []), ([4], [4]), ([3, 5], [3, 5]), ([6], [6]), ([7], [7]), ([7], [7]), ([], []), ([10, 8, 6, 0, 1, 2, 3, 4, 5, 6, 7, 8, 10], [8, 10]), ([9, 11, 0, 1, 2, 3, 4, 5, 6, 7, 8, 9, 10, 11], [9])])
def setl.B8 : List Nat := [0, 1, 3, 7, 0, 16, 63, 127, 255, 255, 0, 1535, 4095]
theorem setl.tab8 : rtab .any (opsOf Tryz.f12 8) = setl.T8 := by kernel_rfl
theorem setl.bits8 : waitsOk setl.T8.2 setl.B8 = true := by kernel_rfl
def setl.T11 : Bool × List (List Nat × List Nat) := (true, [([], []), ([], []), ([], []), ([2], [2]), ([3], [3]), ([4], [4]), ([1, 5], [1, 5]), ([6], [6]), ([0, 7, 6], [0, 7]), ([8, 8, 0, 1, 2, 3, 4, 5, 6, 7, 8], [0, 8])])
def setl.B11 : List Nat := [0, 0, 0, 4, 12, 28, 62, 126, 255, 511]
theorem setl.tab11 : rtab .any (opsOf Tryz.f12 11) = setl.T11 := by kernel_rfl
theorem setl.bits11 : waitsOk setl.T11.2 setl.B11 = true := by kernel_rfl
def setl.T24 : Bool × List (List Nat × List Nat) := (true, [([], []), ([], []), ([1], [1]), ([2], [2]), ([3], [3]), ([], []), ([5], [5]), ([6], [6]), ([7], [7]), ([8], [8]), ([4, 9], [4, 9]), ([0, 0, 1, 2, 3, 4, 5, 6, 7, 8, 9, 10], [0]), ([11, 0, 1, 2, 3, 4, 5, 6, 7, 8, 9, 10], [11]), ([12, 10, 10, 0, 1, 2, 3, 4, 5, 6, 7, 8, 9, 10], [10, 12])])
def setl.B24 : List Nat := [0, 0, 2, 6, 14, 0, 32, 96, 224, 480, 1022, 2047, 4095, 8191]
theorem setl.tab24 : rtab .any (opsOf Tryz.f12 24) = setl.T24 := by kernel_rfl
theorem setl.bits24 : waitsOk setl.T24.2 setl.B24 = true := by kernel_rfl
def setl.T26 : Bool × List (List Nat × List Nat) := (true, [([], []), ([], []), ([], []), ([2], [2]), ([3], [3]), ([4], [4]), ([1, 5], [1, 5]), ([6], [6]), ([0, 7, 6], [0, 7]), ([8, 8, 0, 1, 2, 3, 4, 5, 6, 7, 8], [0, 8])])
def setl.B26 : List Nat := [0, 0, 0, 4, 12, 28, 62, 126, 255, 511]
theorem setl.tab26 : rtab .any (opsOf Tryz.f12 26) = setl.T26 := by kernel_rfl
theorem setl.bits26 : waitsOk setl.T26.2 setl.B26 = true := by kernel_rfl
def setl.T29 : Bool × List (List Nat × List Nat) := (true, [([], []), ([], []), ([], []), ([2], [2]), ([3], [3]), ([4], [4]), ([], []), ([], []), ([6, 7], [6, 7]), ([8], [8]), ([1, 5, 9], [1, 5, 9]), ([10], [10]), ([0, 11, 10], [0, 11]), ([12, 12, 0, 1, 2, 3, 4, 5, 6, 7, 8, 9, 10, 11, 12], [0, 12])])
def setl.B29 : List Nat := [0, 0, 0, 4, 12, 28, 0, 0, 192, 448, 1022, 2046, 4095, 8191]
theorem setl.tab29 : rtab .any (opsOf Tryz.f12 29) = setl.T29 := by kernel_rfl
theorem setl.bits29 : waitsOk setl.T29.2 setl.B29 = true := by kernel_rfl
set_option maxHeartbeats 1000000 in
set_option maxRecDepth 100000 in
theorem sidle_calls (x0 x1 x2 x3 x4 m : Int) (J : Value) (x7 x8 x9 x10 : Int) (w : World) (hJ : ∃ A n c, J = .slice A n c) :
  Calls Tryz.prog 26 #[.agg #[.int .i64 x0, .int .i64 x1, .int .i64 x2, .int .i64 x3, .int .i64 x4, .int .i64 m, J, .int .i64 x7, .int .i64 x8, .int .i64 x9, .int .i64 x10]] w fun e w' => e = .returned (.bool (m == 0)) ∧ Below w.heap.size w w' := by
 obtain ⟨A, n, c, rfl⟩ := hJ
 go_enter Tryz.func26, Tryz.ntmps26
 go_wp2
 go_ret
 exact ⟨rfl, below_alloc (Below.refl _ _) _⟩
theorem grown_turn {W w1 : World} {row : Option Nat} (h : W.grownBy w1 row) : Turn W w1 (fun b => some b = row) := ⟨h.os, h.tape, h.output, h.size, fun k hk hne => h.block k hk hne⟩
theorem reps_int1 {w : World} {base : Nat} {ok : Nat → Prop} {a : Int} : Reps ((Kd.int .i64).M w base ok) (Kd.int .i64).sz [a] [.int .i64 a] := by
 refine ⟨rfl, fun i p hp => ?_⟩
 cases i with
 | zero =>
  simp only [List.getElem?_cons_zero, Option.some.injEq] at hp
  subst hp
  rfl
 | succ i => simp at hp
def Pend (M now : Int) (B : Bd) (l : List S57) (q : List S63) (o : OwnR) (w' : World) (v9 v10 : Value) : Prop := match refuseL M now l q with
 | none => v10 = .bool false ∧ Own w' B l q o
 | some p => v10 = .bool true ∧ Own w' B (waitAt l p.1) q o ∧ ∃ A c, v9 = .slice A 1 c ∧ (Kd.raw 4).C w' A 1 [[.int .i64 now, .int .i64 8, .int .i64 (l.getD p.1 z57).f0, .int .i64 p.2]]
theorem refuseP_pend {M now : Int} {B : Bd} {l : List S57} {q : List S63} {o : OwnR} {w w' : World} {e : Ending} (h : RefuseP M now B l q o w e w') : ∃ v9 v10, e = .returned (.tuple #[v9, v10]) ∧ Turn w w' (fun b => o.own .g = some b) ∧ Pend M now B l q o w' v9 v10 := by
 unfold RefuseP at h
 unfold Pend
 obtain ⟨ht, h⟩ := h
 cases hr : refuseL M now l q with
 | none =>
  rw [hr] at h
  exact ⟨_, _, h.1, ht, rfl, h.2⟩
 | some p =>
  rw [hr] at h
  obtain ⟨v, rfl, hR, hO⟩ := h
  obtain ⟨A, c, rfl, _, hC⟩ := Kd.R_reads hR
  exact ⟨_, _, rfl, ht, rfl, hO, A, c, rfl, hC⟩
def SettleP (M now : Int) (l : List S57) (q : List S63) (B : Bd) (w : World) (e : Ending) (w' : World) : Prop :=
 ∃ o A4 c4 v, e = .returned (.tuple #[stV M now o.A (settleL M now l q).1.length o.c o.A2 (settleL M now l q).2.1.length o.c2 A4 c4, v]) ∧ Own w' B (settleL M now l q).1 (settleL M now l q).2.1 o ∧ (∀ c b, o.own c = some b → w.heap.size ≤ b) ∧ (Kd.raw 4).R 67 w' w.heap.size (fun b => ∀ c, o.own c ≠ some b) v ((settleL M now l q).2.2.map Ev.cells) ∧ Below w.heap.size w w'
set_option maxHeartbeats 8000000 in
set_option maxRecDepth 100000 in
theorem settle_calls (M now : Int) (A : Option Addr) (l : List S57) (c : Nat) (A2 : Option Addr) (q : List S63) (c2 : Nat) (A3 : Option Addr) (c3 : Nat) (B : Bd) (w : World) (hw : B.n ≤ w.heap.size) (hr : Rd w B A l A2 q) (hk : MOk M now l q) :
  Calls Tryz.prog 12 #[stV M now A l.length c A2 q.length c2 A3 c3] w fun e w' => SettleP M now l q B w e w' := by
 have DC := fun wx (hb : Below w.heap.size w wx) => clone_calls M now A l c A2 q c2 A3 c3 B wx (Nat.le_trans hw hb.size) (hr.below hb) (by have := hk.sane.len; omega) (by have := hk.qlen; omega) (fun i h => by have := hk.jlen i h; omega) (fun i h => by have := hk.room i h; omega)
 have hl12 := hk.sane.len
 have hCw := hw
 have HK := Lib.hid hk
 clear hr hk hw
 unfold stV at *
 go_enter Tryz.func12, Tryz.ntmps12
 go_wp2_with (go_at_call 25; (with_reducible refine (DC _ (below_alloc (below_alloc (Below.refl _ _) _) _)).mono ?_); rintro e w1 ⟨o, A4, c4, rfl, hO1, hQ1, hJ1, hown1, hB1⟩; obtain ⟨hx, hz, hs⟩ := two_blocks hB1; have HO1 := Lib.hid hO1; have HQ1 := Lib.hid hQ1; have HX1 := Lib.hid hx; have HZ1 := Lib.hid hz; have HBW1 := Lib.hid ((below_alloc (below_alloc (Below.refl w.heap.size w) _) _).trans (hB1.mono (by simp; omega))); have e0 := (blk_cell hx 0).trans rfl; have e1 := (blk_cell hx 1).trans rfl; have e2 := (blk_cell hx 2).trans rfl; have e3 := (blk_cell hx 3).trans rfl; have e4 := (blk_cell hx 4).trans rfl; have f0 := blk_frozen hx 0; have f1 := blk_frozen hx 1; have f2 := blk_frozen hx 2; have f3 := blk_frozen hx 3; have f4 := blk_frozen hx 4; clear hO1 hQ1 hJ1 hB1 hx hz)
 have hgB := fun cc b (h : o.own cc = some b) => (HO1.out.bnd cc b h)
 have hownB : ∀ cc b, o.own cc = some b → w.heap.size + 2 ≤ b := fun cc b h => by have := hown1 cc b h; simp only [World.size_alloc] at this; omega
 have HX2 := Lib.hid (blk_put (cs' := #[.int .i64 M, .int .i64 now, .slice o.A l.length o.c, .slice o.A2 q.length o.c2, .slice A4 0 c4]) (blk_put (blk_put (blk_put (blk_put HX1.out 0 (.int .i64 M) rfl) 1 (.int .i64 now) rfl) 2 (.slice o.A l.length o.c) rfl) 3 (.slice o.A2 q.length o.c2) rfl) 4 (.slice A4 0 c4) rfl)
 have HT2 := (((((Turn.refl w1 (fun b => b = w.heap.size)).set rfl 0 (.int .i64 M)).set rfl 1 (.int .i64 now)).set rfl 2 (.slice o.A l.length o.c)).set rfl 3 (.slice o.A2 q.length o.c2)).set rfl 4 (.slice A4 0 c4)
 generalize hws : World.setCell _ _ _ = wN at *
 clear hws e0 e1 e2 e3 e4 f0 f1 f2 f3 f4
 have HON := Lib.hid (HO1.out.keep HT2 (fun b hb => by omega) (fun cc b hc hb => by have := hownB cc b hc; omega))
 have HQN : Hid (QueR wN B q o) := Lib.hid (fun k hk => Kd.R_step (HQ1.out k hk) (fun b hb hlt => HT2.block b hlt (by have := hownB _ b hb; omega)))
 have HZN := Lib.hid ((HT2.block (w.heap.size + 1) (by have := blk_lt HZ1.out; omega) (by omega)).trans HZ1.out)
 have HBN : Hid (Below w.heap.size w wN) := Lib.hid (Turn.below HBW1.out HT2 (fun b hb => by omega) HBW1.out.size)
 have HNB : Hid (∀ cc b, o.own cc = some b → w.heap.size + 2 ≤ b ∧ b < wN.heap.size) := Lib.hid (fun cc b h => ⟨hownB cc b h, Nat.lt_of_lt_of_le (hgB cc b h).2 HT2.size⟩)
 have hNs : w.heap.size + 2 ≤ wN.heap.size := by have := HT2.size; have := blk_lt HZ1.out; omega
 clear HO1 HQ1 HX1 HZ1 HBW1 hgB hownB HT2 hs hown1 DC
 have q2 := (blk_cell HX2.out 2).trans rfl
 go_wp2
 clear q2
 go_loopw [4, 22] (fun v4 v22 wr => ∃ (i : Nat), v22 = .int .i64 i ∧ i ≤ l.length ∧ Hid (wr.heap[w.heap.size]? = some (.cells #[.int .i64 M, .int .i64 now, .slice o.A l.length o.c, .slice o.A2 q.length o.c2, .slice A4 0 c4] 47 (0, 0))) ∧ Hid (wr.heap[w.heap.size + 1]? = some (.cells #[.int .i64 0, .int .i64 0, .slice none 0 0, .slice none 0 0, .slice none 0 0] 47 (0, 0))) ∧ Hid (Own wr B (turnUp now l i) q o) ∧ Hid (QueR wr B q o) ∧ Hid ((Kd.raw 4).R 67 wr wN.heap.size (fun _ => True) v4 ((turnE now (l.take i)).map Ev.cells)) ∧ Hid (Below w.heap.size w wr) ∧ wN.heap.size ≤ wr.heap.size) (fun _ v22 _ => l.length - (intOf v22).toNat)
 case atStart => exact ⟨0, rfl, Nat.zero_le _, HX2, HZN, Lib.hid (by rw [turnUp_zero]; exact HON.out), HQN, Lib.hid (Kd.R_nil _ _ _ _ _), HBN, Nat.le_refl _⟩
 case round =>
  clear HX2 HZN HON HQN HBN
  obtain ⟨i, rfl, hi, HX, HZ, HO, HQ, HE, HB, hszr⟩ := hrel
  by_cases hlt : i < l.length
  ·skip
   have hil0 : i < (turnUp now l i).length := by rw [turnUp_len]; exact hlt
   have eli := turnUp_at now l hlt (hh := hil0)
   have HK2 := turn1_ok HK.out i
   have HSU := Lib.hid (turnUp_succ now l hlt)
   have HES := Lib.hid (turnE_take now l hlt)
   have hll : (turnUp now l i).length = l.length := turnUp_len _ _ _
   rw [← eli] at HSU HES
   generalize hlt0 : turnUp now l i = lt at *
   have HEQ := Lib.hid hlt0
   clear hlt0 eli
   have hil : i < lt.length := hil0
   have hlt2 : i < l.length := by omega
   obtain ⟨g, hg, hrow⟩ := HO.out.row (by intro e; rw [e] at hil; simp at hil)
   have HR := Lib.hid hrow
   obtain ⟨r0, r1, r2, r3, r4, r5, r6, r7, r8, r9, r10⟩ := serv_at hrow hil
   have hgb := HNB.out .g g (by show o.A.map _ = _; rw [hg]; rfl)
   have hcbs := HK2.cbs i hil
   have hnow0 := HK2.now0
   have hnow1 := HK2.now1
   have q2 := (blk_cell HX.out 2).trans rfl
   rw [hg] at q2
   have HG := Lib.hid hg
   clear hg
   have i0 : (0 : Int) ≤ (i : Int) := by omega
   have i1 : (i : Int) < (l.length : Int) := by omega
   have DI := fun wx => sidle_calls lt[i].f0 lt[i].f1.f0 lt[i].f1.f1 lt[i].f1.f2 lt[i].f1.f3 lt[i].f1.f4 (.slice (o.r i).1 lt[i].f2.length (o.r i).2) lt[i].f3 lt[i].f4 lt[i].f5 lt[i].f6 wx ⟨_, _, _, rfl⟩
   clear hrow HK2
   by_cases hm : lt[i].f1.f4 = 0
   ·have hmb : (lt[i].f1.f4 == 0) = true := by simpa using hm
    rw [hmb] at DI
    have hno : turnsB now lt[i] = false := by unfold turnsB; simp [hm]
    have HSU2 : Hid (turnUp now l (i + 1) = lt) := Lib.hid (by rw [HSU.out]; unfold turn1; rw [if_neg (by simp [hno])]; exact List.set_getElem_self hil)
    have HES2 : Hid (turnE now (l.take (i + 1)) = turnE now (l.take i)) := Lib.hid (by rw [HES.out, hno]; simp)
    clear HSU HES hno hmb hm
    go_wp2_with (go_at_call 26; (with_reducible refine (DI _).mono ?_); rintro e w2 ⟨rfl, hB2⟩; have HB2 := Lib.hid hB2; clear hB2)
    go_roundw
    case rel => exact ⟨i + 1, by go_num, by omega, Lib.hid (blk_below HX.out HB2.out), Lib.hid (blk_below HZ.out HB2.out), Lib.hid (by rw [HSU2.out]; exact HO.out.below HB2.out), Lib.hid (fun k hk => Kd.R_below (HQ.out k hk) HB2.out), Lib.hid (by rw [HES2.out]; exact Kd.R_below HE.out HB2.out), Lib.hid (HB.out.trans (HB2.out.mono HB.out.size)), Nat.le_trans hszr HB2.out.size⟩
    case measure => first | (simp [intOf]; done) | (simp [intOf]; omega)
   ·have hmb : (lt[i].f1.f4 == 0) = false := by simpa using hm
    rw [hmb] at DI
    by_cases hsec : lt[i].f3 = 0
    ·by_cases hdue : lt[i].f1.f3 ≤ now
     ·have hyes : turnsB now lt[i] = true := by unfold turnsB; simp [hdue, hm, hsec]
      have HSU2 : Hid (turnUp now l (i + 1) = lt.set i { lt[i] with f1 := turnS lt[i].f1 now }) := Lib.hid (by rw [HSU.out]; unfold turn1; rw [if_pos hyes])
      have HES2 : Hid (turnE now (l.take (i + 1)) = turnE now (l.take i) ++ [⟨now, 5, lt[i].f0, 0⟩]) := Lib.hid (by rw [HES.out, hyes]; simp)
      have HM := Lib.hid hm
      have HDUE := Lib.hid hdue
      have hel : (turnE now (l.take i)).length ≤ 12 := by
       unfold turnE
       rw [List.length_map]
       exact Nat.le_trans (List.length_filter_le _ _) (by rw [List.length_take]; omega)
      clear HSU HES hyes hmb hm hdue
      rw [hsec] at DI
      go_upto_region 8 with (first | (go_at_call 26; (with_reducible refine (DI _).mono ?_); rintro e w2 ⟨rfl, hB2⟩; have HB2 := Lib.hid hB2; have r7b := (serv_at (HR.out.below hB2) hil).e7; clear hB2))
      have HX2 : Hid (w2.heap[w.heap.size]? = some (.cells #[.int .i64 M, .int .i64 now, .slice (some ⟨g, 0, none⟩) l.length o.c, .slice o.A2 q.length o.c2, .slice A4 0 c4] 47 (0, 0))) := Lib.hid (by rw [← HG.out]; exact blk_below HX.out HB2.out)
      have HR2 := Lib.hid (HR.out.below HB2.out)
      have DN0 := fun wx => turn_calls lt[i].f1 now wx hcbs HM.out HDUE.out (by omega)
      have HSET := Lib.hid (show turnS lt[i].f1 now = turnS lt[i].f1 now from rfl)
      generalize hts : turnS lt[i].f1 now = ts at HSU2 DN0
      obtain ⟨tq, tp, tb, td, tm⟩ := ts
      have DN : ∀ wx, Calls Tryz.prog 27 #[.agg #[.int .i64 lt[i].f1.f0, .int .i64 lt[i].f1.f1, .int .i64 lt[i].f1.f2, .int .i64 lt[i].f1.f3, .int .i64 lt[i].f1.f4], .int .i64 now] wx fun e w' => e = .returned (.tuple #[.agg #[.int .i64 tq, .int .i64 tp, .int .i64 tb, .int .i64 td, .int .i64 tm], .bool true]) ∧ Below wx.heap.size wx w' := DN0
      clear r0 r1 r2 r3 r4 r5 r6 r7 r7b r8 r9 r10 q2 DI DN0 hts HSET
      refine start_ (n := 13) (S := fun w' => Hid (w'.heap[w.heap.size]? = some (.cells #[.int .i64 M, .int .i64 now, .slice (some ⟨g, 0, none⟩) l.length o.c, .slice o.A2 q.length o.c2, .slice A4 0 c4] 47 (0, 0))) ∧ Hid (RowAt w' g 0 11 57 (rowsOf servRow lt o.r)) ∧ Hid (Below w2.drew.heap.size w2.drew w')) (ds := [11]) #[false, false, false, false, false, false, false, false, false, false, false, false, false] (by kernel_rfl) rfl rfl ⟨(Lib.hid (show w2.drew.heap[w.heap.size]? = _ from HX2.out)), (Lib.hid HR2.out.drew), (Lib.hid (Below.refl w2.drew.heap.size w2.drew))⟩ (fun hHeld => ?_)
      refine with_tabW setl.tab8 setl.bits8 (fun HT_ HW_ => ?_)
      have hbd : Hid (Below w2.heap.size w2 w2.drew) := Lib.hid ⟨rfl, rfl, rfl, Nat.le_refl _, fun _ _ => rfl⟩
      generalize hwd : w2.drew = wd at *
      clear hwd
      refine pst (i := 0) (N := some 41) HT_ (h := ?_)
      refine pst (i := 1) (N := some 42) HT_ (h := ?_)
      refine pst (i := 2) (N := some 43) HT_ (h := ?_)
      refine pst (i := 4) (N := some 45) HT_ (h := ?_)
      refine tst (i := 3) (N := some 44) HT_ HW_ hHeld (hy := by (rintro w' ⟨s0, s1, s2⟩; have e0 := (blk_cell s0.out 0).trans rfl; have e1 := (blk_cell s0.out 1).trans rfl; have e2 := (blk_cell s0.out 2).trans rfl; have e3 := (blk_cell s0.out 3).trans rfl; have e4 := (blk_cell s0.out 4).trans rfl; obtain ⟨u1, u2, u3, u4, u5⟩ := at54 s1.out hil; clear s0 s1 s2); go_simp; with_reducible rfl) (h := ?_)
      refine tst (i := 5) (N := some 46) HT_ HW_ hHeld (hy := by (rintro w' ⟨s0, s1, s2⟩; have e0 := (blk_cell s0.out 0).trans rfl; have e1 := (blk_cell s0.out 1).trans rfl; have e2 := (blk_cell s0.out 2).trans rfl; have e3 := (blk_cell s0.out 3).trans rfl; have e4 := (blk_cell s0.out 4).trans rfl; obtain ⟨u1, u2, u3, u4, u5⟩ := at54 s1.out hil; clear s0 s1 s2); go_simp; with_reducible rfl) (h := ?_)
      refine join_ (σ := Nat) 2 #[true, true, true, true, true, true, true, true, true, true, true, false, false] (fun s => [(47, .tuple #[.agg #[.int .i64 tq, .int .i64 tp, .int .i64 tb, .int .i64 td, .int .i64 tm], .bool true]), (40, .tuple #[.agg #[.int .i64 tq, .int .i64 tp, .int .i64 tb, .int .i64 td, .int .i64 tm], .bool true]), (48, .agg #[.int .i64 tq, .int .i64 tp, .int .i64 tb, .int .i64 td, .int .i64 tm]), (49, .bool true), (7, .pointer (some ⟨s, 0, none⟩))]) (fun s w' => Hid (w'.heap[s]? = some (.cells #[.int .i64 0, .int .i64 0, .int .i64 0, .int .i64 0, .int .i64 0] 54 (0, 0))) ∧ Hid (Below wd.heap.size wd w') ∧ Hid (wd.heap.size ≤ s)) ?_ ?_
      rotate_left
      ·intro hCont
       refine two_ (i := 6) (j := 10) (Ni := some 47) (Nj := some 7) #[true, true, true, true, true, true, true, false, false, false, false, false, false] #[true, true, true, true, true, true, false, false, false, false, true, false, false] rfl rfl rfl rfl (two_of HT_.out (by kernel_rfl)) (by decide) (by decide) (fun K hK => ?_) (fun K hK => ?_)
       ·skip
        refine goes_ Tryz.func27 (by kernel_rfl) rfl #[.agg #[.int .i64 lt[i].f1.f0, .int .i64 lt[i].f1.f1, .int .i64 lt[i].f1.f2, .int .i64 lt[i].f1.f3, .int .i64 lt[i].f1.f4], .int .i64 now] (by rfl) rfl rfl (by simp only [List.map_toArray, List.map_cons, List.map_nil]; rfl) ?_
        with_reducible refine (DN _).mono ?_
        rintro e w5 ⟨rfl, hB5⟩
        refine ⟨_, rfl, ?_⟩
        refine hK.out _ _ ⟨(Lib.hid (blk_below hHeld.1.out hB5)), (Lib.hid (hHeld.2.1.out.below hB5)), (Lib.hid (hHeld.2.2.out.trans (hB5.mono hHeld.2.2.out.size)))⟩ (fun hHeld => ?_)
        clear hK K
        refine norm_ (a' := ?_) ?_ ?_
        rotate_left
        ·show Act.put _ (some 47) _ = _
         simp only [Act.put, List.setIfInBounds_toArray, List.set_cons_zero, List.set_cons_succ, i64_w, i32_w]
         rfl
        refine pst (i := 7) (N := some 40) HT_ (h := ?_)
        refine pst (i := 8) (N := some 48) HT_ (h := ?_)
        refine pst (i := 9) (N := some 49) HT_ (h := ?_)
        refine one_ (i := 10) (N := some 7) #[true, true, true, true, true, true, true, true, true, true, true, false, false] rfl rfl (one_of HT_.out (by kernel_rfl)) (by decide) (fun K hK => ?_)
        refine value_ (w1 := ?_) (v := ?_) (by rfl) rfl ?_ ?_
        rotate_left 2
        ·go_simp
         constructor
         ·rfl
         ·rfl
        refine hK.out _ _ ⟨(Lib.hid (blk_below hHeld.1.out (below_alloc (Below.refl _ _) _))), (Lib.hid (hHeld.2.1.out.below (below_alloc (Below.refl _ _) _))), (Lib.hid (hHeld.2.2.out.trans ((below_alloc (Below.refl _ _) _).mono hHeld.2.2.out.size)))⟩ (fun hHeld => ?_)
        clear hK K
        refine norm_ (a' := ?_) ?_ ?_
        rotate_left
        ·show Act.put _ (some 7) _ = _
         simp only [Act.put, List.setIfInBounds_toArray, List.set_cons_zero, List.set_cons_succ, i64_w, i32_w]
         rfl
        exact norm_ (by simp only [putAll, Act.put, List.setIfInBounds_toArray, List.set_cons_zero, List.set_cons_succ]) (hCont w5.heap.size _ ⟨Lib.hid (blk_new w5 _), hHeld.2.2, Lib.hid hB5.size⟩)
       ·skip
        refine value_ (w1 := ?_) (v := ?_) (by rfl) rfl ?_ ?_
        rotate_left 2
        ·go_simp
         constructor
         ·rfl
         ·rfl
        refine hK.out _ _ ⟨(Lib.hid (blk_below hHeld.1.out (below_alloc (Below.refl _ _) _))), (Lib.hid (hHeld.2.1.out.below (below_alloc (Below.refl _ _) _))), (Lib.hid (hHeld.2.2.out.trans ((below_alloc (Below.refl _ _) _).mono hHeld.2.2.out.size)))⟩ (fun hHeld => ?_)
        clear hK K
        refine norm_ (a' := ?_) ?_ ?_
        rotate_left
        ·show Act.put _ (some 7) _ = _
         simp only [Act.put, List.setIfInBounds_toArray, List.set_cons_zero, List.set_cons_succ, i64_w, i32_w]
         rfl
        refine one_ (i := 6) (N := some 47) #[true, true, true, true, true, true, true, false, false, false, true, false, false] rfl rfl (one_of HT_.out (by kernel_rfl)) (by decide) (fun K hK => ?_)
        refine goes_ Tryz.func27 (by kernel_rfl) rfl #[.agg #[.int .i64 lt[i].f1.f0, .int .i64 lt[i].f1.f1, .int .i64 lt[i].f1.f2, .int .i64 lt[i].f1.f3, .int .i64 lt[i].f1.f4], .int .i64 now] (by rfl) rfl rfl (by simp only [List.map_toArray, List.map_cons, List.map_nil]; rfl) ?_
        with_reducible refine (DN _).mono ?_
        rintro e w5 ⟨rfl, hB5⟩
        refine ⟨_, rfl, ?_⟩
        refine hK.out _ _ ⟨(Lib.hid (blk_below hHeld.1.out hB5)), (Lib.hid (hHeld.2.1.out.below hB5)), (Lib.hid (hHeld.2.2.out.trans (hB5.mono hHeld.2.2.out.size)))⟩ (fun hHeld => ?_)
        clear hK K
        refine norm_ (a' := ?_) ?_ ?_
        rotate_left
        ·show Act.put _ (some 47) _ = _
         simp only [Act.put, List.setIfInBounds_toArray, List.set_cons_zero, List.set_cons_succ, i64_w, i32_w]
         rfl
        refine pst (i := 7) (N := some 40) HT_ (h := ?_)
        refine pst (i := 8) (N := some 48) HT_ (h := ?_)
        refine pst (i := 9) (N := some 49) HT_ (h := ?_)
        exact norm_ (by simp only [putAll, Act.put, List.setIfInBounds_toArray, List.set_cons_zero, List.set_cons_succ]) (hCont wd.heap.size _ ⟨Lib.hid (blk_below (blk_new wd _) hB5), hHeld.2.2, Lib.hid (Nat.le_refl _)⟩)
      rintro s w6 ⟨hZ6, hW6, hs6⟩
      refine norm_ (a' := ?_) ?_ ?_
      rotate_left
      ·simp only [putAll, Act.put, List.setIfInBounds_toArray, List.set_cons_zero, List.set_cons_succ]
       rfl
      refine last_ (i := 11) (N := none) #[true, true, true, true, true, true, true, true, true, true, true, true, false] rfl rfl (one_of HT_.out (by kernel_rfl)) (by decide) (fun K hK => ?_)
      have z0 := blk_frozen hZ6.out 0
      have z1 := blk_frozen hZ6.out 1
      have z2 := blk_frozen hZ6.out 2
      have z3 := blk_frozen hZ6.out 3
      have z4 := blk_frozen hZ6.out 4
      have y0 := (blk_cell hZ6.out 0).trans rfl
      have y1 := (blk_cell hZ6.out 1).trans rfl
      have y2 := (blk_cell hZ6.out 2).trans rfl
      have y3 := (blk_cell hZ6.out 3).trans rfl
      have y4 := (blk_cell hZ6.out 4).trans rfl
      refine skip_ (w1 := ?_) (by rfl) rfl ?_ ?_
      rotate_left
      ·go_simp
       rfl
      have HZ7 := Lib.hid (blk_put (cs' := #[.int .i64 tq, .int .i64 tp, .int .i64 tb, .int .i64 td, .int .i64 tm]) (blk_put (blk_put (blk_put (blk_put hZ6.out 0 (.int .i64 tq) rfl) 1 (.int .i64 tp) rfl) 2 (.int .i64 tb) rfl) 3 (.int .i64 td) rfl) 4 (.int .i64 tm) rfl)
      have HT7 := Lib.hid (turn_set54 (Turn.refl w6 (fun b => b = s)) rfl 0 (.int .i64 tq) (.int .i64 tp) (.int .i64 tb) (.int .i64 td) (.int .i64 tm))
      clear z0 z1 z2 z3 z4 y0 y1 y2 y3 y4
      generalize hws : World.setCell _ _ _ = w7 at *
      clear hws
      refine hK.out _ _ ?_
      clear hK K
      refine pst (i := 12) (N := some 8) HT_ (h := ?_)
      refine done_ (done_of HT_.out (by kernel_rfl)) ?_
      have HB27 : Hid (Below wr.heap.size wr w7) := Lib.hid (HB2.out.trans ((Turn.below (hbd.out.trans (hW6.out.mono hbd.out.size)) HT7.out (fun b h => by have := hs6.out; have := hbd.out.size; omega) (by have := hbd.out.size; have := hW6.out.size; omega)).mono HB2.out.size))
      have y0 := (blk_cell HZ7.out 0).trans rfl
      have y1 := (blk_cell HZ7.out 1).trans rfl
      have y2 := (blk_cell HZ7.out 2).trans rfl
      have y3 := (blk_cell HZ7.out 3).trans rfl
      have y4 := (blk_cell HZ7.out 4).trans rfl
      obtain ⟨s1, s2, s3, s4, s5⟩ := at54 (HR.out.below HB27.out) hil
      have hfz := fun k => (HR.out.below HB27.out).free k
      clear hbd hW6 hs6 HT7 hZ6 hHeld DN HX2 HR2 HB2
      go_upto_region 11 with fail
      have HRow8 := Lib.hid (serv_set54 (HR.out.below HB27.out) hil ⟨tq, tp, tb, td, tm⟩)
      have HT8 := Lib.hid (turn_set54 (Turn.refl w7 (fun b => b = g)) rfl (i * 11 + 1) (.int .i64 tq) (.int .i64 tp) (.int .i64 tb) (.int .i64 td) (.int .i64 tm))
      generalize hws : World.setCell _ _ _ = w8 at *
      clear hws y0 y1 y2 y3 y4 s1 s2 s3 s4 s5 hfz HZ7
      have hs7 := HB27.out.size
      have HX8 : Hid (w8.heap[w.heap.size]? = some (.cells #[.int .i64 M, .int .i64 now, .slice (some ⟨g, 0, none⟩) l.length o.c, .slice o.A2 q.length o.c2, .slice A4 0 c4] 47 (0, 0))) := Lib.hid (by rw [← HG.out]; exact (HT8.out.block _ (by have := blk_lt HX.out; omega) (by omega)).trans (blk_below HX.out HB27.out))
      have HZ8 := Lib.hid ((HT8.out.block (w.heap.size + 1) (by have := blk_lt HZ.out; omega) (by omega)).trans (blk_below HZ.out HB27.out))
      have HO8 := Lib.hid ((HO.out.below HB27.out).serv0 hil { lt[i] with f1 := ⟨tq, tp, tb, td, tm⟩ } rfl HG.out HT8.out HRow8.out)
      have HQ8 : Hid (QueR w8 B q o) := Lib.hid (fun k hk => Kd.R_step (Kd.R_below (HQ.out k hk) HB27.out) (fun b hb hlt => HT8.out.block b hlt (fun e => by have := HO.out.apart (.q k) .g b hb (by show o.A.map _ = _; rw [HG.out, e]; rfl); cases this)))
      have HE8 := Lib.hid (Kd.R_step (Kd.R_bound (Kd.R_below HE.out HB27.out)) (fun b hb hlt => HT8.out.block b hlt (by omega)))
      have HE8 := Lib.hid (Kd.R_mono HE8.out (fun _ _ => trivial : ∀ k, _ → (fun _ => True) k))
      have hid8 : w8.cell? ⟨g, i * 11, none⟩ = some (.int .i64 lt[i].f0) := by
       have := HRow8.out.cell (i := i) (by rw [List.length_set, rowsOf_len]; exact hil) (j := 0) (by omega) (v := .int .i64 lt[i].f0) (by rw [List.getElem_set_self]; rfl)
       rwa [Nat.zero_add, Nat.add_zero] at this
      have HB8 : Hid (Below w.heap.size w w8) := Lib.hid (Turn.below (HB.out.trans (HB27.out.mono HB.out.size)) HT8.out (fun b hb => by omega) (by have := HB.out.size; omega))
      have hsz8 : wN.heap.size ≤ w8.heap.size := by have := HT8.out.size; omega
      clear HT8 HRow8
      refine start_ (n := 10) (S := fun w' => Hid (w'.heap[w.heap.size]? = some (.cells #[.int .i64 M, .int .i64 now, .slice (some ⟨g, 0, none⟩) l.length o.c, .slice o.A2 q.length o.c2, .slice A4 0 c4] 47 (0, 0))) ∧ w'.cell? ⟨g, i * 11, none⟩ = some (.int .i64 lt[i].f0) ∧ Hid ((Kd.raw 4).R 67 w' wN.heap.size (fun _ => True) u4 ((turnE now (l.take i)).map Ev.cells)) ∧ Hid (Below w8.drew.heap.size w8.drew w')) (ds := [8]) #[false, false, false, false, false, false, false, false, false, false] (by kernel_rfl) rfl rfl ⟨(Lib.hid (show w8.drew.heap[w.heap.size]? = _ from HX8.out)), (show w8.drew.cell? _ = _ from hid8), (Lib.hid (Kd.R_drew HE8.out)), (Lib.hid (Below.refl w8.drew.heap.size w8.drew))⟩ (fun hHeld => ?_)
      refine with_tabW setl.tab11 setl.bits11 (fun HT_ HW_ => ?_)
      have hbd : Hid (Below w8.heap.size w8 w8.drew) := Lib.hid ⟨rfl, rfl, rfl, Nat.le_refl _, fun _ _ => rfl⟩
      have hsd : w8.heap.size = w8.drew.heap.size := rfl
      generalize hwd : w8.drew = wd at *
      clear hwd
      refine pst (i := 0) (N := some 55) HT_ (h := ?_)
      refine pst (i := 2) (N := some 57) HT_ (h := ?_)
      refine pst (i := 3) (N := some 58) HT_ (h := ?_)
      refine pst (i := 4) (N := some 59) HT_ (h := ?_)
      refine tst (i := 1) (N := some 56) HT_ HW_ hHeld (hy := by (rintro w' ⟨s0, s1, s2, s3⟩; have e0 := (blk_cell s0.out 0).trans rfl; have e1 := (blk_cell s0.out 1).trans rfl; have e2 := (blk_cell s0.out 2).trans rfl; have e3 := (blk_cell s0.out 3).trans rfl; have e4 := (blk_cell s0.out 4).trans rfl; clear s0); go_simp; with_reducible rfl) (h := ?_)
      refine tst (i := 5) (N := some 60) HT_ HW_ hHeld (hy := by (rintro w' ⟨s0, s1, s2, s3⟩; have e0 := (blk_cell s0.out 0).trans rfl; have e1 := (blk_cell s0.out 1).trans rfl; have e2 := (blk_cell s0.out 2).trans rfl; have e3 := (blk_cell s0.out 3).trans rfl; have e4 := (blk_cell s0.out 4).trans rfl; clear s0); go_simp; with_reducible rfl) (h := ?_)
      refine one_ (i := 6) (N := some 61) #[true, true, true, true, true, true, true, false, false, false] rfl rfl (one_of HT_.out (by kernel_rfl)) (by decide) (fun K hK => ?_)
      refine goes_ Tryz.func28 (by kernel_rfl) rfl #[stV M now (some ⟨g, 0, none⟩) l.length o.c o.A2 q.length o.c2 A4 c4, .int .i64 5, .int .i64 lt[i].f0, .int .i64 0] (by rfl) rfl rfl (by simp only [List.map_toArray, List.map_cons, List.map_nil]; rfl) ?_
      with_reducible refine (event_calls M now _ _ _ _ _ _ _ _ 5 lt[i].f0 0 _).mono ?_
      rintro e w9 ⟨rfl, hB9⟩
      refine ⟨_, rfl, ?_⟩
      refine hK.out _ _ ⟨(Lib.hid (blk_below hHeld.1.out hB9)), ((hB9.cell (World.block_lt_of_cell? _ _ hHeld.2.1)).trans hHeld.2.1), (Lib.hid (Kd.R_below hHeld.2.2.1.out hB9)), (Lib.hid (hHeld.2.2.2.out.trans (hB9.mono hHeld.2.2.2.out.size)))⟩ (fun hHeld => ?_)
      clear hK K
      refine norm_ (a' := ?_) ?_ ?_
      rotate_left
      ·show Act.put _ (some 61) _ = _
       simp only [Act.put, List.setIfInBounds_toArray, List.set_cons_zero, List.set_cons_succ, i64_w, i32_w]
       rfl
      refine one_ (i := 7) (N := some 62) #[true, true, true, true, true, true, true, true, false, false] rfl rfl (one_of HT_.out (by kernel_rfl)) (by decide) (fun K hK => ?_)
      refine Kd.R_lit_step (Kd.raw 4) (w0 := w9) w9.heap.size 67 (by rfl) (N := 62) rfl (xs := [[.int .i64 now, .int .i64 5, .int .i64 lt[i].f0, .int .i64 0]]) (inner := [.int .i64 now, .int .i64 5, .int .i64 lt[i].f0, .int .i64 0]) (ok := fun _ => True) (okp := fun _ => False) ?hr ?hp (fun _ h => h.elim) trivial (Below.refl _ _) (Nat.le_refl _) (by simp) ?_
      (case hr => first | (go_simp; done) | (go_simp; rfl))
      (case hp => exact reps_one)
      intro vL w10 hR10 hB10 _ _
      obtain ⟨AL, cL, eL, hcL, hCL⟩ := Kd.R_reads hR10
      subst eL
      refine hK.out _ _ ⟨(Lib.hid (blk_below hHeld.1.out hB10)), ((hB10.cell (World.block_lt_of_cell? _ _ hHeld.2.1)).trans hHeld.2.1), (Lib.hid (Kd.R_below hHeld.2.2.1.out hB10)), (Lib.hid (hHeld.2.2.2.out.trans (hB10.mono hHeld.2.2.2.out.size)))⟩ (fun hHeld => ?_)
      clear hK K
      refine norm_ (a' := ?_) ?_ ?_
      rotate_left
      ·show Act.put _ (some 62) _ = _
       simp only [Act.put, List.setIfInBounds_toArray, List.set_cons_zero, List.set_cons_succ, i64_w, i32_w]
       rfl
      refine last_ (i := 8) (N := some 63) #[true, true, true, true, true, true, true, true, true, false] rfl rfl (one_of HT_.out (by kernel_rfl)) (by decide) (fun K hK => ?_)
      refine Kd.R_append_rows_step (Kd.raw 4) (Rr := (Kd.raw 4).K w10) (w0 := w10) wN.heap.size (by rfl) (.tmp 55) (.tmp 62) 48 67 (.agg #[.int .i64 0, .int .i64 0, .int .i64 0, .int .i64 0]) 32 rfl Tryz.underlying48 info67 rfl (by decide) (by omega) u4 ((turnE now (l.take i)).map Ev.cells) [[.int .i64 now, .int .i64 5, .int .i64 lt[i].f0, .int .i64 0]] AL 1 cL (fun _ => True) (fun _ => False) (by rfl) (by rfl) hHeld.2.2.1.out hCL (fun _ _ h => h) (fun _ h => h.elim) (fun _ _ => trivial) (Below.refl _ _) (by have := hHeld.2.2.2.out.size; omega) (by simp only [List.length_map, List.length_append, List.length_cons, List.length_nil]; omega) ?_
      intro vO w11 hR11 hB11 hg11 hat11
      have HR11 := Lib.hid hR11
      have HT11 := Lib.hid (grown_turn hg11)
      have HAT := Lib.hid hat11
      have HB10x := Lib.hid hHeld.2.2.2.out
      have HRin := Lib.hid hHeld.2.2.1.out
      clear hR11 hB11 hg11 hat11
      refine hK.out _ _ ?_
      clear hK K
      refine norm_ (a' := ?_) ?_ ?_
      rotate_left
      ·show Act.put _ (some 63) _ = _
       simp only [Act.put, List.setIfInBounds_toArray, List.set_cons_zero, List.set_cons_succ, i64_w, i32_w]
       rfl
      refine pst (i := 9) (N := some 4) HT_ (h := ?_)
      refine done_ (done_of HT_.out (by kernel_rfl)) ?_
      have hs8 := hbd.out.size
      have hs10 := HB10x.out.size
      have ubase : ∀ b, some b = u4.ownBlock → wN.heap.size ≤ b := fun b e => Kd.R_base HRin.out b e.symm
      have HB10 := Lib.hid (hbd.out.trans (HB10x.out.mono hbd.out.size))
      have HX11 : Hid (w11.heap[w.heap.size]? = some (.cells #[.int .i64 M, .int .i64 now, .slice o.A l.length o.c, .slice o.A2 q.length o.c2, .slice A4 0 c4] 47 (0, 0))) := Lib.hid (by rw [HG.out]; exact (HT11.out.block _ (by have := blk_lt HX8.out; omega) (fun e => by have := ubase _ e; omega)).trans (blk_below HX8.out HB10.out))
      have HZ11 := Lib.hid ((HT11.out.block (w.heap.size + 1) (by have := blk_lt HZ8.out; omega) (fun e => by have := ubase _ e; omega)).trans (blk_below HZ8.out HB10.out))
      have HO11 := Lib.hid ((HO8.out.below HB10.out).keep HT11.out (fun b e => by have := ubase _ e; omega) (fun cc b hc e => by have := ubase _ e; have := HNB.out cc b hc; omega))
      have HQ11 : Hid (QueR w11 B q o) := Lib.hid (fun k hk => Kd.R_step (Kd.R_below (HQ8.out k hk) HB10.out) (fun b hb hlt => HT11.out.block b hlt (fun e => by have := ubase _ e; have := HNB.out _ b hb; omega)))
      have HB11 : Hid (Below w.heap.size w w11) := Lib.hid (Turn.below (HB8.out.trans (HB10.out.mono HB8.out.size)) HT11.out (fun b e => by have := ubase _ e; omega) (by have := HB8.out.size; omega))
      have hsz11 : wN.heap.size ≤ w11.heap.size := by have := HT11.out.size; omega
      clear ubase hHeld HT11 HAT HB10x HRin HB10 hbd hsd HX8 HZ8 HO8 HQ8 HE8 hid8 HB8 hR10 hB10 hB9 hCL HB27
      go_wp2
      go_roundw
      case rel => exact ⟨i + 1, by go_num, by omega, HX11, HZ11, Lib.hid (by rw [HSU2.out]; exact HO11.out), HQ11, Lib.hid (by rw [HES2.out, List.map_append]; exact HR11.out), HB11, hsz11⟩
      case measure => first | (simp [intOf]; done) | (simp [intOf]; omega)
     ·have hno : turnsB now lt[i] = false := by unfold turnsB; simp [hdue]
      have HSU2 : Hid (turnUp now l (i + 1) = lt) := Lib.hid (by rw [HSU.out]; unfold turn1; rw [if_neg (by simp [hno])]; exact List.set_getElem_self hil)
      have HES2 : Hid (turnE now (l.take (i + 1)) = turnE now (l.take i)) := Lib.hid (by rw [HES.out, hno]; simp)
      have hno2 : lt[i].f1.f4 = 0 ∨ (lt[i].f1.f4 ≠ 0 ∧ now < lt[i].f1.f3) := .inr ⟨hm, by omega⟩
      have HNO := Lib.hid hno2
      clear HSU HES hno hmb hm hdue hno2
      rw [hsec] at DI
      go_upto_region 8 with (first | (go_at_call 26; (with_reducible refine (DI _).mono ?_); rintro e w2 ⟨rfl, hB2⟩; have HB2 := Lib.hid hB2; have r7b := (serv_at (HR.out.below hB2) hil).e7; clear hB2))
      have HX2 : Hid (w2.heap[w.heap.size]? = some (.cells #[.int .i64 M, .int .i64 now, .slice (some ⟨g, 0, none⟩) l.length o.c, .slice o.A2 q.length o.c2, .slice A4 0 c4] 47 (0, 0))) := Lib.hid (by rw [← HG.out]; exact blk_below HX.out HB2.out)
      have HR2 := Lib.hid (HR.out.below HB2.out)
      have DN : ∀ wx, Calls Tryz.prog 27 #[.agg #[.int .i64 lt[i].f1.f0, .int .i64 lt[i].f1.f1, .int .i64 lt[i].f1.f2, .int .i64 lt[i].f1.f3, .int .i64 lt[i].f1.f4], .int .i64 now] wx fun e w' => e = .returned (.tuple #[.agg #[.int .i64 lt[i].f1.f0, .int .i64 lt[i].f1.f1, .int .i64 lt[i].f1.f2, .int .i64 lt[i].f1.f3, .int .i64 lt[i].f1.f4], .bool false]) ∧ Below wx.heap.size wx w' := fun wx => turn_no_calls lt[i].f1 now wx hcbs HNO.out
      clear r0 r1 r2 r3 r4 r5 r6 r7 r7b r8 r9 r10 q2 DI
      refine start_ (n := 13) (S := fun w' => Hid (w'.heap[w.heap.size]? = some (.cells #[.int .i64 M, .int .i64 now, .slice (some ⟨g, 0, none⟩) l.length o.c, .slice o.A2 q.length o.c2, .slice A4 0 c4] 47 (0, 0))) ∧ Hid (RowAt w' g 0 11 57 (rowsOf servRow lt o.r)) ∧ Hid (Below w2.drew.heap.size w2.drew w')) (ds := [11]) #[false, false, false, false, false, false, false, false, false, false, false, false, false] (by kernel_rfl) rfl rfl ⟨(Lib.hid (show w2.drew.heap[w.heap.size]? = _ from HX2.out)), (Lib.hid HR2.out.drew), (Lib.hid (Below.refl w2.drew.heap.size w2.drew))⟩ (fun hHeld => ?_)
      refine with_tabW setl.tab8 setl.bits8 (fun HT_ HW_ => ?_)
      have hbd : Hid (Below w2.heap.size w2 w2.drew) := Lib.hid ⟨rfl, rfl, rfl, Nat.le_refl _, fun _ _ => rfl⟩
      generalize hwd : w2.drew = wd at *
      clear hwd
      refine pst (i := 0) (N := some 41) HT_ (h := ?_)
      refine pst (i := 1) (N := some 42) HT_ (h := ?_)
      refine pst (i := 2) (N := some 43) HT_ (h := ?_)
      refine pst (i := 4) (N := some 45) HT_ (h := ?_)
      refine tst (i := 3) (N := some 44) HT_ HW_ hHeld (hy := by (rintro w' ⟨s0, s1, s2⟩; have e0 := (blk_cell s0.out 0).trans rfl; have e1 := (blk_cell s0.out 1).trans rfl; have e2 := (blk_cell s0.out 2).trans rfl; have e3 := (blk_cell s0.out 3).trans rfl; have e4 := (blk_cell s0.out 4).trans rfl; obtain ⟨u1, u2, u3, u4, u5⟩ := at54 s1.out hil; clear s0 s1 s2); go_simp; with_reducible rfl) (h := ?_)
      refine tst (i := 5) (N := some 46) HT_ HW_ hHeld (hy := by (rintro w' ⟨s0, s1, s2⟩; have e0 := (blk_cell s0.out 0).trans rfl; have e1 := (blk_cell s0.out 1).trans rfl; have e2 := (blk_cell s0.out 2).trans rfl; have e3 := (blk_cell s0.out 3).trans rfl; have e4 := (blk_cell s0.out 4).trans rfl; obtain ⟨u1, u2, u3, u4, u5⟩ := at54 s1.out hil; clear s0 s1 s2); go_simp; with_reducible rfl) (h := ?_)
      refine join_ (σ := Nat) 2 #[true, true, true, true, true, true, true, true, true, true, true, false, false] (fun s => [(47, .tuple #[.agg #[.int .i64 lt[i].f1.f0, .int .i64 lt[i].f1.f1, .int .i64 lt[i].f1.f2, .int .i64 lt[i].f1.f3, .int .i64 lt[i].f1.f4], .bool false]), (40, .tuple #[.agg #[.int .i64 lt[i].f1.f0, .int .i64 lt[i].f1.f1, .int .i64 lt[i].f1.f2, .int .i64 lt[i].f1.f3, .int .i64 lt[i].f1.f4], .bool false]), (48, .agg #[.int .i64 lt[i].f1.f0, .int .i64 lt[i].f1.f1, .int .i64 lt[i].f1.f2, .int .i64 lt[i].f1.f3, .int .i64 lt[i].f1.f4]), (49, .bool false), (7, .pointer (some ⟨s, 0, none⟩))]) (fun s w' => Hid (w'.heap[s]? = some (.cells #[.int .i64 0, .int .i64 0, .int .i64 0, .int .i64 0, .int .i64 0] 54 (0, 0))) ∧ Hid (Below wd.heap.size wd w') ∧ Hid (wd.heap.size ≤ s)) ?_ ?_
      rotate_left
      ·intro hCont
       refine two_ (i := 6) (j := 10) (Ni := some 47) (Nj := some 7) #[true, true, true, true, true, true, true, false, false, false, false, false, false] #[true, true, true, true, true, true, false, false, false, false, true, false, false] rfl rfl rfl rfl (two_of HT_.out (by kernel_rfl)) (by decide) (by decide) (fun K hK => ?_) (fun K hK => ?_)
       ·skip
        refine goes_ Tryz.func27 (by kernel_rfl) rfl #[.agg #[.int .i64 lt[i].f1.f0, .int .i64 lt[i].f1.f1, .int .i64 lt[i].f1.f2, .int .i64 lt[i].f1.f3, .int .i64 lt[i].f1.f4], .int .i64 now] (by rfl) rfl rfl (by simp only [List.map_toArray, List.map_cons, List.map_nil]; rfl) ?_
        with_reducible refine (DN _).mono ?_
        rintro e w5 ⟨rfl, hB5⟩
        refine ⟨_, rfl, ?_⟩
        refine hK.out _ _ ⟨(Lib.hid (blk_below hHeld.1.out hB5)), (Lib.hid (hHeld.2.1.out.below hB5)), (Lib.hid (hHeld.2.2.out.trans (hB5.mono hHeld.2.2.out.size)))⟩ (fun hHeld => ?_)
        clear hK K
        refine norm_ (a' := ?_) ?_ ?_
        rotate_left
        ·show Act.put _ (some 47) _ = _
         simp only [Act.put, List.setIfInBounds_toArray, List.set_cons_zero, List.set_cons_succ, i64_w, i32_w]
         rfl
        refine pst (i := 7) (N := some 40) HT_ (h := ?_)
        refine pst (i := 8) (N := some 48) HT_ (h := ?_)
        refine pst (i := 9) (N := some 49) HT_ (h := ?_)
        refine one_ (i := 10) (N := some 7) #[true, true, true, true, true, true, true, true, true, true, true, false, false] rfl rfl (one_of HT_.out (by kernel_rfl)) (by decide) (fun K hK => ?_)
        refine value_ (w1 := ?_) (v := ?_) (by rfl) rfl ?_ ?_
        rotate_left 2
        ·go_simp
         constructor
         ·rfl
         ·rfl
        refine hK.out _ _ ⟨(Lib.hid (blk_below hHeld.1.out (below_alloc (Below.refl _ _) _))), (Lib.hid (hHeld.2.1.out.below (below_alloc (Below.refl _ _) _))), (Lib.hid (hHeld.2.2.out.trans ((below_alloc (Below.refl _ _) _).mono hHeld.2.2.out.size)))⟩ (fun hHeld => ?_)
        clear hK K
        refine norm_ (a' := ?_) ?_ ?_
        rotate_left
        ·show Act.put _ (some 7) _ = _
         simp only [Act.put, List.setIfInBounds_toArray, List.set_cons_zero, List.set_cons_succ, i64_w, i32_w]
         rfl
        exact norm_ (by simp only [putAll, Act.put, List.setIfInBounds_toArray, List.set_cons_zero, List.set_cons_succ]) (hCont w5.heap.size _ ⟨Lib.hid (blk_new w5 _), hHeld.2.2, Lib.hid hB5.size⟩)
       ·skip
        refine value_ (w1 := ?_) (v := ?_) (by rfl) rfl ?_ ?_
        rotate_left 2
        ·go_simp
         constructor
         ·rfl
         ·rfl
        refine hK.out _ _ ⟨(Lib.hid (blk_below hHeld.1.out (below_alloc (Below.refl _ _) _))), (Lib.hid (hHeld.2.1.out.below (below_alloc (Below.refl _ _) _))), (Lib.hid (hHeld.2.2.out.trans ((below_alloc (Below.refl _ _) _).mono hHeld.2.2.out.size)))⟩ (fun hHeld => ?_)
        clear hK K
        refine norm_ (a' := ?_) ?_ ?_
        rotate_left
        ·show Act.put _ (some 7) _ = _
         simp only [Act.put, List.setIfInBounds_toArray, List.set_cons_zero, List.set_cons_succ, i64_w, i32_w]
         rfl
        refine one_ (i := 6) (N := some 47) #[true, true, true, true, true, true, true, false, false, false, true, false, false] rfl rfl (one_of HT_.out (by kernel_rfl)) (by decide) (fun K hK => ?_)
        refine goes_ Tryz.func27 (by kernel_rfl) rfl #[.agg #[.int .i64 lt[i].f1.f0, .int .i64 lt[i].f1.f1, .int .i64 lt[i].f1.f2, .int .i64 lt[i].f1.f3, .int .i64 lt[i].f1.f4], .int .i64 now] (by rfl) rfl rfl (by simp only [List.map_toArray, List.map_cons, List.map_nil]; rfl) ?_
        with_reducible refine (DN _).mono ?_
        rintro e w5 ⟨rfl, hB5⟩
        refine ⟨_, rfl, ?_⟩
        refine hK.out _ _ ⟨(Lib.hid (blk_below hHeld.1.out hB5)), (Lib.hid (hHeld.2.1.out.below hB5)), (Lib.hid (hHeld.2.2.out.trans (hB5.mono hHeld.2.2.out.size)))⟩ (fun hHeld => ?_)
        clear hK K
        refine norm_ (a' := ?_) ?_ ?_
        rotate_left
        ·show Act.put _ (some 47) _ = _
         simp only [Act.put, List.setIfInBounds_toArray, List.set_cons_zero, List.set_cons_succ, i64_w, i32_w]
         rfl
        refine pst (i := 7) (N := some 40) HT_ (h := ?_)
        refine pst (i := 8) (N := some 48) HT_ (h := ?_)
        refine pst (i := 9) (N := some 49) HT_ (h := ?_)
        exact norm_ (by simp only [putAll, Act.put, List.setIfInBounds_toArray, List.set_cons_zero, List.set_cons_succ]) (hCont wd.heap.size _ ⟨Lib.hid (blk_below (blk_new wd _) hB5), hHeld.2.2, Lib.hid (Nat.le_refl _)⟩)
      rintro s w6 ⟨hZ6, hW6, hs6⟩
      refine norm_ (a' := ?_) ?_ ?_
      rotate_left
      ·simp only [putAll, Act.put, List.setIfInBounds_toArray, List.set_cons_zero, List.set_cons_succ]
       rfl
      refine last_ (i := 11) (N := none) #[true, true, true, true, true, true, true, true, true, true, true, true, false] rfl rfl (one_of HT_.out (by kernel_rfl)) (by decide) (fun K hK => ?_)
      have z0 := blk_frozen hZ6.out 0
      have z1 := blk_frozen hZ6.out 1
      have z2 := blk_frozen hZ6.out 2
      have z3 := blk_frozen hZ6.out 3
      have z4 := blk_frozen hZ6.out 4
      have y0 := (blk_cell hZ6.out 0).trans rfl
      have y1 := (blk_cell hZ6.out 1).trans rfl
      have y2 := (blk_cell hZ6.out 2).trans rfl
      have y3 := (blk_cell hZ6.out 3).trans rfl
      have y4 := (blk_cell hZ6.out 4).trans rfl
      refine skip_ (w1 := ?_) (by rfl) rfl ?_ ?_
      rotate_left
      ·go_simp
       rfl
      have HZ7 := Lib.hid (blk_put (cs' := #[.int .i64 lt[i].f1.f0, .int .i64 lt[i].f1.f1, .int .i64 lt[i].f1.f2, .int .i64 lt[i].f1.f3, .int .i64 lt[i].f1.f4]) (blk_put (blk_put (blk_put (blk_put hZ6.out 0 (.int .i64 lt[i].f1.f0) rfl) 1 (.int .i64 lt[i].f1.f1) rfl) 2 (.int .i64 lt[i].f1.f2) rfl) 3 (.int .i64 lt[i].f1.f3) rfl) 4 (.int .i64 lt[i].f1.f4) rfl)
      have HT7 := Lib.hid (turn_set54 (Turn.refl w6 (fun b => b = s)) rfl 0 (.int .i64 lt[i].f1.f0) (.int .i64 lt[i].f1.f1) (.int .i64 lt[i].f1.f2) (.int .i64 lt[i].f1.f3) (.int .i64 lt[i].f1.f4))
      clear z0 z1 z2 z3 z4 y0 y1 y2 y3 y4
      generalize hws : World.setCell _ _ _ = w7 at *
      clear hws
      refine hK.out _ _ ?_
      clear hK K
      refine pst (i := 12) (N := some 8) HT_ (h := ?_)
      refine done_ (done_of HT_.out (by kernel_rfl)) ?_
      have HB27 : Hid (Below wr.heap.size wr w7) := Lib.hid (HB2.out.trans ((Turn.below (hbd.out.trans (hW6.out.mono hbd.out.size)) HT7.out (fun b h => by have := hs6.out; have := hbd.out.size; omega) (by have := hbd.out.size; have := hW6.out.size; omega)).mono HB2.out.size))
      clear hbd hW6 hs6 HZ7 HT7 hZ6 hHeld DN
      go_wp2
      go_roundw
      case rel => exact ⟨i + 1, by go_num, by omega, Lib.hid (blk_below HX.out HB27.out), Lib.hid (blk_below HZ.out HB27.out), Lib.hid (by rw [HSU2.out]; exact HO.out.below HB27.out), Lib.hid (fun k hk => Kd.R_below (HQ.out k hk) HB27.out), Lib.hid (by rw [HES2.out]; exact Kd.R_below HE.out HB27.out), Lib.hid (HB.out.trans (HB27.out.mono HB.out.size)), Nat.le_trans hszr HB27.out.size⟩
      case measure => first | (simp [intOf]; done) | (simp [intOf]; omega)
    ·have hsb : (lt[i].f3 != 0) = true := by simpa using hsec
     have hno : turnsB now lt[i] = false := by unfold turnsB; simp [hsec]
     have HSU2 : Hid (turnUp now l (i + 1) = lt) := Lib.hid (by rw [HSU.out]; unfold turn1; rw [if_neg (by simp [hno])]; exact List.set_getElem_self hil)
     have HES2 : Hid (turnE now (l.take (i + 1)) = turnE now (l.take i)) := Lib.hid (by rw [HES.out, hno]; simp)
     clear HSU HES hno hmb hm
     go_wp2_with (go_at_call 26; (with_reducible refine (DI _).mono ?_); rintro e w2 ⟨rfl, hB2⟩; have HB2 := Lib.hid hB2; have r7b := (serv_at (HR.out.below hB2) hil).e7; clear hB2)
     go_roundw
     case rel => exact ⟨i + 1, by go_num, by omega, Lib.hid (blk_below HX.out HB2.out), Lib.hid (blk_below HZ.out HB2.out), Lib.hid (by rw [HSU2.out]; exact HO.out.below HB2.out), Lib.hid (fun k hk => Kd.R_below (HQ.out k hk) HB2.out), Lib.hid (by rw [HES2.out]; exact Kd.R_below HE.out HB2.out), Lib.hid (HB.out.trans (HB2.out.mono HB.out.size)), Nat.le_trans hszr HB2.out.size⟩
     case measure => first | (simp [intOf]; done) | (simp [intOf]; omega)
  ·have hie : i = l.length := by omega
   subst hie
   rw [List.take_length] at HE
   have HOT : Hid (Own wr B (turnL now l) q o) := Lib.hid (by rw [← turnUp_all now l (Nat.le_refl _)]; exact HO.out)
   have HKT : Hid (MOk M now (turnL now l) q) := Lib.hid (by rw [← turnUp_all now l (Nat.le_refl _)]; exact turn1_ok HK.out _)
   have htl : (turnL now l).length = l.length := by simp [turnL]
   have hel : (turnE now l).length ≤ 12 := by
    unfold turnE
    rw [List.length_map]
    exact Nat.le_trans (List.length_filter_le _ _) hl12
   clear HO hlt
   have q0 := (blk_cell HX.out 0).trans rfl
   have q1 := (blk_cell HX.out 1).trans rfl
   have q2 := (blk_cell HX.out 2).trans rfl
   have q3 := (blk_cell HX.out 3).trans rfl
   have q4 := (blk_cell HX.out 4).trans rfl
   have DR := refuse_calls M now (turnL now l) q B o A4 c4 wr HOT.out HKT.out
   rw [htl] at DR
   unfold stV at DR
   go_wp2_with (first | (go_at_call 29; (with_reducible refine DR.mono ?_); rintro e w2 hP2; obtain ⟨v9, v10, rfl, hT2, hP2⟩ := refuseP_pend hP2; have HP2 := Lib.hid hP2; have HT2 := Lib.hid hT2; clear hP2 hT2))
   have HGS : Hid (∀ b, o.own .g = some b → w.heap.size + 2 ≤ b ∧ b < wN.heap.size) := Lib.hid (fun b h => HNB.out .g b h)
   have hs2 := HT2.out.size
   have HX2 := Lib.hid ((HT2.out.block w.heap.size (blk_lt HX.out) (fun e => by have := HGS.out _ e; omega)).trans HX.out)
   have HZ2 := Lib.hid ((HT2.out.block (w.heap.size + 1) (blk_lt HZ.out) (fun e => by have := HGS.out _ e; omega)).trans HZ.out)
   have HQ2 : Hid (QueR w2 B q o) := Lib.hid (fun k hk => Kd.R_step (HQ.out k hk) (fun b hb hlt => HT2.out.block b hlt (fun e => by have := HOT.out.apart (.q k) .g b hb e; cases this)))
   have HE2 := Lib.hid (Kd.R_mono (Kd.R_step (Kd.R_bound HE.out) (fun b hb hlt => HT2.out.block b hlt (fun e => by have := HGS.out _ e; omega))) (fun _ _ => trivial : ∀ k, _ → (fun _ => True) k))
   have HB2 : Hid (Below w.heap.size w w2) := Lib.hid (Turn.below HB.out HT2.out (fun b e => by have := HGS.out _ e; omega) HB.out.size)
   have hsz2 : wN.heap.size ≤ w2.heap.size := by omega
   have hrd : readies (turnL now l) ≤ l.length := by unfold readies; rw [← htl]; exact List.countP_le_length
   clear HX HZ HQ HE HB HOT q0 q1 q2 q3 q4 DR HT2 hszr hs2
   go_loopg [4, 9, 10] l.length (fun n v4 v9 v10 wr => ∃ (l1 : List S57) (E : List Ev), readies l1 ≤ n ∧ l1.length = l.length ∧ E.length + readies l1 ≤ l.length ∧ Hid (MOk M now l1 q) ∧ Hid ((refAll (l.length + 1) M now (turnL now l) q).1 = (refAll (n + 1) M now l1 q).1) ∧ Hid ((refAll (l.length + 1) M now (turnL now l) q).2 = E ++ (refAll (n + 1) M now l1 q).2) ∧ Hid (wr.heap[w.heap.size]? = some (.cells #[.int .i64 M, .int .i64 now, .slice o.A l.length o.c, .slice o.A2 q.length o.c2, .slice A4 0 c4] 47 (0, 0))) ∧ Hid (wr.heap[w.heap.size + 1]? = some (.cells #[.int .i64 0, .int .i64 0, .slice none 0 0, .slice none 0 0, .slice none 0 0] 47 (0, 0))) ∧ Hid (Pend M now B l1 q o wr v9 v10) ∧ Hid (QueR wr B q o) ∧ Hid ((Kd.raw 4).R 67 wr wN.heap.size (fun _ => True) v4 ((turnE now l ++ E).map Ev.cells)) ∧ Hid (Below w.heap.size w wr) ∧ wN.heap.size ≤ wr.heap.size)
   case atStart => exact ⟨turnL now l, [], hrd, htl, by simpa using hrd, HKT, Lib.hid rfl, Lib.hid rfl, HX2, HZ2, HP2, HQ2, Lib.hid (by rw [List.append_nil]; exact HE2.out), HB2, hsz2⟩
   case round =>
    clear HX2 HZ2 HP2 HQ2 HE2 HB2 hsz2 hrd HKT hP2
    obtain ⟨l1, E, hr1, hl1, hE1, HK1, HA1, HA2, HX, HZ, HP, HQ, HE, HB, hszr⟩ := hrel
    have hpend := HP.out
    unfold Pend at hpend
    cases hrf : refuseL M now l1 q with
    | some p =>
     rw [hrf] at hpend
     obtain ⟨rfl, hOw, AL, cL, rfl, hCL⟩ := hpend
     obtain ⟨hi, hm, hm2, hm3, hm4⟩ := asks_mem HK1.out.sane.sorted (List.mem_of_find?_eq_some (show (asksL M l1).find? _ = some p from hrf))
     have hlt := readies_wait hi hm
     have HK2 := Lib.hid (waitAt_ok HK1.out hi hm)
     obtain ⟨n, rfl⟩ : ∃ n, gk = n + 1 := ⟨gk - 1, by omega⟩
     have HA1' : Hid ((refAll (l.length + 1) M now (turnL now l) q).1 = (refAll (n + 1) M now (waitAt l1 p.1) q).1) := Lib.hid (by rw [HA1.out]; simp only [refAll, hrf])
     have HA2' : Hid ((refAll (l.length + 1) M now (turnL now l) q).2 = (E ++ [⟨now, 8, (l1.getD p.1 z57).f0, p.2⟩]) ++ (refAll (n + 1) M now (waitAt l1 p.1) q).2) := Lib.hid (by rw [HA2.out]; simp only [refAll, hrf, List.append_assoc, List.cons_append, List.nil_append])
     have hwl : (waitAt l1 p.1).length = l.length := by unfold waitAt; rw [List.length_set]; exact hl1
     have HOw := Lib.hid hOw
     have HCL := Lib.hid hCL
     have HRF := Lib.hid hrf
     generalize hl2 : waitAt l1 p.1 = l2 at *
     generalize hid0 : (l1.getD p.1 z57).f0 = id0 at *
     have D29 : ∀ wx, Own wx B l2 q o → Calls Tryz.prog 29 #[.agg #[.int .i64 M, .int .i64 now, .slice o.A l.length o.c, .slice o.A2 q.length o.c2, .slice A4 0 c4]] wx fun e w' => RefuseP M now B l2 q o wx e w' := fun wx h => by
      have := refuse_calls M now l2 q B o A4 c4 wx h HK2.out
      rw [hwl] at this
      exact this
     have ubase := Kd.R_base HE.out
     clear hm hm2 hm3 hm4 hOw hCL hrf HA1 HA2 HP hl2 hid0
     go_wp2_with (first
      | ((with_reducible refine gate_builtin (b := .append) (xs := #[.tmp 76, .tmp 77]) rfl ?_); at_builtin; refine Kd.R_append_rows (Kd.raw 4) (Rr := (Kd.raw 4).K wr) (okp := fun _ => False) (w0 := wr) wN.heap.size rfl (.tmp 76) (.tmp 77) 48 67 (.agg #[.int .i64 0, .int .i64 0, .int .i64 0, .int .i64 0]) 32 rfl Tryz.underlying48 info67 rfl (by decide) (by omega) _ ((turnE now l ++ E).map Ev.cells) [[.int .i64 now, .int .i64 8, .int .i64 id0, .int .i64 p.2]] AL 1 cL (fun _ => True) rfl rfl HE.out HCL.out (fun _ _ h => h) (fun _ h => h.elim) (fun _ _ => trivial) (Below.refl _ _) hszr ?aL ?_; (case aL => (simp only [List.length_map, List.length_append]; omega)); intro vO w11 hR11 hB11 hg11 hat11; have HR11 := Lib.hid hR11; have HT11 := Lib.hid (grown_turn hg11); have HX11 := Lib.hid ((HT11.out.block w.heap.size (blk_lt HX.out) (fun e => by have := ubase _ e.symm; omega)).trans HX.out); have HZ11 := Lib.hid ((HT11.out.block (w.heap.size + 1) (blk_lt HZ.out) (fun e => by have := ubase _ e.symm; omega)).trans HZ.out); have HO11 := Lib.hid (HOw.out.keep HT11.out (fun b e => by have := ubase _ e.symm; omega) (fun cc b hc e => by have := ubase _ e.symm; have := HNB.out cc b hc; omega)); have HQ11 : Hid (QueR w11 B q o) := Lib.hid (fun k hk => Kd.R_step (HQ.out k hk) (fun b hb hlt => HT11.out.block b hlt (fun e => by have := ubase _ e.symm; have := HNB.out _ b hb; omega))); have HB11 : Hid (Below w.heap.size w w11) := Lib.hid (Turn.below HB.out HT11.out (fun b e => by have := ubase _ e.symm; omega) HB.out.size); have hsz11 : wN.heap.size ≤ w11.heap.size := (Nat.le_trans hszr HT11.out.size); have q0 := (blk_cell HX11.out 0).trans rfl; have q1 := (blk_cell HX11.out 1).trans rfl; have q2 := (blk_cell HX11.out 2).trans rfl; have q3 := (blk_cell HX11.out 3).trans rfl; have q4 := (blk_cell HX11.out 4).trans rfl; clear hR11 hB11 hg11 hat11 ubase)
      | (go_at_call 29; (with_reducible refine (D29 _ HO11.out).mono ?_); rintro e w2 hP2; obtain ⟨v9, v10, rfl, hT2, hP2⟩ := refuseP_pend hP2; have HP2 := Lib.hid hP2; have HT2 := Lib.hid hT2; clear hP2 hT2))
     have HX2 := Lib.hid ((HT2.out.block w.heap.size (blk_lt HX11.out) (fun e => by have := HGS.out _ e; omega)).trans HX11.out)
     have HZ2 := Lib.hid ((HT2.out.block (w.heap.size + 1) (blk_lt HZ11.out) (fun e => by have := HGS.out _ e; omega)).trans HZ11.out)
     have HQ2 : Hid (QueR w2 B q o) := Lib.hid (fun k hk => Kd.R_step (HQ11.out k hk) (fun b hb hlt => HT2.out.block b hlt (fun e => by have := HO11.out.apart (.q k) .g b hb e; cases this)))
     have HE2 := Lib.hid (Kd.R_mono (Kd.R_step (Kd.R_bound HR11.out) (fun b hb hlt => HT2.out.block b hlt (fun e => by have := HGS.out _ e; omega))) (fun _ _ => trivial : ∀ k, _ → (fun _ => True) k))
     have HB2 : Hid (Below w.heap.size w w2) := Lib.hid (Turn.below HB11.out HT2.out (fun b e => by have := HGS.out _ e; omega) HB11.out.size)
     have hsz2 : wN.heap.size ≤ w2.heap.size := Nat.le_trans hsz11 HT2.out.size
     go_roundg n
     case measure => omega
     case rel => exact ⟨l2, E ++ [⟨now, 8, id0, p.2⟩], by omega, hwl, by (rw [List.length_append]; simp only [List.length_cons, List.length_nil]; omega), HK2, HA1', HA2', HX2, HZ2, HP2, HQ2, Lib.hid (by rw [← List.append_assoc, List.map_append]; exact HE2.out), HB2, hsz2⟩
    | none =>
     rw [hrf] at hpend
     obtain ⟨rfl, hOw⟩ := hpend
     have HA1' : Hid ((refAll (l.length + 1) M now (turnL now l) q).1 = l1) := Lib.hid (by rw [HA1.out]; simp only [refAll, hrf])
     have HA2' : Hid ((refAll (l.length + 1) M now (turnL now l) q).2 = E) := Lib.hid (by rw [HA2.out]; simp only [refAll, hrf, List.append_nil])
     have HOw := Lib.hid hOw
     have hasl : (asksL M l1).length ≤ 12 := by
      unfold asksL asksOf
      refine Nat.le_trans (List.length_filterMap_le _ _) ?_
      rw [List.length_map]
      exact Nat.le_trans (pickL_le _ _) (Nat.le_trans (readyL_len l1) HK1.out.sane.len)
     have HMEM := Lib.hid (fun p (hp : p ∈ asksL M l1) => asks_mem HK1.out.sane.sorted hp)
     have HSEM := Lib.hid (fun p (hp : p ∈ asksL M l1) => sem_at HK1.out hp)
     have DA := asks_calls M now o.A l1 o.c o.A2 q.length o.c2 A4 c4 wr hOw.reads HK1.out.sane HK1.out.run (rank_lt (by have := HK1.out.sane.m1; omega) (by have := readyL_sorted HK1.out.sane.sorted; rw [List.nodup_iff_pairwise_ne]; exact this.imp (fun h => by omega)))
     have HST : Hid (settleL M now l q = (asksL M l1).foldl (grant1 now) (l1, q, turnE now l ++ E)) := Lib.hid (by unfold settleL; dsimp only; rw [HA1'.out, HA2'.out])
     rw [hl1] at DA
     unfold stV at DA
     have q0 := (blk_cell HX.out 0).trans rfl
     have q1 := (blk_cell HX.out 1).trans rfl
     have q2 := (blk_cell HX.out 2).trans rfl
     have q3 := (blk_cell HX.out 3).trans rfl
     have q4 := (blk_cell HX.out 4).trans rfl
     have he0 : (turnE now l ++ E).length ≤ 24 := by rw [List.length_append]; omega
     have hqm := HK1.out.room
     have hq8 := HK1.out.qlen
     have HRM := Lib.hid hqm
     have hvb := Kd.R_base HE.out
     have hvl := Kd.R_lt HE.out
     clear hOw HA1 HA2 HA1' HA2' HP hrf hr1 hqm
     generalize hev0 : turnE now l ++ E = ev0 at *
     generalize asksL M l1 = aq at *
     go_wp2_with (first | (go_at_call 30; (with_reducible refine DA.mono ?_); rintro e w2 ⟨A5, c5, A6, c6, rfl, hc5, hc6, hC5, hC6, hba5, hba6, hB2⟩; have HC5 := Lib.hid hC5; have HC6 := Lib.hid hC6; have HX2 := Lib.hid (blk_below HX.out hB2); have HZ2 := Lib.hid (blk_below HZ.out hB2); have HO2 := Lib.hid (HOw.out.below hB2); have HQ2 : Hid (QueR w2 B q o) := Lib.hid (fun k hk => Kd.R_below (HQ.out k hk) hB2); have HE2 := Lib.hid (Kd.R_below HE.out hB2); have HBB2 := Lib.hid (HB.out.trans (hB2.mono HB.out.size)); have HB2 := Lib.hid hB2; clear hC5 hC6 hB2))
     have hs2 := HB2.out.size
     have hsz2 : wN.heap.size ≤ w2.heap.size := Nat.le_trans hszr hs2
     have HOB : Hid (∀ cc b, o.own cc = some b → b < wr.heap.size) := Lib.hid (fun cc b h => (HOw.out.bnd cc b h).2)
     obtain ⟨N2, hN2⟩ : ∃ N2, wr.heap.size = N2 := ⟨_, rfl⟩
     rw [hN2] at hba5 hba6 HOB hvl hs2 hszr
     clear hN2
     clear HX HZ HQ HE HB HB2 HOw q0 q1 q2 q3 q4 DA
     have HL0 : Hid (L3 B w.heap.size wN.heap.size N2 #[.int .i64 M, .int .i64 now, .slice o.A l.length o.c, .slice o.A2 q.length o.c2, .slice A4 0 c4] #[.int .i64 0, .int .i64 0, .slice none 0 0, .slice none 0 0, .slice none 0 0] w w2 o l1 q ev0 u4 w2) := Lib.hid ⟨HX2.out, HZ2.out, HO2.out, HQ2.out, HE2.out, fun cc b h => ⟨(HNB.out cc b h).1, .inl (HOB.out cc b h), fun e => by have := hvb b e; have := HNB.out cc b h; omega⟩, fun b e => ⟨hvb b e, .inl (hvl b e)⟩, Turn.refl _ _, HBB2.out, hNs, Nat.le_refl _, hCw⟩
     clear HX2 HZ2 HO2 HQ2 HE2 HBB2 hvb hvl
     go_loopw [4, 86] (fun v4 v86 w3 => ∃ (k : Nat) (lk : List S57) (qk : List S63) (ek : List Ev) (sk : Nat → Ref), v86 = .int .i64 k ∧ k ≤ aq.length ∧ lk.length = l.length ∧ qk.length = q.length ∧ ek.length ≤ 24 + 2 * k ∧ Hid ((aq.take k).foldl (grant1 now) (l1, q, ev0) = (lk, qk, ek)) ∧ Hid (∀ n (h : n < qk.length), qk[n].f2.length ≤ 1000 + k) ∧ Hid (L3 B w.heap.size wN.heap.size N2 #[.int .i64 M, .int .i64 now, .slice o.A l.length o.c, .slice o.A2 q.length o.c2, .slice A4 0 c4] #[.int .i64 0, .int .i64 0, .slice none 0 0, .slice none 0 0, .slice none 0 0] w w2 { o with s := sk } lk qk ek v4 w3)) (fun _ v86 _ => aq.length - (intOf v86).toNat)
     case atStart => exact ⟨0, l1, q, ev0, o.s, rfl, Nat.zero_le _, hl1, rfl, by omega, Lib.hid rfl, Lib.hid (fun n h => by have := HRM.out n h; omega), HL0⟩
     case round =>
      clear HL0
      obtain ⟨k, lk, qk, ek, sk, rfl, hk, hlk, hqk, hek, HF, HRM2, HL⟩ := hrel
      by_cases hlt : k < aq.length
      ·obtain ⟨⟨i, sm⟩, hp⟩ : ∃ p, aq[k] = p := ⟨_, rfl⟩
       obtain ⟨hi, _, _, _, _⟩ := HMEM.out (i, sm) (by rw [← hp]; exact List.getElem_mem hlt)
       obtain ⟨hs1, hs3⟩ := HSEM.out (i, sm) (by rw [← hp]; exact List.getElem_mem hlt)
       dsimp only at hi hs1 hs3
       have HFS : Hid ((aq.take (k + 1)).foldl (grant1 now) (l1, q, ev0) = grant1 now (lk, qk, ek) (i, sm)) := Lib.hid (by rw [List.take_succ_eq_append_getElem hlt, List.foldl_append, HF.out, hp]; rfl)
       have ha1 : (aq.map fun x => (x.1 : Int)).length = aq.length := List.length_map _
       have ha2 : (aq.map fun x => x.2).length = aq.length := List.length_map _
       obtain ⟨ad4, rfl, a0⟩ := int_at (l := aq.map fun x => (x.1 : Int)) (by rw [ha1]; exact HC5.out) (k := k) (by rw [ha1]; exact hlt)
       obtain ⟨ad5, rfl, a1⟩ := int_at (l := aq.map fun x => x.2) (by rw [ha2]; exact HC6.out) (k := k) (by rw [ha2]; exact hlt)
       simp only [List.getElem_map, hp] at a0 a1
       have hcellT : ∀ {wx : World} {ad : Addr} {v : Value}, Turn w2 wx (fun b => b < N2 ∨ w2.heap.size ≤ b) → N2 ≤ ad.block → w2.cell? ad = some v → wx.cell? ad = some v := fun {wx ad v} ht hge hc => by
        have hlt2 := World.block_lt_of_cell? _ _ hc
        rw [← hc]
        simp only [World.cell?, ht.block ad.block hlt2 (by omega)]
       have b0 := hcellT HL.out.T (by rw [add_block]; exact hba5 ad4 rfl) a0
       have b1 := hcellT HL.out.T (by rw [add_block]; exact hba6 ad5 rfl) a1
       have HSMC : Hid (∀ wx, Turn w2 wx (fun b => b < N2 ∨ w2.heap.size ≤ b) → wx.cell? (ad5.add k) = some (.int .i64 sm)) := Lib.hid (fun wx ht => hcellT ht (by rw [add_block]; exact hba6 ad5 rfl) a1)
       obtain ⟨n, hn0⟩ : ∃ n : Nat, sm = (n : Int) + 1 := ⟨(sm - 1).toNat, by omega⟩
       subst hn0
       have hil : i < lk.length := by omega
       have hn : n < qk.length := by omega
       have HG0 := HL.out.O.row (by intro e; rw [e] at hil; simp at hil)
       obtain ⟨g, hg, hrow⟩ := HG0
       obtain ⟨h, hh, hlok⟩ := HL.out.O.lok (by intro e; rw [e] at hn; simp at hn)
       change o.A = some ⟨g, 0, none⟩ at hg
       change o.A2 = some ⟨h, 0, none⟩ at hh
       have HG := Lib.hid hg
       have HH := Lib.hid hh
       have q2 := (blk_cell HL.out.X 2).trans rfl
       have q3 := (blk_cell HL.out.X 3).trans rfl
       rw [hg] at q2
       rw [hh] at q3
       have n1 : IntKind.i64.wrap ((n : Int) + 1 - 1) = (n : Int) := by rw [i64_w]; unfold Go.RowKit.wrap64; omega
       have n0 : (0 : Int) ≤ (n : Int) := by omega
       have n2 : (n : Int) < (q.length : Int) := by omega
       have i0 : (0 : Int) ≤ (i : Int) := by omega
       have i1 : (i : Int) < (l.length : Int) := by omega
       have kk0 : (0 : Int) ≤ (k : Int) := by omega
       have kk1 : (k : Int) < (aq.length : Int) := by omega
       have hgd : lk.getD i z57 = lk[i] := by simp [hil]
       have hnd : qk.getD n z63 = qk[n] := by simp [hn]
       have hnt : ((n : Int) + 1 - 1).toNat = n := by omega
       have HFS2 : Hid (grant1 now (lk, qk, ek) (i, (n : Int) + 1) = if qk[n].f1 ≠ 0 then (lk.set i { lk[i] with f3 := 1 }, qk.set n { qk[n] with f2 := qk[n].f2 ++ [lk[i].f0] }, ek) else (lk.set i { lk[i] with f3 := 2, f4 := 0 }, qk.set n { qk[n] with f1 := lk[i].f0, f3 := false }, ek ++ (if qk[n].f3 then [⟨now, 7, lk[i].f0, 0⟩] else []) ++ [⟨now, 6, lk[i].f0, (n : Int) + 1⟩])) := Lib.hid (by
        unfold grant1
        simp only [hgd, hnd, hnt])
       have hgN := HL.out.NB .g g (by show o.A.map _ = _; rw [hg]; rfl)
       have hhN := HL.out.NB .h h (by show o.A2.map _ = _; rw [hh]; rfl)
       have hgh : g ≠ h := fun e => by have := HL.out.O.apart .g .h g (by show o.A.map _ = _; rw [hg]; rfl) (by show o.A2.map _ = _; rw [hh, e]; rfl); cases this
       have hhg : h ≠ g := fun e => hgh e.symm
       have hsq : ∀ b, ob (sk n) = some b → b ≠ g ∧ b ≠ h := fun b hb => ⟨(fun e => by (have := HL.out.O.apart (.q n) .g b hb (by show o.A.map _ = _; rw [hg, e]; rfl)); cases this), (fun e => by (have := HL.out.O.apart (.q n) .h b hb (by show o.A2.map _ = _; rw [hh, e]; rfl)); cases this)⟩
       clear hg hh hgd hnd hnt hs1 hs3 ha1 ha2 a0 a1 hrow hlok
       go_upto_region 21 with fail
       go_quiet (fail)
       have HBD : Hid (Below wr.heap.size wr (wr.drewN nq)) := Lib.hid (pw_below_drewN (Below.refl _ _) _)
       generalize wr.drewN nq = w3 at *
       have HL3 := Lib.hid (HL.out.below HBD.out)
       have hsz3 : w2.heap.size ≤ w3.heap.size := HL3.out.T.size
       clear HL HBD b0 b1 q2 q3
       obtain ⟨g', hg', hrow⟩ := HL3.out.O.row (by intro e; rw [e] at hil; simp at hil)
       obtain rfl : g = g' := by have e := HG.out; change o.A = _ at hg'; rw [e] at hg'; injection hg' with hg'; injection hg'
       obtain ⟨h', hh', hlok⟩ := HL3.out.O.lok (by intro e; rw [e] at hn; simp at hn)
       obtain rfl : h = h' := by have e := HH.out; change o.A2 = _ at hh'; rw [e] at hh'; injection hh' with hh'; injection hh'
       have HR3 := Lib.hid hrow
       have HRL3 := Lib.hid hlok
       obtain ⟨r0, r1, r2, r3, r4, r5, r6, r7, r8, r9, r10⟩ := serv_at hrow hil
       obtain ⟨k0, k1, k2, k3⟩ := lock_at hlok hn
       have hfr := fun k => hrow.free k
       have hfl := fun k => hlok.free k
       have HID := Lib.hid (show lk[i].f0 = lk[i].f0 from rfl)
       clear hg' hh' hrow hlok r1 r2 r3 r4 r5 r6 r9 r10
       obtain ⟨id0, hid0⟩ : ∃ id0, lk[i].f0 = id0 := ⟨_, rfl⟩
       rw [hid0] at r0 HFS2
       have HID := Lib.hid hid0
       clear hid0
       have hqr := HRM2.out n hn
       have hkk : k < 12 := by omega
       by_cases hhold : qk[n].f1 = 0
       ·have hhb : (qk[n].f1 != 0) = false := by simpa using hhold
        by_cases hdead : qk[n].f3 = true
        ·have HFA : Hid ((aq.take (k + 1)).foldl (grant1 now) (l1, q, ev0) = (lk.set i { lk[i] with f3 := 2, f4 := 0 }, qk.set n { qk[n] with f1 := id0, f3 := false }, (ek ++ [⟨now, 7, id0, 0⟩]) ++ [⟨now, 6, id0, (n : Int) + 1⟩])) := Lib.hid (by rw [HFS.out, HFS2.out, if_neg (by simp [hhold]), if_pos hdead])
         clear HFS HFS2
         rw [hdead] at k3
         go_upto_region 26 with fail
         have HX8 : Hid (w3.heap[w.heap.size]? = some (.cells #[.int .i64 M, .int .i64 now, .slice (some ⟨g, 0, none⟩) l.length o.c, .slice o.A2 q.length o.c2, .slice A4 0 c4] 47 (0, 0))) := Lib.hid (by rw [← HG.out]; exact HL3.out.X)
         have hid8 := r0
         have HE8 := Lib.hid HL3.out.E
         have hszX : wN.heap.size ≤ w3.heap.size := Nat.le_trans hsz2 hsz3
         clear r0 r7 r8 k0 k1 k2 k3 hfr hfl hhold HR3 HRL3
         refine start_ (n := 10) (S := fun w' => Hid (w'.heap[w.heap.size]? = some (.cells #[.int .i64 M, .int .i64 now, .slice (some ⟨g, 0, none⟩) l.length o.c, .slice o.A2 q.length o.c2, .slice A4 0 c4] 47 (0, 0))) ∧ w'.cell? ⟨g, i * 11, none⟩ = some (.int .i64 id0) ∧ Hid ((Kd.raw 4).R 67 w' wN.heap.size (fun _ => True) u4 (ek.map Ev.cells)) ∧ Hid (Below w3.drew.heap.size w3.drew w')) (ds := [8]) #[false, false, false, false, false, false, false, false, false, false] (by kernel_rfl) rfl rfl ⟨(Lib.hid (show w3.drew.heap[w.heap.size]? = _ from HX8.out)), (show w3.drew.cell? _ = _ from hid8), (Lib.hid (Kd.R_drew HE8.out)), (Lib.hid (Below.refl w3.drew.heap.size w3.drew))⟩ (fun hHeld => ?_)
         refine with_tabW setl.tab26 setl.bits26 (fun HT_ HW_ => ?_)
         have hbd : Hid (Below w3.heap.size w3 w3.drew) := Lib.hid ⟨rfl, rfl, rfl, Nat.le_refl _, fun _ _ => rfl⟩
         have hsd : w3.heap.size = w3.drew.heap.size := rfl
         generalize hwd : w3.drew = wd at *
         clear hwd
         refine pst (i := 0) (N := some 128) HT_ (h := ?_)
         refine pst (i := 2) (N := some 130) HT_ (h := ?_)
         refine pst (i := 3) (N := some 131) HT_ (h := ?_)
         refine pst (i := 4) (N := some 132) HT_ (h := ?_)
         refine tst (i := 1) (N := some 129) HT_ HW_ hHeld (hy := by (rintro w' ⟨s0, s1, s2, s3⟩; have e0 := (blk_cell s0.out 0).trans rfl; have e1 := (blk_cell s0.out 1).trans rfl; have e2 := (blk_cell s0.out 2).trans rfl; have e3 := (blk_cell s0.out 3).trans rfl; have e4 := (blk_cell s0.out 4).trans rfl; clear s0); go_simp; with_reducible rfl) (h := ?_)
         refine tst (i := 5) (N := some 133) HT_ HW_ hHeld (hy := by (rintro w' ⟨s0, s1, s2, s3⟩; have e0 := (blk_cell s0.out 0).trans rfl; have e1 := (blk_cell s0.out 1).trans rfl; have e2 := (blk_cell s0.out 2).trans rfl; have e3 := (blk_cell s0.out 3).trans rfl; have e4 := (blk_cell s0.out 4).trans rfl; clear s0); go_simp; with_reducible rfl) (h := ?_)
         refine one_ (i := 6) (N := some 134) #[true, true, true, true, true, true, true, false, false, false] rfl rfl (one_of HT_.out (by kernel_rfl)) (by decide) (fun K hK => ?_)
         refine goes_ Tryz.func28 (by kernel_rfl) rfl #[stV M now (some ⟨g, 0, none⟩) l.length o.c o.A2 q.length o.c2 A4 c4, .int .i64 7, .int .i64 id0, .int .i64 0] (by rfl) rfl rfl (by simp only [List.map_toArray, List.map_cons, List.map_nil]; rfl) ?_
         with_reducible refine (event_calls M now _ _ _ _ _ _ _ _ 7 id0 0 _).mono ?_
         rintro e w9 ⟨rfl, hB9⟩
         refine ⟨_, rfl, ?_⟩
         refine hK.out _ _ ⟨(Lib.hid (blk_below hHeld.1.out hB9)), ((hB9.cell (World.block_lt_of_cell? _ _ hHeld.2.1)).trans hHeld.2.1), (Lib.hid (Kd.R_below hHeld.2.2.1.out hB9)), (Lib.hid (hHeld.2.2.2.out.trans (hB9.mono hHeld.2.2.2.out.size)))⟩ (fun hHeld => ?_)
         clear hK K
         refine norm_ (a' := ?_) ?_ ?_
         rotate_left
         ·show Act.put _ (some 134) _ = _
          simp only [Act.put, List.setIfInBounds_toArray, List.set_cons_zero, List.set_cons_succ, i64_w, i32_w]
          rfl
         refine one_ (i := 7) (N := some 135) #[true, true, true, true, true, true, true, true, false, false] rfl rfl (one_of HT_.out (by kernel_rfl)) (by decide) (fun K hK => ?_)
         refine Kd.R_lit_step (Kd.raw 4) (w0 := w9) w9.heap.size 67 (by rfl) (N := 135) rfl (xs := [[.int .i64 now, .int .i64 7, .int .i64 id0, .int .i64 0]]) (inner := [.int .i64 now, .int .i64 7, .int .i64 id0, .int .i64 0]) (ok := fun _ => True) (okp := fun _ => False) ?hr ?hp (fun _ h => h.elim) trivial (Below.refl _ _) (Nat.le_refl _) (by simp) ?_
         (case hr => first | (go_simp; done) | (go_simp; rfl))
         (case hp => exact reps_one)
         intro vL w10 hR10 hB10 _ _
         obtain ⟨AL, cL, eL, hcL, hCL⟩ := Kd.R_reads hR10
         subst eL
         refine hK.out _ _ ⟨(Lib.hid (blk_below hHeld.1.out hB10)), ((hB10.cell (World.block_lt_of_cell? _ _ hHeld.2.1)).trans hHeld.2.1), (Lib.hid (Kd.R_below hHeld.2.2.1.out hB10)), (Lib.hid (hHeld.2.2.2.out.trans (hB10.mono hHeld.2.2.2.out.size)))⟩ (fun hHeld => ?_)
         clear hK K
         refine norm_ (a' := ?_) ?_ ?_
         rotate_left
         ·show Act.put _ (some 135) _ = _
          simp only [Act.put, List.setIfInBounds_toArray, List.set_cons_zero, List.set_cons_succ, i64_w, i32_w]
          rfl
         refine last_ (i := 8) (N := some 136) #[true, true, true, true, true, true, true, true, true, false] rfl rfl (one_of HT_.out (by kernel_rfl)) (by decide) (fun K hK => ?_)
         refine Kd.R_append_rows_step (Kd.raw 4) (Rr := (Kd.raw 4).K w10) (w0 := w10) wN.heap.size (by rfl) (.tmp 128) (.tmp 135) 48 67 (.agg #[.int .i64 0, .int .i64 0, .int .i64 0, .int .i64 0]) 32 rfl Tryz.underlying48 info67 rfl (by decide) (by omega) u4 (ek.map Ev.cells) [[.int .i64 now, .int .i64 7, .int .i64 id0, .int .i64 0]] AL 1 cL (fun _ => True) (fun _ => False) (by rfl) (by rfl) hHeld.2.2.1.out hCL (fun _ _ h => h) (fun _ h => h.elim) (fun _ _ => trivial) (Below.refl _ _) (by have := hHeld.2.2.2.out.size; omega) (by simp only [List.length_map, List.length_append, List.length_cons, List.length_nil]; omega) ?_
         intro vO w11 hR11 hB11 hg11 hat11
         have HR11 := Lib.hid hR11
         have HT11 := Lib.hid (grown_turn hg11)
         have HAT := Lib.hid hat11
         have HB10x := Lib.hid hHeld.2.2.2.out
         have HRin := Lib.hid hHeld.2.2.1.out
         clear hR11 hB11 hg11 hat11
         refine hK.out _ _ ?_
         clear hK K
         refine norm_ (a' := ?_) ?_ ?_
         rotate_left
         ·show Act.put _ (some 136) _ = _
          simp only [Act.put, List.setIfInBounds_toArray, List.set_cons_zero, List.set_cons_succ, i64_w, i32_w]
          rfl
         refine pst (i := 9) (N := some 4) HT_ (h := ?_)
         refine done_ (done_of HT_.out (by kernel_rfl)) ?_
         have HB10 := Lib.hid (hbd.out.trans (HB10x.out.mono hbd.out.size))
         have HLX := Lib.hid (HL3.out.ev HB10.out HT11.out ⟨now, 7, id0, 0⟩ HR11.out HAT.out)
         clear hHeld HT11 HAT HB10x HRin HB10 hbd hsd HL3 HX8 HE8 hid8 hR10 hB10 hB9 hCL hszX HR11
         have hgl := HLX.out.O
         obtain ⟨g9, hg9, hrow9⟩ := hgl.row (by intro e; rw [e] at hil; simp at hil)
         obtain rfl : g = g9 := by have e := HG.out; change o.A = _ at hg9; rw [e] at hg9; injection hg9 with hg9; injection hg9
         obtain ⟨h9, hh9, hlok9⟩ := hgl.lok (by intro e; rw [e] at hn; simp at hn)
         obtain rfl : h = h9 := by have e := HH.out; change o.A2 = _ at hh9; rw [e] at hh9; injection hh9 with hh9; injection hh9
         have HRX := Lib.hid hrow9
         have HRLX := Lib.hid hlok9
         obtain ⟨r0, r1, r2, r3, r4, r5, r6, r7, r8, r9, r10⟩ := serv_at hrow9 hil
         obtain ⟨k0, k1, k2, k3⟩ := lock_at hlok9 hn
         have hfr := fun k => hrow9.free k
         have hfl := fun k => hlok9.free k
         rw [HID.out] at r0
         clear hg9 hh9 hrow9 hlok9 r1 r2 r3 r4 r5 r6 r9 r10 hgl
         go_upto_region 29 with fail
         have HRLa := Lib.hid (lock_set (lock_set HRLX.out (rows_at hn) (j := 1) (by omega) (.int .i64 id0)) (i := n) (List.getElem?_set_self (by rw [rowsOf_len]; exact hn)) (j := 3) (by omega) (.bool false))
         have HTa := Lib.hid (((Turn.refl w11 (fun b => b = h)).set rfl (n * 4 + 1) (.int .i64 id0)).set rfl (n * 4 + 3) (.bool false))
         generalize hwsa : (World.setCell w11 ⟨h, n * 4 + 1, none⟩ (.int .i64 id0)).setCell ⟨h, n * 4 + 3, none⟩ (.bool false) = w12 at *
         have HRb := Lib.hid (serv_set (serv_set (HRX.out.turn HTa.out hgh) (rows_at hil) (j := 7) (by omega) (.int .i64 2)) (i := i) (List.getElem?_set_self (by rw [rowsOf_len]; exact hil)) (j := 8) (by omega) (.int .i64 0))
         have HTb := Lib.hid (((Turn.refl w12 (fun b => b = g)).set rfl (i * 11 + 7) (.int .i64 2)).set rfl (i * 11 + 8) (.int .i64 0))
         generalize hwsb : (World.setCell w12 ⟨g, i * 11 + 7, none⟩ (.int .i64 2)).setCell ⟨g, i * 11 + 8, none⟩ (.int .i64 0) = w13 at *
         clear hwsa hwsb r0 r7 r8 k0 k1 k2 k3 hfr hfl
         have HL12 := Lib.hid (HLX.out.lock0 hn { qk[n] with f1 := id0, f3 := false } rfl HH.out HTa.out (by have := HRLa.out; rw [List.set_set] at this; exact this))
         have HL13 := Lib.hid (HL12.out.serv hil { lk[i] with f3 := 2, f4 := 0 } rfl HG.out HTb.out (by have := HRb.out; rw [List.set_set] at this; exact this))
         have HX8 : Hid (w13.heap[w.heap.size]? = some (.cells #[.int .i64 M, .int .i64 now, .slice (some ⟨g, 0, none⟩) l.length o.c, .slice o.A2 q.length o.c2, .slice A4 0 c4] 47 (0, 0))) := Lib.hid (by rw [← HG.out]; exact HL13.out.X)
         have hid8 : w13.cell? ⟨g, i * 11, none⟩ = some (.int .i64 id0) := by
          have := HRb.out.cell (i := i) (by rw [List.length_set, List.length_set, rowsOf_len]; exact hil) (j := 0) (by omega) (v := .int .i64 id0) (by rw [List.getElem_set_self, ← HID.out]; rfl)
          rwa [Nat.zero_add, Nat.add_zero] at this
         have hsm8 := HSMC.out w13 HL13.out.T
         have HE8 := Lib.hid HL13.out.E
         have hszX : wN.heap.size ≤ w13.heap.size := Nat.le_trans hsz2 HL13.out.T.size
         clear HLX HL12 HRX HRLX HRLa HRb HTa HTb
         refine start_ (n := 14) (S := fun w' => Hid (w'.heap[w.heap.size]? = some (.cells #[.int .i64 M, .int .i64 now, .slice (some ⟨g, 0, none⟩) l.length o.c, .slice o.A2 q.length o.c2, .slice A4 0 c4] 47 (0, 0))) ∧ w'.cell? ⟨g, i * 11, none⟩ = some (.int .i64 id0) ∧ w'.cell? (ad5.add k) = some (.int .i64 ((n : Int) + 1)) ∧ Hid ((Kd.raw 4).R 67 w' wN.heap.size (fun _ => True) vO ((ek ++ [(⟨now, 7, id0, 0⟩ : Ev)]).map Ev.cells)) ∧ Hid (Below w13.drew.heap.size w13.drew w')) (ds := [12]) #[false, false, false, false, false, false, false, false, false, false, false, false, false, false] (by kernel_rfl) rfl rfl ⟨(Lib.hid (show w13.drew.heap[w.heap.size]? = _ from HX8.out)), (show w13.drew.cell? _ = _ from hid8), (show w13.drew.cell? _ = _ from hsm8), (Lib.hid (Kd.R_drew HE8.out)), (Lib.hid (Below.refl w13.drew.heap.size w13.drew))⟩ (fun hHeld => ?_)
         refine with_tabW setl.tab29 setl.bits29 (fun HT_ HW_ => ?_)
         have hbd : Hid (Below w13.heap.size w13 w13.drew) := Lib.hid ⟨rfl, rfl, rfl, Nat.le_refl _, fun _ _ => rfl⟩
         have hsd : w13.heap.size = w13.drew.heap.size := rfl
         generalize hwd : w13.drew = wd at *
         clear hwd
         refine pst (i := 0) (N := some 153) HT_ (h := ?_)
         refine pst (i := 2) (N := some 155) HT_ (h := ?_)
         refine pst (i := 3) (N := some 156) HT_ (h := ?_)
         refine pst (i := 4) (N := some 157) HT_ (h := ?_)
         refine pst (i := 6) (N := some 159) HT_ (h := ?_)
         refine pst (i := 7) (N := some 160) HT_ (h := ?_)
         refine pst (i := 8) (N := some 161) HT_ (h := ?_)
         refine tst (i := 1) (N := some 154) HT_ HW_ hHeld (hy := by (rintro w' ⟨s0, s1, s2, s3, s4⟩; have e0 := (blk_cell s0.out 0).trans rfl; have e1 := (blk_cell s0.out 1).trans rfl; have e2 := (blk_cell s0.out 2).trans rfl; have e3 := (blk_cell s0.out 3).trans rfl; have e4 := (blk_cell s0.out 4).trans rfl; clear s0); go_simp; with_reducible rfl) (h := ?_)
         refine tst (i := 5) (N := some 158) HT_ HW_ hHeld (hy := by (rintro w' ⟨s0, s1, s2, s3, s4⟩; have e0 := (blk_cell s0.out 0).trans rfl; have e1 := (blk_cell s0.out 1).trans rfl; have e2 := (blk_cell s0.out 2).trans rfl; have e3 := (blk_cell s0.out 3).trans rfl; have e4 := (blk_cell s0.out 4).trans rfl; clear s0); go_simp; with_reducible rfl) (h := ?_)
         refine tst (i := 9) (N := some 162) HT_ HW_ hHeld (hy := by (rintro w' ⟨s0, s1, s2, s3, s4⟩; have e0 := (blk_cell s0.out 0).trans rfl; have e1 := (blk_cell s0.out 1).trans rfl; have e2 := (blk_cell s0.out 2).trans rfl; have e3 := (blk_cell s0.out 3).trans rfl; have e4 := (blk_cell s0.out 4).trans rfl; clear s0); go_simp; with_reducible rfl) (h := ?_)
         refine one_ (i := 10) (N := some 163) #[true, true, true, true, true, true, true, true, true, true, true, false, false, false] rfl rfl (one_of HT_.out (by kernel_rfl)) (by decide) (fun K hK => ?_)
         refine goes_ Tryz.func28 (by kernel_rfl) rfl #[stV M now (some ⟨g, 0, none⟩) l.length o.c o.A2 q.length o.c2 A4 c4, .int .i64 6, .int .i64 id0, .int .i64 ((n : Int) + 1)] (by rfl) rfl rfl (by simp only [List.map_toArray, List.map_cons, List.map_nil]; rfl) ?_
         with_reducible refine (event_calls M now _ _ _ _ _ _ _ _ 6 id0 ((n : Int) + 1) _).mono ?_
         rintro e w9 ⟨rfl, hB9⟩
         refine ⟨_, rfl, ?_⟩
         refine hK.out _ _ ⟨(Lib.hid (blk_below hHeld.1.out hB9)), ((hB9.cell (World.block_lt_of_cell? _ _ hHeld.2.1)).trans hHeld.2.1), ((hB9.cell (World.block_lt_of_cell? _ _ hHeld.2.2.1)).trans hHeld.2.2.1), (Lib.hid (Kd.R_below hHeld.2.2.2.1.out hB9)), (Lib.hid (hHeld.2.2.2.2.out.trans (hB9.mono hHeld.2.2.2.2.out.size)))⟩ (fun hHeld => ?_)
         clear hK K
         refine norm_ (a' := ?_) ?_ ?_
         rotate_left
         ·show Act.put _ (some 163) _ = _
          simp only [Act.put, List.setIfInBounds_toArray, List.set_cons_zero, List.set_cons_succ, i64_w, i32_w]
          rfl
         refine one_ (i := 11) (N := some 164) #[true, true, true, true, true, true, true, true, true, true, true, true, false, false] rfl rfl (one_of HT_.out (by kernel_rfl)) (by decide) (fun K hK => ?_)
         refine Kd.R_lit_step (Kd.raw 4) (w0 := w9) w9.heap.size 67 (by rfl) (N := 164) rfl (xs := [[.int .i64 now, .int .i64 6, .int .i64 id0, .int .i64 ((n : Int) + 1)]]) (inner := [.int .i64 now, .int .i64 6, .int .i64 id0, .int .i64 ((n : Int) + 1)]) (ok := fun _ => True) (okp := fun _ => False) ?hr ?hp (fun _ h => h.elim) trivial (Below.refl _ _) (Nat.le_refl _) (by simp) ?_
         (case hr => first | (go_simp; done) | (go_simp; rfl))
         (case hp => exact reps_one)
         intro vL w10 hR10 hB10 _ _
         obtain ⟨AL, cL, eL, hcL, hCL⟩ := Kd.R_reads hR10
         subst eL
         refine hK.out _ _ ⟨(Lib.hid (blk_below hHeld.1.out hB10)), ((hB10.cell (World.block_lt_of_cell? _ _ hHeld.2.1)).trans hHeld.2.1), ((hB10.cell (World.block_lt_of_cell? _ _ hHeld.2.2.1)).trans hHeld.2.2.1), (Lib.hid (Kd.R_below hHeld.2.2.2.1.out hB10)), (Lib.hid (hHeld.2.2.2.2.out.trans (hB10.mono hHeld.2.2.2.2.out.size)))⟩ (fun hHeld => ?_)
         clear hK K
         refine norm_ (a' := ?_) ?_ ?_
         rotate_left
         ·show Act.put _ (some 164) _ = _
          simp only [Act.put, List.setIfInBounds_toArray, List.set_cons_zero, List.set_cons_succ, i64_w, i32_w]
          rfl
         refine last_ (i := 12) (N := some 165) #[true, true, true, true, true, true, true, true, true, true, true, true, true, false] rfl rfl (one_of HT_.out (by kernel_rfl)) (by decide) (fun K hK => ?_)
         refine Kd.R_append_rows_step (Kd.raw 4) (Rr := (Kd.raw 4).K w10) (w0 := w10) wN.heap.size (by rfl) (.tmp 153) (.tmp 164) 48 67 (.agg #[.int .i64 0, .int .i64 0, .int .i64 0, .int .i64 0]) 32 rfl Tryz.underlying48 info67 rfl (by decide) (by omega) vO ((ek ++ [(⟨now, 7, id0, 0⟩ : Ev)]).map Ev.cells) [[.int .i64 now, .int .i64 6, .int .i64 id0, .int .i64 ((n : Int) + 1)]] AL 1 cL (fun _ => True) (fun _ => False) (by rfl) (by rfl) hHeld.2.2.2.1.out hCL (fun _ _ h => h) (fun _ h => h.elim) (fun _ _ => trivial) (Below.refl _ _) (by have := hHeld.2.2.2.2.out.size; omega) (by simp only [List.length_map, List.length_append, List.length_cons, List.length_nil]; omega) ?_
         intro vQ w14 hR11 hB11 hg11 hat11
         have HR11 := Lib.hid hR11
         have HT11 := Lib.hid (grown_turn hg11)
         have HAT := Lib.hid hat11
         have HB10x := Lib.hid hHeld.2.2.2.2.out
         have HRin := Lib.hid hHeld.2.2.2.1.out
         clear hR11 hB11 hg11 hat11
         refine hK.out _ _ ?_
         clear hK K
         refine norm_ (a' := ?_) ?_ ?_
         rotate_left
         ·show Act.put _ (some 165) _ = _
          simp only [Act.put, List.setIfInBounds_toArray, List.set_cons_zero, List.set_cons_succ, i64_w, i32_w]
          rfl
         refine pst (i := 13) (N := some 4) HT_ (h := ?_)
         refine done_ (done_of HT_.out (by kernel_rfl)) ?_
         have HB10 := Lib.hid (hbd.out.trans (HB10x.out.mono hbd.out.size))
         have HL14 := Lib.hid (HL13.out.ev HB10.out HT11.out ⟨now, 6, id0, (n : Int) + 1⟩ HR11.out HAT.out)
         have HRM7 : Hid (∀ n2 (h2 : n2 < (qk.set n { qk[n] with f1 := id0, f3 := false }).length), (qk.set n { qk[n] with f1 := id0, f3 := false })[n2].f2.length ≤ 1000 + (k + 1)) := Lib.hid (fun n2 h2 => by
          rw [List.getElem_set]
          by_cases e : n = n2
          ·rw [if_pos e]
           show qk[n].f2.length ≤ _
           omega
          ·rw [if_neg e]
           have := HRM2.out n2 (by simpa using h2)
           omega)
         clear hHeld HT11 HAT HB10x HRin HB10 hbd hsd HL13 HX8 HE8 hid8 hsm8 hR10 hB10 hB9 hCL
         go_wp2
         go_roundw
         case rel => exact ⟨k + 1, _, _, _, sk, by go_num, by omega, by rw [List.length_set]; exact hlk, by rw [List.length_set]; exact hqk, by (rw [List.length_append]; simp only [List.length_cons, List.length_nil, List.length_append]; omega), HFA, HRM7, HL14⟩
         case measure => first | (simp [intOf]; done) | (simp [intOf]; omega)
        ·have hdf : qk[n].f3 = false := by simpa using hdead
         have HFA : Hid ((aq.take (k + 1)).foldl (grant1 now) (l1, q, ev0) = (lk.set i { lk[i] with f3 := 2, f4 := 0 }, qk.set n { qk[n] with f1 := id0, f3 := false }, ek ++ [⟨now, 6, id0, (n : Int) + 1⟩])) := Lib.hid (by rw [HFS.out, HFS2.out, if_neg (by simp [hhold]), if_neg hdead, List.append_nil])
         have HLX := HL3
         have hszX0 := hsz3
         rw [hdf] at k3
         have k3b := k3
         clear HFS HFS2 hdead hhold r0 r7 r8 k0 k2 hfr hfl HL3 HR3 HRL3
         have hgl := HLX.out.O
         obtain ⟨g9, hg9, hrow9⟩ := hgl.row (by intro e; rw [e] at hil; simp at hil)
         obtain rfl : g = g9 := by have e := HG.out; change o.A = _ at hg9; rw [e] at hg9; injection hg9 with hg9; injection hg9
         obtain ⟨h9, hh9, hlok9⟩ := hgl.lok (by intro e; rw [e] at hn; simp at hn)
         obtain rfl : h = h9 := by have e := HH.out; change o.A2 = _ at hh9; rw [e] at hh9; injection hh9 with hh9; injection hh9
         have HRX := Lib.hid hrow9
         have HRLX := Lib.hid hlok9
         obtain ⟨r0, r1, r2, r3, r4, r5, r6, r7, r8, r9, r10⟩ := serv_at hrow9 hil
         obtain ⟨k0, k1, k2, k3⟩ := lock_at hlok9 hn
         have hfr := fun k => hrow9.free k
         have hfl := fun k => hlok9.free k
         rw [HID.out] at r0
         rw [hdf] at k3
         clear hg9 hh9 hrow9 hlok9 r1 r2 r3 r4 r5 r6 r9 r10 hgl
         go_upto_region 29 with fail
         have HRLa := Lib.hid (lock_set (lock_set HRLX.out (rows_at hn) (j := 1) (by omega) (.int .i64 id0)) (i := n) (List.getElem?_set_self (by rw [rowsOf_len]; exact hn)) (j := 3) (by omega) (.bool false))
         have HTa := Lib.hid (((Turn.refl w3 (fun b => b = h)).set rfl (n * 4 + 1) (.int .i64 id0)).set rfl (n * 4 + 3) (.bool false))
         generalize hwsa : (World.setCell w3 ⟨h, n * 4 + 1, none⟩ (.int .i64 id0)).setCell ⟨h, n * 4 + 3, none⟩ (.bool false) = w12 at *
         have HRb := Lib.hid (serv_set (serv_set (HRX.out.turn HTa.out hgh) (rows_at hil) (j := 7) (by omega) (.int .i64 2)) (i := i) (List.getElem?_set_self (by rw [rowsOf_len]; exact hil)) (j := 8) (by omega) (.int .i64 0))
         have HTb := Lib.hid (((Turn.refl w12 (fun b => b = g)).set rfl (i * 11 + 7) (.int .i64 2)).set rfl (i * 11 + 8) (.int .i64 0))
         generalize hwsb : (World.setCell w12 ⟨g, i * 11 + 7, none⟩ (.int .i64 2)).setCell ⟨g, i * 11 + 8, none⟩ (.int .i64 0) = w13 at *
         clear hwsa hwsb r0 r7 r8 k0 k1 k2 k3 hfr hfl
         have HL12 := Lib.hid (HLX.out.lock0 hn { qk[n] with f1 := id0, f3 := false } rfl HH.out HTa.out (by have := HRLa.out; rw [List.set_set] at this; exact this))
         have HL13 := Lib.hid (HL12.out.serv hil { lk[i] with f3 := 2, f4 := 0 } rfl HG.out HTb.out (by have := HRb.out; rw [List.set_set] at this; exact this))
         have HX8 : Hid (w13.heap[w.heap.size]? = some (.cells #[.int .i64 M, .int .i64 now, .slice (some ⟨g, 0, none⟩) l.length o.c, .slice o.A2 q.length o.c2, .slice A4 0 c4] 47 (0, 0))) := Lib.hid (by rw [← HG.out]; exact HL13.out.X)
         have hid8 : w13.cell? ⟨g, i * 11, none⟩ = some (.int .i64 id0) := by
          have := HRb.out.cell (i := i) (by rw [List.length_set, List.length_set, rowsOf_len]; exact hil) (j := 0) (by omega) (v := .int .i64 id0) (by rw [List.getElem_set_self, ← HID.out]; rfl)
          rwa [Nat.zero_add, Nat.add_zero] at this
         have hsm8 := HSMC.out w13 HL13.out.T
         have HE8 := Lib.hid HL13.out.E
         have hszX : wN.heap.size ≤ w13.heap.size := Nat.le_trans hsz2 HL13.out.T.size
         clear HLX HL12 HRX HRLX HRLa HRb HTa HTb
         refine start_ (n := 14) (S := fun w' => Hid (w'.heap[w.heap.size]? = some (.cells #[.int .i64 M, .int .i64 now, .slice (some ⟨g, 0, none⟩) l.length o.c, .slice o.A2 q.length o.c2, .slice A4 0 c4] 47 (0, 0))) ∧ w'.cell? ⟨g, i * 11, none⟩ = some (.int .i64 id0) ∧ w'.cell? (ad5.add k) = some (.int .i64 ((n : Int) + 1)) ∧ Hid ((Kd.raw 4).R 67 w' wN.heap.size (fun _ => True) u4 (ek.map Ev.cells)) ∧ Hid (Below w13.drew.heap.size w13.drew w')) (ds := [12]) #[false, false, false, false, false, false, false, false, false, false, false, false, false, false] (by kernel_rfl) rfl rfl ⟨(Lib.hid (show w13.drew.heap[w.heap.size]? = _ from HX8.out)), (show w13.drew.cell? _ = _ from hid8), (show w13.drew.cell? _ = _ from hsm8), (Lib.hid (Kd.R_drew HE8.out)), (Lib.hid (Below.refl w13.drew.heap.size w13.drew))⟩ (fun hHeld => ?_)
         refine with_tabW setl.tab29 setl.bits29 (fun HT_ HW_ => ?_)
         have hbd : Hid (Below w13.heap.size w13 w13.drew) := Lib.hid ⟨rfl, rfl, rfl, Nat.le_refl _, fun _ _ => rfl⟩
         have hsd : w13.heap.size = w13.drew.heap.size := rfl
         generalize hwd : w13.drew = wd at *
         clear hwd
         refine pst (i := 0) (N := some 153) HT_ (h := ?_)
         refine pst (i := 2) (N := some 155) HT_ (h := ?_)
         refine pst (i := 3) (N := some 156) HT_ (h := ?_)
         refine pst (i := 4) (N := some 157) HT_ (h := ?_)
         refine pst (i := 6) (N := some 159) HT_ (h := ?_)
         refine pst (i := 7) (N := some 160) HT_ (h := ?_)
         refine pst (i := 8) (N := some 161) HT_ (h := ?_)
         refine tst (i := 1) (N := some 154) HT_ HW_ hHeld (hy := by (rintro w' ⟨s0, s1, s2, s3, s4⟩; have e0 := (blk_cell s0.out 0).trans rfl; have e1 := (blk_cell s0.out 1).trans rfl; have e2 := (blk_cell s0.out 2).trans rfl; have e3 := (blk_cell s0.out 3).trans rfl; have e4 := (blk_cell s0.out 4).trans rfl; clear s0); go_simp; with_reducible rfl) (h := ?_)
         refine tst (i := 5) (N := some 158) HT_ HW_ hHeld (hy := by (rintro w' ⟨s0, s1, s2, s3, s4⟩; have e0 := (blk_cell s0.out 0).trans rfl; have e1 := (blk_cell s0.out 1).trans rfl; have e2 := (blk_cell s0.out 2).trans rfl; have e3 := (blk_cell s0.out 3).trans rfl; have e4 := (blk_cell s0.out 4).trans rfl; clear s0); go_simp; with_reducible rfl) (h := ?_)
         refine tst (i := 9) (N := some 162) HT_ HW_ hHeld (hy := by (rintro w' ⟨s0, s1, s2, s3, s4⟩; have e0 := (blk_cell s0.out 0).trans rfl; have e1 := (blk_cell s0.out 1).trans rfl; have e2 := (blk_cell s0.out 2).trans rfl; have e3 := (blk_cell s0.out 3).trans rfl; have e4 := (blk_cell s0.out 4).trans rfl; clear s0); go_simp; with_reducible rfl) (h := ?_)
         refine one_ (i := 10) (N := some 163) #[true, true, true, true, true, true, true, true, true, true, true, false, false, false] rfl rfl (one_of HT_.out (by kernel_rfl)) (by decide) (fun K hK => ?_)
         refine goes_ Tryz.func28 (by kernel_rfl) rfl #[stV M now (some ⟨g, 0, none⟩) l.length o.c o.A2 q.length o.c2 A4 c4, .int .i64 6, .int .i64 id0, .int .i64 ((n : Int) + 1)] (by rfl) rfl rfl (by simp only [List.map_toArray, List.map_cons, List.map_nil]; rfl) ?_
         with_reducible refine (event_calls M now _ _ _ _ _ _ _ _ 6 id0 ((n : Int) + 1) _).mono ?_
         rintro e w9 ⟨rfl, hB9⟩
         refine ⟨_, rfl, ?_⟩
         refine hK.out _ _ ⟨(Lib.hid (blk_below hHeld.1.out hB9)), ((hB9.cell (World.block_lt_of_cell? _ _ hHeld.2.1)).trans hHeld.2.1), ((hB9.cell (World.block_lt_of_cell? _ _ hHeld.2.2.1)).trans hHeld.2.2.1), (Lib.hid (Kd.R_below hHeld.2.2.2.1.out hB9)), (Lib.hid (hHeld.2.2.2.2.out.trans (hB9.mono hHeld.2.2.2.2.out.size)))⟩ (fun hHeld => ?_)
         clear hK K
         refine norm_ (a' := ?_) ?_ ?_
         rotate_left
         ·show Act.put _ (some 163) _ = _
          simp only [Act.put, List.setIfInBounds_toArray, List.set_cons_zero, List.set_cons_succ, i64_w, i32_w]
          rfl
         refine one_ (i := 11) (N := some 164) #[true, true, true, true, true, true, true, true, true, true, true, true, false, false] rfl rfl (one_of HT_.out (by kernel_rfl)) (by decide) (fun K hK => ?_)
         refine Kd.R_lit_step (Kd.raw 4) (w0 := w9) w9.heap.size 67 (by rfl) (N := 164) rfl (xs := [[.int .i64 now, .int .i64 6, .int .i64 id0, .int .i64 ((n : Int) + 1)]]) (inner := [.int .i64 now, .int .i64 6, .int .i64 id0, .int .i64 ((n : Int) + 1)]) (ok := fun _ => True) (okp := fun _ => False) ?hr ?hp (fun _ h => h.elim) trivial (Below.refl _ _) (Nat.le_refl _) (by simp) ?_
         (case hr => first | (go_simp; done) | (go_simp; rfl))
         (case hp => exact reps_one)
         intro vL w10 hR10 hB10 _ _
         obtain ⟨AL, cL, eL, hcL, hCL⟩ := Kd.R_reads hR10
         subst eL
         refine hK.out _ _ ⟨(Lib.hid (blk_below hHeld.1.out hB10)), ((hB10.cell (World.block_lt_of_cell? _ _ hHeld.2.1)).trans hHeld.2.1), ((hB10.cell (World.block_lt_of_cell? _ _ hHeld.2.2.1)).trans hHeld.2.2.1), (Lib.hid (Kd.R_below hHeld.2.2.2.1.out hB10)), (Lib.hid (hHeld.2.2.2.2.out.trans (hB10.mono hHeld.2.2.2.2.out.size)))⟩ (fun hHeld => ?_)
         clear hK K
         refine norm_ (a' := ?_) ?_ ?_
         rotate_left
         ·show Act.put _ (some 164) _ = _
          simp only [Act.put, List.setIfInBounds_toArray, List.set_cons_zero, List.set_cons_succ, i64_w, i32_w]
          rfl
         refine last_ (i := 12) (N := some 165) #[true, true, true, true, true, true, true, true, true, true, true, true, true, false] rfl rfl (one_of HT_.out (by kernel_rfl)) (by decide) (fun K hK => ?_)
         refine Kd.R_append_rows_step (Kd.raw 4) (Rr := (Kd.raw 4).K w10) (w0 := w10) wN.heap.size (by rfl) (.tmp 153) (.tmp 164) 48 67 (.agg #[.int .i64 0, .int .i64 0, .int .i64 0, .int .i64 0]) 32 rfl Tryz.underlying48 info67 rfl (by decide) (by omega) u4 (ek.map Ev.cells) [[.int .i64 now, .int .i64 6, .int .i64 id0, .int .i64 ((n : Int) + 1)]] AL 1 cL (fun _ => True) (fun _ => False) (by rfl) (by rfl) hHeld.2.2.2.1.out hCL (fun _ _ h => h) (fun _ h => h.elim) (fun _ _ => trivial) (Below.refl _ _) (by have := hHeld.2.2.2.2.out.size; omega) (by simp only [List.length_map, List.length_append, List.length_cons, List.length_nil]; omega) ?_
         intro vQ w14 hR11 hB11 hg11 hat11
         have HR11 := Lib.hid hR11
         have HT11 := Lib.hid (grown_turn hg11)
         have HAT := Lib.hid hat11
         have HB10x := Lib.hid hHeld.2.2.2.2.out
         have HRin := Lib.hid hHeld.2.2.2.1.out
         clear hR11 hB11 hg11 hat11
         refine hK.out _ _ ?_
         clear hK K
         refine norm_ (a' := ?_) ?_ ?_
         rotate_left
         ·show Act.put _ (some 165) _ = _
          simp only [Act.put, List.setIfInBounds_toArray, List.set_cons_zero, List.set_cons_succ, i64_w, i32_w]
          rfl
         refine pst (i := 13) (N := some 4) HT_ (h := ?_)
         refine done_ (done_of HT_.out (by kernel_rfl)) ?_
         have HB10 := Lib.hid (hbd.out.trans (HB10x.out.mono hbd.out.size))
         have HL14 := Lib.hid (HL13.out.ev HB10.out HT11.out ⟨now, 6, id0, (n : Int) + 1⟩ HR11.out HAT.out)
         have HRM7 : Hid (∀ n2 (h2 : n2 < (qk.set n { qk[n] with f1 := id0, f3 := false }).length), (qk.set n { qk[n] with f1 := id0, f3 := false })[n2].f2.length ≤ 1000 + (k + 1)) := Lib.hid (fun n2 h2 => by
          rw [List.getElem_set]
          by_cases e : n = n2
          ·rw [if_pos e]
           show qk[n].f2.length ≤ _
           omega
          ·rw [if_neg e]
           have := HRM2.out n2 (by simpa using h2)
           omega)
         clear hHeld HT11 HAT HB10x HRin HB10 hbd hsd HL13 HX8 HE8 hid8 hsm8 hR10 hB10 hB9 hCL
         go_wp2
         go_roundw
         case rel => exact ⟨k + 1, _, _, _, sk, by go_num, by omega, by rw [List.length_set]; exact hlk, by rw [List.length_set]; exact hqk, by (rw [List.length_append]; simp only [List.length_cons, List.length_nil, List.length_append]; omega), HFA, HRM7, HL14⟩
         case measure => first | (simp [intOf]; done) | (simp [intOf]; omega)
       ·have hhb : (qk[n].f1 != 0) = true := by simpa using hhold
        have HFA : Hid ((aq.take (k + 1)).foldl (grant1 now) (l1, q, ev0) = (lk.set i { lk[i] with f3 := 1 }, qk.set n { qk[n] with f2 := qk[n].f2 ++ [id0] }, ek)) := Lib.hid (by rw [HFS.out, HFS2.out, if_pos hhold])
        clear HFS HFS2 hhold
        go_upto_region 24 with fail
        have HRow4 := Lib.hid (serv_set HR3.out (rows_at hil) (j := 7) (by omega) (.int .i64 1))
        have HT4 := Lib.hid ((Turn.refl w3 (fun b => b = g)).set rfl (i * 11 + 7) (.int .i64 1))
        generalize hws : World.setCell _ _ _ = w4 at *
        clear hws r0 r7 r8 k0 k1 k2 k3 hfr hfl
        have HL4 := Lib.hid (HL3.out.serv hil { lk[i] with f3 := 1 } rfl HG.out HT4.out HRow4.out)
        have HRL4 : Hid (RowAt w4 h 0 4 63 (rowsOf lockRow qk sk)) := Lib.hid (HRL3.out.turn HT4.out hhg)
        have HQN4 : Hid ((Kd.int .i64).R 3 w4 B (fun b => ob (sk n) = some b) (.slice (sk n).1 qk[n].f2.length (sk n).2) qk[n].f2) := Lib.hid (HL4.out.Q n hn)
        have hid4 : w4.cell? ⟨g, i * 11, none⟩ = some (.int .i64 id0) := by
         have := HRow4.out.cell (i := i) (by rw [List.length_set, rowsOf_len]; exact hil) (j := 0) (by omega) (v := .int .i64 id0) (by rw [List.getElem_set_self, ← HID.out]; rfl)
         rwa [Nat.zero_add, Nat.add_zero] at this
        have hhv : ¬ (some h = (Value.slice (sk n).1 qk[n].f2.length (sk n).2).ownBlock) := fun e => (hsq h (ob_own e)).2 rfl
        have hszB : w.heap.size ≤ w4.heap.size := HL4.out.Bl.size
        have hh4 := HRL4.out.lt
        clear HL3 HR3 HRL3 HRow4 HT4
        refine start_ (n := 14) (S := fun w' => w'.cell? ⟨g, i * 11, none⟩ = some (.int .i64 id0) ∧ Hid (RowAt w' h 0 4 63 (rowsOf lockRow qk sk)) ∧ Hid ((Kd.int .i64).R 3 w' B (fun b => ob (sk n) = some b) (.slice (sk n).1 qk[n].f2.length (sk n).2) qk[n].f2) ∧ Hid (Below w4.drew.heap.size w4.drew w')) (ds := [10, 13]) #[false, false, false, false, false, false, false, false, false, false, false, false, false, false] (by kernel_rfl) rfl rfl ⟨(show w4.drew.cell? _ = _ from hid4), (Lib.hid HRL4.out.drew), (Lib.hid (Kd.R_drew HQN4.out)), (Lib.hid (Below.refl w4.drew.heap.size w4.drew))⟩ (fun hHeld => ?_)
        refine with_tabW setl.tab24 setl.bits24 (fun HT_ HW_ => ?_)
        have hbd : Hid (Below w4.heap.size w4 w4.drew) := Lib.hid ⟨rfl, rfl, rfl, Nat.le_refl _, fun _ _ => rfl⟩
        have hsd : w4.heap.size = w4.drew.heap.size := rfl
        generalize hwd : w4.drew = wd at *
        clear hwd
        refine pst (i := 0) (N := some 111) HT_ (h := ?_)
        refine pst (i := 1) (N := some 112) HT_ (h := ?_)
        refine pst (i := 2) (N := some 113) HT_ (h := ?_)
        refine pst (i := 3) (N := some 114) HT_ (h := ?_)
        refine pst (i := 5) (N := some 116) HT_ (h := ?_)
        refine pst (i := 6) (N := some 117) HT_ (h := ?_)
        refine pst (i := 7) (N := some 118) HT_ (h := ?_)
        refine tst (i := 4) (N := some 115) HT_ HW_ hHeld (hy := by (rintro w' ⟨s0, s1, s2, s3⟩; obtain ⟨_, _, y2, _⟩ := lock_at s1.out hn; clear s1 s2 s3); go_simp; with_reducible rfl) (h := ?_)
        refine tst (i := 8) (N := some 119) HT_ HW_ hHeld (hy := by (rintro w' ⟨s0, s1, s2, s3⟩; obtain ⟨_, _, y2, _⟩ := lock_at s1.out hn; clear s1 s2 s3); go_simp; with_reducible rfl) (h := ?_)
        refine one_ (i := 9) (N := some 120) #[true, true, true, true, true, true, true, true, true, true, false, false, false, false] rfl rfl (one_of HT_.out (by kernel_rfl)) (by decide) (fun K hK => ?_)
        refine Kd.R_lit_step (Kd.int .i64) (w0 := wd) wd.heap.size 3 (by rfl) (N := 120) rfl (xs := [id0]) (inner := [.int .i64 id0]) (ok := fun _ => True) (okp := fun _ => False) ?hr ?hp (fun _ h => h.elim) trivial hHeld.2.2.2.out hHeld.2.2.2.out.size (by simp) ?_
        (case hr => first | (go_simp; done) | (go_simp; rfl))
        (case hp => exact reps_int1)
        intro vL w5 hR5 hB5 hg5 _
        obtain ⟨AL, cL, eL, hcL, hCL⟩ := Kd.R_reads hR5
        subst eL
        have hbw5 := Below.trans (Below.refl _ _) (show Below wd.heap.size wd w5 from hB5)
        refine hK.out _ _ ⟨((hB5.cell (World.block_lt_of_cell? _ _ hHeld.1)).trans hHeld.1), (Lib.hid (hHeld.2.1.out.below hB5)), (Lib.hid (Kd.R_below hHeld.2.2.1.out hB5)), (Lib.hid hB5)⟩ (fun hHeld => ?_)
        clear hK K
        refine norm_ (a' := ?_) ?_ ?_
        rotate_left
        ·show Act.put _ (some 120) _ = _
         simp only [Act.put, List.setIfInBounds_toArray, List.set_cons_zero, List.set_cons_succ, i64_w, i32_w]
         rfl
        refine last_ (i := 10) (N := some 121) #[true, true, true, true, true, true, true, true, true, true, true, false, false, false] rfl rfl (one_of HT_.out (by kernel_rfl)) (by decide) (fun K hK => ?_)
        refine Kd.R_append_rows_step (Kd.int .i64) (Rr := (Kd.int .i64).K w5) (w0 := w5) B (by rfl) (.tmp 115) (.tmp 120) 61 3 (.int .i64 0) 8 rfl Tryz.underlying61 info3 rfl (by decide) (by omega) (.slice (sk n).1 qk[n].f2.length (sk n).2) qk[n].f2 [id0] AL 1 cL (fun b => ob (sk n) = some b ∨ w5.heap.size ≤ b) (fun _ => False) (by rfl) (by rfl) (Kd.R_mono hHeld.2.2.1.out (fun b hb => .inl hb)) hCL (fun _ _ h => h) (fun _ h => h.elim) (fun b hb => .inr hb) (Below.refl _ _) (by have := hHeld.2.2.2.out.size; omega) (by omega) ?_
        intro v1 w6 hR6 hB6 hg6 hat6
        obtain ⟨A7, c7, e7, hc7, hC7⟩ := Kd.R_reads hR6
        subst e7
        have HR6 := Lib.hid hR6
        have HT6 := Lib.hid (grown_turn hg6)
        have HC7 := Lib.hid hc7
        have HB5 := Lib.hid hHeld.2.2.2.out
        have HRL6 := Lib.hid (hHeld.2.1.out.turn HT6.out hhv)
        clear hR6 hB6 hg6 hat6 hC7 hc7
        refine hK.out _ _ ?_
        clear hK K
        refine norm_ (a' := ?_) ?_ ?_
        rotate_left
        ·show Act.put _ (some 121) _ = _
         simp only [Act.put, List.setIfInBounds_toArray, List.set_cons_zero, List.set_cons_succ, i64_w, i32_w]
         rfl
        refine pst (i := 11) (N := some 122) HT_ (h := ?_)
        refine pst (i := 12) (N := some 123) HT_ (h := ?_)
        refine last_ (i := 13) (N := none) #[true, true, true, true, true, true, true, true, true, true, true, true, true, true] rfl rfl (one_of HT_.out (by kernel_rfl)) (by decide) (fun K hK => ?_)
        obtain ⟨_, _, y2, _⟩ := lock_at HRL6.out hn
        have y3 := HRL6.out.free (n * 4 + 2)
        refine skip_ (w1 := ?_) (by rfl) rfl ?_ ?_
        rotate_left
        ·go_simp
         rfl
        have HRL7 := Lib.hid (lock_set HRL6.out (rows_at hn) (j := 2) (by omega) (.slice A7 (qk[n].f2.length + 1) c7))
        have HT7 := Lib.hid ((Turn.refl w6 (fun b => b = h)).set rfl (n * 4 + 2) (.slice A7 (qk[n].f2.length + 1) c7))
        clear y2 y3
        generalize hws : World.setCell _ _ _ = w7 at *
        clear hws
        refine hK.out _ _ ?_
        clear hK K
        refine done_ (done_of HT_.out (by kernel_rfl)) ?_
        have hs4 := hbd.out.size
        have hs5 := HB5.out.size
        have hs6 := HT6.out.size
        have HTA : Hid (Turn w4 w7 (fun b => b = h ∨ ({ o with s := sk } : OwnR).own (.q n) = some b)) := Lib.hid ((((Turn.of_below _ hbd.out).trans (Turn.of_below _ HB5.out)).trans (HT6.out.imp (fun b e => .inr (ob_own e)))).trans (HT7.out.imp (fun b e => .inl e)))
        have hokp : ∀ b, ob ((A7, c7) : Ref) = some b → ob (sk n) = some b ∨ w5.heap.size ≤ b := fun b hb => HR6.out.1 b (own_ob hb)
        have HRQ7 : Hid ((Kd.int .i64).R 3 w7 B (fun b => ob ((A7, c7) : Ref) = some b) (.slice A7 (qk[n].f2 ++ [id0]).length c7) (qk[n].f2 ++ [id0])) := Lib.hid (Kd.R_reok rfl (Kd.R_step (Kd.R_tight2 rfl HR6.out) (fun b hb hlt => HT7.out.block b hlt (fun e => by
         rcases hb.2 with e2 | e2
         ·exact (hsq b e2).2 e
         ·omega))) (fun b hb => ob_own hb.symm))
        have HL7 := Lib.hid (HL4.out.que hn { qk[n] with f2 := qk[n].f2 ++ [id0] } (A7, c7) HH.out HTA.out (by have := HRL7.out; rw [show qk[n].f2.length + 1 = (qk[n].f2 ++ [id0]).length by simp] at this; exact this) HC7.out HRQ7.out (fun b hb => by
         rcases hokp b hb with e | e
         ·exact .inl e
         ·exact .inr (by omega)))
        have HRM7 : Hid (∀ n2 (h2 : n2 < (qk.set n { qk[n] with f2 := qk[n].f2 ++ [id0] }).length), (qk.set n { qk[n] with f2 := qk[n].f2 ++ [id0] })[n2].f2.length ≤ 1000 + (k + 1)) := Lib.hid (fun n2 h2 => by
         rw [List.getElem_set]
         by_cases e : n = n2
         ·rw [if_pos e]
          show (qk[n].f2 ++ [id0]).length ≤ _
          rw [List.length_append]
          simp only [List.length_cons, List.length_nil]
          omega
         ·rw [if_neg e]
          have := HRM2.out n2 (by simpa using h2)
          omega)
        clear hHeld HB5 HT6 HT7 HRL6 HRL7 HC7 HR6 hbd hsd HTA HRQ7 HL4 hid4 hokp hCL hR5 hB5 hg5 hbw5 HRL4 HQN4
        go_wp2
        go_roundw
        case rel => exact ⟨k + 1, _, _, ek, upd sk n (A7, c7), by go_num, by omega, by rw [List.length_set]; exact hlk, by rw [List.length_set]; exact hqk, by omega, HFA, HRM7, HL7⟩
        case measure => first | (simp [intOf]; done) | (simp [intOf]; omega)
      ·have hke : k = aq.length := by omega
       subst hke
       rw [List.take_length] at HF
       have HSF : Hid (settleL M now l q = (lk, qk, ek)) := Lib.hid (by rw [HST.out]; exact HF.out)
       have q0 := (blk_cell HL.out.X 0).trans rfl
       have q1 := (blk_cell HL.out.X 1).trans rfl
       have q2 := (blk_cell HL.out.X 2).trans rfl
       have q3 := (blk_cell HL.out.X 3).trans rfl
       have q4 := (blk_cell HL.out.X 4).trans rfl
       have z0 := (blk_cell HL.out.Z 0).trans rfl
       have z1 := (blk_cell HL.out.Z 1).trans rfl
       have z2 := (blk_cell HL.out.Z 2).trans rfl
       have z3 := (blk_cell HL.out.Z 3).trans rfl
       have z4 := (blk_cell HL.out.Z 4).trans rfl
       have f0 := blk_frozen HL.out.Z 0
       have f1 := blk_frozen HL.out.Z 1
       have f2 := blk_frozen HL.out.Z 2
       have f3 := blk_frozen HL.out.Z 3
       have f4 := blk_frozen HL.out.Z 4
       have HZ5 := Lib.hid (blk_put (cs' := #[.int .i64 M, .int .i64 now, .slice o.A l.length o.c, .slice o.A2 q.length o.c2, .slice A4 0 c4]) (blk_put (blk_put (blk_put (blk_put HL.out.Z 0 (.int .i64 M) rfl) 1 (.int .i64 now) rfl) 2 (.slice o.A l.length o.c) rfl) 3 (.slice o.A2 q.length o.c2) rfl) 4 (.slice A4 0 c4) rfl)
       have HT5 := (((((Turn.refl wr (fun k => k = w.heap.size + 1)).set rfl 0 (.int .i64 M)).set rfl 1 (.int .i64 now)).set rfl 2 (.slice o.A l.length o.c)).set rfl 3 (.slice o.A2 q.length o.c2)).set rfl 4 (.slice A4 0 c4)
       go_wp2
       refine bodyPost_ret (results_ct rfl _ _ (w.heap.size + 1) 47 #[.int .i64 M, .int .i64 now, .slice o.A l.length o.c, .slice o.A2 q.length o.c2, .slice A4 0 c4] (0, 0) _ rfl HZ5.out Tryz.underlying47 rfl (by kernel_rfl)) rfl ?_
       generalize hwf : World.setCell _ _ _ = wf at *
       clear hwf q0 q1 q2 q3 q4 z0 z1 z2 z3 z4 f0 f1 f2 f3 f4
       have hd := HSF.out
       unfold SettleP
       rw [hd]
       have hbs := HL.out.Bl.size
       refine ⟨{ o with s := sk }, A4, c4, u4, ?_, HL.out.O.keep HT5 (fun b e => by omega) (fun cc b hc e => by have := HL.out.NB cc b hc; omega), fun cc b hc => by have := HL.out.NB cc b hc; omega, ?_, Turn.below HL.out.Bl HT5 (fun b e => by omega) hbs⟩
       ·rw [← hlk, ← hqk]; rfl
       ·have h5 := Kd.R_step (Kd.R_bound HL.out.E) (fun b hb hlt => HT5.block b hlt (by omega))
        exact Kd.R_lower (Kd.R_reok rfl h5 (fun b hb cc hc => (HL.out.NB cc b hc).2.2 hb)) (by omega)
def runs.T3 : Bool × List (List Nat × List Nat) := (true, [([], []), ([0], [0]), ([1], [1]), ([2], [2]), ([], []), ([4], [4]), ([5], [5]), ([6], [6]), ([7], [7]), ([8], [8]), ([9], [9]), ([10], [10]), ([11], [11]), ([11], [11]), ([3, 0, 1, 2, 3, 4, 5, 6, 7, 8, 9, 10, 11, 12], [3]), ([14, 12, 10, 0, 1, 2, 3, 4, 5, 6, 7, 8, 9, 10, 11, 12], [12, 14])])
def runs.B3 : List Nat := [0, 1, 3, 7, 0, 16, 48, 112, 240, 496, 1008, 2032, 4080, 4080, 8191, 24575]
theorem runs.tab3 : rtab .any (opsOf Tryz.f90 3) = runs.T3 := by kernel_rfl
theorem runs.bits3 : waitsOk runs.T3.2 runs.B3 = true := by kernel_rfl
def runJobs : List S125 → List S125
 | [] => []
 | j :: js => { j with f3 := j.f3 + 1 } :: js
def runV (x : S57) : S57 := { x with f1 := useS x.f1 1, f6 := x.f6 + 1, f2 := if x.f3 = 1 then x.f2 else runJobs x.f2, f4 := if x.f3 = 2 then x.f4 + 1 else x.f4 }
theorem job_at {w : World} {b oo : Nat} {j : S125} {js : List S125} {rr : Nat → Ref} (h : RowAt w b oo 4 125 (rowsOf jobRow (j :: js) rr)) : w.cell? ⟨b, oo, none⟩ = some (.int .i64 j.f0) ∧ w.cell? ⟨b, oo + 1, none⟩ = some (.slice (rr 0).1 j.f1.length (rr 0).2) ∧ w.cell? ⟨b, oo + 2, none⟩ = some (.int .i64 j.f2) ∧ w.cell? ⟨b, oo + 3, none⟩ = some (.int .i64 j.f3) := by
 have H : ∀ (k : Nat), k < 4 → ∀ v, (jobRow j (rr 0))[k]? = some v → w.cell? ⟨b, oo + k, none⟩ = some v := fun k hk v hv => by
  have := h.cell (i := 0) (by rw [rowsOf_len]; simp) (j := k) hk (v := v) (by rw [rowsOf_get (by simp)]; exact hv)
  rwa [Nat.zero_mul, Nat.add_zero] at this
 exact ⟨H 0 (by omega) _ rfl, H 1 (by omega) _ rfl, H 2 (by omega) _ rfl, H 3 (by omega) _ rfl⟩
theorem job_set {w : World} {b oo : Nat} {j : S125} {js : List S125} {rr : Nat → Ref} (h : RowAt w b oo 4 125 (rowsOf jobRow (j :: js) rr)) (v0 v1 v2 v3 : Value) :
  RowAt ((((w.setCell ⟨b, oo, none⟩ v0).setCell ⟨b, oo + 1, none⟩ v1).setCell ⟨b, oo + 2, none⟩ v2).setCell ⟨b, oo + 3, none⟩ v3) b oo 4 125 ((rowsOf jobRow (j :: js) rr).set 0 [v0, v1, v2, v3]) := by
 have hl : 0 < (rowsOf jobRow (j :: js) rr).length := by rw [rowsOf_len]; simp
 have S : ∀ {w : World} {rows : List (List Value)} (h : RowAt w b oo 4 125 rows) {r0 : List Value} (hr : rows[0]? = some r0) {k : Nat} (hk : k < 4) (v : Value), RowAt (w.setCell ⟨b, oo + k, none⟩ v) b oo 4 125 (rows.set 0 (r0.set k v)) := fun {w rows} h {r0} hr {k} hk v => by
  obtain ⟨hi, e⟩ := List.getElem?_eq_some_iff.1 hr
  have := h.set hi hk v
  rw [Nat.zero_mul, Nat.add_zero, e] at this
  exact this
 have h1 := S h (rows_at (f := jobRow) (l := j :: js) (r := rr) (i := 0) (by simp)) (k := 0) (by omega) v0
 have h2 := S h1 (List.getElem?_set_self hl) (k := 1) (by omega) v1
 have h3 := S h2 (List.getElem?_set_self (by simpa using hl)) (k := 2) (by omega) v2
 have h4 := S h3 (List.getElem?_set_self (by simpa using hl)) (k := 3) (by omega) v3
 simp only [List.set_set] at h4
 exact h4
theorem turn_set4 {w w' : World} {S : Nat → Prop} (h : Turn w w' S) {g : Nat} (hg : S g) (a : Nat) (v0 v1 v2 v3 : Value) : Turn w ((((w'.setCell ⟨g, a, none⟩ v0).setCell ⟨g, a + 1, none⟩ v1).setCell ⟨g, a + 2, none⟩ v2).setCell ⟨g, a + 3, none⟩ v3) S :=
 (((h.set hg _ _).set hg _ _).set hg _ _).set hg _ _
theorem Own.cells {w : World} {B : Bd} {l : List S57} {q : List S63} {o : OwnR} {i : Nat} (h : Own w B l q o) (hi : i < l.length) {g : Nat} (hg : o.A = some ⟨g, 0, none⟩) : RowAt w g 0 11 57 (rowsOf servRow l o.r) ∧ ServAt w g i l[i] (o.r i) := by
 obtain ⟨g', hg', hrow⟩ := h.row (by intro e; rw [e] at hi; simp at hi)
 obtain rfl : g = g' := by rw [hg] at hg'; injection hg' with hg'; injection hg'
 exact ⟨hrow, serv_at hrow hi⟩
def RunP (B : Bd) (l : List S57) (q : List S63) (o : OwnR) (i : Nat) (x : S57) (w : World) (e : Ending) (w' : World) : Prop :=
 e = .returned (.tuple #[]) ∧ Own w' B (l.set i x) q o ∧ Turn w w' (fun b => o.own .g = some b ∨ o.own (.j i) = some b)
set_option maxHeartbeats 4000000 in
set_option maxRecDepth 100000 in
theorem run_calls (l : List S57) (q : List S63) (B : Bd) (o : OwnR) (i g : Nat) (w : World) (hO : Own w B l q o) (hi : i < l.length) (hg : o.A = some ⟨g, 0, none⟩) (hc : CbsOk l[i].f1) (hm : l[i].f1.f4 = 1) (hj : ∃ j js, l[i].f2 = j :: js ∧ JobOk j ∧ (l[i].f3 ≠ 1 → j.f3 + 1 ≤ (stepOf j).f1)) (h6 : 0 ≤ l[i].f6 ∧ l[i].f6 ≤ 4611686018427387904) (h4 : 0 ≤ l[i].f4 ∧ l[i].f4 ≤ 4611686018427387904) :
  Calls Tryz.prog 90 #[.pointer (some ⟨g, i * 11, none⟩)] w fun e w' => RunP B l q o i (runV l[i]) w e w' := by
 obtain ⟨j, js, hx, hj, hj2⟩ := hj
 have hb1 : 1 ≤ l[i].f1.f2 := hc.mb hm
 have D := fun wx => use_calls l[i].f1 1 wx hc hm (by omega) hb1
 have hgo : o.own .g = some g := by show o.A.map _ = _; rw [hg]; rfl
 have HJ := Lib.hid hj
 have hw6 : IntKind.i64.wrap (l[i].f6 + 1) = l[i].f6 + 1 := by rw [i64_w]; unfold Go.RowKit.wrap64; omega
 have hw4 : IntKind.i64.wrap (l[i].f4 + 1) = l[i].f4 + 1 := by rw [i64_w]; unfold Go.RowKit.wrap64; omega
 obtain ⟨hrow, hserv⟩ := hO.cells hi hg
 have HO := Lib.hid hO
 have HX : Hid (runV l[i] = { l[i] with f1 := useS l[i].f1 1, f6 := l[i].f6 + 1, f2 := if l[i].f3 = 1 then l[i].f2 else runJobs l[i].f2, f4 := if l[i].f3 = 2 then l[i].f4 + 1 else l[i].f4 }) := Lib.hid rfl
 generalize hu : useS l[i].f1 1 = u at *
 generalize runV l[i] = xx at *
 obtain ⟨r0, r1, r2, r3, r4, r5, r6, r7, r8, r9, r10⟩ := hserv
 have HG := Lib.hid hg
 unfold agg54 at D
 clear hj hO hg hc hm hb1 hu
 go_enter Tryz.func90, Tryz.ntmps90
 go_upto_region 1 with (first | (go_at_call 87; (with_reducible refine (D _).mono ?_); rintro e w1 ⟨rfl, hB1⟩; obtain ⟨s1, s2, s3, s4, s5⟩ := at54 (hrow.below hB1) hi; have hfz := fun k => (hrow.below hB1).free k; have HB1 := Lib.hid hB1; clear hB1))
 have HRow2 := Lib.hid (serv_set54 (hrow.below HB1.out) hi u)
 have HT2 := Lib.hid (turn_set54 (Turn.refl w1 (fun b => b = g)) rfl (i * 11 + 1) (.int .i64 u.f0) (.int .i64 u.f1) (.int .i64 u.f2) (.int .i64 u.f3) (.int .i64 u.f4))
 generalize hws : World.setCell _ _ _ = w2 at *
 clear hws s1 s2 s3 s4 s5 hfz r0 r1 r2 r3 r4 r5 r6 r7 r8 r9 r10 hrow D
 have HO2 := Lib.hid ((HO.out.below HB1.out).serv0 hi { l[i] with f1 := u } rfl HG.out HT2.out HRow2.out)
 have hi1 : i < (l.set i { l[i] with f1 := u }).length := by rw [List.length_set]; exact hi
 obtain ⟨hrow, hserv⟩ := HO2.out.cells hi1 HG.out
 have hx1 : (l.set i { l[i] with f1 := u })[i] = { l[i] with f1 := u } := List.getElem_set_self hi1
 have hfz := hrow.free (i * 11 + 10)
 have r10 := hserv.e10
 rw [hx1] at r10
 dsimp only at r10
 have HRow := Lib.hid hrow
 have HX1 := Lib.hid hx1
 clear hrow hserv hx1 HRow2
 go_upto_region 2 with fail
 have HRow3 := Lib.hid (serv_set HRow.out (rows_at hi1) (j := 10) (by omega) (.int .i64 (l[i].f6 + 1)))
 have HT3 := Lib.hid ((Turn.refl w2 (fun b => b = g)).set rfl (i * 11 + 10) (.int .i64 (l[i].f6 + 1)))
 generalize hws : World.setCell _ _ _ = w3 at *
 clear hws r10 hfz HRow hw6
 have HO3 : Hid (Own w3 B (l.set i { l[i] with f1 := u, f6 := l[i].f6 + 1 }) q o) := Lib.hid (by
  have := HO2.out.serv0 hi1 { l[i] with f1 := u, f6 := l[i].f6 + 1 } (by rw [HX1.out]) HG.out HT3.out (by
   have h := HRow3.out
   rw [HX1.out] at h
   exact h)
  rwa [List.set_set] at this)
 clear HRow3 HO2 HX1 hi1
 have hi1 : i < (l.set i { l[i] with f1 := u, f6 := l[i].f6 + 1 }).length := by rw [List.length_set]; exact hi
 obtain ⟨hrow, hserv⟩ := HO3.out.cells hi1 HG.out
 have hx1 : (l.set i { l[i] with f1 := u, f6 := l[i].f6 + 1 })[i] = { l[i] with f1 := u, f6 := l[i].f6 + 1 } := List.getElem_set_self hi1
 obtain ⟨r0, r1, r2, r3, r4, r5, r6, r7, r8, r9, r10⟩ := hserv
 have HTA : Hid (Turn w w3 (fun b => o.own .g = some b ∨ o.own (.j i) = some b)) := Lib.hid (((Turn.of_below _ HB1.out).trans (HT2.out.imp (fun b e => by rw [e]; exact .inl hgo))).trans (HT3.out.imp (fun b e => by rw [e]; exact .inl hgo)))
 have HRow := Lib.hid hrow
 rw [hx1] at r6 r7 r8
 dsimp only at r6 r7 r8
 rw [hx] at r6
 have HX1 := Lib.hid hx1
 have HX0 := Lib.hid hx
 clear HT2 HT3 HB1 hrow hx1 r0 r1 r2 r3 r4 r5 r9 r10 hx
 by_cases h1 : l[i].f3 = 1
 ·rw [h1] at r7
  have HXX : Hid (xx = { l[i] with f1 := u, f6 := l[i].f6 + 1 }) := Lib.hid (by
   rw [HX.out, if_pos h1, if_neg (by omega)])
  go_wp2
  (try simp only [Exit.inBlock, Exit.then])
  refine bodyPost_ret (results_none rfl _ _ _) rfl ?_
  exact ⟨rfl, by rw [HXX.out]; exact HO3.out, HTA.out⟩
 ·have g1 : (l[i].f3 == 1) = false := by simpa using h1
  have hj3 := hj2 h1
  have hJA := HO3.out.jobs i hi1
  have hJr := hJA.row (by rw [HX1.out]; simp [HX0.out])
  obtain ⟨b, oo, rr, hb, hjrow, hpr⟩ := hJr
  rw [HX1.out] at hjrow hpr
  dsimp only at hjrow hpr
  rw [HX0.out] at hjrow hpr
  rw [hb] at r6
  have HJR := Lib.hid hjrow
  have HPR := Lib.hid hpr
  have HBB := Lib.hid hb
  have hbo : o.own (.j i) = some b := by show ob (o.r i) = _; rw [ob, hb]; rfl
  have hbg : b ≠ g := fun e => by have := HO.out.apart (.j i) .g b hbo (by rw [e]; exact hgo); cases this
  clear hJA hjrow hpr hb hj2
  have hCp : Hid (Kd.C k72 w3 (rr 0).1 j.f1.length j.f1) := Lib.hid ((HPR.out 0 (by simp)).2 w3 (fun _ _ _ => rfl))
  have hlen : (0 : Int) < ((js.length : Int) + 1) := by omega
  have DR := fun wx (hh : Below w3.heap.size w3 wx) => jrun_calls j (rr 0).1 (rr 0).2 1 wx (Kd.C_below hCp.out hh) HJ.out (by omega) (by omega)
  have hl1 : (j :: js).length = js.length + 1 := rfl
  have r6' : w3.drew.cell? ⟨g, i * 11 + 6, none⟩ = some (.slice (some ⟨b, oo, none⟩) (js.length + 1) (o.r i).2) := r6
  obtain ⟨z0, z1, z2, z3⟩ := job_at HJR.out
  go_upto_region 3 with fail
  refine start_ (n := 16) (S := fun w' => Hid (RowAt w' b oo 4 125 (rowsOf jobRow (j :: js) rr)) ∧ w'.cell? ⟨g, i * 11 + 6, none⟩ = some (.slice (some ⟨b, oo, none⟩) (js.length + 1) (o.r i).2) ∧ Hid (Below w3.drew.heap.size w3.drew w')) (ds := [15]) #[false, false, false, false, false, false, false, false, false, false, false, false, false, false, false, false] (by kernel_rfl) rfl rfl ⟨(Lib.hid HJR.out.drew), r6', (Lib.hid (Below.refl w3.drew.heap.size w3.drew))⟩ (fun hHeld => ?_)
  refine with_tabW runs.tab3 runs.bits3 (fun HT_ HW_ => ?_)
  have hbd : Hid (Below w3.heap.size w3 w3.drew) := Lib.hid ⟨rfl, rfl, rfl, Nat.le_refl _, fun _ _ => rfl⟩
  have hsd : w3.heap.size = w3.drew.heap.size := rfl
  generalize hwd : w3.drew = wd at *
  clear hwd
  refine pst (i := 0) (N := some 26) HT_ (h := ?_)
  refine pst (i := 1) (N := some 27) HT_ (h := ?_)
  refine pst (i := 2) (N := some 28) HT_ (h := ?_)
  refine pst (i := 4) (N := some 30) HT_ (h := ?_)
  refine pst (i := 5) (N := some 31) HT_ (h := ?_)
  refine pst (i := 6) (N := some 32) HT_ (h := ?_)
  refine tst (i := 3) (N := some 29) HT_ HW_ hHeld (hy := by (rintro w' ⟨s0, s1, s2⟩; obtain ⟨e0, e1, e2, e3⟩ := job_at s0.out); go_simp; with_reducible rfl) (h := ?_)
  refine tst (i := 7) (N := some 33) HT_ HW_ hHeld (hy := by (rintro w' ⟨s0, s1, s2⟩; obtain ⟨e0, e1, e2, e3⟩ := job_at s0.out); go_simp; with_reducible rfl) (h := ?_)
  refine pst (i := 8) (N := some 34) HT_ (h := ?_)
  refine tst (i := 9) (N := some 35) HT_ HW_ hHeld (hy := by (rintro w' ⟨s0, s1, s2⟩; obtain ⟨e0, e1, e2, e3⟩ := job_at s0.out); go_simp; with_reducible rfl) (h := ?_)
  refine one_ (i := 10) (N := some 36) #[true, true, true, true, true, true, true, true, true, true, true, false, false, false, false, false] rfl rfl (one_of HT_.out (by kernel_rfl)) (by decide) (fun K hK => ?_)
  refine goes_ Tryz.func88 (by kernel_rfl) rfl #[.agg #[.int .i64 j.f0, .slice (rr 0).1 j.f1.length (rr 0).2, .int .i64 j.f2, .int .i64 j.f3], .int .i64 1] (by rfl) rfl rfl (by simp only [List.map_toArray, List.map_cons, List.map_nil]; rfl) ?_
  with_reducible refine (DR _ (hbd.out.trans (hHeld.2.2.out.mono hbd.out.size))).mono ?_
  rintro e w5 ⟨rfl, hB5⟩
  refine ⟨_, rfl, ?_⟩
  refine hK.out _ _ ⟨(Lib.hid (hHeld.1.out.below hB5)), ((hB5.cell (World.block_lt_of_cell? _ _ hHeld.2.1)).trans hHeld.2.1), (Lib.hid (hHeld.2.2.out.trans (hB5.mono hHeld.2.2.out.size)))⟩ (fun hHeld => ?_)
  clear hK K
  refine norm_ (a' := ?_) ?_ ?_
  rotate_left
  ·show Act.put _ (some 36) _ = _
   simp only [Act.put, List.setIfInBounds_toArray, List.set_cons_zero, List.set_cons_succ, i64_w, i32_w]
   rfl
  refine pst (i := 11) (N := some 25) HT_ (h := ?_)
  refine pst (i := 12) (N := some 37) HT_ (h := ?_)
  refine pst (i := 13) (N := some 38) HT_ (h := ?_)
  refine pst (i := 14) (N := some 39) HT_ (h := ?_)
  refine last_ (i := 15) (N := none) #[true, true, true, true, true, true, true, true, true, true, true, true, true, true, true, true] rfl rfl (one_of HT_.out (by kernel_rfl)) (by decide) (fun K hK => ?_)
  obtain ⟨x0, x1, x2, x3⟩ := job_at hHeld.1.out
  have y := hHeld.1.out.free
  refine skip_ (w1 := ?_) (by rfl) rfl ?_ ?_
  rotate_left
  ·go_simp
   rfl
  have HJ7 := Lib.hid (job_set hHeld.1.out (.int .i64 j.f0) (.slice (rr 0).1 j.f1.length (rr 0).2) (.int .i64 j.f2) (.int .i64 (j.f3 + 1)))
  have HT7 := Lib.hid (turn_set4 (Turn.refl w5 (fun k => k = b)) rfl oo (.int .i64 j.f0) (.slice (rr 0).1 j.f1.length (rr 0).2) (.int .i64 j.f2) (.int .i64 (j.f3 + 1)))
  clear x0 x1 x2 x3 y
  generalize hws : World.setCell _ _ _ = w7 at *
  clear hws
  refine hK.out _ _ ?_
  clear hK K
  refine done_ (done_of HT_.out (by kernel_rfl)) ?_
  have HB5 := Lib.hid (hbd.out.trans (hHeld.2.2.out.mono hbd.out.size))
  have HO7 : Hid (Own w7 B (l.set i { l[i] with f1 := u, f6 := l[i].f6 + 1, f2 := { j with f3 := j.f3 + 1 } :: js }) q o) := Lib.hid (by
   have h5 := HO3.out.below HB5.out
   have hpr5 : Progs w5 B (j :: js) rr := fun k hk => ⟨(HPR.out k hk).1, fun W' hW => (HPR.out k hk).2 W' (fun b hb hlt => (hW b hb (Nat.lt_of_lt_of_le hlt HB5.out.size)).trans (HB5.out.block b hlt))⟩
   have := h5.job hi1 (j := j) (js := js) (j' := { j with f3 := j.f3 + 1 }) (by rw [HX1.out]; exact HX0.out) rfl HBB.out hpr5 HT7.out HJ7.out
   rw [HX1.out, List.set_set] at this
   exact this)
  have HTB : Hid (Turn w w7 (fun b => o.own .g = some b ∨ o.own (.j i) = some b)) := Lib.hid ((HTA.out.trans (Turn.of_below _ HB5.out)).trans (HT7.out.imp (fun k e => by rw [e]; exact .inr hbo)))
  clear hHeld hB5 HB5 hbd hsd HT7 HJ7 HTA HO3 HJR HPR HBB hi1 HX1 r6 r6' r7 r8 z0 z1 z2 z3 DR hCp hlen hl1
  have hi1 : i < (l.set i { l[i] with f1 := u, f6 := l[i].f6 + 1, f2 := { j with f3 := j.f3 + 1 } :: js }).length := by rw [List.length_set]; exact hi
  obtain ⟨hrow, hserv⟩ := HO7.out.cells hi1 HG.out
  have hx1 : (l.set i { l[i] with f1 := u, f6 := l[i].f6 + 1, f2 := { j with f3 := j.f3 + 1 } :: js })[i] = { l[i] with f1 := u, f6 := l[i].f6 + 1, f2 := { j with f3 := j.f3 + 1 } :: js } := List.getElem_set_self hi1
  have r7 := hserv.e7
  have r8 := hserv.e8
  rw [hx1] at r7 r8
  dsimp only at r7 r8
  have HRow := Lib.hid hrow
  have hfz := hrow.free (i * 11 + 8)
  have HX1 := Lib.hid hx1
  clear hrow hserv hx1
  by_cases h2 : l[i].f3 = 2
  ·have g2 : (l[i].f3 == 2) = true := by simpa using h2
   go_wp2
   go_end0
   have HRow8 := serv_set HRow.out (rows_at hi1) (j := 8) (by omega) (.int .i64 (l[i].f4 + 1))
   have HT8 := ((Turn.refl w7 (fun b => b = g)).set rfl (i * 11 + 8) (.int .i64 (l[i].f4 + 1)))
   have := HO7.out.serv0 hi1 { l[i] with f1 := u, f6 := l[i].f6 + 1, f2 := { j with f3 := j.f3 + 1 } :: js, f4 := l[i].f4 + 1 } (by rw [HX1.out]) HG.out HT8 (by
    rw [HX1.out] at HRow8
    exact HRow8)
   rw [List.set_set] at this
   refine ⟨rfl, ?_, HTB.out.trans (HT8.imp (fun k e => by rw [e]; exact .inl hgo))⟩
   rw [HX.out, if_neg h1, if_pos h2, HX0.out]
   exact this
  ·have g2 : (l[i].f3 == 2) = false := by simpa using h2
   go_wp2
   go_end0
   refine ⟨rfl, ?_, HTB.out⟩
   rw [HX.out, if_neg h1, if_neg h2, HX0.out]
   exact HO7.out
end Go.Proofs.YtfimkmlgnmaopaaGreat.Top
