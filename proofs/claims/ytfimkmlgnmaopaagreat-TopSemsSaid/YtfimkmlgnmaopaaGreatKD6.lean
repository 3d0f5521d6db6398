/- Part 6 of what is proved of the functions that the law reaches (contracts of functions, plain laws): no condition but those that each theorem names. -/
import Derived.Test.YtfimkmlgnmaopaaGreatKD5
namespace Go.Proofs.YtfimkmlgnmaopaaGreat.Top
set_option maxHeartbeats 40000000
set_option maxRecDepth 100000
open Go.RowKit Go.Proofs.YtfimkmlgnmaopaaGreatW.PrintWords Go.Proofs.YtfimkmlgnmaopaaGreatW.PrintLast Go.Proofs.YtfimkmlgnmaopaaGreatW.PrintMore Go.Proofs.YtfimkmlgnmaopaaGreat.PTopNames
set_option linter.unusedVariables false
set_option linter.unusedSimpArgs false
theorem hZ {p : Prop} (h : p) : Hid p := h
def tick.T19 : Bool × List (List Nat × List Nat) := (true, [([], []), ([0], [0]), ([], []), ([1, 2], [1, 2]), ([], []), ([4], [4]), ([], []), ([5, 6], [5, 6]), ([3, 7], [3, 7]), ([8], [8]), ([0, 1, 2, 3, 4, 5, 6, 7, 8, 9], []), ([10, 9, 9, 0, 1, 2, 3, 4, 5, 6, 7, 8, 9], [9, 10])])
def tick.B19 : List Nat := [0, 1, 0, 7, 0, 16, 0, 112, 255, 511, 1023, 2047]
theorem tick.tab19 : rtab .any (opsOf Tryz.f61 19) = tick.T19 := by kernel_rfl
theorem tick.bits19 : waitsOk tick.T19.2 tick.B19 = true := by kernel_rfl
def TickP (M now : Int) (l : List S57) (q : List S63) (B : Bd) (w : World) (e : Ending) (w' : World) : Prop :=
 ∃ o A4 c4 v, e = .returned (.tuple #[stV M (now + 1) o.A (tickL M now l q).1.length o.c o.A2 (tickL M now l q).2.1.length o.c2 A4 c4, v, .int .i64 0]) /\ Own w' B (tickL M now l q).1 (tickL M now l q).2.1 o /\ (∀ c b, o.own c = some b -> w.heap.size <= b) /\ (Kd.raw 4).R 67 w' w.heap.size (fun b => ∀ c, o.own c ≠ some b) v ((tickL M now l q).2.2.map Ev.cells) /\ Below w.heap.size w w'
theorem two_nil (w : World) (A A' : Option Addr) (c c' : Nat) : ∀ k, k < 2 -> ∃ B d, (w.alloc (.cells #[.slice A 0 c, .slice A' 0 c'] 45)).cell? ((⟨w.heap.size, 0, none⟩ : Addr).add k) = some (.slice B 0 d) := by
 intro k hk;rw [addr_at, Nat.zero_add, blk_cell (blk_new w _) k]
 match k, hk with
 | 0, _ => exact ⟨_, _, rfl⟩
 | 1, _ => exact ⟨_, _, rfl⟩
theorem tick_calls (M now : Int) (A : Option Addr) (l : List S57) (c : Nat) (A2 : Option Addr) (q : List S63) (c2 : Nat) (A3 : Option Addr) (c3 : Nat) (B : Bd) (w : World) (hw : B.n <= w.heap.size) (hr : Rd w B A l A2 q) (hk : TickOk M now l q) :
  Calls Tryz.prog 61 #[stV M now A l.length c A2 q.length c2 A3 c3] w fun e w' => TickP M now l q B w e w' := by
 have DS := fun wx (hb : Below w.heap.size w wx) => settle_calls M now A l c A2 q c2 A3 c3 B wx (Nat.le_trans hw hb.size) (hr.below hb) hk.ok
 have hCw := hw;have hnow1 := hk.ok.now1;have hnow0 := hk.ok.now0;have hgeq : decide (now >= 4611686018427387904) = false := by simp; omega
 have hwn : IntKind.i64.wrap (now + 1) = now + 1 := by rw [i64_w]; unfold Go.RowKit.wrap64; omega
 have hsf := settleL_few M now l q hk.ok.sane.len;obtain ⟨_, hsane, hrun, hends⟩ := hk;have HT : Hid (tickL M now l q = ((endAll (now + 1) (runAll (settleL M now l q).1 (placesOf M (settleL M now l q).1)) (settleL M now l q).2.1 (placesOf M (settleL M now l q).1)).1, (endAll (now + 1) (runAll (settleL M now l q).1 (placesOf M (settleL M now l q).1)) (settleL M now l q).2.1 (placesOf M (settleL M now l q).1)).2.1, (settleL M now l q).2.2 ++ (endAll (now + 1) (runAll (settleL M now l q).1 (placesOf M (settleL M now l q).1)) (settleL M now l q).2.1 (placesOf M (settleL M now l q).1)).2.2)) := hZ rfl;unfold TickP;unfold SettleP at DS;generalize tickL M now l q = fin at *;obtain ⟨⟨l1, q1, ev1⟩, hst⟩ : ∃ s, settleL M now l q = s := ⟨_, rfl⟩;rw [hst] at hsane hrun hends hsf HT DS;dsimp only at hsane hrun hends hsf HT DS;clear hst;obtain ⟨ps, hps⟩ : ∃ ps, placesOf M l1 = ps := ⟨_, rfl⟩;have hpl : ps.length <= 12 := by rw [<- hps]; exact places_len hsane.len
 have hnd : ps.Nodup := by rw [<- hps]; exact places_nodup hsane.sorted
 have hpa : ∀ k (h : k < ps.length), ∃ (h1 : k < (runsL M l1).length) (h2 : ps[k] < l1.length), l1[ps[k]].f0 = (runsL M l1)[k] := by
  subst hps;intro k h;obtain ⟨h1, h2, h3, _⟩ := places_at hsane.sorted h;exact ⟨h1, h2, h3⟩
 have hil : (runsL M l1).length = ps.length := by rw [<- hps]; unfold placesOf; simp
 rw [hps] at hrun hends HT;have DR := fun wx (o : OwnR) A4 c4 (hw : Kd.C k57 wx o.A l1.length l1) => runs_calls M now o.A o.c l1 (.slice o.A2 q1.length o.c2) A4 c4 wx hw hsane ⟨_, _, _, rfl⟩ (rank_lt (by have := hsane.m1; omega) (by have := readyL_sorted hsane.sorted; rw [List.nodup_iff_pairwise_ne]; exact this.imp (fun h => by omega)))
 rw [hil] at DR;have hsort := hsane.sorted;have hl12 := hsane.len;have HRUN := hZ hrun;have HENDS := hZ hends;have HPA := hZ hpa;have HND := hZ hnd;have HSRT := hZ hsort;generalize runsL M l1 = ids at *;clear hr hps hsane hrun hends hpa hnd hsort hw;unfold stV at *;go_enter Tryz.func61, Tryz.ntmps61
 go_upto_region 4 with (first | (go_at_call 12; (with_reducible refine (DS _ (below_alloc (below_alloc (Below.refl _ _) _) _)).mono ?_); rintro e w1 ⟨o, A4, c4, vE, rfl, hO1, hown1, hR1, hB1⟩; obtain ⟨hx, hz, hs⟩ := two_blocks hB1; have HO1 := hZ hO1; have HR1 := hZ hR1; have HX1 := hZ hx; have HZ1 := hZ hz; have HBW1 := hZ ((below_alloc (below_alloc (Below.refl w.heap.size w) _) _).trans (hB1.mono (by simp; omega))); have e0 := (blk_cell hx 0).trans rfl; have e1 := (blk_cell hx 1).trans rfl; have e2 := (blk_cell hx 2).trans rfl; have e3 := (blk_cell hx 3).trans rfl; have e4 := (blk_cell hx 4).trans rfl; have f0 := blk_frozen hx 0; have f1 := blk_frozen hx 1; have f2 := blk_frozen hx 2; have f3 := blk_frozen hx 3; have f4 := blk_frozen hx 4; clear hO1 hR1 hB1 hx hz))
 have hownB : ∀ cc b, o.own cc = some b -> w.heap.size + 1 < b := fun cc b h => by have := hown1 cc b h; simp only [World.size_alloc] at this; omega
 have HX2 := hZ (blk_put (cs' := #[.int .i64 M, .int .i64 now, .slice o.A l1.length o.c, .slice o.A2 q1.length o.c2, .slice A4 0 c4]) (blk_put (blk_put (blk_put (blk_put HX1.out 0 (.int .i64 M) rfl) 1 (.int .i64 now) rfl) 2 (.slice o.A l1.length o.c) rfl) 3 (.slice o.A2 q1.length o.c2) rfl) 4 (.slice A4 0 c4) rfl);have HT2 := (((((Turn.refl w1 (fun b => b = w.heap.size)).set rfl 0 (.int .i64 M)).set rfl 1 (.int .i64 now)).set rfl 2 (.slice o.A l1.length o.c)).set rfl 3 (.slice o.A2 q1.length o.c2)).set rfl 4 (.slice A4 0 c4);generalize hws : World.setCell _ _ _ = w2 at *;clear hws e0 e1 e2 e3 e4 f0 f1 f2 f3 f4;have HO2 := hZ (HO1.out.keep HT2 (fun b hb => by omega) (fun cc b hc hb => by have := hownB cc b hc; omega));have hvb := Kd.R_base HR1.out;have hvo := HR1.out.1;simp only [World.size_alloc] at hvb;have HR2 := hZ (Kd.R_step (Kd.R_tight rfl HR1.out) (fun b hb hlt => HT2.block b hlt (fun e => by have := hvb b hb.symm; omega)));have HZ2 := hZ ((HT2.block (w.heap.size + 1) (by have := blk_lt HZ1.out; omega) (by omega)).trans HZ1.out);have HB2 : Hid (Below w.heap.size w w2) := hZ (Turn.below HBW1.out HT2 (fun b hb => by omega) HBW1.out.size);have HOB := hZ hownB;have HVB := hZ hvb;have HVO := hZ hvo;clear HO1 HR1 HX1 HZ1 HBW1 HT2 hownB hvb hvo DS hs hown1;have x0 := (blk_cell HX2.out 0).trans rfl;have x1 := (blk_cell HX2.out 1).trans rfl;have x2 := (blk_cell HX2.out 2).trans rfl;have x3 := (blk_cell HX2.out 3).trans rfl;have x4 := (blk_cell HX2.out 4).trans rfl;have DR := DR w2 o A4 c4 HO2.out.reads
 go_wp2_with (first | (go_at_call 57; (with_reducible refine DR.mono ?_); rintro e w3 ⟨A5, c5, rfl, hc5, hC5, hb5, hB3⟩; have HC5 := hZ hC5; have HB5 := hZ hb5; have HB3 := hZ hB3; clear hC5 hb5 hB3))
 have HTR0 : Hid (Tr w.heap.size w3.heap.size B #[.int .i64 M, .int .i64 now, .slice o.A l1.length o.c, .slice o.A2 q1.length o.c2, .slice A4 0 c4] #[.int .i64 0, .int .i64 0, .slice none 0 0, .slice none 0 0, .slice none 0 0] o A5 ids w l1 q1 ev1 vE (.slice none 0 0) [] w3) := hZ (by
  have hs3 := HB3.out.size;refine ⟨blk_below HX2.out HB3.out, blk_below HZ2.out HB3.out, HO2.out.below HB3.out, Kd.R_reok rfl (Kd.R_lower (Kd.R_below HR2.out HB3.out) (by simp only [World.size_alloc]; omega)) (fun _ _ => trivial), fun b hb => ⟨by have := HVB.out b hb; omega, Nat.lt_of_lt_of_le (Kd.R_lt HR2.out b hb) hs3, HVO.out b hb⟩, fun k hk => ?_, fun ad e hne => ⟨fun cc hc => ?_, ?_⟩, Kd.R_nil _ _ _ _ _, fun cc b hc => ⟨HOB.out cc b hc, Nat.lt_of_lt_of_le (HO2.out.bnd cc b hc).2 hs3⟩, HB2.out.trans (HB3.out.mono HB2.out.size), rfl, hCw, by have := blk_lt HZ2.out; omega, Nat.le_refl _⟩
  ·have h5 := HC5.out;rw [<- hil] at h5;exact int_at h5 hk
  ·have := HB5.out ad e;have := (HO2.out.bnd cc _ hc).2;omega
  ·have h5 := HC5.out;rw [<- hil] at h5;obtain ⟨ad2, e2, hc2⟩ := int_at h5 hne;rw [e] at e2;injection e2 with e2;have := World.block_lt_of_cell? _ _ hc2;rw [add_block] at this;rw [e2];exact this)
 clear HX2 HZ2 HO2 HR2 HB2 HOB HVB HVO x0 x1 x2 x3 x4 DR
 go_loopw [8, 33] (fun v8 v33 wr => ∃ (k : Nat), v33 = .int .i64 k /\ k <= ps.length /\ Hid (Tr w.heap.size w3.heap.size B #[.int .i64 M, .int .i64 now, .slice o.A l1.length o.c, .slice o.A2 q1.length o.c2, .slice A4 0 c4] #[.int .i64 0, .int .i64 0, .slice none 0 0, .slice none 0 0, .slice none 0 0] o A5 ids w (runAll l1 (ps.take k)) q1 ev1 vE v8 ((ps.take k).map fun p : Nat => (p : Int)) wr)) (fun _ v33 _ => ps.length - (intOf v33).toNat)
 case atStart => exact ⟨0, rfl, Nat.zero_le _, HTR0⟩
 case round =>
  obtain ⟨k, rfl, hk, HR⟩ := hrel;by_cases hlt : k < ps.length
  ·obtain ⟨h1, h2, h3⟩ := HPA.out k hlt;obtain ⟨ad5, rfl, b0⟩ := HR.out.I k h1;have hids := runAll_ids (ps.take k) l1;have hra := (HRUN.out _ (List.getElem_mem hlt)).keep (l' := runAll l1 (ps.take k)) (fun g1 => ⟨by rw [hids.len]; exact g1, runAll_keep _ _ (not_mem_take HND.out hlt) g1 _⟩);have HTK := hZ (runAll_take (l := l1) hlt);have hal : ahead (runAll l1 (ps.take k)) ids[k] = ps[k] := by rw [hids.ahead, <- h3]; exact ahead_at HSRT.out h2
   have hia : isAt (runAll l1 (ps.take k)) ids[k] = true := by rw [hids.isAt, <- h3]; exact isAt_at h2
   have hsk := hids.sorted HSRT.out;have hlk := hids.len;have HPS := hZ (show ((ps.take (k + 1)).map fun p : Nat => (p : Int)) = ((ps.take k).map fun p : Nat => (p : Int)) ++ [(ps[k] : Int)] from by rw [List.take_succ_eq_append_getElem hlt, List.map_append]; rfl);have hpk : ((ps.take k).map fun p : Nat => (p : Int)).length <= 12 := by rw [List.length_map, List.length_take]; omega
   generalize runAll l1 (ps.take k) = lk at *;generalize (ps.take k).map (fun p : Nat => (p : Int)) = pk at *;generalize ps[k] = i at *;generalize ids[k] = id at *;obtain ⟨hil1, hcbs, hm1, hjob, h6, h4⟩ := hra;obtain ⟨g, hg, _⟩ := HR.out.O.row (by intro e; rw [e] at hil1; simp at hil1);have HG := hZ hg;have DA := fun wx (hx : Own wx B lk q1 o) => at_calls M now o.A o.c lk (.slice o.A2 q1.length o.c2) (.slice A4 0 c4) id wx hx.reads hsk (by omega) ⟨_, _, _, rfl⟩ ⟨_, _, _, rfl⟩
   have DV := fun wx (hx : Own wx B lk q1 o) => run_calls lk q1 B o i g wx hx hil1 hg hcbs hm1 hjob h6 h4
   rw [hal, hia, hlk] at DA;have HGD := hZ (getD57 hil1);generalize lk[i] = xi at *;rw [hg] at DA;have xb := HR.out.X;have x0 := (blk_cell xb 0).trans rfl;have x1 := (blk_cell xb 1).trans rfl;have x2 := (blk_cell xb 2).trans rfl;have x3 := (blk_cell xb 3).trans rfl;have x4 := (blk_cell xb 4).trans rfl;rw [hg] at x2;clear xb hids hal hia hsk hcbs hm1 hjob h6 h4 hg;have hnn : (0 : Int) <= (i : Int) := by omega
   have hnl : (i : Int) < (l1.length : Int) := by omega
   have k0 : (0 : Int) <= (k : Int) := by omega
   have k1 : (k : Int) < (ps.length : Int) := by omega
   go_wp2_with (first
    | (go_at_call 32; (with_reducible refine (DA _ HR.out.O).mono ?_); rintro e w4 ⟨rfl, hB4⟩; have HR4 := hZ (HR.out.below hB4); clear hB4 x0 x1 x2 x3 x4)
    | ((with_reducible refine gate_builtin (b := .append) (xs := #[.tmp 43, .tmp 45]) rfl ?_); at_builtin; refine Kd.R_append (Kd.int .i64) (w0 := w4) w3.heap.size rfl (.tmp 43) (.tmp 45) 61 3 (.int .i64 0) 8 rfl Tryz.underlying61 info3 rfl (by decide) (by omega) _ pk (i : Int) [.int .i64 i] (fun _ => True) (fun _ => False) rfl (by first | (go_simp; done) | (go_simp; rfl)) ?aP (fun _ hk => hk.elim) ?aF ?aO ?aB ?aS ?aL ?_; (case aP => exact rfl); (case aF => exact (fun _ _ => trivial)); (case aO => exact HR4.out.P); (case aB => exact Below.refl _ _); (case aS => exact HR4.out.N3w); (case aL => omega); intro v5 w5 hR5 hB5 hg5 hat5; have HR5 := hZ (HR4.out.put (grown_turn hg5) hR5); have x2 := (blk_cell HR5.out.X 2).trans rfl; rw [HG.out] at x2; clear hR5 hB5 hg5 hat5)
    | (go_at_call 90; (with_reducible refine (DV _ HR5.out.O).mono ?_); rintro e w6 hP; obtain rfl := hP.1; have HR6 := hZ (HR5.out.run hP); clear hP x2))
   go_roundw
   case rel => exact ⟨k + 1, by go_num, by omega, hZ (by rw [HTK.out, HPS.out, HGD.out]; exact HR6.out)⟩
   case measure => first | (simp [intOf]; done) | (simp [intOf]; omega)
  ·have hke : k = ps.length := by omega
   subst hke;rw [List.take_length] at HR;clear HTR0 HC5 HB5 HRUN HPA HND HSRT;have hlr : (runAll l1 ps).length = l1.length := (runAll_ids ps l1).len;generalize runAll l1 ps = lr at *;obtain ⟨pr, hpr⟩ : ∃ pr, (ps.map fun p : Nat => (p : Int)) = pr := ⟨_, rfl⟩;rw [hpr] at HR;go_wp2
   go_loopw [56] (fun v56 wx => v56 = .int .i64 0 /\ wx = wr) (fun _ _ => 0)
   case atStart => exact ⟨rfl, rfl⟩
   case round =>
    obtain ⟨rfl, rfl⟩ := hrel
    go_upto_region 19 with fail
    have x4 := (blk_cell HR.out.X 4).trans rfl;refine start_ (n := 12) (S := fun w' => Hid (Tr w.heap.size w3.heap.size B #[.int .i64 M, .int .i64 now, .slice o.A l1.length o.c, .slice o.A2 q1.length o.c2, .slice A4 0 c4] #[.int .i64 0, .int .i64 0, .slice none 0 0, .slice none 0 0, .slice none 0 0] o A5 ids w lr q1 ev1 vE u8 pr w')) (ds := [11]) #[false, false, false, false, false, false, false, false, false, false, false, false] (by kernel_rfl) rfl rfl ((hZ (HR.out.below (below_drew (Below.refl _ _))))) (fun hHeld => ?_);refine with_tabW tick.tab19 tick.bits19 (fun HT_ HW_ => ?_);have hbd : Hid (Below wr.heap.size wr wr.drew) := hZ ⟨rfl, rfl, rfl, Nat.le_refl _, fun _ _ => rfl⟩;have hsd : wr.heap.size = wr.drew.heap.size := rfl;generalize hwd : wr.drew = wd at *;clear hwd;refine pst 0 (some 69) HT_ ?_;refine pst 2 (some 71) HT_ ?_;refine pst 4 (some 73) HT_ ?_;refine pst 6 (some 75) HT_ ?_;refine tst 1 (some 70) HT_ HW_ hHeld ?_ (hy := by (intro w' s0; have e4 := (blk_cell s0.out.X 4).trans rfl); go_simp; with_reducible rfl);refine pst 3 (some 72) HT_ ?_;refine tst 5 (some 74) HT_ HW_ hHeld ?_ (hy := by (intro w' s0; have e4 := (blk_cell s0.out.X 4).trans rfl); go_simp; with_reducible rfl);refine pst 7 (some 76) HT_ ?_;refine one_ (i := 8) (N := some 77) #[true, true, true, true, true, true, true, true, true, false, false, false] rfl rfl (one_of HT_.out (by kernel_rfl)) (by decide) (fun K hK => ?_);refine value_ (w1 := ?_) (v := ?_) (by rfl) rfl ?_ ?_;rotate_left 2
    ·go_simp;constructor
     ·rfl
     ·rfl
    refine hK.out _ _ ((hZ (hHeld.out.below (below_alloc (Below.refl _ _) _)))) (fun hHeld => ?_);clear hK K;refine norm_ (a' := ?_) ?_ ?_;rotate_left
    ·show Act.put _ (some 77) _ = _;simp only [Act.put, List.setIfInBounds_toArray, List.set_cons_zero, List.set_cons_succ, i64_w, i32_w];rfl
    refine one_ (i := 9) (N := some 78) #[true, true, true, true, true, true, true, true, true, true, false, false] rfl rfl (one_of HT_.out (by kernel_rfl)) (by decide) (fun K hK => ?_);refine goes_ Tryz.func91 (by kernel_rfl) rfl #[.slice (some ⟨wd.heap.size, 0, none⟩) 2 2] (by rfl) rfl rfl (by simp only [List.map_toArray, List.map_cons, List.map_nil]; rfl) ?_;with_reducible refine (concat_calls _ _ _ (two_nil wd A4 A4 c4 c4)).mono ?_;rintro e w9 ⟨A9, c9, rfl, hB9⟩;refine ⟨_, rfl, ?_⟩;refine hK.out _ _ ((hZ (hHeld.out.below hB9))) (fun hHeld => ?_);clear hK K;refine norm_ (a' := ?_) ?_ ?_;rotate_left
    ·show Act.put _ (some 78) _ = _;simp only [Act.put, List.setIfInBounds_toArray, List.set_cons_zero, List.set_cons_succ, i64_w, i32_w];rfl
    refine pst 10 (some 79) HT_ ?_;refine last_ (i := 11) (N := none) #[true, true, true, true, true, true, true, true, true, true, true, true] rfl rfl (one_of HT_.out (by kernel_rfl)) (by decide) (fun K hK => ?_);have e4 := (blk_cell hHeld.out.X 4).trans rfl;have f4 := blk_frozen hHeld.out.X 4;refine skip_ (w1 := ?_) (by rfl) rfl ?_ ?_;rotate_left
    ·go_simp;rfl
    have HX10 := hZ (blk_put (cs' := #[.int .i64 M, .int .i64 now, .slice o.A l1.length o.c, .slice o.A2 q1.length o.c2, .slice A9 0 c9]) hHeld.out.X 4 (.slice A9 0 c9) rfl);have HT10 := hZ ((Turn.refl w9 (fun k => k = w.heap.size)).set rfl 4 (.slice A9 0 c9));have HR9 := hHeld;clear e4 f4;generalize hws : World.setCell _ _ _ = w10 at *;clear hws;refine hK.out _ _ ?_;clear hK K;refine done_ (done_of HT_.out (by kernel_rfl)) ?_;clear hHeld hB9 hbd hsd x4;have y1 := (blk_cell HX10.out 1).trans rfl;have g1 := blk_frozen HX10.out 1
    go_upto_region 21 with fail
    have HX11 := hZ (blk_put (cs' := #[.int .i64 M, .int .i64 (now + 1), .slice o.A l1.length o.c, .slice o.A2 q1.length o.c2, .slice A9 0 c9]) HX10.out 1 (.int .i64 (now + 1)) rfl);have HT11 := hZ (HT10.out.set rfl 1 (.int .i64 (now + 1)));generalize hws : World.setCell _ _ _ = w11 at *;clear hws y1 g1;obtain ⟨Ap, cp, rfl, hTk⟩ := HR9.out.ends HT11.out HX11.out hpr.symm;have hlt0 : ∀ cc b, o.own cc = some b -> b < w11.heap.size := fun cc b h => (hTk.O.bnd cc b h).2
    have HTK0 : Hid (Tk w.heap.size B #[.int .i64 M, .int .i64 (now + 1), .slice o.A l1.length o.c, .slice o.A2 q1.length o.c2, .slice A9 0 c9] #[.int .i64 0, .int .i64 0, .slice none 0 0, .slice none 0 0, .slice none 0 0] o Ap ps w o (endAll (now + 1) lr q1 (ps.take 0)).1 (endAll (now + 1) lr q1 (ps.take 0)).2.1 (ev1 ++ (endAll (now + 1) lr q1 (ps.take 0)).2.2) vE w11) := hZ (by
     have := hTk;rw [<- List.append_nil ev1] at this;exact this)
    have HLT := hZ hlt0;clear HX10 HT10 HX11 HT11 HR9 hTk hlt0 HR HT_ HW_;go_wp2
    go_loopw [5, 86] (fun v5 v86 wx => ∃ (k : Nat) (o' : OwnR), v86 = .int .i64 k /\ k <= ps.length /\ w11.heap.size <= wx.heap.size /\ Hid (Tk w.heap.size B #[.int .i64 M, .int .i64 (now + 1), .slice o.A l1.length o.c, .slice o.A2 q1.length o.c2, .slice A9 0 c9] #[.int .i64 0, .int .i64 0, .slice none 0 0, .slice none 0 0, .slice none 0 0] o Ap ps w o' (endAll (now + 1) lr q1 (ps.take k)).1 (endAll (now + 1) lr q1 (ps.take k)).2.1 (ev1 ++ (endAll (now + 1) lr q1 (ps.take k)).2.2) v5 wx)) (fun _ v86 _ => ps.length - (intOf v86).toNat)
    case atStart => exact ⟨0, o, rfl, Nat.zero_le _, Nat.le_refl _, HTK0⟩
    case round =>
     obtain ⟨k, o', rfl, hk2, hwx, HK⟩ := hrel;by_cases hlt2 : k < ps.length
     ·obtain ⟨ad, rfl, b0⟩ := HK.out.P k hlt2;have HTK := hZ (endAll_take (now := now + 1) (l := lr) (q := q1) hlt2);have hends := HENDS.out k hlt2;have hlen := endAll_len (now + 1) lr q1 (ps.take k);have hfew := endAll_few (now + 1) lr q1 (ps.take k);have hpt : (ps.take k).length <= 12 := by rw [List.length_take]; omega
      generalize endAll (now + 1) lr q1 (ps.take k) = st at *;obtain ⟨le, qe, ee⟩ := st;dsimp only at *;generalize ps[k] = i at *;have DE := fun wx (hO : Own wx B le qe o') => end_calls M (now + 1) le qe B o' A9 c9 i wx hO hends
      obtain ⟨s1, s2, s3, s4, _⟩ := HK.out.sub;unfold stV at DE;rw [s1, s2, s3, s4, hlen.1, hlen.2, hlr] at DE;have x0 := (blk_cell HK.out.X 0).trans rfl;have x1 := (blk_cell HK.out.X 1).trans rfl;have x2 := (blk_cell HK.out.X 2).trans rfl;have x3 := (blk_cell HK.out.X 3).trans rfl;have x4 := (blk_cell HK.out.X 4).trans rfl;have k0 : (0 : Int) <= (k : Int) := by omega
      have k1 : (k : Int) < (ps.length : Int) := by omega
      have hE4 := endL_few (now + 1) le qe i;generalize hel : endL (now + 1) le qe i = el at *;obtain ⟨lf, qf, ef⟩ := el;dsimp only at *;have HEL := hZ hel;clear hel hends s1 s2 s3 s4
      go_wp2_with (first
       | (go_at_call 92; (with_reducible refine (DE _ HK.out.O).mono ?_); rintro e w12 hd; have hsz12 : wr.heap.size <= w12.heap.size := (by obtain ⟨_, _, _, _, _, _, ht⟩ := hd; exact ht.size); obtain ⟨o2, v2, rfl, hT2, hR2⟩ := HK.out.done hd; have HT12 := hZ hT2; obtain ⟨AL, cL, rfl, hcL, hCL⟩ := Kd.R_reads hR2; rw [List.length_map] at hCL; have HCL := hZ hCL; clear hd hT2 hR2 hCL hcL x0 x1 x2 x3 x4)
       | ((with_reducible refine gate_builtin (b := .append) (xs := #[.tmp 90, .tmp 93]) rfl ?_); at_builtin; refine Kd.R_append_rows (Kd.raw 4) (Rr := (Kd.raw 4).K w12) (okp := fun _ => False) (w0 := w12) w.heap.size rfl (.tmp 90) (.tmp 93) 48 67 (.agg #[.int .i64 0, .int .i64 0, .int .i64 0, .int .i64 0]) 32 rfl Tryz.underlying48 info67 rfl (by decide) (by omega) _ ((ev1 ++ ee).map Ev.cells) (ef.map Ev.cells) AL ef.length cL (fun _ => True) rfl rfl HT12.out.E HCL.out (fun _ _ h => h) (fun _ h => h.elim) (fun _ _ => trivial) (Below.refl _ _) ?aS ?aL ?_; (case aS => (have := blk_lt HT12.out.X; omega)); (case aL => (simp only [List.length_map, List.length_append]; omega)); intro v13 w13 hR13 hB13 hg13 hat13; have hsz13 : w12.heap.size <= w13.heap.size := (grown_turn hg13).size; have HT13 := hZ (HT12.out.ev (grown_turn hg13) hR13 hat13 (fun cc b h => by have := HLT.out cc b h; omega)); clear hR13 hB13 hg13 hat13))
      go_roundw
      case rel => exact ⟨k + 1, o2, by go_num, by omega, by omega, hZ (by
       have hE : endStep (now + 1) (le, qe, ee) i = (lf, qf, ee ++ ef) := by unfold endStep; dsimp only; rw [HEL.out]
       rw [HTK.out, hE];have := HT13.out;rw [List.append_assoc] at this;exact this)⟩
      case measure => first | (simp [intOf]; done) | (simp [intOf]; omega)
     ·have hke : k = ps.length := by omega
      subst hke;rw [List.take_length] at HK;clear HENDS HTK0 HLT;have x0 := (blk_cell HK.out.X 0).trans rfl;have x1 := (blk_cell HK.out.X 1).trans rfl;have x2 := (blk_cell HK.out.X 2).trans rfl;have x3 := (blk_cell HK.out.X 3).trans rfl;have x4 := (blk_cell HK.out.X 4).trans rfl;have z0 := (blk_cell HK.out.Z 0).trans rfl;have z1 := (blk_cell HK.out.Z 1).trans rfl;have z2 := (blk_cell HK.out.Z 2).trans rfl;have z3 := (blk_cell HK.out.Z 3).trans rfl;have z4 := (blk_cell HK.out.Z 4).trans rfl;have f0 := blk_frozen HK.out.Z 0;have f1 := blk_frozen HK.out.Z 1;have f2 := blk_frozen HK.out.Z 2;have f3 := blk_frozen HK.out.Z 3;have f4 := blk_frozen HK.out.Z 4;have HZ5 := hZ (blk_put (cs' := #[.int .i64 M, .int .i64 (now + 1), .slice o.A l1.length o.c, .slice o.A2 q1.length o.c2, .slice A9 0 c9]) (blk_put (blk_put (blk_put (blk_put HK.out.Z 0 (.int .i64 M) rfl) 1 (.int .i64 (now + 1)) rfl) 2 (.slice o.A l1.length o.c) rfl) 3 (.slice o.A2 q1.length o.c2) rfl) 4 (.slice A9 0 c9) rfl);have HT5 := (((((Turn.refl wr (fun k => k = w.heap.size + 1)).set rfl 0 (.int .i64 M)).set rfl 1 (.int .i64 (now + 1))).set rfl 2 (.slice o.A l1.length o.c)).set rfl 3 (.slice o.A2 q1.length o.c2)).set rfl 4 (.slice A9 0 c9);go_wp2;refine bodyPost_ret (results_ctt rfl _ _ (w.heap.size + 1) 47 #[.int .i64 M, .int .i64 (now + 1), .slice o.A l1.length o.c, .slice o.A2 q1.length o.c2, .slice A9 0 c9] (0, 0) _ rfl HZ5.out Tryz.underlying47 rfl (by kernel_rfl)) rfl ?_;generalize hwf : World.setCell _ _ _ = wf at *;clear hwf x0 x1 x2 x3 x4 z0 z1 z2 z3 z4 f0 f1 f2 f3 f4;have hd := HT.out;have hlen := endAll_len (now + 1) lr q1 ps;generalize endAll (now + 1) lr q1 ps = st at *;obtain ⟨le, qe, ee⟩ := st;subst hd;dsimp only at *;have hK := HK.out;obtain ⟨s1, s2, s3, s4, s5⟩ := hK.sub;have hbs := hK.Bl.size;have hOB : ∀ cc b, o'.own cc = some b -> w.heap.size + 1 < b := fun cc b h => hK.OB cc b (s5 cc b h)
      refine ⟨o', A9, c9, u5, ?_, hK.O.keep HT5 (fun b e => by omega) (fun cc b hc e => by have := hOB cc b hc; omega), fun cc b hc => by have := hOB cc b hc; omega, ?_, Turn.below hK.Bl HT5 (fun b e => by omega) hbs⟩
      ·rw [s1, s2, s3, s4, hlen.1, hlen.2, hlr];rfl
      ·have h5 := Kd.R_step (Kd.R_tight rfl hK.E) (fun b hb hlt => HT5.block b hlt (fun e => by have := (hK.VB b hb.symm).1; omega));exact Kd.R_reok rfl h5 (fun b hb cc hc => (hK.VB b hb).2.1 cc (s5 cc b hc))
def doneOf (x : S57) : Int := (x.f2.headD z125).f3
def st1 (now : Int) (x : S57) (m : Int) : Int := if x.f1.f4 ≠ 0 /\ now < x.f1.f3 then min m (x.f1.f3 - now) else m
def st2 (x : S57) (m : Int) : Int := min m (x.f1.f2 - 1)
def st3 (x : S57) (m : Int) : Int := if x.f3 = 1 then m else min m ((servStep x).f1 - doneOf x - 1)
def st4 (q : List S63) (x : S57) (m : Int) : Int := if x.f3 = 2 then min m ((q.getD ((servStep x).f0 - 1).toNat z63).f0 - x.f4 - 1) else m
def stillV (ids : List Int) (now : Int) (q : List S63) (m : Int) (x : S57) : Int := if x.f0 ∈ ids then st4 q x (st3 x (st2 x (st1 now x m))) else st1 now x m
def stillL (M now n : Int) (l : List S57) (q : List S63) : Int := max (l.foldl (stillV (runsL M l) now q) n) 0
def skipJobs (n : Int) : List S125 -> List S125
 | [] => []
 | j :: js => { j with f3 := j.f3 + n } :: js
def skipV (n : Int) (x : S57) : S57 := { x with f1 := useS x.f1 n, f6 := x.f6 + n, f2 := if x.f3 = 1 then x.f2 else skipJobs n x.f2, f4 := if x.f3 = 2 then x.f4 + n else x.f4 }
def skipL (M n : Int) (l : List S57) : List S57 := l.map fun x => if x.f0 ∈ runsL M l then skipV n x else x
def goL : Nat -> Int -> Int -> Int -> List S57 -> List S63 -> List S57 × List S63 × List Ev
 | 0, _, _, _, l, q => (l, q, [])
 | f + 1, M, now, en, l, q =>
  if now < en then
   let s := settleL M now l q
   let k := stillL M now (en - now) s.1 s.2.1
   if 0 < k then
    let r := goL f M (now + k) en (skipL M k s.1) s.2.1
    (r.1, r.2.1, s.2.2 ++ r.2.2)
   else
    let t := tickL M now s.1 s.2.1
    let r := goL f M (now + 1) en t.1 t.2.1
    (r.1, r.2.1, s.2.2 ++ t.2.2 ++ r.2.2)
  else (l, q, [])
structure StillOk (M now : Int) (l : List S57) (q : List S63) : Prop where
 sane : Sane M l
 now0 : 0 <= now
 now1 : now <= 1152921504606846976
 cbs : ∀ k (h : k < l.length), CbsOk l[k].f1
 run : RunOk l
 held : ∀ k (h : k < l.length), 0 <= l[k].f4 /\ l[k].f4 <= 1048576
 lock : ∀ k (h : k < l.length), l[k].f1.f4 = 1 -> l[k].f3 = 2 -> 1 <= (servStep l[k]).f0 /\ (servStep l[k]).f0 <= q.length
 most : ∀ k (h : k < q.length), 1 <= q[k].f0 /\ q[k].f0 <= 1048576
theorem mem_runs {M : Int} {l : List S57} (hs : Sorted l) {k : Nat} (hk : k < l.length) (h : l[k].f0 ∈ runsL M l) : l[k].f1.f4 = 1 := by
 obtain ⟨p, hp, e, hm⟩ := runs_mem h;have h1 := ahead_at hs hp;have h2 := ahead_at hs hk;rw [e] at h1;have : p = k := h1.symm.trans h2;subst this;exact hm
def stil.T11 : Bool × List (List Nat × List Nat) := (true, [([], []), ([], []), ([1], [1]), ([], []), ([3], [3]), ([4], [4]), ([5], [5]), ([6], [6]), ([2, 7], [2, 7]), ([8], [8]), ([0, 9], [0, 9]), ([10, 0, 1, 2, 3, 4, 5, 6, 7, 8, 9, 10], [0, 10])])
def stil.B11 : List Nat := [0, 0, 2, 0, 8, 24, 56, 120, 254, 510, 1023, 2047]
theorem stil.tab11 : rtab .any (opsOf Tryz.f59 11) = stil.T11 := by kernel_rfl
theorem stil.bits11 : waitsOk stil.T11.2 stil.B11 = true := by kernel_rfl
def stil.T13 : Bool × List (List Nat × List Nat) := (true, [([], []), ([], []), ([1], [1]), ([], []), ([3], [3]), ([4], [4]), ([2, 5], [2, 5]), ([6], [6]), ([7], [7]), ([], []), ([9], [9]), ([8, 10], [8, 10]), ([11], [11]), ([0, 12], [0, 12]), ([13, 0, 1, 2, 3, 4, 5, 6, 7, 8, 9, 10, 11, 12, 13], [0, 13])])
def stil.B13 : List Nat := [0, 0, 2, 0, 8, 24, 62, 126, 254, 0, 512, 2046, 4094, 8191, 16383]
theorem stil.tab13 : rtab .any (opsOf Tryz.f59 13) = stil.T13 := by kernel_rfl
theorem stil.bits13 : waitsOk stil.T13.2 stil.B13 = true := by kernel_rfl
theorem still_calls (M now n : Int) (A : Option Addr) (l : List S57) (c : Nat) (A2 : Option Addr) (q : List S63) (c2 : Nat) (A3 : Option Addr) (c3 : Nat) (w : World) (hr : Kd.C k57 w A l.length l) (hr2 : Kd.C k63 w A2 q.length q) (hk : StillOk M now l q) :
  Calls Tryz.prog 59 #[stV M now A l.length c A2 q.length c2 A3 c3, .int .i64 n] w fun e w' => e = .returned (.int .i64 (stillL M now n l q)) /\ Below w.heap.size w w' := by
 have HR := hZ hr;have HR2 := hZ hr2;have HK := hZ hk;have hl12 := hk.sane.len;have hnow0 := hk.now0;have hnow1 := hk.now1;have hpl : (runsL M l).length <= 12 := Nat.le_trans (pickL_le _ _) (Nat.le_trans (readyL_len l) hl12);have D := fun wx (hb : Below w.heap.size w wx) => runs_calls M now A c l (.slice A2 q.length c2) A3 c3 wx (Kd.C_below hr hb) hk.sane ⟨_, _, _, rfl⟩ (rank_lt (by have := hk.sane.m1; omega) (by have := readyL_sorted hk.sane.sorted; rw [List.nodup_iff_pairwise_ne]; exact this.imp (fun h => by omega)))
 have HM : Hid (∀ k (h : k < l.length), l[k].f0 ∈ runsL M l -> l[k].f1.f4 = 1) := hZ (fun k h hm => mem_runs hk.sane.sorted h hm);have HB0 : Hid (Below w.heap.size w (w.alloc (.cells #[.int .i64 M, .int .i64 now, .slice A l.length c, .slice A2 q.length c2, .slice A3 0 c3] 47))) := hZ (below_alloc (Below.refl _ _) _);have HX0 : Hid ((w.alloc (.cells #[.int .i64 M, .int .i64 now, .slice A l.length c, .slice A2 q.length c2, .slice A3 0 c3] 47)).heap[w.heap.size]? = some (.cells #[.int .i64 M, .int .i64 now, .slice A l.length c, .slice A2 q.length c2, .slice A3 0 c3] 47 (0, 0))) := hZ (blk_new _ _);have HF : Hid (stillL M now n l q = max (l.foldl (stillV (runsL M l) now q) n) 0) := hZ rfl;generalize stillL M now n l q = fin at *;clear hr hr2 hk;unfold stV;generalize runsL M l = ids at *;go_enter Tryz.func59, Tryz.ntmps59
 go_wp2_with (go_at_call 57; (with_reducible refine (D _ HB0.out).mono ?_); rintro e w1 ⟨A6, c6, rfl, hc6, hC6, _, hB1⟩; have HC6 := hZ hC6; have HX1 := hZ (blk_below HX0.out hB1); have HB1 := hZ (HB0.out.trans (hB1.mono HB0.out.size)); have x2 := (blk_cell HX1.out 2).trans rfl; clear hC6 hB1)
 clear HB0 HX0 x2
 go_loopw [1, 19] (fun v1 v19 wr => ∃ (i : Nat), v19 = .int .i64 i /\ i <= l.length /\ v1 = .int .i64 ((l.take i).foldl (stillV ids now q) n) /\ Hid (Below w1.heap.size w1 wr)) (fun _ v19 _ => l.length - (intOf v19).toNat)
 case atStart => exact ⟨0, rfl, Nat.zero_le _, rfl, hZ (Below.refl _ _)⟩
 case round =>
  obtain ⟨i, rfl, hi, rfl, HB⟩ := hrel;by_cases hlt : i < l.length
  ·have HTK : Hid ((l.take (i + 1)).foldl (stillV ids now q) n = stillV ids now q ((l.take i).foldl (stillV ids now q) n) l[i]) := hZ (by rw [List.take_succ_eq_append_getElem hlt, List.foldl_append]; rfl);generalize (l.take i).foldl (stillV ids now q) n = m0 at *;have HBW := hZ (HB1.out.trans (HB.out.mono HB1.out.size));obtain ⟨ad, J, cJ, rfl, hC⟩ := cells57 (Kd.C_below HR.out HBW.out) hlt;obtain ⟨r0, r1, r2, r3, r4, r5, r6, r7, r8, r9, r10, hjc, hjobs⟩ := hC;have xb := blk_below HX1.out HB.out;have x1 := (blk_cell xb 1).trans rfl;have hcbs := HK.out.cbs i hlt;have hrun := HK.out.run i hlt;have hheld := HK.out.held i hlt;have hlock := HK.out.lock i hlt;have hmi := HM.out i hlt;generalize l[i] = x at *;have hw1 : IntKind.i64.wrap (x.f1.f3 - now) = x.f1.f3 - now := by have := hcbs.d0; have := hcbs.dm; rw [i64_w]; unfold Go.RowKit.wrap64; omega
   have b0 : (0 : Int) <= (i : Int) := by omega
   have b1 : (i : Int) < (l.length : Int) := by omega
   have t1 := fun o => alloc_cell x1 o
   clear x1
   go_upto_region 5 with fail
   generalize hW : wr.alloc (.cells #[.int .i64 x.f0, .int .i64 x.f1.f0, .int .i64 x.f1.f1, .int .i64 x.f1.f2, .int .i64 x.f1.f3, .int .i64 x.f1.f4, .slice J x.f2.length cJ, .int .i64 x.f3, .int .i64 x.f4, .int .i64 x.f5, .int .i64 x.f6] 57) = wb at *;have hbx : wb.heap[wr.heap.size]? = some (.cells #[.int .i64 x.f0, .int .i64 x.f1.f0, .int .i64 x.f1.f1, .int .i64 x.f1.f2, .int .i64 x.f1.f3, .int .i64 x.f1.f4, .slice J x.f2.length cJ, .int .i64 x.f3, .int .i64 x.f4, .int .i64 x.f5, .int .i64 x.f6] 57 (0, 0)) := by rw [<- hW]; exact blk_new _ _
   have HBb : Hid (Below wr.heap.size wr wb) := hZ (by rw [<- hW]; exact below_alloc (Below.refl _ _) _);have x1 : wb.cell? ⟨w.heap.size, 1, none⟩ = some (.int .i64 now) := by rw [<- hW]; exact t1 _
   have HXb := hZ (blk_below xb HBb.out);have HJ := hZ (Kd.C_below hjobs HBb.out);clear hW t1 xb hjobs r0 r1 r2 r3 r4 r5 r6 r7 r8 r9 r10;have r0 := (blk_cell hbx 0).trans rfl;have r3 := (blk_cell hbx 3).trans rfl;have r4 := (blk_cell hbx 4).trans rfl;have r5 := (blk_cell hbx 5).trans rfl;have r6 := (blk_cell hbx 6).trans rfl;have r7 := (blk_cell hbx 7).trans rfl;have r8 := (blk_cell hbx 8).trans rfl
   go_cut [34] from 20 to 93 (fun v34 wx => v34 = .bool (decide (x.f1.f4 ≠ 0 /\ now < x.f1.f3)) /\ wx = wb)
   case first =>
    by_cases h1 : x.f1.f4 = 0
    ·have g1 : (x.f1.f4 != 0) = false := by simp [h1]
     have e : decide (x.f1.f4 ≠ 0 /\ now < x.f1.f3) = false := by simp [h1]
     clear h1
     go_wp2_with fail
     go_meet;exact ⟨by rw [e], rfl⟩
    ·have g1 : (x.f1.f4 != 0) = true := by simp [h1]
     have e : decide (x.f1.f4 ≠ 0 /\ now < x.f1.f3) = decide (now < x.f1.f3) := by simp [h1]
     clear h1
     go_wp2_with fail
     go_meet;exact ⟨by rw [e], rfl⟩
   case rest =>
    obtain ⟨rfl, rfl⟩ := hcut
    go_upto_if 34 with fail
    go_cut [1] from 20 to 93 (fun v1 wx => v1 = .int .i64 (st1 now x m0) /\ wx = wc)
    case first =>
     by_cases h1 : x.f1.f4 ≠ 0 /\ now < x.f1.f3
     ·have e : st1 now x m0 = min m0 (x.f1.f3 - now) := by unfold st1; rw [if_pos h1]
      have g1 : decide (x.f1.f4 ≠ 0 /\ now < x.f1.f3) = true := by simpa using h1
      go_wp2_with fail
      all_goals
       go_meet;exact ⟨by rw [e]; exact congrArg _ (by omega), rfl⟩
     ·have e : st1 now x m0 = m0 := by unfold st1; rw [if_neg h1]
      have g1 : decide (x.f1.f4 ≠ 0 /\ now < x.f1.f3) = false := by simpa using h1
      go_wp2_with fail
      go_meet;exact ⟨by rw [e], rfl⟩
    case rest =>
     obtain ⟨rfl, hwc⟩ := hcut;subst hwc;have HBA : Hid (Below w1.heap.size w1 wc) := hZ (HB.out.trans (HBb.out.mono HB.out.size));have DCt := contains_calls A6 c6 ids x.f0 wc (Kd.C_below HC6.out HBA.out) (by omega);by_cases hin : x.f0 ∈ ids
     ·have hm1 := hmi hin;obtain ⟨j, js, hj1, hj2⟩ := hrun hm1;have gin : decide (x.f0 ∈ ids) = true := by simpa using hin
      have hb1 := hcbs.mb hm1;have hb0 := hcbs.bq;have hb2 := hcbs.qp;have hb3 := hcbs.pm;have hj3 := hj2.d0;have hj4 := hj2.dn;have HS : Hid (servStep x = stepOf j) := hZ (by unfold servStep; rw [hj1]; rfl);have HD : Hid (doneOf x = j.f3) := hZ (by unfold doneOf; rw [hj1]; rfl);have hst := pgood_at hj2.prog hj2.at0 hj2.atl;have HST : Hid (stepOf j = rd_T72 j.f1 j.f2) := hZ rfl;have DJ := fun A c wx h => jstep_calls j A c wx h hj2
      have HTK2 : Hid ((l.take (i + 1)).foldl (stillV ids now q) n = st4 q x (st3 x (st2 x (st1 now x m0)))) := hZ (by rw [HTK.out]; unfold stillV; rw [if_pos hin]);have hlk : x.f3 = 2 -> 1 <= (stepOf j).f0 /\ (stepOf j).f0 <= q.length := fun h => by have := hlock hm1 h; rwa [HS.out] at this
      rw [<- HST.out] at hst;generalize st1 now x m0 = m1 at *;rw [hj1, List.length_cons] at hbx;have HJ2 := hZ HJ.out;rw [hj1] at HJ2;obtain ⟨ad5, A7, c7, rfl, s0, s1, s2, s3, hpl7, hpr7⟩ := job0 HJ2.out;have HPR := hZ hpr7;have hw2 : IntKind.i64.wrap (x.f1.f2 - 1) = x.f1.f2 - 1 := by rw [i64_w]; unfold Go.RowKit.wrap64; omega
      clear HTK HST hrun hlock hmi hcbs hj2 hpr7 HJ HJ2
      go_upto_region 8 with (go_at_call 86; (with_reducible refine DCt.mono ?_); rintro e w4 ⟨rfl, rfl⟩)
      go_cut [1] from 20 to 93 (fun v1 wx => v1 = .int .i64 (st2 x m1) /\ wx = wc)
      case first =>
       have e : st2 x m1 = min m1 (x.f1.f2 - 1) := rfl
       go_wp2_with fail
       all_goals
        go_meet;exact ⟨by rw [e]; exact congrArg _ (by omega), rfl⟩
      case rest =>
       obtain ⟨rfl, hwc⟩ := hcut;subst hwc;have r6 := (blk_cell hbx 6).trans rfl;generalize stepOf j = sp at *;obtain ⟨sm, sn⟩ := sp;dsimp only at hst hj4 hlk;have hw3 : IntKind.i64.wrap (sn - j.f3) = sn - j.f3 := by rw [i64_w]; unfold Go.RowKit.wrap64; omega
       have hw4 : IntKind.i64.wrap (sn - j.f3 - 1) = sn - j.f3 - 1 := by rw [i64_w]; unfold Go.RowKit.wrap64; omega
       have hlen : (0 : Int) < ((js.length : Int) + 1) := by omega
       go_upto_if 64 with (go_at_call 58; (with_reducible refine (DJ _ _ _ (HPR.out)).mono ?_); rintro e w6 ⟨rfl, hB6⟩; have hbs := blk_below hbx hB6; have f7 := fun o => alloc_cell ((blk_cell hbs 7).trans rfl) o; have HBX6 := hZ hbs; have HB6 := hZ hB6; clear hB6 hbs)
       have HBS : Hid ((w6.alloc (.cells #[.int .i64 sm, .int .i64 sn] 72)).heap[wr.heap.size]? = some (.cells #[.int .i64 x.f0, .int .i64 x.f1.f0, .int .i64 x.f1.f1, .int .i64 x.f1.f2, .int .i64 x.f1.f3, .int .i64 x.f1.f4, .slice (some ad5) (js.length + 1) cJ, .int .i64 x.f3, .int .i64 x.f4, .int .i64 x.f5, .int .i64 x.f6] 57 (0, 0))) := hZ (blk_below HBX6.out (below_alloc (Below.refl _ _) _));have HSS : Hid ((w6.alloc (.cells #[.int .i64 sm, .int .i64 sn] 72)).heap[w6.heap.size]? = some (.cells #[.int .i64 sm, .int .i64 sn] 72 (0, 0))) := hZ (blk_new _ _);have HBW6 : Hid (Below wc.heap.size wc (w6.alloc (.cells #[.int .i64 sm, .int .i64 sn] 72))) := hZ (HB6.out.trans (below_alloc (Below.refl _ _) _ |>.mono HB6.out.size));generalize hws : w6.alloc (.cells #[.int .i64 sm, .int .i64 sn] 72) = ws at *;clear hws f7 HBX6;have y6 := (blk_cell HBS.out 6).trans rfl;have y1 := (blk_cell HSS.out 1).trans rfl;have y3 := (HBW6.out.cell (World.block_lt_of_cell? _ _ s3)).trans s3
       go_cut [1] from 20 to 93 (fun v1 wx => v1 = .int .i64 (st3 x (st2 x m1)) /\ Hid (Below ws.heap.size ws wx))
       case first =>
        by_cases h1 : x.f3 = 1
        ·have e : st3 x (st2 x m1) = st2 x m1 := by unfold st3; rw [if_pos h1]
         have g1 : (x.f3 != 1) = false := by simp [h1]
         clear h1
         go_wp2_with fail
         go_meet;exact ⟨by rw [e], hZ (Below.refl _ _)⟩
        ·have e : st3 x (st2 x m1) = min (st2 x m1) (sn - j.f3 - 1) := by unfold st3; rw [if_neg h1, HS.out, HD.out]
         have g1 : (x.f3 != 1) = true := by simp [h1]
         clear h1;generalize st3 x (st2 x m1) = m3 at *;generalize st2 x m1 = m2 at *
         go_upto_region 11 with fail
         refine start_ (n := 12) (S := fun w' => w'.cell? ⟨w6.heap.size, 1, none⟩ = some (.int .i64 sn) /\ w'.cell? ⟨wr.heap.size, 6, none⟩ = some (.slice (some ad5) (js.length + 1) cJ) /\ w'.cell? ⟨ad5.block, ad5.off + 3, none⟩ = some (.int .i64 j.f3) /\ Hid (Below ws.drew.heap.size ws.drew w')) (ds := [11]) #[false, false, false, false, false, false, false, false, false, false, false, false] (by kernel_rfl) rfl rfl ⟨(show ws.drew.cell? _ = _ from y1), (show ws.drew.cell? _ = _ from y6), (show ws.drew.cell? _ = _ from y3), (hZ (Below.refl ws.drew.heap.size ws.drew))⟩ (fun hHeld => ?_);refine with_tabW stil.tab11 stil.bits11 (fun HT_ HW_ => ?_);have hbd : Hid (Below ws.heap.size ws ws.drew) := hZ ⟨rfl, rfl, rfl, Nat.le_refl _, fun _ _ => rfl⟩;have hsd : ws.heap.size = ws.drew.heap.size := rfl;generalize hwd : ws.drew = wd at *;clear hwd;refine pst 0 (some 65) HT_ ?_;refine pst 1 (some 66) HT_ ?_;refine pst 3 (some 68) HT_ ?_;refine tst 2 (some 67) HT_ HW_ hHeld ?_ (hy := by rintro w' ⟨s0, s1, s2, s3⟩; go_simp; with_reducible rfl);refine tst 4 (some 69) HT_ HW_ hHeld ?_ (hy := by rintro w' ⟨s0, s1, s2, s3⟩; go_simp; with_reducible rfl);refine pst 5 (some 70) HT_ ?_;refine pst 6 (some 71) HT_ ?_;refine tst 7 (some 72) HT_ HW_ hHeld ?_ (hy := by rintro w' ⟨s0, s1, s2, s3⟩; go_simp; with_reducible rfl);refine pst 8 (some 73) HT_ ?_;refine pst 9 (some 74) HT_ ?_;refine pst 10 (some 75) HT_ ?_;refine pst 11 (some 1) HT_ ?_;refine done_ (done_of HT_.out (by kernel_rfl)) ?_
         go_wp2_with fail
         all_goals
          go_meet;exact ⟨by rw [e]; exact congrArg _ (by omega), hbd⟩
       case rest =>
        obtain ⟨rfl, HBZ⟩ := hcut;have HBS2 := hZ (blk_below HBS.out HBZ.out);have x7 := (blk_cell HBS2.out 7).trans rfl;have HBA2 : Hid (Below w1.heap.size w1 wc) := hZ (HBA.out.trans ((HBW6.out.trans (HBZ.out.mono HBW6.out.size)).mono HBA.out.size));clear r0 r3 r4 r5 r6 r7 r8 y6 y1 y3 s0 s1 s2 s3 x1;by_cases h2 : x.f3 = 2
        ·have g2 : (x.f3 == 2) = true := by simp [h2]
         obtain ⟨hk1, hk2⟩ := hlk h2;obtain ⟨nn, hnn⟩ : ∃ nn : Nat, sm = (nn : Int) + 1 := ⟨(sm - 1).toNat, by omega⟩;have hnq : nn < q.length := by omega
         subst hnn;have hgd : q.getD ((nn : Int) + 1 - 1).toNat z63 = q[nn] := by rw [show ((nn : Int) + 1 - 1).toNat = nn by omega]; simp [hnq]
         have HTK3 : Hid (st4 q x (st3 x (st2 x m1)) = min (st3 x (st2 x m1)) (q[nn].f0 - x.f4 - 1)) := hZ (by unfold st4; rw [if_pos h2, HS.out, hgd]);have hmost := HK.out.most nn hnq;obtain ⟨ad8, J8, c8, rfl, hC8⟩ := cells63 (Kd.C_below HR2.out (HB1.out.trans (HBA2.out.mono HB1.out.size))) hnq;have x5 := hC8.1;have x3 := (blk_cell (blk_below HX1.out HBA2.out) 3).trans rfl;have x4 := (blk_cell (blk_below HSS.out HBZ.out) 0).trans rfl;have x6 := (blk_cell HBS2.out 8).trans rfl;have hw5 : IntKind.i64.wrap ((nn : Int) + 1 - 1) = (nn : Int) := by rw [i64_w]; unfold Go.RowKit.wrap64; omega
         have hw6 : IntKind.i64.wrap (q[nn].f0 - x.f4) = q[nn].f0 - x.f4 := by rw [i64_w]; unfold Go.RowKit.wrap64; omega
         have hw7 : IntKind.i64.wrap (q[nn].f0 - x.f4 - 1) = q[nn].f0 - x.f4 - 1 := by rw [i64_w]; unfold Go.RowKit.wrap64; omega
         have hn0 : (0 : Int) <= (nn : Int) := Int.natCast_nonneg nn;have hw8 : Go.RowKit.wrap64 (nn : Int) = (nn : Int) := by unfold Go.RowKit.wrap64; omega
         have hn9 : ((nn : Int)).toNat = nn := Int.toNat_natCast nn;have hn1 : (nn : Int) < (q.length : Int) := Int.ofNat_lt.2 hnq;clear hgd h2 hC8 hlk;generalize st3 x (st2 x m1) = m3 at *
         go_upto_region 13 with fail
         refine start_ (n := 15) (S := fun w' => w'.cell? ⟨w.heap.size, 3, none⟩ = some (.slice (some ad8) q.length c2) /\ w'.cell? ⟨w6.heap.size, 0, none⟩ = some (.int .i64 ((nn : Int) + 1)) /\ w'.cell? (ad8.add (nn * 4)) = some (.int .i64 q[nn].f0) /\ w'.cell? ⟨wr.heap.size, 8, none⟩ = some (.int .i64 x.f4) /\ Hid (Below wc.drew.heap.size wc.drew w')) (ds := [14]) #[false, false, false, false, false, false, false, false, false, false, false, false, false, false, false] (by kernel_rfl) rfl rfl ⟨(show wc.drew.cell? _ = _ from x3), (show wc.drew.cell? _ = _ from x4), (show wc.drew.cell? _ = _ from x5), (show wc.drew.cell? _ = _ from x6), (hZ (Below.refl wc.drew.heap.size wc.drew))⟩ (fun hHeld => ?_);refine with_tabW stil.tab13 stil.bits13 (fun HT_ HW_ => ?_);have hbd : Hid (Below wc.heap.size wc wc.drew) := hZ ⟨rfl, rfl, rfl, Nat.le_refl _, fun _ _ => rfl⟩;have hsd : wc.heap.size = wc.drew.heap.size := rfl;generalize hwd : wc.drew = wd at *;clear hwd;refine pst 0 (some 79) HT_ ?_;refine pst 1 (some 80) HT_ ?_;refine pst 3 (some 82) HT_ ?_;refine pst 9 (some 88) HT_ ?_;refine tst 2 (some 81) HT_ HW_ hHeld ?_ (hy := by rintro w' ⟨s0, s1, s2, s3, s4⟩; go_simp; with_reducible rfl);refine tst 4 (some 83) HT_ HW_ hHeld ?_ (hy := by rintro w' ⟨s0, s1, s2, s3, s4⟩; go_simp; with_reducible rfl);refine pst 5 (some 84) HT_ ?_;refine pst 6 (some 85) HT_ ?_;refine pst 7 (some 86) HT_ ?_;refine tst 8 (some 87) HT_ HW_ hHeld ?_ (hy := by rintro w' ⟨s0, s1, s2, s3, s4⟩; go_simp; with_reducible rfl);refine tst 10 (some 89) HT_ HW_ hHeld ?_ (hy := by rintro w' ⟨s0, s1, s2, s3, s4⟩; go_simp; with_reducible rfl);refine pst 11 (some 90) HT_ ?_;refine pst 12 (some 91) HT_ ?_;refine pst 13 (some 92) HT_ ?_;refine pst 14 (some 1) HT_ ?_;refine done_ (done_of HT_.out (by kernel_rfl)) ?_;go_wp2
         all_goals
          go_roundw
          case rel => exact ⟨i + 1, by go_num, by omega, by rw [HTK2.out, HTK3.out]; exact congrArg _ (by omega), hZ (HBA2.out.trans (hbd.out.mono HBA2.out.size))⟩
          case measure => first | (simp [intOf]; done) | (simp [intOf]; omega)
        ·have g2 : (x.f3 == 2) = false := by simp [h2]
         have HTK3 : Hid (st4 q x (st3 x (st2 x m1)) = st3 x (st2 x m1)) := hZ (by unfold st4; rw [if_neg h2]);go_wp2;go_roundw
         case rel => exact ⟨i + 1, by go_num, by omega, by rw [HTK2.out, HTK3.out], HBA2⟩
         case measure => first | (simp [intOf]; done) | (simp [intOf]; omega)
     ·have gin : decide (x.f0 ∈ ids) = false := by simpa using hin
      have HTK2 : Hid ((l.take (i + 1)).foldl (stillV ids now q) n = st1 now x m0) := hZ (by rw [HTK.out]; unfold stillV; rw [if_neg hin])
      go_wp2_with (go_at_call 86; (with_reducible refine DCt.mono ?_); rintro e w4 ⟨rfl, rfl⟩)
      go_roundw
      case rel => exact ⟨i + 1, by go_num, by omega, by rw [HTK2.out], HBA⟩
      case measure => first | (simp [intOf]; done) | (simp [intOf]; omega)
  ·have hie : i = l.length := by omega
   subst hie;rw [List.take_length];go_wp2
   all_goals
    go_ret;rw [HF.out]
    first
    | exact ⟨congrArg (fun z => Ending.returned (Value.int .i64 z)) (show (0 : Int) = max (l.foldl (stillV ids now q) n) 0 by omega), HB1.out.trans (HB.out.mono HB1.out.size)⟩
    | exact ⟨congrArg (fun z => Ending.returned (Value.int .i64 z)) (show l.foldl (stillV ids now q) n = max (l.foldl (stillV ids now q) n) 0 by omega), HB1.out.trans (HB.out.mono HB1.out.size)⟩
def skip.T14 : Bool × List (List Nat × List Nat) := (true, [([], []), ([0], [0]), ([1], [1]), ([2], [2]), ([], []), ([4], [4]), ([5], [5]), ([6], [6]), ([7], [7]), ([8], [8]), ([], []), ([9, 10], [9, 10]), ([11], [11]), ([12], [12]), ([12], [12]), ([3, 0, 1, 2, 3, 4, 5, 6, 7, 8, 9, 10, 11, 12, 13], [3]), ([15, 13, 11, 0, 1, 2, 3, 4, 5, 6, 7, 8, 9, 10, 11, 12, 13], [13, 15])])
def skip.B14 : List Nat := [0, 1, 3, 7, 0, 16, 48, 112, 240, 496, 0, 2032, 4080, 8176, 8176, 16383, 49151]
theorem skip.tab14 : rtab .any (opsOf Tryz.f60 14) = skip.T14 := by kernel_rfl
theorem skip.bits14 : waitsOk skip.T14.2 skip.B14 = true := by kernel_rfl
theorem ints_keep {w w' : World} {S : Nat -> Prop} {A : Option Addr} {n : Nat} {l : List Int} (h : (Kd.int .i64).C w A n l) (ht : Turn w w' S) (hA : ∀ ad, A = some ad -> 0 < n -> ¬ S ad.block) : (Kd.int .i64).C w' A n l := by
 refine ⟨h.1, h.2.1, fun h0 => ?_⟩;obtain ⟨ad, e, hc⟩ := h.2.2 h0;refine ⟨ad, e, fun j p hp => ?_⟩;obtain ⟨cs, h1, h2, h3⟩ := hc j p hp;refine ⟨cs, h1, h2, fun i u hu => ?_⟩;have h4 := h3 i u hu;have h5 := World.block_lt_of_cell? _ _ h4;rw [add_block] at h5;refine cell_keep h4 ?_;rw [add_block];exact ht.block _ h5 (hA ad e h0)
theorem ints_lt {w : World} {ad : Addr} {n : Nat} {l : List Int} (h : (Kd.int .i64).C w (some ad) n l) (h0 : 0 < n) : ad.block < w.heap.size := by
 have h1 : 0 < l.length := by rw [h.1]; exact h0
 obtain ⟨ad2, e, hc⟩ := h.2.2 h0;injection e with e;subst e;obtain ⟨cs, h2, h3, h4⟩ := hc 0 l[0] (List.getElem?_eq_getElem h1);have e2 : cs = [.int .i64 l[0]] := by first | exact h3 | exact h3.symm
 subst e2;have h5 := World.block_lt_of_cell? _ _ (h4 0 _ rfl)
 rwa [add_block] at h5
theorem Own.raw {w : World} {B : Bd} {l : List S57} {q : List S63} {o : OwnR} (h : Own w B l q o) : (Kd.raw 11).C w o.A l.length (rowsOf servRow l o.r) := by
 by_cases hx : l = []
 ·subst hx; exact C_nil' _ _ _
 ·obtain ⟨g, e, hr⟩ := h.row hx;rw [e, <- rowsOf_len (f := servRow) (r := o.r)];exact raw_of_row hr (by rw [rowsOf_len]; have := h.max; omega) (mem_rowsOf (fun x p u hu => by simp only [servRow, List.mem_cons, List.not_mem_nil, or_false] at hu; rcases hu with rfl | rfl | rfl | rfl | rfl | rfl | rfl | rfl | rfl | rfl | rfl <;> rfl))
theorem raw_jobs {w : World} {b oo : Nat} {x : List S125} {rr : Nat -> Ref} (h : RowAt w b oo 4 125 (rowsOf jobRow x rr)) (hm : x.length <= 100000) : (Kd.raw 4).C w (some ⟨b, oo, none⟩) x.length (rowsOf jobRow x rr) := by
 have h2 := raw_of_row h (by rw [rowsOf_len]; omega) (mem_rowsOf (fun x p u hu => by simp only [jobRow, List.mem_cons, List.not_mem_nil, or_false] at hu; rcases hu with rfl | rfl | rfl | rfl <;> rfl));rw [rowsOf_len] at h2;exact h2
theorem Own.fresh {w w' : World} {B : Bd} {l : List S57} {q : List S63} {o : OwnR} (h : Own w B l q o) (hb : Below w.heap.size w w') {A : Option Addr} {c : Nat} (hA : l ≠ [] -> ∃ g, A = some ⟨g, 0, none⟩ /\ RowAt w' g 0 11 57 (rowsOf servRow l o.r)) (hc : l.length <= c) (hn : ∀ b, A.map (·.block) = some b -> w.heap.size <= b /\ b < w'.heap.size) : Own w' B l q { o with A := A, c := c } := by
 have h1 := h.below hb;have hlt : ∀ c b, o.own c = some b -> b < w.heap.size := fun c b e => (h.bnd c b e).2
 refine ⟨h.max, ⟨hc, h.cap.2⟩, hA, h1.lok, h1.jobs, fun i hi => ⟨(h1.que i hi).1, (h1.que i hi).2⟩, fun c d b hc hd => ?_, fun c b hc => ?_, h1.old⟩
 ·cases c with
  | g =>
   have := hn b hc
   cases d with
   | g => rfl
   | h => have := hlt .h b hd; omega
   | j k => have := hlt (.j k) b hd; omega
   | q k => have := hlt (.q k) b hd; omega
  | h =>
   cases d with
   | g => have := hn b hd; have := hlt .h b hc; omega
   | h => rfl
   | j k => exact h.apart .h (.j k) b hc hd
   | q k => exact h.apart .h (.q k) b hc hd
  | j i =>
   cases d with
   | g => have := hn b hd; have := hlt (.j i) b hc; omega
   | h => exact h.apart (.j i) .h b hc hd
   | j k => exact h.apart (.j i) (.j k) b hc hd
   | q k => exact h.apart (.j i) (.q k) b hc hd
  | q i =>
   cases d with
   | g => have := hn b hd; have := hlt (.q i) b hc; omega
   | h => exact h.apart (.q i) .h b hc hd
   | j k => exact h.apart (.q i) (.j k) b hc hd
   | q k => exact h.apart (.q i) (.q k) b hc hd
 ·cases c with
  | g => have := hn b hc; have := h.old; exact ⟨by omega, this |> fun _ => (hn b hc).2⟩
  | h => exact h1.bnd .h b hc
  | j k => exact h1.bnd (.j k) b hc
  | q k => exact h1.bnd (.q k) b hc
theorem Own.servNew {w w' : World} {B : Bd} {l : List S57} {q : List S63} {o : OwnR} {i : Nat} (h : Own w B l q o) (hi : i < l.length) (x : S57) (p : Ref) {g : Nat} (hg : o.A = some ⟨g, 0, none⟩) (ht : Turn w w' (fun b => b = g)) (hr : RowAt w' g 0 11 57 ((rowsOf servRow l o.r).set i (servRow x p))) (hj : JobsAt w' B x.f2 p) (hp : ∀ b, ob p = some b -> (∀ c, o.own c ≠ some b) /\ B.n <= b /\ b < w'.heap.size) : Own w' B (l.set i x) q { o with r := upd o.r i p } := by
 have hgo : o.own .g = some g := by show o.A.map _ = _; rw [hg]; rfl
 have hgB := (h.bnd .g g hgo).1
 have hown : ∀ c b, ({ o with r := upd o.r i p } : OwnR).own c = some b -> (c ≠ .j i /\ o.own c = some b) \/ (c = .j i /\ ob p = some b) := by
  intro c b hb
  cases c with
  | g => exact .inl ⟨by simp, hb⟩
  | h => exact .inl ⟨by simp, hb⟩
  | q k => exact .inl ⟨by simp, hb⟩
  | j k =>
   change ob (upd o.r i p k) = some b at hb;by_cases e : k = i
   ·subst e; rw [upd_self] at hb; exact .inr ⟨rfl, hb⟩
   ·rw [upd_ne _ _ e] at hb; exact .inl ⟨by intro e2; injection e2 with e2; exact e e2, hb⟩
 have hne : ∀ c b, c ≠ .g -> o.own c = some b -> b ≠ g := fun c b hc hb e => hc (h.apart c .g b hb (by rw [e]; exact hgo))
 refine ⟨by rw [List.length_set]; exact h.max, by rw [List.length_set]; exact h.cap, fun hx => ⟨g, hg, by rw [rowsOf_set]; exact hr⟩, fun hx => ?_, fun k hk => ?_, fun k hk => ?_, fun c d b hc hd => ?_, fun c b hb => ?_, Nat.le_trans h.old ht.size⟩
 ·obtain ⟨g2, e, hr2⟩ := h.lok hx;exact ⟨g2, e, hr2.turn ht (hne .h g2 (by simp) (by show o.A2.map _ = _; rw [e]; rfl))⟩
 ·have hk2 : k < l.length := by simpa using hk
  show JobsAt w' B (l.set i x)[k].f2 (upd o.r i p k);rw [mem_set_get];by_cases e : i = k
  ·subst e; rw [if_pos rfl, upd_self]; exact hj
  ·rw [if_neg e, upd_ne _ _ (fun h => e h.symm)];exact (h.jobs k hk2).keep ht (fun b hb => by rw [hb]; exact hgB) h.old (fun b hb => hne (.j k) b (by simp) hb)
 ·exact ⟨(h.que k hk).1, fun W' hW => (h.que k hk).2 W' (fun b hb hlt => by rw [hW b hb (Nat.lt_of_lt_of_le hlt ht.size)]; exact ht.block b hlt (hne _ b (by simp) hb))⟩
 ·rcases hown c b hc with ⟨_, h1⟩ | ⟨e1, h1⟩
  ·rcases hown d b hd with ⟨_, h2⟩ | ⟨e2, h2⟩
   ·exact h.apart c d b h1 h2
   ·exact absurd h1 ((hp b h2).1 c)
  ·rcases hown d b hd with ⟨_, h2⟩ | ⟨e2, h2⟩
   ·exact absurd h2 ((hp b h1).1 d)
   ·rw [e1, e2]
 ·rcases hown c b hb with ⟨_, h1⟩ | ⟨_, h1⟩
  ·exact ⟨(h.bnd c b h1).1, Nat.lt_of_lt_of_le (h.bnd c b h1).2 ht.size⟩
  ·exact (hp b h1).2
def skipUp (ids : List Int) (n : Int) (l : List S57) (i : Nat) : List S57 := l.mapIdx fun k x => if k < i /\ x.f0 ∈ ids then skipV n x else x
theorem skipUp_len (ids : List Int) (n : Int) (l : List S57) (i : Nat) : (skipUp ids n l i).length = l.length := by simp [skipUp]
theorem skipUp_get (ids : List Int) (n : Int) (l : List S57) {i k : Nat} (hk : k < l.length) {hh : k < (skipUp ids n l i).length} : (skipUp ids n l i)[k] = if k < i /\ l[k].f0 ∈ ids then skipV n l[k] else l[k] := by simp [skipUp]
theorem skipUp_zero (ids : List Int) (n : Int) (l : List S57) : skipUp ids n l 0 = l := by
 apply List.ext_getElem
 ·rw [skipUp_len]
 ·intro k h1 h2;rw [skipUp_get ids n l h2, if_neg (by omega)]
theorem skipUp_all {M n : Int} {l : List S57} : skipUp (runsL M l) n l l.length = skipL M n l := by
 apply List.ext_getElem
 ·rw [skipUp_len]; simp [skipL]
 ·intro k h1 h2;have hk : k < l.length := by rw [skipUp_len] at h1; exact h1
  rw [skipUp_get _ n l hk];simp only [skipL, List.getElem_map, hk, true_and]
theorem skipUp_succ (ids : List Int) (n : Int) (l : List S57) {i : Nat} (hi : i < l.length) : skipUp ids n l (i + 1) = (skipUp ids n l i).set i (if l[i].f0 ∈ ids then skipV n l[i] else l[i]) := by
 apply List.ext_getElem
 ·rw [List.length_set, skipUp_len, skipUp_len]
 ·intro k h1 h2;have hk : k < l.length := by rw [skipUp_len] at h1; exact h1
  rw [skipUp_get ids n l hk, List.getElem_set];by_cases e : i = k
  ·subst e; rw [if_pos rfl]; simp
  ·rw [if_neg e, skipUp_get ids n l hk];by_cases h : k < i
   ·simp [h, show k < i + 1 by omega]
   ·simp [h, show ¬ k < i + 1 by omega]
theorem turns_calls (A : Option Addr) (c : Nat) (n : Int) (w : World) : Calls Tryz.prog 89 #[.slice A 0 c, .int .i64 0, .int .i64 n] w fun e w' => e = .returned (.slice A 0 c) /\ Below w.heap.size w w' := by
 go_enter Tryz.func89, Tryz.ntmps89;go_wp2;go_ret;exact ⟨rfl, Below.refl _ _⟩
structure SkipOk (M n : Int) (l : List S57) : Prop where
 sane : Sane M l
 n1 : 1 <= n
 nm : n <= 1152921504606846976
 run : ∀ k (h : k < l.length), l[k].f0 ∈ runsL M l -> CbsOk l[k].f1 /\ l[k].f1.f4 = 1 /\ n <= l[k].f1.f2 /\ (∃ j js, l[k].f2 = j :: js /\ JobOk j /\ (l[k].f3 ≠ 1 -> j.f3 + n <= (stepOf j).f1)) /\ (0 <= l[k].f6 /\ l[k].f6 <= 1152921504606846976) /\ (0 <= l[k].f4 /\ l[k].f4 <= 1048576)
def SkipP (M now n : Int) (l : List S57) (q : List S63) (B : Bd) (o : OwnR) (w : World) (e : Ending) (w' : World) : Prop :=
 ∃ o' A4 c4, e = .returned (stV M (now + n) o'.A (skipL M n l).length o'.c o'.A2 q.length o'.c2 A4 c4) /\ Own w' B (skipL M n l) q o' /\ (∀ c b, o'.own c = some b -> (∃ c2, o.own c2 = some b) \/ w.heap.size <= b) /\ Below w.heap.size w w'
theorem skip_calls (M now n : Int) (l : List S57) (q : List S63) (B : Bd) (o : OwnR) (A4 : Option Addr) (c4 : Nat) (w : World) (hO : Own w B l q o) (hk : SkipOk M n l) (hnow0 : 0 <= now) (hnow1 : now + n <= 4611686018427387904) :
  Calls Tryz.prog 60 #[stV M now o.A l.length o.c o.A2 q.length o.c2 A4 c4, .int .i64 n] w fun e w' => SkipP M now n l q B o w e w' := by
 have hl12 := hk.sane.len;have hn1 := hk.n1;have hnm := hk.nm;have hgn : (n == 0) = false := by simp; omega
 have hwn : IntKind.i64.wrap (now + n) = now + n := by rw [i64_w]; unfold Go.RowKit.wrap64; omega
 have hpl : (runsL M l).length <= 12 := Nat.le_trans (pickL_le _ _) (Nat.le_trans (readyL_len l) hl12);have DR := fun wx (hx : Own wx B l q o) => runs_calls M now o.A o.c l (.slice o.A2 q.length o.c2) A4 c4 wx hx.reads hk.sane ⟨_, _, _, rfl⟩ (rank_lt (by have := hk.sane.m1; omega) (by have := readyL_sorted hk.sane.sorted; rw [List.nodup_iff_pairwise_ne]; exact this.imp (fun h => by omega)))
 have HO := hZ hO;have HRUN := hZ hk.run;have HALL : Hid (skipUp (runsL M l) n l l.length = skipL M n l) := hZ skipUp_all;unfold SkipP;generalize skipL M n l = fin at *;generalize runsL M l = ids at *;have HOLD := hZ hO.old;have HOB := hZ (fun cc b (h : o.own cc = some b) => (hO.bnd cc b h).2);clear hO hk;unfold stV at *;go_enter Tryz.func60, Tryz.ntmps60
 go_upto_region 4 with (go_at_call 57; (with_reducible refine (DR _ (HO.out.below (below_alloc (below_alloc (Below.refl _ _) _) _))).mono ?_); rintro e w1 ⟨A6, c6, rfl, hc6, hC6, hb6, hB1⟩; have HB6 := hZ hb6; obtain ⟨hx, hz, hs⟩ := two_blocks hB1; have HC6 := hZ hC6; have HX1 := hZ hx; have HZ1 := hZ hz; have HBW1 := hZ ((below_alloc (below_alloc (Below.refl w.heap.size w) _) _).trans (hB1.mono (by simp; omega))); clear hC6 hx hz hB1 hb6)
 have hs1 : w.heap.size + 2 <= w1.heap.size := by omega
 have HO1 := hZ (HO.out.below HBW1.out);have hraw := HO1.out.raw;have x2 := (blk_cell HX1.out 2).trans rfl;have DC := fun wx (hb : Below w1.heap.size w1 wx) => clone57 o.A l.length o.c _ wx (Kd.C_below hraw hb) (by omega)
 go_upto_region 5 with (go_at_call 47; (with_reducible refine (DC _ (Below.refl _ _)).mono ?_); rintro e w2 ⟨v7, rfl, hR7, hB2⟩; obtain ⟨A7, c7, e7, hc7, _⟩ := Kd.R_reads hR7; rw [rowsOf_len] at e7 hc7; subst e7; have HX2 := hZ (blk_below HX1.out hB2); have HB2 := hZ hB2; have HR7 := hZ hR7; have f2 := blk_frozen HX2.out 2; have y2 := (blk_cell HX2.out 2).trans rfl; clear hB2 hR7)
 have HX3 := hZ (blk_put (cs' := #[.int .i64 M, .int .i64 now, .slice A7 l.length c7, .slice o.A2 q.length o.c2, .slice A4 0 c4]) HX2.out 2 (.slice A7 l.length c7) rfl);have HT3 := hZ ((Turn.refl w2 (fun b => b = w.heap.size)).set rfl 2 (.slice A7 l.length c7));generalize hws : World.setCell _ _ _ = w3 at *;clear hws f2 y2 x2 DC hraw;have hs2 : w1.heap.size <= w2.heap.size := HB2.out.size;have hbase := Kd.R_base HR7.out;have hltb := Kd.R_lt HR7.out;have hgb : ∀ b, A7.map (·.block) = some b -> w1.heap.size <= b /\ b < w2.heap.size := fun b hb => ⟨hbase b (ownB_map hb), hltb b (ownB_map hb)⟩
 have hRow : l ≠ [] -> ∃ g, A7 = some ⟨g, 0, none⟩ /\ RowAt w2 g 0 11 57 (rowsOf servRow l o.r) := fun h => by
  obtain ⟨g, cap, e, _, _, _, _, hRow⟩ := row_of_R HR7.out (by rw [rowsOf_len]; exact List.length_pos_iff.2 h);injection e with e1 e2 e3;exact ⟨g, e1, hRow⟩
 have HBo : Hid (∀ cc b, o.own cc = some b -> b < w.heap.size) := HOB
 have HO2 : Hid (Own w3 B l q { o with A := A7, c := c7 }) := hZ ((HO1.out.fresh HB2.out hRow hc7 hgb).keep HT3.out (fun b e => by have := HO.out.old; omega) (fun cc b hc e => by
  have hne : b ≠ w.heap.size := by
   cases cc with
   | g => have := hgb b hc; omega
   | h => have := HBo.out .h b hc; omega
   | j k => have := HBo.out (.j k) b hc; omega
   | q k => have := HBo.out (.q k) b hc; omega
  exact hne e))
 have HN2 : Hid (∀ cc b, ({ o with A := A7, c := c7 } : OwnR).own cc = some b -> (cc ≠ .g /\ ∃ c2, o.own c2 = some b) \/ w1.heap.size <= b) := hZ (fun cc b hc => by
  cases cc with
  | g => exact .inr (hgb b hc).1
  | h => exact .inl ⟨by simp, .h, hc⟩
  | j k => exact .inl ⟨by simp, .j k, hc⟩
  | q k => exact .inl ⟨by simp, .q k, hc⟩)
 have HZ3 := hZ ((HT3.out.block _ (by have := blk_lt (blk_below HZ1.out HB2.out); omega) (by omega)).trans (blk_below HZ1.out HB2.out));have HL6 : Hid (∀ ad, A6 = some ad -> 0 < ids.length -> ad.block < w1.heap.size) := hZ (fun ad e h0 => by have := HC6.out; rw [e] at this; exact ints_lt this h0);have HC3 : Hid ((Kd.int .i64).C w3 A6 ids.length ids) := hZ (ints_keep (Kd.C_below HC6.out HB2.out) HT3.out (fun ad e _ => by have := HB6.out ad e; simp only [World.size_alloc] at this; omega));have HB3 : Hid (Below w.heap.size w w3) := hZ (Turn.below (HBW1.out.trans (HB2.out.mono (by omega))) HT3.out (fun b e => by omega) (by omega));have hs3 : w1.heap.size <= w3.heap.size := by have := HT3.out.size; omega
 clear HX1 HX2 HZ1 HBW1 HO1 HB2 HR7 HT3 hbase hltb hgb hRow HBo hs2;have x2 := (blk_cell HX3.out 2).trans rfl;go_wp2;clear x2 HB6 HC6 DR;have HT0 : Hid (Turn w3 w3 (fun b => w1.heap.size <= b)) := hZ (Turn.refl _ _);have HO2' : Hid (Own w3 B (skipUp ids n l 0) q { o with A := A7, c := c7 }) := hZ (by rw [skipUp_zero]; exact HO2.out);clear HO2
 go_loopw [24] (fun v24 wr => ∃ (i : Nat) (o' : OwnR), v24 = .int .i64 i /\ i <= l.length /\ o'.A = A7 /\ o'.c = c7 /\ o'.A2 = o.A2 /\ o'.c2 = o.c2 /\ Hid (Own wr B (skipUp ids n l i) q o') /\ Hid (∀ cc b, o'.own cc = some b -> (cc ≠ .g /\ ∃ c2, o.own c2 = some b) \/ w1.heap.size <= b) /\ Hid (Turn w3 wr (fun b => w1.heap.size <= b))) (fun v24 _ => l.length - (intOf v24).toNat)
 case atStart => exact ⟨0, { o with A := A7, c := c7 }, rfl, Nat.zero_le _, rfl, rfl, rfl, rfl, HO2', HN2, HT0⟩
 case round =>
  clear HO2' HN2 HT0;obtain ⟨i, o', rfl, hi, e1, e2, e3, e4, HO, HN, HT⟩ := hrel;by_cases hlt : i < l.length
  ·have hX := (HT.out.block _ (blk_lt HX3.out) (by omega)).trans HX3.out;have x2 := (blk_cell hX 2).trans rfl;have hi1 : i < (skipUp ids n l i).length := by rw [skipUp_len]; exact hlt
   have hgi : (skipUp ids n l i)[i] = l[i] := by rw [skipUp_get ids n l hlt, if_neg (by omega)]
   have HSU := hZ (skipUp_succ ids n l hlt);obtain ⟨g, hg, hrow⟩ := HO.out.row (by intro e; rw [e] at hi1; simp at hi1)
   have hgN : w1.heap.size <= g := by
    rcases HN.out .g g (by show o'.A.map _ = _; rw [hg]; rfl) with h | h
    ·exact absurd rfl h.1
    ·exact h
   have DCt := contains_calls A6 c6 ids l[i].f0 wr (ints_keep HC3.out HT.out (fun ad e h0 => by have := HL6.out ad e h0; omega)) (by omega);have hr := HRUN.out i hlt;have hserv := serv_at hrow hi1;rw [hgi] at hserv;have HGI := hZ hgi;generalize skipUp ids n l i = lt at *;generalize l[i] = x at *;have hg7 : A7 = some ⟨g, 0, none⟩ := by rw [<- e1]; exact hg
   subst hg7;have b0 : (0 : Int) <= (i : Int) := by omega
   have b1 : (i : Int) < (l.length : Int) := by omega
   have r0 := hserv.e0;have HG := hZ hg;have HROW := hZ hrow;have HSERV := hZ hserv;clear hX hgi hrow hserv hg;by_cases hin : x.f0 ∈ ids
   ·have gin : decide (x.f0 ∈ ids) = true := by simpa using hin
    obtain ⟨hcbs, hm1, hbn, ⟨j, js, hxj, hj, hj2⟩, ⟨h60, h61⟩, ⟨h40, h41⟩⟩ := hr hin;have D := fun wx => use_calls x.f1 n wx hcbs hm1 hn1 hbn
    have HJ := hZ hj;have hw6 : IntKind.i64.wrap (x.f6 + n) = x.f6 + n := by rw [i64_w]; unfold Go.RowKit.wrap64; omega
    have hw4 : IntKind.i64.wrap (x.f4 + n) = x.f4 + n := by rw [i64_w]; unfold Go.RowKit.wrap64; omega
    have HX : Hid (skipV n x = { x with f1 := useS x.f1 n, f6 := x.f6 + n, f2 := if x.f3 = 1 then x.f2 else skipJobs n x.f2, f4 := if x.f3 = 2 then x.f4 + n else x.f4 }) := hZ rfl;have HSU2 : Hid (skipUp ids n l (i + 1) = lt.set i (skipV n x)) := hZ (by rw [HSU.out, if_pos hin]);generalize hu : useS x.f1 n = u at *;generalize skipV n x = xx at *;obtain ⟨_, r1, r2, r3, r4, r5, r6, r7, r8, r9, r10⟩ := HSERV.out;have hrow := HROW.out;have hsg := HGI.out;unfold agg54 at D;have hgo : o'.own .g = some g := by show o'.A.map _ = _; rw [HG.out]; rfl
    have hgS : ∀ b, b = g -> w1.heap.size <= b := fun b e => by omega
    have hbw : w1.heap.size <= wr.heap.size := by have := HT.out.size; omega
    clear hj hr hin hcbs hm1 hbn hu HSU HSERV HROW hsg
    go_upto_region 11 with (first | (go_at_call 86; (with_reducible refine DCt.mono ?_); rintro e w4 ⟨rfl, rfl⟩) | (go_at_call 87; (with_reducible refine (D _).mono ?_); rintro e w5 ⟨rfl, hB1⟩; have s1 := (hB1.cell (World.block_lt_of_cell? _ _ r1)).trans r1; have s2 := (hB1.cell (World.block_lt_of_cell? _ _ r2)).trans r2; have s3 := (hB1.cell (World.block_lt_of_cell? _ _ r3)).trans r3; have s4 := (hB1.cell (World.block_lt_of_cell? _ _ r4)).trans r4; have s5 := (hB1.cell (World.block_lt_of_cell? _ _ r5)).trans r5; have hfz := fun k => (hrow.below hB1).free k; have HB1 := hZ hB1; clear hB1))
    have HRow2 := hZ (serv_set54 (hrow.below HB1.out) hi1 u);have HT2 := hZ (turn_set54 (Turn.refl w5 (fun b => b = g)) rfl (i * 11 + 1) (.int .i64 u.f0) (.int .i64 u.f1) (.int .i64 u.f2) (.int .i64 u.f3) (.int .i64 u.f4));generalize hws : World.setCell _ _ _ = w6 at *;clear hws s1 s2 s3 s4 s5 hfz r0 r1 r2 r3 r4 r5 r6 r7 r8 r9 r10 hrow D DCt
    have HO2 : Hid (Own w6 B (lt.set i { x with f1 := u }) q o') := hZ (by
     have := (HO.out.below HB1.out).serv0 hi1 { lt[i] with f1 := u } rfl HG.out HT2.out HRow2.out
     rwa [HGI.out] at this)
    have hi2 : i < (lt.set i { x with f1 := u }).length := by rw [List.length_set]; exact hi1
    obtain ⟨hrow, hserv⟩ := HO2.out.cells hi2 HG.out;have hx1 : (lt.set i { x with f1 := u })[i] = { x with f1 := u } := List.getElem_set_self hi2;have hfz := hrow.free (i * 11 + 10);have r10 := hserv.e10;rw [hx1] at r10;dsimp only at r10;have HRow := hZ hrow;have HX1 := hZ hx1;clear hrow hserv hx1 HRow2
    go_upto_region 12 with fail
    have HRow3 := hZ (serv_set HRow.out (rows_at hi2) (j := 10) (by omega) (.int .i64 (x.f6 + n)));have HT3 := hZ ((Turn.refl w6 (fun b => b = g)).set rfl (i * 11 + 10) (.int .i64 (x.f6 + n)));generalize hws : World.setCell _ _ _ = w7 at *;clear hws r10 hfz HRow hw6
    have HO3 : Hid (Own w7 B (lt.set i { x with f1 := u, f6 := x.f6 + n }) q o') := hZ (by
     have := HO2.out.serv0 hi2 { x with f1 := u, f6 := x.f6 + n } (by rw [HX1.out]) HG.out HT3.out (by
      have h := HRow3.out;rw [HX1.out] at h;exact h)
     rwa [List.set_set] at this)
    clear HRow3 HO2 HX1 hi2;have hi2 : i < (lt.set i { x with f1 := u, f6 := x.f6 + n }).length := by rw [List.length_set]; exact hi1
    obtain ⟨hrow, hserv⟩ := HO3.out.cells hi2 HG.out;have hx1 : (lt.set i { x with f1 := u, f6 := x.f6 + n })[i] = { x with f1 := u, f6 := x.f6 + n } := List.getElem_set_self hi2;obtain ⟨r0, r1, r2, r3, r4, r5, r6, r7, r8, r9, r10⟩ := hserv;have HTA : Hid (Turn w3 w7 (fun b => w1.heap.size <= b)) := hZ (((HT.out.trans (Turn.of_below _ HB1.out)).trans (HT2.out.imp hgS)).trans (HT3.out.imp hgS));rw [hx1] at r6 r7 r8;dsimp only at r6 r7 r8;rw [hxj] at r6;have HX1 := hZ hx1;have HX0 := hZ hxj;have hf6 := hrow.free (i * 11 + 6);have HRow := hZ hrow;have hsz7 : w1.heap.size <= w7.heap.size := by have := HTA.out.size; omega
    clear HT2 HT3 HB1 hrow hx1 r0 r1 r2 r3 r4 r5 r9 r10 hxj HO HT hbw;by_cases h1 : x.f3 = 1
    ·rw [h1] at r7
     have HXX : Hid (xx = { x with f1 := u, f6 := x.f6 + n }) := hZ (by
      rw [HX.out, if_pos h1, if_neg (by omega)])
     go_wp2;go_roundw
     case rel => exact ⟨i + 1, o', by go_num, by omega, e1, e2, e3, e4, hZ (by rw [HSU2.out, HXX.out]; exact HO3.out), HN, HTA⟩
     case measure => first | (simp [intOf]; done) | (simp [intOf]; omega)
    ·have g1 : (x.f3 != 1) = true := by simpa using h1
     have hj3 := hj2 h1;have hJA := HO3.out.jobs i hi2;obtain ⟨b, oo, rr, hb, hjrow, hpr⟩ := hJA.row (by rw [HX1.out]; simp [HX0.out]);have hjm := hJA.max;rw [HX1.out] at hjrow hpr hjm;dsimp only at hjrow hpr hjm;rw [HX0.out] at hjrow hpr hjm;rw [hb] at r6;have HPR := hZ hpr;have DC := fun wx (hb : Below w7.heap.size w7 wx) => clone125 (some ⟨b, oo, none⟩) (js.length + 1) (o'.r i).2 _ wx (Kd.C_below (raw_jobs hjrow hjm) hb) hjm
     clear hJA hjrow hpr hb hj2
     go_upto_region 14 with (go_at_call 50; (with_reducible refine (DC _ (Below.refl _ _)).mono ?_); rintro e w8 ⟨v5, rfl, hR5, hB5⟩; obtain ⟨A5, c5, e5, hc5, _⟩ := Kd.R_reads hR5; rw [rowsOf_len, List.length_cons] at e5 hc5; subst e5; have HR5 := hZ hR5; have f6 := (HRow.out.below hB5).free (i * 11 + 6); have s6 := (hB5.cell (World.block_lt_of_cell? _ _ r6)).trans r6; have HB5 := hZ hB5; clear hR5 hB5)
     have HRow8 := hZ (serv_set (HRow.out.below HB5.out) (rows_at hi2) (j := 6) (by omega) (.slice A5 (js.length + 1) c5));have HT8 := hZ ((Turn.refl w8 (fun b => b = g)).set rfl (i * 11 + 6) (.slice A5 (js.length + 1) c5));generalize hws : World.setCell _ _ _ = w9 at *;clear hws f6 s6 hf6 HRow DC;have hne1 : rowsOf jobRow (j :: js) rr ≠ [] := by intro e; have := congrArg List.length e; rw [rowsOf_len] at this; simp at this
     obtain ⟨b5, cap5, e5, _, _, hb5, _, hj5⟩ := row_of_R HR5.out (List.length_pos_iff.2 hne1);injection e5 with e5 hle e6;clear hle;subst e5;have hb5l := Kd.R_lt HR5.out b5 rfl;have hbg : b5 ≠ g := by have := (HO3.out.bnd .g g hgo).2; omega
     have HJ9 : Hid (RowAt w9 b5 0 4 125 (rowsOf jobRow (j :: js) rr)) := hZ (hj5.turn HT8.out hbg);have HPR8 : Hid (Progs w8 B (j :: js) rr) := hZ (HPR.out.below HB5.out);have HPR9 : Hid (Progs w9 B (j :: js) rr) := hZ (fun k hk => ⟨(HPR8.out k hk).1, fun W' hW => (HPR8.out k hk).2 W' (fun b2 hb2 hlt2 => by rw [hW b2 hb2 (Nat.lt_of_lt_of_le hlt2 HT8.out.size)]; exact HT8.out.block b2 hlt2 (fun e => by have := (HO3.out.bnd .g g hgo).1; have := B.lt b2 hb2; omega))⟩)
     have HO9 : Hid (Own w9 B (lt.set i { x with f1 := u, f6 := x.f6 + n }) q { o' with r := upd o'.r i (some ⟨b5, 0, none⟩, c5) }) := hZ (by
      have h8 := HO3.out.below HB5.out
      have := h8.servNew hi2 { x with f1 := u, f6 := x.f6 + n } (some ⟨b5, 0, none⟩, c5) HG.out HT8.out (by
       have h := HRow8.out;rw [HX1.out] at h
       have e : servRow { x with f1 := u, f6 := x.f6 + n } (some ⟨b5, 0, none⟩, c5) = (servRow { x with f1 := u, f6 := x.f6 + n } (o'.r i)).set 6 (.slice (some ⟨b5, 0, none⟩) (js.length + 1) c5) := by
        unfold servRow;rw [HX0.out];rfl
       rw [e]
       exact h) ⟨by rw [HX0.out]; simpa using hc5, by rw [HX0.out]; exact hjm, fun _ => ⟨b5, 0, rr, rfl, by rw [HX0.out]; exact HJ9.out, by rw [HX0.out]; exact HPR9.out⟩⟩ (fun b2 e => by
        have e2 : b5 = b2 := by simpa [ob] using e
        subst e2;have hsz := HO3.out.old;refine ⟨fun c hc => ?_, by omega, Nat.lt_of_lt_of_le hb5l HT8.out.size⟩;have := (HO3.out.bnd c _ hc).2;omega)
      rw [List.set_set] at this;exact this)
     have HTB : Hid (Turn w3 w9 (fun b => w1.heap.size <= b)) := hZ ((HTA.out.trans (Turn.of_below _ HB5.out)).trans (HT8.out.imp hgS))
     have HN9 : Hid (∀ cc b, ({ o' with r := upd o'.r i (some ⟨b5, 0, none⟩, c5) } : OwnR).own cc = some b -> (cc ≠ .g /\ ∃ c2, o.own c2 = some b) \/ w1.heap.size <= b) := hZ (fun cc b hc => by
      cases cc with
      | g => exact HN.out .g b hc
      | h => exact HN.out .h b hc
      | q k => exact HN.out (.q k) b hc
      | j k =>
       change ob (upd o'.r i _ k) = some b at hc;by_cases e : k = i
       ·subst e;rw [upd_self] at hc;have e2 : b5 = b := by simpa [ob] using hc
        exact .inr (by omega)
       ·rw [upd_ne _ _ e] at hc;exact HN.out (.j k) b hc)
     have hb5w : w1.heap.size <= b5 := by omega
     have hg9 : ({ o' with r := upd o'.r i (some ⟨b5, 0, none⟩, c5) } : OwnR).A = some ⟨g, 0, none⟩ := HG.out;have hri : ({ o' with r := upd o'.r i (some ⟨b5, 0, none⟩, c5) } : OwnR).r i = (some ⟨b5, 0, none⟩, c5) := upd_self _ _ _;have HRI := hZ hri;have hA9 : ({ o' with r := upd o'.r i (some ⟨b5, 0, none⟩, c5) } : OwnR).c = c7 /\ ({ o' with r := upd o'.r i (some ⟨b5, 0, none⟩, c5) } : OwnR).A2 = o.A2 /\ ({ o' with r := upd o'.r i (some ⟨b5, 0, none⟩, c5) } : OwnR).c2 = o.c2 := ⟨e2, e3, e4⟩;have HG9 := hZ hg9;have HA9 := hZ hA9;generalize ({ o' with r := upd o'.r i (some ⟨b5, 0, none⟩, c5) } : OwnR) = o9 at *;clear hg9 hri hA9 HN HTA HO3 HRow8 HT8 HB5 hj5 HR5 hne1 HPR HPR8 hb5l e1 e2 e3 e4 HG hgo;have hserv9 := HO9.out.cells hi2 HG9.out;have r6 := hserv9.2.e6;rw [HX1.out, HRI.out] at r6;dsimp only at r6;rw [HX0.out] at r6;simp only [List.length_cons] at r6;have hCp : Hid (Kd.C k72 w9 (rr 0).1 j.f1.length j.f1) := hZ ((HPR9.out 0 (by simp)).2 w9 (fun _ _ _ => rfl));have hlen : (0 : Int) < ((js.length : Int) + 1) := by omega
     have DR := fun wx (hh : Below w9.heap.size w9 wx) => jrun_calls j (rr 0).1 (rr 0).2 n wx (Kd.C_below hCp.out hh) HJ.out (by omega) (by omega)
     have HS9 := hZ hserv9;clear r7 r8 hserv9
     go_upto_region 14 with fail
     refine start_ (n := 17) (S := fun w' => Hid (RowAt w' b5 0 4 125 (rowsOf jobRow (j :: js) rr)) /\ w'.cell? ⟨g, i * 11 + 6, none⟩ = some (.slice (some ⟨b5, 0, none⟩) (js.length + 1) c5) /\ Hid (Below w9.drew.heap.size w9.drew w')) (ds := [16]) #[false, false, false, false, false, false, false, false, false, false, false, false, false, false, false, false, false] (by kernel_rfl) rfl rfl ⟨(hZ HJ9.out.drew), (show w9.drew.cell? _ = _ from r6), (hZ (Below.refl w9.drew.heap.size w9.drew))⟩ (fun hHeld => ?_);refine with_tabW skip.tab14 skip.bits14 (fun HT_ HW_ => ?_);have hbd : Hid (Below w9.heap.size w9 w9.drew) := hZ ⟨rfl, rfl, rfl, Nat.le_refl _, fun _ _ => rfl⟩;have hsd : w9.heap.size = w9.drew.heap.size := rfl;generalize hwd : w9.drew = wd at *;clear hwd;refine pst 0 (some 72) HT_ ?_;refine pst 1 (some 73) HT_ ?_;refine pst 2 (some 74) HT_ ?_;refine pst 4 (some 76) HT_ ?_;refine pst 5 (some 77) HT_ ?_;refine pst 6 (some 78) HT_ ?_;refine pst 10 (some 82) HT_ ?_;refine tst 3 (some 75) HT_ HW_ hHeld ?_ (hy := by (rintro w' ⟨s0, s1, s2⟩; obtain ⟨e0, e1, e2, e3⟩ := job_at s0.out); go_simp; with_reducible rfl);refine tst 7 (some 79) HT_ HW_ hHeld ?_ (hy := by (rintro w' ⟨s0, s1, s2⟩; obtain ⟨e0, e1, e2, e3⟩ := job_at s0.out); go_simp; with_reducible rfl);refine pst 8 (some 80) HT_ ?_;refine tst 9 (some 81) HT_ HW_ hHeld ?_ (hy := by (rintro w' ⟨s0, s1, s2⟩; obtain ⟨e0, e1, e2, e3⟩ := job_at s0.out); go_simp; with_reducible rfl);refine one_ (i := 11) (N := some 83) #[true, true, true, true, true, true, true, true, true, true, true, true, false, false, false, false, false] rfl rfl (one_of HT_.out (by kernel_rfl)) (by decide) (fun K hK => ?_);refine goes_ Tryz.func88 (by kernel_rfl) rfl #[.agg #[.int .i64 j.f0, .slice (rr 0).1 j.f1.length (rr 0).2, .int .i64 j.f2, .int .i64 j.f3], .int .i64 n] (by rfl) rfl rfl (by simp only [List.map_toArray, List.map_cons, List.map_nil]; rfl) ?_;with_reducible refine (DR _ (hbd.out.trans (hHeld.2.2.out.mono hbd.out.size))).mono ?_;rintro e w10 ⟨rfl, hB10⟩;refine ⟨_, rfl, ?_⟩;refine hK.out _ _ ⟨(hZ (hHeld.1.out.below hB10)), ((hB10.cell (World.block_lt_of_cell? _ _ hHeld.2.1)).trans hHeld.2.1), (hZ (hHeld.2.2.out.trans (hB10.mono hHeld.2.2.out.size)))⟩ (fun hHeld => ?_);clear hK K;refine norm_ (a' := ?_) ?_ ?_;rotate_left
     ·show Act.put _ (some 83) _ = _;simp only [Act.put, List.setIfInBounds_toArray, List.set_cons_zero, List.set_cons_succ, i64_w, i32_w];rfl
     refine pst 12 (some 71) HT_ ?_;refine pst 13 (some 84) HT_ ?_;refine pst 14 (some 85) HT_ ?_;refine pst 15 (some 86) HT_ ?_;refine last_ (i := 16) (N := none) #[true, true, true, true, true, true, true, true, true, true, true, true, true, true, true, true, true] rfl rfl (one_of HT_.out (by kernel_rfl)) (by decide) (fun K hK => ?_);obtain ⟨x0, x1, x2, x3⟩ := job_at hHeld.1.out;have y := hHeld.1.out.free;refine skip_ (w1 := ?_) (by rfl) rfl ?_ ?_;rotate_left
     ·go_simp;rfl
     have HJ11 := hZ (job_set hHeld.1.out (.int .i64 j.f0) (.slice (rr 0).1 j.f1.length (rr 0).2) (.int .i64 j.f2) (.int .i64 (j.f3 + n)));have HT11 := hZ (turn_set4 (Turn.refl w10 (fun k => k = b5)) rfl 0 (.int .i64 j.f0) (.slice (rr 0).1 j.f1.length (rr 0).2) (.int .i64 j.f2) (.int .i64 (j.f3 + n)));clear x0 x1 x2 x3 y;generalize hws : World.setCell _ _ _ = w11 at *;clear hws;refine hK.out _ _ ?_;clear hK K;refine done_ (done_of HT_.out (by kernel_rfl)) ?_;have HB10 := hZ (hbd.out.trans (hHeld.2.2.out.mono hbd.out.size));have hbo : o9.own (.j i) = some b5 := by show ob (o9.r i) = _; rw [HRI.out]; rfl
     have HO11 : Hid (Own w11 B (lt.set i { x with f1 := u, f6 := x.f6 + n, f2 := { j with f3 := j.f3 + n } :: js }) q o9) := hZ (by
      have h5 := HO9.out.below HB10.out;have := h5.job hi2 (j := j) (js := js) (j' := { j with f3 := j.f3 + n }) (by rw [HX1.out]; exact HX0.out) rfl (by rw [HRI.out]) (HPR9.out.below HB10.out) HT11.out HJ11.out;rw [HX1.out, List.set_set] at this;exact this)
     have HTC : Hid (Turn w3 w11 (fun b => w1.heap.size <= b)) := hZ ((HTB.out.trans (Turn.of_below _ HB10.out)).trans (HT11.out.imp (fun b e => by omega)));clear hHeld hB10 HB10 hbd hsd HT11 HJ11 HTB HO9 HPR9 HJ9 hi2 HX1 r6 DR hCp hlen HS9 HT_ HW_;have hi2 : i < (lt.set i { x with f1 := u, f6 := x.f6 + n, f2 := { j with f3 := j.f3 + n } :: js }).length := by rw [List.length_set]; exact hi1
     obtain ⟨hrow, hserv⟩ := HO11.out.cells hi2 HG9.out;have hx1 : (lt.set i { x with f1 := u, f6 := x.f6 + n, f2 := { j with f3 := j.f3 + n } :: js })[i] = { x with f1 := u, f6 := x.f6 + n, f2 := { j with f3 := j.f3 + n } :: js } := List.getElem_set_self hi2;have r7 := hserv.e7;have r8 := hserv.e8;rw [hx1] at r7 r8;dsimp only at r7 r8;have HRow := hZ hrow;have hfz := hrow.free (i * 11 + 8);have HX1 := hZ hx1;have hgo : o9.own .g = some g := by show o9.A.map _ = _; rw [HG9.out]; rfl
     clear hrow hserv hx1;by_cases h2 : x.f3 = 2
     ·have g2 : (x.f3 == 2) = true := by simpa using h2
      go_wp2;have HRow8 := serv_set HRow.out (rows_at hi2) (j := 8) (by omega) (.int .i64 (x.f4 + n));have HT8 := ((Turn.refl w11 (fun b => b = g)).set rfl (i * 11 + 8) (.int .i64 (x.f4 + n)))
      have HO12 := HO11.out.serv0 hi2 { x with f1 := u, f6 := x.f6 + n, f2 := { j with f3 := j.f3 + n } :: js, f4 := x.f4 + n } (by rw [HX1.out]) HG9.out HT8 (by
       rw [HX1.out] at HRow8;exact HRow8)
      rw [List.set_set] at HO12;have HXX : xx = { x with f1 := u, f6 := x.f6 + n, f2 := { j with f3 := j.f3 + n } :: js, f4 := x.f4 + n } := by rw [HX.out, if_neg h1, if_pos h2, HX0.out]; rfl
      rw [<- HXX] at HO12;have HO13 := hZ HO12;have HTD := hZ (HTC.out.trans (HT8.imp hgS));clear HRow8 HT8 HO12;go_roundw
      case rel => exact ⟨i + 1, o9, by go_num, by omega, HG9.out, HA9.out.1, HA9.out.2.1, HA9.out.2.2, hZ (by rw [HSU2.out]; exact HO13.out), HN9, HTD⟩
      case measure => first | (simp [intOf]; done) | (simp [intOf]; omega)
     ·have g2 : (x.f3 == 2) = false := by simpa using h2
      have HXX : Hid (xx = { x with f1 := u, f6 := x.f6 + n, f2 := { j with f3 := j.f3 + n } :: js }) := hZ (by rw [HX.out, if_neg h1, if_neg h2, HX0.out]; rfl);go_wp2;go_roundw
      case rel => exact ⟨i + 1, o9, by go_num, by omega, HG9.out, HA9.out.1, HA9.out.2.1, HA9.out.2.2, hZ (by rw [HSU2.out, HXX.out]; exact HO11.out), HN9, HTC⟩
      case measure => first | (simp [intOf]; done) | (simp [intOf]; omega)
   ·have gin : decide (x.f0 ∈ ids) = false := by simpa using hin
    go_wp2_with (go_at_call 86; (with_reducible refine DCt.mono ?_); rintro e w4 ⟨rfl, rfl⟩)
    go_roundw
    case rel =>
     refine ⟨i + 1, o', by go_num, by omega, e1, e2, e3, e4, hZ ?_, HN, HT⟩;rw [HSU.out, if_neg hin];have : lt.set i x = lt := by rw [<- HGI.out]; exact List.set_getElem_self hi1
     rw [this];exact HO.out
    case measure => first | (simp [intOf]; done) | (simp [intOf]; omega)
  ·have hie : i = l.length := by omega
   subst hie;rw [HALL.out] at HO;have HX4 := hZ ((HT.out.block _ (blk_lt HX3.out) (by omega)).trans HX3.out);have HZ4 := hZ ((HT.out.block _ (blk_lt HZ3.out) (by omega)).trans HZ3.out);have HB4 : Hid (Below w.heap.size w wr) := hZ (Turn.below HB3.out HT.out (fun b e => by omega) (by omega));have hle : w1.heap.size <= wr.heap.size := by have := HT.out.size; omega
   have hfl : fin.length = l.length := by rw [<- HALL.out, skipUp_len]
   clear HT HX3 HZ3 HB3 HC3 HALL HRUN HL6;have x4 := (blk_cell HX4.out 4).trans rfl
   go_upto_region 20 with (go_at_call 89; (with_reducible refine (turns_calls _ _ _ _).mono ?_); rintro e w5 ⟨rfl, hB5⟩; have HX5 := hZ (blk_below HX4.out hB5); have HB5 := hZ hB5; have y1 := (blk_cell HX5.out 1).trans rfl; have y4 := (blk_cell HX5.out 4).trans rfl; have f1 := blk_frozen HX5.out 1; have f4 := blk_frozen HX5.out 4; clear hB5)
   have HX6 := hZ (blk_put (cs' := #[.int .i64 M, .int .i64 (now + n), .slice A7 l.length c7, .slice o.A2 q.length o.c2, .slice A4 0 c4]) (blk_put (cs' := #[.int .i64 M, .int .i64 now, .slice A7 l.length c7, .slice o.A2 q.length o.c2, .slice A4 0 c4]) HX5.out 4 (.slice A4 0 c4) rfl) 1 (.int .i64 (now + n)) rfl);have HT6 := hZ (((Turn.refl w5 (fun b => b = w.heap.size)).set rfl 4 (.slice A4 0 c4)).set rfl 1 (.int .i64 (now + n)));generalize hws : World.setCell _ _ _ = w6 at *;clear hws y1 y4 f1 f4 x4;have HZ6 := hZ ((HT6.out.block _ (by have := blk_lt (blk_below HZ4.out HB5.out); omega) (by omega)).trans (blk_below HZ4.out HB5.out));have x0 := (blk_cell HX6.out 0).trans rfl;have x1 := (blk_cell HX6.out 1).trans rfl;have x2 := (blk_cell HX6.out 2).trans rfl;have x3 := (blk_cell HX6.out 3).trans rfl;have x4 := (blk_cell HX6.out 4).trans rfl;have z0 := (blk_cell HZ6.out 0).trans rfl;have z1 := (blk_cell HZ6.out 1).trans rfl;have z2 := (blk_cell HZ6.out 2).trans rfl;have z3 := (blk_cell HZ6.out 3).trans rfl;have z4 := (blk_cell HZ6.out 4).trans rfl;have f0 := blk_frozen HZ6.out 0;have f1 := blk_frozen HZ6.out 1;have f2 := blk_frozen HZ6.out 2;have f3 := blk_frozen HZ6.out 3;have f4 := blk_frozen HZ6.out 4;have HZ7 := hZ (blk_put (cs' := #[.int .i64 M, .int .i64 (now + n), .slice A7 l.length c7, .slice o.A2 q.length o.c2, .slice A4 0 c4]) (blk_put (blk_put (blk_put (blk_put HZ6.out 0 (.int .i64 M) rfl) 1 (.int .i64 (now + n)) rfl) 2 (.slice A7 l.length c7) rfl) 3 (.slice o.A2 q.length o.c2) rfl) 4 (.slice A4 0 c4) rfl);have HT7 := hZ (((((Turn.refl w6 (fun k => k = w.heap.size + 1)).set rfl 0 (.int .i64 M)).set rfl 1 (.int .i64 (now + n))).set rfl 2 (.slice A7 l.length c7)).set rfl 3 (.slice o.A2 q.length o.c2)).set rfl 4 (.slice A4 0 c4);go_wp2;refine bodyPost_ret (results_cell_row rfl _ _ (w.heap.size + 1) 47 #[.int .i64 M, .int .i64 (now + n), .slice A7 l.length c7, .slice o.A2 q.length o.c2, .slice A4 0 c4] (0, 0) _ rfl HZ7.out Tryz.underlying47 rfl (by kernel_rfl)) rfl ?_;generalize hwf : World.setCell _ _ _ = wf at *;clear hwf x0 x1 x2 x3 x4 z0 z1 z2 z3 z4 f0 f1 f2 f3 f4;have hoo := HO.out.old;have hN := HN.out;have hob := HOB.out
   have hown : ∀ cc b, o'.own cc = some b -> b ≠ w.heap.size /\ b ≠ w.heap.size + 1 := fun cc b hc => by
    rcases hN cc b hc with ⟨_, c2, h⟩ | h
    ·have := hob c2 b h; omega
    ·omega
   have hBn : B.n <= w.heap.size := HOLD.out;have h1 := (HO.out.below HB5.out).keep HT6.out (fun b e => by omega) (fun cc b hc e => (hown cc b hc).1 e);have h2 := h1.keep HT7 (fun b e => by omega) (fun cc b hc e => (hown cc b hc).2 e);have hs5 := HB5.out.size;have hs6 := HT6.out.size;refine ⟨o', A4, c4, ?_, h2, fun cc b hc => ?_, ?_⟩
   ·rw [e1, e2, e3, e4, hfl]
   ·rcases hN cc b hc with ⟨_, h⟩ | h
    ·exact .inl h
    ·exact .inr (by omega)
   ·exact Turn.below (Turn.below (HB4.out.trans (HB5.out.mono (by omega))) HT6.out (fun b e => by omega) (by omega)) HT7 (fun b e => by omega) (by omega)
def RdF (w : World) (F : Nat -> Prop) (B : Bd) (A : Option Addr) (l : List S57) (A2 : Option Addr) (q : List S63) : Prop :=
 ∀ W' : World, (∀ b, (F b \/ B.G b) -> b < w.heap.size -> W'.heap[b]? = w.heap[b]?) -> Rd W' B A l A2 q
theorem RdF.now {w : World} {F : Nat -> Prop} {B : Bd} {A : Option Addr} {l : List S57} {A2 : Option Addr} {q : List S63} (h : RdF w F B A l A2 q) : Rd w B A l A2 q := h w (fun _ _ _ => rfl)
theorem RdF.keep {w w' : World} {F : Nat -> Prop} {B : Bd} {A : Option Addr} {l : List S57} {A2 : Option Addr} {q : List S63} (h : RdF w F B A l A2 q) {S : Nat -> Prop} (ht : Turn w w' S) (hS : ∀ b, S b -> ¬ F b /\ ¬ B.G b) : RdF w' F B A l A2 q := fun W' hW => h W' (fun b hb hlt => by
 rw [hW b hb (Nat.lt_of_lt_of_le hlt ht.size)];exact ht.block b hlt (fun e => hb.elim (hS b e).1 (hS b e).2))
theorem RdF.below {w w' : World} {F : Nat -> Prop} {B : Bd} {A : Option Addr} {l : List S57} {A2 : Option Addr} {q : List S63} (h : RdF w F B A l A2 q) (hb : Below w.heap.size w w') : RdF w' F B A l A2 q := h.keep (S := fun _ => False) (Turn.of_below _ hb) (fun _ e => e.elim)
theorem Own.rdf {w : World} {B : Bd} {l : List S57} {q : List S63} {o : OwnR} (h : Own w B l q o) : RdF w (fun b => ∃ c, o.own c = some b) B o.A l o.A2 q := fun W' hW => by
 have hown : ∀ c b, o.own c = some b -> W'.heap[b]? = w.heap[b]? := fun c b hc => hW b (.inl ⟨c, hc⟩) (h.bnd c b hc).2
 refine ⟨⟨o.r, ?_, fun i hi => ?_⟩, ?_⟩
 ·by_cases hx : l = []
  ·subst hx; exact C_nil' _ _ _
  ·obtain ⟨g, e, hr⟩ := h.row hx;rw [e, <- rowsOf_len (f := servRow) (r := o.r)];exact raw_of_row (hr.same (hown .g g (by show o.A.map _ = _; rw [e]; rfl))) (by rw [rowsOf_len]; have := h.max; omega) (mem_rowsOf (fun x p u hu => by simp only [servRow, List.mem_cons, List.not_mem_nil, or_false] at hu; rcases hu with rfl | rfl | rfl | rfl | rfl | rfl | rfl | rfl | rfl | rfl | rfl <;> rfl))
 ·have hj := h.jobs i hi;refine ⟨hj.cap, ?_⟩;by_cases hx : l[i].f2 = []
  ·exact ⟨fun _ => (none, 0), by rw [hx]; exact C_nil' _ _ _, fun k hk => by rw [hx] at hk; simp at hk⟩
  ·obtain ⟨b, oo, rr, e, hr, hp⟩ := hj.row hx;refine ⟨rr, ?_, fun k hk => ⟨(hp k hk).1, fun W2 hW2 => (hp k hk).2 W2 (fun b2 hb2 hlt => ?_)⟩⟩
   ·rw [e];exact raw_jobs (hr.same (hown (.j i) b (by show ob (o.r i) = _; rw [ob, e]; rfl))) hj.max
   ·have e2 := hW b2 (.inr hb2) hlt;rw [<- e2];refine hW2 b2 hb2 ?_;have h3 : w.heap[b2]? = some (w.heap[b2]) := Array.getElem?_eq_getElem hlt;rw [h3] at e2;exact (Array.getElem?_eq_some_iff.1 e2).1
 ·by_cases hx : q = []
  ·subst hx; exact C_nil' _ _ _
  ·obtain ⟨g, e, hr⟩ := h.lok hx;rw [e];refine RowAt.kd (d := k63) (hr.same (hown .h g (by show o.A2.map _ = _; rw [e]; rfl))) rowsOf_len (by have := h.max; omega) (fun i h1 h2 => ?_);rw [rowsOf_get h1];exact k63_mk W' q[i] (h.que i h1).1 ((h.que i h1).2 W' (fun b hb hlt => hown _ b hb))
theorem tickL_few (M now : Int) (l : List S57) (q : List S63) (hl : l.length <= 12) (h2 : (settleL M now l q).1.length <= 12) : (tickL M now l q).2.2.length <= 150 := by
 unfold tickL;dsimp only;have h1 := settleL_few M now l q hl;have h3 := endAll_few (now + 1) (runAll (settleL M now l q).1 (placesOf M (settleL M now l q).1)) (settleL M now l q).2.1 (placesOf M (settleL M now l q).1);have h4 := places_len (M := M) h2;rw [List.length_append];omega
structure GoInv (M en : Int) (I : Int -> List S57 -> List S63 -> Prop) : Prop where
 ok : ∀ now l q, I now l q -> now < en -> MOk M now l q /\ StillOk M now (settleL M now l q).1 (settleL M now l q).2.1
 skip : ∀ now l q, I now l q -> now < en -> 0 < stillL M now (en - now) (settleL M now l q).1 (settleL M now l q).2.1 -> SkipOk M (stillL M now (en - now) (settleL M now l q).1 (settleL M now l q).2.1) (settleL M now l q).1 /\ now + stillL M now (en - now) (settleL M now l q).1 (settleL M now l q).2.1 <= en /\ I (now + stillL M now (en - now) (settleL M now l q).1 (settleL M now l q).2.1) (skipL M (stillL M now (en - now) (settleL M now l q).1 (settleL M now l q).2.1) (settleL M now l q).1) (settleL M now l q).2.1
 tick : ∀ now l q, I now l q -> now < en -> stillL M now (en - now) (settleL M now l q).1 (settleL M now l q).2.1 <= 0 -> TickOk M now (settleL M now l q).1 (settleL M now l q).2.1 /\ I (now + 1) (tickL M now (settleL M now l q).1 (settleL M now l q).2.1).1 (tickL M now (settleL M now l q).1 (settleL M now l q).2.1).2.1
def stX (M now : Int) (A : Option Addr) (n c : Nat) (A2 : Option Addr) (n2 c2 : Nat) (A3 : Option Addr) (c3 : Nat) : Array Value := #[.int .i64 M, .int .i64 now, .slice A n c, .slice A2 n2 c2, .slice A3 0 c3]
structure Gb (M now : Int) (N : Nat) (B : Bd) (F0 : Nat -> Prop) (w0 : World) (l : List S57) (q : List S63) (E : List Ev) (A : Option Addr) (c : Nat) (A2 : Option Addr) (c2 : Nat) (A4 : Option Addr) (c4 : Nat) (v : Value) (w : World) : Prop where
 X : w.heap[N]? = some (.cells (stX M now A l.length c A2 q.length c2 A4 c4) 47 (0, 0))
 Z : w.heap[N + 1]? = some (.cells (stX 0 0 none 0 0 none 0 0 none 0) 47 (0, 0))
 E : (Kd.raw 4).R 67 w N (fun _ => True) v (E.map Ev.cells)
 VB : ∀ b, v.ownBlock = some b -> N + 1 < b
 Bl : Below N w0 w
 N0 : N = w0.heap.size
 F1 : ∀ b, F0 b -> b < N
 BN : B.n <= N
structure Gk (M now : Int) (N : Nat) (B : Bd) (F0 : Nat -> Prop) (w0 : World) (l : List S57) (q : List S63) (E : List Ev) (A : Option Addr) (c : Nat) (A2 : Option Addr) (c2 : Nat) (A4 : Option Addr) (c4 : Nat) (v : Value) (w : World) : Prop extends Gb M now N B F0 w0 l q E A c A2 c2 A4 c4 v w where
 R : ∃ F, RdF w F B A l A2 q /\ ∀ b, F b -> (F0 b \/ N + 1 < b) /\ b < w.heap.size /\ v.ownBlock ≠ some b
section
variable {M now : Int} {N : Nat} {B : Bd} {F0 : Nat -> Prop} {w0 : World} {l : List S57} {q : List S63} {E : List Ev} {A : Option Addr} {c : Nat} {A2 : Option Addr} {c2 : Nat} {A4 : Option Addr} {c4 : Nat} {v : Value} {w w' : World}
theorem Gb.turn (h : Gb M now N B F0 w0 l q E A c A2 c2 A4 c4 v w) {S : Nat -> Prop} (ht : Turn w w' S) (hS : ∀ b, S b -> N + 1 < b /\ v.ownBlock ≠ some b) : Gb M now N B F0 w0 l q E A c A2 c2 A4 c4 v w' where
 X := (ht.block _ (blk_lt h.X) (fun e => by have := hS _ e; omega)).trans h.X
 Z := (ht.block _ (blk_lt h.Z) (fun e => by have := hS _ e; omega)).trans h.Z
 E := Kd.R_reok rfl (Kd.R_step (Kd.R_tight rfl h.E) (fun b hb hlt => ht.block b hlt (fun e => (hS b e).2 hb.symm))) (fun _ _ => trivial)
 VB := h.VB
 Bl := Turn.below h.Bl ht (fun b e => by have := hS b e; omega) (by rw [h.N0]; exact h.Bl.size)
 N0 := h.N0
 F1 := h.F1
 BN := h.BN
theorem Gk.below (h : Gk M now N B F0 w0 l q E A c A2 c2 A4 c4 v w) (hb : Below w.heap.size w w') : Gk M now N B F0 w0 l q E A c A2 c2 A4 c4 v w' where
 toGb := h.toGb.turn (S := fun _ => False) (Turn.of_below _ hb) (fun _ e => e.elim)
 R := by
  obtain ⟨F, h1, h2⟩ := h.R;exact ⟨F, h1.below hb, fun b hF => ⟨(h2 b hF).1, Nat.lt_of_lt_of_le (h2 b hF).2.1 hb.size, (h2 b hF).2.2⟩⟩
theorem Gb.ev (h : Gb M now N B F0 w0 l q E A c A2 c2 A4 c4 v w) {v' : Value} (ht : Turn w w' (fun b => some b = v.ownBlock)) {E' : List Ev} (hR : (Kd.raw 4).R 67 w' N (fun _ => True) v' (E.map Ev.cells ++ E'.map Ev.cells)) (hat : v'.ownBlock = v.ownBlock \/ ∃ b, v'.ownBlock = some b /\ w.heap.size <= b) : Gb M now N B F0 w0 l q (E ++ E') A c A2 c2 A4 c4 v' w' := by
 have hS := fun b (e : some b = v.ownBlock) => h.VB b e.symm
 have hNZ := blk_lt h.Z;refine ⟨?_, ?_, by rw [List.map_append]; exact hR, fun b hb => ?_, ?_, h.N0, h.F1, h.BN⟩
 ·exact (ht.block _ (blk_lt h.X) (fun e => by have := hS _ e; omega)).trans h.X
 ·exact (ht.block _ (blk_lt h.Z) (fun e => by have := hS _ e; omega)).trans h.Z
 ·rcases hat with e2 | ⟨b2, e2, hle⟩
  ·exact h.VB b (by rw [<- e2]; exact hb)
  ·rw [e2] at hb; injection hb with hb; omega
 ·exact Turn.below h.Bl ht (fun b e => by have := hS b e; omega) (by rw [h.N0]; exact h.Bl.size)
theorem Gk.ev (h : Gk M now N B F0 w0 l q E A c A2 c2 A4 c4 v w) {v' : Value} (ht : Turn w w' (fun b => some b = v.ownBlock)) {E' : List Ev} (hR : (Kd.raw 4).R 67 w' N (fun _ => True) v' (E.map Ev.cells ++ E'.map Ev.cells)) (hat : v'.ownBlock = v.ownBlock \/ ∃ b, v'.ownBlock = some b /\ w.heap.size <= b) : Gk M now N B F0 w0 l q (E ++ E') A c A2 c2 A4 c4 v' w' := by
 have hS := fun b (e : some b = v.ownBlock) => h.VB b e.symm
 have hBN := h.BN;refine ⟨h.toGb.ev ht hR hat, ?_⟩;obtain ⟨F, h1, h2⟩ := h.R;refine ⟨F, h1.keep ht (fun b e => ⟨fun hF => (h2 b hF).2.2 e.symm, fun hG => by have := hS b e; have := B.lt b hG; omega⟩), fun b hF => ⟨(h2 b hF).1, Nat.lt_of_lt_of_le (h2 b hF).2.1 ht.size, fun e => ?_⟩⟩;rcases hat with e2 | ⟨b2, e2, hle⟩
 ·rw [e2] at e; exact (h2 b hF).2.2 e
 ·rw [e2] at e;injection e with e;have := (h2 b hF).2.1;omega
theorem Gb.next (h : Gb M now N B F0 w0 l q E A c A2 c2 A4 c4 v w) {now' : Int} {l' : List S57} {q' : List S63} {o : OwnR} {A5 : Option Addr} {c5 : Nat} (hO : Own w B l' q' o) (hown : ∀ cc b, o.own cc = some b -> N + 1 < b /\ v.ownBlock ≠ some b) (ht : Turn w w' (fun b => b = N)) (hX : w'.heap[N]? = some (.cells (stX M now' o.A l'.length o.c o.A2 q'.length o.c2 A5 c5) 47 (0, 0))) : Gk M now' N B F0 w0 l' q' E o.A o.c o.A2 o.c2 A5 c5 v w' where
 X := hX
 Z := (ht.block _ (blk_lt h.Z) (by omega)).trans h.Z
 R := by
  refine ⟨fun b => ∃ c, o.own c = some b, hO.rdf.keep ht (fun b e => ⟨fun ⟨c, hc⟩ => by have := (hown c b hc).1; omega, fun hG => by have := h.BN; have := B.lt b hG; omega⟩), fun b ⟨c, hc⟩ => ⟨.inr (hown c b hc).1, Nat.lt_of_lt_of_le (hO.bnd c b hc).2 ht.size, (hown c b hc).2⟩⟩
 E := Kd.R_reok rfl (Kd.R_step (Kd.R_tight rfl h.E) (fun b hb hlt => ht.block b hlt (fun e => by have := h.VB b hb.symm; omega))) (fun _ _ => trivial)
 VB := h.VB
 Bl := Turn.below h.Bl ht (fun b e => by omega) (by rw [h.N0]; exact h.Bl.size)
 N0 := h.N0
 F1 := h.F1
 BN := h.BN
end
theorem goL_done (f : Nat) (M now en : Int) (l : List S57) (q : List S63) (h : ¬ now < en) : goL f M now en l q = (l, q, []) := by
 cases f with
 | zero => rfl
 | succ f => rw [goL, if_neg h]
theorem stX_cells {w : World} {N : Nat} {M now : Int} {A : Option Addr} {n c : Nat} {A2 : Option Addr} {n2 c2 : Nat} {A4 : Option Addr} {c4 : Nat} (h : w.heap[N]? = some (.cells (stX M now A n c A2 n2 c2 A4 c4) 47 (0, 0))) :
    w.cell? ⟨N, 0, none⟩ = some (.int .i64 M) /\ w.cell? ⟨N, 1, none⟩ = some (.int .i64 now) /\ w.cell? ⟨N, 2, none⟩ = some (.slice A n c) /\ w.cell? ⟨N, 3, none⟩ = some (.slice A2 n2 c2) /\ w.cell? ⟨N, 4, none⟩ = some (.slice A4 0 c4) :=
  ⟨(blk_cell h 0).trans rfl, (blk_cell h 1).trans rfl, (blk_cell h 2).trans rfl, (blk_cell h 3).trans rfl, (blk_cell h 4).trans rfl⟩
theorem raws_keep {sz : Nat} {w w' : World} {S : Nat -> Prop} {A : Option Addr} {n : Nat} {l : List (List Value)} (h : (Kd.raw sz).C w A n l) (ht : Turn w w' S) (hA : ∀ ad, A = some ad -> ¬ S ad.block) : (Kd.raw sz).C w' A n l := by
  refine ⟨h.1, h.2.1, fun h0 => ?_⟩;obtain ⟨ad, e, hc⟩ := h.2.2 h0;refine ⟨ad, e, fun j p hp => ?_⟩;obtain ⟨cs, h1, h2, h3⟩ := hc j p hp;refine ⟨cs, h1, h2, fun i u hu => ?_⟩;have h4 := h3 i u hu;have h5 := World.block_lt_of_cell? _ _ h4;rw [add_block] at h5;refine cell_keep h4 ?_;rw [add_block];exact ht.block _ h5 (hA ad e)
def put5 (w : World) (N : Nat) (M now : Int) (A : Option Addr) (n c : Nat) (A2 : Option Addr) (n2 c2 : Nat) (A4 : Option Addr) (c4 : Nat) : World := ((((w.setCell ⟨N, 0, none⟩ (.int .i64 M)).setCell ⟨N, 1, none⟩ (.int .i64 now)).setCell ⟨N, 2, none⟩ (.slice A n c)).setCell ⟨N, 3, none⟩ (.slice A2 n2 c2)).setCell ⟨N, 4, none⟩ (.slice A4 0 c4)
theorem stX_put {w : World} {N : Nat} {M now : Int} {A : Option Addr} {n c : Nat} {A2 : Option Addr} {n2 c2 : Nat} {A4 : Option Addr} {c4 : Nat} (h : w.heap[N]? = some (.cells (stX M now A n c A2 n2 c2 A4 c4) 47 (0, 0))) (M' now' : Int) (A' : Option Addr) (n' c' : Nat) (A2' : Option Addr) (n2' c2' : Nat) (A4' : Option Addr) (c4' : Nat) :
    (put5 w N M' now' A' n' c' A2' n2' c2' A4' c4').heap[N]? = some (.cells (stX M' now' A' n' c' A2' n2' c2' A4' c4') 47 (0, 0)) /\ Turn w (put5 w N M' now' A' n' c' A2' n2' c2' A4' c4') (fun b => b = N) :=
  ⟨blk_put (blk_put (blk_put (blk_put (blk_put h 0 (.int .i64 M') rfl) 1 (.int .i64 now') rfl) 2 (.slice A' n' c') rfl) 3 (.slice A2' n2' c2') rfl) 4 (.slice A4' 0 c4') rfl,
   (((((Turn.refl w (fun b => b = N)).set rfl 0 (.int .i64 M')).set rfl 1 (.int .i64 now')).set rfl 2 (.slice A' n' c')).set rfl 3 (.slice A2' n2' c2')).set rfl 4 (.slice A4' 0 c4')⟩
theorem go_calls (M now n : Int) (A : Option Addr) (l : List S57) (c : Nat) (A2 : Option Addr) (q : List S63) (c2 : Nat) (A3 : Option Addr) (c3 : Nat) (B : Bd) (F0 : Nat -> Prop) (w : World) (hB : B.n <= w.heap.size) (hF : RdF w F0 B A l A2 q) (hF0 : ∀ b, F0 b -> b < w.heap.size) (I : Int -> List S57 -> List S63 -> Prop) (hI : GoInv M (now + n) I) (h0 : I now l q) (hn : 0 <= n) (hn2 : n <= 1000) (hnow : 0 <= now) (hnow2 : now <= 1000000000) :
    Calls Tryz.prog 31 #[stV M now A l.length c A2 q.length c2 A3 c3, .int .i64 n] w fun e w' => ∃ A' c' A2' c2' A4 c4 v F, e = .returned (.tuple #[stV M (now + n) A' (goL n.toNat M now (now + n) l q).1.length c' A2' (goL n.toNat M now (now + n) l q).2.1.length c2' A4 c4, v, .int .i64 0]) /\ RdF w' F B A' (goL n.toNat M now (now + n) l q).1 A2' (goL n.toNat M now (now + n) l q).2.1 /\ (∀ b, F b -> (F0 b \/ w.heap.size <= b) /\ b < w'.heap.size /\ v.ownBlock ≠ some b) /\ (Kd.raw 4).R 67 w' w.heap.size (fun _ => True) v ((goL n.toNat M now (now + n) l q).2.2.map Ev.cells) /\ (goL n.toNat M now (now + n) l q).2.2.length <= 300 * n.toNat /\ I (now + n) (goL n.toNat M now (now + n) l q).1 (goL n.toNat M now (now + n) l q).2.1 /\ Below w.heap.size w w' := by
  have HG0 : Hid (Gk M now w.heap.size B F0 w l q [] A c A2 c2 A3 c3 (.slice none 0 0) ((w.alloc (.cells (stX M now A l.length c A2 q.length c2 A3 c3) 47)).alloc (.cells (stX 0 0 none 0 0 none 0 0 none 0) 47))) := hZ (by
    have h2 := two_blocks (w := w) (x := stX M now A l.length c A2 q.length c2 A3 c3) (y := stX 0 0 none 0 0 none 0 0 none 0) (tx := 47) (ty := 47) (Below.refl _ _);have hb : Below w.heap.size w ((w.alloc (.cells (stX M now A l.length c A2 q.length c2 A3 c3) 47)).alloc (.cells (stX 0 0 none 0 0 none 0 0 none 0) 47)) := below_alloc (below_alloc (Below.refl _ _) _) _;exact ⟨⟨h2.1, h2.2.1, Kd.R_nil _ _ _ _ _, fun b h => by simp [Value.ownBlock] at h, hb, rfl, hF0, hB⟩, ⟨F0, hF.below hb, fun b h => ⟨.inl h, Nat.lt_of_lt_of_le (hF0 b h) hb.size, by simp [Value.ownBlock]⟩⟩⟩)
  have HI := hZ hI;have H0 := hZ h0;have g1 : decide (n < 0) = false := by simp; omega
  have hw1 : IntKind.i64.wrap (4611686018427387904 - now) = 4611686018427387904 - now := by rw [i64_w]; unfold Go.RowKit.wrap64; omega
  have g2 : decide (n > 4611686018427387904 - now) = false := by simp; omega
  have hw2 : IntKind.i64.wrap (now + n) = now + n := by rw [i64_w]; unfold Go.RowKit.wrap64; omega
  have HR : Hid (∃ r, goL n.toNat M now (now + n) l q = r) := hZ ⟨_, rfl⟩;obtain ⟨fin, hfin⟩ := HR.out;rw [hfin];have HFIN := hZ hfin;clear hfin HR hI h0 hF hF0;generalize hen : now + n = en at *;unfold stV;go_enter Tryz.func31, Tryz.ntmps31;go_wp2;generalize hw0 : (w.alloc (.cells (stX M now A l.length c A2 q.length c2 A3 c3) 47)).alloc (.cells (stX 0 0 none 0 0 none 0 0 none 0) 47) = wz at HG0;have hz2 : (w.alloc (.cells #[.int .i64 M, .int .i64 now, .slice A l.length c, .slice A2 q.length c2, .slice A3 0 c3] 47)).alloc (.cells #[.int .i64 0, .int .i64 0, .slice none 0 0, .slice none 0 0, .slice none 0 0] 47) = wz := hw0;rw [hz2];clear hw0 hz2
  go_loopg [7] n.toNat (fun f v7 wr => ∃ (nk : Int) (lk : List S57) (qk : List S63) (ek : List Ev) (A : Option Addr) (c : Nat) (A2 : Option Addr) (c2 : Nat) (A4 : Option Addr) (c4 : Nat), en - nk <= f /\ now <= nk /\ nk <= en /\ (ek.length : Int) <= 300 * (nk - now) /\ Hid (fin = ((goL f M nk en lk qk).1, (goL f M nk en lk qk).2.1, ek ++ (goL f M nk en lk qk).2.2)) /\ Hid (I nk lk qk) /\ Hid (Gk M nk w.heap.size B F0 w lk qk ek A c A2 c2 A4 c4 v7 wr))
  case atStart => exact ⟨now, l, q, [], A, c, A2, c2, A3, c3, by omega, by omega, by omega, by simp, hZ (by rw [<- HFIN.out]; simp), H0, HG0⟩
  case round =>
    clear H0 HG0 HFIN;obtain ⟨nk, lk, qk, ek, A, c, A2, c2, A4, c4, hf, hnk, hnk2, hek, HFK, HIK, HGK⟩ := hrel;obtain ⟨x0, x1, x2, x3, x4⟩ := stX_cells HGK.out.X;by_cases hlt : nk < en
    · have glt : decide (nk < en) = true := by simpa using hlt
      obtain ⟨f, rfl⟩ : ∃ f, gk = f + 1 := ⟨gk - 1, by omega⟩;obtain ⟨hmok, hstill⟩ := HI.out.ok nk lk qk HIK.out hlt;have hskip := HI.out.skip nk lk qk HIK.out hlt;have htick := HI.out.tick nk lk qk HIK.out hlt;have hsf := settleL_few M nk lk qk hmok.sane.len
      have hgo : goL (f + 1) M nk en lk qk = if 0 < stillL M nk (en - nk) (settleL M nk lk qk).1 (settleL M nk lk qk).2.1 then ((goL f M (nk + stillL M nk (en - nk) (settleL M nk lk qk).1 (settleL M nk lk qk).2.1) en (skipL M (stillL M nk (en - nk) (settleL M nk lk qk).1 (settleL M nk lk qk).2.1) (settleL M nk lk qk).1) (settleL M nk lk qk).2.1).1, (goL f M (nk + stillL M nk (en - nk) (settleL M nk lk qk).1 (settleL M nk lk qk).2.1) en (skipL M (stillL M nk (en - nk) (settleL M nk lk qk).1 (settleL M nk lk qk).2.1) (settleL M nk lk qk).1) (settleL M nk lk qk).2.1).2.1, (settleL M nk lk qk).2.2 ++ (goL f M (nk + stillL M nk (en - nk) (settleL M nk lk qk).1 (settleL M nk lk qk).2.1) en (skipL M (stillL M nk (en - nk) (settleL M nk lk qk).1 (settleL M nk lk qk).2.1) (settleL M nk lk qk).1) (settleL M nk lk qk).2.1).2.2) else ((goL f M (nk + 1) en (tickL M nk (settleL M nk lk qk).1 (settleL M nk lk qk).2.1).1 (tickL M nk (settleL M nk lk qk).1 (settleL M nk lk qk).2.1).2.1).1, (goL f M (nk + 1) en (tickL M nk (settleL M nk lk qk).1 (settleL M nk lk qk).2.1).1 (tickL M nk (settleL M nk lk qk).1 (settleL M nk lk qk).2.1).2.1).2.1, (settleL M nk lk qk).2.2 ++ (tickL M nk (settleL M nk lk qk).1 (settleL M nk lk qk).2.1).2.2 ++ (goL f M (nk + 1) en (tickL M nk (settleL M nk lk qk).1 (settleL M nk lk qk).2.1).1 (tickL M nk (settleL M nk lk qk).1 (settleL M nk lk qk).2.1).2.1).2.2) := by
        rw [goL, if_pos hlt]
      rw [hgo] at HFK
      have DS : ∀ wx, Gk M nk w.heap.size B F0 w lk qk ek A c A2 c2 A4 c4 u7 wx -> Calls Tryz.prog 12 #[stV M nk A lk.length c A2 qk.length c2 A4 c4] wx fun e w' => SettleP M nk lk qk B wx e w' := fun wx h => by
        obtain ⟨F, hF, _⟩ := h.R;exact settle_calls M nk A lk c A2 qk c2 A4 c4 B wx (by have := h.BN; have := blk_lt h.X; omega) hF.now hmok
      unfold SettleP at DS;have htf : ∀ (l1 : List S57) (q1 : List S63), l1.length <= 12 -> TickOk M nk l1 q1 -> (tickL M nk l1 q1).2.2.length <= 150 := fun l1 q1 h1 h2 => tickL_few M nk l1 q1 h1 h2.sane.len
      obtain ⟨⟨l1, q1, ev1⟩, hst⟩ : ∃ s, settleL M nk lk qk = s := ⟨_, rfl⟩;rw [hst] at hstill hskip htick hsf DS HFK;dsimp only at hstill hskip htick hsf DS HFK;have hwe : IntKind.i64.wrap (en - nk) = en - nk := by rw [i64_w]; unfold Go.RowKit.wrap64; omega
      have hl1 := hstill.sane.len;have DW := fun (o1 : OwnR) A5 c5 wx (hO : Own wx B l1 q1 o1) => still_calls M nk (en - nk) o1.A l1 o1.c o1.A2 q1 o1.c2 A5 c5 wx hO.reads hO.readsL hstill
      clear hst hgo hmok hstill;unfold stV at DS DW
      go_upto_region 9 with (go_at_call 12; (with_reducible refine (DS _ HGK.out).mono ?_); rintro e w1 ⟨o1, A5, c5, v1, rfl, hO1, hown1, hR1, hB1⟩; obtain ⟨AL, cL, rfl, _, hCL⟩ := Kd.R_reads hR1; rw [List.length_map] at hCL; have HCL := hZ hCL; have HO1 := hZ hO1; have HOWN := hZ hown1; have HB1 := hZ hB1; clear hO1 hown1 hR1 hB1 hCL)
      have HT9 : Hid ((w1.alloc (.cells (stX M nk o1.A l1.length o1.c o1.A2 q1.length o1.c2 A5 c5) 47)).heap[w1.heap.size]? = some (.cells (stX M nk o1.A l1.length o1.c o1.A2 q1.length o1.c2 A5 c5) 47 (0, 0))) := hZ (blk_new _ _);have HBA : Hid (Below w1.heap.size w1 (w1.alloc (.cells (stX M nk o1.A l1.length o1.c o1.A2 q1.length o1.c2 A5 c5) 47))) := hZ (below_alloc (Below.refl _ _) _);generalize hw2 : w1.alloc (.cells (stX M nk o1.A l1.length o1.c o1.A2 q1.length o1.c2 A5 c5) 47) = w2 at HT9 HBA;have hz2 : w1.alloc (.cells #[.int .i64 M, .int .i64 nk, .slice o1.A l1.length o1.c, .slice o1.A2 q1.length o1.c2, .slice A5 0 c5] 47) = w2 := hw2;rw [hz2];clear hw2 hz2;have HGK2 := hZ ((HGK.out.below HB1.out).below HBA.out);have HO2 := hZ (HO1.out.below HBA.out);have HCL2 := hZ (Kd.C_below HCL.out HBA.out);have hs1 := HB1.out.size;have hvl := Kd.R_lt HGK.out.E;have hvb := HGK.out.VB;have hNN := blk_lt HGK.out.Z;have hBN := HGK.out.BN;have HVL := hZ hvl;have HVB := hZ hvb;clear HO1 HCL HGK HBA HB1 x0 x1 x2 x3 x4 DS hvl hvb
      go_upto_region 10 with ((with_reducible refine gate_builtin (b := .append) (xs := #[.tmp 36, .tmp 37]) rfl ?_); at_builtin; refine Kd.R_append_rows (Kd.raw 4) (Rr := (Kd.raw 4).K w2) (okp := fun _ => False) (w0 := w2) w.heap.size rfl (.tmp 36) (.tmp 37) 48 67 (.agg #[.int .i64 0, .int .i64 0, .int .i64 0, .int .i64 0]) 32 rfl Tryz.underlying48 info67 rfl (by decide) (by omega) _ (ek.map Ev.cells) (ev1.map Ev.cells) AL ev1.length cL (fun _ => True) rfl rfl HGK2.out.E HCL2.out (fun _ _ h => h) (fun _ h => h.elim) (fun _ _ => trivial) (Below.refl _ _) ?aS ?aL ?_; (case aS => (have := blk_lt HGK2.out.X; omega)); (case aL => (simp only [List.length_map]; omega)); intro v3 w3 hR3 hB3 hg3 hat3; have HT3 := hZ (grown_turn hg3); have HGK3 := hZ (HGK2.out.ev (grown_turn hg3) hR3 hat3); have HAT3 := hZ hat3; clear hR3 hB3 hg3 hat3)
      have HO3 := hZ (HO2.out.keep HT3.out (fun b e => by have := HVB.out b e.symm; omega) (fun cc b hc e => by have := HOWN.out cc b hc; have := HVL.out b e.symm; omega));have HT93 := hZ ((HT3.out.block _ (blk_lt HT9.out) (fun e => by have := HVL.out _ e.symm; omega)).trans HT9.out);have hs3 := HT3.out.size;have hs2 := blk_lt HT9.out
      have HV3 : Hid (∀ cc b, o1.own cc = some b -> v3.ownBlock ≠ some b) := hZ (fun cc b hc e => by
        rcases HAT3.out with h | ⟨b2, h, hle⟩
        · rw [h] at e;have := HVL.out b e;have := HOWN.out cc b hc;omega
        · rw [h] at e;injection e with e;have := (HO2.out.bnd cc b hc).2;omega)
      clear HO2 HCL2 HGK2 HT3 HT9 HVB;obtain ⟨y0, y1, y2, y3, y4⟩ := stX_cells HT93.out;have DW := DW o1 A5 c5 w3 HO3.out;generalize stillL M nk (en - nk) l1 q1 = k at *;by_cases hk : 0 < k
      · have gk : decide (k > 0) = true := by simpa using hk
        obtain ⟨hsk1, hsk2, hsk3⟩ := hskip hk;rw [if_pos hk] at HFK;have DK := fun wx (hO : Own wx B l1 q1 o1) => skip_calls M nk k l1 q1 B o1 A5 c5 wx hO hsk1 (by omega) (by omega)
        unfold SkipP stV at DK;have HI2 := hZ hsk3;generalize skipL M k l1 = l2 at *;clear hskip htick hsk1 hsk3
        go_wp2_with (first
          | (go_at_call 59; (with_reducible refine DW.mono ?_); rintro e w4 ⟨rfl, hB4⟩; have HB4 := hZ hB4; obtain ⟨y0, y1, y2, y3, y4⟩ := stX_cells (blk_below HT93.out hB4); clear hB4)
          | (go_at_call 60; (with_reducible refine (DK _ (HO3.out.below HB4.out)).mono ?_); rintro e w5 ⟨o2, A6, c6, rfl, hO5, hown5, hB5⟩; have HGK5 := hZ ((HGK3.out.below HB4.out).below hB5); obtain ⟨x0, x1, x2, x3, x4⟩ := stX_cells HGK5.out.X; have f0 := blk_frozen HGK5.out.X 0; have f1 := blk_frozen HGK5.out.X 1; have f2 := blk_frozen HGK5.out.X 2; have f3 := blk_frozen HGK5.out.X 3; have f4 := blk_frozen HGK5.out.X 4; have HO5 := hZ hO5; have HOWN5 := hZ hown5; clear hO5 hown5 hB5))
        have hXP := stX_put HGK5.out.X M (nk + k) o2.A l2.length o2.c o2.A2 q1.length o2.c2 A6 c6;unfold put5 at hXP;generalize hws : World.setCell _ _ _ = w6 at *;have HXP := hZ hXP;have hs4 := HB4.out.size
        have HO6 := hZ (HO5.out.keep hXP.2 (fun b e => by omega) (fun cc b hc e => by
          rcases HOWN5.out cc b hc with ⟨c2', h⟩ | h
          · have := HOWN.out c2' b h; omega
          · omega))
        have HGK6 := hZ (HGK5.out.toGb.next HO5.out (fun cc b hc => by
          rcases HOWN5.out cc b hc with ⟨c2', h⟩ | h
          · exact ⟨by have := HOWN.out c2' b h; omega, HV3.out c2' b h⟩
          · refine ⟨by omega, fun e => ?_⟩;have := Kd.R_lt HGK3.out.E b e;omega) hXP.2 hXP.1)
        clear hws x0 x1 x2 x3 x4 f0 f1 f2 f3 f4 y0 y1 y2 y3 y4 hXP;go_roundg f
        case measure => omega
        case rel => exact ⟨nk + k, l2, q1, ek ++ ev1, o2.A, o2.c, o2.A2, o2.c2, A6, c6, by omega, by omega, hsk2, by (rw [List.length_append]; omega), hZ (by rw [HFK.out]; simp only [List.append_assoc]), HI2, HGK6⟩
      · have gk : decide (k > 0) = false := by simpa using hk
        obtain ⟨htk1, htk2⟩ := htick (by omega);rw [if_neg hk] at HFK;have DK := fun wx (hO : Own wx B l1 q1 o1) => tick_calls M nk o1.A l1 o1.c o1.A2 q1 o1.c2 A5 c5 B wx hO.old hO.rd htk1
        unfold TickP stV at DK;have HI2 := hZ htk2;have hfew := htf l1 q1 hl1 htk1;generalize tickL M nk l1 q1 = tk at *;obtain ⟨l2, q2, ev2⟩ := tk;dsimp only at DK HI2 hfew HFK;clear hskip htick htk1 htk2 htf
        go_upto_region 14 with (first
          | (go_at_call 59; (with_reducible refine DW.mono ?_); rintro e w4 ⟨rfl, hB4⟩; have HB4 := hZ hB4; obtain ⟨y0, y1, y2, y3, y4⟩ := stX_cells (blk_below HT93.out hB4); clear hB4)
          | (go_at_call 61; (with_reducible refine (DK _ (HO3.out.below HB4.out)).mono ?_); rintro e w5 ⟨o2, A6, c6, v2, rfl, hO5, hown5, hR5, hB5⟩; obtain ⟨AM, cM, rfl, _, hCM⟩ := Kd.R_reads hR5; rw [List.length_map] at hCM; have HVO := hZ hR5.1; have HV5 := hZ (fun b (h : (Value.slice AM (ev2.map Ev.cells).length cM).ownBlock = some b) => And.intro (Kd.R_base hR5 b h) (Kd.R_lt hR5 b h)); have HCM := hZ hCM; have HGK5 := hZ ((HGK3.out.below HB4.out).below hB5); have HT95 := hZ (blk_below (blk_below HT93.out HB4.out) hB5); obtain ⟨x0, x1, x2, x3, x4⟩ := stX_cells HT95.out; have f0 := blk_frozen HT95.out 0; have f1 := blk_frozen HT95.out 1; have f2 := blk_frozen HT95.out 2; have f3 := blk_frozen HT95.out 3; have f4 := blk_frozen HT95.out 4; have HO5 := hZ hO5; have HOWN5 := hZ hown5; have HB5 := hZ hB5; clear hO5 hown5 hB5 hR5 hCM))
        have hXP := stX_put HT95.out M (nk + 1) o2.A l2.length o2.c o2.A2 q2.length o2.c2 A6 c6;unfold put5 at hXP;generalize hws : World.setCell _ _ _ = w6 at *;have hs4 := HB4.out.size;have hs5 := HB5.out.size;have HO6 := hZ (HO5.out.keep hXP.2 (fun b e => by omega) (fun cc b hc e => by have := HOWN5.out cc b hc; omega))
        have HGB6 := hZ (HGK5.out.toGb.turn hXP.2 (fun b e => by
          subst e;refine ⟨by omega, fun e => ?_⟩;rcases HAT3.out with h | ⟨b2, h, hle⟩
          · rw [h] at e;have := HVL.out _ e;omega
          · rw [h] at e;injection e with e;omega))
        have HT96 := hZ hXP.1
        have HCM6 : Hid ((Kd.raw 4).C w6 AM ev2.length (ev2.map Ev.cells)) := hZ (raws_keep HCM.out hXP.2 (fun ad e h => by
          have := (HV5.out ad.block (by rw [e]; rfl)).1;omega))
        have HV9 : Hid (∀ b, v3.ownBlock = some b -> w.heap.size + 1 < b /\ b < w3.heap.size /\ b ≠ w1.heap.size) := hZ (fun b e => by
          refine ⟨HGK3.out.VB b e, Kd.R_lt HGK3.out.E b e, ?_⟩;rcases HAT3.out with h | ⟨b2, h, hle⟩
          · rw [h] at e;have := HVL.out _ e;omega
          · rw [h] at e;injection e with e;omega)
        have HW6 : Hid (∀ cc b, o2.own cc = some b -> b < w6.heap.size) := hZ (fun cc b hc => (HO6.out.bnd cc b hc).2);have hs6 := hXP.2.size;clear hws x0 x1 x2 x3 x4 f0 f1 f2 f3 f4 y0 y1 y2 y3 y4 hXP HGK5 HO5 HT95 HGK3 HO3 HCM
        go_wp2_with ((with_reducible refine gate_builtin (b := .append) (xs := #[.tmp 56, .tmp 57]) rfl ?_); at_builtin; refine Kd.R_append_rows (Kd.raw 4) (Rr := (Kd.raw 4).K w6) (okp := fun _ => False) (w0 := w6) w.heap.size rfl (.tmp 56) (.tmp 57) 48 67 (.agg #[.int .i64 0, .int .i64 0, .int .i64 0, .int .i64 0]) 32 rfl Tryz.underlying48 info67 rfl (by decide) (by omega) _ ((ek ++ ev1).map Ev.cells) (ev2.map Ev.cells) AM ev2.length cM (fun _ => True) rfl rfl HGB6.out.E HCM6.out (fun _ _ h => h) (fun _ h => h.elim) (fun _ _ => trivial) (Below.refl _ _) ?aS ?aL ?_; (case aS => (have := blk_lt HGB6.out.X; omega)); (case aL => (simp only [List.length_map, List.length_append]; omega)); intro v7 w7 hR7 hB7 hg7 hat7; have HT7 := hZ (grown_turn hg7); have HGB7 := hZ (HGB6.out.ev (grown_turn hg7) hR7 hat7); have HAT7 := hZ hat7; obtain ⟨z0, z1, z2, z3, z4⟩ := stX_cells ((HT7.out.block _ (blk_lt HT96.out) (fun e => by have := HV9.out _ e.symm; omega)).trans HT96.out); obtain ⟨x0, x1, x2, x3, x4⟩ := stX_cells HGB7.out.X; have f0 := blk_frozen HGB7.out.X 0; have f1 := blk_frozen HGB7.out.X 1; have f2 := blk_frozen HGB7.out.X 2; have f3 := blk_frozen HGB7.out.X 3; have f4 := blk_frozen HGB7.out.X 4; clear hR7 hB7 hg7 hat7)
        have hXP := stX_put HGB7.out.X M (nk + 1) o2.A l2.length o2.c o2.A2 q2.length o2.c2 A6 c6;unfold put5 at hXP;generalize hws : World.setCell _ _ _ = w8 at *;have HO7 := hZ (HO6.out.keep HT7.out (fun b e => by have := HV9.out _ e.symm; omega) (fun cc b hc e => by have := HV9.out _ e.symm; have := HOWN5.out cc b hc; omega))
        have HGK8 := hZ (HGB7.out.next HO7.out (fun cc b hc => ⟨by have := HOWN5.out cc b hc; omega, fun e => by
          have h5 := HOWN5.out cc b hc;have h6 := HW6.out cc b hc;rcases HAT7.out with h | ⟨b2, h, hle⟩
          · rw [h] at e;have := HV9.out _ e;omega
          · rw [h] at e;injection e with e;omega⟩) hXP.2 hXP.1)
        clear hws x0 x1 x2 x3 x4 f0 f1 f2 f3 f4 z0 z1 z2 z3 z4 hXP;go_roundg f
        case measure => omega
        case rel => exact ⟨nk + 1, l2, q2, ek ++ ev1 ++ ev2, o2.A, o2.c, o2.A2, o2.c2, A6, c6, by omega, by omega, by omega, by (rw [List.length_append, List.length_append]; omega), hZ (by rw [HFK.out]; simp only [List.append_assoc]), HI2, HGK8⟩
    · have glt : decide (nk < en) = false := by simpa using hlt
      have he : nk = en := by omega
      subst he;rw [goL_done _ _ _ _ _ _ hlt] at HFK;dsimp only at HFK;rw [List.append_nil] at HFK;obtain ⟨z0, z1, z2, z3, z4⟩ := stX_cells HGK.out.Z;have f0 := blk_frozen HGK.out.Z 0;have f1 := blk_frozen HGK.out.Z 1;have f2 := blk_frozen HGK.out.Z 2;have f3 := blk_frozen HGK.out.Z 3;have f4 := blk_frozen HGK.out.Z 4;have hXP := stX_put HGK.out.Z M nk A lk.length c A2 qk.length c2 A4 c4;unfold put5 at hXP;have HXP := hZ hXP;clear hXP;go_wp2;refine bodyPost_ret (results_ctt rfl _ _ (w.heap.size + 1) 47 (stX M nk A lk.length c A2 qk.length c2 A4 c4) (0, 0) _ rfl HXP.out.1 Tryz.underlying47 rfl (by kernel_rfl)) rfl ?_;generalize hwf : World.setCell _ _ _ = wf at *;clear hwf x0 x1 x2 x3 x4 z0 z1 z2 z3 z4 f0 f1 f2 f3 f4;have hK := HGK.out;have ht := HXP.out.2;obtain ⟨F, hF1, hF2⟩ := hK.R;have hN0 := hK.BN;rw [HFK.out];refine ⟨A, c, A2, c2, A4, c4, u7, rfl, F, hF1.keep ht (fun b e => ⟨fun h => by have := (hF2 b h).1; rcases this with h2 | h2; have := hK.F1 b h2; omega; omega, fun h => by have := B.lt b h; omega⟩), fun b h => ⟨?_, Nat.lt_of_lt_of_le (hF2 b h).2.1 ht.size, (hF2 b h).2.2⟩, ?_, ?_, HIK.out, ?_⟩
      · rcases (hF2 b h).1 with h2 | h2
        · exact .inl h2
        · exact .inr (by omega)
      · exact Kd.R_reok rfl (Kd.R_step (Kd.R_tight rfl hK.E) (fun b hb hlt => ht.block b hlt (fun e => by have := hK.VB b hb.symm; omega))) (fun _ _ => trivial)
      · show ek.length <= 300 * n.toNat;omega
      · exact Turn.below hK.Bl ht (fun b e => by omega) hK.Bl.size
def at_ (l : List S57) (k : Nat) : S57 := l.getD k z57
theorem at_lt {l : List S57} {k : Nat} (h : k < l.length) : at_ l k = l[k] := getD57 h
theorem at_set (l : List S57) (i : Nat) (x : S57) (k : Nat) : at_ (l.set i x) k = if k = i /\ i < l.length then x else at_ l k := by
 unfold at_;rw [List.getD_eq_getElem?_getD, List.getD_eq_getElem?_getD, List.getElem?_set];by_cases h : i = k
 ·subst h;by_cases h2 : i < l.length
  ·rw [if_pos rfl, if_pos h2, if_pos ⟨rfl, h2⟩]; rfl
  ·rw [if_pos rfl, if_neg h2, if_neg (fun e => h2 e.2), List.getElem?_eq_none (by omega)]
 ·rw [if_neg h, if_neg (fun e => h e.1.symm)]
theorem at_map (f : S57 -> S57) (hf : f z57 = z57) (l : List S57) (k : Nat) : at_ (l.map f) k = f (at_ l k) := by
 unfold at_;rw [List.getD_eq_getElem?_getD, List.getD_eq_getElem?_getD, List.getElem?_map]
 cases l[k]? with
 | none => exact hf.symm
 | some x => rfl
theorem list_at (l : List S57) : l = (List.range l.length).map (at_ l) := by
 apply List.ext_getElem
 ·simp
 ·intro k h1 h2;rw [List.getElem_map, List.getElem_range, at_lt h1]
theorem count_at (p : S57 -> Bool) (l : List S57) : l.countP p = (List.range l.length).countP (fun k => p (at_ l k)) := by
 conv => lhs; rw [list_at l]
 rw [List.countP_map];rfl
theorem count_mono {p p' : S57 -> Bool} {l l' : List S57} (hl : l'.length = l.length) (h : ∀ k, k < l.length -> p' (at_ l' k) = true -> p (at_ l k) = true) : l'.countP p' <= l.countP p := by
 rw [count_at, count_at p l, hl];exact List.countP_mono_left (fun k hk => h k (List.mem_range.1 hk))
theorem sorted_at {l : List S57} : Sorted l ↔ ∀ a b, a < b -> b < l.length -> (at_ l a).f0 < (at_ l b).f0 := by
 unfold Sorted;rw [List.pairwise_iff_getElem];constructor
 ·intro h a b hab hb;rw [at_lt (by omega), at_lt hb];exact h a b (by omega) hb hab
 ·intro h a b ha hb hab;have := h a b hab hb
  rwa [at_lt ha, at_lt hb] at this
theorem nodup_sub {l : List Nat} : ∀ {m : List Nat}, l.Nodup -> (∀ x ∈ l, x ∈ m) -> l.length <= m.length := by
 induction l with
 | nil => intro m _ _; simp
 | cons x r ih =>
  intro m hn hs;have h1 := hs x (by simp);have h2 := ih (m := m.erase x) (List.nodup_cons.1 hn).2 (fun y hy => (List.mem_erase_of_ne (fun e => by subst e; exact (List.nodup_cons.1 hn).1 hy)).2 (hs y (List.mem_cons_of_mem _ hy)));rw [List.length_erase_of_mem h1] at h2;have h3 := List.length_pos_of_mem h1;simp only [List.length_cons];omega
structure ServOk (now c : Int) (d : Prop) (ql : Nat) (x : S57) : Prop where
 cbs : CbsOk x.f1
 due : x.f1.f3 <= now + 2147483648
 ahead : x.f1.f4 ≠ 0 -> now <= x.f1.f3
 idle : x.f1.f4 = 0 -> x.f2 = [] /\ x.f3 = 0
 busy : x.f1.f4 ≠ 0 -> x.f2 ≠ []
 jlen : x.f2.length <= 8
 jobs : ∀ j ∈ x.f2, JobOk j /\ ∀ s ∈ j.f1, s.f0 <= ql
 rest : ∀ j ∈ x.f2.tail, j.f2 = 0 /\ j.f3 = 0
 sec : 0 <= x.f3 /\ x.f3 <= 2
 spin : x.f3 <= 1 -> 0 < (servStep x).f0 -> doneOf x = 0
 sem : x.f3 ≠ 0 -> 0 < (servStep x).f0
 secm : x.f3 ≠ 0 -> x.f1.f4 ≠ 0 /\ (x.f1.f2 ≠ 0 -> x.f1.f4 = 1)
 part : x.f1.f4 ≠ 0 -> ¬ d -> doneOf x < (servStep x).f1
 held : 0 <= x.f4 /\ x.f4 <= 1048576
 ran : 0 <= x.f6 /\ x.f6 <= now
 num : 0 <= x.f5 /\ x.f5 <= c
structure Rows (M now : Int) (wt : Nat -> Int) (D : Nat -> Prop) (l : List S57) (q : List S63) (R : Nat -> List Nat) : Prop where
 hold0 : ∀ n (h : n < q.length), q[n].f1 = 0 -> q[n].f2 = []
 ids : ∀ n (h : n < q.length), (if q[n].f1 = 0 then [] else q[n].f1 :: q[n].f2) = (R n).map (fun k => (at_ l k).f0)
 nodup : ∀ n, (R n).Nodup
 mem : ∀ n k, k ∈ R n ↔ k < l.length /\ (at_ l k).f3 ≠ 0 /\ (servStep (at_ l k)).f0 = (n : Int) + 1
 first : ∀ n k r, R n = k :: r -> (at_ l k).f3 = 2 /\ ∀ k' ∈ r, (at_ l k').f3 = 1
 most : ∀ n (h : n < q.length) k r, R n = k :: r -> (at_ l k).f4 <= q[n].f0 /\ (¬ D k -> (at_ l k).f4 < q[n].f0)
 time : ∀ n (h : n < q.length) (p k : Nat), (R n)[p]? = some k -> q[n].f0 - (at_ l ((R n).headD 0)).f4 + p * q[n].f0 <= (at_ l k).f1.f2 /\ q[n].f0 - (at_ l ((R n).headD 0)).f4 + p * q[n].f0 <= (at_ l k).f1.f3 - now
 wait : ∀ n (h : n < q.length) (p k : Nat), (R n)[p + 1]? = some k -> q[n].f0 - (at_ l ((R n).headD 0)).f4 + p * q[n].f0 <= (M - 1) * q[n].f0 - wt k
structure Inv (M now c : Int) (wt : Nat -> Int) (D : Nat -> Prop) (l : List S57) (q : List S63) (R : Nat -> List Nat) : Prop where
 sane : Sane M l
 now0 : 0 <= now
 now1 : now <= 1000000000
 qlen : q.length <= 8
 qmost : ∀ n (h : n < q.length), 1 <= q[n].f0 /\ q[n].f0 <= 1048576
 serv : ∀ k, k < l.length -> ServOk now c (D k) q.length (at_ l k)
 rows : Rows M now wt D l q R
theorem Sane.keep {M : Int} {l l' : List S57} (h : Sane M l) (hl : l'.length = l.length) (h0 : ∀ k, k < l.length -> (at_ l' k).f0 = (at_ l k).f0) (hf : ∀ k, k < l.length -> fixd (at_ l' k) = true -> fixd (at_ l k) = true) : Sane M l' where
 m1 := h.m1
 m2 := h.m2
 len := by have := h.len; omega
 sorted := by
  rw [sorted_at];intro a b hab hb;rw [h0 a (by omega), h0 b (by omega)];exact sorted_at.1 h.sorted a b hab (by omega)
 id := fun k hk => by
  have hk2 : k < l.length := by omega
  have := h.id k hk2;rw [<- at_lt hk, h0 k hk2, at_lt hk2];exact this
 fix := by
  have := h.fix;rw [fixes_count] at *;have h2 := count_mono (p := fixd) (p' := fixd) hl hf;omega
theorem Rows.keep {M now now' : Int} {wt : Nat -> Int} {D : Nat -> Prop} {l l' : List S57} {q : List S63} {R : Nat -> List Nat} (h : Rows M now wt D l q R) (hn : now' <= now) (hl : l'.length = l.length) (h0 : ∀ k, k < l.length -> (at_ l' k).f0 = (at_ l k).f0) (h3 : ∀ k, k < l.length -> (at_ l' k).f3 = (at_ l k).f3)
  (hs : ∀ k, k < l.length -> (at_ l k).f3 ≠ 0 -> (at_ l' k).f1 = (at_ l k).f1 /\ servStep (at_ l' k) = servStep (at_ l k) /\ (at_ l' k).f4 = (at_ l k).f4) : Rows M now' wt D l' q R := by
 have hm : ∀ n k, k ∈ R n -> k < l.length /\ (at_ l k).f3 ≠ 0 := fun n k hk => ⟨((h.mem n k).1 hk).1, ((h.mem n k).1 hk).2.1⟩
 have hh : ∀ n (p k : Nat), (R n)[p]? = some k -> (at_ l' ((R n).headD 0)).f4 = (at_ l ((R n).headD 0)).f4 := by
  intro n p k hp
  cases hr : R n with
  | nil => rw [hr] at hp; simp at hp
  | cons a r =>
   have := hm n a (by rw [hr]; simp);exact (hs a this.1 this.2).2.2
 refine ⟨h.hold0, fun n hn => ?_, h.nodup, fun n k => ?_, fun n k r e => ?_, fun n hn k r e => ?_, fun n hn2 p k hp => ?_, fun n hn2 p k hp => ?_⟩
 ·rw [h.ids n hn];exact List.map_congr_left (fun k hk => (h0 k (hm n k hk).1).symm)
 ·rw [h.mem n k, hl];constructor
  ·rintro ⟨a, b, e⟩; exact ⟨a, by rw [h3 k a]; exact b, by rw [(hs k a b).2.1]; exact e⟩
  ·rintro ⟨a, b, e⟩; rw [h3 k a] at b; rw [(hs k a b).2.1] at e; exact ⟨a, b, e⟩
 ·have h1 := h.first n k r e;have hk := hm n k (by rw [e]; simp);exact ⟨by rw [h3 k hk.1]; exact h1.1, fun k' hk' => by rw [h3 k' (hm n k' (by rw [e]; exact List.mem_cons_of_mem _ hk')).1]; exact h1.2 k' hk'⟩
 ·have hk := hm n k (by rw [e]; simp);rw [(hs k hk.1 hk.2).2.2];exact h.most n hn k r e
 ·have hk := hm n k (List.mem_of_getElem? hp);rw [hh n p k hp, (hs k hk.1 hk.2).1];have := h.time n hn2 p k hp;exact ⟨this.1, by omega⟩
 ·rw [hh n _ k hp];exact h.wait n hn2 p k hp
section
variable {M now c : Int} {wt : Nat -> Int} {D : Nat -> Prop} {l : List S57} {q : List S63} {R : Nat -> List Nat}
theorem Inv.mok (h : Inv M now c wt D l q R) (hq : ∀ n (hn : n < q.length), (R n).length <= 12) : MOk M now l q where
  sane := h.sane
  now0 := h.now0
  now1 := by have := h.now1; omega
  cbs := fun k hk => by have := (h.serv k hk).cbs; rwa [at_lt hk] at this
  job := fun k hk => by have := (h.serv k hk).jobs; rwa [at_lt hk] at this
  jlen := fun k hk => by have := (h.serv k hk).jlen; rwa [at_lt hk] at this
  mode := fun k hk => by have := (h.serv k hk).busy; rwa [at_lt hk] at this
  qlen := h.qlen
  most := h.qmost
  room := fun n hn => by
    have h1 := h.rows.ids n hn;have h2 := congrArg List.length h1;rw [List.length_map] at h2;have h3 := hq n hn;by_cases e : q[n].f1 = 0
    · rw [h.rows.hold0 n hn e]; simp
    · rw [if_neg e] at h2; simp at h2; omega
theorem Inv.row_len (h : Inv M now c wt D l q R) (n : Nat) : (R n).length <= 12 := by
  have h1 := nodup_sub (m := List.range l.length) (h.rows.nodup n) (fun k hk => List.mem_range.2 ((h.rows.mem n k).1 hk).1);rw [List.length_range] at h1;have := h.sane.len;omega
theorem upT_win {t d p : Int} (hp : 1 <= p) (hd : d <= t) : t < upT t d p /\ upT t d p <= t + p := by
  exact ⟨upT_gt hp, upT_le hp⟩
theorem ServOk.turn {d : Prop} {ql : Nat} {x : S57} (h : ServOk now c d ql x) (h0 : 0 <= now) (h1 : now <= 1000000000) : ServOk now c d ql (turn1 now x) := by
  unfold turn1;by_cases ht : turnsB now x = true
  · rw [if_pos ht];unfold turnsB at ht;simp only [Bool.and_eq_true, decide_eq_true_eq] at ht;obtain ⟨⟨hm, h3⟩, hd⟩ := ht;have hc := turnS_ok h.cbs h0 (by omega) hd;have hp : 1 <= x.f1.f1 := by have := h.cbs.q1; have := h.cbs.qp; omega
    have hu := upT_win hp hd;have hpm := h.cbs.pm;have hq := h.cbs.q1
    exact { cbs := hc
            due := by show upT now x.f1.f3 x.f1.f1 <= _; omega
            ahead := fun _ => by show now <= upT now x.f1.f3 x.f1.f1; omega
            idle := fun e => by
              exfalso;have e2 : (if x.f1.f0 = 0 then (2 : Int) else 1) = 0 := e;rw [if_neg (by omega)] at e2;exact absurd e2 (by decide)
            busy := fun _ => h.busy hm
            jlen := h.jlen, jobs := h.jobs, rest := h.rest, sec := h.sec, spin := h.spin, sem := h.sem
            secm := fun e => absurd h3 e
            part := fun _ => h.part hm
            held := h.held, ran := h.ran, num := h.num }
  · rw [if_neg ht]; exact h
theorem turn1_z (now : Int) : turn1 now z57 = z57 := by
  unfold turn1 turnsB;rw [if_neg (by simp [z57, z54])]
theorem turn_at (now : Int) (l : List S57) (k : Nat) : at_ (turnL now l) k = turn1 now (at_ l k) := at_map _ (turn1_z now) l k
theorem turn1_f0 (now : Int) (x : S57) : (turn1 now x).f0 = x.f0 /\ (turn1 now x).f2 = x.f2 /\ (turn1 now x).f3 = x.f3 /\ (turn1 now x).f4 = x.f4 := by
  unfold turn1; split <;> exact ⟨rfl, rfl, rfl, rfl⟩
theorem turn1_sec (now : Int) (x : S57) (h : x.f3 ≠ 0) : turn1 now x = x := by
  unfold turn1 turnsB;rw [if_neg (by simp [h])]
theorem turn1_due {now : Int} {x : S57} (h : x.f1.f4 ≠ 0) (hs : x.f3 ≠ 0 -> now < x.f1.f3) (hc : CbsOk x.f1) : now < (turn1 now x).f1.f3 := by
  unfold turn1;by_cases ht : turnsB now x = true
  · rw [if_pos ht];unfold turnsB at ht;simp only [Bool.and_eq_true, decide_eq_true_eq] at ht;exact (upT_win (by have := hc.q1; have := hc.qp; omega) ht.2).1
  · rw [if_neg ht];unfold turnsB at ht;simp only [Bool.and_eq_true, decide_eq_true_eq, not_and] at ht;by_cases h3 : x.f3 = 0
    · have := ht ⟨h, h3⟩; omega
    · exact hs h3
theorem Inv.turn (h : Inv M now c wt D l q R) : Inv M now c wt D (turnL now l) q R where
  sane := h.sane.keep (turnL_len now l) (fun k _ => by rw [turn_at, (turn1_f0 now _).1]) (fun k _ hf => by
    rw [turn_at] at hf;unfold fixd at hf |-;simp only [Bool.and_eq_true, bne_iff_ne, ne_eq, beq_iff_eq] at hf |-;rw [(turn1_f0 now _).2.2.1] at hf;rw [turn1_sec now _ hf.2] at hf;exact hf)
  now0 := h.now0
  now1 := h.now1
  qlen := h.qlen
  qmost := h.qmost
  serv := fun k hk => by
    rw [turnL_len] at hk;rw [turn_at];exact (h.serv k hk).turn h.now0 h.now1
  rows := h.rows.keep (Int.le_refl _) (turnL_len now l) (fun k _ => by rw [turn_at, (turn1_f0 now _).1]) (fun k _ => by rw [turn_at, (turn1_f0 now _).2.2.1]) (fun k _ e => by rw [turn_at, turn1_sec now _ e]; exact ⟨rfl, rfl, rfl⟩)
theorem Inv.fixed_due (h : Inv M now c wt D l q R) {k : Nat} (hk : k < l.length) (h3 : (at_ l k).f3 ≠ 0) : ∃ n, ∃ (hn : n < q.length), k ∈ R n /\ ((∀ a r, R n = a :: r -> ¬ D a) -> now < (at_ l k).f1.f3 /\ 0 < (at_ l k).f1.f2) := by
  have hs := h.serv k hk;have h1 := hs.sem h3;have hb := hs.busy (hs.secm h3).1
  cases hx : (at_ l k).f2 with
  | nil => exact absurd hx hb
  | cons j js =>
    have hj := hs.jobs j (by rw [hx]; simp);have hst : servStep (at_ l k) = stepOf j := by unfold servStep; rw [hx]; rfl
    have hle : (servStep (at_ l k)).f0 <= q.length := by
      rw [hst];refine hj.2 _ ?_;unfold stepOf;have h2 := hj.1.at0;have h4 := hj.1.atl;obtain ⟨t, ht⟩ : ∃ t : Nat, j.f2 = t := ⟨j.f2.toNat, by omega⟩;rw [ht] at h4 |-;have ht2 : t < j.f1.length := by omega
      rw [show rd_T72 j.f1 (t : Int) = j.f1[t] by simp [rd_T72, ht2]];exact List.getElem_mem ht2
    obtain ⟨n, hn⟩ : ∃ n : Nat, (servStep (at_ l k)).f0 = (n : Int) + 1 := ⟨((servStep (at_ l k)).f0 - 1).toNat, by omega⟩;have hnq : n < q.length := by omega
    have hmem : k ∈ R n := (h.rows.mem n k).2 ⟨hk, h3, hn⟩;refine ⟨n, hnq, hmem, fun hD => ?_⟩;obtain ⟨p, hp⟩ := List.mem_iff_getElem?.1 hmem;have ht := h.rows.time n hnq p k hp;have hq := h.qmost n hnq
    cases hR : R n with
    | nil => rw [hR] at hmem; simp at hmem
    | cons a r =>
      have hh := (h.rows.most n hnq a r hR).2 (hD a r hR);rw [hR] at ht;simp only [List.headD_cons] at ht;have hp0 : 0 <= (p : Int) * q[n].f0 := Int.mul_nonneg (by omega) (by omega);omega
end
theorem countP_lt {α : Type} {p p' : α -> Bool} {l : List α} (h : ∀ x ∈ l, p x = true -> p' x = true) {x : α} (hx : x ∈ l) (h1 : p' x = true) (h2 : p x = false) : l.countP p < l.countP p' := by
  induction l with
  | nil => simp at hx
  | cons a r ih =>
    simp only [List.countP_cons];have hle : r.countP p <= r.countP p' := List.countP_mono_left (fun y hy => h y (List.mem_cons_of_mem _ hy));rcases List.mem_cons.1 hx with rfl | hr
    · rw [h1, h2]; simp; omega
    · have h3 := ih (fun y hy => h y (List.mem_cons_of_mem _ hy)) hr;have h4 := h a (by simp);by_cases ha : p a = true
      · rw [ha, h4 ha]; simpa using h3
      · have ha2 : p a = false := by simpa using ha
        rw [ha2];simp only [Bool.false_eq_true, if_false, Nat.add_zero];split <;> omega
section
variable {M now c : Int} {wt : Nat -> Int} {D : Nat -> Prop} {l : List S57} {q : List S63} {R : Nat -> List Nat}
def Open (now : Int) (l : List S57) : Prop := ∀ k, k < l.length -> (at_ l k).f1.f4 ≠ 0 -> now < (at_ l k).f1.f3
theorem Inv.wait (h : Inv M now c wt D l q R) {i : Nat} (hi : i < l.length) (hm : (at_ l i).f1.f4 = 1) (h3 : (at_ l i).f3 = 0) : Inv M now c wt D (waitAt l i) q R := by
  have e : waitAt l i = l.set i { at_ l i with f1 := { (at_ l i).f1 with f4 := 2 } } := rfl
  have hat : ∀ k, at_ (waitAt l i) k = if k = i then { at_ l i with f1 := { (at_ l i).f1 with f4 := 2 } } else at_ l k := fun k => by
    rw [e, at_set];by_cases hk : k = i
    · rw [if_pos ⟨hk, hi⟩, if_pos hk]
    · rw [if_neg (fun h => hk h.1), if_neg hk]
  have hs := h.serv i hi;obtain ⟨a1, a2, a3, a4, a5, a6, a7, a8, a9, a10⟩ := hs.cbs;refine ⟨h.sane.keep (waitAt_len l i) (fun k hk => ?_) (fun k hk hf => ?_), h.now0, h.now1, h.qlen, h.qmost, fun k hk => ?_, h.rows.keep (Int.le_refl _) (waitAt_len l i) (fun k hk => ?_) (fun k hk => ?_) (fun k hk h0 => ?_)⟩
  · rw [hat]; split
    · subst_vars; rfl
    · rfl
  · rw [hat] at hf;by_cases hk : k = i
    · rw [if_pos hk] at hf; simp [fixd] at hf
    · rwa [if_neg hk] at hf
  · rw [waitAt_len] at hk;rw [hat];by_cases hki : k = i
    · subst hki;rw [if_pos rfl]
      exact { cbs := ⟨a1, a2, a3, a4, a5, a6, a7, by show (0 : Int) <= 2; decide, by show (2 : Int) <= 2; decide, fun h => absurd h (by show ¬ (2 : Int) = 1; decide)⟩
              due := hs.due
              ahead := fun _ => hs.ahead (by rw [hm]; decide)
              idle := fun e => absurd e (by show ¬ (2 : Int) = 0; decide)
              busy := fun _ => hs.busy (by rw [hm]; decide)
              jlen := hs.jlen, jobs := hs.jobs, rest := hs.rest, sec := hs.sec, spin := hs.spin, sem := hs.sem
              secm := fun e => absurd h3 e
              part := fun _ => hs.part (by rw [hm]; decide)
              held := hs.held, ran := hs.ran, num := hs.num }
    · rw [if_neg hki]; exact h.serv k hk
  · rw [hat]; split
    · subst_vars; rfl
    · rfl
  · rw [hat]; split
    · subst_vars; rfl
    · rfl
  · rw [hat];by_cases hki : k = i
    · subst hki; exact absurd h3 h0
    · rw [if_neg hki]; exact ⟨rfl, rfl, rfl⟩
theorem wait_open (h : Open now l) {i : Nat} (hi : i < l.length) (hm : (at_ l i).f1.f4 = 1) : Open now (waitAt l i) := by
  intro k hk hk2;rw [waitAt_len] at hk;have e : waitAt l i = l.set i { at_ l i with f1 := { (at_ l i).f1 with f4 := 2 } } := rfl;rw [e, at_set] at hk2 |-;by_cases hki : k = i
  · subst hki;rw [if_pos ⟨rfl, hi⟩];exact h k hk (by rw [hm]; decide)
  · rw [if_neg (fun h => hki h.1)] at hk2 |-;exact h k hk hk2
theorem asks_at (hs : Sorted l) {p : Nat × Int} (h : p ∈ asksL M l) : p.1 < l.length /\ (at_ l p.1).f1.f4 = 1 /\ (at_ l p.1).f3 = 0 /\ p.2 = (servStep (at_ l p.1)).f0 /\ 0 < p.2 := by
  obtain ⟨hi, h1, h2, h3, h4⟩ := asks_mem hs h;rw [at_lt hi];exact ⟨hi, h1, h2, h3, h4⟩
theorem readies_le (l : List S57) : readies l <= l.length := List.countP_le_length
theorem Inv.refuse : ∀ (n : Nat) (l : List S57), Inv M now c wt D l q R -> Open now l -> readies l < n -> Inv M now c wt D (refAll n M now l q).1 q R /\ Open now (refAll n M now l q).1 /\ refuseL M now (refAll n M now l q).1 q = none := by
  intro n
  induction n with
  | zero => intro l _ _ hn; omega
  | succ n ih =>
    intro l h ho hn;unfold refAll
    cases hr : refuseL M now l q with
    | none => exact ⟨h, ho, hr⟩
    | some p =>
      have hp : p ∈ asksL M l := List.mem_of_find?_eq_some hr;obtain ⟨h1, h2, h3, h4, h5⟩ := asks_at h.sane.sorted hp;have h6 := readies_wait h1 (by rw [<- at_lt h1]; exact h2);exact ih _ (h.wait h1 h2 h3) (wait_open ho h1 h2) (by omega)
def rk (l : List S57) (x : S57) : Nat := l.countP (fun y => (y.f1.f4 == 1) && (entOf y).ltB (entOf x))
theorem rank_rk (l : List S57) (x : S57) : rank (readyL l) (entOf x) = rk l x := by
  unfold rank readyL rk;rw [List.countP_map, List.countP_filter];congr 1;funext y;simp [Bool.and_comm]
theorem mem_places (hs : Sorted l) {k : Nat} : k ∈ placesOf M l ↔ k < l.length /\ (at_ l k).f1.f4 = 1 /\ (rk l (at_ l k) : Int) < M := by
  unfold placesOf runsL pickL pickE;constructor
  · intro h;obtain ⟨id, hid, e⟩ := List.mem_map.1 h;obtain ⟨en, hen, rfl⟩ := List.mem_map.1 hid;obtain ⟨h1, h2⟩ := List.mem_filter.1 hen;unfold readyL at h1;obtain ⟨x, hx, rfl⟩ := List.mem_map.1 h1;obtain ⟨hx1, hx2⟩ := List.mem_filter.1 hx;obtain ⟨i, hi, rfl⟩ := List.mem_iff_getElem.1 hx1;have e2 : ahead l (entOf l[i]).id = i := ahead_at hs hi;rw [e2] at e;subst e;rw [at_lt hi];rw [rank_rk] at h2;exact ⟨hi, by simpa using hx2, by simpa using h2⟩
  · rintro ⟨hk, hm, hr⟩;rw [at_lt hk] at hm hr;refine List.mem_map.2 ⟨l[k].f0, List.mem_map.2 ⟨entOf l[k], List.mem_filter.2 ⟨?_, ?_⟩, rfl⟩, ahead_at hs hk⟩
    · unfold readyL;exact List.mem_map.2 ⟨l[k], List.mem_filter.2 ⟨List.getElem_mem hk, by simpa using hm⟩, rfl⟩
    · rw [rank_rk]; simpa using hr
theorem fixed_runs (h : Sane M l) {k : Nat} (hk : k < l.length) (hf : fixd (at_ l k) = true) : k ∈ placesOf M l := by
  rw [mem_places h.sorted];have hf2 := hf;unfold fixd at hf2;simp only [Bool.and_eq_true, beq_iff_eq, bne_iff_ne, ne_eq] at hf2;refine ⟨hk, hf2.1, ?_⟩
  have h1 : rk l (at_ l k) < l.countP fixd := by
    rw [at_lt hk] at hf |-;refine countP_lt (x := l[k]) (fun y _ hy => ?_) (List.getElem_mem hk) hf ?_
    · simp only [Bool.and_eq_true] at hy
      have hf3 : (entOf l[k]).fixed = true := by
        unfold fixd at hf;simp only [Bool.and_eq_true] at hf;exact hf.2
      have h5 := hy.2;unfold Ent.ltB at h5;rw [hf3] at h5;simp only [Bool.not_true, Bool.and_false, Bool.false_or, Bool.and_eq_true, beq_iff_eq] at h5;unfold fixd;rw [hy.1];simp only [Bool.true_and];exact h5.1
    · have h6 : (entOf l[k]).ltB (entOf l[k]) = false := by
        unfold Ent.ltB;simp
      rw [h6];simp
  have := h.fix;rw [fixes_count] at this;omega
theorem mem_asks (hs : Sorted l) {p : Nat × Int} : p ∈ asksL M l ↔ p.1 ∈ placesOf M l /\ asksB (at_ l p.1) = true /\ p.2 = (servStep (at_ l p.1)).f0 := by
  unfold asksL asksOf placesOf;rw [List.mem_filterMap];constructor
  · rintro ⟨i, hi, e⟩;by_cases ha : asksB (l.getD i z57) = true
    · rw [if_pos ha] at e;injection e with e;subst e;exact ⟨hi, ha, rfl⟩
    · rw [if_neg ha] at e; cases e
  · rintro ⟨h1, h2, h3⟩;exact ⟨p.1, h1, by rw [show asksB (l.getD p.1 z57) = true from h2, if_pos rfl]; exact congrArg some (Prod.ext rfl h3.symm)⟩
end
end Go.Proofs.YtfimkmlgnmaopaaGreat.Top
