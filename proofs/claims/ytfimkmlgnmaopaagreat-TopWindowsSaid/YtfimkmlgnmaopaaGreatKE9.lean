/- Part 9 of what is proved of the functions that the law reaches (contracts of functions, plain laws): no condition but those that each theorem names. -/
import Derived.Test.YtfimkmlgnmaopaaGreatKE8
set_option maxHeartbeats 40000000
set_option maxRecDepth 100000
namespace Go.Proofs.YtfimkmlgnmaopaaGreat.Top
open Go.RowKit Go.Proofs.YtfimkmlgnmaopaaGreatW.PrintWords Go.Proofs.YtfimkmlgnmaopaaGreatW.PrintLast Go.Proofs.YtfimkmlgnmaopaaGreatW.PrintMore Go.Proofs.YtfimkmlgnmaopaaGreat.PTopNames
set_option linter.unusedVariables false
set_option linter.unusedSimpArgs false
def srelw.T4 : Bool × List (List Nat × List Nat) := (true, [([], []), ([0], [0]), ([1], [1]), ([2], [2]), ([], []), ([4], [4]), ([], []), ([3, 5, 6], [3, 5, 6]), ([7], [7]), ([8], [8]), ([8], [8]), ([8], [8]), ([], []), ([12, 9, 7, 0, 1, 2, 3, 4, 5, 6, 7, 8, 9, 12], [9, 12]), ([10, 13, 0, 1, 2, 3, 4, 5, 6, 7, 8, 9, 10, 12, 13], [10]), ([11, 14, 0, 1, 2, 3, 4, 5, 6, 7, 8, 9, 10, 11, 12, 13, 14], [11])])
def srelw.B4 : List Nat := [0, 1, 3, 7, 0, 16, 0, 127, 255, 511, 511, 511, 0, 5119, 14335, 32767]
theorem srelw.tab4 : rtab .any (opsOf Tryz.f11 4) = srelw.T4 := by kernel_rfl
theorem srelw.bits4 : waitsOk srelw.T4.2 srelw.B4 = true := by kernel_rfl
structure RelS (M now : Int) (l : List S57) (q : List S63) (B : Bd) (i : Nat) (x : S57) (P : List S72) (w : World) (s : Nat) (A' : Option Addr) (A2' : Option Addr) (v : Value) (w' : World) : Prop where
 R : ∃ F B', RdF w' F B' A' (l.set i (relX now P x)) A2' q /\ (∀ b, B'.G b -> (B.G b \/ w.heap.size <= b) /\ b ≠ s) /\ B'.n <= w'.heap.size /\ (∀ b, F b -> w.heap.size <= b /\ b < w'.heap.size /\ v.ownBlock ≠ some b /\ b ≠ s) /\ (∀ b, v.ownBlock = some b -> ¬ B'.G b)
 E : (Kd.raw 4).R 67 w' w.heap.size (fun _ => True) v ((relE now x).map Ev.cells)
 vs : v.ownBlock ≠ some s
 Z : w'.heap[s]? = some (.cells #[.int .i64 0, .int .i64 0, .slice none 0 0, .slice none 0 0, .slice none 0 0] 47 (0, 0))
 Bl : Below w.heap.size w w'
 sl : w.heap.size <= s
section
variable {M now : Int} {l : List S57} {q : List S63} {B : Bd} {i : Nat} {x : S57} {P : List S72} {w w1 : World} {A' A2' : Option Addr} {v : Value}
theorem RelS.after (h : RelW M now l q B i x P w A' A2' v w1) (hB : B.n <= w.heap.size) : RelS M now l q B i x P w w1.heap.size A' A2' v (w1.alloc (.cells #[.int .i64 0, .int .i64 0, .slice none 0 0, .slice none 0 0, .slice none 0 0] 47)) := by
 obtain ⟨⟨F, B', h1, h2, h3, h4, h5, h6⟩, hE, hBl⟩ := h;have hb : Below w1.heap.size w1 (w1.alloc (.cells #[.int .i64 0, .int .i64 0, .slice none 0 0, .slice none 0 0, .slice none 0 0] 47)) := below_alloc (Below.refl _ _) _;have hs := hb.size;exact ⟨⟨F, B', h1.below hb, fun b hb2 => ⟨h2 b hb2, fun e => by have := B'.lt b hb2; omega⟩, Nat.le_trans h4 hs, fun b hb2 => ⟨(h5 b hb2).1, by have := (h5 b hb2).2.1; omega, (h5 b hb2).2.2, fun e => by have := (h5 b hb2).2.1; omega⟩, h6⟩, Kd.R_below hE hb, fun e => by have := Kd.R_lt hE _ e; omega, blk_new _ _, hBl.trans (hb.mono hBl.size), hBl.size⟩
theorem RelS.ahead (h : RelW M now l q B i x P (w.alloc (.cells #[.int .i64 0, .int .i64 0, .slice none 0 0, .slice none 0 0, .slice none 0 0] 47)) A' A2' v w1) (hB : B.n <= w.heap.size) : RelS M now l q B i x P w w.heap.size A' A2' v w1 := by
 obtain ⟨⟨F, B', h1, h2, h3, h4, h5, h6⟩, hE, hBl⟩ := h;have hb : Below w.heap.size w (w.alloc (.cells #[.int .i64 0, .int .i64 0, .slice none 0 0, .slice none 0 0, .slice none 0 0] 47)) := below_alloc (Below.refl _ _) _;have hs : (w.alloc (.cells #[.int .i64 0, .int .i64 0, .slice none 0 0, .slice none 0 0, .slice none 0 0] 47)).heap.size = w.heap.size + 1 := World.size_alloc _ _;refine ⟨⟨F, B', h1, fun b hb2 => ⟨(h2 b hb2).imp (fun h => h) (fun h => by omega), fun e => ?_⟩, h4, fun b hb2 => ⟨by have := (h5 b hb2).1; omega, (h5 b hb2).2.1, (h5 b hb2).2.2, fun e => by have := (h5 b hb2).1; omega⟩, h6⟩, Kd.R_lower hE (by omega), fun e => by have := Kd.R_base hE _ e; omega, blk_below (blk_new _ _) hBl, hb.trans (hBl.mono hb.size), Nat.le_refl _⟩;rcases h2 b hb2 with h | h
 ·have := B.lt b h; omega
 ·omega
end
theorem relE_few (now : Int) (x : S57) : (relE now x).length <= 2 := by
 unfold relE;split <;> simp
theorem srel_calls (N : Nat) (lab : Nat -> Nat) (M now : Int) (l : List S57) (q : List S63) (nn : Nat) (bk : List S157) (E : List (List Value)) (w : World) (h : SysAt w lab N M now l q nn bk E) (i : Nat) (hi : i < l.length) (hin : i < nn) (hid : l[i].f0 = (i : Int) + 1) (hk : RelOk now l q i hi) (hEl : E.length <= 10000000) (hqj : ∀ i (h : i < q.length), q[i].f2.length <= 100000) (Ap : Option Addr) (cp : Nat) (P : List S72) (hP : Kd.C k72 w Ap P.length P) :
  Calls Tryz.prog 11 #[.pointer (some ⟨N, 0, none⟩), .int .u32 i, .slice Ap P.length cp] w fun e w' =>
   (relC q.length P l[i] ≠ 0 -> (∃ p, e = .returned (.tuple #[.int .i64 0, .iface 111 p])) /\ Below w.heap.size w w') /\
   (relC q.length P l[i] = 0 -> e = .returned (.tuple #[.int .i64 (l[i].f5 + 1), .nilIface]) /\ (∃ lab', SysAt w' lab' N M now (l.set i (relX now P l[i])) q nn bk (E ++ (relE now l[i]).map Ev.cells) /\ Grew w lab lab') /\ Turn w w' (fun b => lab b ≠ 0)) := by
 obtain ⟨r, h⟩ := h;have hblk := h.blk;have hev := h.ev;have DS := fun wx (hb : Below w.heap.size w wx) => sfind_calls N r.Nn r.Ns nn M now r.A l r.c r.A2 q r.c2 r.A4 r.c4 (.pointer (some ⟨r.Nb, 0, none⟩)) r.a7 (.slice r.AE r.nE r.cE) r.B i hi wx (blk_below hblk hb) (h.tab.below hb) hin (Nat.le_trans h.bn hb.size) (h.mach.below hb).now hk.sorted hid (by have := hk.len; omega) hk.qlen (fun k h => by have := hk.jobs k h; omega) hqj
 have DR := fun wx (hb : Below w.heap.size w wx) => rel_calls M now r.A l r.c r.A2 q r.c2 r.A4 r.c4 r.B i hi Ap cp P wx (Nat.le_trans h.bn hb.size) (h.mach.below hb).now (Kd.C_below hP hb) hk
 have DE := fun wx (id c : Int) (hc : c ≠ 0) => fault_calls (.string { data := #[114, 101, 108, 101, 97, 115, 101] }) ⟨_, rfl⟩ id c wx hc
 obtain ⟨x, hx⟩ : ∃ x, x = l[i] := ⟨_, rfl⟩;rw [<- hx] at DS DR hid;rw [<- hx];obtain ⟨C, hC⟩ : ∃ C, C = relC q.length P x := ⟨_, rfl⟩;unfold RelP at DR;rw [<- hC] at DR;rw [<- hC];have HC := hZ hC;have HID := hZ hid;have HX := hZ h;have HN := hZ hblk;have HE := hZ hev;have hn0 : 0 <= x.f5 := by rw [hx]; exact hk.num0
 have hn1 : x.f5 <= 1152921504606846976 := by rw [hx]; exact hk.num1
 have hwi : IntKind.i64.wrap (i : Int) = (i : Int) := by have := hk.len; rw [i64_w]; unfold Go.RowKit.wrap64; omega
 have hws5 : IntKind.i64.wrap (x.f5 + 1) = x.f5 + 1 := by rw [i64_w]; unfold Go.RowKit.wrap64; omega
 have HBN := hZ h.bn;have HL6 : Hid (∀ b, (Value.slice r.AE r.nE r.cE).ownBlock = some b -> b ≠ N) := hZ (fun b hb e => by have := h.l6 b hb; have := h.l1; subst e; omega);have HBE := hZ h.be;have HLX : Hid (l[i] = x) := hZ hx.symm;obtain ⟨Nb, Nn, Ns, A, c, A2, c2, A4, c4, a7, vB, AE, nE, cE, bB, bE, B, F0⟩ := r;dsimp only at *;unfold stV servV at *;clear hblk hev hP hk hqj hC hx h hid;go_enter Tryz.func11, Tryz.ntmps11
 go_upto_region 2 with (go_at_call 23; (with_reducible refine (DS _ (Below.refl _ _)).mono ?_); rintro e w1 ⟨p, rfl, hB1⟩; have HB1 := hZ hB1; have HV1 := hZ (blk_new w1 (.cells #[.int .i64 x.f0, .int .i64 x.f1.f0, .int .i64 x.f1.f1, .int .i64 x.f1.f2, .int .i64 x.f1.f3, .int .i64 x.f1.f4, .slice p.1 x.f2.length p.2, .int .i64 x.f3, .int .i64 x.f4, .int .i64 x.f5, .int .i64 x.f6] 57)); have HBV := hZ (below_alloc (Below.refl w1.heap.size w1) (.cells #[.int .i64 x.f0, .int .i64 x.f1.f0, .int .i64 x.f1.f1, .int .i64 x.f1.f2, .int .i64 x.f1.f3, .int .i64 x.f1.f4, .slice p.1 x.f2.length p.2, .int .i64 x.f3, .int .i64 x.f4, .int .i64 x.f5, .int .i64 x.f6] 57)); skip; clear hB1)
 clear DS;generalize hw2 : World.alloc _ _ = w2 at *;have HZ2 := HV1;have HB2 := hZ (HB1.out.trans (HBV.out.mono HB1.out.size));have HN2 := hZ (blk_below HN.out HB2.out);have hN2 : N < w.heap.size := blk_lt HN.out;have h12 : w.heap.size <= w1.heap.size := HB1.out.size;clear hw2 HV1 HBV;by_cases hC0 : C = 0
 ·subst hC0;have DR := fun wx (hb : Below w.heap.size w wx) => (DR wx hb).mono (fun e w' h => h.2 rfl)
  go_upto_region 4 with fail
  refine start_ (n := 16) (S := fun w' => Hid (Below w2.heap.size w2 w')) (ds := [13]) #[false, false, false, false, false, false, false, false, false, false, false, false, false, false, false, false] (by kernel_rfl) rfl rfl ((hZ (below_drew (Below.refl _ _)))) (fun hHeld => ?_);refine with_tabW srelw.tab4 srelw.bits4 (fun HT_ HW_ => ?_);have hbd := drB w2;have hsd : w2.heap.size = w2.drew.heap.size := rfl;generalize hwd : w2.drew = wd at *;clear hwd;refine pst 0 (some 25) HT_ ?_;refine pst 1 (some 26) HT_ ?_;refine pst 2 (some 27) HT_ ?_;refine pst 4 (some 29) HT_ ?_;refine pst 6 (some 31) HT_ ?_;refine tst 3 (some 28) HT_ HW_ hHeld ?_ (hy := by (intro w' s0; have y0 : w'.cell? ⟨N, 0, none⟩ = some (.int .i64 M) := (blk_cell (blk_below HN2.out s0.out) 0).trans rfl; have y1 : w'.cell? ⟨N, 1, none⟩ = some (.int .i64 now) := (blk_cell (blk_below HN2.out s0.out) 1).trans rfl; have y2 : w'.cell? ⟨N, 2, none⟩ = some (.slice A l.length c) := (blk_cell (blk_below HN2.out s0.out) 2).trans rfl; have y3 : w'.cell? ⟨N, 3, none⟩ = some (.slice A2 q.length c2) := (blk_cell (blk_below HN2.out s0.out) 3).trans rfl; have y4 : w'.cell? ⟨N, 4, none⟩ = some (.slice A4 0 c4) := (blk_cell (blk_below HN2.out s0.out) 4).trans rfl; have q0 : w'.cell? ⟨w1.heap.size, 0, none⟩ = some (.int .i64 x.f0) := (blk_cell (blk_below HZ2.out s0.out) 0).trans rfl); go_simp; with_reducible rfl);refine tst 5 (some 30) HT_ HW_ hHeld ?_ (hy := by (intro w' s0; have y0 : w'.cell? ⟨N, 0, none⟩ = some (.int .i64 M) := (blk_cell (blk_below HN2.out s0.out) 0).trans rfl; have y1 : w'.cell? ⟨N, 1, none⟩ = some (.int .i64 now) := (blk_cell (blk_below HN2.out s0.out) 1).trans rfl; have y2 : w'.cell? ⟨N, 2, none⟩ = some (.slice A l.length c) := (blk_cell (blk_below HN2.out s0.out) 2).trans rfl; have y3 : w'.cell? ⟨N, 3, none⟩ = some (.slice A2 q.length c2) := (blk_cell (blk_below HN2.out s0.out) 3).trans rfl; have y4 : w'.cell? ⟨N, 4, none⟩ = some (.slice A4 0 c4) := (blk_cell (blk_below HN2.out s0.out) 4).trans rfl; have q0 : w'.cell? ⟨w1.heap.size, 0, none⟩ = some (.int .i64 x.f0) := (blk_cell (blk_below HZ2.out s0.out) 0).trans rfl); go_simp; with_reducible rfl);refine join_ (σ := Nat × Option Addr × Nat × Option Addr × Nat × Option Addr × Nat × Value) 3 #[true, true, true, true, true, true, true, true, true, true, true, true, true, false, false, false] (fun s => [(32, .tuple #[.agg #[.int .i64 M, .int .i64 now, .slice s.2.1 l.length s.2.2.1, .slice s.2.2.2.1 q.length s.2.2.2.2.1, .slice s.2.2.2.2.2.1 0 s.2.2.2.2.2.2.1], s.2.2.2.2.2.2.2, .int .i64 0]), (24, .tuple #[.agg #[.int .i64 M, .int .i64 now, .slice s.2.1 l.length s.2.2.1, .slice s.2.2.2.1 q.length s.2.2.2.2.1, .slice s.2.2.2.2.2.1 0 s.2.2.2.2.2.2.1], s.2.2.2.2.2.2.2, .int .i64 0]), (33, .agg #[.int .i64 M, .int .i64 now, .slice s.2.1 l.length s.2.2.1, .slice s.2.2.2.1 q.length s.2.2.2.2.1, .slice s.2.2.2.2.2.1 0 s.2.2.2.2.2.2.1]), (34, s.2.2.2.2.2.2.2), (35, .int .i64 0), (10, .pointer (some ⟨s.1, 0, none⟩))]) (fun s w' => Hid (RelS M now l q B i x P wd s.1 s.2.1 s.2.2.2.1 s.2.2.2.2.2.2.2 w') /\ Hid (Below w2.heap.size w2 w')) ?_ ?_;rotate_left
  ·intro hCont;refine two_ (i := 7) (j := 12) (Ni := some 32) (Nj := some 10) #[true, true, true, true, true, true, true, true, false, false, false, false, false, false, false, false] #[true, true, true, true, true, true, true, false, false, false, false, false, true, false, false, false] rfl rfl rfl rfl (two_of HT_.out (by kernel_rfl)) (by decide) (by decide) (fun K hK => ?_) (fun K hK => ?_)
   ·skip
    refine goes_ Tryz.func24 (by kernel_rfl) rfl #[.agg #[.int .i64 M, .int .i64 now, .slice A l.length c, .slice A2 q.length c2, .slice A4 0 c4], .int .i64 x.f0, .slice Ap P.length cp] (by rfl) rfl rfl (by simp only [List.map_toArray, List.map_cons, List.map_nil]; rfl) ?_;with_reducible refine (DR _ (HB2.out.trans (hHeld.out.mono HB2.out.size))).mono ?_;rintro e w15 ⟨A5, c5, A6, c6, A7, c7, v5, rfl, hW⟩;refine ⟨_, rfl, ?_⟩;refine hK.out _ _ ((hZ (hHeld.out.trans (hW.Bl.mono hHeld.out.size)))) (fun hHeld => ?_);clear hK K;refine norm_ (a' := ?_) ?_ ?_;rotate_left
    ·show Act.put _ (some 32) _ = _;simp only [Act.put, sqA, sqB, sqC, i64_w, i32_w];rfl
    refine pst 8 (some 24) HT_ ?_;refine pst 9 (some 33) HT_ ?_;refine pst 10 (some 34) HT_ ?_;refine pst 11 (some 35) HT_ ?_;refine one_ (i := 12) (N := some 10) #[true, true, true, true, true, true, true, true, true, true, true, true, true, false, false, false] rfl rfl (one_of HT_.out (by kernel_rfl)) (by decide) (fun K hK => ?_);refine value_ (w1 := ?_) (v := ?_) (by rfl) rfl ?_ ?_;rotate_left 2
    ·go_simp;constructor
     ·rfl
     ·rfl
    refine hK.out _ _ ((hZ (hHeld.out.trans ((below_alloc (Below.refl _ _) _).mono hHeld.out.size)))) (fun hHeld => ?_);clear hK K;refine norm_ (a' := ?_) ?_ ?_;rotate_left
    ·show Act.put _ (some 10) _ = _;simp only [Act.put, sqA, sqB, sqC, i64_w, i32_w];rfl
    exact norm_ (by simp only [putAll, Act.put, sqA, sqB, sqC]) (hCont (w15.heap.size, A5, c5, A6, c6, A7, c7, v5) _ ⟨hZ (RelS.after hW (by have := HBN.out; have := HB2.out.size; omega)), hHeld⟩)
   ·skip
    refine value_ (w1 := ?_) (v := ?_) (by rfl) rfl ?_ ?_;rotate_left 2
    ·go_simp;constructor
     ·rfl
     ·rfl
    refine hK.out _ _ ((hZ (hHeld.out.trans ((below_alloc (Below.refl _ _) _).mono hHeld.out.size)))) (fun hHeld => ?_);clear hK K;refine norm_ (a' := ?_) ?_ ?_;rotate_left
    ·show Act.put _ (some 10) _ = _;simp only [Act.put, sqA, sqB, sqC, i64_w, i32_w];rfl
    refine one_ (i := 7) (N := some 32) #[true, true, true, true, true, true, true, true, false, false, false, false, true, false, false, false] rfl rfl (one_of HT_.out (by kernel_rfl)) (by decide) (fun K hK => ?_);refine goes_ Tryz.func24 (by kernel_rfl) rfl #[.agg #[.int .i64 M, .int .i64 now, .slice A l.length c, .slice A2 q.length c2, .slice A4 0 c4], .int .i64 x.f0, .slice Ap P.length cp] (by rfl) rfl rfl (by simp only [List.map_toArray, List.map_cons, List.map_nil]; rfl) ?_;with_reducible refine (DR _ (HB2.out.trans (hHeld.out.mono HB2.out.size))).mono ?_;rintro e w15 ⟨A5, c5, A6, c6, A7, c7, v5, rfl, hW⟩;refine ⟨_, rfl, ?_⟩;refine hK.out _ _ ((hZ (hHeld.out.trans (hW.Bl.mono hHeld.out.size)))) (fun hHeld => ?_);clear hK K;refine norm_ (a' := ?_) ?_ ?_;rotate_left
    ·show Act.put _ (some 32) _ = _;simp only [Act.put, sqA, sqB, sqC, i64_w, i32_w];rfl
    refine pst 8 (some 24) HT_ ?_;refine pst 9 (some 33) HT_ ?_;refine pst 10 (some 34) HT_ ?_;refine pst 11 (some 35) HT_ ?_;exact norm_ (by simp only [putAll, Act.put, sqA, sqB, sqC]) (hCont (wd.heap.size, A5, c5, A6, c6, A7, c7, v5) _ ⟨hZ (RelS.ahead hW (by have := HBN.out; have := HB2.out.size; omega)), hHeld⟩)
  rintro ⟨sb, A5, c5, A6, c6, A7, c7, v5⟩ w16 ⟨hS6, hB6⟩;have hHeld : Hid (Below w2.heap.size w2 w16) := hB6;refine norm_ (a' := ?_) ?_ ?_;rotate_left
  ·simp only [putAll, Act.put, sqA, sqB, sqC];rfl
  refine last_ (i := 13) (N := none) #[true, true, true, true, true, true, true, true, true, true, true, true, true, true, false, false] rfl rfl (one_of HT_.out (by kernel_rfl)) (by decide) (fun K hK => ?_);have z0 := (blk_cell hS6.out.Z 0).trans rfl;have f0 := blk_frozen hS6.out.Z 0;have z1 := (blk_cell hS6.out.Z 1).trans rfl;have f1 := blk_frozen hS6.out.Z 1;have z2 := (blk_cell hS6.out.Z 2).trans rfl;have f2 := blk_frozen hS6.out.Z 2;have z3 := (blk_cell hS6.out.Z 3).trans rfl;have f3 := blk_frozen hS6.out.Z 3;have z4 := (blk_cell hS6.out.Z 4).trans rfl;have f4 := blk_frozen hS6.out.Z 4;refine skip_ (w1 := ?_) (by rfl) rfl ?_ ?_;rotate_left
  ·go_simp;rfl
  have HS17 := hZ (blk_put (cs' := #[.int .i64 M, .int .i64 now, .slice A5 l.length c5, .slice A6 q.length c6, .slice A7 0 c7]) (blk_put (blk_put (blk_put (blk_put hS6.out.Z 0 (.int .i64 M) rfl) 1 (.int .i64 now) rfl) 2 (.slice A5 l.length c5) rfl) 3 (.slice A6 q.length c6) rfl) 4 (.slice A7 0 c7) rfl);have HT17 := hZ ((((((Turn.refl w16 (fun b => b = sb)).set rfl 0 (.int .i64 M)).set rfl 1 (.int .i64 now)).set rfl 2 (.slice A5 l.length c5)).set rfl 3 (.slice A6 q.length c6)).set rfl 4 (.slice A7 0 c7));clear z0 f0 z1 f1 z2 f2 z3 f3 z4 f4;generalize hws : World.setCell _ _ _ = w17 at *;clear hws;refine hK.out _ _ ?_;clear hK K;refine pst 14 (some 11) HT_ ?_;refine pst 15 (some 9) HT_ ?_;refine done_ (done_of HT_.out (by kernel_rfl)) ?_;dsimp only at hS6 HS17;have hsw2 := HB2.out.size;have hsl := hS6.out.sl;have hs17 := HT17.out.size;have hs6 := hB6.out.size;have HB17 : Hid (Below w2.heap.size w2 w17) := hZ (Turn.below hB6.out HT17.out (fun b e => by omega) hs6);have HBw : Hid (Below w.heap.size w w17) := hZ (HB2.out.trans (HB17.out.mono HB2.out.size));have HN17 := hZ (blk_below HN2.out HB17.out);have HZ17 := hZ (blk_below HZ2.out HB17.out);have HE17 := hZ (Kd.R_below HE.out HBw.out);have HV17 : Hid ((Kd.raw 4).R 67 w17 wd.heap.size (fun _ => True) v5 ((relE now x).map Ev.cells)) := hZ (raw_turn hS6.out.E HT17.out (fun b hb e => hS6.out.vs (by rw [hb, e])));have hev : ((relE now x).map Ev.cells).length <= 2 := by rw [List.length_map]; exact relE_few now x
  obtain ⟨es, hes⟩ : ∃ es, es = (relE now x).map Ev.cells := ⟨_, rfl⟩;rw [<- hes] at HV17 hev;have HES := hZ hes;clear hes;have c0 := (blk_cell HS17.out 0).trans rfl;have c1 := (blk_cell HS17.out 1).trans rfl;have c2' := (blk_cell HS17.out 2).trans rfl;have c3 := (blk_cell HS17.out 3).trans rfl;have c4' := (blk_cell HS17.out 4).trans rfl;have z0 : w17.cell? ⟨N, 0, none⟩ = some (.int .i64 M) := (blk_cell HN17.out 0).trans rfl;have z1 : w17.cell? ⟨N, 1, none⟩ = some (.int .i64 now) := (blk_cell HN17.out 1).trans rfl;have z2 : w17.cell? ⟨N, 2, none⟩ = some (.slice A l.length c) := (blk_cell HN17.out 2).trans rfl;have z3 : w17.cell? ⟨N, 3, none⟩ = some (.slice A2 q.length c2) := (blk_cell HN17.out 3).trans rfl;have z4 : w17.cell? ⟨N, 4, none⟩ = some (.slice A4 0 c4) := (blk_cell HN17.out 4).trans rfl;have f0 := blk_frozen HN17.out 0;have f1 := blk_frozen HN17.out 1;have f2 := blk_frozen HN17.out 2;have f3 := blk_frozen HN17.out 3;have f4 := blk_frozen HN17.out 4
  go_upto_region 8 with fail
  have HN18 := hZ (blk_put (cs' := sysC M now A5 l.length c5 A6 q.length c6 A7 c7 (.pointer (some ⟨Nb, 0, none⟩)) (.pointer (some ⟨Nn, 0, none⟩)) a7 (.slice AE nE cE)) (blk_put (blk_put (blk_put (blk_put HN17.out 0 (.int .i64 M) rfl) 1 (.int .i64 now) rfl) 2 (.slice A5 l.length c5) rfl) 3 (.slice A6 q.length c6) rfl) 4 (.slice A7 0 c7) rfl);have HT18 := hZ ((((((Turn.refl w17 (fun b => b = N)).set rfl 0 (.int .i64 M)).set rfl 1 (.int .i64 now)).set rfl 2 (.slice A5 l.length c5)).set rfl 3 (.slice A6 q.length c6)).set rfl 4 (.slice A7 0 c7));generalize hws : World.setCell _ _ _ = w18 at *;clear hws c0 c1 c2' c3 c4' z0 z1 z2 z3 z4 f0 f1 f2 f3 f4;have hs18 := HT18.out.size;have hsw := HBw.out.size;have HV18 := raw_turn HV17.out HT18.out (fun b hb e => by have := Kd.R_base HV17.out b hb; omega);have HE18 := hZ (raw_turn HE17.out HT18.out (fun b hb e => HL6.out b hb e));obtain ⟨AV, cV, e5, hcV, hCV⟩ := Kd.R_reads HV18;have HCV := hZ hCV;have HV5 := hZ e5;have x8 : w18.cell? ⟨N, 8, none⟩ = some (.slice AE nE cE) := (blk_cell HN18.out 8).trans rfl;have hb18 : bE <= w18.heap.size := by have := HBE.out; omega
  have HRS := hZ (And.intro hS6.out.R hS6.out.vs);rw [e5] at HRS;subst e5;clear hCV HV18 hS6 hB6
  go_upto_region 9 with ((with_reducible refine gate_builtin (b := .append) (xs := #[.tmp 50, .tmp 51]) rfl ?_); at_builtin; refine Kd.R_append_rows (Kd.raw 4) (Rr := (Kd.raw 4).K w18) (okp := fun _ => False) (w0 := w18) bE rfl (.tmp 50) (.tmp 51) 48 67 (.agg #[.int .i64 0, .int .i64 0, .int .i64 0, .int .i64 0]) 32 rfl Tryz.underlying48 info67 rfl (by decide) (by omega) (.slice AE nE cE) E es AV es.length cV (fun _ => True) rfl rfl HE18.out ?hC (fun _ _ h => h) (fun _ h => h.elim) (fun _ _ => trivial) (Below.refl _ _) hb18 ?aL ?_; (case hC => exact HCV.out); (case aL => omega); intro v9 w19 hR9 hB9 hg9 hat9; obtain ⟨A9, c9, e9⟩ := Kd.R_slice hR9; rw [List.length_append] at e9; subst e9; have HR9 := hZ hR9; have HT9 := hZ (grown_turn hg9); have HAT9 := hZ hat9; have HN19 := hZ ((HT9.out.block N (by omega) (fun e => HL6.out _ e.symm rfl)).trans HN18.out); have y8 : w19.cell? ⟨N, 8, none⟩ = some (.slice AE nE cE) := ((blk_cell HN19.out 8).trans rfl); have f8 := blk_frozen HN19.out 8; clear hR9 hB9 hg9 hat9 x8)
  have HN20 := hZ (blk_put (cs' := sysC M now A5 l.length c5 A6 q.length c6 A7 c7 (.pointer (some ⟨Nb, 0, none⟩)) (.pointer (some ⟨Nn, 0, none⟩)) a7 (.slice A9 (E.length + es.length) c9)) HN19.out 8 (.slice A9 (E.length + es.length) c9) rfl);have HT20 := hZ ((Turn.refl w19 (fun b => b = N)).set rfl 8 (.slice A9 (E.length + es.length) c9));generalize hws : World.setCell _ _ _ = w20 at *;clear hws y8 f8;have hs19 := HT9.out.size;have hs20 := HT20.out.size;have HAEw : Hid (∀ b, (Value.slice AE nE cE).ownBlock = some b -> b < w.heap.size) := hZ (fun b e => Kd.R_lt HE.out b e);have HT1720 : Hid (Turn w17 w20 (fun b => b = N \/ some b = (Value.slice AE nE cE).ownBlock)) := hZ (((HT18.out.imp (fun b e => .inl e)).trans (HT9.out.imp (fun b e => .inr e))).trans (HT20.out.imp (fun b e => .inl e)));have hz1 : w1.heap.size < w2.heap.size := blk_lt HZ2.out;have HZ20 := hZ ((HT1720.out.block w1.heap.size (by have := HB17.out.size; omega) (fun e => e.elim (fun e => by omega) (fun e => by have := HAEw.out _ e.symm; omega))).trans HZ17.out);have y5 : w20.cell? ⟨w1.heap.size, 9, none⟩ = some (.int .i64 x.f5) := (blk_cell HZ20.out 9).trans rfl;go_wp2;go_ret2;have hT2 : ∀ b, (b = N \/ some b = (Value.slice AE nE cE).ownBlock) -> lab b = 1 \/ lab b = 6 := fun b e => e.imp (fun e => by rw [e]; exact HX.out.l1) (fun e => HX.out.l6 b e.symm)
  have hTw : Turn w w20 (fun b => b = N \/ some b = (Value.slice AE nE cE).ownBlock) := (Turn.of_below _ HBw.out).trans HT1720.out;refine ⟨rfl, ?_, hTw.imp (fun b e => by have := hT2 b e; omega)⟩;obtain ⟨⟨F, B', h1, h2, h3, h4, h5⟩, hvs⟩ := HRS.out;have hT16 : Turn w16 w20 (fun b => b = sb \/ b = N \/ some b = (Value.slice AE nE cE).ownBlock) := (HT17.out.imp (fun b e => .inl e)).trans (HT1720.out.imp (fun b e => .inr e))
  have hv9 : ∀ b, (Value.slice A9 (E.length + es.length) c9).ownBlock = some b -> (Value.slice AE nE cE).ownBlock = some b \/ w18.heap.size <= b := fun b e => by
   rcases HAT9.out with h | ⟨b2, h, hle⟩
   ·exact .inl (h ▸ e)
   ·rw [h] at e; injection e with e; exact .inr (by omega)
  have hG : ∀ b, B'.G b -> b ≠ N /\ (Value.slice AE nE cE).ownBlock ≠ some b := fun b hb => by
   rcases (h2 b hb).1 with h | h
   ·have h8 : lab b = 7 := HX.out.l8 b h;exact ⟨fun e => by have h9 := HX.out.l1; rw [<- e] at h9; omega, fun e => by have h9 := HX.out.l6 b e; omega⟩
   ·exact ⟨by omega, fun e => by have := HAEw.out b e; omega⟩
  have hF : ∀ b, F b -> b ≠ N /\ (Value.slice AE nE cE).ownBlock ≠ some b := fun b hb => by
   have := (h4 b hb).1;exact ⟨by omega, fun e => by have := HAEw.out b e; omega⟩
  have hES := HES.out;rw [<- hES]
  exact HX.out.anew hTw hT2 A5 c5 A6 c6 A7 c7 A9 (E.length + es.length) c9 B' F (by rw [List.length_set]; exact HN20.out) (raw_turn HR9.out HT20.out (fun b hb e => by
   rcases hv9 b hb with h | h
   ·exact HL6.out b h e
   ·omega)) (h1.keep hT16 (fun b e => by
   rcases e with e | e | e
   ·exact ⟨fun h => (h4 b h).2.2.2 e, fun h => (h2 b h).2 e⟩
   ·exact ⟨fun h => (hF b h).1 e, fun h => (hG b h).1 e⟩
   ·exact ⟨fun h => (hF b h).2 e.symm, fun h => (hG b h).2 e.symm⟩)) (fun b hb => ⟨.inr (by have := (h4 b hb).1; omega), by have := (h4 b hb).2.1; omega, fun e => by
   rcases hv9 b e with h | h
   ·exact (hF b hb).2 h
   ·have := (h4 b hb).2.1; omega⟩) (by
   rcases HAT9.out with h | ⟨b2, h, hle⟩
   ·exact .inl h
   ·exact .inr (fun b e => by rw [h] at e; injection e with e; omega)) (fun b hb => ⟨(h2 b hb).1.imp (fun h => h) (fun h => by omega), fun e => by
   rcases hv9 b e with h | h
   ·exact (hG b hb).2 h
   ·have := B'.lt b hb; omega⟩) (by omega)
 ·have gC : (C != 0) = true := by simpa using hC0
  have DR := fun wx (hb : Below w.heap.size w wx) => (DR wx hb).mono (fun e w' h => h.1 hC0)
  go_upto_region 4 with fail
  refine start_ (n := 16) (S := fun w' => Hid (Below w2.heap.size w2 w')) (ds := [13]) #[false, false, false, false, false, false, false, false, false, false, false, false, false, false, false, false] (by kernel_rfl) rfl rfl ((hZ (below_drew (Below.refl _ _)))) (fun hHeld => ?_);refine with_tabW srelw.tab4 srelw.bits4 (fun HT_ HW_ => ?_);have hbd := drB w2;have hsd : w2.heap.size = w2.drew.heap.size := rfl;generalize hwd : w2.drew = wd at *;clear hwd;refine pst 0 (some 25) HT_ ?_;refine pst 1 (some 26) HT_ ?_;refine pst 2 (some 27) HT_ ?_;refine pst 4 (some 29) HT_ ?_;refine pst 6 (some 31) HT_ ?_;refine tst 3 (some 28) HT_ HW_ hHeld ?_ (hy := by (intro w' s0; have y0 : w'.cell? ⟨N, 0, none⟩ = some (.int .i64 M) := (blk_cell (blk_below HN2.out s0.out) 0).trans rfl; have y1 : w'.cell? ⟨N, 1, none⟩ = some (.int .i64 now) := (blk_cell (blk_below HN2.out s0.out) 1).trans rfl; have y2 : w'.cell? ⟨N, 2, none⟩ = some (.slice A l.length c) := (blk_cell (blk_below HN2.out s0.out) 2).trans rfl; have y3 : w'.cell? ⟨N, 3, none⟩ = some (.slice A2 q.length c2) := (blk_cell (blk_below HN2.out s0.out) 3).trans rfl; have y4 : w'.cell? ⟨N, 4, none⟩ = some (.slice A4 0 c4) := (blk_cell (blk_below HN2.out s0.out) 4).trans rfl; have q0 : w'.cell? ⟨w1.heap.size, 0, none⟩ = some (.int .i64 x.f0) := (blk_cell (blk_below HZ2.out s0.out) 0).trans rfl); go_simp; with_reducible rfl);refine tst 5 (some 30) HT_ HW_ hHeld ?_ (hy := by (intro w' s0; have y0 : w'.cell? ⟨N, 0, none⟩ = some (.int .i64 M) := (blk_cell (blk_below HN2.out s0.out) 0).trans rfl; have y1 : w'.cell? ⟨N, 1, none⟩ = some (.int .i64 now) := (blk_cell (blk_below HN2.out s0.out) 1).trans rfl; have y2 : w'.cell? ⟨N, 2, none⟩ = some (.slice A l.length c) := (blk_cell (blk_below HN2.out s0.out) 2).trans rfl; have y3 : w'.cell? ⟨N, 3, none⟩ = some (.slice A2 q.length c2) := (blk_cell (blk_below HN2.out s0.out) 3).trans rfl; have y4 : w'.cell? ⟨N, 4, none⟩ = some (.slice A4 0 c4) := (blk_cell (blk_below HN2.out s0.out) 4).trans rfl; have q0 : w'.cell? ⟨w1.heap.size, 0, none⟩ = some (.int .i64 x.f0) := (blk_cell (blk_below HZ2.out s0.out) 0).trans rfl); go_simp; with_reducible rfl);refine join_ (σ := Nat) 3 #[true, true, true, true, true, true, true, true, true, true, true, true, true, false, false, false] (fun s => [(32, .tuple #[.agg #[.int .i64 M, .int .i64 now, .slice A l.length c, .slice A2 q.length c2, .slice A4 0 c4], .slice none 0 0, .int .i64 C]), (24, .tuple #[.agg #[.int .i64 M, .int .i64 now, .slice A l.length c, .slice A2 q.length c2, .slice A4 0 c4], .slice none 0 0, .int .i64 C]), (33, .agg #[.int .i64 M, .int .i64 now, .slice A l.length c, .slice A2 q.length c2, .slice A4 0 c4]), (34, .slice none 0 0), (35, .int .i64 C), (10, .pointer (some ⟨s, 0, none⟩))]) (fun s w' => Hid (w'.heap[s]? = some (.cells #[.int .i64 0, .int .i64 0, .slice none 0 0, .slice none 0 0, .slice none 0 0] 47 (0, 0))) /\ Hid (Below w2.heap.size w2 w') /\ Hid (w2.heap.size <= s)) ?_ ?_;rotate_left
  ·intro hCont;refine two_ (i := 7) (j := 12) (Ni := some 32) (Nj := some 10) #[true, true, true, true, true, true, true, true, false, false, false, false, false, false, false, false] #[true, true, true, true, true, true, true, false, false, false, false, false, true, false, false, false] rfl rfl rfl rfl (two_of HT_.out (by kernel_rfl)) (by decide) (by decide) (fun K hK => ?_) (fun K hK => ?_)
   ·skip
    refine goes_ Tryz.func24 (by kernel_rfl) rfl #[.agg #[.int .i64 M, .int .i64 now, .slice A l.length c, .slice A2 q.length c2, .slice A4 0 c4], .int .i64 x.f0, .slice Ap P.length cp] (by rfl) rfl rfl (by simp only [List.map_toArray, List.map_cons, List.map_nil]; rfl) ?_;with_reducible refine (DR _ (HB2.out.trans (hHeld.out.mono HB2.out.size))).mono ?_;rintro e w15 ⟨rfl, hB15⟩;refine ⟨_, rfl, ?_⟩;refine hK.out _ _ ((hZ (hHeld.out.trans (hB15.mono hHeld.out.size)))) (fun hHeld => ?_);clear hK K;refine norm_ (a' := ?_) ?_ ?_;rotate_left
    ·show Act.put _ (some 32) _ = _;simp only [Act.put, sqA, sqB, sqC, i64_w, i32_w];rfl
    refine pst 8 (some 24) HT_ ?_;refine pst 9 (some 33) HT_ ?_;refine pst 10 (some 34) HT_ ?_;refine pst 11 (some 35) HT_ ?_;refine one_ (i := 12) (N := some 10) #[true, true, true, true, true, true, true, true, true, true, true, true, true, false, false, false] rfl rfl (one_of HT_.out (by kernel_rfl)) (by decide) (fun K hK => ?_);refine value_ (w1 := ?_) (v := ?_) (by rfl) rfl ?_ ?_;rotate_left 2
    ·go_simp;constructor
     ·rfl
     ·rfl
    refine hK.out _ _ ((hZ (hHeld.out.trans ((below_alloc (Below.refl _ _) _).mono hHeld.out.size)))) (fun hHeld => ?_);clear hK K;refine norm_ (a' := ?_) ?_ ?_;rotate_left
    ·show Act.put _ (some 10) _ = _;simp only [Act.put, sqA, sqB, sqC, i64_w, i32_w];rfl
    exact norm_ (by simp only [putAll, Act.put, sqA, sqB, sqC]) (hCont w15.heap.size _ ⟨hZ (blk_new w15 _), hHeld, hZ (by have := hB15.size; omega)⟩)
   ·skip
    refine value_ (w1 := ?_) (v := ?_) (by rfl) rfl ?_ ?_;rotate_left 2
    ·go_simp;constructor
     ·rfl
     ·rfl
    refine hK.out _ _ ((hZ (hHeld.out.trans ((below_alloc (Below.refl _ _) _).mono hHeld.out.size)))) (fun hHeld => ?_);clear hK K;refine norm_ (a' := ?_) ?_ ?_;rotate_left
    ·show Act.put _ (some 10) _ = _;simp only [Act.put, sqA, sqB, sqC, i64_w, i32_w];rfl
    refine one_ (i := 7) (N := some 32) #[true, true, true, true, true, true, true, true, false, false, false, false, true, false, false, false] rfl rfl (one_of HT_.out (by kernel_rfl)) (by decide) (fun K hK => ?_);refine goes_ Tryz.func24 (by kernel_rfl) rfl #[.agg #[.int .i64 M, .int .i64 now, .slice A l.length c, .slice A2 q.length c2, .slice A4 0 c4], .int .i64 x.f0, .slice Ap P.length cp] (by rfl) rfl rfl (by simp only [List.map_toArray, List.map_cons, List.map_nil]; rfl) ?_;with_reducible refine (DR _ (HB2.out.trans (hHeld.out.mono HB2.out.size))).mono ?_;rintro e w15 ⟨rfl, hB15⟩;refine ⟨_, rfl, ?_⟩;refine hK.out _ _ ((hZ (hHeld.out.trans (hB15.mono hHeld.out.size)))) (fun hHeld => ?_);clear hK K;refine norm_ (a' := ?_) ?_ ?_;rotate_left
    ·show Act.put _ (some 32) _ = _;simp only [Act.put, sqA, sqB, sqC, i64_w, i32_w];rfl
    refine pst 8 (some 24) HT_ ?_;refine pst 9 (some 33) HT_ ?_;refine pst 10 (some 34) HT_ ?_;refine pst 11 (some 35) HT_ ?_;exact norm_ (by simp only [putAll, Act.put, sqA, sqB, sqC]) (hCont wd.heap.size _ ⟨hZ (blk_below (blk_new wd _) hB15), hHeld, hZ (by omega)⟩)
  rintro sb w16 ⟨hA6, hB6, hS6⟩;have hHeld : Hid (Below w2.heap.size w2 w16) := hB6;refine norm_ (a' := ?_) ?_ ?_;rotate_left
  ·simp only [putAll, Act.put, sqA, sqB, sqC];rfl
  refine last_ (i := 13) (N := none) #[true, true, true, true, true, true, true, true, true, true, true, true, true, true, false, false] rfl rfl (one_of HT_.out (by kernel_rfl)) (by decide) (fun K hK => ?_);have z0 := (blk_cell hA6.out 0).trans rfl;have f0 := blk_frozen hA6.out 0;have z1 := (blk_cell hA6.out 1).trans rfl;have f1 := blk_frozen hA6.out 1;have z2 := (blk_cell hA6.out 2).trans rfl;have f2 := blk_frozen hA6.out 2;have z3 := (blk_cell hA6.out 3).trans rfl;have f3 := blk_frozen hA6.out 3;have z4 := (blk_cell hA6.out 4).trans rfl;have f4 := blk_frozen hA6.out 4;refine skip_ (w1 := ?_) (by rfl) rfl ?_ ?_;rotate_left
  ·go_simp;rfl
  have HS17 := hZ (blk_put (cs' := #[.int .i64 M, .int .i64 now, .slice A l.length c, .slice A2 q.length c2, .slice A4 0 c4]) (blk_put (blk_put (blk_put (blk_put hA6.out 0 (.int .i64 M) rfl) 1 (.int .i64 now) rfl) 2 (.slice A l.length c) rfl) 3 (.slice A2 q.length c2) rfl) 4 (.slice A4 0 c4) rfl);have HT17 := hZ ((((((Turn.refl w16 (fun b => b = sb)).set rfl 0 (.int .i64 M)).set rfl 1 (.int .i64 now)).set rfl 2 (.slice A l.length c)).set rfl 3 (.slice A2 q.length c2)).set rfl 4 (.slice A4 0 c4));clear z0 f0 z1 f1 z2 f2 z3 f3 z4 f4;generalize hws : World.setCell _ _ _ = w17 at *;clear hws;refine hK.out _ _ ?_;clear hK K;refine pst 14 (some 11) HT_ ?_;refine pst 15 (some 9) HT_ ?_;refine done_ (done_of HT_.out (by kernel_rfl)) ?_;have HB17 := hZ (Turn.below hB6.out HT17.out (fun b e => by have := hS6.out; omega) hB6.out.size)
  go_wp2_with (go_at_call 20; (with_reducible refine (DE _ _ _ hC0).mono ?_); rintro e w18 ⟨⟨pf, rfl⟩, hB18⟩; have HB18 := hZ hB18; clear hB18)
  go_ret2;exact ⟨fun _ => ⟨⟨pf, rfl⟩, HB2.out.trans ((HB17.out.trans (HB18.out.mono HB17.out.size)).mono HB2.out.size)⟩, fun h => absurd h hC0⟩
def sopenw.T4 : Bool × List (List Nat × List Nat) := (true, [([], []), ([0], [0]), ([1], [1]), ([2], [2]), ([], []), ([4], [4]), ([], []), ([], []), ([7], [7]), ([8], [8]), ([9], [9]), ([10], [10]), ([3, 5, 6, 11], [3, 5, 6, 11]), ([12, 12, 0, 1, 2, 3, 4, 5, 6, 7, 8, 9, 10, 11, 12], [12])])
def sopenw.B4 : List Nat := [0, 1, 3, 7, 0, 16, 0, 0, 128, 384, 896, 1920, 4095, 8191]
theorem sopenw.tab4 : rtab .any (opsOf Tryz.f18 4) = sopenw.T4 := by kernel_rfl
theorem sopenw.bits4 : waitsOk sopenw.T4.2 sopenw.B4 = true := by kernel_rfl
structure OpenOk (l : List S57) (q : List S63) (nn : Nat) (bk : List S157) : Prop where
  sorted : Sorted l
  n30 : nn <= 30
  len : l.length <= nn
  blen : bk.length <= nn
  lid : ∀ k (h : k < l.length), l[k].f0 <= nn
  bid : ∀ k (h : k < bk.length), bk[k].f0 <= nn
  bok : ∀ k (h : k < bk.length), WOk bk[k].f1
  qlen : q.length <= 8
  jobs : ∀ i (h : i < l.length), l[i].f2.length <= 100000
  que : ∀ i (h : i < q.length), q[i].f2.length <= 100000
theorem askC_ok {M : Int} {bk : List S157} {x : S85} (h : askC M bk x = 0) : WOk x := by
  unfold askC at h;by_cases hx : WOk x
  · exact hx
  · rw [if_neg hx] at h; exact absurd h (by decide)
theorem askC_not {M : Int} {bk : List S157} {x : S85} (h : ¬ WOk x) : askC M bk x = 1 := by
  unfold askC;rw [if_neg h]
theorem sopen_calls (N : Nat) (lab : Nat -> Nat) (M now : Int) (l : List S57) (q : List S63) (nn : Nat) (bk : List S157) (E : List (List Value)) (w : World) (h : SysAt w lab N M now l q nn bk E) (hk : OpenOk l q nn bk) (q0 p0 : Int) (hm1 : 1 <= M) (hm2 : M <= 64) (hnow : 0 <= now) :
    Calls Tryz.prog 18 #[.pointer (some ⟨N, 0, none⟩), .int .i64 q0, .int .i64 p0] w fun e w' =>
      (askC M bk ⟨q0, p0⟩ ≠ 0 -> (∃ p, e = .returned (.tuple #[.int .u32 0, .iface 111 p])) /\ Below w.heap.size w w') /\
      (askC M bk ⟨q0, p0⟩ = 0 -> e = .returned (.tuple #[.int .u32 nn, .nilIface]) /\ (∃ lab', SysAt w' lab' N M now (l ++ [newServ ((nn : Int) + 1) q0 p0]) q (nn + 1) (bk ++ [⟨(nn : Int) + 1, ⟨q0, p0⟩, -1⟩]) E /\ Grew w lab lab') /\ Turn w w' (fun b => lab b ≠ 0)) := by
  obtain ⟨r, h⟩ := h;have n30 := hk.n30;have n1 := h.l1;have n2 := h.l2;have n3 := h.l3;have n4 := h.l4;have hblk := h.blk;have DP := fun wx (hb : Below w.heap.size w wx) => place_calls r.Nn r.Ns nn wx (h.tab.below hb)
  have DG := fun wx => wgood_calls ⟨q0, p0⟩ wx
  have DN := fun wx (hb : Below w.heap.size w wx) => enter_calls M r.Nb r.bB r.vB bk ((nn : Int) + 1) ⟨q0, p0⟩ now wx (blk_below h.book hb) (Kd.R_below h.ent hb) (fun e => by have := h.l5 _ e; omega) (Nat.le_trans h.bb hb.size) (by have := hk.blen; omega) (fun k hh => by have := hk.bid k hh; omega) hk.bok hm1 hm2 hnow
  have DE := fun wx (c : Int) (hc : c ≠ 0) => fault_calls (.string { data := #[111, 112, 101, 110] }) ⟨_, rfl⟩ 0 c wx hc
  have HX := hZ h;have HK := hZ hk;have HN := hZ hblk;have HB0 := hZ (below_alloc (Below.refl w.heap.size w) (.cells #[.int .i64 q0, .int .i64 p0] 85));have HX0 := hZ (blk_new w (.cells #[.int .i64 q0, .int .i64 p0] 85));have gn : decide ((nn : Int) < 0) = false := by simp
  have HC : Hid (¬ WOk ⟨q0, p0⟩ -> askC M bk ⟨q0, p0⟩ = 1) := hZ askC_not;have HC2 : Hid (askC M bk ⟨q0, p0⟩ = 0 -> WOk ⟨q0, p0⟩) := hZ askC_ok;have hwn : IntKind.i64.wrap ((nn : Int) + 1) = (nn : Int) + 1 := by rw [i64_w]; unfold Go.RowKit.wrap64; omega
  have hNw : N < w.heap.size := blk_lt hblk;unfold EnterP at DN;generalize askC M bk ⟨q0, p0⟩ = C at *;obtain ⟨Nb, Nn, Ns, A, c, A2, c2, A4, c4, a7, vB, AE, nE, cE, bB, bE, B, F0⟩ := r;dsimp only at *;clear h hk hblk;have hs0 : (w.alloc (.cells #[.int .i64 q0, .int .i64 p0] 85)).heap.size = w.heap.size + 1 := World.size_alloc _ _;generalize hw0 : w.alloc (.cells #[.int .i64 q0, .int .i64 p0] 85) = w0 at *;have HN0 := hZ (blk_below HN.out HB0.out);have x6 : w0.cell? ⟨N, 6, none⟩ = some (.pointer (some ⟨Nn, 0, none⟩)) := (blk_cell HN0.out 6).trans rfl;have x0 := (blk_cell HX0.out 0).trans rfl;have x1 := (blk_cell HX0.out 1).trans rfl;have HW0 := hZ hw0;clear hw0;go_enter Tryz.func18, Tryz.ntmps18
  go_upto_region 2 with fail
  rw [HW0.out]
  go_upto_region 3 with (go_at_call 34; (with_reducible refine (DP _ HB0.out).mono ?_); rintro e w1 ⟨rfl, rfl⟩)
  clear DP;by_cases hx : WOk ⟨q0, p0⟩
  · have gx : decide (WOk ⟨q0, p0⟩) = true := by simpa using hx
    rw [gx] at DG;have HWOK := hZ hx;clear gx hx;by_cases hC0 : C = 0
    · subst hC0
      go_upto_if 34 with (go_at_call 35; (with_reducible refine (DG _).mono ?_); rintro e w2 ⟨rfl, hB2⟩; have HN2 := hZ (blk_below HN0.out hB2); have HX2 := hZ (blk_below HX0.out hB2); have HB2 := hZ (HB0.out.trans (hB2.mono HB0.out.size)); clear hB2 x0 x1 x6)
      go_upto_if 38 with fail
      go_upto_region 4 with fail
      refine start_ (n := 14) (S := fun w' => Hid (Below w2.heap.size w2 w')) (ds := [12]) #[false, false, false, false, false, false, false, false, false, false, false, false, false, false] (by kernel_rfl) rfl rfl ((hZ (below_drew (Below.refl _ _)))) (fun hHeld => ?_);refine with_tabW sopenw.tab4 sopenw.bits4 (fun HT_ HW_ => ?_);have hbd := drB w2;have hsd : w2.heap.size = w2.drew.heap.size := rfl;generalize hwd : w2.drew = wd at *;clear hwd;refine pst 0 (some 21) HT_ ?_;refine pst 1 (some 22) HT_ ?_;refine pst 2 (some 23) HT_ ?_;refine pst 4 (some 25) HT_ ?_;refine pst 5 (some 26) HT_ ?_;refine pst 7 (some 28) HT_ ?_;refine pst 8 (some 29) HT_ ?_;refine pst 9 (some 30) HT_ ?_;refine pst 10 (some 31) HT_ ?_;refine tst 3 (some 24) HT_ HW_ hHeld ?_ (hy := by (intro w' s0; have y1 : w'.cell? ⟨N, 5, none⟩ = some (.pointer (some ⟨Nb, 0, none⟩)) := (blk_cell (blk_below HN2.out s0.out) 5).trans rfl; have y2 : w'.cell? ⟨N, 1, none⟩ = some (.int .i64 now) := (blk_cell (blk_below HN2.out s0.out) 1).trans rfl; have q1 := (blk_cell (blk_below HX2.out s0.out) 0).trans rfl; have q2 := (blk_cell (blk_below HX2.out s0.out) 1).trans rfl); go_simp; with_reducible rfl);refine tst 6 (some 27) HT_ HW_ hHeld ?_ (hy := by (intro w' s0; have y1 : w'.cell? ⟨N, 5, none⟩ = some (.pointer (some ⟨Nb, 0, none⟩)) := (blk_cell (blk_below HN2.out s0.out) 5).trans rfl; have y2 : w'.cell? ⟨N, 1, none⟩ = some (.int .i64 now) := (blk_cell (blk_below HN2.out s0.out) 1).trans rfl; have q1 := (blk_cell (blk_below HX2.out s0.out) 0).trans rfl; have q2 := (blk_cell (blk_below HX2.out s0.out) 1).trans rfl); go_simp; with_reducible rfl);refine tst 11 (some 32) HT_ HW_ hHeld ?_ (hy := by (intro w' s0; have y1 : w'.cell? ⟨N, 5, none⟩ = some (.pointer (some ⟨Nb, 0, none⟩)) := (blk_cell (blk_below HN2.out s0.out) 5).trans rfl; have y2 : w'.cell? ⟨N, 1, none⟩ = some (.int .i64 now) := (blk_cell (blk_below HN2.out s0.out) 1).trans rfl; have q1 := (blk_cell (blk_below HX2.out s0.out) 0).trans rfl; have q2 := (blk_cell (blk_below HX2.out s0.out) 1).trans rfl); go_simp; with_reducible rfl);refine last_ (i := 12) (N := some 33) #[true, true, true, true, true, true, true, true, true, true, true, true, true, false] rfl rfl (one_of HT_.out (by kernel_rfl)) (by decide) (fun K hK => ?_);refine goes_ Tryz.func36 (by kernel_rfl) rfl #[.pointer (some ⟨Nb, 0, none⟩), .int .i64 ((nn : Int) + 1), .agg #[.int .i64 q0, .int .i64 p0], .int .i64 now] (by rfl) rfl rfl (by simp only [List.map_toArray, List.map_cons, List.map_nil]; rfl) ?_;with_reducible refine (DN _ (HB2.out.trans (hHeld.out.mono HB2.out.size))).mono ?_;rintro e w4 ⟨rfl, _, hB4⟩;refine ⟨_, rfl, ?_⟩;obtain ⟨vB', hbk4, hent4, hT4, hvb4⟩ := hB4 (by first | exact trivial | exact rfl);have HBK4 := hZ hbk4;have HENT4 := hZ hent4;have HT4 := hZ hT4;have HVB4 := hZ hvb4;have HB3 := hHeld;clear hB4 hbk4 hent4 hT4 hvb4;refine hK.out _ _ ?_;clear hK K;refine norm_ (a' := ?_) ?_ ?_;rotate_left
      · show Act.put _ (some 33) _ = _;simp only [Act.put, sqA, sqB, sqC, i64_w, i32_w];rfl
      refine pst 13 (some 10) HT_ ?_;refine done_ (done_of HT_.out (by kernel_rfl)) ?_;have HBd := hZ (HB2.out.trans (HB3.out.mono HB2.out.size));have l2 := HX.out.l2;have l1 := HX.out.l1;have l3 := HX.out.l3;have l4 := HX.out.l4;dsimp only at l2 l3 l4;have HTw4 : Hid (Turn w w4 (fun b => b = Nb \/ some b = vB.ownBlock)) := hZ ((Turn.of_below _ HBd.out).trans HT4.out);have HL4 : Hid (∀ b, (b = Nb \/ some b = vB.ownBlock) -> lab b = 2 \/ lab b = 5) := hZ (fun b e => e.imp (fun e => by rw [e]; exact l2) (fun e => HX.out.l5 b e.symm));have HN4 := hZ ((HTw4.out.block N hNw (fun e => by have := HL4.out _ e; omega)).trans HN.out);have HTAB4 := hZ (HX.out.tab.turn HTw4.out (fun e => by have := HL4.out _ e; dsimp only at this; omega) (fun e => by have := HL4.out _ e; dsimp only at this; omega));dsimp only at HTAB4;have DT := fun wx (hb : w4 = wx) => (by subst hb; exact take_calls Nn Ns nn w4 HTAB4.out (by omega) : Calls Tryz.prog 37 #[.pointer (some ⟨Nn, 0, none⟩)] wx fun e w' => e = .returned (.tuple #[.int .u32 nn, .int .i64 0]) /\ TabAt w' Nn Ns (nn + 1) /\ Turn w4 w' (fun b => b = Ns))
      have x6 : w4.cell? ⟨N, 6, none⟩ = some (.pointer (some ⟨Nn, 0, none⟩)) := (blk_cell HN4.out 6).trans rfl;have hsw := HTw4.out.size
      go_upto_region 12 with (go_at_call 37; (with_reducible refine (DT _ rfl).mono ?_); rintro e w5 ⟨rfl, hTab5, hT5⟩; have HTAB5 := hZ hTab5; have HT5 := hZ hT5; clear hTab5 hT5)
      have hs5 := HT5.out.size;have HTw5 : Hid (Turn w w5 (fun b => (b = Nb \/ some b = vB.ownBlock) \/ b = Ns)) := hZ ((HTw4.out.imp (fun b e => .inl e)).trans (HT5.out.imp (fun b e => .inr e)));have HL5 : Hid (∀ b, ((b = Nb \/ some b = vB.ownBlock) \/ b = Ns) -> lab b = 2 \/ lab b = 5 \/ lab b = 4) := hZ (fun b e => e.elim (fun e => (HL4.out b e).imp (fun h => h) (fun h => .inl h)) (fun e => by rw [e]; exact .inr (.inr l4)));have HN5 := hZ ((HTw5.out.block N hNw (fun e => by have := HL5.out _ e; omega)).trans HN.out);have hM5 : RdF w5 F0 B A l A2 q := HX.out.mach.keep HTw5.out (fun b e => ⟨fun hf => by have := HL5.out b e; have := HX.out.l7 b hf; omega, fun hf => by have := HL5.out b e; have := HX.out.l8 b hf; omega⟩);have hw := HWOK.out;have DA := fun wx (hb : w5 = wx) => (by subst hb; exact add_calls M now A l c A2 q c2 A4 c4 B ((nn : Int) + 1) q0 p0 w5 (Nat.le_trans HX.out.bn HTw5.out.size) hM5.now HK.out.sorted (by have := HK.out.len; omega) HK.out.qlen HK.out.jobs HK.out.que (fun k hh => by have := HK.out.lid k hh; omega) (by omega) (by omega) hw.2.2.1 hw.2.2.2 hw.2.1 : Calls Tryz.prog 38 #[stV M now A l.length c A2 q.length c2 A4 c4, .int .i64 ((nn : Int) + 1), .int .i64 q0, .int .i64 p0] wx fun e w' => ∃ A' c' A2' c2' A4 c4 F, e = .returned (.tuple #[stV M now A' (l.length + 1) c' A2' q.length c2' A4 c4, .int .i64 0]) /\ RdF w' F B A' (l ++ [newServ ((nn : Int) + 1) q0 p0]) A2' q /\ (∀ b, F b -> w5.heap.size <= b /\ b < w'.heap.size) /\ Below w5.heap.size w5 w')
      unfold stV at DA;have x0 : w5.cell? ⟨N, 0, none⟩ = some (.int .i64 M) := (blk_cell HN5.out 0).trans rfl;have x1 : w5.cell? ⟨N, 1, none⟩ = some (.int .i64 now) := (blk_cell HN5.out 1).trans rfl;have x2 : w5.cell? ⟨N, 2, none⟩ = some (.slice A l.length c) := (blk_cell HN5.out 2).trans rfl;have x3 : w5.cell? ⟨N, 3, none⟩ = some (.slice A2 q.length c2) := (blk_cell HN5.out 3).trans rfl;have x4 : w5.cell? ⟨N, 4, none⟩ = some (.slice A4 0 c4) := (blk_cell HN5.out 4).trans rfl;clear x6 hM5 hw
      go_upto_region 13 with (go_at_call 38; (with_reducible refine (DA _ rfl).mono ?_); rintro e w6 ⟨A', c', A2', c2', A5, c5, F, rfl, hR6, hF6, hB6⟩; have HR6 := hZ hR6; have HF6 := hZ hF6; have HB6 := hZ hB6; have HN6 := hZ (blk_below HN5.out hB6); have z0 : w6.cell? ⟨N, 0, none⟩ = some (.int .i64 M) := (blk_cell HN6.out 0).trans rfl; have z1 : w6.cell? ⟨N, 1, none⟩ = some (.int .i64 now) := (blk_cell HN6.out 1).trans rfl; have z2 : w6.cell? ⟨N, 2, none⟩ = some (.slice A l.length c) := (blk_cell HN6.out 2).trans rfl; have z3 : w6.cell? ⟨N, 3, none⟩ = some (.slice A2 q.length c2) := (blk_cell HN6.out 3).trans rfl; have z4 : w6.cell? ⟨N, 4, none⟩ = some (.slice A4 0 c4) := (blk_cell HN6.out 4).trans rfl; have f0 := blk_frozen HN6.out 0; have f1 := blk_frozen HN6.out 1; have f2 := blk_frozen HN6.out 2; have f3 := blk_frozen HN6.out 3; have f4 := blk_frozen HN6.out 4; clear hR6 hF6 hB6 x0 x1 x2 x3 x4)
      have HN7 := hZ (blk_put (cs' := sysC M now A' (l.length + 1) c' A2' q.length c2' A5 c5 (.pointer (some ⟨Nb, 0, none⟩)) (.pointer (some ⟨Nn, 0, none⟩)) a7 (.slice AE nE cE)) (blk_put (blk_put (blk_put (blk_put HN6.out 0 (.int .i64 M) rfl) 1 (.int .i64 now) rfl) 2 (.slice A' (l.length + 1) c') rfl) 3 (.slice A2' q.length c2') rfl) 4 (.slice A5 0 c5) rfl);have HT7 := hZ ((((((Turn.refl w6 (fun b => b = N)).set rfl 0 (.int .i64 M)).set rfl 1 (.int .i64 now)).set rfl 2 (.slice A' (l.length + 1) c')).set rfl 3 (.slice A2' q.length c2')).set rfl 4 (.slice A5 0 c5));generalize hws : World.setCell _ _ _ = w7 at *;clear hws z0 z1 z2 z3 z4 f0 f1 f2 f3 f4;go_wp2;go_ret2;have hs6 := HB6.out.size;have hs7 := HT7.out.size;have hNb : Nb < w.heap.size := blk_lt HX.out.book;have hne : Nb ≠ Ns /\ Nb ≠ N /\ Nn ≠ N /\ Ns ≠ N := ⟨fun e => by rw [e] at l2; omega, fun e => by rw [e] at l2; omega, fun e => by rw [e] at l3; omega, fun e => by rw [e] at l4; omega⟩;have hNs : Ns < w.heap.size := HX.out.lt _ (by omega);have hNn : Nn < w.heap.size := HX.out.lt _ (by omega);have hsd2 := HBd.out.size;have hvl : ∀ b, vB'.ownBlock = some b -> b < w4.heap.size := fun b e => Kd.R_lt HENT4.out b e
      have hvo : ∀ b, vB'.ownBlock = some b -> b < w.heap.size -> lab b = 5 := fun b e hlt => by
        rcases HVB4.out with h | ⟨b2, h, hle⟩
        · exact HX.out.l5 b (h ▸ e)
        · rw [h] at e; injection e with e; omega
      have HT47 : Turn w4 w7 (fun b => b = Ns \/ b = N) := ((HT5.out.imp (fun b e => .inl e)).trans (Turn.of_below _ HB6.out)).trans (HT7.out.imp (fun b e => .inr e));have HTw7 : Turn w w7 (fun b => (b = Nb \/ some b = vB.ownBlock) \/ b = Ns \/ b = N) := (HTw4.out.imp (fun b e => .inl e)).trans (HT47.imp (fun b e => .inr e))
      have HL7 : ∀ b, ((b = Nb \/ some b = vB.ownBlock) \/ b = Ns \/ b = N) -> lab b = 2 \/ lab b = 5 \/ lab b = 4 \/ lab b = 1 := fun b e => by
        rcases e with e | e | e
        · have := HL4.out b e; omega
        · rw [e]; exact .inr (.inr (.inl l4))
        · rw [e]; exact .inr (.inr (.inr l1))
      refine ⟨rfl, ?_, HTw7.imp (fun b e => by have := HL7 b e; omega)⟩
      classical
      have old : ∀ b, b < w.heap.size -> (if b < w.heap.size then lab b else if vB'.ownBlock = some b then 5 else if F b then 7 else 0) = lab b := fun b hb => if_pos hb
      refine ⟨fun b => (if b < w.heap.size then lab b else if vB'.ownBlock = some b then 5 else if F b then 7 else 0), ⟨⟨Nb, Nn, Ns, A', c', A2', c2', A5, c5, a7, vB', AE, nE, cE, bB, bE, B, F⟩, ?_⟩, fun b hb => ?_⟩
      · exact { blk := by rw [List.length_append]; exact HN7.out
                book := (HT47.block Nb (by omega) (fun e => e.elim hne.1 hne.2.1)).trans HBK4.out
                ent := ent_turn HENT4.out HT47 (fun b hb e => by
                  rcases e with e | e
                  · have := hvo b hb (by omega); rw [e] at this; omega
                  · have := hvo b hb (by omega); rw [e] at this; omega)
                tab := (HTAB5.out.below HB6.out).turn HT7.out hne.2.2.1 hne.2.2.2
                ev := raw_turn HX.out.ev HTw7 (fun b hb e => by have := HL7 b e; have := HX.out.l6 b hb; omega)
                mach := HR6.out.keep HT7.out (fun b e => ⟨fun hf => by have := HF6.out b hf; omega, fun hf => by have := HX.out.l8 b hf; rw [e] at this; omega⟩)
                l1 := (old _ hNw).trans l1
                l2 := (old _ hNb).trans l2
                l3 := (old _ hNn).trans l3
                l4 := (old _ hNs).trans l4
                l5 := fun b hb => by
                  by_cases hlt : b < w.heap.size
                  · exact (old b hlt).trans (hvo b hb hlt)
                  · show (if b < w.heap.size then lab b else _) = 5;rw [if_neg hlt, if_pos hb]
                l6 := fun b hb => by
                  have h6 := HX.out.l6 b hb;exact (old b (HX.out.lt b (by omega))).trans h6
                l7 := fun b hb => by
                  have h7 := HF6.out b hb;show (if b < w.heap.size then lab b else _) = 7;rw [if_neg (by omega), if_neg (fun e => by have := hvl b e; omega), if_pos hb]
                l8 := fun b hb => by
                  have h8 := HX.out.l8 b hb;exact (old b (HX.out.lt b (by omega))).trans h8
                lt := fun b hb => by
                  by_cases hlt : b < w.heap.size
                  · omega
                  · have hb2 : (if b < w.heap.size then lab b else if vB'.ownBlock = some b then 5 else if F b then 7 else 0) ≠ 0 := hb;rw [if_neg hlt] at hb2;by_cases h6 : vB'.ownBlock = some b
                    · have := hvl b h6; omega
                    · rw [if_neg h6] at hb2;by_cases h7 : F b
                      · have := HF6.out b h7; omega
                      · rw [if_neg h7] at hb2; exact absurd rfl hb2
                bn := by have := HX.out.bn; dsimp only at this |-; omega
                bb := by have := HX.out.bb; dsimp only at this |-; omega
                be := by have := HX.out.be; dsimp only at this |-; omega }
      · by_cases hlt : b < w.heap.size
        · exact .inl (fun e => hb ((old b hlt).trans e))
        · exact .inr (by omega)
    · have gC : (C != 0) = true := by simpa using hC0
      go_upto_if 34 with (go_at_call 35; (with_reducible refine (DG _).mono ?_); rintro e w2 ⟨rfl, hB2⟩; have HN2 := hZ (blk_below HN0.out hB2); have HX2 := hZ (blk_below HX0.out hB2); have HB2 := hZ (HB0.out.trans (hB2.mono HB0.out.size)); clear hB2 x0 x1 x6)
      go_upto_if 38 with fail
      go_upto_region 4 with fail
      refine start_ (n := 14) (S := fun w' => Hid (Below w2.heap.size w2 w')) (ds := [12]) #[false, false, false, false, false, false, false, false, false, false, false, false, false, false] (by kernel_rfl) rfl rfl ((hZ (below_drew (Below.refl _ _)))) (fun hHeld => ?_);refine with_tabW sopenw.tab4 sopenw.bits4 (fun HT_ HW_ => ?_);have hbd := drB w2;have hsd : w2.heap.size = w2.drew.heap.size := rfl;generalize hwd : w2.drew = wd at *;clear hwd;refine pst 0 (some 21) HT_ ?_;refine pst 1 (some 22) HT_ ?_;refine pst 2 (some 23) HT_ ?_;refine pst 4 (some 25) HT_ ?_;refine pst 5 (some 26) HT_ ?_;refine pst 7 (some 28) HT_ ?_;refine pst 8 (some 29) HT_ ?_;refine pst 9 (some 30) HT_ ?_;refine pst 10 (some 31) HT_ ?_;refine tst 3 (some 24) HT_ HW_ hHeld ?_ (hy := by (intro w' s0; have y1 : w'.cell? ⟨N, 5, none⟩ = some (.pointer (some ⟨Nb, 0, none⟩)) := (blk_cell (blk_below HN2.out s0.out) 5).trans rfl; have y2 : w'.cell? ⟨N, 1, none⟩ = some (.int .i64 now) := (blk_cell (blk_below HN2.out s0.out) 1).trans rfl; have q1 := (blk_cell (blk_below HX2.out s0.out) 0).trans rfl; have q2 := (blk_cell (blk_below HX2.out s0.out) 1).trans rfl); go_simp; with_reducible rfl);refine tst 6 (some 27) HT_ HW_ hHeld ?_ (hy := by (intro w' s0; have y1 : w'.cell? ⟨N, 5, none⟩ = some (.pointer (some ⟨Nb, 0, none⟩)) := (blk_cell (blk_below HN2.out s0.out) 5).trans rfl; have y2 : w'.cell? ⟨N, 1, none⟩ = some (.int .i64 now) := (blk_cell (blk_below HN2.out s0.out) 1).trans rfl; have q1 := (blk_cell (blk_below HX2.out s0.out) 0).trans rfl; have q2 := (blk_cell (blk_below HX2.out s0.out) 1).trans rfl); go_simp; with_reducible rfl);refine tst 11 (some 32) HT_ HW_ hHeld ?_ (hy := by (intro w' s0; have y1 : w'.cell? ⟨N, 5, none⟩ = some (.pointer (some ⟨Nb, 0, none⟩)) := (blk_cell (blk_below HN2.out s0.out) 5).trans rfl; have y2 : w'.cell? ⟨N, 1, none⟩ = some (.int .i64 now) := (blk_cell (blk_below HN2.out s0.out) 1).trans rfl; have q1 := (blk_cell (blk_below HX2.out s0.out) 0).trans rfl; have q2 := (blk_cell (blk_below HX2.out s0.out) 1).trans rfl); go_simp; with_reducible rfl);refine last_ (i := 12) (N := some 33) #[true, true, true, true, true, true, true, true, true, true, true, true, true, false] rfl rfl (one_of HT_.out (by kernel_rfl)) (by decide) (fun K hK => ?_);refine goes_ Tryz.func36 (by kernel_rfl) rfl #[.pointer (some ⟨Nb, 0, none⟩), .int .i64 ((nn : Int) + 1), .agg #[.int .i64 q0, .int .i64 p0], .int .i64 now] (by rfl) rfl rfl (by simp only [List.map_toArray, List.map_cons, List.map_nil]; rfl) ?_;with_reducible refine (DN _ (HB2.out.trans (hHeld.out.mono HB2.out.size))).mono ?_;rintro e w4 ⟨rfl, hB4, _⟩;refine ⟨_, rfl, ?_⟩;have HB4 := hZ (hHeld.out.trans ((hB4 hC0).mono hHeld.out.size));refine hK.out _ _ ?_;clear hK K;refine norm_ (a' := ?_) ?_ ?_;rotate_left
      · show Act.put _ (some 33) _ = _;simp only [Act.put, sqA, sqB, sqC, i64_w, i32_w];rfl
      refine pst 13 (some 10) HT_ ?_;refine done_ (done_of HT_.out (by kernel_rfl)) ?_
      go_wp2_with (go_at_call 20; (with_reducible refine (DE _ _ hC0).mono ?_); rintro e w5 ⟨⟨pf, rfl⟩, hB5⟩; have HB5 := hZ hB5; clear hB5)
      go_ret2;exact ⟨fun _ => ⟨⟨pf, rfl⟩, HB2.out.trans ((HB4.out.trans (HB5.out.mono HB4.out.size)).mono HB2.out.size)⟩, fun h => absurd h hC0⟩
  · have gx : decide (WOk ⟨q0, p0⟩) = false := by simpa using hx
    rw [gx] at DG;obtain rfl : C = 1 := HC.out hx;clear gx hx;have h10 : (1 : Int) ≠ 0 := by decide
    go_wp2_with (first
      | (go_at_call 35; (with_reducible refine (DG _).mono ?_); rintro e w2 ⟨rfl, hB2⟩; have HB2 := hZ (HB0.out.trans (hB2.mono HB0.out.size)); clear hB2)
      | (go_at_call 20; (with_reducible refine (DE _ _ h10).mono ?_); rintro e w3 ⟨⟨pf, rfl⟩, hB3⟩; have HB3 := hZ (HB2.out.trans (hB3.mono HB2.out.size)); clear hB3))
    go_ret2;exact ⟨fun _ => ⟨⟨pf, rfl⟩, HB3.out⟩, fun h => absurd h h10⟩
def snew.T7 : Bool × List (List Nat × List Nat) := (true, [([], []), ([], []), ([], []), ([2], []), ([0, 1, 2, 3], [0, 1, 2, 3]), ([4], [4]), ([5, 3, 0, 1, 2, 3, 4, 5], [5]), ([6, 0, 1, 2, 3, 4, 5, 6], [])])
def snew.B7 : List Nat := [0, 0, 0, 4, 15, 31, 63, 127]
theorem snew.tab7 : rtab .any (opsOf Tryz.f9 7) = snew.T7 := by kernel_rfl
theorem snew.bits7 : waitsOk snew.T7.2 snew.B7 = true := by kernel_rfl
theorem inew32 (w : World) : Calls Tryz.prog 22 #[.int .i64 32] w fun e w' => e = .returned (.pointer (some ⟨w.heap.size + 1, 0, none⟩)) /\ TabAt w' (w.heap.size + 1) w.heap.size 0 /\ w'.heap.size = w.heap.size + 2 /\ Below w.heap.size w w' :=
  (inew_calls 32 w (by decide) (by decide)).mono fun e w' ⟨h1, h2⟩ => by
    subst h2;exact ⟨h1, tab_new w, by simp, below_alloc (below_alloc (Below.refl _ _) _) _⟩
theorem inew16 (w : World) : Calls Tryz.prog 22 #[.int .i64 16] w fun e w' => e = .returned (.pointer (some ⟨w.heap.size + 1, 0, none⟩)) /\ w'.heap.size = w.heap.size + 2 /\ Below w.heap.size w w' :=
  (inew_calls 16 w (by decide) (by decide)).mono fun e w' ⟨h1, h2⟩ => by
    subst h2;exact ⟨h1, by simp, below_alloc (below_alloc (Below.refl _ _) _) _⟩
theorem snew_calls (m : Int) (A : Option Addr) (c : Nat) (ms : List Int) (w : World) (hr : (Kd.int .i64).C w A ms.length ms) (hm1 : 1 <= m) (hm2 : m <= 64) (hlen : ms.length <= 8) :
    Calls Tryz.prog 9 #[.int .i64 m, .slice A ms.length c] w fun e w' =>
      (newB_ok m ms = true -> ∃ N lab, e = .returned (.tuple #[.pointer (some ⟨N, 0, none⟩), .nilIface]) /\ SysAt w' lab N m 0 [] (ms.map lockOf) 0 [] [] /\ Below w.heap.size w w' /\ ∀ b, lab b ≠ 0 -> w.heap.size <= b) /\
      (newB_ok m ms = false -> (∃ p, e = .returned (.tuple #[.pointer none, .iface 111 p])) /\ Below w.heap.size w w') := by
  have DM := mnew_calls m A c ms w hr hm1 hm2 hlen;have DB := fun wx => bnew_calls m wx hm1 hm2
  have DE := fun wx (c : Int) (hc : c ≠ 0) => fault_calls (.string { data := #[110, 101, 119] }) ⟨_, rfl⟩ 0 c wx hc
  unfold NewP at DM;rw [List.length_map] at DM;generalize newB_ok m ms = ok at *
  cases ok with
  | false =>
    simp only [Bool.false_eq_true, if_false] at DM;have h10 : (1 : Int) ≠ 0 := by decide
    clear hr DB;go_enter Tryz.func9, Tryz.ntmps9
    go_wp2_with (first
      | (go_at_call 19; (with_reducible refine DM.mono ?_); rintro e w1 ⟨rfl, hB1⟩; have HB1 := hZ hB1; clear hB1)
      | (go_at_call 20; (with_reducible refine (DE _ _ h10).mono ?_); rintro e w3 ⟨⟨pf, rfl⟩, hB3⟩; have HB3 := hZ hB3; clear hB3))
    go_ret2;exact ⟨fun h => absurd h (by decide), fun _ => ⟨⟨pf, rfl⟩, HB1.out.trans (((below_alloc (Below.refl w1.heap.size w1) _).trans (HB3.out.mono (by simp))).mono HB1.out.size)⟩⟩
  | true =>
    simp only [if_true] at DM;unfold stV at DM;clear hr DE;go_enter Tryz.func9, Tryz.ntmps9
    go_upto_region 4 with (go_at_call 19; (with_reducible refine DM.mono ?_); rintro e w1 ⟨A2, c2, rfl, hO1, hB1⟩; have HO1 := hZ hO1; have HB1 := hZ hB1; have HX1 := hZ (blk_new w1 (.cells #[.int .i64 m, .int .i64 0, .slice none 0 0, .slice A2 ms.length c2, .slice none 0 0] 47)); have HB12 := hZ (below_alloc (Below.refl w1.heap.size w1) (.cells #[.int .i64 m, .int .i64 0, .slice none 0 0, .slice A2 ms.length c2, .slice none 0 0] 47)); clear hO1 hB1)
    generalize hw2 : World.alloc _ _ = w2 at *;have HB2 := hZ (HB1.out.trans (HB12.out.mono HB1.out.size));have hs12 : w1.heap.size < w2.heap.size := blk_lt HX1.out;clear hw2 DM
    go_upto_region 7 with (go_at_call 21; (with_reducible refine (DB _).mono ?_); rintro e w3 ⟨rfl, hb3, hB3⟩; have HBK3 := hZ hb3; have HB3 := hZ hB3; clear hb3 hB3)
    have HX3 := hZ (blk_below HX1.out HB3.out);clear DB;refine start_ (n := 8) (S := fun w' => Hid (Below w3.heap.size w3 w')) (ds := []) #[false, false, false, false, false, false, false, false] (by kernel_rfl) rfl rfl ((hZ (below_drew (Below.refl _ _)))) (fun hHeld => ?_);refine with_tabW snew.tab7 snew.bits7 (fun HT_ HW_ => ?_);have hbd := drB w3;have hsd : w3.heap.size = w3.drew.heap.size := rfl;generalize hwd : w3.drew = wd at *;clear hwd;refine pst 1 (some 29) HT_ ?_;refine tst 0 (some 28) HT_ HW_ hHeld ?_ (hy := by (intro w' s0; have y0 := (blk_cell (blk_below HX3.out s0.out) 0).trans rfl; have y1 := (blk_cell (blk_below HX3.out s0.out) 1).trans rfl; have y2 := (blk_cell (blk_below HX3.out s0.out) 2).trans rfl; have y3 := (blk_cell (blk_below HX3.out s0.out) 3).trans rfl; have y4 := (blk_cell (blk_below HX3.out s0.out) 4).trans rfl); go_simp; with_reducible rfl);refine one_ (i := 2) (N := some 30) #[true, true, true, false, false, false, false, false] rfl rfl (one_of HT_.out (by kernel_rfl)) (by decide) (fun K hK => ?_);refine goes_ Tryz.func22 (by kernel_rfl) rfl #[.int .i64 32] (by rfl) rfl rfl (by simp only [List.map_toArray, List.map_cons, List.map_nil]; rfl) ?_;with_reducible refine (inew32 _).mono ?_;rintro e w5 ⟨rfl, hTab5, hS5, hB5⟩;refine ⟨_, rfl, ?_⟩;refine hK.out _ _ ((hZ (hHeld.out.trans (hB5.mono hHeld.out.size)))) (fun hHeld => ?_);clear hK K;refine norm_ (a' := ?_) ?_ ?_;rotate_left
    · show Act.put _ (some 30) _ = _;simp only [Act.put, sqA, sqB, sqC, i64_w, i32_w];rfl
    refine one_ (i := 3) (N := some 31) #[true, true, true, true, false, false, false, false] rfl rfl (one_of HT_.out (by kernel_rfl)) (by decide) (fun K hK => ?_);refine goes_ Tryz.func22 (by kernel_rfl) rfl #[.int .i64 16] (by rfl) rfl rfl (by simp only [List.map_toArray, List.map_cons, List.map_nil]; rfl) ?_;with_reducible refine (inew16 _).mono ?_;rintro e w6 ⟨rfl, hS6, hB6⟩;refine ⟨_, rfl, ?_⟩;refine hK.out _ _ ((hZ (hHeld.out.trans (hB6.mono hHeld.out.size)))) (fun hHeld => ?_);clear hK K;refine norm_ (a' := ?_) ?_ ?_;rotate_left
    · show Act.put _ (some 31) _ = _;simp only [Act.put, sqA, sqB, sqC, i64_w, i32_w];rfl
    refine pst 4 (some 32) HT_ ?_;refine one_ (i := 5) (N := some 33) #[true, true, true, true, true, true, false, false] rfl rfl (one_of HT_.out (by kernel_rfl)) (by decide) (fun K hK => ?_);refine value_ (w1 := ?_) (v := ?_) (by rfl) rfl ?_ ?_;rotate_left 2
    · go_simp;constructor
      · rfl
      · rfl
    refine hK.out _ _ ((hZ (hHeld.out.trans ((below_alloc (Below.refl _ _) _).mono hHeld.out.size)))) (fun hHeld => ?_);clear hK K;refine norm_ (a' := ?_) ?_ ?_;rotate_left
    · show Act.put _ (some 33) _ = _;simp only [Act.put, sqA, sqB, sqC, i64_w, i32_w];rfl
    refine pst 6 (some 4) HT_ ?_;refine pst 7 (some 5) HT_ ?_;refine done_ (done_of HT_.out (by kernel_rfl)) ?_;go_wp2;go_ret2;have hs6 := hHeld.out.size;have hs3 := HB3.out.size;have hN := blk_new w6 (.cells #[.int .i64 m, .int .i64 0, .slice none 0 0, .slice A2 ms.length c2, .slice none 0 0, .pointer (some ⟨w2.heap.size, 0, none⟩), .pointer (some ⟨wd.heap.size + 1, 0, none⟩), .pointer (some ⟨wd.heap.size + 2 + 1, 0, none⟩), .slice none 0 0] 83);have hb67 := below_alloc (Below.refl w6.heap.size w6) (.cells #[.int .i64 m, .int .i64 0, .slice none 0 0, .slice A2 ms.length c2, .slice none 0 0, .pointer (some ⟨w2.heap.size, 0, none⟩), .pointer (some ⟨wd.heap.size + 1, 0, none⟩), .pointer (some ⟨wd.heap.size + 2 + 1, 0, none⟩), .slice none 0 0] 83);have hs67 : (w6.alloc (.cells #[.int .i64 m, .int .i64 0, .slice none 0 0, .slice A2 ms.length c2, .slice none 0 0, .pointer (some ⟨w2.heap.size, 0, none⟩), .pointer (some ⟨wd.heap.size + 1, 0, none⟩), .pointer (some ⟨wd.heap.size + 2 + 1, 0, none⟩), .slice none 0 0] 83)).heap.size = w6.heap.size + 1 := World.size_alloc _ _;generalize hw7 : World.alloc _ _ = w7 at *;clear hw7;have hs1 := HB1.out.size;have hbd2 : w2.heap.size < w3.heap.size := blk_lt HBK3.out;have hB37 := hHeld.out;have hBw : Below w.heap.size w w7 := HB2.out.trans ((HB3.out.trans (hB37.mono HB3.out.size)).mono HB2.out.size);refine ⟨fun _ => ⟨wd.heap.size + 2 + 2, fun b => if b = wd.heap.size + 2 + 2 then 1 else if b = w2.heap.size then 2 else if b = wd.heap.size + 1 then 3 else if b = wd.heap.size then 4 else if w.heap.size <= b /\ b < w1.heap.size then 7 else 0, rfl, ⟨⟨w2.heap.size, wd.heap.size + 1, wd.heap.size, none, 0, A2, c2, none, 0, .pointer (some ⟨wd.heap.size + 2 + 1, 0, none⟩), .slice none 0 0, none, 0, 0, 0, 0, newB w.heap.size, fun b => ∃ cc, (⟨none, 0, A2, c2, noRef, noRef⟩ : OwnR).own cc = some b⟩, ?_⟩, hBw, fun b hb => ?_⟩, fun h => absurd h (by decide)⟩
    · have hF : ∀ b, (∃ cc, (⟨none, 0, A2, c2, noRef, noRef⟩ : OwnR).own cc = some b) -> w.heap.size <= b /\ b < w1.heap.size := fun b ⟨cc, hc⟩ => HO1.out.bnd cc b hc
      exact { blk := by
                rw [List.length_map];rw [show wd.heap.size + 2 + 2 = w6.heap.size by omega];exact hN
              book := blk_below HBK3.out hB37
              ent := Kd.R_nil _ _ _ _ _
              tab := (hTab5.below hB6).below hb67
              ev := Kd.R_nil _ _ _ _ _
              mach := HO1.out.rdf.below (HB12.out.trans ((HB3.out.trans (hB37.mono HB3.out.size)).mono HB12.out.size))
              l1 := if_pos rfl
              l2 := by
                show (if w2.heap.size = wd.heap.size + 2 + 2 then 1 else if w2.heap.size = w2.heap.size then 2 else _) = 2;rw [if_neg (by omega), if_pos rfl]
              l3 := by
                show (if wd.heap.size + 1 = wd.heap.size + 2 + 2 then 1 else if wd.heap.size + 1 = w2.heap.size then 2 else if wd.heap.size + 1 = wd.heap.size + 1 then 3 else _) = 3;rw [if_neg (by omega), if_neg (by omega), if_pos rfl]
              l4 := by
                show (if wd.heap.size = wd.heap.size + 2 + 2 then 1 else if wd.heap.size = w2.heap.size then 2 else if wd.heap.size = wd.heap.size + 1 then 3 else if wd.heap.size = wd.heap.size then 4 else _) = 4;rw [if_neg (by omega), if_neg (by omega), if_neg (by omega), if_pos rfl]
              l5 := fun b hb => by simp [Value.ownBlock] at hb
              l6 := fun b hb => by simp [Value.ownBlock] at hb
              l7 := fun b hb => by
                have := hF b hb;show (if b = wd.heap.size + 2 + 2 then 1 else if b = w2.heap.size then 2 else if b = wd.heap.size + 1 then 3 else if b = wd.heap.size then 4 else if w.heap.size <= b /\ b < w1.heap.size then 7 else 0) = 7;rw [if_neg (by omega), if_neg (by omega), if_neg (by omega), if_neg (by omega), if_pos this]
              l8 := fun b hb => hb.elim
              lt := fun b hb => by
                replace hb : (if b = wd.heap.size + 2 + 2 then 1 else if b = w2.heap.size then 2 else if b = wd.heap.size + 1 then 3 else if b = wd.heap.size then 4 else if w.heap.size <= b /\ b < w1.heap.size then 7 else 0) ≠ 0 := hb;split at hb
                · omega
                · split at hb
                  · omega
                  · split at hb
                    · omega
                    · split at hb
                      · omega
                      · split at hb
                        · omega
                        · exact absurd rfl hb
              bn := by have := hBw.size; exact this
              bb := Nat.zero_le _
              be := Nat.zero_le _ }
    · replace hb : (if b = wd.heap.size + 2 + 2 then 1 else if b = w2.heap.size then 2 else if b = wd.heap.size + 1 then 3 else if b = wd.heap.size then 4 else if w.heap.size <= b /\ b < w1.heap.size then 7 else 0) ≠ 0 := hb;split at hb
      · omega
      · split at hb
        · omega
        · split at hb
          · omega
          · split at hb
            · omega
            · split at hb
              · omega
              · exact absurd rfl hb
section
variable {M now c : Int} {wt : Nat -> Int} {l : List S57} {q : List S63} {R : Nat -> List Nat}
theorem wakeS_ok {s : S54} (h : CbsOk s) (h0 : 0 <= now) (h1 : now <= 1000000000) : CbsOk (wakeS s now) /\ (wakeS s now).f4 ≠ 0 /\ now <= (wakeS s now).f3 /\ ((wakeS s now).f3 <= now + 2147483648 \/ (wakeS s now).f3 = s.f3) := by
  obtain ⟨a1, a2, a3, a4, a5, a6, a7, a8, a9, a10⟩ := h;unfold wakeS;by_cases hd : s.f3 <= now
  · rw [if_pos hd];refine ⟨readyS_ok ⟨a1, a2, a3, by show 0 <= s.f0; omega, by show s.f0 <= s.f0; omega, by show 0 <= now + s.f1; omega, by show now + s.f1 <= _; omega, by show (0 : Int) <= 0; decide, by show (0 : Int) <= 2; decide, fun e => absurd e (by show ¬ (0 : Int) = 1; decide)⟩, ?_, by show now <= now + s.f1; omega, .inl (by show now + s.f1 <= _; omega)⟩;show (if s.f0 = 0 then (2 : Int) else 1) ≠ 0;split <;> decide
  · rw [if_neg hd];by_cases hb : min (s.f3 - now) s.f1 * s.f0 < s.f2 * s.f1
    · rw [if_pos hb];have hp : 0 < s.f1 := by omega
      have hm : 0 <= min (s.f3 - now) s.f1 := by omega
      have hm2 : min (s.f3 - now) s.f1 <= s.f1 := by omega
      have h2 : 0 <= min (s.f3 - now) s.f1 * s.f0 := Int.mul_nonneg hm (by omega)
      have h3 : min (s.f3 - now) s.f1 * s.f0 <= s.f0 * s.f1 := by
        rw [Int.mul_comm s.f0 s.f1];exact Int.mul_le_mul_of_nonneg_right hm2 (by omega)
      have h4 : 0 <= min (s.f3 - now) s.f1 * s.f0 / s.f1 := Int.ediv_nonneg h2 (by omega);have h5 : min (s.f3 - now) s.f1 * s.f0 / s.f1 <= s.f0 := Int.ediv_le_of_le_mul hp h3;refine ⟨readyS_ok ⟨a1, a2, a3, h4, h5, a6, a7, by show (0 : Int) <= 0; decide, by show (0 : Int) <= 2; decide, fun e => absurd e (by show ¬ (0 : Int) = 1; decide)⟩, ?_, by show now <= s.f3; omega, .inr rfl⟩;show (if min (s.f3 - now) s.f1 * s.f0 / s.f1 = 0 then (2 : Int) else 1) ≠ 0;split <;> decide
    · rw [if_neg hb];refine ⟨readyS_ok ⟨a1, a2, a3, a4, a5, a6, a7, by show (0 : Int) <= 0; decide, by show (0 : Int) <= 2; decide, fun e => absurd e (by show ¬ (0 : Int) = 1; decide)⟩, ?_, by show now <= s.f3; omega, .inr rfl⟩;show (if s.f2 = 0 then (2 : Int) else 1) ≠ 0;split <;> decide
theorem Inv.more (h : Inv M now c wt noD l q R) {c' : Int} (hc : c <= c') {wt' : Nat -> Int} (hw : ∀ k, wt' k <= wt k \/ ∀ n, k ∉ (R n).tail) : Inv M now c' wt' noD l q R where
  sane := h.sane
  now0 := h.now0
  now1 := h.now1
  qlen := h.qlen
  qmost := h.qmost
  serv := fun k hk => by
    have hs := h.serv k hk;have hn : 0 <= (at_ l k).f5 /\ (at_ l k).f5 <= c' := by have := hs.num; omega
    exact { hs with num := hn }
  rows := by
    have hr := h.rows
    have hp : ∀ n (h : n < q.length) (p k : Nat), (R n)[p + 1]? = some k -> q[n].f0 - (at_ l ((R n).headD 0)).f4 + p * q[n].f0 <= (M - 1) * q[n].f0 - wt' k := fun n hn p k hp => by
      have h1 := hr.wait n hn p k hp;rcases hw k with h2 | h2
      · omega
      · exfalso;refine h2 n ?_
        cases hR : R n with
        | nil => rw [hR] at hp; simp at hp
        | cons a r =>
          rw [hR] at hp;simp only [List.getElem?_cons_succ] at hp;exact List.mem_of_getElem? hp
    exact { hr with wait := hp }
theorem fits_ok {k : Nat} {P : List S72} (h : fitsB k P = true) : pgoodB P = true /\ ∀ s ∈ P, s.f0 <= k := by
  unfold fitsB at h;simp only [Bool.and_eq_true, Bool.not_eq_true'] at h;refine ⟨h.1, fun s hs => ?_⟩;have := h.2;rw [List.any_eq_false] at this;have h2 := this s hs;unfold foddB at h2;simp at h2;omega
theorem Inv.release (h : Inv M now c wt noD l q R) {i : Nat} (hi : i < l.length) {P : List S72} (hC : relC q.length P l[i] = 0) : Inv M now (c + 1) wt noD (l.set i (relX now P l[i])) q R := by
  have hs := h.serv i hi;rw [<- at_lt hi] at hC |-;unfold relC at hC
  have hfit : fitsB q.length P = true := by
    by_cases e : fitsB q.length P = true
    · exact e
    · rw [if_neg e] at hC; exact absurd hC (by decide)
  rw [if_pos hfit] at hC
  have hl8 : (at_ l i).f2.length < 8 := by
    by_cases e : 8 <= (at_ l i).f2.length
    · rw [if_pos e] at hC; exact absurd hC (by decide)
    · omega
  have hf := fits_ok hfit;have hplen := pgood_len hf.1;have hnum := hs.num
  have hJ : JobOk ⟨(at_ l i).f5 + 1, P, 0, 0⟩ := by
    refine ⟨by show 1 <= (at_ l i).f5 + 1; omega, hf.1, by show (0 : Int) <= 0; decide, by show (0 : Int) < (P.length : Int); omega, by show (0 : Int) <= 0; decide, ?_⟩
    have e : stepOf ⟨(at_ l i).f5 + 1, P, 0, 0⟩ = P[0] := by
      unfold stepOf;show rd_T72 P 0 = _;have hp0 : 0 < P.length := by omega
      simp [rd_T72, hp0]
    rw [e];have := good_step hf.1 (List.getElem_mem (by omega : 0 < P.length));unfold poddB at this;simp only [decide_eq_false_iff_not, not_or] at this;show 0 <= P[0].f1;omega
  have hJ1 : 0 < (stepOf ⟨(at_ l i).f5 + 1, P, 0, 0⟩).f1 := by
    have := good_step hf.1 (job_step hJ);unfold poddB at this;simp only [decide_eq_false_iff_not, not_or] at this;omega
  have hm := h.more (c' := c + 1) (wt' := wt) (by omega) (fun k => .inl (Int.le_refl _));have hs := hm.serv i hi;by_cases hid : (at_ l i).f1.f4 = 0
  · obtain ⟨h2, h3⟩ := hs.idle hid;obtain ⟨w1, w2, w3, w4⟩ := wakeS_ok (now := now) hs.cbs h.now0 h.now1
    have hx : relX now P (at_ l i) = { at_ l i with f1 := wakeS (at_ l i).f1 now, f2 := [⟨(at_ l i).f5 + 1, P, 0, 0⟩], f5 := (at_ l i).f5 + 1 } := by
      unfold relX;rw [if_pos hid, h2];rfl
    rw [hx];refine hm.set0 hi h3 (x := { at_ l i with f1 := wakeS (at_ l i).f1 now, f2 := [⟨(at_ l i).f5 + 1, P, 0, 0⟩], f5 := (at_ l i).f5 + 1 }) rfl h3 noD ?_ (fun k _ => Iff.rfl)
    exact { cbs := w1
            due := by
              have := hs.due;show (wakeS (at_ l i).f1 now).f3 <= _;omega
            ahead := fun _ => w3
            idle := fun e => absurd e w2
            busy := fun _ => by show [_] ≠ []; simp
            jlen := by show 1 <= 8; decide
            jobs := fun j hj => by
              obtain rfl : j = ⟨(at_ l i).f5 + 1, P, 0, 0⟩ := by simpa using hj
              exact ⟨hJ, hf.2⟩
            rest := fun j hj => by
              have : j ∈ ([] : List S125) := hj;simp at this
            sec := by show 0 <= (at_ l i).f3 /\ _; rw [h3]; decide
            spin := fun _ _ => rfl
            sem := fun e => absurd h3 e
            secm := fun e => absurd h3 e
            part := fun _ _ => hJ1
            held := hs.held
            ran := hs.ran
            num := by show 0 <= (at_ l i).f5 + 1 /\ (at_ l i).f5 + 1 <= c + 1; omega }
  · have hx : relX now P (at_ l i) = { at_ l i with f2 := (at_ l i).f2 ++ [⟨(at_ l i).f5 + 1, P, 0, 0⟩], f5 := (at_ l i).f5 + 1 } := by
      unfold relX;rw [if_neg hid]
    obtain ⟨j, js, hjx, hj, hq, hst, hdn⟩ := hs.head (hs.busy hid)
    have hst2 : servStep (relX now P (at_ l i)) = servStep (at_ l i) := by
      rw [hx];unfold servStep;dsimp only;rw [hjx];rfl
    have hdn2 : doneOf (relX now P (at_ l i)) = doneOf (at_ l i) := by
      rw [hx];unfold doneOf;dsimp only;rw [hjx];rfl
    have hf2 : (relX now P (at_ l i)).f2 = (at_ l i).f2 ++ [⟨(at_ l i).f5 + 1, P, 0, 0⟩] := by rw [hx]
    have hf1 : (relX now P (at_ l i)).f1 = (at_ l i).f1 := by rw [hx]
    have hf0 : (relX now P (at_ l i)).f0 = (at_ l i).f0 := rfl;have hf3 : (relX now P (at_ l i)).f3 = (at_ l i).f3 := rfl;have hf4 : (relX now P (at_ l i)).f4 = (at_ l i).f4 := rfl;have hf5 : (relX now P (at_ l i)).f5 = (at_ l i).f5 + 1 := rfl;have hf6 : (relX now P (at_ l i)).f6 = (at_ l i).f6 := rfl;generalize relX now P (at_ l i) = x at *
    have hat : ∀ k, at_ (l.set i x) k = if k = i then x else at_ l k := fun k => by
      rw [at_set];by_cases e : k = i
      · rw [if_pos ⟨e, hi⟩, if_pos e]
      · rw [if_neg (fun h => e h.1), if_neg e]
    refine ⟨h.sane.keep (List.length_set ..) (fun k _ => by rw [hat]; split; (· subst_vars; exact hf0); rfl) (fun k _ hfx => ?_), h.now0, h.now1, h.qlen, h.qmost, fun k hk => ?_, hm.rows.keep (Int.le_refl _) (List.length_set ..) (fun k _ => by rw [hat]; split; (· subst_vars; exact hf0); rfl) (fun k _ => by rw [hat]; split; (· subst_vars; exact hf3); rfl) (fun k _ _ => by rw [hat]; split; (· subst_vars; exact ⟨hf1, hst2, hf4⟩); exact ⟨rfl, rfl, rfl⟩)⟩
    · rw [hat] at hfx;by_cases e : k = i
      · subst e;rw [if_pos rfl] at hfx;unfold fixd at hfx |-;rw [hf1, hf3] at hfx;exact hfx
      · rwa [if_neg e] at hfx
    · rw [List.length_set] at hk;rw [hat];by_cases e : k = i
      · subst e;rw [if_pos rfl]
        exact { cbs := by rw [hf1]; exact hs.cbs
                due := by rw [hf1]; exact hs.due
                ahead := by rw [hf1]; exact hs.ahead
                idle := fun e => absurd (by rw [hf1] at e; exact e) hid
                busy := fun _ => by rw [hf2]; simp
                jlen := by rw [hf2, List.length_append, List.length_singleton]; omega
                jobs := fun j' hj' => by
                  rw [hf2] at hj';rcases List.mem_append.1 hj' with hj' | hj'
                  · exact hs.jobs j' hj'
                  · obtain rfl : j' = ⟨(at_ l k).f5 + 1, P, 0, 0⟩ := by simpa using hj'
                    exact ⟨hJ, hf.2⟩
                rest := fun j' hj' => by
                  rw [hf2, hjx] at hj';have hr := hs.rest;rw [hjx] at hr;simp only [List.cons_append, List.tail_cons, List.mem_append, List.mem_cons, List.not_mem_nil, or_false] at hj';rcases hj' with hj' | rfl
                  · exact hr j' hj'
                  · exact ⟨rfl, rfl⟩
                sec := by rw [hf3]; exact hs.sec
                spin := by rw [hf3, hst2, hdn2]; exact hs.spin
                sem := by rw [hf3, hst2]; exact hs.sem
                secm := by rw [hf3, hf1]; exact hs.secm
                part := by rw [hf1, hst2, hdn2]; exact hs.part
                held := by rw [hf4]; exact hs.held
                ran := by rw [hf6]; exact hs.ran
                num := by rw [hf5]; omega }
      · rw [if_neg e]; exact hm.serv k hk
end
end Go.Proofs.YtfimkmlgnmaopaaGreat.Top
namespace Go.Proofs.YtfimkmlgnmaopaaGreat.Top
open Go.RowKit Go.Proofs.YtfimkmlgnmaopaaGreatW.PrintWords Go.Proofs.YtfimkmlgnmaopaaGreatW.PrintLast Go.Proofs.YtfimkmlgnmaopaaGreatW.PrintMore Go.Proofs.YtfimkmlgnmaopaaGreat.PTopNames
def xJ (b d m dn r : Int) : S57 := ⟨1, ⟨2, 5, b, d, m⟩, [⟨1, [⟨0, 3⟩], 0, dn⟩], 0, 0, 1, r⟩
theorem aw_set0 : settleL 1 0 [xJ 2 5 1 0 0] [] = ([xJ 2 5 1 0 0], [], []) := by kernel_rfl
theorem aw_set1 : settleL 1 1 [xJ 1 5 1 1 1] [] = ([xJ 1 5 1 1 1], [], []) := by kernel_rfl
theorem aw_set2 : settleL 1 2 [xJ 0 5 2 2 2] [] = ([xJ 0 5 2 2 2], [], []) := by kernel_rfl
theorem aw_set5 : settleL 1 5 [xJ 0 5 2 2 2] [] = ([xJ 2 10 1 2 2], [], [⟨5, 5, 1, 0⟩]) := by kernel_rfl
theorem aw_set5b : settleL 1 5 [xJ 2 10 1 2 2] [] = ([xJ 2 10 1 2 2], [], []) := by kernel_rfl
theorem aw_st0 : stillL 1 0 6 [xJ 2 5 1 0 0] [] = 1 := by kernel_rfl
theorem aw_st1 : stillL 1 1 5 [xJ 1 5 1 1 1] [] = 0 := by kernel_rfl
theorem aw_st2 : stillL 1 2 4 [xJ 0 5 2 2 2] [] = 3 := by kernel_rfl
theorem aw_st5 : stillL 1 5 1 [xJ 2 10 1 2 2] [] = 0 := by kernel_rfl
theorem aw_sk0 : skipL 1 1 [xJ 2 5 1 0 0] = [xJ 1 5 1 1 1] := by kernel_rfl
theorem aw_sk2 : skipL 1 3 [xJ 0 5 2 2 2] = [xJ 0 5 2 2 2] := by kernel_rfl
theorem aw_tk1 : tickL 1 1 [xJ 1 5 1 1 1] [] = ([xJ 0 5 2 2 2], [], [⟨2, 4, 1, 0⟩]) := by kernel_rfl
theorem aw_tk5 : tickL 1 5 [xJ 2 10 1 2 2] [] = ([⟨1, ⟨2, 5, 1, 10, 0⟩, [], 0, 0, 1, 3⟩], [], [⟨6, 2, 1, 1⟩, ⟨6, 10, 1, 0⟩]) := by kernel_rfl
theorem aw_pl1 : placesOf 1 [xJ 1 5 1 1 1] = [0] := by kernel_rfl
theorem aw_pl5 : placesOf 1 [xJ 2 10 1 2 2] = [0] := by kernel_rfl
theorem aw_go : goL 6 1 0 6 [xJ 2 5 1 0 0] [] = ([⟨1, ⟨2, 5, 1, 10, 0⟩, [], 0, 0, 1, 3⟩], [], [⟨2, 4, 1, 0⟩, ⟨5, 5, 1, 0⟩, ⟨6, 2, 1, 1⟩, ⟨6, 10, 1, 0⟩]) := by kernel_rfl
def awI (now : Int) (l : List S57) (q : List S63) : Prop := q = [] /\ ((now = 0 /\ l = [xJ 2 5 1 0 0]) \/ (now = 1 /\ l = [xJ 1 5 1 1 1]) \/ (now = 2 /\ l = [xJ 0 5 2 2 2]) \/ (now = 5 /\ l = [xJ 0 5 2 2 2]) \/ (now = 6 /\ l = [⟨1, ⟨2, 5, 1, 10, 0⟩, [], 0, 0, 1, 3⟩]))
theorem aw_job {d : Int} (h0 : 0 <= d) (h1 : d <= 3) : JobOk ⟨1, [⟨0, 3⟩], 0, d⟩ := ⟨by show (1 : Int) <= 1; decide, by show pgoodB [⟨0, 3⟩] = true; decide, by show (0 : Int) <= 0; decide, by show (0 : Int) < ((1 : Nat) : Int); decide, h0, h1⟩
theorem aw_cbs {b d m : Int} (h0 : 0 <= b) (h1 : b <= 2) (h2 : 0 <= d) (h3 : d <= 10) (h4 : 0 <= m) (h5 : m <= 2) (h6 : m = 1 -> 0 < b) : CbsOk ⟨2, 5, b, d, m⟩ := ⟨by show (1 : Int) <= 2; decide, by show (2 : Int) <= 5; decide, by show (5 : Int) <= 2147483648; decide, h0, h1, h2, by show d <= _; omega, h4, h5, h6⟩
theorem aw_sane (x : S57) (h : x.f0 = 1) : Sane 1 [x] := ⟨by decide, by decide, by simp, by simp [Sorted], fun k hk => by
 obtain rfl : k = 0 := by simp at hk; omega
 simp [h], by
 have h1 : fixes (readyL [x]) <= 1 := by
  rw [fixes_count];have := List.countP_le_length (p := fixd) (l := [x]);simpa using this
 omega⟩
theorem aw_mok {now b d m dn r : Int} (n0 : 0 <= now) (n1 : now <= 6) (hc : CbsOk ⟨2, 5, b, d, m⟩) (hd0 : 0 <= dn) (hd1 : dn <= 3) : MOk 1 now [xJ b d m dn r] [] where
 sane := aw_sane _ rfl
 now0 := n0
 now1 := by omega
 cbs := fun k hk => by
  obtain rfl : k = 0 := by simp at hk; omega
  exact hc
 job := fun k hk => by
  obtain rfl : k = 0 := by simp at hk; omega
  intro j hj;obtain rfl : j = ⟨1, [⟨0, 3⟩], 0, dn⟩ := by simpa [xJ] using hj
  exact ⟨aw_job hd0 hd1, fun s hs => by
   obtain rfl : s = ⟨0, 3⟩ := by simpa using hs
   decide⟩
 jlen := fun k hk => by
  obtain rfl : k = 0 := by simp at hk; omega
  show 1 <= 8;decide
 mode := fun k hk h => by
  obtain rfl : k = 0 := by simp at hk; omega
  simp [xJ]
 qlen := by simp
 most := fun k hk => by simp at hk
 room := fun k hk => by simp at hk
theorem aw_still {now b d m dn r : Int} (n0 : 0 <= now) (n1 : now <= 6) (hc : CbsOk ⟨2, 5, b, d, m⟩) (hd0 : 0 <= dn) (hd1 : dn <= 3) : StillOk 1 now [xJ b d m dn r] [] where
 sane := aw_sane _ rfl
 now0 := n0
 now1 := by omega
 cbs := fun k hk => by
  obtain rfl : k = 0 := by simp at hk; omega
  exact hc
 run := (aw_mok n0 n1 hc hd0 hd1).run
 held := fun k hk => by
  obtain rfl : k = 0 := by simp at hk; omega
  exact ⟨by show (0 : Int) <= 0; decide, by show (0 : Int) <= _; decide⟩
 lock := fun k hk _ h => by
  obtain rfl : k = 0 := by simp at hk; omega
  exact absurd h (by show ¬ (0 : Int) = 2; decide)
 most := fun k hk => by simp at hk
theorem aw_tick {now b d dn r : Int} (n0 : 0 <= now) (n1 : now <= 6) (hc : CbsOk ⟨2, 5, b, d, 1⟩) (hd0 : 0 <= dn) (hd1 : dn <= 2) (hr : 0 <= r /\ r <= 6) (hs : settleL 1 now [xJ b d 1 dn r] [] = ([xJ b d 1 dn r], [], [])) (hp : placesOf 1 [xJ b d 1 dn r] = [0]) (he : EndOk (runAll [xJ b d 1 dn r] [0]) [] 0) : TickOk 1 now [xJ b d 1 dn r] [] where
 ok := aw_mok n0 n1 hc hd0 (by omega)
 sane := by rw [hs]; exact aw_sane _ rfl
 run := by
  rw [hs, hp];intro p hp2;obtain rfl : p = 0 := by simpa using hp2
  refine ⟨by simp, hc, rfl, ⟨_, [], rfl, aw_job hd0 (by omega), fun _ => by show dn + 1 <= 3; omega⟩, ⟨hr.1, ?_⟩, ?_⟩
  ·show r <= _; omega
  ·exact ⟨by show (0 : Int) <= 0; decide, by show (0 : Int) <= _; decide⟩
 ends := by
  rw [hs];dsimp only;rw [hp];intro k hk;obtain rfl : k = 0 := by simp at hk; omega
  exact he
theorem aw_skip {n b d dn r m : Int} (hn : 1 <= n) (hn2 : n <= 6) (hc : CbsOk ⟨2, 5, b, d, 1⟩) (hb : n <= b) (hd0 : 0 <= dn) (hd1 : dn + n <= 3) (hr : 0 <= r /\ r <= 6) (hm : m = 1) : SkipOk 1 n [xJ b d m dn r] where
 sane := aw_sane _ rfl
 n1 := hn
 nm := by omega
 run := fun k hk _ => by
  subst hm;obtain rfl : k = 0 := by simp at hk; omega
  exact ⟨hc, rfl, hb, ⟨_, [], rfl, aw_job hd0 (by omega), fun _ => by show dn + n <= 3; omega⟩, ⟨hr.1, by show r <= _; omega⟩, by show (0 : Int) <= 0; decide, by show (0 : Int) <= _; decide⟩
theorem aw_skip2 : SkipOk 1 3 [xJ 0 5 2 2 2] where
 sane := aw_sane _ rfl
 n1 := by decide
 nm := by decide
 run := fun k hk h => by
  obtain rfl : k = 0 := by simp at hk; omega
  have h2 : runsL 1 [xJ 0 5 2 2 2] = [] := by kernel_rfl
  rw [h2] at h;exact absurd h (by simp)
theorem aw_ends {b d m dn r : Int} (hc : CbsOk ⟨2, 5, b, d, m⟩) (hm : m ≠ 0) (hd0 : 0 <= dn) (hd1 : dn <= 3) : EndOk [xJ b d m dn r] [] 0 where
 sorted := by simp [Sorted]
 len := by simp
 qlen := by simp
 que := fun k hk => by simp at hk
 at_ := ⟨by simp, hc, hm, _, [], rfl, aw_job hd0 hd1, by show (0 : Int) <= 0; decide, fun h => absurd h (by show ¬ (0 : Int) = 2; decide)⟩
theorem aw_end1 : EndOk (runAll [xJ 1 5 1 1 1] [0]) [] 0 := by
 have e : runAll [xJ 1 5 1 1 1] [0] = [xJ 0 5 2 2 2] := by kernel_rfl
 rw [e];exact aw_ends (aw_cbs (by decide) (by decide) (by decide) (by decide) (by decide) (by decide) (by decide)) (by decide) (by decide) (by decide)
theorem aw_end5 : EndOk (runAll [xJ 2 10 1 2 2] [0]) [] 0 := by
 have e : runAll [xJ 2 10 1 2 2] [0] = [xJ 1 10 1 3 3] := by kernel_rfl
 rw [e];exact aw_ends (aw_cbs (by decide) (by decide) (by decide) (by decide) (by decide) (by decide) (by decide)) (by decide) (by decide) (by decide)
theorem aw_inv : GoInv 1 6 awI where
 ok := fun now l q ⟨hq, h⟩ hlt => by
  subst hq;rcases h with ⟨rfl, rfl⟩ | ⟨rfl, rfl⟩ | ⟨rfl, rfl⟩ | ⟨rfl, rfl⟩ | ⟨rfl, rfl⟩
  ·rw [aw_set0]; exact ⟨aw_mok (by decide) (by decide) (aw_cbs (by decide) (by decide) (by decide) (by decide) (by decide) (by decide) (by decide)) (by decide) (by decide), aw_still (by decide) (by decide) (aw_cbs (by decide) (by decide) (by decide) (by decide) (by decide) (by decide) (by decide)) (by decide) (by decide)⟩
  ·rw [aw_set1]; exact ⟨aw_mok (by decide) (by decide) (aw_cbs (by decide) (by decide) (by decide) (by decide) (by decide) (by decide) (by decide)) (by decide) (by decide), aw_still (by decide) (by decide) (aw_cbs (by decide) (by decide) (by decide) (by decide) (by decide) (by decide) (by decide)) (by decide) (by decide)⟩
  ·rw [aw_set2]; exact ⟨aw_mok (by decide) (by decide) (aw_cbs (by decide) (by decide) (by decide) (by decide) (by decide) (by decide) (by decide)) (by decide) (by decide), aw_still (by decide) (by decide) (aw_cbs (by decide) (by decide) (by decide) (by decide) (by decide) (by decide) (by decide)) (by decide) (by decide)⟩
  ·rw [aw_set5]; exact ⟨aw_mok (by decide) (by decide) (aw_cbs (by decide) (by decide) (by decide) (by decide) (by decide) (by decide) (by decide)) (by decide) (by decide), aw_still (by decide) (by decide) (aw_cbs (by decide) (by decide) (by decide) (by decide) (by decide) (by decide) (by decide)) (by decide) (by decide)⟩
  ·omega
 skip := fun now l q ⟨hq, h⟩ hlt => by
  subst hq;rcases h with ⟨rfl, rfl⟩ | ⟨rfl, rfl⟩ | ⟨rfl, rfl⟩ | ⟨rfl, rfl⟩ | ⟨rfl, rfl⟩
  ·rw [aw_set0];dsimp only;rw [show (6 : Int) - 0 = 6 from rfl, aw_st0, aw_sk0];exact fun _ => ⟨aw_skip (m := 1) (by decide) (by decide) (aw_cbs (by decide) (by decide) (by decide) (by decide) (by decide) (by decide) (by decide)) (by decide) (by decide) (by decide) (by decide) (by decide), by decide, rfl, .inr (.inl ⟨rfl, rfl⟩)⟩
  ·rw [aw_set1];dsimp only;rw [show (6 : Int) - 1 = 5 from rfl, aw_st1];exact fun h => absurd h (by decide)
  ·rw [aw_set2];dsimp only;rw [show (6 : Int) - 2 = 4 from rfl, aw_st2, aw_sk2];exact fun _ => ⟨aw_skip2, by decide, rfl, .inr (.inr (.inr (.inl ⟨rfl, rfl⟩)))⟩
  ·rw [aw_set5];dsimp only;rw [show (6 : Int) - 5 = 1 from rfl, aw_st5];exact fun h => absurd h (by decide)
  ·omega
 tick := fun now l q ⟨hq, h⟩ hlt => by
  subst hq;rcases h with ⟨rfl, rfl⟩ | ⟨rfl, rfl⟩ | ⟨rfl, rfl⟩ | ⟨rfl, rfl⟩ | ⟨rfl, rfl⟩
  ·rw [aw_set0];dsimp only;rw [show (6 : Int) - 0 = 6 from rfl, aw_st0];exact fun h => absurd h (by decide)
  ·rw [aw_set1];dsimp only;rw [aw_tk1];exact fun _ => ⟨aw_tick (by decide) (by decide) (aw_cbs (by decide) (by decide) (by decide) (by decide) (by decide) (by decide) (by decide)) (by decide) (by decide) (by decide) aw_set1 aw_pl1 aw_end1, rfl, .inr (.inr (.inl ⟨rfl, rfl⟩))⟩
  ·rw [aw_set2];dsimp only;rw [show (6 : Int) - 2 = 4 from rfl, aw_st2];exact fun h => absurd h (by decide)
  ·rw [aw_set5];dsimp only;rw [aw_tk5];exact fun _ => ⟨aw_tick (by decide) (by decide) (aw_cbs (by decide) (by decide) (by decide) (by decide) (by decide) (by decide) (by decide)) (by decide) (by decide) (by decide) aw_set5b aw_pl5 aw_end5, rfl, .inr (.inr (.inr (.inr ⟨rfl, rfl⟩)))⟩
  ·omega
end Go.Proofs.YtfimkmlgnmaopaaGreat.Top
namespace Go.Proofs.YtfimkmlgnmaopaaGreat.Top
open Go.RowKit Go.Proofs.YtfimkmlgnmaopaaGreatW.PrintWords Go.Proofs.YtfimkmlgnmaopaaGreatW.PrintLast Go.Proofs.YtfimkmlgnmaopaaGreatW.PrintMore Go.Proofs.YtfimkmlgnmaopaaGreat.PTopNames
set_option linter.unusedVariables false
set_option linter.unusedSimpArgs false
def awX : S57 := ⟨1, ⟨2, 5, 1, 10, 0⟩, [], 0, 0, 1, 3⟩
def awE (t k n : Int) : List Value := [.int .i64 t, .int .i64 k, .int .i64 1, .int .i64 n]
def awEs : List (List Value) := [awE 0 1 1, awE 0 9 0, awE 2 4 0, awE 5 5 0, awE 6 2 1, awE 6 10 0]
theorem aw_new (w : World) : Calls Tryz.prog 9 #[.int .i64 1, .slice none 0 0] w fun e w' => ∃ N lab, e = .returned (.tuple #[.pointer (some ⟨N, 0, none⟩), .nilIface]) /\ SysAt w' lab N 1 0 [] [] 0 [] [] /\ Below w.heap.size w w' /\ ∀ b, lab b ≠ 0 -> w.heap.size <= b :=
 (snew_calls 1 none 0 [] w (C_nil' _ _ _) (by decide) (by decide) (by decide)).mono fun e w' h => h.1 (by kernel_rfl)
theorem aw_open (N : Nat) (lab : Nat -> Nat) (w : World) (h : SysAt w lab N 1 0 [] [] 0 [] []) : Calls Tryz.prog 18 #[.pointer (some ⟨N, 0, none⟩), .int .i64 2, .int .i64 5] w fun e w' => e = .returned (.tuple #[.int .u32 0, .nilIface]) /\ (∃ lab', SysAt w' lab' N 1 0 [newServ 1 2 5] [] 1 [⟨1, ⟨2, 5⟩, -1⟩] [] /\ Grew w lab lab') /\ Turn w w' (fun b => lab b ≠ 0) :=
 (sopen_calls N lab 1 0 [] [] 0 [] [] w h ⟨by simp [Sorted], by decide, by decide, by decide, by simp, by simp, by simp, by decide, by simp, by simp⟩ 2 5 (by decide) (by decide) (by decide)).mono fun e w' h => h.2 (by kernel_rfl)
theorem aw_rel (N : Nat) (lab : Nat -> Nat) (bk : List S157) (w : World) (h : SysAt w lab N 1 0 [newServ 1 2 5] [] 1 bk []) (Ap : Option Addr) (cp : Nat) (hP : Kd.C k72 w Ap 1 [⟨0, 3⟩]) : Calls Tryz.prog 11 #[.pointer (some ⟨N, 0, none⟩), .int .u32 0, .slice Ap 1 cp] w fun e w' => e = .returned (.tuple #[.int .i64 1, .nilIface]) /\ (∃ lab', SysAt w' lab' N 1 0 [xJ 2 5 1 0 0] [] 1 bk [awE 0 1 1, awE 0 9 0] /\ Grew w lab lab') /\ Turn w w' (fun b => lab b ≠ 0) :=
 (srel_calls N lab 1 0 [newServ 1 2 5] [] 1 bk [] w h 0 (by decide) (by decide) rfl ⟨by simp [Sorted], by decide, by decide, fun k hk => by
  obtain rfl : k = 0 := by simp at hk; omega
  show 0 <= 8;decide, by simp, by decide, by decide, ⟨by decide, by decide, by decide, by decide, by decide, by decide, by decide, by decide, by decide, by decide⟩, by decide, by decide⟩ (by decide) (by simp) Ap cp [⟨0, 3⟩] hP).mono fun e w' h => h.2 (by kernel_rfl)
theorem aw_goes (N : Nat) (lab : Nat -> Nat) (bk : List S157) (w : World) (h : SysAt w lab N 1 0 [xJ 2 5 1 0 0] [] 1 bk [awE 0 1 1, awE 0 9 0]) : Calls Tryz.prog 14 #[.pointer (some ⟨N, 0, none⟩), .int .i64 6] w fun e w' => e = .returned .nilIface /\ (∃ lab', SysAt w' lab' N 1 6 [awX] [] 1 bk awEs /\ Grew w lab lab') /\ Turn w w' (fun b => lab b ≠ 0) :=
 (gos_calls N lab 1 0 6 [xJ 2 5 1 0 0] [] 1 bk [awE 0 1 1, awE 0 9 0] w h (by decide) awI aw_inv ⟨rfl, .inl ⟨rfl, rfl⟩⟩ (by decide) (by decide) (by decide) (by decide)).mono fun e w' h => by
  have h2 := h.2.2;have e6 : goL (6 : Int).toNat 1 0 (0 + 6) [xJ 2 5 1 0 0] [] = ([awX], [], [⟨2, 4, 1, 0⟩, ⟨5, 5, 1, 0⟩, ⟨6, 2, 1, 1⟩, ⟨6, 10, 1, 0⟩]) := aw_go;rw [e6] at h2;exact ⟨h.1, h2⟩
theorem aw_events (N : Nat) (lab : Nat -> Nat) (bk : List S157) (w : World) (h : SysAt w lab N 1 6 [awX] [] 1 bk awEs) : Calls Tryz.prog 17 #[.pointer (some ⟨N, 0, none⟩)] w fun e w' => ∃ ad c, e = .returned (.slice (some ad) 6 c) /\ (Kd.raw 4).C w' (some ad) 6 awEs /\ Turn w w' (fun b => lab b ≠ 0) :=
 (eventss_calls N lab 1 6 [awX] [] 1 bk awEs w h (by decide)).mono fun e w' ⟨v, e1, hR, _, hT⟩ => by
  obtain ⟨A, c, rfl, hc, hC⟩ := Kd.R_reads hR;obtain ⟨ad, rfl, _⟩ := hC.2.2 (by decide);exact ⟨ad, c, e1, hC, hT⟩
theorem lit72 (w : World) (x : S72) : Kd.C k72 (w.alloc (.cells #[.int .i64 x.f0, .int .i64 x.f1] 72)) (some ⟨w.heap.size, 0, none⟩) 1 [x] := by
 refine ⟨rfl, by simp, fun _ => ⟨_, rfl, fun j y hy => ?_⟩⟩;have hb := blk_new w (.cells #[.int .i64 x.f0, .int .i64 x.f1] 72)
 cases j with
 | zero =>
  simp only [List.getElem?_cons_zero, Option.some.injEq] at hy;subst hy;refine ⟨_, rfl, k72_mk _ _, fun i u hu => ?_⟩;rw [Nat.zero_mul, Nat.zero_add, addr_at, Nat.zero_add, blk_cell hb]
  match i, hu with
  | 0, h => exact h
  | 1, h => exact h
  | i + 2, h => simp at h
 | succ j => simp at hy
theorem ev_at {w : World} {ad : Addr} {n : Nat} {xs : List (List Value)} (h : (Kd.raw 4).C w (some ad) n xs) {k : Nat} (hk : k < xs.length) (x0 x1 x2 x3 : Value) (hx : xs[k] = [x0, x1, x2, x3]) :
  w.cell? (ad.add (k * 4)) = some x0 /\ w.cell? ⟨(ad.add (k * 4)).block, (ad.add (k * 4)).off + 1, none⟩ = some x1 /\ w.cell? ⟨(ad.add (k * 4)).block, (ad.add (k * 4)).off + 2, none⟩ = some x2 /\ w.cell? ⟨(ad.add (k * 4)).block, (ad.add (k * 4)).off + 3, none⟩ = some x3 := by
 obtain ⟨ad2, e2, hc⟩ := h.2.2 (by have := h.1; omega);injection e2 with e2;subst e2;obtain ⟨cs, hl, hK, hcell⟩ := hc k [x0, x1, x2, x3] (by rw [List.getElem?_eq_getElem hk, hx]);have e : cs = [x0, x1, x2, x3] := by first | exact hK.1 | exact hK.1.symm
 subst e;refine ⟨?_, ?_, ?_, ?_⟩
 ·exact hcell 0 _ rfl
 ·rw [<- addr_next ad (k * 4) 0]; exact hcell 1 _ rfl
 ·rw [<- addr_next ad (k * 4) 1]; exact hcell 2 _ rfl
 ·rw [<- addr_next ad (k * 4) 2]; exact hcell 3 _ rfl
theorem awake_calls (w : World) : Calls Tryz.prog 7 #[] w fun e w' => e = .returned (.bool true) /\ Below w.heap.size w w' := by
 have D1 := aw_new w;go_enter Tryz.func7, Tryz.ntmps7
 go_upto_region 4 with (go_at_call 9; (with_reducible refine D1.mono ?_); rintro e w1 ⟨N, lab, rfl, h1, hB1, hl1⟩; have H1 := hZ h1; have HB1 := hZ hB1; have HL1 := hZ hl1; clear h1 hB1 hl1)
 clear D1;have D2 := aw_open N lab w1 H1.out
 go_upto_region 5 with (go_at_call 18; (with_reducible refine D2.mono ?_); rintro e w2 ⟨rfl, ⟨lab2, h2, hg2⟩, hT2⟩; have H2 := hZ h2; have HG2 := hZ hg2; have HT2 := hZ hT2; clear h2 hg2 hT2)
 clear D2;have HP3 := hZ (lit72 w2 ⟨0, 3⟩);have HB23 := hZ (below_alloc (Below.refl w2.heap.size w2) (.cells #[.int .i64 0, .int .i64 3] 72));have DR := fun wx (hb : Below w2.heap.size w2 wx) Ap cp hP => aw_rel N lab2 _ wx (H2.out.below hb) Ap cp hP
 go_upto_region 6 with (go_at_call 11; (with_reducible refine (DR _ HB23.out _ _ HP3.out).mono ?_); rintro e w4 ⟨rfl, ⟨lab4, h4, hg4⟩, hT4⟩; have H4 := hZ h4; have HG4 := hZ hg4; have HT4 := hZ hT4; clear h4 hg4 hT4)
 clear DR;have D6 := aw_goes N lab4 _ w4 H4.out
 go_upto_region 7 with (go_at_call 14; (with_reducible refine D6.mono ?_); rintro e w5 ⟨rfl, ⟨lab5, h5, hg5⟩, hT5⟩; have H5 := hZ h5; have HG5 := hZ hg5; have HT5 := hZ hT5; clear h5 hg5 hT5)
 clear D6;have D7 := aw_events N lab5 _ w5 H5.out
 go_upto_region 8 with (go_at_call 17; (with_reducible refine D7.mono ?_); rintro e w6 ⟨ad, c6, rfl, hC6, hT6⟩; have HC6 := hZ hC6; have HT6 := hZ hT6; clear hC6 hT6)
 clear D7;obtain ⟨e0, e1, e2, e3⟩ := ev_at HC6.out (k := 4) (by decide) (.int .i64 6) (.int .i64 2) (.int .i64 1) (.int .i64 1) rfl;replace e0 : w6.cell? ⟨ad.block, ad.off + 16, none⟩ = some (.int .i64 6) := e0;replace e1 : w6.cell? ⟨ad.block, ad.off + 16 + 1, none⟩ = some (.int .i64 2) := e1;replace e2 : w6.cell? ⟨ad.block, ad.off + 16 + 2, none⟩ = some (.int .i64 1) := e2;replace e3 : w6.cell? ⟨ad.block, ad.off + 16 + 3, none⟩ = some (.int .i64 1) := e3;go_wp2;go_ret;have s1 := HB1.out.size;have s2 := HT2.out.size;have s3 := HB23.out.size;have s4 := HT4.out.size;have s5 := HT5.out.size;have l2 : ∀ b, lab2 b ≠ 0 -> w.heap.size <= b := fun b hb => (HG2.out b hb).elim (HL1.out b) (fun h => by omega)
 have l4 : ∀ b, lab4 b ≠ 0 -> w.heap.size <= b := fun b hb => (HG4.out b hb).elim (l2 b) (fun h => by omega)
 have l5 : ∀ b, lab5 b ≠ 0 -> w.heap.size <= b := fun b hb => (HG5.out b hb).elim (l4 b) (fun h => by omega)
 exact ⟨rfl, Turn.below (Turn.below (Turn.below ((Turn.below HB1.out HT2.out HL1.out s1).trans (HB23.out.mono (by omega))) HT4.out l2 (by omega)) HT5.out l4 (by omega)) HT6.out l5 (by omega)⟩
structure Law (w : World) (lab : Nat -> Nat) (N : Nat) (M now c : Int) (wt : Nat -> Int) (l : List S57) (q : List S63) (R : Nat -> List Nat) (bk : List S157) (E : List (List Value)) (eb : Nat) : Prop where
  sys : SysAt w lab N M now l q l.length bk E
  inv : Inv M now c wt noD l q R
  ids : ∀ k, k < l.length -> (at_ l k).f0 = (k : Int) + 1
  ev : E.length <= eb
section
variable {w w' : World} {lab : Nat -> Nat} {N : Nat} {M now c : Int} {wt : Nat -> Int} {l : List S57} {q : List S63} {R : Nat -> List Nat} {bk : List S157} {E : List (List Value)} {eb : Nat}
theorem Law.turn (h : Law w lab N M now c wt l q R bk E eb) {S : Nat -> Prop} (ht : Turn w w' S) (hS : ∀ b, S b -> lab b = 0) : Law w' lab N M now c wt l q R bk E eb := ⟨h.sys.turn ht hS, h.inv, h.ids, h.ev⟩
theorem Law.below (h : Law w lab N M now c wt l q R bk E eb) (hb : Below w.heap.size w w') : Law w' lab N M now c wt l q R bk E eb := ⟨h.sys.below hb, h.inv, h.ids, h.ev⟩
theorem Law.more (h : Law w lab N M now c wt l q R bk E eb) {c' : Int} (hc : c <= c') {wt' : Nat -> Int} (hw : ∀ k, wt' k <= wt k \/ ∀ n, k ∉ (R n).tail) {eb' : Nat} (he : eb <= eb') : Law w lab N M now c' wt' l q R bk E eb' := ⟨h.sys, h.inv.more hc hw, h.ids, Nat.le_trans h.ev he⟩
theorem goL_few (M now : Int) (l : List S57) (q : List S63) (hl : l.length <= 12) (h2 : (settleL M now l q).1.length <= 12) (h3 : (settleL M now (settleL M now l q).1 (settleL M now l q).2.1).1.length <= 12) : (goL 1 M now (now + 1) l q).2.2.length <= 1000 := by
  have h1 := settleL_few M now l q hl;have h4 := tickL_few M now (settleL M now l q).1 (settleL M now l q).2.1 h2 h3;rw [goL_one];split
  · exact Nat.le_trans h1 (by omega)
  · dsimp only;rw [List.length_append];omega
theorem Law.go (h : Law w lab N M now c wt l q R bk E eb) (hn : now < 1000000000) (hw : ∀ k, k < l.length -> (at_ l k).f3 = 0 -> wt k <= 0) (heb : eb <= 9000000) :
    Calls Tryz.prog 14 #[.pointer (some ⟨N, 0, none⟩), .int .i64 1] w fun e w' => e = .returned .nilIface /\ (∃ lab' R', Law w' lab' N M (now + 1) c (fun k => wt k + 1) (goL 1 M now (now + 1) l q).1 (goL 1 M now (now + 1) l q).2.1 R' bk (E ++ (goL 1 M now (now + 1) l q).2.2.map Ev.cells) (eb + 1000) /\ StepR R R' /\ (goL 1 M now (now + 1) l q).1.length = l.length /\ (goL 1 M now (now + 1) l q).2.1.length = q.length /\ (∀ n, ((goL 1 M now (now + 1) l q).2.1.getD n z63).f0 = (q.getD n z63).f0) /\ Grew w lab lab') /\ Turn w w' (fun b => lab b ≠ 0) := by
  obtain ⟨hI, R1, hinv, hstep, hl1, hq1, hm1, hf1⟩ := h.inv.go1 hn hw;obtain ⟨R', hS, _, e1, e2, _, _⟩ := h.inv.settle hw;have hag := hS.again;have hfew := goL_few M now l q h.inv.sane.len (by rw [e1]; exact h.inv.sane.len) (by rw [hag]; show (settleL M now l q).1.length <= 12; rw [e1]; exact h.inv.sane.len);refine (gos_calls N lab M now 1 l q l.length bk E w h.sys (by have := h.ev; omega) (goI M now l q) hI (.inl ⟨rfl, rfl, rfl⟩) (by decide) (by decide) h.inv.now0 h.inv.now1).mono ?_;rintro e w' ⟨rfl, _, ⟨lab', hsys, hgr⟩, hT⟩;have e1 : (1 : Int).toNat = 1 := rfl;rw [e1] at hsys;refine ⟨rfl, ⟨lab', R1, ⟨?_, hinv, fun k hk => ?_, ?_⟩, hstep, hl1, hq1, hm1, hgr⟩, hT⟩
  · rw [hl1]; exact hsys
  · rw [hl1] at hk;rw [hf1];exact h.ids k hk
  · rw [List.length_append, List.length_map];have := h.ev;omega
theorem Law.relOk (h : Law w lab N M now c wt l q R bk E eb) {i : Nat} (hi : i < l.length) (hc : c <= 1000000) : RelOk now l q i hi := by
  have hn1 := h.inv.now1;have hs := h.inv.serv i hi;rw [at_lt hi] at hs
  exact ⟨h.inv.sane.sorted, h.inv.sane.len, h.inv.qlen, fun k hk => by have := (h.inv.serv k hk).jlen; rwa [at_lt hk] at this, fun n hn => by
    have := (h.inv.mok (fun n _ => h.inv.row_len n)).room n hn;omega, h.inv.now0, by omega, hs.cbs, hs.num.1, by have := hs.num; omega⟩
theorem Law.rel (h : Law w lab N M now c wt l q R bk E eb) {i : Nat} (hi : i < l.length) (hc : c <= 1000000) (heb : eb <= 9000000) (Ap : Option Addr) (cp : Nat) (P : List S72) (hP : Kd.C k72 w Ap P.length P) :
    Calls Tryz.prog 11 #[.pointer (some ⟨N, 0, none⟩), .int .u32 i, .slice Ap P.length cp] w fun e w' => (∃ a b, e = .returned (.tuple #[a, b])) /\ (∃ lab' l' E', Law w' lab' N M now (c + 1) wt l' q R bk E' (eb + 2) /\ l'.length = l.length /\ Grew w lab lab' /\ ((l' = l /\ E' = E) \/ (l' = l.set i (relX now P l[i]) /\ E' = E ++ (relE now l[i]).map Ev.cells))) /\ Turn w w' (fun b => lab b ≠ 0) := by
  have hk := h.relOk hi hc;refine (srel_calls N lab M now l q l.length bk E w h.sys i hi hi (by rw [<- at_lt hi]; exact h.ids i hi) hk (by have := h.ev; omega) hk.que Ap cp P hP).mono ?_;intro e w' ⟨h1, h2⟩;by_cases hC : relC q.length P l[i] = 0
  · obtain ⟨rfl, ⟨lab', hsys, hgr⟩, hT⟩ := h2 hC;refine ⟨⟨_, _, rfl⟩, ⟨lab', _, _, ⟨?_, h.inv.release hi hC, fun k hk => ?_, ?_⟩, List.length_set .., hgr, .inr ⟨rfl, rfl⟩⟩, hT⟩
    · rw [List.length_set]; exact hsys
    · rw [List.length_set] at hk;rw [at_set];split
      · rename_i e; rw [e.1, <- at_lt hi]; exact h.ids i hi
      · exact h.ids k hk
    · rw [List.length_append, List.length_map];have := h.ev;have := relE_few now l[i];omega
  · obtain ⟨⟨p, rfl⟩, hB⟩ := h1 hC;exact ⟨⟨_, _, rfl⟩, ⟨lab, l, E, (h.below hB).more (by omega) (fun k => .inl (Int.le_refl _)) (by omega), rfl, fun b hb => .inl hb, .inl ⟨rfl, rfl⟩⟩, Turn.of_below _ hB⟩
theorem Law.state (h : Law w lab N M now c wt l q R bk E eb) :
    Calls Tryz.prog 13 #[.pointer (some ⟨N, 0, none⟩)] w fun e w' => ∃ B o A4 c4, e = .returned (stV M now o.A l.length o.c o.A2 q.length o.c2 A4 c4) /\ Own w' B l q o /\ (∀ b, B.G b -> lab b ≠ 0) /\ (∀ cc b, o.own cc = some b -> w.heap.size < b) /\ Below w.heap.size w w' := by
  have h12 := h.inv.sane.len;have h8 := h.inv.qlen
  exact states_calls N lab M now l q l.length bk E w h.sys (by omega) (by omega) (fun k hk => by have := (h.inv.serv k hk).jlen; rw [at_lt hk] at this; omega) (fun n hn => by
    have := (h.inv.mok (fun n _ => h.inv.row_len n)).room n hn;omega)
theorem at_app (l : List S57) (x : S57) (k : Nat) : (k < l.length -> at_ (l ++ [x]) k = at_ l k) /\ at_ (l ++ [x]) l.length = x := by
  constructor
  · intro hk;unfold at_;rw [List.getD_eq_getElem?_getD, List.getD_eq_getElem?_getD, List.getElem?_append_left hk]
  · unfold at_;rw [List.getD_eq_getElem?_getD, List.getElem?_append_right (Nat.le_refl _), Nat.sub_self];rfl
theorem Inv.opens (h : Inv M now c wt noD l q R) (hids : ∀ k, k < l.length -> (at_ l k).f0 = (k : Int) + 1) (hl : l.length <= 11) (hc : 0 <= c) {q0 p0 : Int} (hx : WOk ⟨q0, p0⟩) : Inv M now c wt noD (l ++ [newServ ((l.length : Int) + 1) q0 p0]) q R := by
  obtain ⟨x1, x2, x3, x4⟩ := hx;dsimp only at x1 x2 x3 x4;have ha := fun k (hk : k < l.length) => (at_app l (newServ ((l.length : Int) + 1) q0 p0) k).1 hk
  have hz := (at_app l (newServ ((l.length : Int) + 1) q0 p0) 0).2;have hlen : (l ++ [newServ ((l.length : Int) + 1) q0 p0]).length = l.length + 1 := by simp
  have hn0 := h.now0;have hrow : ∀ n k, k ∈ R n -> k < l.length := fun n k hk => ((h.rows.mem n k).1 hk).1
  refine ⟨⟨h.sane.m1, h.sane.m2, by omega, ?_, fun k hk => ?_, ?_⟩, h.now0, h.now1, h.qlen, h.qmost, fun k hk => ?_, ?_⟩
  · rw [sorted_at];intro a b hab hb
    have e : ∀ k, k < l.length + 1 -> (at_ (l ++ [newServ ((l.length : Int) + 1) q0 p0]) k).f0 = (k : Int) + 1 := fun k hk => by
      by_cases e : k < l.length
      · rw [ha k e]; exact hids k e
      · obtain rfl : k = l.length := by omega
        rw [hz]; rfl
    rw [e a (by omega), e b (by omega)];omega
  · rw [<- at_lt hk];by_cases e : k < l.length
    · rw [ha k e, at_lt e]; exact h.sane.id k e
    · obtain rfl : k = l.length := by omega
      rw [hz];show 1 <= (l.length : Int) + 1 /\ (l.length : Int) + 1 <= 255;omega
  · rw [fixes_count, List.countP_append];have := h.sane.fix;rw [fixes_count] at this
    have e : List.countP fixd [newServ ((l.length : Int) + 1) q0 p0] = 0 := by
      simp [fixd, newServ]
    omega
  · by_cases e : k < l.length
    · rw [ha k e]; exact h.serv k e
    · obtain rfl : k = l.length := by omega
      rw [hz]
      exact { cbs := ⟨x3, x4, x2, by show (0 : Int) <= 0; decide, by show (0 : Int) <= q0; omega, by show (0 : Int) <= 0; decide, by show (0 : Int) <= 4611686018427387904; decide, by show (0 : Int) <= 0; decide, by show (0 : Int) <= 2; decide, fun e => absurd e (by show ¬ (0 : Int) = 1; decide)⟩
              due := by show (0 : Int) <= _; omega
              ahead := fun e => absurd rfl e
              idle := fun _ => ⟨rfl, rfl⟩
              busy := fun e => absurd rfl e
              jlen := by show 0 <= 8; decide
              jobs := fun j hj => by
                have : j ∈ ([] : List S125) := hj;simp at this
              rest := fun j hj => by
                have : j ∈ ([] : List S125) := hj;simp at this
              sec := by show (0 : Int) <= 0 /\ (0 : Int) <= 2; decide
              spin := fun _ _ => rfl
              sem := fun e => absurd rfl e
              secm := fun e => absurd rfl e
              part := fun e => absurd rfl e
              held := by show (0 : Int) <= 0 /\ (0 : Int) <= 1048576; decide
              ran := by show (0 : Int) <= 0 /\ (0 : Int) <= now; omega
              num := by show (0 : Int) <= 0 /\ (0 : Int) <= c; omega }
  · have hh : ∀ n (p k : Nat), (R n)[p]? = some k -> at_ (l ++ [newServ ((l.length : Int) + 1) q0 p0]) ((R n).headD 0) = at_ l ((R n).headD 0) := fun n p k hp => by
      cases hr : R n with
      | nil => rw [hr] at hp; simp at hp
      | cons a r => exact ha a (hrow n a (by rw [hr]; simp))
    refine ⟨h.rows.hold0, fun n hn => ?_, h.rows.nodup, fun n k => ?_, fun n k r e => ?_, fun n hn k r e => ?_, fun n hn p k hp => ?_, fun n hn p k hp => ?_⟩
    · rw [h.rows.ids n hn];exact List.map_congr_left (fun k hk => by rw [ha k (hrow n k hk)])
    · rw [h.rows.mem n k];by_cases e : k < l.length
      · rw [ha k e, hlen];exact ⟨fun a => ⟨by omega, a.2⟩, fun a => ⟨e, a.2⟩⟩
      · constructor
        · intro a; exact absurd a.1 e
        · rintro ⟨a1, a2, _⟩;obtain rfl : k = l.length := by omega
          rw [hz] at a2;exact absurd rfl a2
    · have h1 := h.rows.first n k r e;rw [ha k (hrow n k (by rw [e]; simp))];exact ⟨h1.1, fun k' hk' => by rw [ha k' (hrow n k' (by rw [e]; exact List.mem_cons_of_mem _ hk'))]; exact h1.2 k' hk'⟩
    · rw [ha k (hrow n k (by rw [e]; simp))];exact h.rows.most n hn k r e
    · rw [hh n p k hp, ha k (hrow n k (List.mem_of_getElem? hp))];exact h.rows.time n hn p k hp
    · rw [hh n _ k hp];exact h.rows.wait n hn p k hp
theorem Inv.new {ms : List Int} (hM : newB_ok M ms = true) (wt : Nat -> Int) : Inv M 0 0 wt noD [] (ms.map lockOf) (fun _ => []) := by
  unfold newB_ok at hM;simp only [Bool.not_eq_true', Bool.or_eq_false_iff, decide_eq_false_iff_not] at hM;obtain ⟨⟨⟨a1, a2⟩, a3⟩, a4⟩ := hM;refine ⟨⟨by omega, by omega, by simp, by simp [Sorted], fun k hk => by simp at hk, by show (0 : Int) <= M; omega⟩, by decide, by decide, by rw [List.length_map]; omega, fun n hn => ?_, fun k hk => by simp at hk, ?_⟩
  · rw [List.length_map] at hn;rw [List.getElem_map];rw [List.any_eq_false] at a4;have := a4 ms[n] (List.getElem_mem hn);unfold moddB at this;simp at this;show 1 <= ms[n] /\ ms[n] <= 1048576;omega
  · refine ⟨fun n hn _ => ?_, fun n hn => ?_, fun n => by simp, fun n k => ?_, fun n k r e => by simp at e, fun n hn k r e => by simp at e, fun n hn p k hp => by simp at hp, fun n hn p k hp => by simp at hp⟩
    · rw [List.getElem_map]; rfl
    · rw [List.getElem_map]; rfl
    · simp
structure Booked (l : List S57) (bk : List S157) : Prop where
  len : bk.length = l.length
  id : ∀ k (h : k < bk.length), bk[k].f0 = (k : Int) + 1
  ok : ∀ k (h : k < bk.length), WOk bk[k].f1
theorem Law.opens (h : Law w lab N M now c wt l q R bk E eb) (hb : Booked l bk) (hl : l.length <= 11) (hc : 0 <= c) (q0 p0 : Int) :
    Calls Tryz.prog 18 #[.pointer (some ⟨N, 0, none⟩), .int .i64 q0, .int .i64 p0] w fun e w' =>
      (askC M bk ⟨q0, p0⟩ ≠ 0 /\ (∃ p, e = .returned (.tuple #[.int .u32 0, .iface 111 p])) /\ Law w' lab N M now c wt l q R bk E eb /\ Below w.heap.size w w') \/
      (askC M bk ⟨q0, p0⟩ = 0 /\ e = .returned (.tuple #[.int .u32 l.length, .nilIface]) /\ (∃ lab', Law w' lab' N M now c wt (l ++ [newServ ((l.length : Int) + 1) q0 p0]) q R (bk ++ [⟨(l.length : Int) + 1, ⟨q0, p0⟩, -1⟩]) E eb /\ Booked (l ++ [newServ ((l.length : Int) + 1) q0 p0]) (bk ++ [⟨(l.length : Int) + 1, ⟨q0, p0⟩, -1⟩]) /\ Grew w lab lab') /\ Turn w w' (fun b => lab b ≠ 0)) := by
  have hm1 := h.inv.sane.m1;have hm2 := h.inv.sane.m2
  have hk : OpenOk l q l.length bk := ⟨h.inv.sane.sorted, by omega, Nat.le_refl _, by rw [hb.len]; exact Nat.le_refl _, fun k hk => by
      rw [<- at_lt hk, h.ids k hk]; omega, fun k hk => by
      rw [hb.id k hk];have := hb.len;omega, hb.ok, h.inv.qlen, fun k hk => by have := (h.inv.serv k hk).jlen; rw [at_lt hk] at this; omega, fun n hn => by
      have := (h.inv.mok (fun n _ => h.inv.row_len n)).room n hn;omega⟩
  refine (sopen_calls N lab M now l q l.length bk E w h.sys hk q0 p0 hm1 hm2 h.inv.now0).mono ?_;intro e w' ⟨h1, h2⟩;by_cases hC : askC M bk ⟨q0, p0⟩ = 0
  · right;obtain ⟨rfl, ⟨lab', hsys, hgr⟩, hT⟩ := h2 hC;have hx := askC_ok hC;refine ⟨hC, rfl, ⟨lab', ⟨?_, h.inv.opens h.ids hl hc hx, fun k hk => ?_, h.ev⟩, ⟨?_, fun k hk => ?_, fun k hk => ?_⟩, hgr⟩, hT⟩
    · rw [List.length_append]; exact hsys
    · rw [List.length_append, List.length_singleton] at hk;by_cases e : k < l.length
      · rw [(at_app _ _ k).1 e]; exact h.ids k e
      · obtain rfl : k = l.length := by omega
        rw [(at_app _ _ 0).2]; rfl
    · rw [List.length_append, List.length_append, hb.len]; rfl
    · rw [List.length_append, List.length_singleton] at hk;by_cases e : k < bk.length
      · rw [List.getElem_append_left e]; exact hb.id k e
      · obtain rfl : k = bk.length := by omega
        rw [List.getElem_append_right (Nat.le_refl _)];simp [hb.len]
    · rw [List.length_append, List.length_singleton] at hk;by_cases e : k < bk.length
      · rw [List.getElem_append_left e]; exact hb.ok k e
      · obtain rfl : k = bk.length := by omega
        rw [List.getElem_append_right (Nat.le_refl _)];simpa using hx
  · left;obtain ⟨h3, hB⟩ := h1 hC;exact ⟨hC, h3, h.below hB, hB⟩
end
structure Do3 where
 who : Int
 n : Int
 steps : List S72
def DoAt (w : World) (A : Option Addr) (l : List Do3) : Prop := ∀ k (h : k < l.length), ∃ ad A1 c1, A = some ad /\ w.cell? (ad.add (k * 3)) = some (.int .i64 l[k].who) /\ w.cell? ⟨(ad.add (k * 3)).block, (ad.add (k * 3)).off + 1, none⟩ = some (.int .i64 l[k].n) /\ w.cell? ⟨(ad.add (k * 3)).block, (ad.add (k * 3)).off + 2, none⟩ = some (.slice A1 l[k].steps.length c1) /\ Kd.C k72 w A1 l[k].steps.length l[k].steps
theorem DoAt.below {w w' : World} {A : Option Addr} {l : List Do3} (h : DoAt w A l) (hb : Below w.heap.size w w') : DoAt w' A l := fun k hk => by
 obtain ⟨ad, A1, c1, rfl, h0, h1, h2, h3⟩ := h k hk;exact ⟨ad, A1, c1, rfl, (hb.cell (World.block_lt_of_cell? _ _ h0)).trans h0, (hb.cell (World.block_lt_of_cell? _ _ h1)).trans h1, (hb.cell (World.block_lt_of_cell? _ _ h2)).trans h2, Kd.C_below h3 hb⟩
structure Light (m : Int) (nm nl : Nat) (l : List Do3) : Prop where
 m1 : 1 <= m
 m2 : m <= 12
 nm8 : nm <= 8
 nl12 : nl <= 12
 do40 : l.length <= 40
 each : ∀ k (h : k < l.length), l[k].steps.length <= 12 /\ l[k].n <= 200
theorem heavy_calls (m : Int) (Am : Option Addr) (nm cm : Nat) (Al : Option Addr) (nl cl : Nat) (A : Option Addr) (c : Nat) (l : List Do3) (w : World) (hd : DoAt w A l) (hmax : l.length <= 9223372036854775807) :
  Calls Tryz.prog 8 #[.int .i64 m, .slice Am nm cm, .slice Al nl cl, .slice A l.length c] w fun e w' => (e = .returned (.bool true) \/ (e = .returned (.bool false) /\ Light m nm nl l)) /\ Below w.heap.size w w' := by
 have HT : Hid (∀ (e : Ending) (w' : World), e = .returned (.bool true) -> Below w.heap.size w w' -> (e = .returned (.bool true) \/ (e = .returned (.bool false) /\ Light m nm nl l)) /\ Below w.heap.size w w') := hZ (fun e w' h1 h2 => ⟨.inl h1, h2⟩);by_cases h1 : m < 1
 ·have g1 : decide (m < 1) = true := by simpa using h1
  go_enter Tryz.func8, Tryz.ntmps8;go_wp2;go_ret;exact ⟨.inl rfl, Below.refl _ _⟩
 have g1 : decide (m < 1) = false := by simpa using h1
 by_cases h2 : m > 12
 ·have g2 : decide (m > 12) = true := by simpa using h2
  go_enter Tryz.func8, Tryz.ntmps8;go_wp2;go_ret;exact ⟨.inl rfl, Below.refl _ _⟩
 have g2 : decide (m > 12) = false := by simpa using h2
 by_cases h3 : (nm : Int) > 8
 ·have g3 : decide ((nm : Int) > 8) = true := by simpa using h3
  go_enter Tryz.func8, Tryz.ntmps8;go_wp2;go_ret;exact ⟨.inl rfl, Below.refl _ _⟩
 have g3 : decide ((nm : Int) > 8) = false := by simpa using h3
 by_cases h4 : (nl : Int) > 12
 ·have g4 : decide ((nl : Int) > 12) = true := by simpa using h4
  go_enter Tryz.func8, Tryz.ntmps8;go_wp2;go_ret;exact ⟨.inl rfl, Below.refl _ _⟩
 have g4 : decide ((nl : Int) > 12) = false := by simpa using h4
 by_cases h5 : (l.length : Int) > 40
 ·have g5 : decide ((l.length : Int) > 40) = true := by simpa using h5
  go_enter Tryz.func8, Tryz.ntmps8;go_wp2;go_ret;exact ⟨.inl rfl, Below.refl _ _⟩
 have g5 : decide ((l.length : Int) > 40) = false := by simpa using h5
 go_enter Tryz.func8, Tryz.ntmps8;go_wp2
 go_loopw [9] (fun v9 wr => ∃ k : Nat, v9 = .int .i64 k /\ k <= l.length /\ wr = w /\ Hid (∀ j (h : j < l.length), j < k -> l[j].steps.length <= 12 /\ l[j].n <= 200)) (fun v9 _ => l.length - (intOf v9).toNat)
 case atStart => exact ⟨0, rfl, Nat.zero_le _, rfl, hZ (fun j _ h => by omega)⟩
 case round =>
  obtain ⟨k, rfl, hk, rfl, hpre⟩ := hrel;by_cases hlt : k < l.length
  ·obtain ⟨ad, A1, c1, rfl, e0, e1, e2, hC⟩ := hd k hlt;have k0 : (0 : Int) <= (k : Int) := Int.natCast_nonneg k;have k1 : (k : Int) < (l.length : Int) := by omega
   have hw1 : IntKind.i64.wrap ((k : Int) + 1) = (k : Int) + 1 := by rw [i64_w]; unfold Go.RowKit.wrap64; omega
   by_cases h6 : (l[k].steps.length : Int) > 12
   ·have g6 : decide ((l[k].steps.length : Int) > 12) = true := by simpa using h6
    go_wp2;go_ret;exact ⟨.inl rfl, Below.refl _ _⟩
   ·have g6 : decide ((l[k].steps.length : Int) > 12) = false := by simpa using h6
    by_cases h7 : l[k].n > 200
    ·have g7 : decide (l[k].n > 200) = true := by simpa using h7
     go_wp2;go_ret;exact ⟨.inl rfl, Below.refl _ _⟩
    ·have g7 : decide (l[k].n > 200) = false := by simpa using h7
     have HN : Hid (∀ j (h : j < l.length), j < k + 1 -> l[j].steps.length <= 12 /\ l[j].n <= 200) := hZ (fun j h hj => by
      by_cases e : j < k
      ·exact hpre.out j h e
      ·obtain rfl : j = k := by omega
       omega)
     go_wp2;go_roundw
     case rel => exact ⟨k + 1, by go_num, by omega, by first | trivial | rfl, HN⟩
     case measure => simp [intOf]; omega
  ·obtain rfl : k = l.length := by omega
   have HL : Hid (Light m nm nl l) := hZ ⟨by omega, by omega, by omega, by omega, by omega, fun j h => hpre.out j h h⟩;go_wp2;go_ret;exact ⟨.inr ⟨by first | trivial | rfl, HL.out⟩, Below.refl _ _⟩
def opnd.T5 : Bool × List (List Nat × List Nat) := (true, [([], []), ([], []), ([], []), ([1, 2], [1, 2]), ([3], [3]), ([4], [4]), ([], []), ([], []), ([6, 7], [6, 7]), ([8], [8]), ([9], [9]), ([0, 5, 10], [0, 5, 10]), ([11], [11]), ([12], [12]), ([12], [12]), ([13, 11, 0, 1, 2, 3, 4, 5, 6, 7, 8, 9, 10, 11, 12, 13], [13]), ([14, 15, 0, 1, 2, 3, 4, 5, 6, 7, 8, 9, 10, 11, 12, 13, 14, 15], [14])])
def opnd.B5 : List Nat := [0, 0, 0, 6, 14, 30, 0, 0, 192, 448, 960, 2047, 4095, 8191, 8191, 16383, 65535]
theorem opnd.tab5 : rtab .any (opsOf Tryz.f10 5) = opnd.T5 := by kernel_rfl
theorem opnd.bits5 : waitsOk opnd.T5.2 opnd.B5 = true := by kernel_rfl
theorem info41 : (Tryz.prog.info? 41).map (fun i => (i.zero, i.size, i.bytes)) = some (some (.int .u32 0), 1, 4) := by kernel_rfl
def nameRows (n : Nat) : List (List Value) := (List.range n).map fun (i : Nat) => [.int .u32 (i : Int)]
theorem nameRows_len (n : Nat) : (nameRows n).length = n := by simp [nameRows]
theorem nameRows_succ (n : Nat) : nameRows (n + 1) = nameRows n ++ [[.int .u32 (n : Int)]] := by simp [nameRows, List.range_succ]
def openL (M : Int) : List S85 -> List S157 -> List S157
 | [], bk => bk
 | x :: xs, bk => openL M xs (if askC M bk x = 0 then bk ++ [⟨(bk.length : Int) + 1, x, -1⟩] else bk)
def servsOf (bk : List S157) : List S57 := bk.map fun e => newServ e.f0 e.f1.f0 e.f1.f1
theorem openL_take {M : Int} : ∀ {ps : List S85} {bk : List S157} {k : Nat} (h : k < ps.length), openL M (ps.take (k + 1)) bk = if askC M (openL M (ps.take k) bk) ps[k] = 0 then openL M (ps.take k) bk ++ [⟨((openL M (ps.take k) bk).length : Int) + 1, ps[k], -1⟩] else openL M (ps.take k) bk := by
 intro ps
 induction ps with
 | nil => intro bk k h; simp at h
 | cons x xs ih =>
  intro bk k h
  cases k with
  | zero => simp [openL]
  | succ k =>
   have h2 : k < xs.length := by simpa using h
   have := ih (bk := if askC M bk x = 0 then bk ++ [⟨(bk.length : Int) + 1, x, -1⟩] else bk) h2;simpa [openL] using this
theorem openL_len {M : Int} : ∀ (ps : List S85) (bk : List S157), (openL M ps bk).length <= bk.length + ps.length := by
 intro ps
 induction ps with
 | nil => intro bk; simp [openL]
 | cons x xs ih =>
  intro bk;unfold openL;have := ih (if askC M bk x = 0 then bk ++ [⟨(bk.length : Int) + 1, x, -1⟩] else bk);split at this
  ·rw [List.length_append, List.length_singleton] at this;rename_i h;rw [if_pos h];simp only [List.length_cons];omega
  ·rename_i h;rw [if_neg h];simp only [List.length_cons];omega
theorem Law.lt {w : World} {lab : Nat -> Nat} {N : Nat} {M now c : Int} {wt : Nat -> Int} {l : List S57} {q : List S63} {R : Nat -> List Nat} {bk : List S157} {E : List (List Value)} {eb : Nat} (h : Law w lab N M now c wt l q R bk E eb) : ∀ b, lab b ≠ 0 -> b < w.heap.size := by
 obtain ⟨r, hr⟩ := h.sys;exact hr.lt
theorem Turn.onto {w w1 w2 : World} {S S' : Nat -> Prop} (h : Turn w w1 S) (k : Turn w1 w2 S') (hS : ∀ b, S' b -> S b \/ w.heap.size <= b) : Turn w w2 S :=
 ⟨k.os.trans h.os, k.tape.trans h.tape, k.output.trans h.output, Nat.le_trans h.size k.size, fun b hb hn => (k.block b (Nat.lt_of_lt_of_le hb h.size) (fun e => (hS b e).elim hn (fun e => by omega))).trans (h.block b hb hn)⟩
theorem opened_calls (N : Nat) (lab : Nat -> Nat) (M c : Int) (wt : Nat -> Int) (q : List S63) (R : Nat -> List Nat) (E : List (List Value)) (eb : Nat) (A : Option Addr) (cA : Nat) (ps : List S85) (w : World) (h : Law w lab N M 0 c wt [] q R [] E eb) (hc : 0 <= c) (W : World) (hp : Kd.C k85 W A ps.length ps) (hW : Below W.heap.size W w) (hlab : ∀ b, lab b ≠ 0 -> W.heap.size <= b) (hl : ps.length <= 12) :
  Calls Tryz.prog 10 #[.pointer (some ⟨N, 0, none⟩), .slice A ps.length cA] w fun e w' => ∃ v lab', e = .returned v /\ (Kd.raw 1).R 41 w' w.heap.size (fun _ => True) v (nameRows (openL M ps []).length) /\ (∀ b, v.ownBlock = some b -> lab' b = 0) /\ Law w' lab' N M 0 c wt (servsOf (openL M ps [])) q R (openL M ps []) E eb /\ Booked (servsOf (openL M ps [])) (openL M ps []) /\ Grew w lab lab' /\ Turn w w' (fun b => lab b ≠ 0) := by
 have HL0 := hZ h;have HP := hZ hp
 have hNw : N < w.heap.size := by
  obtain ⟨r, hr⟩ := h.sys;exact blk_lt hr.blk
 have HW := hZ hW;have HLAB := hZ hlab;have hWs := hW.size;clear h hp hW hlab;go_enter Tryz.func10, Tryz.ntmps10;go_wp2
 go_loopw [5, 6] (fun v5 v6 wr => ∃ (k : Nat) (bk : List S157) (lab' : Nat -> Nat), v6 = .int .i64 k /\ k <= ps.length /\ Hid (bk = openL M (ps.take k) []) /\ Hid ((Kd.raw 1).R 41 wr w.heap.size (fun _ => True) v5 (nameRows bk.length)) /\ Hid (∀ b, v5.ownBlock = some b -> lab' b = 0) /\ Hid (Law wr lab' N M 0 c wt (servsOf bk) q R bk E eb) /\ Hid (Booked (servsOf bk) bk) /\ Hid (Grew w lab lab') /\ Hid (Turn w wr (fun b => lab b ≠ 0))) (fun _ v6 _ => ps.length - (intOf v6).toNat)
 case atStart => exact ⟨0, [], lab, rfl, Nat.zero_le _, hZ rfl, hZ (Kd.R_nil _ _ _ _ _), hZ (fun b hb => by simp [Value.ownBlock] at hb), HL0, hZ ⟨rfl, fun k hk => by simp at hk, fun k hk => by simp at hk⟩, hZ (fun b hb => .inl hb), hZ (Turn.refl _ _)⟩
 case round =>
  clear HL0;obtain ⟨k, bk, lab', rfl, hk, HBK, HR, HV, HL, HBO, HG, HT⟩ := hrel;by_cases hlt : k < ps.length
  ·have hsz := HT.out.size;have hbr : Below W.heap.size W wr := Turn.below HW.out HT.out (fun b e => HLAB.out b e) hWs;have hC := Kd.C_below HP.out hbr
   have hlb : bk.length <= 11 := by
    have := openL_len (M := M) (ps.take k) [];rw [<- HBK.out, List.length_take] at this;simp at this;omega
   have hsl : (servsOf bk).length = bk.length := by unfold servsOf; rw [List.length_map]
   have DO : ∀ wx, Below wr.heap.size wr wx -> Calls Tryz.prog 18 #[.pointer (some ⟨N, 0, none⟩), .int .i64 ps[k].f0, .int .i64 ps[k].f1] wx fun e w' => ∃ x er, e = .returned (.tuple #[x, er]) /\ ((∃ p, er = .iface 111 p) /\ askC M bk ps[k] ≠ 0 /\ Law w' lab' N M 0 c wt (servsOf bk) q R bk E eb /\ Below wx.heap.size wx w' \/ er = .nilIface /\ x = .int .u32 bk.length /\ askC M bk ps[k] = 0 /\ (∃ lab2, Law w' lab2 N M 0 c wt (servsOf (bk ++ [⟨(bk.length : Int) + 1, ps[k], -1⟩])) q R (bk ++ [⟨(bk.length : Int) + 1, ps[k], -1⟩]) E eb /\ Booked (servsOf (bk ++ [⟨(bk.length : Int) + 1, ps[k], -1⟩])) (bk ++ [⟨(bk.length : Int) + 1, ps[k], -1⟩]) /\ Grew wx lab' lab2) /\ Turn wx w' (fun b => lab' b ≠ 0)) := fun wx hb => (Law.opens (HL.out.below hb) HBO.out (by omega) hc ps[k].f0 ps[k].f1).mono fun e w' hh => by
    rcases hh with ⟨a0, ⟨p, rfl⟩, a1, a2⟩ | ⟨a0, rfl, ⟨lab2, a1, a2, a3⟩, a4⟩
    ·exact ⟨_, _, rfl, .inl ⟨⟨p, rfl⟩, a0, a1, a2⟩⟩
    ·refine ⟨_, _, rfl, .inr ⟨rfl, by rw [hsl], a0, ⟨lab2, ?_, ?_, a3⟩, a4⟩⟩
     ·rw [hsl] at a1;unfold servsOf at a1 |-;rw [List.map_append];exact a1
     ·rw [hsl] at a2;unfold servsOf at a2 |-;rw [List.map_append];exact a2
   obtain ⟨ad, rfl, c0, c1⟩ := at_T85 hC (k : Int) (by omega) (by omega);rw [Int.toNat_natCast] at c0 c1;rw [show rd_T85 ps (k : Int) = ps[k] by simp [rd_T85, hlt]] at c0 c1;have k0 : (0 : Int) <= (k : Int) := Int.natCast_nonneg k;have k1 : (k : Int) < (ps.length : Int) := by omega
   go_upto_region 5 with fail
   refine start_ (n := 17) (S := fun w' => Hid (Below wr.heap.size wr w')) (ds := [11]) #[false, false, false, false, false, false, false, false, false, false, false, false, false, false, false, false, false] (by kernel_rfl) rfl rfl ((hZ (below_drew (Below.refl _ _)))) (fun hHeld => ?_);refine with_tabW opnd.tab5 opnd.bits5 (fun HT_ HW_ => ?_);have hbd := drB wr;have hsd : wr.heap.size = wr.drew.heap.size := rfl;generalize hwd : wr.drew = wd at *;clear hwd;refine pst 0 (some 16) HT_ ?_;refine pst 1 (some 17) HT_ ?_;refine pst 2 (some 18) HT_ ?_;refine pst 3 (some 19) HT_ ?_;refine pst 4 (some 20) HT_ ?_;refine pst 6 (some 22) HT_ ?_;refine pst 7 (some 23) HT_ ?_;refine pst 8 (some 24) HT_ ?_;refine pst 9 (some 25) HT_ ?_;refine tst 5 (some 21) HT_ HW_ hHeld ?_ (hy := by (intro w' s0; have e0 := (s0.out.cell (World.block_lt_of_cell? _ _ c0)).trans c0; have e1 := (s0.out.cell (World.block_lt_of_cell? _ _ c1)).trans c1); go_simp; with_reducible rfl);refine tst 10 (some 26) HT_ HW_ hHeld ?_ (hy := by (intro w' s0; have e0 := (s0.out.cell (World.block_lt_of_cell? _ _ c0)).trans c0; have e1 := (s0.out.cell (World.block_lt_of_cell? _ _ c1)).trans c1); go_simp; with_reducible rfl);refine last_ (i := 11) (N := some 27) #[true, true, true, true, true, true, true, true, true, true, true, true, false, false, false, false, false] rfl rfl (one_of HT_.out (by kernel_rfl)) (by decide) (fun K hK => ?_);refine goes_ Tryz.func18 (by kernel_rfl) rfl #[.pointer (some ⟨N, 0, none⟩), .int .i64 ps[k].f0, .int .i64 ps[k].f1] (by rfl) rfl rfl (by simp only [List.map_toArray, List.map_cons, List.map_nil]; rfl) ?_;with_reducible refine (DO _ hHeld.out).mono ?_;rintro e w4 ⟨x, er, rfl, hO⟩;refine ⟨_, rfl, ?_⟩;refine hK.out _ _ ?_;clear hK K;refine norm_ (a' := ?_) ?_ ?_;rotate_left
   ·show Act.put _ (some 27) _ = _;simp only [Act.put, sqA, sqB, sqC, i64_w, i32_w];rfl
   refine pst 12 (some 15) HT_ ?_;refine pst 13 (some 28) HT_ ?_;refine pst 14 (some 29) HT_ ?_;refine pst 15 (some 7) HT_ ?_;refine pst 16 (some 8) HT_ ?_;refine done_ (done_of HT_.out (by kernel_rfl)) ?_;have hot := openL_take (M := M) (bk := []) hlt;rw [<- HBK.out] at hot;have hw1 : IntKind.i64.wrap ((k : Int) + 1) = (k : Int) + 1 := by rw [i64_w]; unfold Go.RowKit.wrap64; omega
   have hB4 : Below W.heap.size W wd := hbr.trans (hbd.out.mono hbr.size);have hTd : Turn w wd (fun b => lab b ≠ 0) := HT.out.trans (Turn.of_below _ hbd.out);have HRd := hZ (Kd.R_below HR.out hbd.out);have hgl : ∀ b, lab' b ≠ 0 -> lab b ≠ 0 \/ w.heap.size <= b := HG.out;have hsd2 := hTd.size;clear HT_ HW_ hHeld;rcases hO with ⟨⟨p, rfl⟩, a0, a1, a2⟩ | ⟨rfl, rfl, a0, ⟨lab2, a1, a2, a3⟩, a4⟩
   ·rw [if_neg a0] at hot;have HOT := hZ hot;have HL4 := hZ a1;have HT4 := hZ (hTd.trans (Turn.of_below _ a2));have HR4 := hZ (Kd.R_below HRd.out a2);clear a0 a1 a2 hot HL HR HT;go_wp2;go_roundw
    case rel => exact ⟨k + 1, bk, lab', by go_num, by omega, hZ HOT.out.symm, HR4, HV, HL4, HBO, HG, HT4⟩
    case measure => simp [intOf]; omega
   ·rw [if_pos a0] at hot;have HOT := hZ hot;have HL4 := hZ a1;have HBO4 := hZ a2;have HG4 := hZ a3;have HT4w := hZ a4;have hT4s := a4.size;have HR4 := hZ (raw_turn HRd.out a4 (fun b hb e => e (HV.out b hb)));have HVlt : Hid (∀ b, u5.ownBlock = some b -> b < wd.heap.size) := hZ (fun b hb => Kd.R_lt HRd.out b hb);have hlr : (nameRows bk.length).length <= 12 := by rw [nameRows_len]; omega
    clear a0 a1 a2 a3 a4 hot HL HR HT;have hws4 : w.heap.size <= w4.heap.size := by omega
    have hnrs := nameRows_succ bk.length;obtain ⟨rows, hrows⟩ : ∃ rows, rows = nameRows bk.length := ⟨_, rfl⟩;rw [<- hrows] at HR4 hlr hnrs;have HNRS := hZ hnrs;clear hrows hnrs
    go_upto_region 4 with ((with_reducible refine gate_builtin (b := .append) (xs := #[.tmp 32, .tmp 34]) rfl ?_); at_builtin; refine Kd.R_append (Kd.raw 1) (w0 := w4) w.heap.size rfl (.tmp 32) (.tmp 34) 32 41 (.int .u32 0) 4 rfl Tryz.underlying32 info41 rfl (by decide) (by omega) u5 rows [.int .u32 (bk.length : Int)] [.int .u32 (bk.length : Int)] (fun _ => True) (fun _ => False) rfl (by first | (go_simp; done) | (go_simp; rfl)) ?aP (fun _ hk => hk.elim) ?aF ?aO ?aB ?aS ?aL ?_; (case aP => exact ⟨rfl, rfl, fun u hu => by (rcases List.mem_singleton.1 hu with rfl; rfl)⟩); (case aF => exact (fun _ _ => trivial)); (case aO => exact HR4.out); (case aB => exact Below.refl _ _); (case aS => exact hws4); (case aL => omega); intro v5 w5 hR5 hB5 hg5 hat5; have HR5 := hZ hR5; have HT5 := hZ (grown_turn hg5); have HAT5 := hZ hat5; clear hR5 hB5 hg5 hat5)
    have hown : ∀ b, u5.ownBlock = some b -> lab2 b = 0 /\ w.heap.size <= b := fun b hb => by
     refine ⟨Classical.byContradiction (fun e => ?_), Kd.R_base HR4.out b hb⟩;rcases HG4.out b e with h | h
     ·exact h (HV.out b hb)
     ·have := HVlt.out b hb; omega
    have HL5 : Hid (Law w5 lab2 N M 0 c wt (servsOf (bk ++ [⟨(bk.length : Int) + 1, ps[k], -1⟩])) q R (bk ++ [⟨(bk.length : Int) + 1, ps[k], -1⟩]) E eb) := hZ (HL4.out.turn HT5.out (fun b e => (hown b e.symm).1));have HT5w : Hid (Turn w w5 (fun b => lab b ≠ 0)) := hZ ((hTd.onto HT4w.out (fun b e => hgl b e)).onto HT5.out (fun b e => .inr (hown b e.symm).2))
    have HG5 : Hid (Grew w lab lab2) := hZ (fun b hb => by
     rcases HG4.out b hb with h | h
     ·exact hgl b h
     ·right; omega)
    have HV5 : Hid (∀ b, v5.ownBlock = some b -> lab2 b = 0) := hZ (fun b hb => by
     rcases HAT5.out with h | ⟨b2, h, hle⟩
     ·exact (hown b (h ▸ hb)).1
     ·rw [h] at hb;injection hb with hb;exact Classical.byContradiction (fun e => by have := HL4.out.lt b e; omega))
    have HR6 : Hid ((Kd.raw 1).R 41 w5 w.heap.size (fun _ => True) v5 (nameRows (bk ++ [(⟨(bk.length : Int) + 1, ps[k], -1⟩ : S157)]).length)) := hZ (by
     rw [List.length_append, List.length_singleton, HNRS.out];exact HR5.out)
    clear HR4 HL4 HT4w HG4 HR5 HT5 HAT5 HRd HVlt hown;go_wp2;go_roundw
    case rel => exact ⟨k + 1, bk ++ [⟨(bk.length : Int) + 1, ps[k], -1⟩], lab2, by go_num, by omega, hZ HOT.out.symm, HR6, HV5, HL5, HBO4, HG5, HT5w⟩
    case measure => simp [intOf]; omega
  ·obtain rfl : k = ps.length := by omega
   have HEQ := HBK.out;rw [List.take_length] at HEQ;subst HEQ;go_wp2;go_ret;exact ⟨u5, lab', rfl, HR.out, HV.out, HL.out, HBO.out, HG.out, HT.out⟩
theorem workW_full {x : S85} {n : Int} : workW x n = min n (fullW x.f0 x.f1 (n + x.f1 - x.f0)) := by
  unfold workW fullW;have := Int.emod_def (n + x.f1 - x.f0) x.f1;rw [Int.mul_comm] at this;rw [this]
theorem workW_mono {x : S85} (hx : WOk x) {n n' : Int} (h0 : 0 <= n) (h : n <= n') : workW x n <= workW x n' := by
  obtain ⟨h1, h2, h3, h4⟩ := hx;rw [workW_full, workW_full];have := full_mono (Q := x.f0) (P := x.f1) (y := n + x.f1 - x.f0) (y' := n' + x.f1 - x.f0) h3 h4 (by omega) (by omega);omega
def sumO (f : Nat -> Int) (k : Nat) : Nat -> Int
  | 0 => 0
  | i + 1 => sumO f k i + (if i = k then 0 else f i)
theorem sumO_le {f g : Nat -> Int} {k : Nat} : ∀ n, (∀ i, i < n -> f i <= g i) -> sumO f k n <= sumO g k n := by
  intro n
  induction n with
  | zero => intro _; exact Int.le_refl _
  | succ n ih =>
    intro h;have h1 := ih (fun i hi => h i (by omega));have h2 := h n (by omega);unfold sumO;split <;> omega
theorem sumO_eq {f g : Nat -> Int} {k : Nat} (n : Nat) (h : ∀ i, i < n -> f i = g i) : sumO f k n = sumO g k n :=
  Int.le_antisymm (sumO_le n (fun i hi => by rw [h i hi]; exact Int.le_refl _)) (sumO_le n (fun i hi => by rw [h i hi]; exact Int.le_refl _))
theorem sumO_zero (k : Nat) : ∀ n, sumO (fun _ => 0) k n = 0 := by
  intro n
  induction n with
  | zero => rfl
  | succ n ih => unfold sumO; rw [ih]; split <;> rfl
theorem sumUp_sumO (l : List S85) (k : Nat) : ∀ n, sumUp l k n = sumO (fun i => takesW (l.getD i z85) (l.getD k z85)) k n := by
  intro n
  induction n with
  | zero => rfl
  | succ n ih => unfold sumUp sumO; rw [ih]
theorem sumO_one (f : Nat -> Int) {k p : Nat} (hp : p ≠ k) : ∀ n, sumO (fun i => f i + (if i = p then 1 else 0)) k n = sumO f k n + (if p < n then 1 else 0) := by
  intro n
  induction n with
  | zero => simp [sumO]
  | succ n ih =>
    unfold sumO;rw [ih];by_cases e : n = p
    · subst e;rw [if_neg (show ¬ n = k from hp), if_neg (show ¬ n = k from hp), if_pos rfl, if_neg (show ¬ n < n by omega), if_pos (show n < n + 1 by omega)];omega
    · rw [if_neg e];by_cases e2 : p < n
      · rw [if_pos e2, if_pos (show p < n + 1 by omega)]; split <;> omega
      · rw [if_neg e2, if_neg (show ¬ p < n + 1 by omega)]; split <;> omega
theorem sumO_mem {k n : Nat} : ∀ (ps : List Nat) (f : Nat -> Int), ps.Nodup -> (∀ p ∈ ps, p < n) -> k ∉ ps -> sumO (fun i => f i + (if i ∈ ps then 1 else 0)) k n = sumO f k n + ps.length := by
  intro ps
  induction ps with
  | nil => intro f _ _ _; simp
  | cons p r ih =>
    intro f hn hl hk;have hn2 := List.nodup_cons.1 hn;have hpk : p ≠ k := fun e => hk (by rw [e]; simp)
    have h2 := ih (fun i => f i + (if i = p then 1 else 0)) hn2.2 (fun x hx => hl x (List.mem_cons_of_mem _ hx)) (fun e => hk (List.mem_cons_of_mem _ e));have h3 := sumO_one f hpk n;rw [if_pos (hl p (by simp))] at h3;rw [h3] at h2;rw [List.length_cons]
    have h4 : sumO (fun i => f i + (if i ∈ p :: r then 1 else 0)) k n = sumO (fun i => f i + (if i = p then 1 else 0) + (if i ∈ r then 1 else 0)) k n := sumO_eq n (fun i _ => by
      by_cases e : i = p
      · subst e;rw [if_pos (by simp), if_pos rfl, if_neg hn2.1];omega
      · by_cases e2 : i ∈ r
        · rw [if_pos (List.mem_cons_of_mem _ e2), if_neg e, if_pos e2]; omega
        · rw [if_neg (by simp [e, e2]), if_neg e, if_neg e2]; omega)
    rw [h4];omega
structure AllIn (m : Int) (ps : List S85) : Prop where
  ok : ∀ k (h : k < ps.length), WOk ps[k]
  one : ∀ k, k < ps.length -> sumUp ps k ps.length < m * roomW (ps.getD k z85)
structure PairsOf (ps : List S85) (l : List S57) : Prop where
  len : l.length = ps.length
  at_ : ∀ k, k < l.length -> (at_ l k).f1.f0 = (ps.getD k z85).f0 /\ (at_ l k).f1.f1 = (ps.getD k z85).f1
structure KSt (m now a ran : Int) (l : List S57) (k : Nat) (C V : Nat -> Int) (u : Int) : Prop where
  kl : k < l.length
  an : 0 <= a
  a0 : a <= now
  due : (at_ l k).f1.f3 = a + (at_ l k).f1.f1
  n1 : now <= a + (at_ l k).f1.f1
  mode : (at_ l k).f1.f4 = 1 \/ ((at_ l k).f1.f4 = 2 /\ (at_ l k).f1.f2 = 0)
  bud : ran + (at_ l k).f1.f2 = (at_ l k).f1.f0
  time : 0 < (at_ l k).f1.f2 -> ran + u = now - a
  u0 : 0 <= u
  u1 : u < (at_ l k).f1.f1 - (at_ l k).f1.f0 + 1
  wk : ∀ i, i < l.length -> Wk (at_ l i).f1.f0 (at_ l i).f1.f1 a now (C i) (at_ l i).f1.f2 (at_ l i).f1.f3
  cn : ∀ i, i < l.length -> C i <= now - a
  v0 : ∀ i, i < l.length -> V i <= C i /\ V i <= u
  sum : sumO V k l.length = m * u
structure TickV (m now : Int) (l ls l' : List S57) (ps : List Nat) : Prop where
  n1 : ls.length = l.length
  n2 : l'.length = l.length
  cbs : ∀ k, k < l.length -> CbsOk (at_ l k).f1
  cbs2 : ∀ k, k < l.length -> CbsOk (at_ l' k).f1
  set : ∀ k, k < l.length -> (at_ ls k).f6 = (at_ l k).f6 /\ ((at_ ls k).f1 = (turn1 now (at_ l k)).f1 \/ ((turn1 now (at_ l k)).f1.f4 = 1 /\ (at_ ls k).f1 = { (turn1 now (at_ l k)).f1 with f4 := 2 }))
  op : ∀ k, k < l.length -> (at_ ls k).f1.f4 ≠ 0 -> now < (at_ ls k).f1.f3
  ah : ∀ k, k < l.length -> (at_ l k).f1.f4 ≠ 0 -> now <= (at_ l k).f1.f3
  win : ∀ k, k < l.length -> (at_ l k).f1.f3 <= now + (at_ l k).f1.f1
  go : ∀ k, k < l.length -> EndV (if k ∈ ps then runV (at_ ls k) else at_ ls k) (at_ l' k)
  nd : ps.Nodup
  mem : ∀ p ∈ ps, p < l.length /\ (at_ ls p).f1.f4 = 1
  full : ∀ k, k < l.length -> (at_ ls k).f1.f4 = 1 -> k ∉ ps -> (ps.length : Int) = m
section
variable {m now a ran u : Int} {l ls l' : List S57} {ps : List Nat} {k : Nat} {C V : Nat -> Int}
theorem turn1_q (now : Int) (x : S57) : (turn1 now x).f1.f0 = x.f1.f0 /\ (turn1 now x).f1.f1 = x.f1.f1 := by
  unfold turn1;split <;> exact ⟨rfl, rfl⟩
theorem TickV.sq (h : TickV m now l ls l' ps) (hk : k < l.length) : (at_ ls k).f1.f0 = (at_ l k).f1.f0 /\ (at_ ls k).f1.f1 = (at_ l k).f1.f1 /\ (at_ ls k).f1.f2 = (turn1 now (at_ l k)).f1.f2 /\ (at_ ls k).f1.f3 = (turn1 now (at_ l k)).f1.f3 := by
  have h1 := turn1_q now (at_ l k);rcases (h.set k hk).2 with e | ⟨_, e⟩
  · rw [e]; exact ⟨h1.1, h1.2, rfl, rfl⟩
  · rw [e]; exact ⟨h1.1, h1.2, rfl, rfl⟩
theorem TickV.q2 (h : TickV m now l ls l' ps) (hk : k < l.length) : (at_ l' k).f1.f0 = (at_ l k).f1.f0 /\ (at_ l' k).f1.f1 = (at_ l k).f1.f1 /\ (at_ l' k).f1.f2 = (at_ ls k).f1.f2 - (if k ∈ ps then 1 else 0) /\ (at_ l' k).f1.f3 = (at_ ls k).f1.f3 /\ (at_ l' k).f6 = (at_ ls k).f6 + (if k ∈ ps then 1 else 0) := by
  have h1 := h.sq hk;have h2 := h.go k hk;by_cases hp : k ∈ ps
  · rw [if_pos hp] at h2 |-;refine ⟨?_, ?_, ?_, ?_, h2.1⟩
    all_goals
      rcases h2.2 with e | e
      · first | (rw [e]; done) | (rw [e]; first | exact h1.1 | exact h1.2.1 | rfl)
      · first | (rw [e]; done) | (rw [e]; first | exact h1.1 | exact h1.2.1 | rfl)
  · rw [if_neg hp] at h2 |-;rw [Int.sub_zero, Int.add_zero];refine ⟨?_, ?_, ?_, ?_, h2.1⟩
    all_goals
      rcases h2.2 with e | e
      · first | (rw [e]; done) | (rw [e]; first | exact h1.1 | exact h1.2.1 | rfl)
      · first | (rw [e]; done) | (rw [e]; first | exact h1.1 | exact h1.2.1 | rfl)
theorem TickV.wkS (h : TickV m now l ls l' ps) {i : Nat} (hi : i < l.length) {c : Int} (hw : Wk (at_ l i).f1.f0 (at_ l i).f1.f1 a now c (at_ l i).f1.f2 (at_ l i).f1.f3) : Wk (at_ ls i).f1.f0 (at_ ls i).f1.f1 a now c (at_ ls i).f1.f2 (at_ ls i).f1.f3 := by
  obtain ⟨e1, e2, e3, e4⟩ := h.sq hi;rw [e1, e2, e3, e4];have hc := h.cbs i hi;have hq := hc.q1;have hp := hc.qp;unfold turn1;by_cases ht : turnsB now (at_ l i) = true
  · rw [if_pos ht];unfold turnsB at ht;simp only [Bool.and_eq_true, decide_eq_true_eq] at ht;obtain ⟨⟨hm, h3⟩, hd⟩ := ht;have hu := upT_win (t := now) (d := (at_ l i).f1.f3) (p := (at_ l i).f1.f1) (by omega) hd;show Wk _ _ a now c (at_ l i).f1.f0 (upT now (at_ l i).f1.f3 (at_ l i).f1.f1);refine hw.turn hq hp hd ?_ hu.1 hu.2;unfold upT;have h5 : 0 <= (now - (at_ l i).f1.f3) / (at_ l i).f1.f1 := Int.ediv_nonneg (by omega) (by omega);have h6 : 0 <= (now - (at_ l i).f1.f3) / (at_ l i).f1.f1 * (at_ l i).f1.f1 := Int.mul_nonneg h5 (by omega);rw [Int.add_mul, Int.one_mul];omega
  · rw [if_neg ht]; exact hw
theorem TickV.winS (h : TickV m now l ls l' ps) {i : Nat} (hi : i < l.length) : (at_ ls i).f1.f3 <= now + (at_ ls i).f1.f1 /\ 0 <= (at_ ls i).f1.f2 /\ (at_ ls i).f1.f2 <= (at_ ls i).f1.f0 := by
  obtain ⟨e1, e2, e3, e4⟩ := h.sq hi;rw [e1, e2, e3, e4];have hc := h.cbs i hi;have hq := hc.q1;have hp := hc.qp;have hb := hc.b0;have hb2 := hc.bq;have hw := h.win i hi;unfold turn1;by_cases ht : turnsB now (at_ l i) = true
  · rw [if_pos ht];unfold turnsB at ht;simp only [Bool.and_eq_true, decide_eq_true_eq] at ht;have hu := upT_win (t := now) (d := (at_ l i).f1.f3) (p := (at_ l i).f1.f1) (by omega) ht.2;exact ⟨hu.2, by show 0 <= (at_ l i).f1.f0; omega, Int.le_refl _⟩
  · rw [if_neg ht]; exact ⟨hw, hb, hb2⟩
theorem TickV.wkG (h : TickV m now l ls l' ps) {i : Nat} (hi : i < l.length) {c : Int} (hw : Wk (at_ ls i).f1.f0 (at_ ls i).f1.f1 a now c (at_ ls i).f1.f2 (at_ ls i).f1.f3) : Wk (at_ l' i).f1.f0 (at_ l' i).f1.f1 a (now + 1) (c + (if i ∈ ps then 1 else 0)) (at_ l' i).f1.f2 (at_ l' i).f1.f3 := by
  obtain ⟨e1, e2, e3, e4, _⟩ := h.q2 hi;have hs := h.sq hi;have hc := h.cbs i hi;have hw2 := h.winS hi;rw [e1, e2, e3, e4, <- hs.1, <- hs.2.1];have hq := hc.q1;have hp := hc.qp;rw [<- hs.1] at hq hp;rw [<- hs.2.1] at hp;by_cases hps : i ∈ ps
  · rw [if_pos hps];have hm := (h.mem i hps).2;have hbl : (at_ l' i).f1.f2 = (at_ ls i).f1.f2 - 1 := by rw [e3, if_pos hps]
    have hb2 := (h.cbs2 i hi).b0;exact hw.run hq hp (by omega) (h.op i hi (by rw [hm]; decide))
  · rw [if_neg hps, Int.add_zero, Int.sub_zero];exact hw.idle hq hp hw2.2.1
theorem TickV.win' (h : TickV m now l ls l' ps) {i : Nat} (hi : i < l.length) : (at_ l' i).f1.f3 <= now + 1 + (at_ l' i).f1.f1 := by
  obtain ⟨e1, e2, e3, e4, _⟩ := h.q2 hi;have hs := h.sq hi;have hw2 := h.winS hi;rw [e4, e2, <- hs.2.1];omega
theorem TickV.begin (h : TickV m now l ls l' ps) (hk : k < l.length) (hn : 0 <= now) (h1 : (at_ ls k).f1.f4 = 1) (h2 : (at_ ls k).f1.f3 - now = (at_ ls k).f1.f1) (h3 : (at_ ls k).f1.f2 = (at_ ls k).f1.f0) : KSt m now now 0 ls k (fun _ => 0) (fun _ => 0) 0 := by
  have hs := h.sq hk;have hc := h.cbs k hk;have hq := hc.q1;have hp := hc.qp;rw [<- hs.1] at hq hp;rw [<- hs.2.1] at hp
  exact { kl := by rw [h.n1]; exact hk
          an := hn
          a0 := Int.le_refl _
          due := by omega
          n1 := by omega
          mode := .inl h1
          bud := by omega
          time := fun _ => by omega
          u0 := Int.le_refl _
          u1 := by omega
          wk := fun i hi => by
            rw [h.n1] at hi;have hw := h.winS hi;have hs := h.sq hi;have hc := h.cbs i hi;have hq := hc.q1;have hp := hc.qp;exact Wk.new (by omega) (by omega) hw.2.2 hw.1
          cn := fun i _ => by omega
          v0 := fun i _ => ⟨Int.le_refl _, Int.le_refl _⟩
          sum := by rw [sumO_zero, Int.mul_zero] }
theorem TickV.keep (h : TickV m now l ls l' ps) (hK : KSt m now a ran l k C V u) : ((at_ ls k).f1.f4 = 1 /\ (at_ ls k).f1.f3 - now = (at_ ls k).f1.f1 /\ (at_ ls k).f1.f2 = (at_ ls k).f1.f0) \/ ((at_ ls k).f1.f4 = 2 /\ 0 < (at_ ls k).f1.f2) \/ KSt m now a ran ls k C V u := by
  have hk := hK.kl;have hc := h.cbs k hk;have hq := hc.q1;have hp := hc.qp;have hmo := hK.mode;have hm0 : (at_ l k).f1.f4 ≠ 0 := by rcases hmo with e | e <;> omega
  have hset := (h.set k hk).2;by_cases ht : turnsB now (at_ l k) = true
  · have htb := ht;unfold turnsB at htb;simp only [Bool.and_eq_true, decide_eq_true_eq] at htb;have hah := h.ah k hk hm0;have hd : (at_ l k).f1.f3 = now := by omega
    have e1 : (turn1 now (at_ l k)).f1 = turnS (at_ l k).f1 now := by unfold turn1; rw [if_pos ht]
    have e2 : (turnS (at_ l k).f1 now).f2 = (at_ l k).f1.f0 := rfl
    have e3 : (turnS (at_ l k).f1 now).f3 = now + (at_ l k).f1.f1 := by
      show upT now (at_ l k).f1.f3 (at_ l k).f1.f1 = _;rw [hd];unfold upT;rw [Int.sub_self, Int.zero_ediv, Int.zero_add, Int.one_mul]
    have e4 : (turnS (at_ l k).f1 now).f4 = 1 := by
      show (if (at_ l k).f1.f0 = 0 then (2 : Int) else 1) = 1;rw [if_neg (by omega)]
    have e5 : (turnS (at_ l k).f1 now).f0 = (at_ l k).f1.f0 := rfl;have e6 : (turnS (at_ l k).f1 now).f1 = (at_ l k).f1.f1 := rfl;rw [e1] at hset;rcases hset with e | ⟨_, e⟩
    · left; rw [e]; exact ⟨e4, by rw [e3, e6]; omega, by rw [e2, e5]⟩
    · right; left;rw [e];exact ⟨rfl, by show 0 < (turnS (at_ l k).f1 now).f2; rw [e2]; omega⟩
  · have e1 : turn1 now (at_ l k) = at_ l k := by unfold turn1; rw [if_neg ht]
    rw [e1] at hset;rcases hset with e | ⟨hm, e⟩
    · right; right
      exact { kl := by rw [h.n1]; exact hk
              an := hK.an
              a0 := hK.a0
              due := by rw [e]; exact hK.due
              n1 := by rw [e]; exact hK.n1
              mode := by rw [e]; exact hK.mode
              bud := by rw [e]; exact hK.bud
              time := by rw [e]; exact hK.time
              u0 := hK.u0
              u1 := by rw [e]; exact hK.u1
              wk := fun i hi => by rw [h.n1] at hi; exact h.wkS hi (hK.wk i hi)
              cn := fun i hi => hK.cn i (by rw [<- h.n1]; exact hi)
              v0 := fun i hi => hK.v0 i (by rw [<- h.n1]; exact hi)
              sum := by rw [h.n1]; exact hK.sum }
    · right; left;rw [e];exact ⟨rfl, hc.mb hm⟩
theorem TickV.next (h : TickV m now l ls l' ps) {pr : List S85} (hA : AllIn m pr) (hP : PairsOf pr l) (hK : KSt m now a ran ls k C V u) (hy : (at_ l' k).f1.f4 ≠ 0) : ∃ C' V' u', KSt m (now + 1) a (ran + if k ∈ ps then 1 else 0) l' k C' V' u' := by
  have hk : k < l.length := by have := hK.kl; rw [h.n1] at this; exact this
  have hs := h.sq hk;have hc := h.cbs k hk;have hq := hc.q1;have hp := hc.qp;rw [<- hs.1] at hq hp;rw [<- hs.2.1] at hp;obtain ⟨e1, e2, e3, e4, e6⟩ := h.q2 hk;rw [<- hs.1] at e1;rw [<- hs.2.1] at e2;have hmo := hK.mode;have hm0 : (at_ ls k).f1.f4 ≠ 0 := by rcases hmo with e | e <;> omega
  have hop := h.op k hk hm0;have hdue := hK.due;have ha0 := hK.a0
  have hwk : ∀ i, i < l'.length -> Wk (at_ l' i).f1.f0 (at_ l' i).f1.f1 a (now + 1) (C i + if i ∈ ps then 1 else 0) (at_ l' i).f1.f2 (at_ l' i).f1.f3 := fun i hi => by
    rw [h.n2] at hi;exact h.wkG hi (hK.wk i (by rw [h.n1]; exact hi))
  have hcn : ∀ i, i < l'.length -> (C i + if i ∈ ps then 1 else 0) <= now + 1 - a := fun i hi => by
    rw [h.n2] at hi;have := hK.cn i (by rw [h.n1]; exact hi);split <;> omega
  have hkl' : k < l'.length := by rw [h.n2]; exact hk
  have hge := h.go k hk;by_cases hps : k ∈ ps
  · rw [if_pos hps] at hge e3 |-;have hm1 := (h.mem k hps).2
    have ef : (at_ l' k).f1 = useS (at_ ls k).f1 1 := by
      rcases hge.2 with e | e
      · exact e
      · exact absurd (by rw [e]) hy
    have em : (at_ l' k).f1.f4 = if (at_ ls k).f1.f2 - 1 = 0 then 2 else 1 := by rw [ef]; rfl
    have hbud := hK.bud;have hwS := h.winS hk;have hb1 := (h.cbs2 k hk).b0;refine ⟨_, V, u, { kl := hkl', an := hK.an, a0 := by omega, due := by omega, n1 := by omega, mode := ?_, bud := by omega, time := fun hb => ?_, u0 := hK.u0, u1 := by rw [e1, e2]; exact hK.u1, wk := hwk, cn := hcn, v0 := fun i hi => ?_, sum := ?_ }⟩
    · rw [em, e3];by_cases h0 : (at_ ls k).f1.f2 - 1 = 0
      · rw [if_pos h0]; exact .inr ⟨rfl, h0⟩
      · rw [if_neg h0]; exact .inl rfl
    · have := hK.time (by omega);omega
    · rw [h.n2] at hi;have := hK.v0 i (by rw [h.n1]; exact hi);refine ⟨?_, this.2⟩;split <;> omega
    · have := hK.sum;rw [h.n1] at this;rw [h.n2];exact this
  · rw [if_neg hps] at hge e3 |-;rw [Int.sub_zero] at e3;rw [Int.add_zero]
    have ef : (at_ l' k).f1 = (at_ ls k).f1 := by
      rcases hge.2 with e | e
      · exact e
      · exact absurd (by rw [e]) hy
    have hbud := hK.bud;rcases hmo with hm1 | ⟨hm2, hb0⟩
    · -- it was ready, and all processors were taken by others
      have hfull := h.full k hk hm1 hps;have hb := hc.mb
      have hbS : 0 < (at_ ls k).f1.f2 := by
        rcases (h.set k hk).2 with e | ⟨_, e⟩
        · rw [<- ef];exact (h.cbs2 k hk).mb (by rw [ef]; exact hm1)
        · rw [<- ef];exact (h.cbs2 k hk).mb (by rw [ef]; exact hm1)
      have htime := hK.time hbS
      have hv : ∀ i, i < l'.length -> (V i + if i ∈ ps then 1 else 0) <= (C i + if i ∈ ps then 1 else 0) /\ (V i + if i ∈ ps then 1 else 0) <= u + 1 := fun i hi => by
        rw [h.n2] at hi;have := hK.v0 i (by rw [h.n1]; exact hi);split <;> omega
      have hsum : sumO (fun i => V i + if i ∈ ps then 1 else 0) k l'.length = m * (u + 1) := by
        rw [sumO_mem ps V h.nd (fun p hp => by rw [h.n2]; exact (h.mem p hp).1) hps, h.n2];have := hK.sum;rw [h.n1] at this;rw [this, hfull, Int.mul_add, Int.mul_one]
      have hu : u + 1 < (at_ ls k).f1.f1 - (at_ ls k).f1.f0 + 1 := by
        refine Int.not_le.1 (fun hle => ?_);have hu1 := hK.u1;have hroom : u + 1 = (at_ ls k).f1.f1 - (at_ ls k).f1.f0 + 1 := by omega
        have hkp : k < pr.length := by rw [<- hP.len]; exact hk
        have hpk := hP.at_ k hk;rw [<- hs.1, <- hs.2.1] at hpk;have hr : roomW (pr.getD k z85) = u + 1 := by unfold roomW; rw [<- hpk.1, <- hpk.2]; omega
        have h1 := hA.one k hkp;rw [hr, sumUp_sumO] at h1
        have h2 : sumO (fun i => V i + if i ∈ ps then 1 else 0) k pr.length <= sumO (fun i => takesW (pr.getD i z85) (pr.getD k z85)) k pr.length := sumO_le _ (fun i hi => by
          have hil : i < l.length := by rw [hP.len]; exact hi
          have hil' : i < l'.length := by rw [h.n2]; exact hil
          have h3 := hv i hil';have h4 := (hwk i hil').most (h.cbs2 i hil).q1 (h.cbs2 i hil).qp (h.cbs2 i hil).b0 (hcn i hil');have hpi := hP.at_ i hil;have hqi := h.q2 hil;rw [hqi.1, hqi.2.1, hpi.1, hpi.2] at h4;have hwi := hA.ok i hi;have e : pr.getD i z85 = pr[i] := by simp [hi]
          rw [<- e] at hwi;have h5 : (C i + if i ∈ ps then 1 else 0) <= workW (pr.getD i z85) (now + 1 - a) := h4;have h6 := workW_mono hwi (n := now + 1 - a) (n' := (pr.getD k z85).f1) (by omega) (by rw [<- hpk.2]; omega);unfold takesW;rw [hr];omega)
        rw [<- hP.len, <- h.n2, hsum] at h2;rw [<- hP.len, <- h.n2] at h1;omega
      exact ⟨_, _, u + 1, { kl := hkl', an := hK.an, a0 := by omega, due := by omega, n1 := by omega, mode := by rw [ef]; exact .inl hm1, bud := by omega, time := fun _ => by omega, u0 := by have := hK.u0; omega, u1 := by rw [e1, e2]; exact hu, wk := hwk, cn := hcn, v0 := hv, sum := hsum }⟩
    · have hv0 : ∀ i, i < l'.length -> V i <= (C i + if i ∈ ps then 1 else 0) /\ V i <= u := fun i hi => by
        rw [h.n2] at hi;have := hK.v0 i (by rw [h.n1]; exact hi);refine ⟨?_, this.2⟩;split <;> omega
      have hsm : sumO V k l'.length = m * u := by
        have := hK.sum;rw [h.n1] at this;rw [h.n2];exact this
      exact ⟨_, V, u, { kl := hkl', an := hK.an, a0 := by omega, due := by omega, n1 := by omega, mode := by rw [ef]; exact .inr ⟨hm2, hb0⟩, bud := by omega, time := fun hb => by omega, u0 := hK.u0, u1 := by rw [e1, e2]; exact hK.u1, wk := hwk, cn := hcn, v0 := hv0, sum := hsm }⟩
theorem KSt.told (h : KSt m now a ran l k C V u) (hc : CbsOk (at_ l k).f1) : (now = a + (at_ l k).f1.f1 -> ran = (at_ l k).f1.f0) /\ ran <= (at_ l k).f1.f0 := by
  have h1 := h.bud;have h2 := hc.b0;refine ⟨fun e => ?_, by omega⟩;by_cases hb : 0 < (at_ l k).f1.f2
  · have h3 := h.time hb;have h4 := h.u1;omega
  · omega
end
end Go.Proofs.YtfimkmlgnmaopaaGreat.Top
