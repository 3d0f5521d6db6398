/- Part 9 of what is proved of the functions that the law reaches (contracts of functions, plain laws): no condition but those that each theorem names. -/
import Derived.Test.YtfimkmlgnmaopaaGreatKA8
namespace Go.Proofs.YtfimkmlgnmaopaaGreat.Top
open Go.RowKit Go.Proofs.YtfimkmlgnmaopaaGreatW.PrintWords Go.Proofs.YtfimkmlgnmaopaaGreatW.PrintLast Go.Proofs.YtfimkmlgnmaopaaGreatW.PrintMore Go.Proofs.YtfimkmlgnmaopaaGreat.PTopNames
set_option linter.unusedVariables false
set_option linter.unusedSimpArgs false
def srelw.T4 : Bool × List (List Nat × List Nat) := (true, [([], []), ([0], [0]), ([1], [1]), ([2], [2]), ([], []), ([4], [4]), ([], []), ([3, 5, 6], [3, 5, 6]), ([7], [7]), ([8], [8]), ([8], [8]), ([8], [8]), ([], []), ([12, 9, 7, 0, 1, 2, 3, 4, 5, 6, 7, 8, 9, 12], [9, 12]), ([10, 13, 0, 1, 2, 3, 4, 5, 6, 7, 8, 9, 10, 12, 13], [10]), ([11, 14, 0, 1, 2, 3, 4, 5, 6, 7, 8, 9, 10, 11, 12, 13, 14], [11])])
def srelw.B4 : List Nat := [0, 1, 3, 7, 0, 16, 0, 127, 255, 511, 511, 511, 0, 5119, 14335, 32767]
theorem srelw.tab4 : rtab .any (opsOf Tryz.f11 4) = srelw.T4 := by kernel_rfl
theorem srelw.bits4 : waitsOk srelw.T4.2 srelw.B4 = true := by kernel_rfl
structure RelS (M now : Int) (l : List S57) (q : List S63) (B : Bd) (i : Nat) (x : S57) (P : List S72) (w : World) (s : Nat) (A' : Option Addr) (A2' : Option Addr) (v : Value) (w' : World) : Prop where
  R : ∃ F B', RdF w' F B' A' (l.set i (relX now P x)) A2' q ∧ (∀ b, B'.G b → (B.G b ∨ w.heap.size ≤ b) ∧ b ≠ s) ∧ B'.n ≤ w'.heap.size ∧ (∀ b, F b → w.heap.size ≤ b ∧ b < w'.heap.size ∧ v.ownBlock ≠ some b ∧ b ≠ s) ∧ (∀ b, v.ownBlock = some b → ¬ B'.G b)
  E : (Kd.raw 4).R 67 w' w.heap.size (fun _ => True) v ((relE now x).map Ev.cells)
  vs : v.ownBlock ≠ some s
  Z : w'.heap[s]? = some (.cells #[.int .i64 0, .int .i64 0, .slice none 0 0, .slice none 0 0, .slice none 0 0] 47 (0, 0))
  Bl : Below w.heap.size w w'
  sl : w.heap.size ≤ s
section
variable {M now : Int} {l : List S57} {q : List S63} {B : Bd} {i : Nat} {x : S57} {P : List S72} {w w1 : World} {A' A2' : Option Addr} {v : Value}
theorem RelS.after (h : RelW M now l q B i x P w A' A2' v w1) (hB : B.n ≤ w.heap.size) : RelS M now l q B i x P w w1.heap.size A' A2' v (w1.alloc (.cells #[.int .i64 0, .int .i64 0, .slice none 0 0, .slice none 0 0, .slice none 0 0] 47)) := by
  obtain ⟨⟨F, B', h1, h2, h3, h4, h5, h6⟩, hE, hBl⟩ := h
  have hb : Below w1.heap.size w1 (w1.alloc (.cells #[.int .i64 0, .int .i64 0, .slice none 0 0, .slice none 0 0, .slice none 0 0] 47)) := below_alloc (Below.refl _ _) _
  have hs := hb.size
  exact ⟨⟨F, B', h1.below hb, fun b hb2 => ⟨h2 b hb2, fun e => by have := B'.lt b hb2; omega⟩, Nat.le_trans h4 hs, fun b hb2 => ⟨(h5 b hb2).1, by have := (h5 b hb2).2.1; omega, (h5 b hb2).2.2, fun e => by have := (h5 b hb2).2.1; omega⟩, h6⟩, Kd.R_below hE hb, fun e => by have := Kd.R_lt hE _ e; omega, blk_new _ _, hBl.trans (hb.mono hBl.size), hBl.size⟩
theorem RelS.ahead (h : RelW M now l q B i x P (w.alloc (.cells #[.int .i64 0, .int .i64 0, .slice none 0 0, .slice none 0 0, .slice none 0 0] 47)) A' A2' v w1) (hB : B.n ≤ w.heap.size) : RelS M now l q B i x P w w.heap.size A' A2' v w1 := by
  obtain ⟨⟨F, B', h1, h2, h3, h4, h5, h6⟩, hE, hBl⟩ := h
  have hb : Below w.heap.size w (w.alloc (.cells #[.int .i64 0, .int .i64 0, .slice none 0 0, .slice none 0 0, .slice none 0 0] 47)) := below_alloc (Below.refl _ _) _
  have hs : (w.alloc (.cells #[.int .i64 0, .int .i64 0, .slice none 0 0, .slice none 0 0, .slice none 0 0] 47)).heap.size = w.heap.size + 1 := World.size_alloc _ _
  refine ⟨⟨F, B', h1, fun b hb2 => ⟨(h2 b hb2).imp (fun h => h) (fun h => by omega), fun e => ?_⟩, h4, fun b hb2 => ⟨by have := (h5 b hb2).1; omega, (h5 b hb2).2.1, (h5 b hb2).2.2, fun e => by have := (h5 b hb2).1; omega⟩, h6⟩, Kd.R_lower hE (by omega), fun e => by have := Kd.R_base hE _ e; omega, blk_below (blk_new _ _) hBl, hb.trans (hBl.mono hb.size), Nat.le_refl _⟩
  rcases h2 b hb2 with h | h
  · have := B.lt b h; omega
  · omega
end
theorem relE_few (now : Int) (x : S57) : (relE now x).length ≤ 2 := by
  unfold relE
  split <;> simp
set_option maxHeartbeats 4000000 in
set_option maxRecDepth 100000 in
theorem srel_calls (N : Nat) (lab : Nat → Nat) (M now : Int) (l : List S57) (q : List S63) (nn : Nat) (bk : List S157) (E : List (List Value)) (w : World) (h : SysAt w lab N M now l q nn bk E) (i : Nat) (hi : i < l.length) (hin : i < nn) (hid : l[i].f0 = (i : Int) + 1) (hk : RelOk now l q i hi) (hEl : E.length ≤ 10000000) (hqj : ∀ i (h : i < q.length), q[i].f2.length ≤ 100000) (Ap : Option Addr) (cp : Nat) (P : List S72) (hP : Kd.C k72 w Ap P.length P) :
    Calls Tryz.prog 11 #[.pointer (some ⟨N, 0, none⟩), .int .u32 i, .slice Ap P.length cp] w fun e w' =>
      (relC q.length P l[i] ≠ 0 → (∃ p, e = .returned (.tuple #[.int .i64 0, .iface 111 p])) ∧ Below w.heap.size w w') ∧
      (relC q.length P l[i] = 0 → e = .returned (.tuple #[.int .i64 (l[i].f5 + 1), .nilIface]) ∧ (∃ lab', SysAt w' lab' N M now (l.set i (relX now P l[i])) q nn bk (E ++ (relE now l[i]).map Ev.cells) ∧ Grew w lab lab') ∧ Turn w w' (fun b => lab b ≠ 0)) := by
  obtain ⟨r, h⟩ := h
  have hblk := h.blk
  have hev := h.ev
  have DS := fun wx (hb : Below w.heap.size w wx) => sfind_calls N r.Nn r.Ns nn M now r.A l r.c r.A2 q r.c2 r.A4 r.c4 (.pointer (some ⟨r.Nb, 0, none⟩)) r.a7 (.slice r.AE r.nE r.cE) r.B i hi wx (blk_below hblk hb) (h.tab.below hb) hin (Nat.le_trans h.bn hb.size) (h.mach.below hb).now hk.sorted hid (by have := hk.len; omega) hk.qlen (fun k h => by have := hk.jobs k h; omega) hqj
  have DR := fun wx (hb : Below w.heap.size w wx) => rel_calls M now r.A l r.c r.A2 q r.c2 r.A4 r.c4 r.B i hi Ap cp P wx (Nat.le_trans h.bn hb.size) (h.mach.below hb).now (Kd.C_below hP hb) hk
  have DE := fun wx (id c : Int) (hc : c ≠ 0) => fault_calls (.string { data := #[114, 101, 108, 101, 97, 115, 101] }) ⟨_, rfl⟩ id c wx hc
  obtain ⟨x, hx⟩ : ∃ x, x = l[i] := ⟨_, rfl⟩
  rw [← hx] at DS DR hid
  rw [← hx]
  obtain ⟨C, hC⟩ : ∃ C, C = relC q.length P x := ⟨_, rfl⟩
  unfold RelP at DR
  rw [← hC] at DR
  rw [← hC]
  have HC := Lib.hid hC
  have HID := Lib.hid hid
  have HX := Lib.hid h
  have HN := Lib.hid hblk
  have HE := Lib.hid hev
  have hn0 : 0 ≤ x.f5 := by rw [hx]; exact hk.num0
  have hn1 : x.f5 ≤ 1152921504606846976 := by rw [hx]; exact hk.num1
  have hwi : IntKind.i64.wrap (i : Int) = (i : Int) := by have := hk.len; rw [i64_w]; unfold Go.RowKit.wrap64; omega
  have hws5 : IntKind.i64.wrap (x.f5 + 1) = x.f5 + 1 := by rw [i64_w]; unfold Go.RowKit.wrap64; omega
  have HBN := Lib.hid h.bn
  have HL6 : Hid (∀ b, (Value.slice r.AE r.nE r.cE).ownBlock = some b → b ≠ N) := Lib.hid (fun b hb e => by have := h.l6 b hb; have := h.l1; subst e; omega)
  have HBE := Lib.hid h.be
  have HLX : Hid (l[i] = x) := Lib.hid hx.symm
  obtain ⟨Nb, Nn, Ns, A, c, A2, c2, A4, c4, a7, vB, AE, nE, cE, bB, bE, B, F0⟩ := r
  dsimp only at *
  unfold stV servV at *
  clear hblk hev hP hk hqj hC hx h hid
  go_enter Tryz.func11, Tryz.ntmps11
  go_upto_region 2 with (go_at_call 23; (with_reducible refine (DS _ (Below.refl _ _)).mono ?_); rintro e w1 ⟨p, rfl, hB1⟩; have HB1 := Lib.hid hB1; have HV1 := Lib.hid (blk_new w1 (.cells #[.int .i64 x.f0, .int .i64 x.f1.f0, .int .i64 x.f1.f1, .int .i64 x.f1.f2, .int .i64 x.f1.f3, .int .i64 x.f1.f4, .slice p.1 x.f2.length p.2, .int .i64 x.f3, .int .i64 x.f4, .int .i64 x.f5, .int .i64 x.f6] 57)); have HBV := Lib.hid (below_alloc (Below.refl w1.heap.size w1) (.cells #[.int .i64 x.f0, .int .i64 x.f1.f0, .int .i64 x.f1.f1, .int .i64 x.f1.f2, .int .i64 x.f1.f3, .int .i64 x.f1.f4, .slice p.1 x.f2.length p.2, .int .i64 x.f3, .int .i64 x.f4, .int .i64 x.f5, .int .i64 x.f6] 57)); skip; clear hB1)
  clear DS
  generalize hw2 : World.alloc _ _ = w2 at *
  have HZ2 := HV1
  have HB2 := Lib.hid (HB1.out.trans (HBV.out.mono HB1.out.size))
  have HN2 := Lib.hid (blk_below HN.out HB2.out)
  have hN2 : N < w.heap.size := blk_lt HN.out
  have h12 : w.heap.size ≤ w1.heap.size := HB1.out.size
  clear hw2 HV1 HBV
  by_cases hC0 : C = 0
  · subst hC0
    have DR := fun wx (hb : Below w.heap.size w wx) => (DR wx hb).mono (fun e w' h => h.2 rfl)
    go_upto_region 4 with fail
    refine start_ (n := 16) (S := fun w' => Hid (Below w2.heap.size w2 w')) (ds := [13]) #[false, false, false, false, false, false, false, false, false, false, false, false, false, false, false, false] (by kernel_rfl) rfl rfl ((Lib.hid (below_drew (Below.refl _ _)))) (fun hHeld => ?_)
    refine with_tabW srelw.tab4 srelw.bits4 (fun HT_ HW_ => ?_)
    have hbd : Hid (Below w2.heap.size w2 w2.drew) := Lib.hid ⟨rfl, rfl, rfl, Nat.le_refl _, fun _ _ => rfl⟩
    have hsd : w2.heap.size = w2.drew.heap.size := rfl
    generalize hwd : w2.drew = wd at *
    clear hwd
    refine pst (i := 0) (N := some 25) HT_ (h := ?_)
    refine pst (i := 1) (N := some 26) HT_ (h := ?_)
    refine pst (i := 2) (N := some 27) HT_ (h := ?_)
    refine pst (i := 4) (N := some 29) HT_ (h := ?_)
    refine pst (i := 6) (N := some 31) HT_ (h := ?_)
    refine tst (i := 3) (N := some 28) HT_ HW_ hHeld (hy := by (intro w' s0; have y0 : w'.cell? ⟨N, 0, none⟩ = some (.int .i64 M) := (blk_cell (blk_below HN2.out s0.out) 0).trans rfl; have y1 : w'.cell? ⟨N, 1, none⟩ = some (.int .i64 now) := (blk_cell (blk_below HN2.out s0.out) 1).trans rfl; have y2 : w'.cell? ⟨N, 2, none⟩ = some (.slice A l.length c) := (blk_cell (blk_below HN2.out s0.out) 2).trans rfl; have y3 : w'.cell? ⟨N, 3, none⟩ = some (.slice A2 q.length c2) := (blk_cell (blk_below HN2.out s0.out) 3).trans rfl; have y4 : w'.cell? ⟨N, 4, none⟩ = some (.slice A4 0 c4) := (blk_cell (blk_below HN2.out s0.out) 4).trans rfl; have q0 : w'.cell? ⟨w1.heap.size, 0, none⟩ = some (.int .i64 x.f0) := (blk_cell (blk_below HZ2.out s0.out) 0).trans rfl); go_simp; with_reducible rfl) (h := ?_)
    refine tst (i := 5) (N := some 30) HT_ HW_ hHeld (hy := by (intro w' s0; have y0 : w'.cell? ⟨N, 0, none⟩ = some (.int .i64 M) := (blk_cell (blk_below HN2.out s0.out) 0).trans rfl; have y1 : w'.cell? ⟨N, 1, none⟩ = some (.int .i64 now) := (blk_cell (blk_below HN2.out s0.out) 1).trans rfl; have y2 : w'.cell? ⟨N, 2, none⟩ = some (.slice A l.length c) := (blk_cell (blk_below HN2.out s0.out) 2).trans rfl; have y3 : w'.cell? ⟨N, 3, none⟩ = some (.slice A2 q.length c2) := (blk_cell (blk_below HN2.out s0.out) 3).trans rfl; have y4 : w'.cell? ⟨N, 4, none⟩ = some (.slice A4 0 c4) := (blk_cell (blk_below HN2.out s0.out) 4).trans rfl; have q0 : w'.cell? ⟨w1.heap.size, 0, none⟩ = some (.int .i64 x.f0) := (blk_cell (blk_below HZ2.out s0.out) 0).trans rfl); go_simp; with_reducible rfl) (h := ?_)
    refine join_ (σ := Nat × Option Addr × Nat × Option Addr × Nat × Option Addr × Nat × Value) 3 #[true, true, true, true, true, true, true, true, true, true, true, true, true, false, false, false] (fun s => [(32, .tuple #[.agg #[.int .i64 M, .int .i64 now, .slice s.2.1 l.length s.2.2.1, .slice s.2.2.2.1 q.length s.2.2.2.2.1, .slice s.2.2.2.2.2.1 0 s.2.2.2.2.2.2.1], s.2.2.2.2.2.2.2, .int .i64 0]), (24, .tuple #[.agg #[.int .i64 M, .int .i64 now, .slice s.2.1 l.length s.2.2.1, .slice s.2.2.2.1 q.length s.2.2.2.2.1, .slice s.2.2.2.2.2.1 0 s.2.2.2.2.2.2.1], s.2.2.2.2.2.2.2, .int .i64 0]), (33, .agg #[.int .i64 M, .int .i64 now, .slice s.2.1 l.length s.2.2.1, .slice s.2.2.2.1 q.length s.2.2.2.2.1, .slice s.2.2.2.2.2.1 0 s.2.2.2.2.2.2.1]), (34, s.2.2.2.2.2.2.2), (35, .int .i64 0), (10, .pointer (some ⟨s.1, 0, none⟩))]) (fun s w' => Hid (RelS M now l q B i x P wd s.1 s.2.1 s.2.2.2.1 s.2.2.2.2.2.2.2 w') ∧ Hid (Below w2.heap.size w2 w')) ?_ ?_
    rotate_left
    · intro hCont
      refine two_ (i := 7) (j := 12) (Ni := some 32) (Nj := some 10) #[true, true, true, true, true, true, true, true, false, false, false, false, false, false, false, false] #[true, true, true, true, true, true, true, false, false, false, false, false, true, false, false, false] rfl rfl rfl rfl (two_of HT_.out (by kernel_rfl)) (by decide) (by decide) (fun K hK => ?_) (fun K hK => ?_)
      · skip
        refine goes_ Tryz.func24 (by kernel_rfl) rfl #[.agg #[.int .i64 M, .int .i64 now, .slice A l.length c, .slice A2 q.length c2, .slice A4 0 c4], .int .i64 x.f0, .slice Ap P.length cp] (by rfl) rfl rfl (by simp only [List.map_toArray, List.map_cons, List.map_nil]; rfl) ?_
        with_reducible refine (DR _ (HB2.out.trans (hHeld.out.mono HB2.out.size))).mono ?_
        rintro e w15 ⟨A5, c5, A6, c6, A7, c7, v5, rfl, hW⟩
        refine ⟨_, rfl, ?_⟩
        refine hK.out _ _ ((Lib.hid (hHeld.out.trans (hW.Bl.mono hHeld.out.size)))) (fun hHeld => ?_)
        clear hK K
        refine norm_ (a' := ?_) ?_ ?_
        rotate_left
        · show Act.put _ (some 32) _ = _
          simp only [Act.put, List.setIfInBounds_toArray, List.set_cons_zero, List.set_cons_succ, i64_w, i32_w]
          rfl
        refine pst (i := 8) (N := some 24) HT_ (h := ?_)
        refine pst (i := 9) (N := some 33) HT_ (h := ?_)
        refine pst (i := 10) (N := some 34) HT_ (h := ?_)
        refine pst (i := 11) (N := some 35) HT_ (h := ?_)
        refine one_ (i := 12) (N := some 10) #[true, true, true, true, true, true, true, true, true, true, true, true, true, false, false, false] rfl rfl (one_of HT_.out (by kernel_rfl)) (by decide) (fun K hK => ?_)
        refine value_ (w1 := ?_) (v := ?_) (by rfl) rfl ?_ ?_
        rotate_left 2
        · go_simp
          constructor
          · rfl
          · rfl
        refine hK.out _ _ ((Lib.hid (hHeld.out.trans ((below_alloc (Below.refl _ _) _).mono hHeld.out.size)))) (fun hHeld => ?_)
        clear hK K
        refine norm_ (a' := ?_) ?_ ?_
        rotate_left
        · show Act.put _ (some 10) _ = _
          simp only [Act.put, List.setIfInBounds_toArray, List.set_cons_zero, List.set_cons_succ, i64_w, i32_w]
          rfl
        exact norm_ (by simp only [putAll, Act.put, List.setIfInBounds_toArray, List.set_cons_zero, List.set_cons_succ]) (hCont (w15.heap.size, A5, c5, A6, c6, A7, c7, v5) _ ⟨Lib.hid (RelS.after hW (by have := HBN.out; have := HB2.out.size; omega)), hHeld⟩)
      · skip
        refine value_ (w1 := ?_) (v := ?_) (by rfl) rfl ?_ ?_
        rotate_left 2
        · go_simp
          constructor
          · rfl
          · rfl
        refine hK.out _ _ ((Lib.hid (hHeld.out.trans ((below_alloc (Below.refl _ _) _).mono hHeld.out.size)))) (fun hHeld => ?_)
        clear hK K
        refine norm_ (a' := ?_) ?_ ?_
        rotate_left
        · show Act.put _ (some 10) _ = _
          simp only [Act.put, List.setIfInBounds_toArray, List.set_cons_zero, List.set_cons_succ, i64_w, i32_w]
          rfl
        refine one_ (i := 7) (N := some 32) #[true, true, true, true, true, true, true, true, false, false, false, false, true, false, false, false] rfl rfl (one_of HT_.out (by kernel_rfl)) (by decide) (fun K hK => ?_)
        refine goes_ Tryz.func24 (by kernel_rfl) rfl #[.agg #[.int .i64 M, .int .i64 now, .slice A l.length c, .slice A2 q.length c2, .slice A4 0 c4], .int .i64 x.f0, .slice Ap P.length cp] (by rfl) rfl rfl (by simp only [List.map_toArray, List.map_cons, List.map_nil]; rfl) ?_
        with_reducible refine (DR _ (HB2.out.trans (hHeld.out.mono HB2.out.size))).mono ?_
        rintro e w15 ⟨A5, c5, A6, c6, A7, c7, v5, rfl, hW⟩
        refine ⟨_, rfl, ?_⟩
        refine hK.out _ _ ((Lib.hid (hHeld.out.trans (hW.Bl.mono hHeld.out.size)))) (fun hHeld => ?_)
        clear hK K
        refine norm_ (a' := ?_) ?_ ?_
        rotate_left
        · show Act.put _ (some 32) _ = _
          simp only [Act.put, List.setIfInBounds_toArray, List.set_cons_zero, List.set_cons_succ, i64_w, i32_w]
          rfl
        refine pst (i := 8) (N := some 24) HT_ (h := ?_)
        refine pst (i := 9) (N := some 33) HT_ (h := ?_)
        refine pst (i := 10) (N := some 34) HT_ (h := ?_)
        refine pst (i := 11) (N := some 35) HT_ (h := ?_)
        exact norm_ (by simp only [putAll, Act.put, List.setIfInBounds_toArray, List.set_cons_zero, List.set_cons_succ]) (hCont (wd.heap.size, A5, c5, A6, c6, A7, c7, v5) _ ⟨Lib.hid (RelS.ahead hW (by have := HBN.out; have := HB2.out.size; omega)), hHeld⟩)
    rintro ⟨sb, A5, c5, A6, c6, A7, c7, v5⟩ w16 ⟨hS6, hB6⟩
    have hHeld : Hid (Below w2.heap.size w2 w16) := hB6
    refine norm_ (a' := ?_) ?_ ?_
    rotate_left
    · simp only [putAll, Act.put, List.setIfInBounds_toArray, List.set_cons_zero, List.set_cons_succ]
      rfl
    refine last_ (i := 13) (N := none) #[true, true, true, true, true, true, true, true, true, true, true, true, true, true, false, false] rfl rfl (one_of HT_.out (by kernel_rfl)) (by decide) (fun K hK => ?_)
    have z0 := (blk_cell hS6.out.Z 0).trans rfl
    have f0 := blk_frozen hS6.out.Z 0
    have z1 := (blk_cell hS6.out.Z 1).trans rfl
    have f1 := blk_frozen hS6.out.Z 1
    have z2 := (blk_cell hS6.out.Z 2).trans rfl
    have f2 := blk_frozen hS6.out.Z 2
    have z3 := (blk_cell hS6.out.Z 3).trans rfl
    have f3 := blk_frozen hS6.out.Z 3
    have z4 := (blk_cell hS6.out.Z 4).trans rfl
    have f4 := blk_frozen hS6.out.Z 4
    refine skip_ (w1 := ?_) (by rfl) rfl ?_ ?_
    rotate_left
    · go_simp
      rfl
    have HS17 := Lib.hid (blk_put (cs' := #[.int .i64 M, .int .i64 now, .slice A5 l.length c5, .slice A6 q.length c6, .slice A7 0 c7]) (blk_put (blk_put (blk_put (blk_put hS6.out.Z 0 (.int .i64 M) rfl) 1 (.int .i64 now) rfl) 2 (.slice A5 l.length c5) rfl) 3 (.slice A6 q.length c6) rfl) 4 (.slice A7 0 c7) rfl)
    have HT17 := Lib.hid ((((((Turn.refl w16 (fun b => b = sb)).set rfl 0 (.int .i64 M)).set rfl 1 (.int .i64 now)).set rfl 2 (.slice A5 l.length c5)).set rfl 3 (.slice A6 q.length c6)).set rfl 4 (.slice A7 0 c7))
    clear z0 f0 z1 f1 z2 f2 z3 f3 z4 f4
    generalize hws : World.setCell _ _ _ = w17 at *
    clear hws
    refine hK.out _ _ ?_
    clear hK K
    refine pst (i := 14) (N := some 11) HT_ (h := ?_)
    refine pst (i := 15) (N := some 9) HT_ (h := ?_)
    refine done_ (done_of HT_.out (by kernel_rfl)) ?_
    dsimp only at hS6 HS17
    have hsw2 := HB2.out.size
    have hsl := hS6.out.sl
    have hs17 := HT17.out.size
    have hs6 := hB6.out.size
    have HB17 : Hid (Below w2.heap.size w2 w17) := Lib.hid (Turn.below hB6.out HT17.out (fun b e => by omega) hs6)
    have HBw : Hid (Below w.heap.size w w17) := Lib.hid (HB2.out.trans (HB17.out.mono HB2.out.size))
    have HN17 := Lib.hid (blk_below HN2.out HB17.out)
    have HZ17 := Lib.hid (blk_below HZ2.out HB17.out)
    have HE17 := Lib.hid (Kd.R_below HE.out HBw.out)
    have HV17 : Hid ((Kd.raw 4).R 67 w17 wd.heap.size (fun _ => True) v5 ((relE now x).map Ev.cells)) := Lib.hid (raw_turn hS6.out.E HT17.out (fun b hb e => hS6.out.vs (by rw [hb, e])))
    have hev : ((relE now x).map Ev.cells).length ≤ 2 := by rw [List.length_map]; exact relE_few now x
    obtain ⟨es, hes⟩ : ∃ es, es = (relE now x).map Ev.cells := ⟨_, rfl⟩
    rw [← hes] at HV17 hev
    have HES := Lib.hid hes
    clear hes
    have c0 := (blk_cell HS17.out 0).trans rfl
    have c1 := (blk_cell HS17.out 1).trans rfl
    have c2' := (blk_cell HS17.out 2).trans rfl
    have c3 := (blk_cell HS17.out 3).trans rfl
    have c4' := (blk_cell HS17.out 4).trans rfl
    have z0 : w17.cell? ⟨N, 0, none⟩ = some (.int .i64 M) := (blk_cell HN17.out 0).trans rfl
    have z1 : w17.cell? ⟨N, 1, none⟩ = some (.int .i64 now) := (blk_cell HN17.out 1).trans rfl
    have z2 : w17.cell? ⟨N, 2, none⟩ = some (.slice A l.length c) := (blk_cell HN17.out 2).trans rfl
    have z3 : w17.cell? ⟨N, 3, none⟩ = some (.slice A2 q.length c2) := (blk_cell HN17.out 3).trans rfl
    have z4 : w17.cell? ⟨N, 4, none⟩ = some (.slice A4 0 c4) := (blk_cell HN17.out 4).trans rfl
    have f0 := blk_frozen HN17.out 0
    have f1 := blk_frozen HN17.out 1
    have f2 := blk_frozen HN17.out 2
    have f3 := blk_frozen HN17.out 3
    have f4 := blk_frozen HN17.out 4
    go_upto_region 8 with fail
    have HN18 := Lib.hid (blk_put (cs' := sysC M now A5 l.length c5 A6 q.length c6 A7 c7 (.pointer (some ⟨Nb, 0, none⟩)) (.pointer (some ⟨Nn, 0, none⟩)) a7 (.slice AE nE cE)) (blk_put (blk_put (blk_put (blk_put HN17.out 0 (.int .i64 M) rfl) 1 (.int .i64 now) rfl) 2 (.slice A5 l.length c5) rfl) 3 (.slice A6 q.length c6) rfl) 4 (.slice A7 0 c7) rfl)
    have HT18 := Lib.hid ((((((Turn.refl w17 (fun b => b = N)).set rfl 0 (.int .i64 M)).set rfl 1 (.int .i64 now)).set rfl 2 (.slice A5 l.length c5)).set rfl 3 (.slice A6 q.length c6)).set rfl 4 (.slice A7 0 c7))
    generalize hws : World.setCell _ _ _ = w18 at *
    clear hws c0 c1 c2' c3 c4' z0 z1 z2 z3 z4 f0 f1 f2 f3 f4
    have hs18 := HT18.out.size
    have hsw := HBw.out.size
    have HV18 := raw_turn HV17.out HT18.out (fun b hb e => by have := Kd.R_base HV17.out b hb; omega)
    have HE18 := Lib.hid (raw_turn HE17.out HT18.out (fun b hb e => HL6.out b hb e))
    obtain ⟨AV, cV, e5, hcV, hCV⟩ := Kd.R_reads HV18
    have HCV := Lib.hid hCV
    have HV5 := Lib.hid e5
    have x8 : w18.cell? ⟨N, 8, none⟩ = some (.slice AE nE cE) := (blk_cell HN18.out 8).trans rfl
    have hb18 : bE ≤ w18.heap.size := by have := HBE.out; omega
    have HRS := Lib.hid (And.intro hS6.out.R hS6.out.vs)
    rw [e5] at HRS
    subst e5
    clear hCV HV18 hS6 hB6
    go_upto_region 9 with ((with_reducible refine gate_builtin (b := .append) (xs := #[.tmp 50, .tmp 51]) rfl ?_); at_builtin; refine Kd.R_append_rows (Kd.raw 4) (Rr := (Kd.raw 4).K w18) (okp := fun _ => False) (w0 := w18) bE rfl (.tmp 50) (.tmp 51) 48 67 (.agg #[.int .i64 0, .int .i64 0, .int .i64 0, .int .i64 0]) 32 rfl Tryz.underlying48 info67 rfl (by decide) (by omega) (.slice AE nE cE) E es AV es.length cV (fun _ => True) rfl rfl HE18.out ?hC (fun _ _ h => h) (fun _ h => h.elim) (fun _ _ => trivial) (Below.refl _ _) hb18 ?aL ?_; (case hC => exact HCV.out); (case aL => omega); intro v9 w19 hR9 hB9 hg9 hat9; obtain ⟨A9, c9, e9⟩ := Kd.R_slice hR9; rw [List.length_append] at e9; subst e9; have HR9 := Lib.hid hR9; have HT9 := Lib.hid (grown_turn hg9); have HAT9 := Lib.hid hat9; have HN19 := Lib.hid ((HT9.out.block N (by omega) (fun e => HL6.out _ e.symm rfl)).trans HN18.out); have y8 : w19.cell? ⟨N, 8, none⟩ = some (.slice AE nE cE) := ((blk_cell HN19.out 8).trans rfl); have f8 := blk_frozen HN19.out 8; clear hR9 hB9 hg9 hat9 x8)
    have HN20 := Lib.hid (blk_put (cs' := sysC M now A5 l.length c5 A6 q.length c6 A7 c7 (.pointer (some ⟨Nb, 0, none⟩)) (.pointer (some ⟨Nn, 0, none⟩)) a7 (.slice A9 (E.length + es.length) c9)) HN19.out 8 (.slice A9 (E.length + es.length) c9) rfl)
    have HT20 := Lib.hid ((Turn.refl w19 (fun b => b = N)).set rfl 8 (.slice A9 (E.length + es.length) c9))
    generalize hws : World.setCell _ _ _ = w20 at *
    clear hws y8 f8
    have hs19 := HT9.out.size
    have hs20 := HT20.out.size
    have HAEw : Hid (∀ b, (Value.slice AE nE cE).ownBlock = some b → b < w.heap.size) := Lib.hid (fun b e => Kd.R_lt HE.out b e)
    have HT1720 : Hid (Turn w17 w20 (fun b => b = N ∨ some b = (Value.slice AE nE cE).ownBlock)) := Lib.hid (((HT18.out.imp (fun b e => .inl e)).trans (HT9.out.imp (fun b e => .inr e))).trans (HT20.out.imp (fun b e => .inl e)))
    have hz1 : w1.heap.size < w2.heap.size := blk_lt HZ2.out
    have HZ20 := Lib.hid ((HT1720.out.block w1.heap.size (by have := HB17.out.size; omega) (fun e => e.elim (fun e => by omega) (fun e => by have := HAEw.out _ e.symm; omega))).trans HZ17.out)
    have y5 : w20.cell? ⟨w1.heap.size, 9, none⟩ = some (.int .i64 x.f5) := (blk_cell HZ20.out 9).trans rfl
    go_wp2
    go_ret2
    have hT2 : ∀ b, (b = N ∨ some b = (Value.slice AE nE cE).ownBlock) → lab b = 1 ∨ lab b = 6 := fun b e => e.imp (fun e => by rw [e]; exact HX.out.l1) (fun e => HX.out.l6 b e.symm)
    have hTw : Turn w w20 (fun b => b = N ∨ some b = (Value.slice AE nE cE).ownBlock) := (Turn.of_below _ HBw.out).trans HT1720.out
    refine ⟨rfl, ?_, hTw.imp (fun b e => by have := hT2 b e; omega)⟩
    obtain ⟨⟨F, B', h1, h2, h3, h4, h5⟩, hvs⟩ := HRS.out
    have hT16 : Turn w16 w20 (fun b => b = sb ∨ b = N ∨ some b = (Value.slice AE nE cE).ownBlock) := (HT17.out.imp (fun b e => .inl e)).trans (HT1720.out.imp (fun b e => .inr e))
    have hv9 : ∀ b, (Value.slice A9 (E.length + es.length) c9).ownBlock = some b → (Value.slice AE nE cE).ownBlock = some b ∨ w18.heap.size ≤ b := fun b e => by
      rcases HAT9.out with h | ⟨b2, h, hle⟩
      · exact .inl (h ▸ e)
      · rw [h] at e; injection e with e; exact .inr (by omega)
    have hG : ∀ b, B'.G b → b ≠ N ∧ (Value.slice AE nE cE).ownBlock ≠ some b := fun b hb => by
      rcases (h2 b hb).1 with h | h
      · have h8 : lab b = 7 := HX.out.l8 b h
        exact ⟨fun e => by have h9 := HX.out.l1; rw [← e] at h9; omega, fun e => by have h9 := HX.out.l6 b e; omega⟩
      · exact ⟨by omega, fun e => by have := HAEw.out b e; omega⟩
    have hF : ∀ b, F b → b ≠ N ∧ (Value.slice AE nE cE).ownBlock ≠ some b := fun b hb => by
      have := (h4 b hb).1
      exact ⟨by omega, fun e => by have := HAEw.out b e; omega⟩
    have hES := HES.out
    rw [← hES]
    exact HX.out.anew hTw hT2 A5 c5 A6 c6 A7 c7 A9 (E.length + es.length) c9 B' F (by rw [List.length_set]; exact HN20.out) (raw_turn HR9.out HT20.out (fun b hb e => by
      rcases hv9 b hb with h | h
      · exact HL6.out b h e
      · omega)) (h1.keep hT16 (fun b e => by
      rcases e with e | e | e
      · exact ⟨fun h => (h4 b h).2.2.2 e, fun h => (h2 b h).2 e⟩
      · exact ⟨fun h => (hF b h).1 e, fun h => (hG b h).1 e⟩
      · exact ⟨fun h => (hF b h).2 e.symm, fun h => (hG b h).2 e.symm⟩)) (fun b hb => ⟨.inr (by have := (h4 b hb).1; omega), by have := (h4 b hb).2.1; omega, fun e => by
      rcases hv9 b e with h | h
      · exact (hF b hb).2 h
      · have := (h4 b hb).2.1; omega⟩) (by
      rcases HAT9.out with h | ⟨b2, h, hle⟩
      · exact .inl h
      · exact .inr (fun b e => by rw [h] at e; injection e with e; omega)) (fun b hb => ⟨(h2 b hb).1.imp (fun h => h) (fun h => by omega), fun e => by
      rcases hv9 b e with h | h
      · exact (hG b hb).2 h
      · have := B'.lt b hb; omega⟩) (by omega)
  · have gC : (C != 0) = true := by simpa using hC0
    have DR := fun wx (hb : Below w.heap.size w wx) => (DR wx hb).mono (fun e w' h => h.1 hC0)
    go_upto_region 4 with fail
    refine start_ (n := 16) (S := fun w' => Hid (Below w2.heap.size w2 w')) (ds := [13]) #[false, false, false, false, false, false, false, false, false, false, false, false, false, false, false, false] (by kernel_rfl) rfl rfl ((Lib.hid (below_drew (Below.refl _ _)))) (fun hHeld => ?_)
    refine with_tabW srelw.tab4 srelw.bits4 (fun HT_ HW_ => ?_)
    have hbd : Hid (Below w2.heap.size w2 w2.drew) := Lib.hid ⟨rfl, rfl, rfl, Nat.le_refl _, fun _ _ => rfl⟩
    have hsd : w2.heap.size = w2.drew.heap.size := rfl
    generalize hwd : w2.drew = wd at *
    clear hwd
    refine pst (i := 0) (N := some 25) HT_ (h := ?_)
    refine pst (i := 1) (N := some 26) HT_ (h := ?_)
    refine pst (i := 2) (N := some 27) HT_ (h := ?_)
    refine pst (i := 4) (N := some 29) HT_ (h := ?_)
    refine pst (i := 6) (N := some 31) HT_ (h := ?_)
    refine tst (i := 3) (N := some 28) HT_ HW_ hHeld (hy := by (intro w' s0; have y0 : w'.cell? ⟨N, 0, none⟩ = some (.int .i64 M) := (blk_cell (blk_below HN2.out s0.out) 0).trans rfl; have y1 : w'.cell? ⟨N, 1, none⟩ = some (.int .i64 now) := (blk_cell (blk_below HN2.out s0.out) 1).trans rfl; have y2 : w'.cell? ⟨N, 2, none⟩ = some (.slice A l.length c) := (blk_cell (blk_below HN2.out s0.out) 2).trans rfl; have y3 : w'.cell? ⟨N, 3, none⟩ = some (.slice A2 q.length c2) := (blk_cell (blk_below HN2.out s0.out) 3).trans rfl; have y4 : w'.cell? ⟨N, 4, none⟩ = some (.slice A4 0 c4) := (blk_cell (blk_below HN2.out s0.out) 4).trans rfl; have q0 : w'.cell? ⟨w1.heap.size, 0, none⟩ = some (.int .i64 x.f0) := (blk_cell (blk_below HZ2.out s0.out) 0).trans rfl); go_simp; with_reducible rfl) (h := ?_)
    refine tst (i := 5) (N := some 30) HT_ HW_ hHeld (hy := by (intro w' s0; have y0 : w'.cell? ⟨N, 0, none⟩ = some (.int .i64 M) := (blk_cell (blk_below HN2.out s0.out) 0).trans rfl; have y1 : w'.cell? ⟨N, 1, none⟩ = some (.int .i64 now) := (blk_cell (blk_below HN2.out s0.out) 1).trans rfl; have y2 : w'.cell? ⟨N, 2, none⟩ = some (.slice A l.length c) := (blk_cell (blk_below HN2.out s0.out) 2).trans rfl; have y3 : w'.cell? ⟨N, 3, none⟩ = some (.slice A2 q.length c2) := (blk_cell (blk_below HN2.out s0.out) 3).trans rfl; have y4 : w'.cell? ⟨N, 4, none⟩ = some (.slice A4 0 c4) := (blk_cell (blk_below HN2.out s0.out) 4).trans rfl; have q0 : w'.cell? ⟨w1.heap.size, 0, none⟩ = some (.int .i64 x.f0) := (blk_cell (blk_below HZ2.out s0.out) 0).trans rfl); go_simp; with_reducible rfl) (h := ?_)
    refine join_ (σ := Nat) 3 #[true, true, true, true, true, true, true, true, true, true, true, true, true, false, false, false] (fun s => [(32, .tuple #[.agg #[.int .i64 M, .int .i64 now, .slice A l.length c, .slice A2 q.length c2, .slice A4 0 c4], .slice none 0 0, .int .i64 C]), (24, .tuple #[.agg #[.int .i64 M, .int .i64 now, .slice A l.length c, .slice A2 q.length c2, .slice A4 0 c4], .slice none 0 0, .int .i64 C]), (33, .agg #[.int .i64 M, .int .i64 now, .slice A l.length c, .slice A2 q.length c2, .slice A4 0 c4]), (34, .slice none 0 0), (35, .int .i64 C), (10, .pointer (some ⟨s, 0, none⟩))]) (fun s w' => Hid (w'.heap[s]? = some (.cells #[.int .i64 0, .int .i64 0, .slice none 0 0, .slice none 0 0, .slice none 0 0] 47 (0, 0))) ∧ Hid (Below w2.heap.size w2 w') ∧ Hid (w2.heap.size ≤ s)) ?_ ?_
    rotate_left
    · intro hCont
      refine two_ (i := 7) (j := 12) (Ni := some 32) (Nj := some 10) #[true, true, true, true, true, true, true, true, false, false, false, false, false, false, false, false] #[true, true, true, true, true, true, true, false, false, false, false, false, true, false, false, false] rfl rfl rfl rfl (two_of HT_.out (by kernel_rfl)) (by decide) (by decide) (fun K hK => ?_) (fun K hK => ?_)
      · skip
        refine goes_ Tryz.func24 (by kernel_rfl) rfl #[.agg #[.int .i64 M, .int .i64 now, .slice A l.length c, .slice A2 q.length c2, .slice A4 0 c4], .int .i64 x.f0, .slice Ap P.length cp] (by rfl) rfl rfl (by simp only [List.map_toArray, List.map_cons, List.map_nil]; rfl) ?_
        with_reducible refine (DR _ (HB2.out.trans (hHeld.out.mono HB2.out.size))).mono ?_
        rintro e w15 ⟨rfl, hB15⟩
        refine ⟨_, rfl, ?_⟩
        refine hK.out _ _ ((Lib.hid (hHeld.out.trans (hB15.mono hHeld.out.size)))) (fun hHeld => ?_)
        clear hK K
        refine norm_ (a' := ?_) ?_ ?_
        rotate_left
        · show Act.put _ (some 32) _ = _
          simp only [Act.put, List.setIfInBounds_toArray, List.set_cons_zero, List.set_cons_succ, i64_w, i32_w]
          rfl
        refine pst (i := 8) (N := some 24) HT_ (h := ?_)
        refine pst (i := 9) (N := some 33) HT_ (h := ?_)
        refine pst (i := 10) (N := some 34) HT_ (h := ?_)
        refine pst (i := 11) (N := some 35) HT_ (h := ?_)
        refine one_ (i := 12) (N := some 10) #[true, true, true, true, true, true, true, true, true, true, true, true, true, false, false, false] rfl rfl (one_of HT_.out (by kernel_rfl)) (by decide) (fun K hK => ?_)
        refine value_ (w1 := ?_) (v := ?_) (by rfl) rfl ?_ ?_
        rotate_left 2
        · go_simp
          constructor
          · rfl
          · rfl
        refine hK.out _ _ ((Lib.hid (hHeld.out.trans ((below_alloc (Below.refl _ _) _).mono hHeld.out.size)))) (fun hHeld => ?_)
        clear hK K
        refine norm_ (a' := ?_) ?_ ?_
        rotate_left
        · show Act.put _ (some 10) _ = _
          simp only [Act.put, List.setIfInBounds_toArray, List.set_cons_zero, List.set_cons_succ, i64_w, i32_w]
          rfl
        exact norm_ (by simp only [putAll, Act.put, List.setIfInBounds_toArray, List.set_cons_zero, List.set_cons_succ]) (hCont w15.heap.size _ ⟨Lib.hid (blk_new w15 _), hHeld, Lib.hid (by have := hB15.size; omega)⟩)
      · skip
        refine value_ (w1 := ?_) (v := ?_) (by rfl) rfl ?_ ?_
        rotate_left 2
        · go_simp
          constructor
          · rfl
          · rfl
        refine hK.out _ _ ((Lib.hid (hHeld.out.trans ((below_alloc (Below.refl _ _) _).mono hHeld.out.size)))) (fun hHeld => ?_)
        clear hK K
        refine norm_ (a' := ?_) ?_ ?_
        rotate_left
        · show Act.put _ (some 10) _ = _
          simp only [Act.put, List.setIfInBounds_toArray, List.set_cons_zero, List.set_cons_succ, i64_w, i32_w]
          rfl
        refine one_ (i := 7) (N := some 32) #[true, true, true, true, true, true, true, true, false, false, false, false, true, false, false, false] rfl rfl (one_of HT_.out (by kernel_rfl)) (by decide) (fun K hK => ?_)
        refine goes_ Tryz.func24 (by kernel_rfl) rfl #[.agg #[.int .i64 M, .int .i64 now, .slice A l.length c, .slice A2 q.length c2, .slice A4 0 c4], .int .i64 x.f0, .slice Ap P.length cp] (by rfl) rfl rfl (by simp only [List.map_toArray, List.map_cons, List.map_nil]; rfl) ?_
        with_reducible refine (DR _ (HB2.out.trans (hHeld.out.mono HB2.out.size))).mono ?_
        rintro e w15 ⟨rfl, hB15⟩
        refine ⟨_, rfl, ?_⟩
        refine hK.out _ _ ((Lib.hid (hHeld.out.trans (hB15.mono hHeld.out.size)))) (fun hHeld => ?_)
        clear hK K
        refine norm_ (a' := ?_) ?_ ?_
        rotate_left
        · show Act.put _ (some 32) _ = _
          simp only [Act.put, List.setIfInBounds_toArray, List.set_cons_zero, List.set_cons_succ, i64_w, i32_w]
          rfl
        refine pst (i := 8) (N := some 24) HT_ (h := ?_)
        refine pst (i := 9) (N := some 33) HT_ (h := ?_)
        refine pst (i := 10) (N := some 34) HT_ (h := ?_)
        refine pst (i := 11) (N := some 35) HT_ (h := ?_)
        exact norm_ (by simp only [putAll, Act.put, List.setIfInBounds_toArray, List.set_cons_zero, List.set_cons_succ]) (hCont wd.heap.size _ ⟨Lib.hid (blk_below (blk_new wd _) hB15), hHeld, Lib.hid (by omega)⟩)
    rintro sb w16 ⟨hA6, hB6, hS6⟩
    have hHeld : Hid (Below w2.heap.size w2 w16) := hB6
    refine norm_ (a' := ?_) ?_ ?_
    rotate_left
    · simp only [putAll, Act.put, List.setIfInBounds_toArray, List.set_cons_zero, List.set_cons_succ]
      rfl
    refine last_ (i := 13) (N := none) #[true, true, true, true, true, true, true, true, true, true, true, true, true, true, false, false] rfl rfl (one_of HT_.out (by kernel_rfl)) (by decide) (fun K hK => ?_)
    have z0 := (blk_cell hA6.out 0).trans rfl
    have f0 := blk_frozen hA6.out 0
    have z1 := (blk_cell hA6.out 1).trans rfl
    have f1 := blk_frozen hA6.out 1
    have z2 := (blk_cell hA6.out 2).trans rfl
    have f2 := blk_frozen hA6.out 2
    have z3 := (blk_cell hA6.out 3).trans rfl
    have f3 := blk_frozen hA6.out 3
    have z4 := (blk_cell hA6.out 4).trans rfl
    have f4 := blk_frozen hA6.out 4
    refine skip_ (w1 := ?_) (by rfl) rfl ?_ ?_
    rotate_left
    · go_simp
      rfl
    have HS17 := Lib.hid (blk_put (cs' := #[.int .i64 M, .int .i64 now, .slice A l.length c, .slice A2 q.length c2, .slice A4 0 c4]) (blk_put (blk_put (blk_put (blk_put hA6.out 0 (.int .i64 M) rfl) 1 (.int .i64 now) rfl) 2 (.slice A l.length c) rfl) 3 (.slice A2 q.length c2) rfl) 4 (.slice A4 0 c4) rfl)
    have HT17 := Lib.hid ((((((Turn.refl w16 (fun b => b = sb)).set rfl 0 (.int .i64 M)).set rfl 1 (.int .i64 now)).set rfl 2 (.slice A l.length c)).set rfl 3 (.slice A2 q.length c2)).set rfl 4 (.slice A4 0 c4))
    clear z0 f0 z1 f1 z2 f2 z3 f3 z4 f4
    generalize hws : World.setCell _ _ _ = w17 at *
    clear hws
    refine hK.out _ _ ?_
    clear hK K
    refine pst (i := 14) (N := some 11) HT_ (h := ?_)
    refine pst (i := 15) (N := some 9) HT_ (h := ?_)
    refine done_ (done_of HT_.out (by kernel_rfl)) ?_
    have HB17 := Lib.hid (Turn.below hB6.out HT17.out (fun b e => by have := hS6.out; omega) hB6.out.size)
    go_wp2_with (go_at_call 20; (with_reducible refine (DE _ _ _ hC0).mono ?_); rintro e w18 ⟨⟨pf, rfl⟩, hB18⟩; have HB18 := Lib.hid hB18; clear hB18)
    go_ret2
    exact ⟨fun _ => ⟨⟨pf, rfl⟩, HB2.out.trans ((HB17.out.trans (HB18.out.mono HB17.out.size)).mono HB2.out.size)⟩, fun h => absurd h hC0⟩
def sopenw.T4 : Bool × List (List Nat × List Nat) := (true, [([], []), ([0], [0]), ([1], [1]), ([2], [2]), ([], []), ([4], [4]), ([], []), ([], []), ([7], [7]), ([8], [8]), ([9], [9]), ([10], [10]), ([3, 5, 6, 11], [3, 5, 6, 11]), ([12, 12, 0, 1, 2, 3, 4, 5, 6, 7, 8, 9, 10, 11, 12], [12])])
def sopenw.B4 : List Nat := [0, 1, 3, 7, 0, 16, 0, 0, 128, 384, 896, 1920, 4095, 8191]
theorem sopenw.tab4 : rtab .any (opsOf Tryz.f18 4) = sopenw.T4 := by kernel_rfl
theorem sopenw.bits4 : waitsOk sopenw.T4.2 sopenw.B4 = true := by kernel_rfl
structure OpenOk (l : List S57) (q : List S63) (nn : Nat) (bk : List S157) : Prop where
  sorted : Sorted l
  n30 : nn ≤ 30
  len : l.length ≤ nn
  blen : bk.length ≤ nn
  lid : ∀ k (h : k < l.length), l[k].f0 ≤ nn
  bid : ∀ k (h : k < bk.length), bk[k].f0 ≤ nn
  bok : ∀ k (h : k < bk.length), WOk bk[k].f1
  qlen : q.length ≤ 8
  jobs : ∀ i (h : i < l.length), l[i].f2.length ≤ 100000
  que : ∀ i (h : i < q.length), q[i].f2.length ≤ 100000
theorem askC_ok {M : Int} {bk : List S157} {x : S85} (h : askC M bk x = 0) : WOk x := by
  unfold askC at h
  by_cases hx : WOk x
  · exact hx
  · rw [if_neg hx] at h; exact absurd h (by decide)
theorem askC_not {M : Int} {bk : List S157} {x : S85} (h : ¬ WOk x) : askC M bk x = 1 := by
  unfold askC
  rw [if_neg h]
set_option maxHeartbeats 4000000 in
set_option maxRecDepth 100000 in
theorem sopen_calls (N : Nat) (lab : Nat → Nat) (M now : Int) (l : List S57) (q : List S63) (nn : Nat) (bk : List S157) (E : List (List Value)) (w : World) (h : SysAt w lab N M now l q nn bk E) (hk : OpenOk l q nn bk) (q0 p0 : Int) (hm1 : 1 ≤ M) (hm2 : M ≤ 64) (hnow : 0 ≤ now) :
    Calls Tryz.prog 18 #[.pointer (some ⟨N, 0, none⟩), .int .i64 q0, .int .i64 p0] w fun e w' =>
      (askC M bk ⟨q0, p0⟩ ≠ 0 → (∃ p, e = .returned (.tuple #[.int .u32 0, .iface 111 p])) ∧ Below w.heap.size w w') ∧
      (askC M bk ⟨q0, p0⟩ = 0 → e = .returned (.tuple #[.int .u32 nn, .nilIface]) ∧ (∃ lab', SysAt w' lab' N M now (l ++ [newServ ((nn : Int) + 1) q0 p0]) q (nn + 1) (bk ++ [⟨(nn : Int) + 1, ⟨q0, p0⟩, -1⟩]) E ∧ Grew w lab lab') ∧ Turn w w' (fun b => lab b ≠ 0)) := by
  obtain ⟨r, h⟩ := h
  have n30 := hk.n30
  have n1 := h.l1
  have n2 := h.l2
  have n3 := h.l3
  have n4 := h.l4
  have hblk := h.blk
  have DP := fun wx (hb : Below w.heap.size w wx) => place_calls r.Nn r.Ns nn wx (h.tab.below hb)
  have DG := fun wx => wgood_calls ⟨q0, p0⟩ wx
  have DN := fun wx (hb : Below w.heap.size w wx) => enter_calls M r.Nb r.bB r.vB bk ((nn : Int) + 1) ⟨q0, p0⟩ now wx (blk_below h.book hb) (Kd.R_below h.ent hb) (fun e => by have := h.l5 _ e; omega) (Nat.le_trans h.bb hb.size) (by have := hk.blen; omega) (fun k hh => by have := hk.bid k hh; omega) hk.bok hm1 hm2 hnow
  have DE := fun wx (c : Int) (hc : c ≠ 0) => fault_calls (.string { data := #[111, 112, 101, 110] }) ⟨_, rfl⟩ 0 c wx hc
  have HX := Lib.hid h
  have HK := Lib.hid hk
  have HN := Lib.hid hblk
  have HB0 := Lib.hid (below_alloc (Below.refl w.heap.size w) (.cells #[.int .i64 q0, .int .i64 p0] 85))
  have HX0 := Lib.hid (blk_new w (.cells #[.int .i64 q0, .int .i64 p0] 85))
  have gn : decide ((nn : Int) < 0) = false := by simp
  have HC : Hid (¬ WOk ⟨q0, p0⟩ → askC M bk ⟨q0, p0⟩ = 1) := Lib.hid askC_not
  have HC2 : Hid (askC M bk ⟨q0, p0⟩ = 0 → WOk ⟨q0, p0⟩) := Lib.hid askC_ok
  have hwn : IntKind.i64.wrap ((nn : Int) + 1) = (nn : Int) + 1 := by rw [i64_w]; unfold Go.RowKit.wrap64; omega
  have hNw : N < w.heap.size := blk_lt hblk
  unfold EnterP at DN
  generalize askC M bk ⟨q0, p0⟩ = C at *
  obtain ⟨Nb, Nn, Ns, A, c, A2, c2, A4, c4, a7, vB, AE, nE, cE, bB, bE, B, F0⟩ := r
  dsimp only at *
  clear h hk hblk
  have hs0 : (w.alloc (.cells #[.int .i64 q0, .int .i64 p0] 85)).heap.size = w.heap.size + 1 := World.size_alloc _ _
  generalize hw0 : w.alloc (.cells #[.int .i64 q0, .int .i64 p0] 85) = w0 at *
  have HN0 := Lib.hid (blk_below HN.out HB0.out)
  have x6 : w0.cell? ⟨N, 6, none⟩ = some (.pointer (some ⟨Nn, 0, none⟩)) := (blk_cell HN0.out 6).trans rfl
  have x0 := (blk_cell HX0.out 0).trans rfl
  have x1 := (blk_cell HX0.out 1).trans rfl
  have HW0 := Lib.hid hw0
  clear hw0
  go_enter Tryz.func18, Tryz.ntmps18
  go_upto_region 2 with fail
  rw [HW0.out]
  go_upto_region 3 with (go_at_call 34; (with_reducible refine (DP _ HB0.out).mono ?_); rintro e w1 ⟨rfl, rfl⟩)
  clear DP
  by_cases hx : WOk ⟨q0, p0⟩
  · have gx : decide (WOk ⟨q0, p0⟩) = true := by simpa using hx
    rw [gx] at DG
    have HWOK := Lib.hid hx
    clear gx hx
    by_cases hC0 : C = 0
    · subst hC0
      go_upto_if 34 with (go_at_call 35; (with_reducible refine (DG _).mono ?_); rintro e w2 ⟨rfl, hB2⟩; have HN2 := Lib.hid (blk_below HN0.out hB2); have HX2 := Lib.hid (blk_below HX0.out hB2); have HB2 := Lib.hid (HB0.out.trans (hB2.mono HB0.out.size)); clear hB2 x0 x1 x6)
      go_upto_if 38 with fail
      go_upto_region 4 with fail
      refine start_ (n := 14) (S := fun w' => Hid (Below w2.heap.size w2 w')) (ds := [12]) #[false, false, false, false, false, false, false, false, false, false, false, false, false, false] (by kernel_rfl) rfl rfl ((Lib.hid (below_drew (Below.refl _ _)))) (fun hHeld => ?_)
      refine with_tabW sopenw.tab4 sopenw.bits4 (fun HT_ HW_ => ?_)
      have hbd : Hid (Below w2.heap.size w2 w2.drew) := Lib.hid ⟨rfl, rfl, rfl, Nat.le_refl _, fun _ _ => rfl⟩
      have hsd : w2.heap.size = w2.drew.heap.size := rfl
      generalize hwd : w2.drew = wd at *
      clear hwd
      refine pst (i := 0) (N := some 21) HT_ (h := ?_)
      refine pst (i := 1) (N := some 22) HT_ (h := ?_)
      refine pst (i := 2) (N := some 23) HT_ (h := ?_)
      refine pst (i := 4) (N := some 25) HT_ (h := ?_)
      refine pst (i := 5) (N := some 26) HT_ (h := ?_)
      refine pst (i := 7) (N := some 28) HT_ (h := ?_)
      refine pst (i := 8) (N := some 29) HT_ (h := ?_)
      refine pst (i := 9) (N := some 30) HT_ (h := ?_)
      refine pst (i := 10) (N := some 31) HT_ (h := ?_)
      refine tst (i := 3) (N := some 24) HT_ HW_ hHeld (hy := by (intro w' s0; have y1 : w'.cell? ⟨N, 5, none⟩ = some (.pointer (some ⟨Nb, 0, none⟩)) := (blk_cell (blk_below HN2.out s0.out) 5).trans rfl; have y2 : w'.cell? ⟨N, 1, none⟩ = some (.int .i64 now) := (blk_cell (blk_below HN2.out s0.out) 1).trans rfl; have q1 := (blk_cell (blk_below HX2.out s0.out) 0).trans rfl; have q2 := (blk_cell (blk_below HX2.out s0.out) 1).trans rfl); go_simp; with_reducible rfl) (h := ?_)
      refine tst (i := 6) (N := some 27) HT_ HW_ hHeld (hy := by (intro w' s0; have y1 : w'.cell? ⟨N, 5, none⟩ = some (.pointer (some ⟨Nb, 0, none⟩)) := (blk_cell (blk_below HN2.out s0.out) 5).trans rfl; have y2 : w'.cell? ⟨N, 1, none⟩ = some (.int .i64 now) := (blk_cell (blk_below HN2.out s0.out) 1).trans rfl; have q1 := (blk_cell (blk_below HX2.out s0.out) 0).trans rfl; have q2 := (blk_cell (blk_below HX2.out s0.out) 1).trans rfl); go_simp; with_reducible rfl) (h := ?_)
      refine tst (i := 11) (N := some 32) HT_ HW_ hHeld (hy := by (intro w' s0; have y1 : w'.cell? ⟨N, 5, none⟩ = some (.pointer (some ⟨Nb, 0, none⟩)) := (blk_cell (blk_below HN2.out s0.out) 5).trans rfl; have y2 : w'.cell? ⟨N, 1, none⟩ = some (.int .i64 now) := (blk_cell (blk_below HN2.out s0.out) 1).trans rfl; have q1 := (blk_cell (blk_below HX2.out s0.out) 0).trans rfl; have q2 := (blk_cell (blk_below HX2.out s0.out) 1).trans rfl); go_simp; with_reducible rfl) (h := ?_)
      refine last_ (i := 12) (N := some 33) #[true, true, true, true, true, true, true, true, true, true, true, true, true, false] rfl rfl (one_of HT_.out (by kernel_rfl)) (by decide) (fun K hK => ?_)
      refine goes_ Tryz.func36 (by kernel_rfl) rfl #[.pointer (some ⟨Nb, 0, none⟩), .int .i64 ((nn : Int) + 1), .agg #[.int .i64 q0, .int .i64 p0], .int .i64 now] (by rfl) rfl rfl (by simp only [List.map_toArray, List.map_cons, List.map_nil]; rfl) ?_
      with_reducible refine (DN _ (HB2.out.trans (hHeld.out.mono HB2.out.size))).mono ?_
      rintro e w4 ⟨rfl, _, hB4⟩
      refine ⟨_, rfl, ?_⟩
      obtain ⟨vB', hbk4, hent4, hT4, hvb4⟩ := hB4 (by first | exact trivial | exact rfl)
      have HBK4 := Lib.hid hbk4
      have HENT4 := Lib.hid hent4
      have HT4 := Lib.hid hT4
      have HVB4 := Lib.hid hvb4
      have HB3 := hHeld
      clear hB4 hbk4 hent4 hT4 hvb4
      refine hK.out _ _ ?_
      clear hK K
      refine norm_ (a' := ?_) ?_ ?_
      rotate_left
      · show Act.put _ (some 33) _ = _
        simp only [Act.put, List.setIfInBounds_toArray, List.set_cons_zero, List.set_cons_succ, i64_w, i32_w]
        rfl
      refine pst (i := 13) (N := some 10) HT_ (h := ?_)
      refine done_ (done_of HT_.out (by kernel_rfl)) ?_
      have HBd := Lib.hid (HB2.out.trans (HB3.out.mono HB2.out.size))
      have l2 := HX.out.l2
      have l1 := HX.out.l1
      have l3 := HX.out.l3
      have l4 := HX.out.l4
      dsimp only at l2 l3 l4
      have HTw4 : Hid (Turn w w4 (fun b => b = Nb ∨ some b = vB.ownBlock)) := Lib.hid ((Turn.of_below _ HBd.out).trans HT4.out)
      have HL4 : Hid (∀ b, (b = Nb ∨ some b = vB.ownBlock) → lab b = 2 ∨ lab b = 5) := Lib.hid (fun b e => e.imp (fun e => by rw [e]; exact l2) (fun e => HX.out.l5 b e.symm))
      have HN4 := Lib.hid ((HTw4.out.block N hNw (fun e => by have := HL4.out _ e; omega)).trans HN.out)
      have HTAB4 := Lib.hid (HX.out.tab.turn HTw4.out (fun e => by have := HL4.out _ e; dsimp only at this; omega) (fun e => by have := HL4.out _ e; dsimp only at this; omega))
      dsimp only at HTAB4
      have DT := fun wx (hb : w4 = wx) => (by subst hb; exact take_calls Nn Ns nn w4 HTAB4.out (by omega) : Calls Tryz.prog 37 #[.pointer (some ⟨Nn, 0, none⟩)] wx fun e w' => e = .returned (.tuple #[.int .u32 nn, .int .i64 0]) ∧ TabAt w' Nn Ns (nn + 1) ∧ Turn w4 w' (fun b => b = Ns))
      have x6 : w4.cell? ⟨N, 6, none⟩ = some (.pointer (some ⟨Nn, 0, none⟩)) := (blk_cell HN4.out 6).trans rfl
      have hsw := HTw4.out.size
      go_upto_region 12 with (go_at_call 37; (with_reducible refine (DT _ rfl).mono ?_); rintro e w5 ⟨rfl, hTab5, hT5⟩; have HTAB5 := Lib.hid hTab5; have HT5 := Lib.hid hT5; clear hTab5 hT5)
      have hs5 := HT5.out.size
      have HTw5 : Hid (Turn w w5 (fun b => (b = Nb ∨ some b = vB.ownBlock) ∨ b = Ns)) := Lib.hid ((HTw4.out.imp (fun b e => .inl e)).trans (HT5.out.imp (fun b e => .inr e)))
      have HL5 : Hid (∀ b, ((b = Nb ∨ some b = vB.ownBlock) ∨ b = Ns) → lab b = 2 ∨ lab b = 5 ∨ lab b = 4) := Lib.hid (fun b e => e.elim (fun e => (HL4.out b e).imp (fun h => h) (fun h => .inl h)) (fun e => by rw [e]; exact .inr (.inr l4)))
      have HN5 := Lib.hid ((HTw5.out.block N hNw (fun e => by have := HL5.out _ e; omega)).trans HN.out)
      have hM5 : RdF w5 F0 B A l A2 q := HX.out.mach.keep HTw5.out (fun b e => ⟨fun hf => by have := HL5.out b e; have := HX.out.l7 b hf; omega, fun hf => by have := HL5.out b e; have := HX.out.l8 b hf; omega⟩)
      have hw := HWOK.out
      have DA := fun wx (hb : w5 = wx) => (by subst hb; exact add_calls M now A l c A2 q c2 A4 c4 B ((nn : Int) + 1) q0 p0 w5 (Nat.le_trans HX.out.bn HTw5.out.size) hM5.now HK.out.sorted (by have := HK.out.len; omega) HK.out.qlen HK.out.jobs HK.out.que (fun k hh => by have := HK.out.lid k hh; omega) (by omega) (by omega) hw.2.2.1 hw.2.2.2 hw.2.1 : Calls Tryz.prog 38 #[stV M now A l.length c A2 q.length c2 A4 c4, .int .i64 ((nn : Int) + 1), .int .i64 q0, .int .i64 p0] wx fun e w' => ∃ A' c' A2' c2' A4 c4 F, e = .returned (.tuple #[stV M now A' (l.length + 1) c' A2' q.length c2' A4 c4, .int .i64 0]) ∧ RdF w' F B A' (l ++ [newServ ((nn : Int) + 1) q0 p0]) A2' q ∧ (∀ b, F b → w5.heap.size ≤ b ∧ b < w'.heap.size) ∧ Below w5.heap.size w5 w')
      unfold stV at DA
      have x0 : w5.cell? ⟨N, 0, none⟩ = some (.int .i64 M) := (blk_cell HN5.out 0).trans rfl
      have x1 : w5.cell? ⟨N, 1, none⟩ = some (.int .i64 now) := (blk_cell HN5.out 1).trans rfl
      have x2 : w5.cell? ⟨N, 2, none⟩ = some (.slice A l.length c) := (blk_cell HN5.out 2).trans rfl
      have x3 : w5.cell? ⟨N, 3, none⟩ = some (.slice A2 q.length c2) := (blk_cell HN5.out 3).trans rfl
      have x4 : w5.cell? ⟨N, 4, none⟩ = some (.slice A4 0 c4) := (blk_cell HN5.out 4).trans rfl
      clear x6 hM5 hw
      go_upto_region 13 with (go_at_call 38; (with_reducible refine (DA _ rfl).mono ?_); rintro e w6 ⟨A', c', A2', c2', A5, c5, F, rfl, hR6, hF6, hB6⟩; have HR6 := Lib.hid hR6; have HF6 := Lib.hid hF6; have HB6 := Lib.hid hB6; have HN6 := Lib.hid (blk_below HN5.out hB6); have z0 : w6.cell? ⟨N, 0, none⟩ = some (.int .i64 M) := (blk_cell HN6.out 0).trans rfl; have z1 : w6.cell? ⟨N, 1, none⟩ = some (.int .i64 now) := (blk_cell HN6.out 1).trans rfl; have z2 : w6.cell? ⟨N, 2, none⟩ = some (.slice A l.length c) := (blk_cell HN6.out 2).trans rfl; have z3 : w6.cell? ⟨N, 3, none⟩ = some (.slice A2 q.length c2) := (blk_cell HN6.out 3).trans rfl; have z4 : w6.cell? ⟨N, 4, none⟩ = some (.slice A4 0 c4) := (blk_cell HN6.out 4).trans rfl; have f0 := blk_frozen HN6.out 0; have f1 := blk_frozen HN6.out 1; have f2 := blk_frozen HN6.out 2; have f3 := blk_frozen HN6.out 3; have f4 := blk_frozen HN6.out 4; clear hR6 hF6 hB6 x0 x1 x2 x3 x4)
      have HN7 := Lib.hid (blk_put (cs' := sysC M now A' (l.length + 1) c' A2' q.length c2' A5 c5 (.pointer (some ⟨Nb, 0, none⟩)) (.pointer (some ⟨Nn, 0, none⟩)) a7 (.slice AE nE cE)) (blk_put (blk_put (blk_put (blk_put HN6.out 0 (.int .i64 M) rfl) 1 (.int .i64 now) rfl) 2 (.slice A' (l.length + 1) c') rfl) 3 (.slice A2' q.length c2') rfl) 4 (.slice A5 0 c5) rfl)
      have HT7 := Lib.hid ((((((Turn.refl w6 (fun b => b = N)).set rfl 0 (.int .i64 M)).set rfl 1 (.int .i64 now)).set rfl 2 (.slice A' (l.length + 1) c')).set rfl 3 (.slice A2' q.length c2')).set rfl 4 (.slice A5 0 c5))
      generalize hws : World.setCell _ _ _ = w7 at *
      clear hws z0 z1 z2 z3 z4 f0 f1 f2 f3 f4
      go_wp2
      go_ret2
      have hs6 := HB6.out.size
      have hs7 := HT7.out.size
      have hNb : Nb < w.heap.size := blk_lt HX.out.book
      have hne : Nb ≠ Ns ∧ Nb ≠ N ∧ Nn ≠ N ∧ Ns ≠ N := ⟨fun e => by rw [e] at l2; omega, fun e => by rw [e] at l2; omega, fun e => by rw [e] at l3; omega, fun e => by rw [e] at l4; omega⟩
      have hNs : Ns < w.heap.size := HX.out.lt _ (by omega)
      have hNn : Nn < w.heap.size := HX.out.lt _ (by omega)
      have hsd2 := HBd.out.size
      have hvl : ∀ b, vB'.ownBlock = some b → b < w4.heap.size := fun b e => Kd.R_lt HENT4.out b e
      have hvo : ∀ b, vB'.ownBlock = some b → b < w.heap.size → lab b = 5 := fun b e hlt => by
        rcases HVB4.out with h | ⟨b2, h, hle⟩
        · exact HX.out.l5 b (h ▸ e)
        · rw [h] at e; injection e with e; omega
      have HT47 : Turn w4 w7 (fun b => b = Ns ∨ b = N) := ((HT5.out.imp (fun b e => .inl e)).trans (Turn.of_below _ HB6.out)).trans (HT7.out.imp (fun b e => .inr e))
      have HTw7 : Turn w w7 (fun b => (b = Nb ∨ some b = vB.ownBlock) ∨ b = Ns ∨ b = N) := (HTw4.out.imp (fun b e => .inl e)).trans (HT47.imp (fun b e => .inr e))
      have HL7 : ∀ b, ((b = Nb ∨ some b = vB.ownBlock) ∨ b = Ns ∨ b = N) → lab b = 2 ∨ lab b = 5 ∨ lab b = 4 ∨ lab b = 1 := fun b e => by
        rcases e with e | e | e
        · have := HL4.out b e; omega
        · rw [e]; exact .inr (.inr (.inl l4))
        · rw [e]; exact .inr (.inr (.inr l1))
      refine ⟨rfl, ?_, HTw7.imp (fun b e => by have := HL7 b e; omega)⟩
      classical
      have old : ∀ b, b < w.heap.size → (if b < w.heap.size then lab b else if vB'.ownBlock = some b then 5 else if F b then 7 else 0) = lab b := fun b hb => if_pos hb
      refine ⟨fun b => (if b < w.heap.size then lab b else if vB'.ownBlock = some b then 5 else if F b then 7 else 0), ⟨⟨Nb, Nn, Ns, A', c', A2', c2', A5, c5, a7, vB', AE, nE, cE, bB, bE, B, F⟩, ?_⟩, fun b hb => ?_⟩
      · exact { blk := by rw [List.length_append]; exact HN7.out
                book := (HT47.block Nb (by omega) (fun e => e.elim hne.1 hne.2.1)).trans HBK4.out
                ent := ent_turn HENT4.out HT47 (fun b hb e => by
                  rcases e with e | e
                  · have := hvo b hb (by omega); rw [e] at this; omega
                  · have := hvo b hb (by omega); rw [e] at this; omega)
                tab := (HTAB5.out.below HB6.out).turn HT7.out hne.2.2.1 hne.2.2.2
                ev := raw_turn HX.out.ev HTw7 (fun b hb e => by have := HL7 b e; have := HX.out.l6 b hb; omega)
                mach := HR6.out.keep HT7.out (fun b e => ⟨fun hf => by have := HF6.out b hf; omega, fun hf => by have := HX.out.l8 b hf; rw [e] at this; omega⟩)
                l1 := (old _ hNw).trans l1
                l2 := (old _ hNb).trans l2
                l3 := (old _ hNn).trans l3
                l4 := (old _ hNs).trans l4
                l5 := fun b hb => by
                  by_cases hlt : b < w.heap.size
                  · exact (old b hlt).trans (hvo b hb hlt)
                  · show (if b < w.heap.size then lab b else _) = 5
                    rw [if_neg hlt, if_pos hb]
                l6 := fun b hb => by
                  have h6 := HX.out.l6 b hb
                  exact (old b (HX.out.lt b (by omega))).trans h6
                l7 := fun b hb => by
                  have h7 := HF6.out b hb
                  show (if b < w.heap.size then lab b else _) = 7
                  rw [if_neg (by omega), if_neg (fun e => by have := hvl b e; omega), if_pos hb]
                l8 := fun b hb => by
                  have h8 := HX.out.l8 b hb
                  exact (old b (HX.out.lt b (by omega))).trans h8
                lt := fun b hb => by
                  by_cases hlt : b < w.heap.size
                  · omega
                  · have hb2 : (if b < w.heap.size then lab b else if vB'.ownBlock = some b then 5 else if F b then 7 else 0) ≠ 0 := hb
                    rw [if_neg hlt] at hb2
                    by_cases h6 : vB'.ownBlock = some b
                    · have := hvl b h6; omega
                    · rw [if_neg h6] at hb2
                      by_cases h7 : F b
                      · have := HF6.out b h7; omega
                      · rw [if_neg h7] at hb2; exact absurd rfl hb2
                bn := by have := HX.out.bn; dsimp only at this ⊢; omega
                bb := by have := HX.out.bb; dsimp only at this ⊢; omega
                be := by have := HX.out.be; dsimp only at this ⊢; omega }
      · by_cases hlt : b < w.heap.size
        · exact .inl (fun e => hb ((old b hlt).trans e))
        · exact .inr (by omega)
    · have gC : (C != 0) = true := by simpa using hC0
      go_upto_if 34 with (go_at_call 35; (with_reducible refine (DG _).mono ?_); rintro e w2 ⟨rfl, hB2⟩; have HN2 := Lib.hid (blk_below HN0.out hB2); have HX2 := Lib.hid (blk_below HX0.out hB2); have HB2 := Lib.hid (HB0.out.trans (hB2.mono HB0.out.size)); clear hB2 x0 x1 x6)
      go_upto_if 38 with fail
      go_upto_region 4 with fail
      refine start_ (n := 14) (S := fun w' => Hid (Below w2.heap.size w2 w')) (ds := [12]) #[false, false, false, false, false, false, false, false, false, false, false, false, false, false] (by kernel_rfl) rfl rfl ((Lib.hid (below_drew (Below.refl _ _)))) (fun hHeld => ?_)
      refine with_tabW sopenw.tab4 sopenw.bits4 (fun HT_ HW_ => ?_)
      have hbd : Hid (Below w2.heap.size w2 w2.drew) := Lib.hid ⟨rfl, rfl, rfl, Nat.le_refl _, fun _ _ => rfl⟩
      have hsd : w2.heap.size = w2.drew.heap.size := rfl
      generalize hwd : w2.drew = wd at *
      clear hwd
      refine pst (i := 0) (N := some 21) HT_ (h := ?_)
      refine pst (i := 1) (N := some 22) HT_ (h := ?_)
      refine pst (i := 2) (N := some 23) HT_ (h := ?_)
      refine pst (i := 4) (N := some 25) HT_ (h := ?_)
      refine pst (i := 5) (N := some 26) HT_ (h := ?_)
      refine pst (i := 7) (N := some 28) HT_ (h := ?_)
      refine pst (i := 8) (N := some 29) HT_ (h := ?_)
      refine pst (i := 9) (N := some 30) HT_ (h := ?_)
      refine pst (i := 10) (N := some 31) HT_ (h := ?_)
      refine tst (i := 3) (N := some 24) HT_ HW_ hHeld (hy := by (intro w' s0; have y1 : w'.cell? ⟨N, 5, none⟩ = some (.pointer (some ⟨Nb, 0, none⟩)) := (blk_cell (blk_below HN2.out s0.out) 5).trans rfl; have y2 : w'.cell? ⟨N, 1, none⟩ = some (.int .i64 now) := (blk_cell (blk_below HN2.out s0.out) 1).trans rfl; have q1 := (blk_cell (blk_below HX2.out s0.out) 0).trans rfl; have q2 := (blk_cell (blk_below HX2.out s0.out) 1).trans rfl); go_simp; with_reducible rfl) (h := ?_)
      refine tst (i := 6) (N := some 27) HT_ HW_ hHeld (hy := by (intro w' s0; have y1 : w'.cell? ⟨N, 5, none⟩ = some (.pointer (some ⟨Nb, 0, none⟩)) := (blk_cell (blk_below HN2.out s0.out) 5).trans rfl; have y2 : w'.cell? ⟨N, 1, none⟩ = some (.int .i64 now) := (blk_cell (blk_below HN2.out s0.out) 1).trans rfl; have q1 := (blk_cell (blk_below HX2.out s0.out) 0).trans rfl; have q2 := (blk_cell (blk_below HX2.out s0.out) 1).trans rfl); go_simp; with_reducible rfl) (h := ?_)
      refine tst (i := 11) (N := some 32) HT_ HW_ hHeld (hy := by (intro w' s0; have y1 : w'.cell? ⟨N, 5, none⟩ = some (.pointer (some ⟨Nb, 0, none⟩)) := (blk_cell (blk_below HN2.out s0.out) 5).trans rfl; have y2 : w'.cell? ⟨N, 1, none⟩ = some (.int .i64 now) := (blk_cell (blk_below HN2.out s0.out) 1).trans rfl; have q1 := (blk_cell (blk_below HX2.out s0.out) 0).trans rfl; have q2 := (blk_cell (blk_below HX2.out s0.out) 1).trans rfl); go_simp; with_reducible rfl) (h := ?_)
      refine last_ (i := 12) (N := some 33) #[true, true, true, true, true, true, true, true, true, true, true, true, true, false] rfl rfl (one_of HT_.out (by kernel_rfl)) (by decide) (fun K hK => ?_)
      refine goes_ Tryz.func36 (by kernel_rfl) rfl #[.pointer (some ⟨Nb, 0, none⟩), .int .i64 ((nn : Int) + 1), .agg #[.int .i64 q0, .int .i64 p0], .int .i64 now] (by rfl) rfl rfl (by simp only [List.map_toArray, List.map_cons, List.map_nil]; rfl) ?_
      with_reducible refine (DN _ (HB2.out.trans (hHeld.out.mono HB2.out.size))).mono ?_
      rintro e w4 ⟨rfl, hB4, _⟩
      refine ⟨_, rfl, ?_⟩
      have HB4 := Lib.hid (hHeld.out.trans ((hB4 hC0).mono hHeld.out.size))
      refine hK.out _ _ ?_
      clear hK K
      refine norm_ (a' := ?_) ?_ ?_
      rotate_left
      · show Act.put _ (some 33) _ = _
        simp only [Act.put, List.setIfInBounds_toArray, List.set_cons_zero, List.set_cons_succ, i64_w, i32_w]
        rfl
      refine pst (i := 13) (N := some 10) HT_ (h := ?_)
      refine done_ (done_of HT_.out (by kernel_rfl)) ?_
      go_wp2_with (go_at_call 20; (with_reducible refine (DE _ _ hC0).mono ?_); rintro e w5 ⟨⟨pf, rfl⟩, hB5⟩; have HB5 := Lib.hid hB5; clear hB5)
      go_ret2
      exact ⟨fun _ => ⟨⟨pf, rfl⟩, HB2.out.trans ((HB4.out.trans (HB5.out.mono HB4.out.size)).mono HB2.out.size)⟩, fun h => absurd h hC0⟩
  · have gx : decide (WOk ⟨q0, p0⟩) = false := by simpa using hx
    rw [gx] at DG
    obtain rfl : C = 1 := HC.out hx
    clear gx hx
    have h10 : (1 : Int) ≠ 0 := by decide
    go_wp2_with (first
      | (go_at_call 35; (with_reducible refine (DG _).mono ?_); rintro e w2 ⟨rfl, hB2⟩; have HB2 := Lib.hid (HB0.out.trans (hB2.mono HB0.out.size)); clear hB2)
      | (go_at_call 20; (with_reducible refine (DE _ _ h10).mono ?_); rintro e w3 ⟨⟨pf, rfl⟩, hB3⟩; have HB3 := Lib.hid (HB2.out.trans (hB3.mono HB2.out.size)); clear hB3))
    go_ret2
    exact ⟨fun _ => ⟨⟨pf, rfl⟩, HB3.out⟩, fun h => absurd h h10⟩
def snew.T7 : Bool × List (List Nat × List Nat) := (true, [([], []), ([], []), ([], []), ([2], []), ([0, 1, 2, 3], [0, 1, 2, 3]), ([4], [4]), ([5, 3, 0, 1, 2, 3, 4, 5], [5]), ([6, 0, 1, 2, 3, 4, 5, 6], [])])
def snew.B7 : List Nat := [0, 0, 0, 4, 15, 31, 63, 127]
theorem snew.tab7 : rtab .any (opsOf Tryz.f9 7) = snew.T7 := by kernel_rfl
theorem snew.bits7 : waitsOk snew.T7.2 snew.B7 = true := by kernel_rfl
theorem inew32 (w : World) : Calls Tryz.prog 22 #[.int .i64 32] w fun e w' => e = .returned (.pointer (some ⟨w.heap.size + 1, 0, none⟩)) ∧ TabAt w' (w.heap.size + 1) w.heap.size 0 ∧ w'.heap.size = w.heap.size + 2 ∧ Below w.heap.size w w' :=
  (inew_calls 32 w (by decide) (by decide)).mono fun e w' ⟨h1, h2⟩ => by
    subst h2
    exact ⟨h1, tab_new w, by simp, below_alloc (below_alloc (Below.refl _ _) _) _⟩
theorem inew16 (w : World) : Calls Tryz.prog 22 #[.int .i64 16] w fun e w' => e = .returned (.pointer (some ⟨w.heap.size + 1, 0, none⟩)) ∧ w'.heap.size = w.heap.size + 2 ∧ Below w.heap.size w w' :=
  (inew_calls 16 w (by decide) (by decide)).mono fun e w' ⟨h1, h2⟩ => by
    subst h2
    exact ⟨h1, by simp, below_alloc (below_alloc (Below.refl _ _) _) _⟩
set_option maxHeartbeats 4000000 in
set_option maxRecDepth 100000 in
theorem snew_calls (m : Int) (A : Option Addr) (c : Nat) (ms : List Int) (w : World) (hr : (Kd.int .i64).C w A ms.length ms) (hm1 : 1 ≤ m) (hm2 : m ≤ 64) (hlen : ms.length ≤ 8) :
    Calls Tryz.prog 9 #[.int .i64 m, .slice A ms.length c] w fun e w' =>
      (newB_ok m ms = true → ∃ N lab, e = .returned (.tuple #[.pointer (some ⟨N, 0, none⟩), .nilIface]) ∧ SysAt w' lab N m 0 [] (ms.map lockOf) 0 [] [] ∧ Below w.heap.size w w' ∧ ∀ b, lab b ≠ 0 → w.heap.size ≤ b) ∧
      (newB_ok m ms = false → (∃ p, e = .returned (.tuple #[.pointer none, .iface 111 p])) ∧ Below w.heap.size w w') := by
  have DM := mnew_calls m A c ms w hr hm1 hm2 hlen
  have DB := fun wx => bnew_calls m wx hm1 hm2
  have DE := fun wx (c : Int) (hc : c ≠ 0) => fault_calls (.string { data := #[110, 101, 119] }) ⟨_, rfl⟩ 0 c wx hc
  unfold NewP at DM
  rw [List.length_map] at DM
  generalize newB_ok m ms = ok at *
  cases ok with
  | false =>
    simp only [Bool.false_eq_true, if_false] at DM
    have h10 : (1 : Int) ≠ 0 := by decide
    clear hr DB
    go_enter Tryz.func9, Tryz.ntmps9
    go_wp2_with (first
      | (go_at_call 19; (with_reducible refine DM.mono ?_); rintro e w1 ⟨rfl, hB1⟩; have HB1 := Lib.hid hB1; clear hB1)
      | (go_at_call 20; (with_reducible refine (DE _ _ h10).mono ?_); rintro e w3 ⟨⟨pf, rfl⟩, hB3⟩; have HB3 := Lib.hid hB3; clear hB3))
    go_ret2
    exact ⟨fun h => absurd h (by decide), fun _ => ⟨⟨pf, rfl⟩, HB1.out.trans (((below_alloc (Below.refl w1.heap.size w1) _).trans (HB3.out.mono (by simp))).mono HB1.out.size)⟩⟩
  | true =>
    simp only [if_true] at DM
    unfold stV at DM
    clear hr DE
    go_enter Tryz.func9, Tryz.ntmps9
    go_upto_region 4 with (go_at_call 19; (with_reducible refine DM.mono ?_); rintro e w1 ⟨A2, c2, rfl, hO1, hB1⟩; have HO1 := Lib.hid hO1; have HB1 := Lib.hid hB1; have HX1 := Lib.hid (blk_new w1 (.cells #[.int .i64 m, .int .i64 0, .slice none 0 0, .slice A2 ms.length c2, .slice none 0 0] 47)); have HB12 := Lib.hid (below_alloc (Below.refl w1.heap.size w1) (.cells #[.int .i64 m, .int .i64 0, .slice none 0 0, .slice A2 ms.length c2, .slice none 0 0] 47)); clear hO1 hB1)
    generalize hw2 : World.alloc _ _ = w2 at *
    have HB2 := Lib.hid (HB1.out.trans (HB12.out.mono HB1.out.size))
    have hs12 : w1.heap.size < w2.heap.size := blk_lt HX1.out
    clear hw2 DM
    go_upto_region 7 with (go_at_call 21; (with_reducible refine (DB _).mono ?_); rintro e w3 ⟨rfl, hb3, hB3⟩; have HBK3 := Lib.hid hb3; have HB3 := Lib.hid hB3; clear hb3 hB3)
    have HX3 := Lib.hid (blk_below HX1.out HB3.out)
    clear DB
    refine start_ (n := 8) (S := fun w' => Hid (Below w3.heap.size w3 w')) (ds := []) #[false, false, false, false, false, false, false, false] (by kernel_rfl) rfl rfl ((Lib.hid (below_drew (Below.refl _ _)))) (fun hHeld => ?_)
    refine with_tabW snew.tab7 snew.bits7 (fun HT_ HW_ => ?_)
    have hbd : Hid (Below w3.heap.size w3 w3.drew) := Lib.hid ⟨rfl, rfl, rfl, Nat.le_refl _, fun _ _ => rfl⟩
    have hsd : w3.heap.size = w3.drew.heap.size := rfl
    generalize hwd : w3.drew = wd at *
    clear hwd
    refine pst (i := 1) (N := some 29) HT_ (h := ?_)
    refine tst (i := 0) (N := some 28) HT_ HW_ hHeld (hy := by (intro w' s0; have y0 := (blk_cell (blk_below HX3.out s0.out) 0).trans rfl; have y1 := (blk_cell (blk_below HX3.out s0.out) 1).trans rfl; have y2 := (blk_cell (blk_below HX3.out s0.out) 2).trans rfl; have y3 := (blk_cell (blk_below HX3.out s0.out) 3).trans rfl; have y4 := (blk_cell (blk_below HX3.out s0.out) 4).trans rfl); go_simp; with_reducible rfl) (h := ?_)
    refine one_ (i := 2) (N := some 30) #[true, true, true, false, false, false, false, false] rfl rfl (one_of HT_.out (by kernel_rfl)) (by decide) (fun K hK => ?_)
    refine goes_ Tryz.func22 (by kernel_rfl) rfl #[.int .i64 32] (by rfl) rfl rfl (by simp only [List.map_toArray, List.map_cons, List.map_nil]; rfl) ?_
    with_reducible refine (inew32 _).mono ?_
    rintro e w5 ⟨rfl, hTab5, hS5, hB5⟩
    refine ⟨_, rfl, ?_⟩
    refine hK.out _ _ ((Lib.hid (hHeld.out.trans (hB5.mono hHeld.out.size)))) (fun hHeld => ?_)
    clear hK K
    refine norm_ (a' := ?_) ?_ ?_
    rotate_left
    · show Act.put _ (some 30) _ = _
      simp only [Act.put, List.setIfInBounds_toArray, List.set_cons_zero, List.set_cons_succ, i64_w, i32_w]
      rfl
    refine one_ (i := 3) (N := some 31) #[true, true, true, true, false, false, false, false] rfl rfl (one_of HT_.out (by kernel_rfl)) (by decide) (fun K hK => ?_)
    refine goes_ Tryz.func22 (by kernel_rfl) rfl #[.int .i64 16] (by rfl) rfl rfl (by simp only [List.map_toArray, List.map_cons, List.map_nil]; rfl) ?_
    with_reducible refine (inew16 _).mono ?_
    rintro e w6 ⟨rfl, hS6, hB6⟩
    refine ⟨_, rfl, ?_⟩
    refine hK.out _ _ ((Lib.hid (hHeld.out.trans (hB6.mono hHeld.out.size)))) (fun hHeld => ?_)
    clear hK K
    refine norm_ (a' := ?_) ?_ ?_
    rotate_left
    · show Act.put _ (some 31) _ = _
      simp only [Act.put, List.setIfInBounds_toArray, List.set_cons_zero, List.set_cons_succ, i64_w, i32_w]
      rfl
    refine pst (i := 4) (N := some 32) HT_ (h := ?_)
    refine one_ (i := 5) (N := some 33) #[true, true, true, true, true, true, false, false] rfl rfl (one_of HT_.out (by kernel_rfl)) (by decide) (fun K hK => ?_)
    refine value_ (w1 := ?_) (v := ?_) (by rfl) rfl ?_ ?_
    rotate_left 2
    · go_simp
      constructor
      · rfl
      · rfl
    refine hK.out _ _ ((Lib.hid (hHeld.out.trans ((below_alloc (Below.refl _ _) _).mono hHeld.out.size)))) (fun hHeld => ?_)
    clear hK K
    refine norm_ (a' := ?_) ?_ ?_
    rotate_left
    · show Act.put _ (some 33) _ = _
      simp only [Act.put, List.setIfInBounds_toArray, List.set_cons_zero, List.set_cons_succ, i64_w, i32_w]
      rfl
    refine pst (i := 6) (N := some 4) HT_ (h := ?_)
    refine pst (i := 7) (N := some 5) HT_ (h := ?_)
    refine done_ (done_of HT_.out (by kernel_rfl)) ?_
    go_wp2
    go_ret2
    have hs6 := hHeld.out.size
    have hs3 := HB3.out.size
    have hN := blk_new w6 (.cells #[.int .i64 m, .int .i64 0, .slice none 0 0, .slice A2 ms.length c2, .slice none 0 0, .pointer (some ⟨w2.heap.size, 0, none⟩), .pointer (some ⟨wd.heap.size + 1, 0, none⟩), .pointer (some ⟨wd.heap.size + 2 + 1, 0, none⟩), .slice none 0 0] 83)
    have hb67 := below_alloc (Below.refl w6.heap.size w6) (.cells #[.int .i64 m, .int .i64 0, .slice none 0 0, .slice A2 ms.length c2, .slice none 0 0, .pointer (some ⟨w2.heap.size, 0, none⟩), .pointer (some ⟨wd.heap.size + 1, 0, none⟩), .pointer (some ⟨wd.heap.size + 2 + 1, 0, none⟩), .slice none 0 0] 83)
    have hs67 : (w6.alloc (.cells #[.int .i64 m, .int .i64 0, .slice none 0 0, .slice A2 ms.length c2, .slice none 0 0, .pointer (some ⟨w2.heap.size, 0, none⟩), .pointer (some ⟨wd.heap.size + 1, 0, none⟩), .pointer (some ⟨wd.heap.size + 2 + 1, 0, none⟩), .slice none 0 0] 83)).heap.size = w6.heap.size + 1 := World.size_alloc _ _
    generalize hw7 : World.alloc _ _ = w7 at *
    clear hw7
    have hs1 := HB1.out.size
    have hbd2 : w2.heap.size < w3.heap.size := blk_lt HBK3.out
    have hB37 := hHeld.out
    have hBw : Below w.heap.size w w7 := HB2.out.trans ((HB3.out.trans (hB37.mono HB3.out.size)).mono HB2.out.size)
    refine ⟨fun _ => ⟨wd.heap.size + 2 + 2, fun b => if b = wd.heap.size + 2 + 2 then 1 else if b = w2.heap.size then 2 else if b = wd.heap.size + 1 then 3 else if b = wd.heap.size then 4 else if w.heap.size ≤ b ∧ b < w1.heap.size then 7 else 0, rfl, ⟨⟨w2.heap.size, wd.heap.size + 1, wd.heap.size, none, 0, A2, c2, none, 0, .pointer (some ⟨wd.heap.size + 2 + 1, 0, none⟩), .slice none 0 0, none, 0, 0, 0, 0, newB w.heap.size, fun b => ∃ cc, (⟨none, 0, A2, c2, noRef, noRef⟩ : OwnR).own cc = some b⟩, ?_⟩, hBw, fun b hb => ?_⟩, fun h => absurd h (by decide)⟩
    · have hF : ∀ b, (∃ cc, (⟨none, 0, A2, c2, noRef, noRef⟩ : OwnR).own cc = some b) → w.heap.size ≤ b ∧ b < w1.heap.size := fun b ⟨cc, hc⟩ => HO1.out.bnd cc b hc
      exact { blk := by
                rw [List.length_map]
                rw [show wd.heap.size + 2 + 2 = w6.heap.size by omega]
                exact hN
              book := blk_below HBK3.out hB37
              ent := Kd.R_nil _ _ _ _ _
              tab := (hTab5.below hB6).below hb67
              ev := Kd.R_nil _ _ _ _ _
              mach := HO1.out.rdf.below (HB12.out.trans ((HB3.out.trans (hB37.mono HB3.out.size)).mono HB12.out.size))
              l1 := if_pos rfl
              l2 := by
                show (if w2.heap.size = wd.heap.size + 2 + 2 then 1 else if w2.heap.size = w2.heap.size then 2 else _) = 2
                rw [if_neg (by omega), if_pos rfl]
              l3 := by
                show (if wd.heap.size + 1 = wd.heap.size + 2 + 2 then 1 else if wd.heap.size + 1 = w2.heap.size then 2 else if wd.heap.size + 1 = wd.heap.size + 1 then 3 else _) = 3
                rw [if_neg (by omega), if_neg (by omega), if_pos rfl]
              l4 := by
                show (if wd.heap.size = wd.heap.size + 2 + 2 then 1 else if wd.heap.size = w2.heap.size then 2 else if wd.heap.size = wd.heap.size + 1 then 3 else if wd.heap.size = wd.heap.size then 4 else _) = 4
                rw [if_neg (by omega), if_neg (by omega), if_neg (by omega), if_pos rfl]
              l5 := fun b hb => by simp [Value.ownBlock] at hb
              l6 := fun b hb => by simp [Value.ownBlock] at hb
              l7 := fun b hb => by
                have := hF b hb
                show (if b = wd.heap.size + 2 + 2 then 1 else if b = w2.heap.size then 2 else if b = wd.heap.size + 1 then 3 else if b = wd.heap.size then 4 else if w.heap.size ≤ b ∧ b < w1.heap.size then 7 else 0) = 7
                rw [if_neg (by omega), if_neg (by omega), if_neg (by omega), if_neg (by omega), if_pos this]
              l8 := fun b hb => hb.elim
              lt := fun b hb => by
                replace hb : (if b = wd.heap.size + 2 + 2 then 1 else if b = w2.heap.size then 2 else if b = wd.heap.size + 1 then 3 else if b = wd.heap.size then 4 else if w.heap.size ≤ b ∧ b < w1.heap.size then 7 else 0) ≠ 0 := hb
                split at hb
                · omega
                · split at hb
                  · omega
                  · split at hb
                    · omega
                    · split at hb
                      · omega
                      · split at hb
                        · omega
                        · exact absurd rfl hb
              bn := by have := hBw.size; exact this
              bb := Nat.zero_le _
              be := Nat.zero_le _ }
    · replace hb : (if b = wd.heap.size + 2 + 2 then 1 else if b = w2.heap.size then 2 else if b = wd.heap.size + 1 then 3 else if b = wd.heap.size then 4 else if w.heap.size ≤ b ∧ b < w1.heap.size then 7 else 0) ≠ 0 := hb
      split at hb
      · omega
      · split at hb
        · omega
        · split at hb
          · omega
          · split at hb
            · omega
            · split at hb
              · omega
              · exact absurd rfl hb
end Go.Proofs.YtfimkmlgnmaopaaGreat.Top
namespace Go.Proofs.YtfimkmlgnmaopaaGreat.Top
open Go.RowKit Go.Proofs.YtfimkmlgnmaopaaGreatW.PrintWords Go.Proofs.YtfimkmlgnmaopaaGreatW.PrintLast Go.Proofs.YtfimkmlgnmaopaaGreatW.PrintMore Go.Proofs.YtfimkmlgnmaopaaGreat.PTopNames
def xJ (b d m dn r : Int) : S57 := ⟨1, ⟨2, 5, b, d, m⟩, [⟨1, [⟨0, 3⟩], 0, dn⟩], 0, 0, 1, r⟩
theorem aw_set0 : settleL 1 0 [xJ 2 5 1 0 0] [] = ([xJ 2 5 1 0 0], [], []) := by kernel_rfl
theorem aw_set1 : settleL 1 1 [xJ 1 5 1 1 1] [] = ([xJ 1 5 1 1 1], [], []) := by kernel_rfl
theorem aw_set2 : settleL 1 2 [xJ 0 5 2 2 2] [] = ([xJ 0 5 2 2 2], [], []) := by kernel_rfl
theorem aw_set5 : settleL 1 5 [xJ 0 5 2 2 2] [] = ([xJ 2 10 1 2 2], [], [⟨5, 5, 1, 0⟩]) := by kernel_rfl
theorem aw_set5b : settleL 1 5 [xJ 2 10 1 2 2] [] = ([xJ 2 10 1 2 2], [], []) := by kernel_rfl
theorem aw_st0 : stillL 1 0 6 [xJ 2 5 1 0 0] [] = 1 := by kernel_rfl
theorem aw_st1 : stillL 1 1 5 [xJ 1 5 1 1 1] [] = 0 := by kernel_rfl
theorem aw_st2 : stillL 1 2 4 [xJ 0 5 2 2 2] [] = 3 := by kernel_rfl
theorem aw_st5 : stillL 1 5 1 [xJ 2 10 1 2 2] [] = 0 := by kernel_rfl
theorem aw_sk0 : skipL 1 1 [xJ 2 5 1 0 0] = [xJ 1 5 1 1 1] := by kernel_rfl
theorem aw_sk2 : skipL 1 3 [xJ 0 5 2 2 2] = [xJ 0 5 2 2 2] := by kernel_rfl
theorem aw_tk1 : tickL 1 1 [xJ 1 5 1 1 1] [] = ([xJ 0 5 2 2 2], [], [⟨2, 4, 1, 0⟩]) := by kernel_rfl
theorem aw_tk5 : tickL 1 5 [xJ 2 10 1 2 2] [] = ([⟨1, ⟨2, 5, 1, 10, 0⟩, [], 0, 0, 1, 3⟩], [], [⟨6, 2, 1, 1⟩, ⟨6, 10, 1, 0⟩]) := by kernel_rfl
theorem aw_pl1 : placesOf 1 [xJ 1 5 1 1 1] = [0] := by kernel_rfl
theorem aw_pl5 : placesOf 1 [xJ 2 10 1 2 2] = [0] := by kernel_rfl
theorem aw_go : goL 6 1 0 6 [xJ 2 5 1 0 0] [] = ([⟨1, ⟨2, 5, 1, 10, 0⟩, [], 0, 0, 1, 3⟩], [], [⟨2, 4, 1, 0⟩, ⟨5, 5, 1, 0⟩, ⟨6, 2, 1, 1⟩, ⟨6, 10, 1, 0⟩]) := by kernel_rfl
def awI (now : Int) (l : List S57) (q : List S63) : Prop := q = [] ∧ ((now = 0 ∧ l = [xJ 2 5 1 0 0]) ∨ (now = 1 ∧ l = [xJ 1 5 1 1 1]) ∨ (now = 2 ∧ l = [xJ 0 5 2 2 2]) ∨ (now = 5 ∧ l = [xJ 0 5 2 2 2]) ∨ (now = 6 ∧ l = [⟨1, ⟨2, 5, 1, 10, 0⟩, [], 0, 0, 1, 3⟩]))
theorem aw_job {d : Int} (h0 : 0 ≤ d) (h1 : d ≤ 3) : JobOk ⟨1, [⟨0, 3⟩], 0, d⟩ := ⟨by show (1 : Int) ≤ 1; decide, by show pgoodB [⟨0, 3⟩] = true; decide, by show (0 : Int) ≤ 0; decide, by show (0 : Int) < ((1 : Nat) : Int); decide, h0, h1⟩
theorem aw_cbs {b d m : Int} (h0 : 0 ≤ b) (h1 : b ≤ 2) (h2 : 0 ≤ d) (h3 : d ≤ 10) (h4 : 0 ≤ m) (h5 : m ≤ 2) (h6 : m = 1 → 0 < b) : CbsOk ⟨2, 5, b, d, m⟩ := ⟨by show (1 : Int) ≤ 2; decide, by show (2 : Int) ≤ 5; decide, by show (5 : Int) ≤ 2147483648; decide, h0, h1, h2, by show d ≤ _; omega, h4, h5, h6⟩
theorem aw_sane (x : S57) (h : x.f0 = 1) : Sane 1 [x] := ⟨by decide, by decide, by simp, by simp [Sorted], fun k hk => by
  obtain rfl : k = 0 := by simp at hk; omega
  simp [h], by
  have h1 : fixes (readyL [x]) ≤ 1 := by
    rw [fixes_count]
    have := List.countP_le_length (p := fixd) (l := [x])
    simpa using this
  omega⟩
theorem aw_mok {now b d m dn r : Int} (n0 : 0 ≤ now) (n1 : now ≤ 6) (hc : CbsOk ⟨2, 5, b, d, m⟩) (hd0 : 0 ≤ dn) (hd1 : dn ≤ 3) : MOk 1 now [xJ b d m dn r] [] where
  sane := aw_sane _ rfl
  now0 := n0
  now1 := by omega
  cbs := fun k hk => by
    obtain rfl : k = 0 := by simp at hk; omega
    exact hc
  job := fun k hk => by
    obtain rfl : k = 0 := by simp at hk; omega
    intro j hj
    obtain rfl : j = ⟨1, [⟨0, 3⟩], 0, dn⟩ := by simpa [xJ] using hj
    exact ⟨aw_job hd0 hd1, fun s hs => by
      obtain rfl : s = ⟨0, 3⟩ := by simpa using hs
      decide⟩
  jlen := fun k hk => by
    obtain rfl : k = 0 := by simp at hk; omega
    show 1 ≤ 8
    decide
  mode := fun k hk h => by
    obtain rfl : k = 0 := by simp at hk; omega
    simp [xJ]
  qlen := by simp
  most := fun k hk => by simp at hk
  room := fun k hk => by simp at hk
theorem aw_still {now b d m dn r : Int} (n0 : 0 ≤ now) (n1 : now ≤ 6) (hc : CbsOk ⟨2, 5, b, d, m⟩) (hd0 : 0 ≤ dn) (hd1 : dn ≤ 3) : StillOk 1 now [xJ b d m dn r] [] where
  sane := aw_sane _ rfl
  now0 := n0
  now1 := by omega
  cbs := fun k hk => by
    obtain rfl : k = 0 := by simp at hk; omega
    exact hc
  run := (aw_mok n0 n1 hc hd0 hd1).run
  held := fun k hk => by
    obtain rfl : k = 0 := by simp at hk; omega
    exact ⟨by show (0 : Int) ≤ 0; decide, by show (0 : Int) ≤ _; decide⟩
  lock := fun k hk _ h => by
    obtain rfl : k = 0 := by simp at hk; omega
    exact absurd h (by show ¬ (0 : Int) = 2; decide)
  most := fun k hk => by simp at hk
theorem aw_tick {now b d dn r : Int} (n0 : 0 ≤ now) (n1 : now ≤ 6) (hc : CbsOk ⟨2, 5, b, d, 1⟩) (hd0 : 0 ≤ dn) (hd1 : dn ≤ 2) (hr : 0 ≤ r ∧ r ≤ 6) (hs : settleL 1 now [xJ b d 1 dn r] [] = ([xJ b d 1 dn r], [], [])) (hp : placesOf 1 [xJ b d 1 dn r] = [0]) (he : EndOk (runAll [xJ b d 1 dn r] [0]) [] 0) : TickOk 1 now [xJ b d 1 dn r] [] where
  ok := aw_mok n0 n1 hc hd0 (by omega)
  sane := by rw [hs]; exact aw_sane _ rfl
  run := by
    rw [hs, hp]
    intro p hp2
    obtain rfl : p = 0 := by simpa using hp2
    refine ⟨by simp, hc, rfl, ⟨_, [], rfl, aw_job hd0 (by omega), fun _ => by show dn + 1 ≤ 3; omega⟩, ⟨hr.1, ?_⟩, ?_⟩
    · show r ≤ _; omega
    · exact ⟨by show (0 : Int) ≤ 0; decide, by show (0 : Int) ≤ _; decide⟩
  ends := by
    rw [hs]
    dsimp only
    rw [hp]
    intro k hk
    obtain rfl : k = 0 := by simp at hk; omega
    exact he
theorem aw_skip {n b d dn r m : Int} (hn : 1 ≤ n) (hn2 : n ≤ 6) (hc : CbsOk ⟨2, 5, b, d, 1⟩) (hb : n ≤ b) (hd0 : 0 ≤ dn) (hd1 : dn + n ≤ 3) (hr : 0 ≤ r ∧ r ≤ 6) (hm : m = 1) : SkipOk 1 n [xJ b d m dn r] where
  sane := aw_sane _ rfl
  n1 := hn
  nm := by omega
  run := fun k hk _ => by
    subst hm
    obtain rfl : k = 0 := by simp at hk; omega
    exact ⟨hc, rfl, hb, ⟨_, [], rfl, aw_job hd0 (by omega), fun _ => by show dn + n ≤ 3; omega⟩, ⟨hr.1, by show r ≤ _; omega⟩, by show (0 : Int) ≤ 0; decide, by show (0 : Int) ≤ _; decide⟩
theorem aw_skip2 : SkipOk 1 3 [xJ 0 5 2 2 2] where
  sane := aw_sane _ rfl
  n1 := by decide
  nm := by decide
  run := fun k hk h => by
    obtain rfl : k = 0 := by simp at hk; omega
    have h2 : runsL 1 [xJ 0 5 2 2 2] = [] := by kernel_rfl
    rw [h2] at h
    exact absurd h (by simp)
theorem aw_ends {b d m dn r : Int} (hc : CbsOk ⟨2, 5, b, d, m⟩) (hm : m ≠ 0) (hd0 : 0 ≤ dn) (hd1 : dn ≤ 3) : EndOk [xJ b d m dn r] [] 0 where
  sorted := by simp [Sorted]
  len := by simp
  qlen := by simp
  que := fun k hk => by simp at hk
  at_ := ⟨by simp, hc, hm, _, [], rfl, aw_job hd0 hd1, by show (0 : Int) ≤ 0; decide, fun h => absurd h (by show ¬ (0 : Int) = 2; decide)⟩
theorem aw_end1 : EndOk (runAll [xJ 1 5 1 1 1] [0]) [] 0 := by
  have e : runAll [xJ 1 5 1 1 1] [0] = [xJ 0 5 2 2 2] := by kernel_rfl
  rw [e]
  exact aw_ends (aw_cbs (by decide) (by decide) (by decide) (by decide) (by decide) (by decide) (by decide)) (by decide) (by decide) (by decide)
theorem aw_end5 : EndOk (runAll [xJ 2 10 1 2 2] [0]) [] 0 := by
  have e : runAll [xJ 2 10 1 2 2] [0] = [xJ 1 10 1 3 3] := by kernel_rfl
  rw [e]
  exact aw_ends (aw_cbs (by decide) (by decide) (by decide) (by decide) (by decide) (by decide) (by decide)) (by decide) (by decide) (by decide)
theorem aw_inv : GoInv 1 6 awI where
  ok := fun now l q ⟨hq, h⟩ hlt => by
    subst hq
    rcases h with ⟨rfl, rfl⟩ | ⟨rfl, rfl⟩ | ⟨rfl, rfl⟩ | ⟨rfl, rfl⟩ | ⟨rfl, rfl⟩
    · rw [aw_set0]; exact ⟨aw_mok (by decide) (by decide) (aw_cbs (by decide) (by decide) (by decide) (by decide) (by decide) (by decide) (by decide)) (by decide) (by decide), aw_still (by decide) (by decide) (aw_cbs (by decide) (by decide) (by decide) (by decide) (by decide) (by decide) (by decide)) (by decide) (by decide)⟩
    · rw [aw_set1]; exact ⟨aw_mok (by decide) (by decide) (aw_cbs (by decide) (by decide) (by decide) (by decide) (by decide) (by decide) (by decide)) (by decide) (by decide), aw_still (by decide) (by decide) (aw_cbs (by decide) (by decide) (by decide) (by decide) (by decide) (by decide) (by decide)) (by decide) (by decide)⟩
    · rw [aw_set2]; exact ⟨aw_mok (by decide) (by decide) (aw_cbs (by decide) (by decide) (by decide) (by decide) (by decide) (by decide) (by decide)) (by decide) (by decide), aw_still (by decide) (by decide) (aw_cbs (by decide) (by decide) (by decide) (by decide) (by decide) (by decide) (by decide)) (by decide) (by decide)⟩
    · rw [aw_set5]; exact ⟨aw_mok (by decide) (by decide) (aw_cbs (by decide) (by decide) (by decide) (by decide) (by decide) (by decide) (by decide)) (by decide) (by decide), aw_still (by decide) (by decide) (aw_cbs (by decide) (by decide) (by decide) (by decide) (by decide) (by decide) (by decide)) (by decide) (by decide)⟩
    · omega
  skip := fun now l q ⟨hq, h⟩ hlt => by
    subst hq
    rcases h with ⟨rfl, rfl⟩ | ⟨rfl, rfl⟩ | ⟨rfl, rfl⟩ | ⟨rfl, rfl⟩ | ⟨rfl, rfl⟩
    · rw [aw_set0]
      dsimp only
      rw [show (6 : Int) - 0 = 6 from rfl, aw_st0, aw_sk0]
      exact fun _ => ⟨aw_skip (m := 1) (by decide) (by decide) (aw_cbs (by decide) (by decide) (by decide) (by decide) (by decide) (by decide) (by decide)) (by decide) (by decide) (by decide) (by decide) (by decide), by decide, rfl, .inr (.inl ⟨rfl, rfl⟩)⟩
    · rw [aw_set1]
      dsimp only
      rw [show (6 : Int) - 1 = 5 from rfl, aw_st1]
      exact fun h => absurd h (by decide)
    · rw [aw_set2]
      dsimp only
      rw [show (6 : Int) - 2 = 4 from rfl, aw_st2, aw_sk2]
      exact fun _ => ⟨aw_skip2, by decide, rfl, .inr (.inr (.inr (.inl ⟨rfl, rfl⟩)))⟩
    · rw [aw_set5]
      dsimp only
      rw [show (6 : Int) - 5 = 1 from rfl, aw_st5]
      exact fun h => absurd h (by decide)
    · omega
  tick := fun now l q ⟨hq, h⟩ hlt => by
    subst hq
    rcases h with ⟨rfl, rfl⟩ | ⟨rfl, rfl⟩ | ⟨rfl, rfl⟩ | ⟨rfl, rfl⟩ | ⟨rfl, rfl⟩
    · rw [aw_set0]
      dsimp only
      rw [show (6 : Int) - 0 = 6 from rfl, aw_st0]
      exact fun h => absurd h (by decide)
    · rw [aw_set1]
      dsimp only
      rw [aw_tk1]
      exact fun _ => ⟨aw_tick (by decide) (by decide) (aw_cbs (by decide) (by decide) (by decide) (by decide) (by decide) (by decide) (by decide)) (by decide) (by decide) (by decide) aw_set1 aw_pl1 aw_end1, rfl, .inr (.inr (.inl ⟨rfl, rfl⟩))⟩
    · rw [aw_set2]
      dsimp only
      rw [show (6 : Int) - 2 = 4 from rfl, aw_st2]
      exact fun h => absurd h (by decide)
    · rw [aw_set5]
      dsimp only
      rw [aw_tk5]
      exact fun _ => ⟨aw_tick (by decide) (by decide) (aw_cbs (by decide) (by decide) (by decide) (by decide) (by decide) (by decide) (by decide)) (by decide) (by decide) (by decide) aw_set5b aw_pl5 aw_end5, rfl, .inr (.inr (.inr (.inr ⟨rfl, rfl⟩)))⟩
    · omega
end Go.Proofs.YtfimkmlgnmaopaaGreat.Top
namespace Go.Proofs.YtfimkmlgnmaopaaGreat.Top
open Go.RowKit Go.Proofs.YtfimkmlgnmaopaaGreatW.PrintWords Go.Proofs.YtfimkmlgnmaopaaGreatW.PrintLast Go.Proofs.YtfimkmlgnmaopaaGreatW.PrintMore Go.Proofs.YtfimkmlgnmaopaaGreat.PTopNames
set_option linter.unusedVariables false
set_option linter.unusedSimpArgs false
def awX : S57 := ⟨1, ⟨2, 5, 1, 10, 0⟩, [], 0, 0, 1, 3⟩
def awE (t k n : Int) : List Value := [.int .i64 t, .int .i64 k, .int .i64 1, .int .i64 n]
def awEs : List (List Value) := [awE 0 1 1, awE 0 9 0, awE 2 4 0, awE 5 5 0, awE 6 2 1, awE 6 10 0]
theorem aw_new (w : World) : Calls Tryz.prog 9 #[.int .i64 1, .slice none 0 0] w fun e w' => ∃ N lab, e = .returned (.tuple #[.pointer (some ⟨N, 0, none⟩), .nilIface]) ∧ SysAt w' lab N 1 0 [] [] 0 [] [] ∧ Below w.heap.size w w' ∧ ∀ b, lab b ≠ 0 → w.heap.size ≤ b :=
  (snew_calls 1 none 0 [] w (C_nil' _ _ _) (by decide) (by decide) (by decide)).mono fun e w' h => h.1 (by kernel_rfl)
theorem aw_open (N : Nat) (lab : Nat → Nat) (w : World) (h : SysAt w lab N 1 0 [] [] 0 [] []) : Calls Tryz.prog 18 #[.pointer (some ⟨N, 0, none⟩), .int .i64 2, .int .i64 5] w fun e w' => e = .returned (.tuple #[.int .u32 0, .nilIface]) ∧ (∃ lab', SysAt w' lab' N 1 0 [newServ 1 2 5] [] 1 [⟨1, ⟨2, 5⟩, -1⟩] [] ∧ Grew w lab lab') ∧ Turn w w' (fun b => lab b ≠ 0) :=
  (sopen_calls N lab 1 0 [] [] 0 [] [] w h ⟨by simp [Sorted], by decide, by decide, by decide, by simp, by simp, by simp, by decide, by simp, by simp⟩ 2 5 (by decide) (by decide) (by decide)).mono fun e w' h => h.2 (by kernel_rfl)
theorem aw_rel (N : Nat) (lab : Nat → Nat) (bk : List S157) (w : World) (h : SysAt w lab N 1 0 [newServ 1 2 5] [] 1 bk []) (Ap : Option Addr) (cp : Nat) (hP : Kd.C k72 w Ap 1 [⟨0, 3⟩]) : Calls Tryz.prog 11 #[.pointer (some ⟨N, 0, none⟩), .int .u32 0, .slice Ap 1 cp] w fun e w' => e = .returned (.tuple #[.int .i64 1, .nilIface]) ∧ (∃ lab', SysAt w' lab' N 1 0 [xJ 2 5 1 0 0] [] 1 bk [awE 0 1 1, awE 0 9 0] ∧ Grew w lab lab') ∧ Turn w w' (fun b => lab b ≠ 0) :=
  (srel_calls N lab 1 0 [newServ 1 2 5] [] 1 bk [] w h 0 (by decide) (by decide) rfl ⟨by simp [Sorted], by decide, by decide, fun k hk => by
    obtain rfl : k = 0 := by simp at hk; omega
    show 0 ≤ 8
    decide, by simp, by decide, by decide, ⟨by decide, by decide, by decide, by decide, by decide, by decide, by decide, by decide, by decide, by decide⟩, by decide, by decide⟩ (by decide) (by simp) Ap cp [⟨0, 3⟩] hP).mono fun e w' h => h.2 (by kernel_rfl)
theorem aw_goes (N : Nat) (lab : Nat → Nat) (bk : List S157) (w : World) (h : SysAt w lab N 1 0 [xJ 2 5 1 0 0] [] 1 bk [awE 0 1 1, awE 0 9 0]) : Calls Tryz.prog 14 #[.pointer (some ⟨N, 0, none⟩), .int .i64 6] w fun e w' => e = .returned .nilIface ∧ (∃ lab', SysAt w' lab' N 1 6 [awX] [] 1 bk awEs ∧ Grew w lab lab') ∧ Turn w w' (fun b => lab b ≠ 0) :=
  (gos_calls N lab 1 0 6 [xJ 2 5 1 0 0] [] 1 bk [awE 0 1 1, awE 0 9 0] w h (by decide) awI aw_inv ⟨rfl, .inl ⟨rfl, rfl⟩⟩ (by decide) (by decide) (by decide) (by decide)).mono fun e w' h => by
    have h2 := h.2.2
    have e6 : goL (6 : Int).toNat 1 0 (0 + 6) [xJ 2 5 1 0 0] [] = ([awX], [], [⟨2, 4, 1, 0⟩, ⟨5, 5, 1, 0⟩, ⟨6, 2, 1, 1⟩, ⟨6, 10, 1, 0⟩]) := aw_go
    rw [e6] at h2
    exact ⟨h.1, h2⟩
theorem aw_events (N : Nat) (lab : Nat → Nat) (bk : List S157) (w : World) (h : SysAt w lab N 1 6 [awX] [] 1 bk awEs) : Calls Tryz.prog 17 #[.pointer (some ⟨N, 0, none⟩)] w fun e w' => ∃ ad c, e = .returned (.slice (some ad) 6 c) ∧ (Kd.raw 4).C w' (some ad) 6 awEs ∧ Turn w w' (fun b => lab b ≠ 0) :=
  (eventss_calls N lab 1 6 [awX] [] 1 bk awEs w h (by decide)).mono fun e w' ⟨v, e1, hR, _, hT⟩ => by
    obtain ⟨A, c, rfl, hc, hC⟩ := Kd.R_reads hR
    obtain ⟨ad, rfl, _⟩ := hC.2.2 (by decide)
    exact ⟨ad, c, e1, hC, hT⟩
theorem lit72 (w : World) (x : S72) : Kd.C k72 (w.alloc (.cells #[.int .i64 x.f0, .int .i64 x.f1] 72)) (some ⟨w.heap.size, 0, none⟩) 1 [x] := by
  refine ⟨rfl, by simp, fun _ => ⟨_, rfl, fun j y hy => ?_⟩⟩
  have hb := blk_new w (.cells #[.int .i64 x.f0, .int .i64 x.f1] 72)
  cases j with
  | zero =>
    simp only [List.getElem?_cons_zero, Option.some.injEq] at hy
    subst hy
    refine ⟨_, rfl, k72_mk _ _, fun i u hu => ?_⟩
    rw [Nat.zero_mul, Nat.zero_add, addr_at, Nat.zero_add, blk_cell hb]
    match i, hu with
    | 0, h => exact h
    | 1, h => exact h
    | i + 2, h => simp at h
  | succ j => simp at hy
theorem ev_at {w : World} {ad : Addr} {n : Nat} {xs : List (List Value)} (h : (Kd.raw 4).C w (some ad) n xs) {k : Nat} (hk : k < xs.length) (x0 x1 x2 x3 : Value) (hx : xs[k] = [x0, x1, x2, x3]) :
    w.cell? (ad.add (k * 4)) = some x0 ∧ w.cell? ⟨(ad.add (k * 4)).block, (ad.add (k * 4)).off + 1, none⟩ = some x1 ∧ w.cell? ⟨(ad.add (k * 4)).block, (ad.add (k * 4)).off + 2, none⟩ = some x2 ∧ w.cell? ⟨(ad.add (k * 4)).block, (ad.add (k * 4)).off + 3, none⟩ = some x3 := by
  obtain ⟨ad2, e2, hc⟩ := h.2.2 (by have := h.1; omega)
  injection e2 with e2
  subst e2
  obtain ⟨cs, hl, hK, hcell⟩ := hc k [x0, x1, x2, x3] (by rw [List.getElem?_eq_getElem hk, hx])
  have e : cs = [x0, x1, x2, x3] := by first | exact hK.1 | exact hK.1.symm
  subst e
  refine ⟨?_, ?_, ?_, ?_⟩
  · exact hcell 0 _ rfl
  · rw [← addr_next ad (k * 4) 0]; exact hcell 1 _ rfl
  · rw [← addr_next ad (k * 4) 1]; exact hcell 2 _ rfl
  · rw [← addr_next ad (k * 4) 2]; exact hcell 3 _ rfl
set_option maxHeartbeats 4000000 in
set_option maxRecDepth 100000 in
theorem awake_calls (w : World) : Calls Tryz.prog 7 #[] w fun e w' => e = .returned (.bool true) ∧ Below w.heap.size w w' := by
  have D1 := aw_new w
  go_enter Tryz.func7, Tryz.ntmps7
  go_upto_region 4 with (go_at_call 9; (with_reducible refine D1.mono ?_); rintro e w1 ⟨N, lab, rfl, h1, hB1, hl1⟩; have H1 := Lib.hid h1; have HB1 := Lib.hid hB1; have HL1 := Lib.hid hl1; clear h1 hB1 hl1)
  clear D1
  have D2 := aw_open N lab w1 H1.out
  go_upto_region 5 with (go_at_call 18; (with_reducible refine D2.mono ?_); rintro e w2 ⟨rfl, ⟨lab2, h2, hg2⟩, hT2⟩; have H2 := Lib.hid h2; have HG2 := Lib.hid hg2; have HT2 := Lib.hid hT2; clear h2 hg2 hT2)
  clear D2
  have HP3 := Lib.hid (lit72 w2 ⟨0, 3⟩)
  have HB23 := Lib.hid (below_alloc (Below.refl w2.heap.size w2) (.cells #[.int .i64 0, .int .i64 3] 72))
  have DR := fun wx (hb : Below w2.heap.size w2 wx) Ap cp hP => aw_rel N lab2 _ wx (H2.out.below hb) Ap cp hP
  go_upto_region 6 with (go_at_call 11; (with_reducible refine (DR _ HB23.out _ _ HP3.out).mono ?_); rintro e w4 ⟨rfl, ⟨lab4, h4, hg4⟩, hT4⟩; have H4 := Lib.hid h4; have HG4 := Lib.hid hg4; have HT4 := Lib.hid hT4; clear h4 hg4 hT4)
  clear DR
  have D6 := aw_goes N lab4 _ w4 H4.out
  go_upto_region 7 with (go_at_call 14; (with_reducible refine D6.mono ?_); rintro e w5 ⟨rfl, ⟨lab5, h5, hg5⟩, hT5⟩; have H5 := Lib.hid h5; have HG5 := Lib.hid hg5; have HT5 := Lib.hid hT5; clear h5 hg5 hT5)
  clear D6
  have D7 := aw_events N lab5 _ w5 H5.out
  go_upto_region 8 with (go_at_call 17; (with_reducible refine D7.mono ?_); rintro e w6 ⟨ad, c6, rfl, hC6, hT6⟩; have HC6 := Lib.hid hC6; have HT6 := Lib.hid hT6; clear hC6 hT6)
  clear D7
  obtain ⟨e0, e1, e2, e3⟩ := ev_at HC6.out (k := 4) (by decide) (.int .i64 6) (.int .i64 2) (.int .i64 1) (.int .i64 1) rfl
  replace e0 : w6.cell? ⟨ad.block, ad.off + 16, none⟩ = some (.int .i64 6) := e0
  replace e1 : w6.cell? ⟨ad.block, ad.off + 16 + 1, none⟩ = some (.int .i64 2) := e1
  replace e2 : w6.cell? ⟨ad.block, ad.off + 16 + 2, none⟩ = some (.int .i64 1) := e2
  replace e3 : w6.cell? ⟨ad.block, ad.off + 16 + 3, none⟩ = some (.int .i64 1) := e3
  go_wp2
  go_ret
  have s1 := HB1.out.size
  have s2 := HT2.out.size
  have s3 := HB23.out.size
  have s4 := HT4.out.size
  have s5 := HT5.out.size
  have l2 : ∀ b, lab2 b ≠ 0 → w.heap.size ≤ b := fun b hb => (HG2.out b hb).elim (HL1.out b) (fun h => by omega)
  have l4 : ∀ b, lab4 b ≠ 0 → w.heap.size ≤ b := fun b hb => (HG4.out b hb).elim (l2 b) (fun h => by omega)
  have l5 : ∀ b, lab5 b ≠ 0 → w.heap.size ≤ b := fun b hb => (HG5.out b hb).elim (l4 b) (fun h => by omega)
  exact ⟨rfl, Turn.below (Turn.below (Turn.below ((Turn.below HB1.out HT2.out HL1.out s1).trans (HB23.out.mono (by omega))) HT4.out l2 (by omega)) HT5.out l4 (by omega)) HT6.out l5 (by omega)⟩
end Go.Proofs.YtfimkmlgnmaopaaGreat.Top
namespace Go.Proofs.YtfimkmlgnmaopaaGreat.Top
open Go.RowKit Go.Proofs.YtfimkmlgnmaopaaGreatW.PrintWords Go.Proofs.YtfimkmlgnmaopaaGreatW.PrintLast Go.Proofs.YtfimkmlgnmaopaaGreatW.PrintMore Go.Proofs.YtfimkmlgnmaopaaGreat.PTopNames
set_option maxHeartbeats 4000000 in
set_option maxRecDepth 100000 in
theorem names_calls (w : World) : Calls Tryz.prog 3 #[] w fun e w' => e = .returned (.bool true) ∧ Below w.heap.size w w' := by
  have D := awake_calls w
  go_enter Tryz.func3, Tryz.ntmps3
  go_wp2_with (go_at_call 7; (with_reducible refine D.mono ?_); rintro e w1 ⟨rfl, hB1⟩)
  go_ret
  exact ⟨rfl, hB1⟩
end Go.Proofs.YtfimkmlgnmaopaaGreat.Top
