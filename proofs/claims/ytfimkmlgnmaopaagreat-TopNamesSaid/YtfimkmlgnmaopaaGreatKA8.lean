/- Part 8 of what is proved of the functions that the law reaches (contracts of functions, plain laws): no condition but those that each theorem names. -/
import Derived.Test.YtfimkmlgnmaopaaGreatKA7
namespace Go.Proofs.YtfimkmlgnmaopaaGreat.Top
open Go.RowKit Go.Proofs.YtfimkmlgnmaopaaGreatW.PrintWords Go.Proofs.YtfimkmlgnmaopaaGreatW.PrintLast Go.Proofs.YtfimkmlgnmaopaaGreatW.PrintMore Go.Proofs.YtfimkmlgnmaopaaGreat.PTopNames
set_option linter.unusedVariables false
set_option linter.unusedSimpArgs false
def relw.T12 : Bool × List (List Nat × List Nat) := (true, [([], []), ([], []), ([1], [1]), ([2], [2]), ([3], [3]), ([], []), ([5], [5]), ([4, 6], [4, 6]), ([0, 0, 1, 2, 3, 4, 5, 6, 7], [0]), ([8, 0, 1, 2, 3, 4, 5, 6, 7], [8]), ([9, 7, 7, 0, 1, 2, 3, 4, 5, 6, 7], [7, 9])])
def relw.B12 : List Nat := [0, 0, 2, 6, 14, 0, 32, 126, 255, 511, 1023]
theorem relw.tab12 : rtab .any (opsOf Tryz.f24 12) = relw.T12 := by kernel_rfl
theorem relw.bits12 : waitsOk relw.T12.2 relw.B12 = true := by kernel_rfl
def relw.T13 : Bool × List (List Nat × List Nat) := (true, [([], []), ([], []), ([], []), ([2], [2]), ([3], [3]), ([4], [4]), ([0, 1, 5], [0, 1, 5]), ([6], [6]), ([7, 6, 0, 1, 2, 3, 4, 5, 6, 7], [7])])
def relw.B13 : List Nat := [0, 0, 0, 4, 12, 28, 63, 127, 255]
theorem relw.tab13 : rtab .any (opsOf Tryz.f24 13) = relw.T13 := by kernel_rfl
theorem relw.bits13 : waitsOk relw.T13.2 relw.B13 = true := by kernel_rfl
def relw.T15 : Bool × List (List Nat × List Nat) := (true, [([], []), ([0], [0]), ([1], [1]), ([2], [2]), ([], []), ([4], [4]), ([3, 5], [3, 5]), ([6], [6]), ([7], [7]), ([7], [7]), ([], []), ([10, 8, 6, 0, 1, 2, 3, 4, 5, 6, 7, 8, 10], [8, 10]), ([9, 11, 0, 1, 2, 3, 4, 5, 6, 7, 8, 9, 10, 11], [9])])
def relw.B15 : List Nat := [0, 1, 3, 7, 0, 16, 63, 127, 255, 255, 0, 1535, 4095]
theorem relw.tab15 : rtab .any (opsOf Tryz.f24 15) = relw.T15 := by kernel_rfl
theorem relw.bits15 : waitsOk relw.T15.2 relw.B15 = true := by kernel_rfl
structure RelOk (now : Int) (l : List S57) (q : List S63) (i : Nat) (hi : i < l.length) : Prop where
  sorted : Sorted l
  len : l.length ≤ 12
  qlen : q.length ≤ 8
  jobs : ∀ k (h : k < l.length), l[k].f2.length ≤ 8
  que : ∀ n (h : n < q.length), q[n].f2.length ≤ 100000
  now0 : 0 ≤ now
  now1 : now ≤ 2305843009213693952
  cbs : CbsOk l[i].f1
  num0 : 0 ≤ l[i].f5
  num1 : l[i].f5 ≤ 1152921504606846976
structure RelW (M now : Int) (l : List S57) (q : List S63) (B : Bd) (i : Nat) (x : S57) (P : List S72) (w : World) (A' : Option Addr) (A2' : Option Addr) (v : Value) (w' : World) : Prop where
  R : ∃ F B', RdF w' F B' A' (l.set i (relX now P x)) A2' q ∧ (∀ b, B'.G b → B.G b ∨ w.heap.size ≤ b) ∧ (∀ b, B.G b → B'.G b) ∧ B'.n ≤ w'.heap.size ∧ (∀ b, F b → w.heap.size ≤ b ∧ b < w'.heap.size ∧ v.ownBlock ≠ some b) ∧ (∀ b, v.ownBlock = some b → ¬ B'.G b)
  E : (Kd.raw 4).R 67 w' w.heap.size (fun _ => True) v ((relE now x).map Ev.cells)
  Bl : Below w.heap.size w w'
def RelP (M now : Int) (l : List S57) (q : List S63) (B : Bd) (i : Nat) (x : S57) (P : List S72) (st0 : Value) (w : World) (e : Ending) (w' : World) : Prop :=
  (relC q.length P x ≠ 0 → e = .returned (.tuple #[st0, .slice none 0 0, .int .i64 (relC q.length P x)]) ∧ Below w.heap.size w w') ∧
  (relC q.length P x = 0 → ∃ A' c' A2' c2' A4 c4 v, e = .returned (.tuple #[stV M now A' l.length c' A2' q.length c2' A4 c4, v, .int .i64 0]) ∧ RelW M now l q B i x P w A' A2' v w')
theorem RelAt.turn {w w' : World} {B : Bd} {g : Nat} {l : List S57} {r : Nat → Ref} {A2 : Option Addr} {q : List S63} {F : Nat → Prop} (h : RelAt w B g l r A2 q F) {S : Nat → Prop} (ht : Turn w w' S) (hS : ∀ b, S b → ¬ F b ∧ ¬ B.G b ∧ b ≠ g) : RelAt w' B g l r A2 q F where
  row := h.row.turn ht (fun e => (hS g e).2.2 rfl)
  rest := fun W' hW => h.rest W' (fun b hb2 hlt => by rw [hW b hb2 (Nat.lt_of_lt_of_le hlt ht.size)]; exact ht.block b hlt (fun e => hb2.elim (hS b e).1 (hS b e).2.1))
  ne := h.ne
  lt := ⟨fun b e => Nat.lt_of_lt_of_le (h.lt.1 b e) ht.size, Nat.le_trans h.lt.2 ht.size⟩
  len := h.len
theorem RelW.fin {M now : Int} {l : List S57} {q : List S63} {B B' : Bd} {i : Nat} {x : S57} {P : List S72} {w wx wf : World} {g N : Nat} {r : Nat → Ref} {A2' : Option Addr} {F : Nat → Prop} {v : Value} {lx : List S57} {E : List Ev} (hR : RelAt wx B' g lx r A2' q F) (hlx : lx = l.set i (relX now P x)) (ht : Turn wx wf (fun b => b = w.heap.size + 1)) (hE : (Kd.raw 4).R 67 wx w.heap.size (fun _ => True) v (E.map Ev.cells)) (hEE : E = relE now x) (hv : ∀ b, v.ownBlock = some b → N ≤ b) (hF : ∀ b, (b = g ∨ F b) → w.heap.size + 1 < b ∧ b < N) (hG : ∀ b, B'.G b → B.G b ∨ w.heap.size + 1 < b) (hG2 : ∀ b, B.G b → B'.G b) (hGn : B'.n ≤ N) (hBw : B.n ≤ w.heap.size) (hb : Below w.heap.size w wx) (hN : w.heap.size + 1 < N) (hNx : N ≤ wx.heap.size) : RelW M now l q B i x P w (some ⟨g, 0, none⟩) A2' v wf := by
  subst hlx hEE
  have hs := ht.size
  refine ⟨⟨_, B', hR.rdf.keep ht (fun b e => ⟨fun h => by have := (hF b h).1; omega, fun h => ?_⟩), fun b h => (hG b h).imp (fun h => h) (fun h => by omega), hG2, by omega, fun b h => ⟨by have := (hF b h).1; omega, by have := (hF b h).2; omega, fun e => by have := hv b e; have := (hF b h).2; omega⟩, fun b e h => by have := hv b e; have := B'.lt b h; omega⟩, Kd.R_reok rfl (Kd.R_step (Kd.R_tight rfl hE) (fun b hb hlt => ht.block b hlt (fun e => by have := hv b hb.symm; omega))) (fun _ _ => trivial), Turn.below hb ht (fun b e => by omega) hb.size⟩
  rcases hG b h with h | h
  · have := B.lt b h; omega
  · omega
theorem raw125 {w : World} {num : Int} {A : Option Addr} {n c : Nat} {a b : Int} : (Kd.raw 4).C (w.alloc (.cells #[.int .i64 num, .slice A n c, .int .i64 a, .int .i64 b] 125)) (some ⟨w.heap.size, 0, none⟩) 1 [[.int .i64 num, .slice A n c, .int .i64 a, .int .i64 b]] := by
  refine ⟨rfl, by simp, fun _ => ⟨_, rfl, fun j x hx => ?_⟩⟩
  have hb := blk_new w (.cells #[.int .i64 num, .slice A n c, .int .i64 a, .int .i64 b] 125)
  cases j with
  | zero =>
    simp only [List.getElem?_cons_zero, Option.some.injEq] at hx
    subst hx
    refine ⟨_, rfl, ⟨rfl, rfl, fun u hu => by simp only [List.mem_cons, List.not_mem_nil, or_false] at hu; rcases hu with rfl | rfl | rfl | rfl <;> rfl⟩, fun i u hu => ?_⟩
    rw [Nat.zero_mul, Nat.zero_add, addr_at, Nat.zero_add, blk_cell hb]
    match i, hu with
    | 0, h => exact h
    | 1, h => exact h
    | 2, h => exact h
    | 3, h => exact h
    | i + 4, h => simp at h
  | succ j => simp at hx
set_option maxHeartbeats 8000000 in
set_option maxRecDepth 100000 in
theorem rel_calls (M now : Int) (A : Option Addr) (l : List S57) (c : Nat) (A2 : Option Addr) (q : List S63) (c2 : Nat) (A3 : Option Addr) (c3 : Nat) (B : Bd) (i : Nat) (hi : i < l.length) (Ap : Option Addr) (cp : Nat) (P : List S72) (w : World) (hw : B.n ≤ w.heap.size) (hr : Rd w B A l A2 q) (hP : Kd.C k72 w Ap P.length P) (hk : RelOk now l q i hi) :
    Calls Tryz.prog 24 #[stV M now A l.length c A2 q.length c2 A3 c3, .int .i64 l[i].f0, .slice Ap P.length cp] w fun e w' => RelP M now l q B i l[i] P (stV M now A l.length c A2 q.length c2 A3 c3) w e w' := by
  have hl12 := hk.len
  have hcbs := hk.cbs
  have hn0 := hk.num0
  have hn1 := hk.num1
  have DA := fun wx (hb : Below w.heap.size w wx) => at_calls M now A c l (.slice A2 q.length c2) (.slice A3 0 c3) l[i].f0 wx (hr.below hb).reads hk.sorted (by omega) ⟨_, _, _, rfl⟩ ⟨_, _, _, rfl⟩
  have DM := fun wx (hb : Below w.heap.size w wx) => mosts_calls M now A l.length c A2 q c2 A3 c3 wx (Kd.C_below hr.lock hb) hk.qlen
  have DF := fun wx (hb : Below w.heap.size w wx) A' c' => fits_calls Ap cp P A' q.length c' wx (Kd.C_below hP hb)
  have DC := fun wx (hb : Below w.heap.size w wx) => clone_calls M now A l c A2 q c2 A3 c3 B wx (Nat.le_trans hw hb.size) (hr.below hb) (by omega) (by have := hk.qlen; omega) (fun i h => by have := hk.jobs i h; omega) hk.que
  have DJ := fun wx (hb : Below w.heap.size w wx) (hg : pgoodB P = true) => jnew_calls (l[i].f5 + 1) Ap cp P wx (Kd.C_below hP hb) hg (by omega)
  rw [ahead_at hk.sorted hi, isAt_at hi] at DA
  obtain ⟨ad, J, cJ, rfl, hc57⟩ := cells57 hr.reads hi
  have HJ8 := Lib.hid (hk.jobs i hi)
  have HSO := Lib.hid hk.sorted
  have e6 := hc57.e6
  have HNOW0 := Lib.hid hk.now0
  have HNOW1 := Lib.hid hk.now1
  have HLI : Hid (l[i] = l[i]) := Lib.hid rfl
  have HJ6 := Lib.hid (hk.jobs i hi)
  unfold RelP
  have HREL : Hid (relC q.length P l[i] = if fitsB q.length P = true then (if 8 ≤ l[i].f2.length then 3 else 0) else 1) := Lib.hid rfl
  have HFG : Hid (fitsB q.length P = true → pgoodB P = true) := Lib.hid (fun h => by unfold fitsB at h; simp only [Bool.and_eq_true] at h; exact h.1)
  generalize relC q.length P l[i] = code at *
  generalize fitsB q.length P = fit at *
  have i0 : (0 : Int) ≤ (i : Int) := by omega
  have i1 : (i : Int) < (l.length : Int) := by omega
  clear hc57 hr hP hk
  unfold stV at *
  have HB0 := Lib.hid (below_alloc (below_alloc (Below.refl w.heap.size w) (.cells #[.int .i64 M, .int .i64 now, .slice (some ad) l.length c, .slice A2 q.length c2, .slice A3 0 c3] 47)) (.cells #[.int .i64 0, .int .i64 0, .slice none 0 0, .slice none 0 0, .slice none 0 0] 47))
  have h2 := two_blocks (w := w) (x := #[.int .i64 M, .int .i64 now, .slice (some ad) l.length c, .slice A2 q.length c2, .slice A3 0 c3]) (y := #[.int .i64 0, .int .i64 0, .slice none 0 0, .slice none 0 0, .slice none 0 0]) (tx := 47) (ty := 47) (Below.refl _ _)
  have HX0 := Lib.hid h2.1
  have HZ0 := Lib.hid h2.2.1
  clear h2
  go_enter Tryz.func24, Tryz.ntmps24
  go_upto_region 4 with (go_at_call 32; (with_reducible refine (DA _ HB0.out).mono ?_); rintro e w1 ⟨rfl, hB1⟩; have HX1 := Lib.hid (blk_below HX0.out hB1); have HZ1 := Lib.hid (blk_below HZ0.out hB1); have HB1 := Lib.hid (HB0.out.trans (hB1.mono HB0.out.size)); clear hB1)
  clear HX0 HZ0 HB0 DA
  have x0 := (blk_cell HX1.out 0).trans rfl
  have x1 := (blk_cell HX1.out 1).trans rfl
  have x2 := (blk_cell HX1.out 2).trans rfl
  have x3 := (blk_cell HX1.out 3).trans rfl
  have x4 := (blk_cell HX1.out 4).trans rfl
  have HP8 : Hid (∀ wx, Below w1.heap.size w1 wx → wx.heap[w.heap.size]? = some (.cells #[.int .i64 M, .int .i64 now, .slice (some ad) l.length c, .slice A2 q.length c2, .slice A3 0 c3] 47 (0, 0)) ∧ wx.heap[w.heap.size + 1]? = some (.cells #[.int .i64 0, .int .i64 0, .slice none 0 0, .slice none 0 0, .slice none 0 0] 47 (0, 0)) ∧ Below w.heap.size w wx) := Lib.hid (fun wx hb => ⟨blk_below HX1.out hb, blk_below HZ1.out hb, HB1.out.trans (hb.mono HB1.out.size)⟩)
  cases fit with
  | false =>
    go_wp2_with (first
      | (go_at_call 44; (with_reducible refine (DM _ HB1.out).mono ?_); rintro e w2 ⟨A5, c5, rfl, hB2⟩; have HB2 := Lib.hid hB2; clear hB2)
      | (go_at_call 43; (with_reducible refine (DF _ (HP8.out _ HB2.out).2.2 _ _).mono ?_); rintro e w3 ⟨rfl, hB3⟩; obtain ⟨hx, hz, hb⟩ := HP8.out _ (HB2.out.trans (hB3.mono HB2.out.size)); have HZ3 := Lib.hid hz; have HB3 := Lib.hid hb; have y0 := (blk_cell hx 0).trans rfl; have y1 := (blk_cell hx 1).trans rfl; have y2 := (blk_cell hx 2).trans rfl; have y3 := (blk_cell hx 3).trans rfl; have y4 := (blk_cell hx 4).trans rfl; have z0 := (blk_cell hz 0).trans rfl; have z1 := (blk_cell hz 1).trans rfl; have z2 := (blk_cell hz 2).trans rfl; have z3 := (blk_cell hz 3).trans rfl; have z4 := (blk_cell hz 4).trans rfl; have f0 := blk_frozen hz 0; have f1 := blk_frozen hz 1; have f2 := blk_frozen hz 2; have f3 := blk_frozen hz 3; have f4 := blk_frozen hz 4; clear hB3 hx hz hb))
    obtain rfl : code = 1 := HREL.out
    have hz9 := blk_put (cs' := #[.int .i64 M, .int .i64 now, .slice (some ad) l.length c, .slice A2 q.length c2, .slice A3 0 c3]) (blk_put (blk_put (blk_put (blk_put HZ3.out 0 (.int .i64 M) rfl) 1 (.int .i64 now) rfl) 2 (.slice (some ad) l.length c) rfl) 3 (.slice A2 q.length c2) rfl) 4 (.slice A3 0 c3) rfl
    refine bodyPost_ret (results_ctt rfl _ _ (w.heap.size + 1) 47 #[.int .i64 M, .int .i64 now, .slice (some ad) l.length c, .slice A2 q.length c2, .slice A3 0 c3] (0, 0) _ rfl hz9 Tryz.underlying47 rfl (by kernel_rfl)) rfl ?_
    exact ⟨fun _ => ⟨rfl, Turn.below HB3.out ((((((Turn.refl w3 (fun b => b = w.heap.size + 1)).set rfl 0 (.int .i64 M)).set rfl 1 (.int .i64 now)).set rfl 2 (.slice (some ad) l.length c)).set rfl 3 (.slice A2 q.length c2)).set rfl 4 (.slice A3 0 c3)) (fun b e => by omega) HB3.out.size⟩, fun h => absurd h (by decide)⟩
  | true =>
    by_cases h8 : 8 ≤ l[i].f2.length
    · have g8 : decide ((l[i].f2.length : Int) ≥ 8) = true := by simp; omega
      go_wp2_with (first
        | (go_at_call 44; (with_reducible refine (DM _ HB1.out).mono ?_); rintro e w2 ⟨A5, c5, rfl, hB2⟩; have HB2 := Lib.hid hB2; clear hB2)
        | (go_at_call 43; (with_reducible refine (DF _ (HP8.out _ HB2.out).2.2 _ _).mono ?_); rintro e w3 ⟨rfl, hB3⟩; obtain ⟨hx, hz, hb⟩ := HP8.out _ (HB2.out.trans (hB3.mono HB2.out.size)); have HX3 := Lib.hid hx; have HZ3 := Lib.hid hz; have HB3 := Lib.hid hb; have y0 := (blk_cell hx 0).trans rfl; have y1 := (blk_cell hx 1).trans rfl; have y2 := (blk_cell hx 2).trans rfl; have y3 := (blk_cell hx 3).trans rfl; have y4 := (blk_cell hx 4).trans rfl; have z0 := (blk_cell hz 0).trans rfl; have z1 := (blk_cell hz 1).trans rfl; have z2 := (blk_cell hz 2).trans rfl; have z3 := (blk_cell hz 3).trans rfl; have z4 := (blk_cell hz 4).trans rfl; have f0 := blk_frozen hz 0; have f1 := blk_frozen hz 1; have f2 := blk_frozen hz 2; have f3 := blk_frozen hz 3; have f4 := blk_frozen hz 4; have e6 := (HB3.out.cell (World.block_lt_of_cell? _ _ e6)).trans e6; clear hB3 hx hz hb))
      obtain rfl : code = 3 := by have := HREL.out; simp only [if_true, if_pos h8] at this; exact this
      have hz9 := blk_put (cs' := #[.int .i64 M, .int .i64 now, .slice (some ad) l.length c, .slice A2 q.length c2, .slice A3 0 c3]) (blk_put (blk_put (blk_put (blk_put HZ3.out 0 (.int .i64 M) rfl) 1 (.int .i64 now) rfl) 2 (.slice (some ad) l.length c) rfl) 3 (.slice A2 q.length c2) rfl) 4 (.slice A3 0 c3) rfl
      refine bodyPost_ret (results_ctt rfl _ _ (w.heap.size + 1) 47 #[.int .i64 M, .int .i64 now, .slice (some ad) l.length c, .slice A2 q.length c2, .slice A3 0 c3] (0, 0) _ rfl hz9 Tryz.underlying47 rfl (by kernel_rfl)) rfl ?_
      exact ⟨fun _ => ⟨rfl, Turn.below HB3.out ((((((Turn.refl w3 (fun b => b = w.heap.size + 1)).set rfl 0 (.int .i64 M)).set rfl 1 (.int .i64 now)).set rfl 2 (.slice (some ad) l.length c)).set rfl 3 (.slice A2 q.length c2)).set rfl 4 (.slice A3 0 c3)) (fun b e => by omega) HB3.out.size⟩, fun h => absurd h (by decide)⟩
    · have g8 : decide ((l[i].f2.length : Int) ≥ 8) = false := by simp; omega
      obtain rfl : code = 0 := by have := HREL.out; simp only [if_true, if_neg h8] at this; exact this
      have HEND : Hid (∀ (e : Ending) (w' : World), (∃ A' c' A2' c2' A4 c4 v, e = .returned (.tuple #[stV M now A' l.length c' A2' q.length c2' A4 c4, v, .int .i64 0]) ∧ RelW M now l q B i l[i] P w A' A2' v w') → (((0 : Int) ≠ 0 → e = .returned (.tuple #[.agg #[.int .i64 M, .int .i64 now, .slice (some ad) l.length c, .slice A2 q.length c2, .slice A3 0 c3], .slice none 0 0, .int .i64 0]) ∧ Below w.heap.size w w') ∧ ((0 : Int) = 0 → ∃ A' c' A2' c2' A4 c4 v, e = .returned (.tuple #[.agg #[.int .i64 M, .int .i64 now, .slice A' l.length c', .slice A2' q.length c2', .slice A4 0 c4], v, .int .i64 0]) ∧ RelW M now l q B i l[i] P w A' A2' v w'))) := Lib.hid (fun e w' h => ⟨fun h0 => absurd rfl h0, fun _ => h⟩)
      go_upto_region 9 with (first
        | (go_at_call 44; (with_reducible refine (DM _ HB1.out).mono ?_); rintro e w2 ⟨A5, c5, rfl, hB2⟩; have HB2 := Lib.hid hB2; clear hB2)
        | (go_at_call 43; (with_reducible refine (DF _ (HP8.out _ HB2.out).2.2 _ _).mono ?_); rintro e w3 ⟨rfl, hB3⟩; obtain ⟨hx, hz, hb⟩ := HP8.out _ (HB2.out.trans (hB3.mono HB2.out.size)); have HX3 := Lib.hid hx; have HZ3 := Lib.hid hz; have HB3 := Lib.hid hb; have y0 := (blk_cell hx 0).trans rfl; have y1 := (blk_cell hx 1).trans rfl; have y2 := (blk_cell hx 2).trans rfl; have y3 := (blk_cell hx 3).trans rfl; have y4 := (blk_cell hx 4).trans rfl; have z0 := (blk_cell hz 0).trans rfl; have z1 := (blk_cell hz 1).trans rfl; have z2 := (blk_cell hz 2).trans rfl; have z3 := (blk_cell hz 3).trans rfl; have z4 := (blk_cell hz 4).trans rfl; have f0 := blk_frozen hz 0; have f1 := blk_frozen hz 1; have f2 := blk_frozen hz 2; have f3 := blk_frozen hz 3; have f4 := blk_frozen hz 4; have e6 := (HB3.out.cell (World.block_lt_of_cell? _ _ e6)).trans e6; clear hB3 hx hz hb)
        | (go_at_call 25; (with_reducible refine (DC _ HB3.out).mono ?_); rintro e w4 ⟨o, A4, c4, rfl, hO4, _, hJ4, hown4, hB4⟩; have HO4 := Lib.hid hO4; have HJ4 := Lib.hid hJ4; have HW4 := Lib.hid hown4; have HX4 := Lib.hid (blk_below HX3.out hB4); have HZ4 := Lib.hid (blk_below HZ3.out hB4); have HB4 := Lib.hid (HB3.out.trans (hB4.mono HB3.out.size)); have HS34 := Lib.hid hB4.size; clear hO4 hJ4 hown4 hB4))
      obtain ⟨g, hg, _⟩ := HO4.out.row (by intro e; rw [e] at hi; simp at hi)
      rw [hg]
      have HG := Lib.hid hg
      have HN5 := Lib.hid (blk_new w4 (.cells #[.int .i64 M, .int .i64 now, .slice (some ⟨g, 0, none⟩) l.length o.c, .slice o.A2 q.length o.c2, .slice A4 0 c4] 47))
      have HB45 : Hid (Below w4.heap.size w4 (w4.alloc (.cells #[.int .i64 M, .int .i64 now, .slice (some ⟨g, 0, none⟩) l.length o.c, .slice o.A2 q.length o.c2, .slice A4 0 c4] 47))) := Lib.hid (below_alloc (Below.refl _ _) _)
      generalize hw5 : World.alloc _ _ = w5 at *
      have HO5 := Lib.hid (HO4.out.below HB45.out)
      obtain ⟨rr, hR4, hp4⟩ := HJ4.out i hi
      have HR5 := Lib.hid (Kd.R_below hR4 HB45.out)
      have HP5 := Lib.hid (hp4.below HB45.out)
      have hL4 : ∀ cc b, o.own cc = some b → b < w4.heap.size := fun cc b h => (HO4.out.bnd cc b h).2
      have HL4 := Lib.hid hL4
      have hgo : o.own .g = some g := by show o.A.map _ = _; rw [hg]; rfl
      have hgl : w.heap.size + 1 < g := by have h1 := HW4.out .g g hgo; have h2 := blk_lt HZ3.out; omega
      have hg4 := hL4 .g g hgo
      obtain ⟨hrow, hserv⟩ := HO5.out.cells hi hg
      have r9 := hserv.e9
      have f9 := hrow.free (i * 11 + 9)
      have x2' := (blk_cell HN5.out 2).trans rfl
      have hw9 : IntKind.i64.wrap (l[i].f5 + 1) = l[i].f5 + 1 := by rw [i64_w]; unfold Go.RowKit.wrap64; omega
      have HROW := Lib.hid hrow
      have hX4 := HX4.out
      have HX5 := Lib.hid (blk_below HX4.out HB45.out)
      have HZ5 := Lib.hid (blk_below HZ4.out HB45.out)
      have HB5 := Lib.hid (HB4.out.trans (HB45.out.mono HB4.out.size))
      have hs45 := HB45.out.size
      clear hw5 hg hrow hserv hR4 hp4 hL4 HJ4 HO4 hX4 HX4 HZ4 HB4
      go_upto_region 11 with fail
      have HRow6 := Lib.hid (serv_set HROW.out (rows_at hi) (j := 9) (by omega) (.int .i64 (l[i].f5 + 1)))
      have HT6 := Lib.hid ((Turn.refl w5 (fun b => b = g)).set rfl (i * 11 + 9) (.int .i64 (l[i].f5 + 1)))
      generalize hws : World.setCell _ _ _ = w6 at *
      clear hws r9 f9 hw9 x2' HROW
      have HO6 : Hid (Own w6 B (l.set i { l[i] with f5 := l[i].f5 + 1 }) q o) := Lib.hid (HO5.out.serv0 hi { l[i] with f5 := l[i].f5 + 1 } rfl HG.out HT6.out HRow6.out)
      have HR6 : Hid ((Kd.raw 4).R 125 w6 B.n (fun b => o.own (.j i) = some b) (.slice (o.r i).1 l[i].f2.length (o.r i).2) (rowsOf jobRow l[i].f2 rr)) := Lib.hid (Kd.R_reok rfl (Kd.R_step (Kd.R_tight rfl HR5.out) (fun b hb hlt => HT6.out.block b hlt (fun e => by
        have h1 := HR5.out.1 b hb.symm
        subst e
        have := HO5.out.apart _ _ _ h1 hgo
        cases this))) (fun b hb => HR5.out.1 b hb))
      obtain ⟨l6, hl6⟩ : ∃ l6, l6 = l.set i { l[i] with f5 := l[i].f5 + 1 } := ⟨_, rfl⟩
      rw [← hl6] at HO6
      have HLEN : Hid (l6.length = l.length) := Lib.hid (by rw [hl6]; simp)
      have HSET : Hid (∀ x : S57, l6.set i x = l.set i x) := Lib.hid (fun x => by rw [hl6]; simp)
      have HAT6 : Hid (∀ h : i < l6.length, l6[i] = { l[i] with f5 := l[i].f5 + 1 }) := Lib.hid (fun h => by subst hl6; simp)
      clear hl6
      have hne1 := fun (k : Nat) (hk : k < w5.heap.size) (hn : k ≠ g) => HT6.out.block k hk hn
      have HX6 := Lib.hid ((hne1 _ (blk_lt HX5.out) (by omega)).trans HX5.out)
      have HZ6 := Lib.hid ((hne1 _ (blk_lt HZ5.out) (by omega)).trans HZ5.out)
      have HN6 := Lib.hid ((hne1 _ (blk_lt HN5.out) (by omega)).trans HN5.out)
      have HB6 : Hid (Below w.heap.size w w6) := Lib.hid (Turn.below HB5.out HT6.out (fun b e => by omega) (by have := blk_lt HZ5.out; omega))
      have HP6 : Hid (Progs w6 B l[i].f2 rr) := Lib.hid (HP5.out.mv ⟨HT6.out.os, HT6.out.tape, HT6.out.output, HT6.out.size, fun b hb => HT6.out.block b (by have := HO5.out.old; omega) (fun e => by have := (HO5.out.bnd .g g hgo).1; omega)⟩)
      have hs6 : w4.heap.size < w6.heap.size := by have := blk_lt HN6.out; omega
      have hi6 : i < l6.length := by rw [HLEN.out]; exact hi
      obtain ⟨hrow, hserv⟩ := HO6.out.cells hi6 HG.out
      have r9 := hserv.e9
      rw [HAT6.out hi6] at r9
      dsimp only at r9
      have HROW6 := Lib.hid hrow
      have hpg := HFG.out trivial
      have hnum : 1 ≤ l[i].f5 + 1 := by omega
      clear HRow6 HT6 HO5 HR5 HP5 HN5 HX5 HZ5 HB5 HB45 hne1 hrow hserv HFG HREL
      go_upto_region 12 with (go_at_call 45; (with_reducible refine (DJ _ HB6.out hpg).mono ?_); rintro e w7 ⟨Aj, cj, rfl, hcj, hCj, hgej, hB7⟩; have HCJ := Lib.hid (And.intro hcj hCj); have HGJ := Lib.hid hgej; have HB67 := Lib.hid hB7; clear hcj hCj hgej hB7)
      have HJB := Lib.hid (blk_new w7 (.cells #[.int .i64 (l[i].f5 + 1), .slice Aj P.length cj, .int .i64 0, .int .i64 0] 125))
      have HB68 : Hid (Below w6.heap.size w6 (w7.alloc (.cells #[.int .i64 (l[i].f5 + 1), .slice Aj P.length cj, .int .i64 0, .int .i64 0] 125))) := Lib.hid (below_alloc HB67.out _)
      have HC8 : Hid (P.length ≤ cj ∧ Kd.C k72 (w7.alloc (.cells #[.int .i64 (l[i].f5 + 1), .slice Aj P.length cj, .int .i64 0, .int .i64 0] 125)) Aj P.length P) := Lib.hid ⟨HCJ.out.1, Kd.C_below HCJ.out.2 (below_alloc (Below.refl _ _) _)⟩
      have hs78 : w7.heap.size < (w7.alloc (.cells #[.int .i64 (l[i].f5 + 1), .slice Aj P.length cj, .int .i64 0, .int .i64 0] 125)).heap.size := by simp
      generalize hw8 : World.alloc _ _ = w8 at *
      have hs67 := HB67.out.size
      have HO8 := Lib.hid (HO6.out.below HB68.out)
      have HR8 := Lib.hid (Kd.R_below HR6.out HB68.out)
      have HP8' := Lib.hid (HP6.out.below HB68.out)
      have HX8 := Lib.hid (blk_below HX6.out HB68.out)
      have HZ8 := Lib.hid (blk_below HZ6.out HB68.out)
      have HN8 := Lib.hid (blk_below HN6.out HB68.out)
      have HB8 := Lib.hid (HB6.out.trans (HB68.out.mono HB6.out.size))
      have HROW8 := Lib.hid (HROW6.out.below HB68.out)
      have r6 := (serv_at HROW8.out hi6).e6
      rw [HAT6.out hi6] at r6
      dsimp only at r6
      have j0 := (blk_cell HJB.out 0).trans rfl
      have j1 := (blk_cell HJB.out 1).trans rfl
      have j2 := (blk_cell HJB.out 2).trans rfl
      have j3 := (blk_cell HJB.out 3).trans rfl
      clear hw8 HCJ HB67 HO6 HR6 HP6 HX6 HZ6 HN6 HROW6 r9 HB6
      have hgj : (Value.slice (o.r i).1 l[i].f2.length (o.r i).2).ownBlock ≠ some g := fun e => by have := HO8.out.apart _ _ _ (HR8.out.1 g e) hgo; cases this
      have hrl : (rowsOf jobRow l[i].f2 rr).length = l[i].f2.length := rowsOf_len
      have HRL := Lib.hid hrl
      have hl8 : l[i].f2.length < 8 := by omega
      have hBo := HO8.out.old
      generalize hrows : rowsOf jobRow l[i].f2 rr = rows at *
      have HRWS := Lib.hid hrows
      clear hrows hrl
      refine start_ (n := 11) (S := fun w' => Hid (Below w8.heap.size w8 w')) (ds := [7, 10]) #[false, false, false, false, false, false, false, false, false, false, false] (by kernel_rfl) rfl rfl ((Lib.hid (below_drew (Below.refl _ _)))) (fun hHeld => ?_)
      refine with_tabW relw.tab12 relw.bits12 (fun HT_ HW_ => ?_)
      have hbd : Hid (Below w8.heap.size w8 w8.drew) := Lib.hid ⟨rfl, rfl, rfl, Nat.le_refl _, fun _ _ => rfl⟩
      have hsd : w8.heap.size = w8.drew.heap.size := rfl
      generalize hwd : w8.drew = wd at *
      clear hwd
      refine pst (i := 0) (N := some 67) HT_ (h := ?_)
      refine pst (i := 1) (N := some 68) HT_ (h := ?_)
      refine pst (i := 2) (N := some 69) HT_ (h := ?_)
      refine pst (i := 3) (N := some 70) HT_ (h := ?_)
      refine tst (i := 4) (N := some 71) HT_ HW_ hHeld (hy := by (intro w' s0; have e0 := (s0.out.cell (World.block_lt_of_cell? _ _ r6)).trans r6; have e1 := (s0.out.cell (World.block_lt_of_cell? _ _ j0)).trans j0; have e2 := (s0.out.cell (World.block_lt_of_cell? _ _ j1)).trans j1; have e3 := (s0.out.cell (World.block_lt_of_cell? _ _ j2)).trans j2; have e4 := (s0.out.cell (World.block_lt_of_cell? _ _ j3)).trans j3); go_simp; with_reducible rfl) (h := ?_)
      refine tst (i := 5) (N := some 72) HT_ HW_ hHeld (hy := by (intro w' s0; have e0 := (s0.out.cell (World.block_lt_of_cell? _ _ r6)).trans r6; have e1 := (s0.out.cell (World.block_lt_of_cell? _ _ j0)).trans j0; have e2 := (s0.out.cell (World.block_lt_of_cell? _ _ j1)).trans j1; have e3 := (s0.out.cell (World.block_lt_of_cell? _ _ j2)).trans j2; have e4 := (s0.out.cell (World.block_lt_of_cell? _ _ j3)).trans j3); go_simp; with_reducible rfl) (h := ?_)
      refine one_ (i := 6) (N := some 73) #[true, true, true, true, true, true, true, false, false, false, false] rfl rfl (one_of HT_.out (by kernel_rfl)) (by decide) (fun K hK => ?_)
      refine value_ (w1 := ?_) (v := ?_) (by rfl) rfl ?_ ?_
      rotate_left 2
      · go_simp
        constructor
        · rfl
        · rfl
      refine hK.out _ _ ((Lib.hid (hHeld.out.trans ((below_alloc (Below.refl _ _) _).mono hHeld.out.size)))) (fun hHeld => ?_)
      clear hK K
      refine norm_ (a' := ?_) ?_ ?_
      rotate_left
      · show Act.put _ (some 73) _ = _
        simp only [Act.put, List.setIfInBounds_toArray, List.set_cons_zero, List.set_cons_succ, i64_w, i32_w]
        rfl
      refine last_ (i := 7) (N := some 74) #[true, true, true, true, true, true, true, true, false, false, false] rfl rfl (one_of HT_.out (by kernel_rfl)) (by decide) (fun K hK => ?_)
      have hR9 : (Kd.raw 4).R 125 (wd.alloc (.cells #[.int .i64 (l[i].f5 + 1), .slice Aj P.length cj, .int .i64 0, .int .i64 0] 125)) B.n (fun _ => True) (.slice (o.r i).1 l[i].f2.length (o.r i).2) rows := Kd.R_reok rfl (Kd.R_alloc (Kd.R_below (Kd.R_tight rfl HR8.out) hbd.out) _) (fun _ _ => trivial)
      refine Kd.R_append_rows_step (Kd.raw 4) (Rr := (Kd.raw 4).K (wd.alloc (.cells #[.int .i64 (l[i].f5 + 1), .slice Aj P.length cj, .int .i64 0, .int .i64 0] 125))) (w0 := (wd.alloc (.cells #[.int .i64 (l[i].f5 + 1), .slice Aj P.length cj, .int .i64 0, .int .i64 0] 125))) B.n (by rfl) (.tmp 71) (.tmp 73) 55 125 (.agg #[.int .i64 0, .slice none 0 0, .int .i64 0, .int .i64 0]) 48 rfl Tryz.underlying55 info125 rfl (by decide) (by omega) (.slice (o.r i).1 l[i].f2.length (o.r i).2) rows [[.int .i64 (l[i].f5 + 1), .slice Aj P.length cj, .int .i64 0, .int .i64 0]] (some ⟨wd.heap.size, 0, none⟩) 1 1 (fun _ => True) (fun _ => False) (by rfl) (by rfl) hR9 raw125 (fun _ _ h => h) (fun _ h => h.elim) (fun _ _ => trivial) (Below.refl _ _) (by first | (simp only [World.size_alloc]; omega) | omega) (by rw [HRL.out]; first | omega | (simp only [List.length_cons, List.length_nil]; omega)) ?_
      intro v7 w10 hR10 hB10 hg10 hat10
      have HT10 := Lib.hid (grown_turn hg10)
      have HAT10 := Lib.hid hat10
      have HR10 := Lib.hid hR10
      obtain ⟨A7, c7, e7⟩ := Kd.R_slice hR10
      have hl7 : (rows ++ [([.int .i64 (l[i].f5 + 1), .slice Aj P.length cj, .int .i64 0, .int .i64 0] : List Value)]).length = l[i].f2.length + 1 := by rw [List.length_append, HRL.out]; rfl
      rw [hl7] at e7
      subst e7
      have HB89 := Lib.hid (hHeld.out)
      clear hl7 hR9 hR10 hB10 hg10 hat10
      refine hK.out _ _ ?_
      clear hK K
      refine norm_ (a' := ?_) ?_ ?_
      rotate_left
      · show Act.put _ (some 74) _ = _
        simp only [Act.put, List.setIfInBounds_toArray, List.set_cons_zero, List.set_cons_succ, i64_w, i32_w]
        rfl
      refine pst (i := 8) (N := some 75) HT_ (h := ?_)
      refine pst (i := 9) (N := some 76) HT_ (h := ?_)
      refine last_ (i := 10) (N := none) #[true, true, true, true, true, true, true, true, true, true, true] rfl rfl (one_of HT_.out (by kernel_rfl)) (by decide) (fun K hK => ?_)
      have hd8 := HROW8.out.below hbd.out
      have hr9 := (hd8.below (below_alloc (Below.refl _ _) (.cells #[.int .i64 (l[i].f5 + 1), .slice Aj P.length cj, .int .i64 0, .int .i64 0] 125))).turn HT10.out (fun e => hgj e.symm)
      have y6 := (serv_at hr9 hi6).e6
      have y7 := hr9.free (i * 11 + 6)
      refine skip_ (w1 := ?_) (by rfl) rfl ?_ ?_
      rotate_left
      · go_simp
        rfl
      have HROW11 := Lib.hid (serv_set hr9 (rows_at hi6) (j := 6) (by omega) (.slice A7 (l[i].f2.length + 1) c7))
      have HT11 := Lib.hid ((Turn.refl w10 (fun b => b = g)).set rfl (i * 11 + 6) (.slice A7 (l[i].f2.length + 1) c7))
      clear y6 y7 hr9 hd8
      generalize hws : World.setCell _ _ _ = w11 at *
      clear hws
      refine hK.out _ _ ?_
      clear hK K
      refine done_ (done_of HT_.out (by kernel_rfl)) ?_
      have hj9 : (wd.alloc (.cells #[.int .i64 (l[i].f5 + 1), .slice Aj P.length cj, .int .i64 0, .int .i64 0] 125)).heap.size = wd.heap.size + 1 := by simp
      have HB9 : Hid (Below w8.heap.size w8 (wd.alloc (.cells #[.int .i64 (l[i].f5 + 1), .slice Aj P.length cj, .int .i64 0, .int .i64 0] 125))) := HB89
      generalize hw9 : World.alloc _ _ = w9 at *
      clear hw9 hHeld HT_ HW_ r6 j0 j1 j2 j3 HB89
      have HO9 := HO8.out.below HB9.out
      have hgB := (HO9.bnd .g g hgo).1
      have HJo : Hid (∀ b, (Value.slice (o.r i).1 l[i].f2.length (o.r i).2).ownBlock = some b → o.own (.j i) = some b) := Lib.hid (fun b e => HR8.out.1 b e)
      have HTT : Hid (Turn w9 w11 (fun b => b = g ∨ o.own (.j i) = some b)) := Lib.hid ((HT10.out.imp (fun b e => .inr (HJo.out b e.symm))).trans (HT11.out.imp (fun b e => .inl e)))
      have hg8 : g < w8.heap.size := (HO8.out.bnd .g g hgo).2
      have hng7 : (Value.slice A7 (l[i].f2.length + 1) c7).ownBlock ≠ some g := fun e => by
        rcases HAT10.out with h | ⟨b, h, hle⟩
        · rw [h] at e; exact hgj e
        · rw [h] at e; injection e with e; omega
      have HR11 : Hid ((Kd.raw 4).R 125 w11 B.n (fun _ => True) (.slice A7 (l[i].f2.length + 1) c7) (rows ++ [[.int .i64 (l[i].f5 + 1), .slice Aj P.length cj, .int .i64 0, .int .i64 0]])) := Lib.hid (Kd.R_reok rfl (Kd.R_step (Kd.R_tight rfl HR10.out) (fun b hb hlt => HT11.out.block b hlt (fun e => by subst e; exact hng7 hb.symm))) (fun _ _ => trivial))
      obtain ⟨B', hBn, hBG⟩ : ∃ B' : Bd, B'.n = w9.heap.size ∧ ∀ b, B'.G b ↔ (B.G b ∨ (Aj.map (·.block) = some b ∧ b < w9.heap.size)) := ⟨⟨w9.heap.size, fun b => B.G b ∨ (Aj.map (·.block) = some b ∧ b < w9.heap.size), fun b hb => hb.elim (fun h => by have := B.lt b h; omega) (fun h => h.2)⟩, rfl, fun _ => Iff.rfl⟩
      have hAj : ∀ b, Aj.map (·.block) = some b → w6.heap.size ≤ b := fun b hb => by
        cases Aj with
        | none => simp at hb
        | some a => have := HGJ.out a rfl; simp at hb; omega
      have HREL11 : Hid (RelAt w11 B' g (l.set i { l[i] with f2 := l[i].f2 ++ [⟨l[i].f5 + 1, P, 0, 0⟩], f5 := l[i].f5 + 1 }) (upd o.r i (A7, c7)) o.A2 q (fun b => (∃ c, c ≠ .g ∧ c ≠ .j i ∧ o.own c = some b) ∨ (Value.slice A7 (l[i].f2.length + 1) c7).ownBlock = some b)) := Lib.hid (by
        have e6f : l6[i].f2 = l[i].f2 := by rw [HAT6.out hi6]
        obtain ⟨A8, c8, e8, hc8, _⟩ := Kd.R_reads HR11.out
        injection e8 with e9 e10 e11
        have h := Own.rel (w := w9) (w' := w11) (B' := B') (N1 := w4.heap.size) (rr := rr) (A7 := A7) (c7 := c7) (base := B.n) HO9 hi6 HG.out HL4.out (fun b h => (hBG b).2 (.inl h)) (fun b h => ((hBG b).1 h).imp (fun h => h) (fun h => by have := hAj b h.1; omega)) (by omega) (by omega) ⟨l[i].f5 + 1, P, 0, 0⟩ (Aj, cj) ⟨HC8.out.1, fun W' hW => F72 (Kd.C_below HC8.out.2 HB9.out) W' (fun b hb hlt => hW b ((hBG b).2 (.inr ⟨hb, hlt⟩)) hlt)⟩ (by rw [e6f]; exact HP8'.out.below HB9.out) (by rw [e6f]; rw [List.length_append, HRL.out] at hc8; simp at hc8; omega) (by rw [e6f, HRWS.out]; exact HR11.out) (by
          rw [e6f]
          intro b hb
          refine ⟨?_, Kd.R_lt HR11.out b hb⟩
          rcases HAT10.out with h | ⟨b2, h, hle⟩
          · exact .inl (HJo.out b (h ▸ hb))
          · rw [h] at hb; injection hb with hb; exact .inr (by omega)) HTT.out { l[i] with f2 := l[i].f2 ++ [⟨l[i].f5 + 1, P, 0, 0⟩], f5 := l[i].f5 + 1 } (by rw [e6f]) (by
          have h := HROW11.out
          rw [HAT6.out hi6] at h
          have e : servRow { l[i] with f2 := l[i].f2 ++ [(⟨l[i].f5 + 1, P, 0, 0⟩ : S125)], f5 := l[i].f5 + 1 } (A7, c7) = (servRow { l[i] with f5 := l[i].f5 + 1 } (o.r i)).set 6 (.slice A7 (l[i].f2.length + 1) c7) := by
            unfold servRow
            simp
          rw [e]
          exact h) (by omega)
        rw [HSET.out, e6f] at h
        exact h)
      have hs11 : ∀ b, (b = g ∨ o.own (.j i) = some b) → w3.heap.size ≤ b ∧ b < w4.heap.size := fun b e => by
        have h : ∃ cc, o.own cc = some b := e.elim (fun e => ⟨.g, by rw [e]; exact hgo⟩) (fun e => ⟨_, e⟩)
        obtain ⟨cc, hc⟩ := h
        exact ⟨HW4.out cc b hc, HL4.out cc b hc⟩
      have hz3 := blk_lt HZ3.out
      have hz89 := HB9.out.size
      have HX11 := Lib.hid ((HTT.out.block _ (by omega) (fun e => by have := hs11 _ e; omega)).trans (blk_below HX8.out HB9.out))
      have HZ11 := Lib.hid ((HTT.out.block _ (by omega) (fun e => by have := hs11 _ e; omega)).trans (blk_below HZ8.out HB9.out))
      have HN11 := Lib.hid ((HTT.out.block _ (by omega) (fun e => by have := hs11 _ e; omega)).trans (blk_below HN8.out HB9.out))
      have HB11 : Hid (Below w.heap.size w w11) := Lib.hid (Turn.below (HB8.out.trans (HB9.out.mono HB8.out.size)) HTT.out (fun b e => by have := hs11 b e; omega) (by omega))
      have HG11 : Hid (∀ b, B'.G b → B.G b ∨ w6.heap.size ≤ b) := Lib.hid (fun b h => ((hBG b).1 h).imp (fun h => h) (fun h => hAj b h.1))
      have HG12 : Hid (∀ b, B.G b → B'.G b) := Lib.hid (fun b h => (hBG b).2 (.inl h))
      have HF11 : Hid (∀ b, (b = g ∨ (∃ c, c ≠ .g ∧ c ≠ .j i ∧ o.own c = some b) ∨ (Value.slice A7 (l[i].f2.length + 1) c7).ownBlock = some b) → w.heap.size + 1 < b ∧ b < w11.heap.size) := Lib.hid (fun b e => by
        rcases e with e | e
        · have := hs11 b (.inl e); have := HREL11.out.row.lt; omega
        · refine ⟨?_, HREL11.out.lt.1 b e⟩
          rcases e with ⟨cc, _, _, hc⟩ | e
          · have := HW4.out cc b hc; omega
          · rcases HAT10.out with h | ⟨b2, h, hle⟩
            · have := hs11 b (.inr (HJo.out b (h ▸ e))); omega
            · rw [h] at e; injection e with e; omega)
      obtain ⟨X, hX⟩ : ∃ X : S57, X = { l[i] with f2 := l[i].f2 ++ [⟨l[i].f5 + 1, P, 0, 0⟩], f5 := l[i].f5 + 1 } := ⟨_, rfl⟩
      obtain ⟨l11, hl11⟩ : ∃ l11, l11 = l.set i X := ⟨_, rfl⟩
      rw [← hX, ← hl11] at HREL11
      have hi11 : i < l11.length := by rw [hl11]; simpa using hi
      have HAT11 : Hid (l11[i] = X) := Lib.hid (by subst hl11; simp)
      have HX0 : Hid (X = { l[i] with f2 := l[i].f2 ++ [⟨l[i].f5 + 1, P, 0, 0⟩], f5 := l[i].f5 + 1 }) := Lib.hid hX
      have HL11 : Hid (l11 = l.set i X) := Lib.hid hl11
      have h1l : w.heap.size ≤ w11.heap.size := HB11.out.size
      clear hX hl11 hs11 HX8 HZ8 HN8 HB8 HB9 HTT HO9 hgB hg8 hng7 HR11 hBG hAj HR10 HAT10 HT10 HT11 HROW11 HROW8 HR8 HP8' HO8 HC8 HRL HRWS HGJ hgj HJB HSET HAT6 HLEN hbd hsd HJo hBo
      obtain ⟨r0, r1, r2, r3, r4, r5, r6, r7, r8, r9, r10⟩ := serv_at HREL11.out.row hi11
      rw [HAT11.out] at r0 r1 r2 r3 r4 r5 r6 r7 r8 r9 r10
      have hX1 : X.f1 = l[i].f1 := by rw [HX0.out]
      have hX5 : X.f5 = l[i].f5 + 1 := by rw [HX0.out]
      have hX0 : X.f0 = l[i].f0 := by rw [HX0.out]
      rw [hX5] at r9
      rw [hX0] at r0
      go_upto_region 13 with fail
      refine start_ (n := 9) (S := fun w' => Hid (Below w11.heap.size w11 w')) (ds := []) #[false, false, false, false, false, false, false, false, false] (by kernel_rfl) rfl rfl ((Lib.hid (below_drew (Below.refl _ _)))) (fun hHeld => ?_)
      refine with_tabW relw.tab13 relw.bits13 (fun HT_ HW_ => ?_)
      have hbd : Hid (Below w11.heap.size w11 w11.drew) := Lib.hid ⟨rfl, rfl, rfl, Nat.le_refl _, fun _ _ => rfl⟩
      have hsd : w11.heap.size = w11.drew.heap.size := rfl
      generalize hwd : w11.drew = wd at *
      clear hwd
      refine pst (i := 1) (N := some 78) HT_ (h := ?_)
      refine pst (i := 2) (N := some 79) HT_ (h := ?_)
      refine pst (i := 3) (N := some 80) HT_ (h := ?_)
      refine pst (i := 4) (N := some 81) HT_ (h := ?_)
      refine tst (i := 0) (N := some 77) HT_ HW_ hHeld (hy := by (intro w' s0; have y0 := (blk_cell (blk_below HX11.out s0.out) 0).trans rfl; have y1 := (blk_cell (blk_below HX11.out s0.out) 1).trans rfl; have y2 := (blk_cell (blk_below HX11.out s0.out) 2).trans rfl; have y3 := (blk_cell (blk_below HX11.out s0.out) 3).trans rfl; have y4 := (blk_cell (blk_below HX11.out s0.out) 4).trans rfl; have e9 := (s0.out.cell (World.block_lt_of_cell? _ _ r9)).trans r9); go_simp; with_reducible rfl) (h := ?_)
      refine tst (i := 5) (N := some 82) HT_ HW_ hHeld (hy := by (intro w' s0; have y0 := (blk_cell (blk_below HX11.out s0.out) 0).trans rfl; have y1 := (blk_cell (blk_below HX11.out s0.out) 1).trans rfl; have y2 := (blk_cell (blk_below HX11.out s0.out) 2).trans rfl; have y3 := (blk_cell (blk_below HX11.out s0.out) 3).trans rfl; have y4 := (blk_cell (blk_below HX11.out s0.out) 4).trans rfl; have e9 := (s0.out.cell (World.block_lt_of_cell? _ _ r9)).trans r9); go_simp; with_reducible rfl) (h := ?_)
      refine one_ (i := 6) (N := some 83) #[true, true, true, true, true, true, true, false, false] rfl rfl (one_of HT_.out (by kernel_rfl)) (by decide) (fun K hK => ?_)
      refine goes_ Tryz.func28 (by kernel_rfl) rfl #[stV M now (some ad) l.length c A2 q.length c2 A3 c3, .int .i64 1, .int .i64 l[i].f0, .int .i64 (l[i].f5 + 1)] (by rfl) rfl rfl (by simp only [List.map_toArray, List.map_cons, List.map_nil]; rfl) ?_
      with_reducible refine (event_calls M now (some ad) l.length c A2 q.length c2 A3 c3 1 l[i].f0 (l[i].f5 + 1) _).mono ?_
      rintro e w12 ⟨rfl, hB12⟩
      refine ⟨_, rfl, ?_⟩
      refine hK.out _ _ ((Lib.hid (hHeld.out.trans (hB12.mono hHeld.out.size)))) (fun hHeld => ?_)
      clear hK K
      refine norm_ (a' := ?_) ?_ ?_
      rotate_left
      · show Act.put _ (some 83) _ = _
        simp only [Act.put, List.setIfInBounds_toArray, List.set_cons_zero, List.set_cons_succ, i64_w, i32_w]
        rfl
      refine one_ (i := 7) (N := some 84) #[true, true, true, true, true, true, true, true, false] rfl rfl (one_of HT_.out (by kernel_rfl)) (by decide) (fun K hK => ?_)
      refine Kd.R_lit_step (Kd.raw 4) (w0 := w12) w12.heap.size 67 (by rfl) (N := 84) rfl (xs := [[.int .i64 now, .int .i64 1, .int .i64 l[i].f0, .int .i64 (l[i].f5 + 1)]]) (inner := [.int .i64 now, .int .i64 1, .int .i64 l[i].f0, .int .i64 (l[i].f5 + 1)]) (ok := fun _ => True) (okp := fun _ => False) ?hr ?hp (fun _ h => h.elim) trivial (Below.refl _ _) (Nat.le_refl _) (by simp) ?_
      (case hr => first | (go_simp; done) | (go_simp; rfl))
      (case hp => exact reps_one)
      intro vL w13 hR13 hB13 _ _
      obtain ⟨AL, cL, eL, hcL, hCL⟩ := Kd.R_reads hR13
      subst eL
      have HR13 := Lib.hid (And.intro hR13 hHeld.out.size)
      refine hK.out _ _ ((Lib.hid (hHeld.out.trans (hB13.mono hHeld.out.size)))) (fun hHeld => ?_)
      clear hK K
      refine norm_ (a' := ?_) ?_ ?_
      rotate_left
      · show Act.put _ (some 84) _ = _
        simp only [Act.put, List.setIfInBounds_toArray, List.set_cons_zero, List.set_cons_succ, i64_w, i32_w]
        rfl
      refine pst (i := 8) (N := some 15) HT_ (h := ?_)
      refine done_ (done_of HT_.out (by kernel_rfl)) ?_
      have hs12 := HR13.out.2
      have HVE : Hid (∀ b, (Value.slice AL 1 cL).ownBlock = some b → w11.heap.size ≤ b) := Lib.hid (fun b e => by have := Kd.R_base HR13.out.1 b e; omega)
      have HRE : Hid ((Kd.raw 4).R 67 w13 w.heap.size (fun _ => True) (.slice AL 1 cL) (([⟨now, 1, l[i].f0, l[i].f5 + 1⟩] : List Ev).map Ev.cells)) := Lib.hid (Kd.R_lower HR13.out.1 (by omega))
      have HB13 := Lib.hid (HB11.out.trans (hHeld.out.mono HB11.out.size))
      have HB1113 := hHeld
      have HREL13 := Lib.hid (HREL11.out.keep hHeld.out)
      have HX13 := Lib.hid (blk_below HX11.out hHeld.out)
      have HZ13 := Lib.hid (blk_below HZ11.out hHeld.out)
      have HN13 := Lib.hid (blk_below HN11.out hHeld.out)
      have hs13 : w11.heap.size ≤ w13.heap.size := hHeld.out.size
      clear hHeld HR13 hB13 hB12 hCL hcL hR13 r0 r1 r2 r3 r4 r5 r6 r7 r8 r9 r10 hbd hsd HT_ HW_
      simp only [List.length_cons, List.length_nil, Nat.zero_add]
      obtain ⟨r0, r1, r2, r3, r4, r5, r6, r7, r8, r9, r10⟩ := serv_at HREL13.out.row hi11
      rw [HAT11.out] at r0 r1 r2 r3 r4 r5 r6 r7 r8 r9 r10
      rw [upd_self] at r6
      have DI := fun wx => sidle_calls X.f0 X.f1.f0 X.f1.f1 X.f1.f2 X.f1.f3 X.f1.f4 (.slice A7 X.f2.length c7) X.f3 X.f4 X.f5 X.f6 wx ⟨_, _, _, rfl⟩
      rw [hX0, hX1, hX5] at DI
      rw [hX1] at r1 r2 r3 r4 r5
      have HBG : Hid (∀ b, B'.G b → B.G b ∨ w.heap.size + 1 < b) := Lib.hid (fun b h => (HG11.out b h).imp (fun h => h) (fun h => by omega))
      have hN11 : w.heap.size + 1 < w11.heap.size := blk_lt HZ11.out
      have hBn11 : B'.n ≤ w11.heap.size := HREL11.out.lt.2
      by_cases hm : l[i].f1.f4 = 0
      · have gm : (l[i].f1.f4 == 0) = true := by simpa using hm
        have DW := fun wx => wake_calls l[i].f1 now wx hcbs hm HNOW0.out HNOW1.out
        have HXR : Hid (relX now P l[i] = { X with f1 := wakeS l[i].f1 now }) := Lib.hid (by unfold relX; rw [if_pos hm, HX0.out])
        have HXE : Hid (([⟨now, 1, l[i].f0, l[i].f5 + 1⟩] : List Ev) ++ [⟨now, 9, l[i].f0, 0⟩] = relE now l[i]) := Lib.hid (by unfold relE; rw [if_pos hm]; rfl)
        generalize wakeS l[i].f1 now = u at *
        unfold agg54 at DW
        clear hm
        go_upto_if 88 with (go_at_call 26; (with_reducible refine (DI _).mono ?_); rintro e w14 ⟨rfl, hB14⟩; have HB14 := Lib.hid hB14; clear hB14)
        go_upto_region 15 with fail
        obtain ⟨s1, s2, s3, s4, s5⟩ := at54 (HREL13.out.keep HB14.out).row hi11
        rw [HAT11.out, hX1] at s1 s2 s3 s4 s5
        have HX14 := Lib.hid (blk_below HX13.out HB14.out)
        have hs14 : w11.heap.size ≤ w14.heap.size := by have := HB14.out.size; omega
        refine start_ (n := 13) (S := fun w' => Hid (Below w14.heap.size w14 w')) (ds := [11]) #[false, false, false, false, false, false, false, false, false, false, false, false, false] (by kernel_rfl) rfl rfl ((Lib.hid (below_drew (Below.refl _ _)))) (fun hHeld => ?_)
        refine with_tabW relw.tab15 relw.bits15 (fun HT_ HW_ => ?_)
        have hbd : Hid (Below w14.heap.size w14 w14.drew) := Lib.hid ⟨rfl, rfl, rfl, Nat.le_refl _, fun _ _ => rfl⟩
        have hsd : w14.heap.size = w14.drew.heap.size := rfl
        generalize hwd : w14.drew = wd at *
        clear hwd
        refine pst (i := 0) (N := some 90) HT_ (h := ?_)
        refine pst (i := 1) (N := some 91) HT_ (h := ?_)
        refine pst (i := 2) (N := some 92) HT_ (h := ?_)
        refine pst (i := 4) (N := some 94) HT_ (h := ?_)
        refine tst (i := 3) (N := some 93) HT_ HW_ hHeld (hy := by (intro w' s0; have y1 := (blk_cell (blk_below HX14.out s0.out) 1).trans rfl; have e1 := (s0.out.cell (World.block_lt_of_cell? _ _ s1)).trans s1; have e2 := (s0.out.cell (World.block_lt_of_cell? _ _ s2)).trans s2; have e3 := (s0.out.cell (World.block_lt_of_cell? _ _ s3)).trans s3; have e4 := (s0.out.cell (World.block_lt_of_cell? _ _ s4)).trans s4; have e5 := (s0.out.cell (World.block_lt_of_cell? _ _ s5)).trans s5); go_simp; with_reducible rfl) (h := ?_)
        refine tst (i := 5) (N := some 95) HT_ HW_ hHeld (hy := by (intro w' s0; have y1 := (blk_cell (blk_below HX14.out s0.out) 1).trans rfl; have e1 := (s0.out.cell (World.block_lt_of_cell? _ _ s1)).trans s1; have e2 := (s0.out.cell (World.block_lt_of_cell? _ _ s2)).trans s2; have e3 := (s0.out.cell (World.block_lt_of_cell? _ _ s3)).trans s3; have e4 := (s0.out.cell (World.block_lt_of_cell? _ _ s4)).trans s4; have e5 := (s0.out.cell (World.block_lt_of_cell? _ _ s5)).trans s5); go_simp; with_reducible rfl) (h := ?_)
        refine join_ (σ := Nat) 2 #[true, true, true, true, true, true, true, true, true, true, true, false, false] (fun s => [(96, .tuple #[.agg #[.int .i64 u.f0, .int .i64 u.f1, .int .i64 u.f2, .int .i64 u.f3, .int .i64 u.f4], .int .i64 0]), (89, .tuple #[.agg #[.int .i64 u.f0, .int .i64 u.f1, .int .i64 u.f2, .int .i64 u.f3, .int .i64 u.f4], .int .i64 0]), (97, .agg #[.int .i64 u.f0, .int .i64 u.f1, .int .i64 u.f2, .int .i64 u.f3, .int .i64 u.f4]), (98, .int .i64 0), (16, .pointer (some ⟨s, 0, none⟩))]) (fun s w' => Hid (w'.heap[s]? = some (.cells #[.int .i64 0, .int .i64 0, .int .i64 0, .int .i64 0, .int .i64 0] 54 (0, 0))) ∧ Hid (Below w14.heap.size w14 w') ∧ Hid (w14.heap.size ≤ s)) ?_ ?_
        rotate_left
        · intro hCont
          refine two_ (i := 6) (j := 10) (Ni := some 96) (Nj := some 16) #[true, true, true, true, true, true, true, false, false, false, false, false, false] #[true, true, true, true, true, true, false, false, false, false, true, false, false] rfl rfl rfl rfl (two_of HT_.out (by kernel_rfl)) (by decide) (by decide) (fun K hK => ?_) (fun K hK => ?_)
          · skip
            refine goes_ Tryz.func46 (by kernel_rfl) rfl #[.agg #[.int .i64 l[i].f1.f0, .int .i64 l[i].f1.f1, .int .i64 l[i].f1.f2, .int .i64 l[i].f1.f3, .int .i64 l[i].f1.f4], .int .i64 now] (by rfl) rfl rfl (by simp only [List.map_toArray, List.map_cons, List.map_nil]; rfl) ?_
            with_reducible refine (DW _).mono ?_
            rintro e w15 ⟨rfl, hB15⟩
            refine ⟨_, rfl, ?_⟩
            refine hK.out _ _ ((Lib.hid (hHeld.out.trans (hB15.mono hHeld.out.size)))) (fun hHeld => ?_)
            clear hK K
            refine norm_ (a' := ?_) ?_ ?_
            rotate_left
            · show Act.put _ (some 96) _ = _
              simp only [Act.put, List.setIfInBounds_toArray, List.set_cons_zero, List.set_cons_succ, i64_w, i32_w]
              rfl
            refine pst (i := 7) (N := some 89) HT_ (h := ?_)
            refine pst (i := 8) (N := some 97) HT_ (h := ?_)
            refine pst (i := 9) (N := some 98) HT_ (h := ?_)
            refine one_ (i := 10) (N := some 16) #[true, true, true, true, true, true, true, true, true, true, true, false, false] rfl rfl (one_of HT_.out (by kernel_rfl)) (by decide) (fun K hK => ?_)
            refine value_ (w1 := ?_) (v := ?_) (by rfl) rfl ?_ ?_
            rotate_left 2
            · go_simp
              constructor
              · rfl
              · rfl
            refine hK.out _ _ ((Lib.hid (hHeld.out.trans ((below_alloc (Below.refl _ _) _).mono hHeld.out.size)))) (fun hHeld => ?_)
            clear hK K
            refine norm_ (a' := ?_) ?_ ?_
            rotate_left
            · show Act.put _ (some 16) _ = _
              simp only [Act.put, List.setIfInBounds_toArray, List.set_cons_zero, List.set_cons_succ, i64_w, i32_w]
              rfl
            exact norm_ (by simp only [putAll, Act.put, List.setIfInBounds_toArray, List.set_cons_zero, List.set_cons_succ]) (hCont w15.heap.size _ ⟨Lib.hid (blk_new w15 _), hHeld, Lib.hid (by have := hB15.size; omega)⟩)
          · skip
            refine value_ (w1 := ?_) (v := ?_) (by rfl) rfl ?_ ?_
            rotate_left 2
            · go_simp
              constructor
              · rfl
              · rfl
            refine hK.out _ _ ((Lib.hid (hHeld.out.trans ((below_alloc (Below.refl _ _) _).mono hHeld.out.size)))) (fun hHeld => ?_)
            clear hK K
            refine norm_ (a' := ?_) ?_ ?_
            rotate_left
            · show Act.put _ (some 16) _ = _
              simp only [Act.put, List.setIfInBounds_toArray, List.set_cons_zero, List.set_cons_succ, i64_w, i32_w]
              rfl
            refine one_ (i := 6) (N := some 96) #[true, true, true, true, true, true, true, false, false, false, true, false, false] rfl rfl (one_of HT_.out (by kernel_rfl)) (by decide) (fun K hK => ?_)
            refine goes_ Tryz.func46 (by kernel_rfl) rfl #[.agg #[.int .i64 l[i].f1.f0, .int .i64 l[i].f1.f1, .int .i64 l[i].f1.f2, .int .i64 l[i].f1.f3, .int .i64 l[i].f1.f4], .int .i64 now] (by rfl) rfl rfl (by simp only [List.map_toArray, List.map_cons, List.map_nil]; rfl) ?_
            with_reducible refine (DW _).mono ?_
            rintro e w15 ⟨rfl, hB15⟩
            refine ⟨_, rfl, ?_⟩
            refine hK.out _ _ ((Lib.hid (hHeld.out.trans (hB15.mono hHeld.out.size)))) (fun hHeld => ?_)
            clear hK K
            refine norm_ (a' := ?_) ?_ ?_
            rotate_left
            · show Act.put _ (some 96) _ = _
              simp only [Act.put, List.setIfInBounds_toArray, List.set_cons_zero, List.set_cons_succ, i64_w, i32_w]
              rfl
            refine pst (i := 7) (N := some 89) HT_ (h := ?_)
            refine pst (i := 8) (N := some 97) HT_ (h := ?_)
            refine pst (i := 9) (N := some 98) HT_ (h := ?_)
            exact norm_ (by simp only [putAll, Act.put, List.setIfInBounds_toArray, List.set_cons_zero, List.set_cons_succ]) (hCont wd.heap.size _ ⟨Lib.hid (blk_below (blk_new wd _) hB15), hHeld, Lib.hid (by omega)⟩)
        rintro sb w16 ⟨hA6, hB6, hS6⟩
        have hHeld : Hid (Below w14.heap.size w14 w16) := hB6
        refine norm_ (a' := ?_) ?_ ?_
        rotate_left
        · simp only [putAll, Act.put, List.setIfInBounds_toArray, List.set_cons_zero, List.set_cons_succ]
          rfl
        refine last_ (i := 11) (N := none) #[true, true, true, true, true, true, true, true, true, true, true, true, false] rfl rfl (one_of HT_.out (by kernel_rfl)) (by decide) (fun K hK => ?_)
        have z0 := (blk_cell hA6.out 0).trans rfl
        have f0 := blk_frozen hA6.out 0
        have z1 := (blk_cell hA6.out 1).trans rfl
        have f1 := blk_frozen hA6.out 1
        have z2 := (blk_cell hA6.out 2).trans rfl
        have f2 := blk_frozen hA6.out 2
        have z3 := (blk_cell hA6.out 3).trans rfl
        have f3 := blk_frozen hA6.out 3
        have z4 := (blk_cell hA6.out 4).trans rfl
        have f4 := blk_frozen hA6.out 4
        refine skip_ (w1 := ?_) (by rfl) rfl ?_ ?_
        rotate_left
        · go_simp
          rfl
        have HS17 := Lib.hid (blk_put (cs' := #[.int .i64 u.f0, .int .i64 u.f1, .int .i64 u.f2, .int .i64 u.f3, .int .i64 u.f4]) (blk_put (blk_put (blk_put (blk_put hA6.out 0 (.int .i64 u.f0) rfl) 1 (.int .i64 u.f1) rfl) 2 (.int .i64 u.f2) rfl) 3 (.int .i64 u.f3) rfl) 4 (.int .i64 u.f4) rfl)
        have HT17 := Lib.hid ((((((Turn.refl w16 (fun b => b = sb)).set rfl 0 (.int .i64 u.f0)).set rfl 1 (.int .i64 u.f1)).set rfl 2 (.int .i64 u.f2)).set rfl 3 (.int .i64 u.f3)).set rfl 4 (.int .i64 u.f4))
        clear z0 f0 z1 f1 z2 f2 z3 f3 z4 f4
        generalize hws : World.setCell _ _ _ = w17 at *
        clear hws
        refine hK.out _ _ ?_
        clear hK K
        refine pst (i := 12) (N := some 17) HT_ (h := ?_)
        refine done_ (done_of HT_.out (by kernel_rfl)) ?_
        have HB17 : Hid (Below w14.heap.size w14 w17) := Lib.hid (Turn.below hB6.out HT17.out (fun b e => by have := hS6.out; omega) hB6.out.size)
        have HREL17 := Lib.hid ((HREL13.out.keep HB14.out).keep HB17.out)
        have HX17 := Lib.hid (blk_below HX14.out HB17.out)
        have HZ17 := Lib.hid (blk_below (blk_below HZ13.out HB14.out) HB17.out)
        have HN17 := Lib.hid (blk_below (blk_below HN13.out HB14.out) HB17.out)
        have HR17 := Lib.hid (Kd.R_below (Kd.R_below HRE.out HB14.out) HB17.out)
        have HBW17 := Lib.hid ((HB13.out.trans (HB14.out.mono HB13.out.size)).trans (HB17.out.mono (HB13.out.trans (HB14.out.mono HB13.out.size)).size))
        have hs17 : w11.heap.size ≤ w17.heap.size := by have := HB17.out.size; omega
        clear s1 s2 s3 s4 s5 hB6 HT17 HX14 hHeld HREL13 HX13 HZ13 HN13 HRE hS6 r0 r1 r2 r3 r4 r5 r6 r7 r8 r9 r10 HB17 HB14 HT_ HW_ hbd hsd
        obtain ⟨s1, s2, s3, s4, s5⟩ := at54 HREL17.out.row hi11
        have hfz := HREL17.out.row.free
        have t0 := (blk_cell HS17.out 0).trans rfl
        have t1 := (blk_cell HS17.out 1).trans rfl
        have t2 := (blk_cell HS17.out 2).trans rfl
        have t3 := (blk_cell HS17.out 3).trans rfl
        have t4 := (blk_cell HS17.out 4).trans rfl
        go_upto_region 19 with fail
        have HRow18 := Lib.hid (serv_set54 HREL17.out.row hi11 u)
        have HT18 := Lib.hid (turn_set54 (Turn.refl w17 (fun b => b = g)) rfl (i * 11 + 1) (.int .i64 u.f0) (.int .i64 u.f1) (.int .i64 u.f2) (.int .i64 u.f3) (.int .i64 u.f4))
        generalize hws : World.setCell _ _ _ = w18 at *
        clear hws s1 s2 s3 s4 s5 hfz t0 t1 t2 t3 t4
        have HREL18 := Lib.hid (HREL17.out.serv hi11 { l11[i] with f1 := u } rfl HT18.out HRow18.out)
        have hgF := HF11.out g (.inl rfl)
        have hgne : ∀ b, b ≤ w.heap.size + 1 → b ≠ g := fun b h e => by omega
        have h34 : w4.heap.size < w11.heap.size := blk_lt HN11.out
        have hg4' : w4.heap.size ≠ g := by omega
        have HX18 := Lib.hid ((HT18.out.block _ (blk_lt HX17.out) (hgne _ (by omega))).trans HX17.out)
        have HZ18 := Lib.hid ((HT18.out.block _ (blk_lt HZ17.out) (hgne _ (by omega))).trans HZ17.out)
        have HN18 := Lib.hid ((HT18.out.block _ (blk_lt HN17.out) hg4').trans HN17.out)
        have HR18 : Hid ((Kd.raw 4).R 67 w18 w.heap.size (fun _ => True) (.slice AL 1 cL) (([⟨now, 1, l[i].f0, l[i].f5 + 1⟩] : List Ev).map Ev.cells)) := Lib.hid (Kd.R_reok rfl (Kd.R_step (Kd.R_tight rfl HR17.out) (fun b hb hlt => HT18.out.block b hlt (fun e => by have := HVE.out b hb.symm; omega))) (fun _ _ => trivial))
        have HBW18 : Hid (Below w.heap.size w w18) := Lib.hid (Turn.below HBW17.out HT18.out (fun b e => by omega) HBW17.out.size)
        have hs18 : w11.heap.size ≤ w18.heap.size := by have := HT18.out.size; omega
        clear HRow18 HT18 HREL17 HX17 HZ17 HN17 HR17 HBW17 hs17 HS17
        have y0 := (blk_cell HX18.out 0).trans rfl
        have y1 := (blk_cell HX18.out 1).trans rfl
        have y2 := (blk_cell HX18.out 2).trans rfl
        have y3 := (blk_cell HX18.out 3).trans rfl
        have y4 := (blk_cell HX18.out 4).trans rfl
        have DE := fun wx => event_calls M now (some ad) l.length c A2 q.length c2 A3 c3 9 l[i].f0 0 wx
        unfold stV evV at DE
        have hxl : (([⟨now, 1, l[i].f0, l[i].f5 + 1⟩] : List Ev).map Ev.cells).length = 1 := rfl
        have HXL := Lib.hid hxl
        clear hxl
        generalize hxs : (([⟨now, 1, l[i].f0, l[i].f5 + 1⟩] : List Ev).map Ev.cells) = xs at *
        have HXS := Lib.hid hxs
        clear hxs
        go_wp2_with (first
          | (go_at_call 28; ((with_reducible refine (DE _).mono ?_); rintro e w19 ⟨rfl, hB19⟩; have HB19 := Lib.hid hB19; have HR19 := Lib.hid (Kd.R_below HR18.out hB19); have HN19 := Lib.hid (blk_below HN18.out hB19); have HZ19 := Lib.hid (blk_below HZ18.out hB19); have hs19 : w.heap.size ≤ w19.heap.size := (by have := hB19.size; omega); clear hB19))
          | ((with_reducible refine gate_builtin (b := .append) (xs := #[.tmp 107, .tmp 111]) rfl ?_); at_builtin; refine Kd.R_append (Kd.raw 4) (w0 := w19) w.heap.size rfl (.tmp 107) (.tmp 111) 48 67 (.agg #[.int .i64 0, .int .i64 0, .int .i64 0, .int .i64 0]) 32 rfl Tryz.underlying48 info67 rfl (by decide) (by omega) _ xs [.int .i64 now, .int .i64 9, .int .i64 l[i].f0, .int .i64 0] [.int .i64 now, .int .i64 9, .int .i64 l[i].f0, .int .i64 0] (fun _ => True) (fun _ => False) rfl (by first | (go_simp; done) | (go_simp; rfl)) ?aP (fun _ hk => hk.elim) ?aF ?aO ?aB ?aS ?aL ?_; (case aP => exact ⟨rfl, rfl, fun u hu => by simp only [List.mem_cons, List.not_mem_nil, or_false] at hu; rcases hu with rfl | rfl | rfl | rfl <;> rfl⟩); (case aF => exact (fun _ _ => trivial)); (case aO => exact HR19.out); (case aB => exact Below.refl _ _); (case aS => exact hs19); (case aL => (rw [HXL.out]; omega)); intro v20 w20 hR20 hB20 hg20 hat20; have HR20 := Lib.hid hR20; have HT20 := Lib.hid (grown_turn hg20); have HAT20 := Lib.hid hat20; have hn := Lib.hid ((HT20.out.block _ (by have := blk_lt HN19.out; omega) (fun e => by have := HVE.out _ e.symm; omega)).trans HN19.out); have hz := Lib.hid ((HT20.out.block _ (by have := blk_lt HZ19.out; omega) (fun e => by have := HVE.out _ e.symm; omega)).trans HZ19.out); have HZ20 := hz; have y0 := (blk_cell hn.out 0).trans rfl; have y1 := (blk_cell hn.out 1).trans rfl; have y2 := (blk_cell hn.out 2).trans rfl; have y3 := (blk_cell hn.out 3).trans rfl; have y4 := (blk_cell hn.out 4).trans rfl; have z0 := (blk_cell hz.out 0).trans rfl; have z1 := (blk_cell hz.out 1).trans rfl; have z2 := (blk_cell hz.out 2).trans rfl; have z3 := (blk_cell hz.out 3).trans rfl; have z4 := (blk_cell hz.out 4).trans rfl; have f0 := blk_frozen hz.out 0; have f1 := blk_frozen hz.out 1; have f2 := blk_frozen hz.out 2; have f3 := blk_frozen hz.out 3; have f4 := blk_frozen hz.out 4; clear hR20 hB20 hg20 hat20))
        refine bodyPost_ret (results_ctt rfl _ _ (w.heap.size + 1) 47 #[.int .i64 M, .int .i64 now, .slice (some ⟨g, 0, none⟩) l.length o.c, .slice o.A2 q.length o.c2, .slice A4 0 c4] (0, 0) _ rfl (blk_put (cs' := #[.int .i64 M, .int .i64 now, .slice (some ⟨g, 0, none⟩) l.length o.c, .slice o.A2 q.length o.c2, .slice A4 0 c4]) (blk_put (blk_put (blk_put (blk_put HZ20.out 0 (.int .i64 M) rfl) 1 (.int .i64 now) rfl) 2 (.slice (some ⟨g, 0, none⟩) l.length o.c) rfl) 3 (.slice o.A2 q.length o.c2) rfl) 4 (.slice A4 0 c4) rfl) Tryz.underlying47 rfl (by kernel_rfl)) rfl ?_
        refine ⟨some ⟨g, 0, none⟩, o.c, o.A2, o.c2, A4, c4, _, rfl, ?_⟩
        have hv20 : ∀ b, v20.ownBlock = some b → w11.heap.size ≤ b := fun b hb => by
          rcases HAT20.out with h | ⟨b2, h, hle⟩
          · exact HVE.out b (h ▸ hb)
          · rw [h] at hb; injection hb with hb; have := HB19.out.size; omega
        have hl19 : w18.heap.size ≤ w19.heap.size := HB19.out.size
        have hl20 := HT20.out.size
        exact RelW.fin (N := w11.heap.size) (E := ([⟨now, 1, l[i].f0, l[i].f5 + 1⟩] : List Ev) ++ [⟨now, 9, l[i].f0, 0⟩]) ((HREL18.out.keep HB19.out).turn HT20.out (fun b e => ⟨fun h => by have := (HF11.out b (.inr h)).2; have := HVE.out b e.symm; omega, fun h => by have := B'.lt b h; have := HVE.out b e.symm; omega, fun h => by have := HVE.out b e.symm; omega⟩)) (by rw [HXR.out, HAT11.out, HL11.out, List.set_set]) ((((((Turn.refl w20 (fun b => b = w.heap.size + 1)).set rfl 0 (.int .i64 M)).set rfl 1 (.int .i64 now)).set rfl 2 (.slice (some ⟨g, 0, none⟩) l.length o.c)).set rfl 3 (.slice o.A2 q.length o.c2)).set rfl 4 (.slice A4 0 c4)) (by rw [List.map_append, HXS.out]; exact HR20.out) HXE.out hv20 HF11.out HBG.out HG12.out hBn11 hw (Turn.below (HBW18.out.trans (HB19.out.mono HBW18.out.size)) HT20.out (fun b e => by have := HVE.out b e.symm; omega) (by omega)) hN11 (by omega)
      · have gm : (l[i].f1.f4 == 0) = false := by simpa using hm
        have HXR : Hid (relX now P l[i] = X) := Lib.hid (by unfold relX; rw [if_neg hm, HX0.out])
        have HXE : Hid (([⟨now, 1, l[i].f0, l[i].f5 + 1⟩] : List Ev) = relE now l[i]) := Lib.hid (by unfold relE; rw [if_neg hm])
        go_wp2_with (go_at_call 26; (with_reducible refine (DI _).mono ?_); rintro e w14 ⟨rfl, hB14⟩; have HB14 := Lib.hid hB14; have hn := blk_below HN13.out hB14; have hz := blk_below HZ13.out hB14; have HZ14 := Lib.hid hz; have y0 := (blk_cell hn 0).trans rfl; have y1 := (blk_cell hn 1).trans rfl; have y2 := (blk_cell hn 2).trans rfl; have y3 := (blk_cell hn 3).trans rfl; have y4 := (blk_cell hn 4).trans rfl; have z0 := (blk_cell hz 0).trans rfl; have z1 := (blk_cell hz 1).trans rfl; have z2 := (blk_cell hz 2).trans rfl; have z3 := (blk_cell hz 3).trans rfl; have z4 := (blk_cell hz 4).trans rfl; have f0 := blk_frozen hz 0; have f1 := blk_frozen hz 1; have f2 := blk_frozen hz 2; have f3 := blk_frozen hz 3; have f4 := blk_frozen hz 4; clear hB14 hn hz)
        refine bodyPost_ret (results_ctt rfl _ _ (w.heap.size + 1) 47 #[.int .i64 M, .int .i64 now, .slice (some ⟨g, 0, none⟩) l.length o.c, .slice o.A2 q.length o.c2, .slice A4 0 c4] (0, 0) _ rfl (blk_put (cs' := #[.int .i64 M, .int .i64 now, .slice (some ⟨g, 0, none⟩) l.length o.c, .slice o.A2 q.length o.c2, .slice A4 0 c4]) (blk_put (blk_put (blk_put (blk_put HZ14.out 0 (.int .i64 M) rfl) 1 (.int .i64 now) rfl) 2 (.slice (some ⟨g, 0, none⟩) l.length o.c) rfl) 3 (.slice o.A2 q.length o.c2) rfl) 4 (.slice A4 0 c4) rfl) Tryz.underlying47 rfl (by kernel_rfl)) rfl ?_
        refine ⟨some ⟨g, 0, none⟩, o.c, o.A2, o.c2, A4, c4, _, rfl, ?_⟩
        exact RelW.fin (N := w11.heap.size) (HREL13.out.keep HB14.out) (by rw [HXR.out]; exact HL11.out) ((((((Turn.refl w14 (fun b => b = w.heap.size + 1)).set rfl 0 (.int .i64 M)).set rfl 1 (.int .i64 now)).set rfl 2 (.slice (some ⟨g, 0, none⟩) l.length o.c)).set rfl 3 (.slice o.A2 q.length o.c2)).set rfl 4 (.slice A4 0 c4)) (Kd.R_below HRE.out HB14.out) HXE.out HVE.out HF11.out HBG.out HG12.out hBn11 hw (HB13.out.trans (HB14.out.mono HB13.out.size)) hN11 (by have := HB14.out.size; omega)
set_option maxHeartbeats 2000000 in
set_option maxRecDepth 100000 in
theorem insert_calls (A : Option Addr) (n c : Nat) (rows : List (List Value)) (b : Nat) (row : List Value) (base : Nat) (w : World) (hR : (Kd.raw 11).R 57 w base (fun _ => True) (.slice A n c) rows) (hn : rows.length = n) (hl : n ≤ 100) (hC : (Kd.raw 11).C w (some ⟨b, 0, none⟩) 1 [row]) (hb : base ≤ w.heap.size) :
    Calls Tryz.prog 70 #[.slice A n c, .int .i64 n, .slice (some ⟨b, 0, none⟩) 1 1] w fun e w' => ∃ A' c', e = .returned (.slice A' (n + 1) c') ∧ (Kd.raw 11).R 57 w' base (fun _ => True) (.slice A' (n + 1) c') (rows ++ [row]) ∧ Turn w w' (fun k => some k = (Value.slice A n c).ownBlock) ∧ ((Value.slice A' (n + 1) c').ownBlock = (Value.slice A n c).ownBlock ∨ ∃ b, (Value.slice A' (n + 1) c').ownBlock = some b ∧ w.heap.size ≤ b) := by
  obtain ⟨A2, c2, e2, hc, _⟩ := Kd.R_reads hR
  injection e2 with e3 e4 e5
  subst e3 e5
  rw [hn] at hc
  have HR := Lib.hid hR
  have HC := Lib.hid hC
  have HN := Lib.hid hn
  have n0 : (0 : Int) ≤ (n : Int) := by omega
  clear hR hC e4 hn
  go_enter Tryz.func70, Tryz.ntmps70
  go_wp2_with ((with_reducible refine gate_builtin (b := .append) (xs := #[.tmp 23, .tmp 24]) rfl ?_); (at_builtin; refine Kd.R_append_rows (Kd.raw 11) (Rr := (Kd.raw 11).K w) (okp := fun _ => False) (w0 := w) base rfl (.tmp 23) (.tmp 24) 43 57 (.agg #[.int .i64 0, .int .i64 0, .int .i64 0, .int .i64 0, .int .i64 0, .int .i64 0, .slice none 0 0, .int .i64 0, .int .i64 0, .int .i64 0, .int .i64 0]) 104 rfl Tryz.underlying43 info57 rfl (by decide) (by omega) (.slice A n c) rows [row] (some ⟨b, 0, none⟩) 1 1 (fun _ => True) rfl rfl HR.out ?hC (fun _ _ h => h) (fun _ h => h.elim) (fun _ _ => trivial) (Below.refl _ _) hb ?aL ?_; (case hC => exact HC.out); (case aL => (have := HN.out; first | omega | (simp; omega))); intro v1 w5 hR5 hB5 hg5 hat5; have HR5 := Lib.hid hR5; have HT5 := Lib.hid (grown_turn hg5); have HAT5 := Lib.hid hat5; clear hR5 hB5 hg5 hat5))
  all_goals
    obtain ⟨A7, c7, e7⟩ := Kd.R_slice HR5.out
    have hl7 : (rows ++ [row]).length = n + 1 := by rw [List.length_append, HN.out]; rfl
    rw [hl7] at e7
    subst e7
    go_ret
    first
      | exact ⟨A7, c7, rfl, HR5.out, HT5.out, HAT5.out⟩
      | (rename_i h; rw [h] at HT5 HAT5; exact ⟨A7, c7, rfl, HR5.out, HT5.out, HAT5.out⟩)
theorem flat_one {sz : Nat} {xs : List (List Value)} (h : ∀ x ∈ xs, x.length = sz) {k : Nat} (hk : k < xs.length) : (xs.flatten.drop (k * sz)).take sz = xs[k] := by
  have hl := flat_len h
  have hx := h _ (List.getElem_mem hk)
  apply List.ext_getElem?
  intro j
  by_cases hj : j < sz
  · rw [List.getElem?_take, if_pos hj, List.getElem?_drop, flat_get h k hk j hj]
  · rw [List.getElem?_eq_none (by rw [List.length_take]; omega), List.getElem?_eq_none (by omega)]
theorem R_of_row {w : World} {A : Option Addr} {c base : Nat} {l : List S57} {r : Nat → Ref} (hc : SerC w A c) (hr : l ≠ [] → ∃ g, A = some ⟨g, 0, none⟩ ∧ RowAt w g 0 11 57 (rowsOf servRow l r)) (hcap : l.length ≤ c) (hb : ∀ b, A.map (·.block) = some b → base ≤ b) : (Kd.raw 11).R 57 w base (fun _ => True) (.slice A l.length c) (rowsOf servRow l r) := by
  have hlen : ∀ x ∈ rowsOf servRow l r, x.length = 11 := mem_rowsOf (fun _ _ => rfl)
  have h1 : ∀ x ∈ rowsOf servRow l r, ∀ u ∈ x, u.oneCell' = true := mem_rowsOf (fun x p u hu => by simp only [servRow, List.mem_cons, List.not_mem_nil, or_false] at hu; rcases hu with rfl | rfl | rfl | rfl | rfl | rfl | rfl | rfl | rfl | rfl | rfl <;> rfl)
  refine ⟨fun _ _ => trivial, (rowsOf servRow l r).flatten, ⟨?_, ?_⟩, ?_, fun i p hp => ?_⟩
  · rw [flat_len hlen]; rfl
  · rcases hc with ⟨rfl, rfl⟩ | ⟨g, cur, rfl, h2, h3, h4⟩
    · have h0 : l = [] := List.length_eq_zero_iff.1 (by omega)
      subst h0
      exact .inl ⟨rfl, rfl⟩
    · refine .inr ⟨g, c, cur, by rw [rowsOf_len], hb g rfl, h2, by rw [rowsOf_len]; exact hcap, h4, h3, ?_⟩
      by_cases h0 : l = []
      · subst h0; simp [rowsOf]
      · obtain ⟨g2, e, _, pre, rest, h5, h6⟩ := hr h0
        injection e with e
        injection e with e
        subst e
        rw [h2] at h6
        injection h6 with h6
        injection h6 with h6
        subst h6
        have hp : pre = [] := List.length_eq_zero_iff.1 h5
        subst hp
        simp only [List.nil_append]
        rw [List.take_append_of_le_length (by rw [flat_len hlen]; exact Nat.le_refl _), List.take_of_length_le (by rw [flat_len hlen]; exact Nat.le_refl _)]
  · rw [flat_len hlen]; rfl
  · obtain ⟨hi, rfl⟩ := List.getElem?_eq_some_iff.1 hp
    have e : ((rowsOf servRow l r).flatten.drop (i * (Kd.raw 11).sz)).take (Kd.raw 11).sz = (rowsOf servRow l r)[i] := flat_one hlen hi
    refine ⟨e, ?_, ?_⟩
    · rw [e]; exact hlen _ (List.getElem_mem hi)
    · intro u hu
      rw [e] at hu
      exact h1 _ (List.getElem_mem hi) u hu
theorem Own.addRd {w w' : World} {B : Bd} {l : List S57} {q : List S63} {o : OwnR} (h : Own w B l q o) {A7 : Option Addr} {c7 base : Nat} (x : S57) (hx : x.f2 = []) (hR : (Kd.raw 11).R 57 w' base (fun _ => True) (.slice A7 (l.length + 1) c7) (rowsOf servRow l o.r ++ [servRow x (none, 0)])) (ht : Turn w w' (fun b => some b = (Value.slice o.A l.length o.c).ownBlock)) : RdF w' (fun b => (∃ c, c ≠ .g ∧ o.own c = some b) ∨ (Value.slice A7 (l.length + 1) c7).ownBlock = some b) B A7 (l ++ [x]) o.A2 q := fun W' hW => by
  have hS : ∀ b, some b = (Value.slice o.A l.length o.c).ownBlock → o.own .g = some b := fun b e => by
    show o.A.map (·.block) = some b
    cases hA : o.A with
    | none => rw [hA] at e; simp [Value.ownBlock] at e
    | some ad => rw [hA] at e; simpa [Value.ownBlock] using e.symm
  have hWB : ∀ b, B.G b → b < w.heap.size → W'.heap[b]? = w.heap[b]? := fun b hb hlt => by
    rw [hW b (.inr hb) (Nat.lt_of_lt_of_le hlt ht.size)]
    exact ht.block b hlt (fun e => by have := (h.bnd _ b (hS b e)).1; have := B.lt b hb; omega)
  have hWo : ∀ c b, c ≠ .g → o.own c = some b → W'.heap[b]? = w.heap[b]? := fun c b h1 h3 => by
    rw [hW b (.inl (.inl ⟨c, h1, h3⟩)) (Nat.lt_of_lt_of_le (h.bnd c b h3).2 ht.size)]
    exact ht.block b (h.bnd c b h3).2 (fun e => h1 (h.apart c .g b h3 (hS b e)))
  have hl : (l ++ [x]).length = l.length + 1 := by simp
  refine ⟨⟨upd o.r l.length (none, 0), ?_, fun k hk => ?_⟩, ?_⟩
  · rw [rowsOf_snoc, hl]
    have h1 : (Kd.raw 11).R 57 W' base _ _ _ := Kd.R_step (Kd.R_tight rfl hR) (fun b hb hlt => hW b (.inl (.inr hb.symm)) hlt)
    obtain ⟨A8, c8, e8, _, hC8⟩ := Kd.R_reads h1
    injection e8 with e9 e10 e11
    subst e9
    have hll : (rowsOf servRow l o.r ++ [servRow x (none, 0)]).length = l.length + 1 := by simp [rowsOf_len]
    rw [hll] at hC8
    exact hC8
  · by_cases e : k = l.length
    · subst e
      have e3 : (l ++ [x])[l.length] = x := by simp
      rw [e3, upd_self, hx]
      exact ⟨Nat.le_refl _, fun _ => (none, 0), C_nil' _ _ _, fun n hn => by simp at hn⟩
    · have hk2 : k < l.length := by omega
      have e3 : (l ++ [x])[k] = l[k] := List.getElem_append_left hk2
      rw [e3, upd_ne _ _ e]
      have hjk := h.jobs k hk2
      refine ⟨hjk.cap, ?_⟩
      by_cases hx0 : l[k].f2 = []
      · exact ⟨fun _ => (none, 0), by rw [hx0]; exact C_nil' _ _ _, fun n hn => by rw [hx0] at hn; simp at hn⟩
      · obtain ⟨b, oo, r0, e4, hr3, hp⟩ := hjk.row hx0
        refine ⟨r0, ?_, fun n hn => ⟨(hp n hn).1, fun W2 hW2 => (hp n hn).2 W2 (fun b2 hb2 hlt => ?_)⟩⟩
        · rw [e4]
          exact raw_jobs (hr3.same (hWo (.j k) b (by simp) (by show ob (o.r k) = _; rw [ob, e4]; rfl))) hjk.max
        · have e := hWB b2 hb2 hlt
          rw [← e]
          refine hW2 b2 hb2 ?_
          rw [Array.getElem?_eq_getElem hlt] at e
          exact (Array.getElem?_eq_some_iff.1 e).1
  · by_cases hx0 : q = []
    · subst hx0; exact C_nil' _ _ _
    · obtain ⟨g2, e, hr2⟩ := h.lok hx0
      rw [e]
      refine RowAt.kd (d := k63) (hr2.same (hWo .h g2 (by simp) (by show o.A2.map _ = _; rw [e]; rfl))) rowsOf_len (by have := h.max; omega) (fun k h1 h2 => ?_)
      rw [rowsOf_get h1]
      exact k63_mk W' q[k] (h.que k h1).1 ((h.que k h1).2 W' (fun b hb hlt => hWo (.q k) b (by simp) hb))
theorem ahead_all {l : List S57} {t : Int} (h : ∀ k (hk : k < l.length), l[k].f0 < t) : ahead l t = l.length ∧ isAt l t = false := by
  refine ⟨?_, ?_⟩
  · unfold ahead
    rw [List.countP_eq_length]
    intro x hx
    obtain ⟨k, hk, rfl⟩ := List.mem_iff_getElem.1 hx
    simpa using h k hk
  · unfold isAt
    rw [List.any_eq_false]
    intro x hx
    obtain ⟨k, hk, rfl⟩ := List.mem_iff_getElem.1 hx
    have := h k hk
    simp
    omega
def newServ (id q p : Int) : S57 := ⟨id, ⟨q, p, 0, 0, 0⟩, [], 0, 0, 0, 0⟩
theorem raw57 {w : World} {a0 a1 a2 a3 a4 a5 a7 a8 a9 a10 : Int} : (Kd.raw 11).C (w.alloc (.cells #[.int .i64 a0, .int .i64 a1, .int .i64 a2, .int .i64 a3, .int .i64 a4, .int .i64 a5, .slice none 0 0, .int .i64 a7, .int .i64 a8, .int .i64 a9, .int .i64 a10] 57)) (some ⟨w.heap.size, 0, none⟩) 1 [[.int .i64 a0, .int .i64 a1, .int .i64 a2, .int .i64 a3, .int .i64 a4, .int .i64 a5, .slice none 0 0, .int .i64 a7, .int .i64 a8, .int .i64 a9, .int .i64 a10]] := by
  refine ⟨rfl, by simp, fun _ => ⟨_, rfl, fun j x hx => ?_⟩⟩
  have hb := blk_new w (.cells #[.int .i64 a0, .int .i64 a1, .int .i64 a2, .int .i64 a3, .int .i64 a4, .int .i64 a5, .slice none 0 0, .int .i64 a7, .int .i64 a8, .int .i64 a9, .int .i64 a10] 57)
  cases j with
  | zero =>
    simp only [List.getElem?_cons_zero, Option.some.injEq] at hx
    subst hx
    refine ⟨_, rfl, ⟨rfl, rfl, fun u hu => by simp only [List.mem_cons, List.not_mem_nil, or_false] at hu; rcases hu with rfl | rfl | rfl | rfl | rfl | rfl | rfl | rfl | rfl | rfl | rfl <;> rfl⟩, fun i u hu => ?_⟩
    rw [Nat.zero_mul, Nat.zero_add, addr_at, Nat.zero_add, blk_cell hb]
    match i, hu with
    | 0, h => exact h
    | 1, h => exact h
    | 2, h => exact h
    | 3, h => exact h
    | 4, h => exact h
    | 5, h => exact h
    | 6, h => exact h
    | 7, h => exact h
    | 8, h => exact h
    | 9, h => exact h
    | 10, h => exact h
    | i + 11, h => simp at h
  | succ j => simp at hx
set_option maxHeartbeats 8000000 in
set_option maxRecDepth 100000 in
theorem add_calls (M now : Int) (A : Option Addr) (l : List S57) (c : Nat) (A2 : Option Addr) (q : List S63) (c2 : Nat) (A3 : Option Addr) (c3 : Nat) (B : Bd) (id q0 p0 : Int) (w : World) (hw : B.n ≤ w.heap.size) (hr : Rd w B A l A2 q) (hs : Sorted l) (hl : l.length ≤ 31) (hq : q.length ≤ 8) (hlj : ∀ i (h : i < l.length), l[i].f2.length ≤ 100000) (hqj : ∀ i (h : i < q.length), q[i].f2.length ≤ 100000) (hid : ∀ k (h : k < l.length), l[k].f0 < id) (hid1 : 1 ≤ id) (hid2 : id ≤ 255) (hq1 : 1 ≤ q0) (hq2 : q0 ≤ p0) (hp : p0 ≤ 2147483648) :
    Calls Tryz.prog 38 #[stV M now A l.length c A2 q.length c2 A3 c3, .int .i64 id, .int .i64 q0, .int .i64 p0] w fun e w' => ∃ A' c' A2' c2' A4 c4 F, e = .returned (.tuple #[stV M now A' (l.length + 1) c' A2' q.length c2' A4 c4, .int .i64 0]) ∧ RdF w' F B A' (l ++ [newServ id q0 p0]) A2' q ∧ (∀ b, F b → w.heap.size ≤ b ∧ b < w'.heap.size) ∧ Below w.heap.size w w' := by
  have DA := fun wx (hb : Below w.heap.size w wx) => at_calls M now A c l (.slice A2 q.length c2) (.slice A3 0 c3) id wx (hr.below hb).reads hs (by omega) ⟨_, _, _, rfl⟩ ⟨_, _, _, rfl⟩
  rw [(ahead_all hid).1, (ahead_all hid).2] at DA
  have DN := fun wx => cnew_calls q0 p0 wx hq1 hq2 hp
  have DC := fun wx (hb : Below w.heap.size w wx) => clone2_calls M now A l c A2 q c2 A3 c3 B wx (Nat.le_trans hw hb.size) (hr.below hb) (by omega) (by omega) hlj hqj
  have g1 : decide (id < 1) = false := by simp; omega
  have g2 : decide (id > 255) = false := by simp; omega
  have g3 : decide ((l.length : Int) ≥ 32) = false := by simp; omega
  unfold stV agg54 at *
  have HB0 := Lib.hid (below_alloc (below_alloc (Below.refl w.heap.size w) (.cells #[.int .i64 M, .int .i64 now, .slice A l.length c, .slice A2 q.length c2, .slice A3 0 c3] 47)) (.cells #[.int .i64 0, .int .i64 0, .slice none 0 0, .slice none 0 0, .slice none 0 0] 47))
  have h2 := two_blocks (w := w) (x := #[.int .i64 M, .int .i64 now, .slice A l.length c, .slice A2 q.length c2, .slice A3 0 c3]) (y := #[.int .i64 0, .int .i64 0, .slice none 0 0, .slice none 0 0, .slice none 0 0]) (tx := 47) (ty := 47) (Below.refl _ _)
  have HX0 := Lib.hid h2.1
  have HZ0 := Lib.hid h2.2.1
  clear h2 hr hlj hqj hid hs
  go_enter Tryz.func38, Tryz.ntmps38
  go_upto_region 9 with (first
    | (go_at_call 32; (with_reducible refine (DA _ HB0.out).mono ?_); rintro e w1 ⟨rfl, hB1⟩; have HX1 := Lib.hid (blk_below HX0.out hB1); have HZ1 := Lib.hid (blk_below HZ0.out hB1); have HB1 := Lib.hid (HB0.out.trans (hB1.mono HB0.out.size)); have x2 := (blk_cell HX1.out 2).trans rfl; clear hB1)
    | (go_at_call 69; (with_reducible refine (DN _).mono ?_); rintro e w2 ⟨rfl, hB2⟩; have HX2 := Lib.hid (blk_below HX1.out hB2); have HZ2 := Lib.hid (blk_below HZ1.out hB2); have HB2 := Lib.hid (HB1.out.trans (hB2.mono HB1.out.size)); clear hB2))
  have HP := Lib.hid (blk_new w2 (.cells #[.int .i64 q0, .int .i64 p0, .int .i64 0, .int .i64 0, .int .i64 0] 54))
  have HB23 : Hid (Below w2.heap.size w2 (w2.alloc (.cells #[.int .i64 q0, .int .i64 p0, .int .i64 0, .int .i64 0, .int .i64 0] 54))) := Lib.hid (below_alloc (Below.refl _ _) _)
  clear HX0 HX1 HZ0 HZ1 HB0 HB1 DA DN x2
  generalize hw3 : World.alloc _ _ = w3 at *
  have HX3 := Lib.hid (blk_below HX2.out HB23.out)
  have HZ3 := Lib.hid (blk_below HZ2.out HB23.out)
  have HB3 := Lib.hid (HB2.out.trans (HB23.out.mono HB2.out.size))
  have y0 := (blk_cell HX3.out 0).trans rfl
  have y1 := (blk_cell HX3.out 1).trans rfl
  have y2 := (blk_cell HX3.out 2).trans rfl
  have y3 := (blk_cell HX3.out 3).trans rfl
  have y4 := (blk_cell HX3.out 4).trans rfl
  have hz2 := blk_lt HZ2.out
  clear hw3 HX2 HZ2 HB2 HB23
  go_upto_region 12 with (go_at_call 25; (with_reducible refine (DC _ HB3.out).mono ?_); rintro e w4 ⟨o, A4, c4, rfl, hO4, _, _, hown4, hB4, hsc4⟩; have HO4 := Lib.hid hO4; have HW4 := Lib.hid hown4; have HSC4 := Lib.hid hsc4; have HX4 := Lib.hid (blk_below HX3.out hB4); have HZ4 := Lib.hid (blk_below HZ3.out hB4); have HP4 := Lib.hid (blk_below HP.out hB4); have HB4 := Lib.hid (HB3.out.trans (hB4.mono HB3.out.size)); have HS34 := Lib.hid hB4.size; have x0 := (blk_cell HX4.out 0).trans rfl; have x1 := (blk_cell HX4.out 1).trans rfl; have x2 := (blk_cell HX4.out 2).trans rfl; have x3 := (blk_cell HX4.out 3).trans rfl; have x4 := (blk_cell HX4.out 4).trans rfl; have f0 := blk_frozen HX4.out 0; have f1 := blk_frozen HX4.out 1; have f2 := blk_frozen HX4.out 2; have f3 := blk_frozen HX4.out 3; have f4 := blk_frozen HX4.out 4; clear hO4 hown4 hB4 hsc4)
  have HX5 := Lib.hid (blk_put (cs' := #[.int .i64 M, .int .i64 now, .slice o.A l.length o.c, .slice o.A2 q.length o.c2, .slice A4 0 c4]) (blk_put (blk_put (blk_put (blk_put HX4.out 0 (.int .i64 M) rfl) 1 (.int .i64 now) rfl) 2 (.slice o.A l.length o.c) rfl) 3 (.slice o.A2 q.length o.c2) rfl) 4 (.slice A4 0 c4) rfl)
  have HT5 := Lib.hid ((((((Turn.refl w4 (fun b => b = w.heap.size)).set rfl 0 (.int .i64 M)).set rfl 1 (.int .i64 now)).set rfl 2 (.slice o.A l.length o.c)).set rfl 3 (.slice o.A2 q.length o.c2)).set rfl 4 (.slice A4 0 c4))
  generalize hws : World.setCell _ _ _ = w5 at *
  clear hws x0 x1 x2 x3 x4 f0 f1 f2 f3 f4 y0 y1 y2 y3 y4
  have hz3 := blk_lt HZ3.out
  have hp3 := blk_lt HP.out
  have hs34 := HS34.out
  have hs45 := HT5.out.size
  have HO5 := Lib.hid (HO4.out.keep HT5.out (fun b e => by omega) (fun cc b hc e => by have := HW4.out cc b hc; omega))
  have HSC5 := Lib.hid (HSC4.out.turn HT5.out (fun b hb e => by have := HW4.out .g b hb; omega))
  have hpw : w2.heap.size ≠ w.heap.size := by omega
  have HZ5 := Lib.hid ((HT5.out.block _ (blk_lt HZ4.out) (by omega)).trans HZ4.out)
  have HP5 := Lib.hid ((HT5.out.block _ (blk_lt HP4.out) hpw).trans HP4.out)
  have HB5 : Hid (Below w.heap.size w w5) := Lib.hid (Turn.below HB4.out HT5.out (fun b e => by omega) HB4.out.size)
  have HR5 : Hid ((Kd.raw 11).R 57 w5 w.heap.size (fun _ => True) (.slice o.A l.length o.c) (rowsOf servRow l o.r)) := Lib.hid (R_of_row HSC5.out (fun h => HO5.out.row h) HO5.out.cap.1 (fun b hb => by have := HW4.out .g b hb; omega))
  have HRL : Hid ((rowsOf servRow l o.r).length = l.length) := Lib.hid rowsOf_len
  have HA5 : Hid (∀ b, (Value.slice o.A l.length o.c).ownBlock = some b → w3.heap.size ≤ b ∧ b < w5.heap.size) := Lib.hid (fun b e => ⟨HW4.out .g b (by
    show o.A.map (·.block) = some b
    cases hA : o.A with
    | none => rw [hA] at e; simp [Value.ownBlock] at e
    | some ad => rw [hA] at e; simpa [Value.ownBlock] using e), Kd.R_lt HR5.out b e⟩)
  have x2 := (blk_cell HX5.out 2).trans rfl
  have p0_ := (blk_cell HP5.out 0).trans rfl
  have p1_ := (blk_cell HP5.out 1).trans rfl
  have p2_ := (blk_cell HP5.out 2).trans rfl
  have p3_ := (blk_cell HP5.out 3).trans rfl
  have p4_ := (blk_cell HP5.out 4).trans rfl
  have hw5 : w.heap.size + 1 < w5.heap.size := blk_lt HZ5.out
  clear HX3 HX4 HZ3 HZ4 HP HP4 HO4 HSC4 HT5 HB4 HS34 DC
  go_upto_region 13 with (go_at_call 70; (with_reducible refine (insert_calls o.A l.length o.c (rowsOf servRow l o.r) w5.heap.size _ w.heap.size _ (Kd.R_alloc HR5.out _) HRL.out (by omega) raw57 (by simp only [World.size_alloc]; omega)).mono ?_); rintro e w7 ⟨A7, c7, rfl, hR7, hT7, hA7⟩; have HR7 := Lib.hid hR7; have HT7 := Lib.hid hT7; have HAT7 := Lib.hid hA7; have HX7 := Lib.hid ((hT7.block w.heap.size (by simp only [World.size_alloc]; omega) (fun e => by have := HA5.out _ e.symm; omega)).trans ((below_alloc (Below.refl _ _) _).block _ (by omega) |>.trans HX5.out)); have HZ7 := Lib.hid ((hT7.block (w.heap.size + 1) (by simp only [World.size_alloc]; omega) (fun e => by have := HA5.out _ e.symm; omega)).trans ((below_alloc (Below.refl _ _) _).block _ (by omega) |>.trans HZ5.out)); have xx := (blk_cell HX7.out 2).trans rfl; have fx := blk_frozen HX7.out 2; clear hR7 hT7 hA7 x2)
  have HX8 := Lib.hid (blk_put (cs' := #[.int .i64 M, .int .i64 now, .slice A7 (l.length + 1) c7, .slice o.A2 q.length o.c2, .slice A4 0 c4]) HX7.out 2 (.slice A7 (l.length + 1) c7) rfl)
  have HT8 := Lib.hid ((Turn.refl w7 (fun b => b = w.heap.size)).set rfl 2 (.slice A7 (l.length + 1) c7))
  generalize hws : World.setCell _ _ _ = w8 at *
  have HZ8 := Lib.hid ((HT8.out.block _ (blk_lt HZ7.out) (by omega)).trans HZ7.out)
  clear hws xx fx p0_ p1_ p2_ p3_ p4_ HX7 HX5
  have x0 := (blk_cell HX8.out 0).trans rfl
  have x1 := (blk_cell HX8.out 1).trans rfl
  have x2 := (blk_cell HX8.out 2).trans rfl
  have x3 := (blk_cell HX8.out 3).trans rfl
  have x4 := (blk_cell HX8.out 4).trans rfl
  have z0 := (blk_cell HZ8.out 0).trans rfl
  have z1 := (blk_cell HZ8.out 1).trans rfl
  have z2 := (blk_cell HZ8.out 2).trans rfl
  have z3 := (blk_cell HZ8.out 3).trans rfl
  have z4 := (blk_cell HZ8.out 4).trans rfl
  have f0 := blk_frozen HZ8.out 0
  have f1 := blk_frozen HZ8.out 1
  have f2 := blk_frozen HZ8.out 2
  have f3 := blk_frozen HZ8.out 3
  have f4 := blk_frozen HZ8.out 4
  go_wp2
  refine bodyPost_ret (results_ct rfl _ _ (w.heap.size + 1) 47 #[.int .i64 M, .int .i64 now, .slice A7 (l.length + 1) c7, .slice o.A2 q.length o.c2, .slice A4 0 c4] (0, 0) _ rfl (blk_put (cs' := #[.int .i64 M, .int .i64 now, .slice A7 (l.length + 1) c7, .slice o.A2 q.length o.c2, .slice A4 0 c4]) (blk_put (blk_put (blk_put (blk_put HZ8.out 0 (.int .i64 M) rfl) 1 (.int .i64 now) rfl) 2 (.slice A7 (l.length + 1) c7) rfl) 3 (.slice o.A2 q.length o.c2) rfl) 4 (.slice A4 0 c4) rfl) Tryz.underlying47 rfl (by kernel_rfl)) rfl ?_
  have HT9 := ((((((Turn.refl w8 (fun b => b = w.heap.size + 1)).set rfl 0 (.int .i64 M)).set rfl 1 (.int .i64 now)).set rfl 2 (.slice A7 (l.length + 1) c7)).set rfl 3 (.slice o.A2 q.length o.c2)).set rfl 4 (.slice A4 0 c4))
  generalize hwf : World.setCell _ _ _ = wf at *
  have hR := Own.addRd (w' := w7) (HO5.out.below (below_alloc (Below.refl _ _) _)) (newServ id q0 p0) rfl HR7.out HT7.out
  have hF : ∀ b, ((∃ c, c ≠ .g ∧ o.own c = some b) ∨ (Value.slice A7 (l.length + 1) c7).ownBlock = some b) → w.heap.size + 1 < b ∧ b < w7.heap.size := fun b e => by
    have h57 := HT7.out.size
    simp only [World.size_alloc] at h57
    rcases e with ⟨cc, _, hc⟩ | e
    · have := HW4.out cc b hc
      have := (HO5.out.bnd cc b hc).2
      omega
    · have h7 := Kd.R_lt HR7.out b e
      rcases HAT7.out with h | ⟨b2, h, hle⟩
      · have := HA5.out b (h ▸ e)
        omega
      · rw [h] at e
        injection e with e
        simp only [World.size_alloc] at hle
        omega
  have h78 := HT8.out.size
  have h89 := HT9.size
  have hnB : ∀ b, w.heap.size ≤ b → ¬ B.G b := fun b h hG => by have := B.lt b hG; omega
  refine ⟨A7, c7, o.A2, o.c2, A4, c4, _, rfl, (hR.keep HT8.out (fun b e => ⟨fun h => by have := (hF b h).1; omega, hnB b (by omega)⟩)).keep HT9 (fun b e => ⟨fun h => by have := (hF b h).1; omega, hnB b (by omega)⟩), fun b h => by have := hF b h; omega, ?_⟩
  have hb7 : Below w.heap.size w w7 := Turn.below (HB5.out.trans ((below_alloc (Below.refl _ _) _).mono HB5.out.size)) HT7.out (fun b e => by have := HA5.out b e.symm; omega) (by simp only [World.size_alloc]; omega)
  exact Turn.below (Turn.below hb7 HT8.out (fun b e => by omega) hb7.size) HT9 (fun b e => by omega) (by have := hb7.size; omega)
def servV (x : S57) (p : Ref) : Value := .agg #[.int .i64 x.f0, .int .i64 x.f1.f0, .int .i64 x.f1.f1, .int .i64 x.f1.f2, .int .i64 x.f1.f3, .int .i64 x.f1.f4, .slice p.1 x.f2.length p.2, .int .i64 x.f3, .int .i64 x.f4, .int .i64 x.f5, .int .i64 x.f6]
theorem field47 (M now : Int) (A : Option Addr) (n c : Nat) (A2 : Option Addr) (n2 c2 : Nat) (A3 : Option Addr) (n3 c3 : Nat) (w : World) : Sem.run Tryz.prog (Instr.field 47 (.agg #[.int .i64 M, .int .i64 now, .slice A n c, .slice A2 n2 c2, .slice A3 n3 c3]) 2) w = .ok (.slice A n c) w := by kernel_rfl
set_option maxHeartbeats 4000000 in
set_option maxRecDepth 100000 in
theorem find_calls (M now : Int) (A : Option Addr) (l : List S57) (c : Nat) (A2 : Option Addr) (q : List S63) (c2 : Nat) (A3 : Option Addr) (c3 : Nat) (B : Bd) (i : Nat) (hi : i < l.length) (w : World) (hw : B.n ≤ w.heap.size) (hr : Rd w B A l A2 q) (hs : Sorted l) (hl : l.length ≤ 31) (hq : q.length ≤ 8) (hlj : ∀ i (h : i < l.length), l[i].f2.length ≤ 100000) (hqj : ∀ i (h : i < q.length), q[i].f2.length ≤ 100000) :
    Calls Tryz.prog 15 #[stV M now A l.length c A2 q.length c2 A3 c3, .int .i64 l[i].f0] w fun e w' => ∃ p, e = .returned (.tuple #[servV l[i] p, .bool true]) ∧ Below w.heap.size w w' := by
  have DA := fun wx (hb : Below w.heap.size w wx) => at_calls M now A c l (.slice A2 q.length c2) (.slice A3 0 c3) l[i].f0 wx (hr.below hb).reads hs (by omega) ⟨_, _, _, rfl⟩ ⟨_, _, _, rfl⟩
  rw [ahead_at hs hi, isAt_at hi] at DA
  have DC := fun wx (hb : Below w.heap.size w wx) => clone_calls M now A l c A2 q c2 A3 c3 B wx (Nat.le_trans hw hb.size) (hr.below hb) (by omega) (by omega) hlj hqj
  have i0 : (0 : Int) ≤ (i : Int) := by omega
  have i1 : (i : Int) < (l.length : Int) := by omega
  unfold stV at *
  have HB0 := Lib.hid (below_alloc (below_alloc (Below.refl w.heap.size w) (.cells #[.int .i64 M, .int .i64 now, .slice A l.length c, .slice A2 q.length c2, .slice A3 0 c3] 47)) (.cells #[.int .i64 0, .int .i64 0, .int .i64 0, .int .i64 0, .int .i64 0, .int .i64 0, .slice none 0 0, .int .i64 0, .int .i64 0, .int .i64 0, .int .i64 0] 57))
  have h2 := two_blocks (w := w) (x := #[.int .i64 M, .int .i64 now, .slice A l.length c, .slice A2 q.length c2, .slice A3 0 c3]) (y := #[.int .i64 0, .int .i64 0, .int .i64 0, .int .i64 0, .int .i64 0, .int .i64 0, .slice none 0 0, .int .i64 0, .int .i64 0, .int .i64 0, .int .i64 0]) (tx := 47) (ty := 57) (Below.refl _ _)
  have HX0 := Lib.hid h2.1
  have HZ0 := Lib.hid h2.2.1
  clear h2 hr hlj hqj hs
  go_enter Tryz.func15, Tryz.ntmps15
  go_wp2_with (first
    | (go_at_call 32; (with_reducible refine (DA _ HB0.out).mono ?_); rintro e w1 ⟨rfl, hB1⟩; have HX1 := Lib.hid (blk_below HX0.out hB1); have HZ1 := Lib.hid (blk_below HZ0.out hB1); have HB1 := Lib.hid (HB0.out.trans (hB1.mono HB0.out.size)); have x0 := (blk_cell HX1.out 0).trans rfl; have x1 := (blk_cell HX1.out 1).trans rfl; have x2 := (blk_cell HX1.out 2).trans rfl; have x3 := (blk_cell HX1.out 3).trans rfl; have x4 := (blk_cell HX1.out 4).trans rfl; clear hB1)
    | (go_at_call 25; (with_reducible refine (DC _ HB1.out).mono ?_); rintro e w4 ⟨o, A4, c4, rfl, hO4, _, _, _, hB4⟩; have HZ4 := Lib.hid (blk_below HZ1.out hB4); have HB4 := Lib.hid (HB1.out.trans (hB4.mono HB1.out.size)); obtain ⟨g, hg, _⟩ := hO4.row (by intro e; rw [e] at hi; simp at hi); obtain ⟨_, r0, r1, r2, r3, r4, r5, r6, r7, r8, r9, r10⟩ := hO4.cells hi hg; have HG := Lib.hid hg; (try rw [hg]); have z0 := (blk_cell HZ4.out 0).trans rfl; have z1 := (blk_cell HZ4.out 1).trans rfl; have z2 := (blk_cell HZ4.out 2).trans rfl; have z3 := (blk_cell HZ4.out 3).trans rfl; have z4 := (blk_cell HZ4.out 4).trans rfl; have z5 := (blk_cell HZ4.out 5).trans rfl; have z6 := (blk_cell HZ4.out 6).trans rfl; have z7 := (blk_cell HZ4.out 7).trans rfl; have z8 := (blk_cell HZ4.out 8).trans rfl; have z9 := (blk_cell HZ4.out 9).trans rfl; have z10 := (blk_cell HZ4.out 10).trans rfl; have f0 := blk_frozen HZ4.out 0; have f1 := blk_frozen HZ4.out 1; have f2 := blk_frozen HZ4.out 2; have f3 := blk_frozen HZ4.out 3; have f4 := blk_frozen HZ4.out 4; have f5 := blk_frozen HZ4.out 5; have f6 := blk_frozen HZ4.out 6; have f7 := blk_frozen HZ4.out 7; have f8 := blk_frozen HZ4.out 8; have f9 := blk_frozen HZ4.out 9; have f10 := blk_frozen HZ4.out 10; have hfd := fun w => field47 M now (some ⟨g, 0, none⟩) l.length o.c o.A2 q.length o.c2 A4 0 c4 w; clear hO4 hB4 hg x0 x1 x2 x3 x4))
  have HS1 := Lib.hid (blk_put (cs' := #[.int .i64 l[i].f0, .int .i64 0, .int .i64 0, .int .i64 0, .int .i64 0, .int .i64 0, .slice none 0 0, .int .i64 0, .int .i64 0, .int .i64 0, .int .i64 0]) HZ4.out 0 (.int .i64 l[i].f0) rfl)
  have HS2 := Lib.hid (blk_put (cs' := #[.int .i64 l[i].f0, .int .i64 l[i].f1.f0, .int .i64 0, .int .i64 0, .int .i64 0, .int .i64 0, .slice none 0 0, .int .i64 0, .int .i64 0, .int .i64 0, .int .i64 0]) HS1.out 1 (.int .i64 l[i].f1.f0) rfl)
  have HS3 := Lib.hid (blk_put (cs' := #[.int .i64 l[i].f0, .int .i64 l[i].f1.f0, .int .i64 l[i].f1.f1, .int .i64 0, .int .i64 0, .int .i64 0, .slice none 0 0, .int .i64 0, .int .i64 0, .int .i64 0, .int .i64 0]) HS2.out 2 (.int .i64 l[i].f1.f1) rfl)
  have HS4 := Lib.hid (blk_put (cs' := #[.int .i64 l[i].f0, .int .i64 l[i].f1.f0, .int .i64 l[i].f1.f1, .int .i64 l[i].f1.f2, .int .i64 0, .int .i64 0, .slice none 0 0, .int .i64 0, .int .i64 0, .int .i64 0, .int .i64 0]) HS3.out 3 (.int .i64 l[i].f1.f2) rfl)
  have HS5 := Lib.hid (blk_put (cs' := #[.int .i64 l[i].f0, .int .i64 l[i].f1.f0, .int .i64 l[i].f1.f1, .int .i64 l[i].f1.f2, .int .i64 l[i].f1.f3, .int .i64 0, .slice none 0 0, .int .i64 0, .int .i64 0, .int .i64 0, .int .i64 0]) HS4.out 4 (.int .i64 l[i].f1.f3) rfl)
  have HS6 := Lib.hid (blk_put (cs' := #[.int .i64 l[i].f0, .int .i64 l[i].f1.f0, .int .i64 l[i].f1.f1, .int .i64 l[i].f1.f2, .int .i64 l[i].f1.f3, .int .i64 l[i].f1.f4, .slice none 0 0, .int .i64 0, .int .i64 0, .int .i64 0, .int .i64 0]) HS5.out 5 (.int .i64 l[i].f1.f4) rfl)
  have HS7 := Lib.hid (blk_put (cs' := #[.int .i64 l[i].f0, .int .i64 l[i].f1.f0, .int .i64 l[i].f1.f1, .int .i64 l[i].f1.f2, .int .i64 l[i].f1.f3, .int .i64 l[i].f1.f4, .slice (o.r i).1 l[i].f2.length (o.r i).2, .int .i64 0, .int .i64 0, .int .i64 0, .int .i64 0]) HS6.out 6 (.slice (o.r i).1 l[i].f2.length (o.r i).2) rfl)
  have HS8 := Lib.hid (blk_put (cs' := #[.int .i64 l[i].f0, .int .i64 l[i].f1.f0, .int .i64 l[i].f1.f1, .int .i64 l[i].f1.f2, .int .i64 l[i].f1.f3, .int .i64 l[i].f1.f4, .slice (o.r i).1 l[i].f2.length (o.r i).2, .int .i64 l[i].f3, .int .i64 0, .int .i64 0, .int .i64 0]) HS7.out 7 (.int .i64 l[i].f3) rfl)
  have HS9 := Lib.hid (blk_put (cs' := #[.int .i64 l[i].f0, .int .i64 l[i].f1.f0, .int .i64 l[i].f1.f1, .int .i64 l[i].f1.f2, .int .i64 l[i].f1.f3, .int .i64 l[i].f1.f4, .slice (o.r i).1 l[i].f2.length (o.r i).2, .int .i64 l[i].f3, .int .i64 l[i].f4, .int .i64 0, .int .i64 0]) HS8.out 8 (.int .i64 l[i].f4) rfl)
  have HS10 := Lib.hid (blk_put (cs' := #[.int .i64 l[i].f0, .int .i64 l[i].f1.f0, .int .i64 l[i].f1.f1, .int .i64 l[i].f1.f2, .int .i64 l[i].f1.f3, .int .i64 l[i].f1.f4, .slice (o.r i).1 l[i].f2.length (o.r i).2, .int .i64 l[i].f3, .int .i64 l[i].f4, .int .i64 l[i].f5, .int .i64 0]) HS9.out 9 (.int .i64 l[i].f5) rfl)
  have HS11 := Lib.hid (blk_put (cs' := #[.int .i64 l[i].f0, .int .i64 l[i].f1.f0, .int .i64 l[i].f1.f1, .int .i64 l[i].f1.f2, .int .i64 l[i].f1.f3, .int .i64 l[i].f1.f4, .slice (o.r i).1 l[i].f2.length (o.r i).2, .int .i64 l[i].f3, .int .i64 l[i].f4, .int .i64 l[i].f5, .int .i64 l[i].f6]) HS10.out 10 (.int .i64 l[i].f6) rfl)
  have HT9 := Lib.hid ((((((((((((Turn.refl w4 (fun b => b = w.heap.size + 1)).set rfl 0 (.int .i64 l[i].f0)).set rfl 1 (.int .i64 l[i].f1.f0)).set rfl 2 (.int .i64 l[i].f1.f1)).set rfl 3 (.int .i64 l[i].f1.f2)).set rfl 4 (.int .i64 l[i].f1.f3)).set rfl 5 (.int .i64 l[i].f1.f4)).set rfl 6 (.slice (o.r i).1 l[i].f2.length (o.r i).2)).set rfl 7 (.int .i64 l[i].f3)).set rfl 8 (.int .i64 l[i].f4)).set rfl 9 (.int .i64 l[i].f5)).set rfl 10 (.int .i64 l[i].f6))
  generalize hwf : World.setCell _ _ _ = wf at *
  clear HS1 HS2 HS3 HS4 HS5 HS6 HS7 HS8 HS9 HS10 hwf
  refine bodyPost_ret (results_ct rfl _ _ (w.heap.size + 1) 57 #[.int .i64 l[i].f0, .int .i64 l[i].f1.f0, .int .i64 l[i].f1.f1, .int .i64 l[i].f1.f2, .int .i64 l[i].f1.f3, .int .i64 l[i].f1.f4, .slice (o.r i).1 l[i].f2.length (o.r i).2, .int .i64 l[i].f3, .int .i64 l[i].f4, .int .i64 l[i].f5, .int .i64 l[i].f6] (0, 0) _ rfl HS11.out Tryz.underlying57 rfl (by kernel_rfl)) rfl ?_
  exact ⟨o.r i, rfl, Turn.below HB4.out HT9.out (fun b e => by omega) HB4.out.size⟩
def sysC (M now : Int) (A : Option Addr) (n c : Nat) (A2 : Option Addr) (n2 c2 : Nat) (A4 : Option Addr) (c4 : Nat) (a5 a6 a7 v8 : Value) : Array Value := #[.int .i64 M, .int .i64 now, .slice A n c, .slice A2 n2 c2, .slice A4 0 c4, a5, a6, a7, v8]
set_option maxHeartbeats 2000000 in
set_option maxRecDepth 100000 in
theorem events_calls (N : Nat) (M now : Int) (A : Option Addr) (n c : Nat) (A2 : Option Addr) (n2 c2 : Nat) (A4 : Option Addr) (c4 : Nat) (a5 a6 a7 : Value) (A8 : Option Addr) (n8 c8 : Nat) (xs : List (List Value)) (w : World) (hN : w.heap[N]? = some (.cells (sysC M now A n c A2 n2 c2 A4 c4 a5 a6 a7 (.slice A8 n8 c8)) 83 (0, 0))) (hr : (Kd.raw 4).C w A8 n8 xs) (hl : n8 ≤ 100000) :
    Calls Tryz.prog 17 #[.pointer (some ⟨N, 0, none⟩)] w fun e w' => ∃ v, e = .returned v ∧ (Kd.raw 4).R 67 w' w.heap.size (fun _ => True) v xs ∧ w'.heap[N]? = some (.cells (sysC M now A n c A2 n2 c2 A4 c4 a5 a6 a7 (.slice none 0 0)) 83 (0, 0)) ∧ Turn w w' (fun b => b = N) := by
  have HN := Lib.hid hN
  have HR := Lib.hid hr
  have hlt := blk_lt hN
  have x8 : w.cell? ⟨N, 8, none⟩ = some (.slice A8 n8 c8) := (blk_cell hN 8).trans rfl
  clear hN hr
  go_enter Tryz.func17, Tryz.ntmps17
  go_upto_region 2 with (go_at_call 33; (with_reducible refine (clone67 A8 n8 c8 xs _ HR.out hl).mono ?_); rintro e w2 ⟨v, rfl, hR2, hB2⟩; have HR2 := Lib.hid hR2; have HB2 := Lib.hid hB2; have HN2 := Lib.hid (blk_below HN.out hB2); have y8 : w2.cell? ⟨N, 8, none⟩ = some (.slice A8 n8 c8) := (blk_cell HN2.out 8).trans rfl; have f8 := blk_frozen HN2.out 8; clear hR2 hB2 x8)
  have HN3 := Lib.hid (blk_put (cs' := sysC M now A n c A2 n2 c2 A4 c4 a5 a6 a7 (.slice none 0 0)) HN2.out 8 (.slice none 0 0) rfl)
  have HT3 := Lib.hid ((Turn.refl w2 (fun b => b = N)).set rfl 8 (.slice none 0 0))
  go_wp2
  generalize hws : World.setCell _ _ _ = w3 at *
  clear hws y8 f8
  go_ret
  exact ⟨v, rfl, Kd.R_reok rfl (Kd.R_step (Kd.R_tight rfl HR2.out) (fun b hb hlt2 => HT3.out.block b hlt2 (fun e => by have := Kd.R_base HR2.out b hb.symm; omega))) (fun _ _ => trivial), HN3.out, (Turn.of_below _ HB2.out).trans HT3.out⟩
set_option maxHeartbeats 4000000 in
set_option maxRecDepth 100000 in
theorem sgo_calls (N : Nat) (M now n : Int) (A : Option Addr) (l : List S57) (c : Nat) (A2 : Option Addr) (q : List S63) (c2 : Nat) (A3 : Option Addr) (c3 : Nat) (a5 a6 a7 : Value) (AE : Option Addr) (nE cE : Nat) (E : List (List Value)) (base : Nat) (B : Bd) (F0 : Nat → Prop) (w : World) (hN : w.heap[N]? = some (.cells (sysC M now A l.length c A2 q.length c2 A3 c3 a5 a6 a7 (.slice AE nE cE)) 83 (0, 0))) (hE : (Kd.raw 4).R 67 w base (fun _ => True) (.slice AE nE cE) E) (hEl : E.length ≤ 10000000) (hEN : (Value.slice AE nE cE).ownBlock ≠ some N) (hbase : base ≤ w.heap.size) (hB : B.n ≤ w.heap.size) (hF : RdF w F0 B A l A2 q) (hF0 : ∀ b, F0 b → b < w.heap.size) (I : Int → List S57 → List S63 → Prop) (hI : GoInv M (now + n) I) (h0 : I now l q) (hFN : ∀ b, F0 b → b ≠ N ∧ (Value.slice AE nE cE).ownBlock ≠ some b) (hGN : ∀ b, B.G b → b ≠ N ∧ (Value.slice AE nE cE).ownBlock ≠ some b) (hn : 0 ≤ n) (hn2 : n ≤ 1000) (hnow : 0 ≤ now) (hnow2 : now ≤ 1000000000) :
    Calls Tryz.prog 14 #[.pointer (some ⟨N, 0, none⟩), .int .i64 n] w fun e w' => ∃ A' c' A2' c2' A4 c4 A7 n7 c7 F, e = .returned .nilIface ∧ w'.heap[N]? = some (.cells (sysC M (now + n) A' (goL n.toNat M now (now + n) l q).1.length c' A2' (goL n.toNat M now (now + n) l q).2.1.length c2' A4 c4 a5 a6 a7 (.slice A7 n7 c7)) 83 (0, 0)) ∧ (Kd.raw 4).R 67 w' base (fun _ => True) (.slice A7 n7 c7) (E ++ (goL n.toNat M now (now + n) l q).2.2.map Ev.cells) ∧ RdF w' F B A' (goL n.toNat M now (now + n) l q).1 A2' (goL n.toNat M now (now + n) l q).2.1 ∧ (∀ b, F b → (F0 b ∨ w.heap.size ≤ b) ∧ b < w'.heap.size ∧ b ≠ N ∧ (Value.slice A7 n7 c7).ownBlock ≠ some b) ∧ ((Value.slice A7 n7 c7).ownBlock = (Value.slice AE nE cE).ownBlock ∨ ∃ b, (Value.slice A7 n7 c7).ownBlock = some b ∧ w.heap.size ≤ b) ∧ I (now + n) (goL n.toNat M now (now + n) l q).1 (goL n.toNat M now (now + n) l q).2.1 ∧ Turn w w' (fun b => b = N ∨ some b = (Value.slice AE nE cE).ownBlock) := by
  have DG := fun wx (hb : Below w.heap.size w wx) => go_calls M now n A l c A2 q c2 A3 c3 B F0 wx (Nat.le_trans hB hb.size) (hF.below hb) (fun b h => Nat.lt_of_lt_of_le (hF0 b h) hb.size) I hI h0 hn hn2 hnow hnow2
  have HN := Lib.hid hN
  have HE := Lib.hid hE
  have x0 : w.cell? ⟨N, 0, none⟩ = some (.int .i64 M) := (blk_cell hN 0).trans rfl
  have x1 : w.cell? ⟨N, 1, none⟩ = some (.int .i64 now) := (blk_cell hN 1).trans rfl
  have x2 : w.cell? ⟨N, 2, none⟩ = some (.slice A l.length c) := (blk_cell hN 2).trans rfl
  have x3 : w.cell? ⟨N, 3, none⟩ = some (.slice A2 q.length c2) := (blk_cell hN 3).trans rfl
  have x4 : w.cell? ⟨N, 4, none⟩ = some (.slice A3 0 c3) := (blk_cell hN 4).trans rfl
  obtain ⟨⟨l', q', ev⟩, hgo⟩ : ∃ r, goL n.toNat M now (now + n) l q = r := ⟨_, rfl⟩
  rw [hgo] at DG
  rw [hgo]
  dsimp only at DG
  unfold stV at DG
  clear hN hE hF hI h0 hgo
  go_enter Tryz.func14, Tryz.ntmps14
  go_upto_region 2 with (go_at_call 31; (with_reducible refine (DG _ (Below.refl _ _)).mono ?_); rintro e w2 ⟨A', c', A2', c2', A4, c4, v, F, rfl, hR2, hF2, hE2, hl2, hI2, hB2⟩; have HR2 := Lib.hid hR2; have HF2 := Lib.hid hF2; have HE2 := Lib.hid hE2; have HI2 := Lib.hid hI2; have HB2 := Lib.hid hB2; clear hR2 hF2 hE2 hI2 hB2)
  have HP := Lib.hid (blk_new w2 (.cells #[.int .i64 M, .int .i64 (now + n), .slice A' l'.length c', .slice A2' q'.length c2', .slice A4 0 c4] 47))
  have HB23 : Hid (Below w2.heap.size w2 (w2.alloc (.cells #[.int .i64 M, .int .i64 (now + n), .slice A' l'.length c', .slice A2' q'.length c2', .slice A4 0 c4] 47))) := Lib.hid (below_alloc (Below.refl _ _) _)
  clear DG x0 x1 x2 x3 x4
  generalize hw3 : World.alloc _ _ = w3 at *
  clear hw3
  have HB3 := Lib.hid (HB2.out.trans (HB23.out.mono HB2.out.size))
  have HN3 := Lib.hid (blk_below HN.out HB3.out)
  have y0 := (blk_cell HP.out 0).trans rfl
  have y1 := (blk_cell HP.out 1).trans rfl
  have y2 := (blk_cell HP.out 2).trans rfl
  have y3 := (blk_cell HP.out 3).trans rfl
  have y4 := (blk_cell HP.out 4).trans rfl
  have z0 : w3.cell? ⟨N, 0, none⟩ = some (.int .i64 M) := (blk_cell HN3.out 0).trans rfl
  have z1 : w3.cell? ⟨N, 1, none⟩ = some (.int .i64 now) := (blk_cell HN3.out 1).trans rfl
  have z2 : w3.cell? ⟨N, 2, none⟩ = some (.slice A l.length c) := (blk_cell HN3.out 2).trans rfl
  have z3 : w3.cell? ⟨N, 3, none⟩ = some (.slice A2 q.length c2) := (blk_cell HN3.out 3).trans rfl
  have z4 : w3.cell? ⟨N, 4, none⟩ = some (.slice A3 0 c3) := (blk_cell HN3.out 4).trans rfl
  have f0 := blk_frozen HN3.out 0
  have f1 := blk_frozen HN3.out 1
  have f2 := blk_frozen HN3.out 2
  have f3 := blk_frozen HN3.out 3
  have f4 := blk_frozen HN3.out 4
  go_upto_region 5 with fail
  have HN4 := Lib.hid (blk_put (cs' := sysC M (now + n) A' l'.length c' A2' q'.length c2' A4 c4 a5 a6 a7 (.slice AE nE cE)) (blk_put (blk_put (blk_put (blk_put HN3.out 0 (.int .i64 M) rfl) 1 (.int .i64 (now + n)) rfl) 2 (.slice A' l'.length c') rfl) 3 (.slice A2' q'.length c2') rfl) 4 (.slice A4 0 c4) rfl)
  have HT4 := Lib.hid ((((((Turn.refl w3 (fun b => b = N)).set rfl 0 (.int .i64 M)).set rfl 1 (.int .i64 (now + n))).set rfl 2 (.slice A' l'.length c')).set rfl 3 (.slice A2' q'.length c2')).set rfl 4 (.slice A4 0 c4))
  generalize hws : World.setCell _ _ _ = w4 at *
  clear hws y0 y1 y2 y3 y4 z0 z1 z2 z3 z4 f0 f1 f2 f3 f4
  have hNw : N < w.heap.size := blk_lt HN.out
  have hs3 := HB3.out.size
  have hs4 := HT4.out.size
  have HE4 : Hid ((Kd.raw 4).R 67 w4 base (fun _ => True) (.slice AE nE cE) E) := Lib.hid (Kd.R_reok rfl (Kd.R_step (Kd.R_tight rfl (Kd.R_below HE.out HB3.out)) (fun b hb hlt => HT4.out.block b hlt (fun e => by subst e; exact hEN hb.symm))) (fun _ _ => trivial))
  have HV4 : (Kd.raw 4).R 67 w4 w.heap.size (fun _ => True) v (ev.map Ev.cells) := Kd.R_reok rfl (Kd.R_step (Kd.R_tight rfl (Kd.R_below HE2.out HB23.out)) (fun b hb hlt => HT4.out.block b hlt (fun e => by have := Kd.R_base HE2.out b hb.symm; omega))) (fun _ _ => trivial)
  obtain ⟨AV, cV, rfl, hcV, hCV⟩ := Kd.R_reads HV4
  have HCV := Lib.hid hCV
  have x8 : w4.cell? ⟨N, 8, none⟩ = some (.slice AE nE cE) := (blk_cell HN4.out 8).trans rfl
  have hb4 : base ≤ w4.heap.size := by omega
  have hev : (ev.map Ev.cells).length ≤ 1000000 := by rw [List.length_map]; omega
  generalize hes : ev.map Ev.cells = es at *
  have HES := Lib.hid hes
  clear hes hCV HV4
  go_upto_region 6 with ((with_reducible refine gate_builtin (b := .append) (xs := #[.tmp 30, .tmp 31]) rfl ?_); at_builtin; refine Kd.R_append_rows (Kd.raw 4) (Rr := (Kd.raw 4).K w4) (okp := fun _ => False) (w0 := w4) base rfl (.tmp 30) (.tmp 31) 48 67 (.agg #[.int .i64 0, .int .i64 0, .int .i64 0, .int .i64 0]) 32 rfl Tryz.underlying48 info67 rfl (by decide) (by omega) (.slice AE nE cE) E es AV es.length cV (fun _ => True) rfl rfl HE4.out ?hC (fun _ _ h => h) (fun _ h => h.elim) (fun _ _ => trivial) (Below.refl _ _) hb4 ?aL ?_; (case hC => exact HCV.out); (case aL => omega); intro v5 w5 hR5 hB5 hg5 hat5; obtain ⟨A7, c7, e7⟩ := Kd.R_slice hR5; rw [List.length_append] at e7; subst e7; have HR5 := Lib.hid hR5; have HT5 := Lib.hid (grown_turn hg5); have HAT5 := Lib.hid hat5; have HN5 := Lib.hid ((HT5.out.block N (by omega) (fun e => hEN e.symm)).trans HN4.out); have y8 : w5.cell? ⟨N, 8, none⟩ = some (.slice AE nE cE) := ((blk_cell HN5.out 8).trans rfl); have f8 := blk_frozen HN5.out 8; clear hR5 hB5 hg5 hat5 x8)
  have HN6 := Lib.hid (blk_put (cs' := sysC M (now + n) A' l'.length c' A2' q'.length c2' A4 c4 a5 a6 a7 (.slice A7 (E.length + es.length) c7)) HN5.out 8 (.slice A7 (E.length + es.length) c7) rfl)
  have HT6 := Lib.hid ((Turn.refl w5 (fun b => b = N)).set rfl 8 (.slice A7 (E.length + es.length) c7))
  generalize hws : World.setCell _ _ _ = w6 at *
  clear hws y8 f8
  go_wp2
  go_ret
  have hs5 := HT5.out.size
  have hs6 := HT6.out.size
  have hs23 := HB23.out.size
  have hEl2 : ∀ b, (Value.slice AE nE cE).ownBlock = some b → b < w.heap.size := fun b e => Kd.R_lt HE.out b e
  have hn7 : (Value.slice A7 (E.length + es.length) c7).ownBlock ≠ some N := fun e => by
    rcases HAT5.out with h | ⟨b, h, hle⟩
    · exact hEN (h ▸ e)
    · rw [h] at e; injection e with e; omega
  have hFb : ∀ b, F b → b ≠ N ∧ (Value.slice AE nE cE).ownBlock ≠ some b := fun b h => by
    rcases (HF2.out b h).1 with h1 | h1
    · exact hFN b h1
    · exact ⟨by omega, fun e => by have := hEl2 b e; omega⟩
  have hT26 : Turn w2 w6 (fun b => b = N ∨ some b = (Value.slice AE nE cE).ownBlock) := (((Turn.of_below _ HB23.out).trans (HT4.out.imp (fun b e => .inl e))).trans (HT5.out.imp (fun b e => .inr e))).trans (HT6.out.imp (fun b e => .inl e))
  refine ⟨A', c', A2', c2', A4, c4, A7, _, c7, F, rfl, HN6.out, ?_, HR2.out.keep hT26 (fun b e => ⟨fun h => e.elim (hFb b h).1 (fun e => (hFb b h).2 e.symm), fun h => e.elim (hGN b h).1 (fun e => (hGN b h).2 e.symm)⟩), fun b h => ⟨(HF2.out b h).1, by have := (HF2.out b h).2.1; omega, (hFb b h).1, fun e => ?_⟩, HAT5.out.imp (fun h => h) (fun ⟨b, h1, h2⟩ => ⟨b, h1, by omega⟩), HI2.out, (Turn.of_below _ HB2.out).trans hT26⟩
  · rw [HES.out]
    exact Kd.R_reok rfl (Kd.R_step (Kd.R_tight rfl HR5.out) (fun b hb hlt => HT6.out.block b hlt (fun e => by subst e; exact hn7 hb.symm))) (fun _ _ => trivial)
  · rcases HAT5.out with h2 | ⟨b2, h2, hle⟩
    · exact (hFb b h).2 (h2 ▸ e)
    · rw [h2] at e; injection e with e; have := (HF2.out b h).2.1; omega
def sfindw.T4 : Bool × List (List Nat × List Nat) := (true, [([], []), ([0], [0]), ([1], [1]), ([2], [2]), ([], []), ([4], [4]), ([3, 5, 5], [3, 5]), ([6], [6]), ([7], [7]), ([7], [7]), ([], []), ([10, 8, 6, 0, 1, 2, 3, 4, 5, 6, 7, 8, 10], [8, 10]), ([9, 11, 0, 1, 2, 3, 4, 5, 6, 7, 8, 9, 10, 11], [9])])
def sfindw.B4 : List Nat := [0, 1, 3, 7, 0, 16, 63, 127, 255, 255, 0, 1535, 4095]
theorem sfindw.tab4 : rtab .any (opsOf Tryz.f23 4) = sfindw.T4 := by kernel_rfl
theorem sfindw.bits4 : waitsOk sfindw.T4.2 sfindw.B4 = true := by kernel_rfl
theorem put57 {w : World} {b t : Nat} {z0 z1 z2 z3 z4 z5 z6 z7 z8 z9 z10 : Value} (h : w.heap[b]? = some (.cells #[z0, z1, z2, z3, z4, z5, z6, z7, z8, z9, z10] t (0, 0))) (v0 v1 v2 v3 v4 v5 v6 v7 v8 v9 v10 : Value) : ((((((((((((w.setCell ⟨b, 0, none⟩ v0).setCell ⟨b, 1, none⟩ v1).setCell ⟨b, 2, none⟩ v2).setCell ⟨b, 3, none⟩ v3).setCell ⟨b, 4, none⟩ v4).setCell ⟨b, 5, none⟩ v5).setCell ⟨b, 6, none⟩ v6).setCell ⟨b, 7, none⟩ v7).setCell ⟨b, 8, none⟩ v8).setCell ⟨b, 9, none⟩ v9).setCell ⟨b, 10, none⟩ v10)).heap[b]? = some (.cells #[v0, v1, v2, v3, v4, v5, v6, v7, v8, v9, v10] t (0, 0)) :=
  (blk_put (cs' := #[v0, v1, v2, v3, v4, v5, v6, v7, v8, v9, v10]) (blk_put (cs' := #[v0, v1, v2, v3, v4, v5, v6, v7, v8, v9, z10]) (blk_put (cs' := #[v0, v1, v2, v3, v4, v5, v6, v7, v8, z9, z10]) (blk_put (cs' := #[v0, v1, v2, v3, v4, v5, v6, v7, z8, z9, z10]) (blk_put (cs' := #[v0, v1, v2, v3, v4, v5, v6, z7, z8, z9, z10]) (blk_put (cs' := #[v0, v1, v2, v3, v4, v5, z6, z7, z8, z9, z10]) (blk_put (cs' := #[v0, v1, v2, v3, v4, z5, z6, z7, z8, z9, z10]) (blk_put (cs' := #[v0, v1, v2, v3, z4, z5, z6, z7, z8, z9, z10]) (blk_put (cs' := #[v0, v1, v2, z3, z4, z5, z6, z7, z8, z9, z10]) (blk_put (cs' := #[v0, v1, z2, z3, z4, z5, z6, z7, z8, z9, z10]) (blk_put (cs' := #[v0, z1, z2, z3, z4, z5, z6, z7, z8, z9, z10]) h 0 v0 rfl) 1 v1 rfl) 2 v2 rfl) 3 v3 rfl) 4 v4 rfl) 5 v5 rfl) 6 v6 rfl) 7 v7 rfl) 8 v8 rfl) 9 v9 rfl) 10 v10 rfl)
theorem turn57 (w : World) (b : Nat) (v0 v1 v2 v3 v4 v5 v6 v7 v8 v9 v10 : Value) : Turn w ((((((((((((w.setCell ⟨b, 0, none⟩ v0).setCell ⟨b, 1, none⟩ v1).setCell ⟨b, 2, none⟩ v2).setCell ⟨b, 3, none⟩ v3).setCell ⟨b, 4, none⟩ v4).setCell ⟨b, 5, none⟩ v5).setCell ⟨b, 6, none⟩ v6).setCell ⟨b, 7, none⟩ v7).setCell ⟨b, 8, none⟩ v8).setCell ⟨b, 9, none⟩ v9).setCell ⟨b, 10, none⟩ v10)) (fun x => x = b) :=
  ((((((((((((Turn.refl w (fun x => x = b)).set rfl 0 v0).set rfl 1 v1).set rfl 2 v2).set rfl 3 v3).set rfl 4 v4).set rfl 5 v5).set rfl 6 v6).set rfl 7 v7).set rfl 8 v8).set rfl 9 v9).set rfl 10 v10)
set_option maxHeartbeats 4000000 in
set_option maxRecDepth 100000 in
theorem sfind_calls (N Nn Ns nn : Nat) (M now : Int) (A : Option Addr) (l : List S57) (c : Nat) (A2 : Option Addr) (q : List S63) (c2 : Nat) (A3 : Option Addr) (c3 : Nat) (a5 a7 v8 : Value) (B : Bd) (i : Nat) (hi : i < l.length) (w : World) (hN : w.heap[N]? = some (.cells (sysC M now A l.length c A2 q.length c2 A3 c3 a5 (.pointer (some ⟨Nn, 0, none⟩)) a7 v8) 83 (0, 0))) (ht : TabAt w Nn Ns nn) (hin : i < nn) (hw : B.n ≤ w.heap.size) (hr : Rd w B A l A2 q) (hs : Sorted l) (hid : l[i].f0 = (i : Int) + 1) (hl : l.length ≤ 31) (hq : q.length ≤ 8) (hlj : ∀ i (h : i < l.length), l[i].f2.length ≤ 100000) (hqj : ∀ i (h : i < q.length), q[i].f2.length ≤ 100000) :
    Calls Tryz.prog 23 #[.pointer (some ⟨N, 0, none⟩), .int .u32 i] w fun e w' => ∃ p, e = .returned (.tuple #[servV l[i] p, .int .i64 0]) ∧ Below w.heap.size w w' := by
  have hi32 : i < 32 := by omega
  have DI := fun wx (hb : Below w.heap.size w wx) => is_calls Nn Ns nn i wx (ht.below hb) hin
  have DD := fun wx => nid_calls i wx hi32
  have DF := fun wx (hb : Below w.heap.size w wx) id (e : l[i].f0 = id) => (by subst e; exact find_calls M now A l c A2 q c2 A3 c3 B i hi wx (Nat.le_trans hw hb.size) (hr.below hb) hs hl hq hlj hqj : Calls Tryz.prog 15 #[stV M now A l.length c A2 q.length c2 A3 c3, .int .i64 id] wx fun e w' => ∃ p, e = .returned (.tuple #[servV l[i] p, .bool true]) ∧ Below wx.heap.size wx w')
  have HID := Lib.hid hid
  have HB0 := Lib.hid (below_alloc (Below.refl w.heap.size w) (.cells #[.int .i64 0, .int .i64 0, .int .i64 0, .int .i64 0, .int .i64 0, .int .i64 0, .slice none 0 0, .int .i64 0, .int .i64 0, .int .i64 0, .int .i64 0] 57))
  have HZ0 := Lib.hid (blk_new w (.cells #[.int .i64 0, .int .i64 0, .int .i64 0, .int .i64 0, .int .i64 0, .int .i64 0, .slice none 0 0, .int .i64 0, .int .i64 0, .int .i64 0, .int .i64 0] 57))
  have HN0 := Lib.hid (blk_below hN (below_alloc (Below.refl w.heap.size w) (.cells #[.int .i64 0, .int .i64 0, .int .i64 0, .int .i64 0, .int .i64 0, .int .i64 0, .slice none 0 0, .int .i64 0, .int .i64 0, .int .i64 0, .int .i64 0] 57)))
  have hs0 : (w.alloc (.cells #[.int .i64 0, .int .i64 0, .int .i64 0, .int .i64 0, .int .i64 0, .int .i64 0, .slice none 0 0, .int .i64 0, .int .i64 0, .int .i64 0, .int .i64 0] 57)).heap.size = w.heap.size + 1 := World.size_alloc _ _
  generalize hw0 : w.alloc (.cells #[.int .i64 0, .int .i64 0, .int .i64 0, .int .i64 0, .int .i64 0, .int .i64 0, .slice none 0 0, .int .i64 0, .int .i64 0, .int .i64 0, .int .i64 0] 57) = w0 at *
  have x6 : w0.cell? ⟨N, 6, none⟩ = some (.pointer (some ⟨Nn, 0, none⟩)) := (blk_cell HN0.out 6).trans rfl
  have HW0 := Lib.hid hw0
  unfold stV servV at *
  clear hr hlj hqj hs hN ht hw hid hl hq hw0
  go_enter Tryz.func23, Tryz.ntmps23
  go_upto_region 1 with fail
  rw [HW0.out]
  go_upto_region 4 with (go_at_call 41; (with_reducible refine (DI _ HB0.out).mono ?_); rintro e w1 ⟨rfl, hB1⟩; have HN1 := Lib.hid (blk_below HN0.out hB1); have HZ1 := Lib.hid (blk_below HZ0.out hB1); have HB1 := Lib.hid (HB0.out.trans (hB1.mono HB0.out.size)); clear hB1 x6)
  clear HB0 HZ0 HN0
  refine start_ (n := 13) (S := fun w' => Hid (Below w1.heap.size w1 w')) (ds := [11]) #[false, false, false, false, false, false, false, false, false, false, false, false, false] (by kernel_rfl) rfl rfl ((Lib.hid (below_drew (Below.refl _ _)))) (fun hHeld => ?_)
  refine with_tabW sfindw.tab4 sfindw.bits4 (fun HT_ HW_ => ?_)
  have hbd : Hid (Below w1.heap.size w1 w1.drew) := Lib.hid ⟨rfl, rfl, rfl, Nat.le_refl _, fun _ _ => rfl⟩
  have hsd : w1.heap.size = w1.drew.heap.size := rfl
  generalize hwd : w1.drew = wd at *
  clear hwd
  refine pst (i := 0) (N := some 20) HT_ (h := ?_)
  refine pst (i := 1) (N := some 21) HT_ (h := ?_)
  refine pst (i := 2) (N := some 22) HT_ (h := ?_)
  refine pst (i := 4) (N := some 24) HT_ (h := ?_)
  refine tst (i := 3) (N := some 23) HT_ HW_ hHeld (hy := by (intro w' s0; have y0 : w'.cell? ⟨N, 0, none⟩ = some (.int .i64 M) := (blk_cell (blk_below HN1.out s0.out) 0).trans rfl; have y1 : w'.cell? ⟨N, 1, none⟩ = some (.int .i64 now) := (blk_cell (blk_below HN1.out s0.out) 1).trans rfl; have y2 : w'.cell? ⟨N, 2, none⟩ = some (.slice A l.length c) := (blk_cell (blk_below HN1.out s0.out) 2).trans rfl; have y3 : w'.cell? ⟨N, 3, none⟩ = some (.slice A2 q.length c2) := (blk_cell (blk_below HN1.out s0.out) 3).trans rfl; have y4 : w'.cell? ⟨N, 4, none⟩ = some (.slice A3 0 c3) := (blk_cell (blk_below HN1.out s0.out) 4).trans rfl); go_simp; with_reducible rfl) (h := ?_)
  refine join_ (σ := Nat × Ref) 2 #[true, true, true, true, true, true, true, true, true, true, true, false, false] (fun s => [(25, .int .i64 ((i : Int) + 1)), (26, .tuple #[.agg #[.int .i64 l[i].f0, .int .i64 l[i].f1.f0, .int .i64 l[i].f1.f1, .int .i64 l[i].f1.f2, .int .i64 l[i].f1.f3, .int .i64 l[i].f1.f4, .slice s.2.1 l[i].f2.length s.2.2, .int .i64 l[i].f3, .int .i64 l[i].f4, .int .i64 l[i].f5, .int .i64 l[i].f6], .bool true]), (19, .tuple #[.agg #[.int .i64 l[i].f0, .int .i64 l[i].f1.f0, .int .i64 l[i].f1.f1, .int .i64 l[i].f1.f2, .int .i64 l[i].f1.f3, .int .i64 l[i].f1.f4, .slice s.2.1 l[i].f2.length s.2.2, .int .i64 l[i].f3, .int .i64 l[i].f4, .int .i64 l[i].f5, .int .i64 l[i].f6], .bool true]), (27, .agg #[.int .i64 l[i].f0, .int .i64 l[i].f1.f0, .int .i64 l[i].f1.f1, .int .i64 l[i].f1.f2, .int .i64 l[i].f1.f3, .int .i64 l[i].f1.f4, .slice s.2.1 l[i].f2.length s.2.2, .int .i64 l[i].f3, .int .i64 l[i].f4, .int .i64 l[i].f5, .int .i64 l[i].f6]), (28, .bool true), (7, .pointer (some ⟨s.1, 0, none⟩))]) (fun s w' => Hid (w'.heap[s.1]? = some (.cells #[.int .i64 0, .int .i64 0, .int .i64 0, .int .i64 0, .int .i64 0, .int .i64 0, .slice none 0 0, .int .i64 0, .int .i64 0, .int .i64 0, .int .i64 0] 57 (0, 0))) ∧ Hid (Below w1.heap.size w1 w') ∧ Hid (w1.heap.size ≤ s.1)) ?_ ?_
  rotate_left
  · intro hCont
    refine two_ (i := 5) (j := 10) (Ni := some 25) (Nj := some 7) #[true, true, true, true, true, true, false, false, false, false, false, false, false] #[true, true, true, true, true, false, false, false, false, false, true, false, false] rfl rfl rfl rfl (two_of HT_.out (by kernel_rfl)) (by decide) (by decide) (fun K hK => ?_) (fun K hK => ?_)
    · skip
      refine goes_ Tryz.func42 (by kernel_rfl) rfl #[.int .u32 i] (by rfl) rfl rfl (by simp only [List.map_toArray, List.map_cons, List.map_nil]; rfl) ?_
      with_reducible refine (DD _).mono ?_
      rintro e w14 ⟨rfl, rfl⟩
      refine ⟨_, rfl, ?_⟩
      refine hK.out _ _ (hHeld) (fun hHeld => ?_)
      clear hK K
      refine norm_ (a' := ?_) ?_ ?_
      rotate_left
      · show Act.put _ (some 25) _ = _
        simp only [Act.put, List.setIfInBounds_toArray, List.set_cons_zero, List.set_cons_succ, i64_w, i32_w]
        rfl
      refine two_ (i := 6) (j := 10) (Ni := some 26) (Nj := some 7) #[true, true, true, true, true, true, true, false, false, false, false, false, false] #[true, true, true, true, true, true, false, false, false, false, true, false, false] rfl rfl rfl rfl (two_of HT_.out (by kernel_rfl)) (by decide) (by decide) (fun K hK => ?_) (fun K hK => ?_)
      · skip
        refine goes_ Tryz.func15 (by kernel_rfl) rfl #[.agg #[.int .i64 M, .int .i64 now, .slice A l.length c, .slice A2 q.length c2, .slice A3 0 c3], .int .i64 ((i : Int) + 1)] (by rfl) rfl rfl (by simp only [List.map_toArray, List.map_cons, List.map_nil]; rfl) ?_
        with_reducible refine (DF _ (HB1.out.trans (hHeld.out.mono HB1.out.size)) _ HID.out).mono ?_
        rintro e w15 ⟨p, rfl, hB15⟩
        refine ⟨_, rfl, ?_⟩
        refine hK.out _ _ ((Lib.hid (hHeld.out.trans (hB15.mono hHeld.out.size)))) (fun hHeld => ?_)
        clear hK K
        refine norm_ (a' := ?_) ?_ ?_
        rotate_left
        · show Act.put _ (some 26) _ = _
          simp only [Act.put, List.setIfInBounds_toArray, List.set_cons_zero, List.set_cons_succ, i64_w, i32_w]
          rfl
        refine pst (i := 7) (N := some 19) HT_ (h := ?_)
        refine pst (i := 8) (N := some 27) HT_ (h := ?_)
        refine pst (i := 9) (N := some 28) HT_ (h := ?_)
        refine one_ (i := 10) (N := some 7) #[true, true, true, true, true, true, true, true, true, true, true, false, false] rfl rfl (one_of HT_.out (by kernel_rfl)) (by decide) (fun K hK => ?_)
        refine value_ (w1 := ?_) (v := ?_) (by rfl) rfl ?_ ?_
        rotate_left 2
        · go_simp
          constructor
          · rfl
          · rfl
        refine hK.out _ _ ((Lib.hid (hHeld.out.trans ((below_alloc (Below.refl _ _) _).mono hHeld.out.size)))) (fun hHeld => ?_)
        clear hK K
        refine norm_ (a' := ?_) ?_ ?_
        rotate_left
        · show Act.put _ (some 7) _ = _
          simp only [Act.put, List.setIfInBounds_toArray, List.set_cons_zero, List.set_cons_succ, i64_w, i32_w]
          rfl
        exact norm_ (by simp only [putAll, Act.put, List.setIfInBounds_toArray, List.set_cons_zero, List.set_cons_succ]) (hCont (w15.heap.size, p) _ ⟨Lib.hid (blk_new w15 _), hHeld, Lib.hid (by have := hB15.size; omega)⟩)
      · skip
        refine value_ (w1 := ?_) (v := ?_) (by rfl) rfl ?_ ?_
        rotate_left 2
        · go_simp
          constructor
          · rfl
          · rfl
        refine hK.out _ _ ((Lib.hid (hHeld.out.trans ((below_alloc (Below.refl _ _) _).mono hHeld.out.size)))) (fun hHeld => ?_)
        clear hK K
        refine norm_ (a' := ?_) ?_ ?_
        rotate_left
        · show Act.put _ (some 7) _ = _
          simp only [Act.put, List.setIfInBounds_toArray, List.set_cons_zero, List.set_cons_succ, i64_w, i32_w]
          rfl
        refine one_ (i := 6) (N := some 26) #[true, true, true, true, true, true, true, false, false, false, true, false, false] rfl rfl (one_of HT_.out (by kernel_rfl)) (by decide) (fun K hK => ?_)
        refine goes_ Tryz.func15 (by kernel_rfl) rfl #[.agg #[.int .i64 M, .int .i64 now, .slice A l.length c, .slice A2 q.length c2, .slice A3 0 c3], .int .i64 ((i : Int) + 1)] (by rfl) rfl rfl (by simp only [List.map_toArray, List.map_cons, List.map_nil]; rfl) ?_
        with_reducible refine (DF _ (HB1.out.trans (hHeld.out.mono HB1.out.size)) _ HID.out).mono ?_
        rintro e w15 ⟨p, rfl, hB15⟩
        refine ⟨_, rfl, ?_⟩
        refine hK.out _ _ ((Lib.hid (hHeld.out.trans (hB15.mono hHeld.out.size)))) (fun hHeld => ?_)
        clear hK K
        refine norm_ (a' := ?_) ?_ ?_
        rotate_left
        · show Act.put _ (some 26) _ = _
          simp only [Act.put, List.setIfInBounds_toArray, List.set_cons_zero, List.set_cons_succ, i64_w, i32_w]
          rfl
        refine pst (i := 7) (N := some 19) HT_ (h := ?_)
        refine pst (i := 8) (N := some 27) HT_ (h := ?_)
        refine pst (i := 9) (N := some 28) HT_ (h := ?_)
        exact norm_ (by simp only [putAll, Act.put, List.setIfInBounds_toArray, List.set_cons_zero, List.set_cons_succ]) (hCont (wd.heap.size, p) _ ⟨Lib.hid (blk_below (blk_new wd _) hB15), hHeld, Lib.hid (by omega)⟩)
    · skip
      refine value_ (w1 := ?_) (v := ?_) (by rfl) rfl ?_ ?_
      rotate_left 2
      · go_simp
        constructor
        · rfl
        · rfl
      refine hK.out _ _ ((Lib.hid (hHeld.out.trans ((below_alloc (Below.refl _ _) _).mono hHeld.out.size)))) (fun hHeld => ?_)
      clear hK K
      refine norm_ (a' := ?_) ?_ ?_
      rotate_left
      · show Act.put _ (some 7) _ = _
        simp only [Act.put, List.setIfInBounds_toArray, List.set_cons_zero, List.set_cons_succ, i64_w, i32_w]
        rfl
      refine one_ (i := 5) (N := some 25) #[true, true, true, true, true, true, false, false, false, false, true, false, false] rfl rfl (one_of HT_.out (by kernel_rfl)) (by decide) (fun K hK => ?_)
      refine goes_ Tryz.func42 (by kernel_rfl) rfl #[.int .u32 i] (by rfl) rfl rfl (by simp only [List.map_toArray, List.map_cons, List.map_nil]; rfl) ?_
      with_reducible refine (DD _).mono ?_
      rintro e w14 ⟨rfl, rfl⟩
      refine ⟨_, rfl, ?_⟩
      refine hK.out _ _ (hHeld) (fun hHeld => ?_)
      clear hK K
      refine norm_ (a' := ?_) ?_ ?_
      rotate_left
      · show Act.put _ (some 25) _ = _
        simp only [Act.put, List.setIfInBounds_toArray, List.set_cons_zero, List.set_cons_succ, i64_w, i32_w]
        rfl
      refine one_ (i := 6) (N := some 26) #[true, true, true, true, true, true, true, false, false, false, true, false, false] rfl rfl (one_of HT_.out (by kernel_rfl)) (by decide) (fun K hK => ?_)
      refine goes_ Tryz.func15 (by kernel_rfl) rfl #[.agg #[.int .i64 M, .int .i64 now, .slice A l.length c, .slice A2 q.length c2, .slice A3 0 c3], .int .i64 ((i : Int) + 1)] (by rfl) rfl rfl (by simp only [List.map_toArray, List.map_cons, List.map_nil]; rfl) ?_
      with_reducible refine (DF _ (HB1.out.trans (hHeld.out.mono HB1.out.size)) _ HID.out).mono ?_
      rintro e w15 ⟨p, rfl, hB15⟩
      refine ⟨_, rfl, ?_⟩
      refine hK.out _ _ ((Lib.hid (hHeld.out.trans (hB15.mono hHeld.out.size)))) (fun hHeld => ?_)
      clear hK K
      refine norm_ (a' := ?_) ?_ ?_
      rotate_left
      · show Act.put _ (some 26) _ = _
        simp only [Act.put, List.setIfInBounds_toArray, List.set_cons_zero, List.set_cons_succ, i64_w, i32_w]
        rfl
      refine pst (i := 7) (N := some 19) HT_ (h := ?_)
      refine pst (i := 8) (N := some 27) HT_ (h := ?_)
      refine pst (i := 9) (N := some 28) HT_ (h := ?_)
      exact norm_ (by simp only [putAll, Act.put, List.setIfInBounds_toArray, List.set_cons_zero, List.set_cons_succ]) (hCont (wd.heap.size, p) _ ⟨Lib.hid (blk_below (blk_new wd _) hB15), hHeld, Lib.hid (by omega)⟩)
  rintro ⟨sb, pr⟩ w16 ⟨hA6, hB6, hS6⟩
  have hHeld : Hid (Below w1.heap.size w1 w16) := hB6
  refine norm_ (a' := ?_) ?_ ?_
  rotate_left
  · simp only [putAll, Act.put, List.setIfInBounds_toArray, List.set_cons_zero, List.set_cons_succ]
    rfl
  refine last_ (i := 11) (N := none) #[true, true, true, true, true, true, true, true, true, true, true, true, false] rfl rfl (one_of HT_.out (by kernel_rfl)) (by decide) (fun K hK => ?_)
  have z0 := (blk_cell hA6.out 0).trans rfl
  have f0 := blk_frozen hA6.out 0
  have z1 := (blk_cell hA6.out 1).trans rfl
  have f1 := blk_frozen hA6.out 1
  have z2 := (blk_cell hA6.out 2).trans rfl
  have f2 := blk_frozen hA6.out 2
  have z3 := (blk_cell hA6.out 3).trans rfl
  have f3 := blk_frozen hA6.out 3
  have z4 := (blk_cell hA6.out 4).trans rfl
  have f4 := blk_frozen hA6.out 4
  have z5 := (blk_cell hA6.out 5).trans rfl
  have f5 := blk_frozen hA6.out 5
  have z6 := (blk_cell hA6.out 6).trans rfl
  have f6 := blk_frozen hA6.out 6
  have z7 := (blk_cell hA6.out 7).trans rfl
  have f7 := blk_frozen hA6.out 7
  have z8 := (blk_cell hA6.out 8).trans rfl
  have f8 := blk_frozen hA6.out 8
  have z9 := (blk_cell hA6.out 9).trans rfl
  have f9 := blk_frozen hA6.out 9
  have z10 := (blk_cell hA6.out 10).trans rfl
  have f10 := blk_frozen hA6.out 10
  refine skip_ (w1 := ?_) (by rfl) rfl ?_ ?_
  rotate_left
  · go_simp
    rfl
  have HS17 := Lib.hid (put57 hA6.out (.int .i64 l[i].f0) (.int .i64 l[i].f1.f0) (.int .i64 l[i].f1.f1) (.int .i64 l[i].f1.f2) (.int .i64 l[i].f1.f3) (.int .i64 l[i].f1.f4) (.slice pr.1 l[i].f2.length pr.2) (.int .i64 l[i].f3) (.int .i64 l[i].f4) (.int .i64 l[i].f5) (.int .i64 l[i].f6))
  have HT17 := Lib.hid (turn57 w16 sb (.int .i64 l[i].f0) (.int .i64 l[i].f1.f0) (.int .i64 l[i].f1.f1) (.int .i64 l[i].f1.f2) (.int .i64 l[i].f1.f3) (.int .i64 l[i].f1.f4) (.slice pr.1 l[i].f2.length pr.2) (.int .i64 l[i].f3) (.int .i64 l[i].f4) (.int .i64 l[i].f5) (.int .i64 l[i].f6))
  clear z0 f0 z1 f1 z2 f2 z3 f3 z4 f4 z5 f5 z6 f6 z7 f7 z8 f8 z9 f9 z10 f10
  generalize hws : World.setCell _ _ _ = w17 at *
  clear hws
  refine hK.out _ _ ?_
  clear hK K
  refine pst (i := 12) (N := some 8) HT_ (h := ?_)
  refine done_ (done_of HT_.out (by kernel_rfl)) ?_
  dsimp only at hS6 HS17
  have HB17 : Hid (Below w1.heap.size w1 w17) := Lib.hid (Turn.below hB6.out HT17.out (fun b e => by have := hS6.out; omega) hB6.out.size)
  have HZ17 := Lib.hid (blk_below HZ1.out HB17.out)
  have c0 : w17.cell? ⟨sb, 0, none⟩ = some (.int .i64 l[i].f0) := (blk_cell HS17.out 0).trans rfl
  have c1 : w17.cell? ⟨sb, 1, none⟩ = some (.int .i64 l[i].f1.f0) := (blk_cell HS17.out 1).trans rfl
  have c2 : w17.cell? ⟨sb, 2, none⟩ = some (.int .i64 l[i].f1.f1) := (blk_cell HS17.out 2).trans rfl
  have c3 : w17.cell? ⟨sb, 3, none⟩ = some (.int .i64 l[i].f1.f2) := (blk_cell HS17.out 3).trans rfl
  have c4 : w17.cell? ⟨sb, 4, none⟩ = some (.int .i64 l[i].f1.f3) := (blk_cell HS17.out 4).trans rfl
  have c5 : w17.cell? ⟨sb, 5, none⟩ = some (.int .i64 l[i].f1.f4) := (blk_cell HS17.out 5).trans rfl
  have c6 : w17.cell? ⟨sb, 6, none⟩ = some (.slice pr.1 l[i].f2.length pr.2) := (blk_cell HS17.out 6).trans rfl
  have c7 : w17.cell? ⟨sb, 7, none⟩ = some (.int .i64 l[i].f3) := (blk_cell HS17.out 7).trans rfl
  have c8 : w17.cell? ⟨sb, 8, none⟩ = some (.int .i64 l[i].f4) := (blk_cell HS17.out 8).trans rfl
  have c9 : w17.cell? ⟨sb, 9, none⟩ = some (.int .i64 l[i].f5) := (blk_cell HS17.out 9).trans rfl
  have c10 : w17.cell? ⟨sb, 10, none⟩ = some (.int .i64 l[i].f6) := (blk_cell HS17.out 10).trans rfl
  have z0 := (blk_cell HZ17.out 0).trans rfl
  have f0 := blk_frozen HZ17.out 0
  have z1 := (blk_cell HZ17.out 1).trans rfl
  have f1 := blk_frozen HZ17.out 1
  have z2 := (blk_cell HZ17.out 2).trans rfl
  have f2 := blk_frozen HZ17.out 2
  have z3 := (blk_cell HZ17.out 3).trans rfl
  have f3 := blk_frozen HZ17.out 3
  have z4 := (blk_cell HZ17.out 4).trans rfl
  have f4 := blk_frozen HZ17.out 4
  have z5 := (blk_cell HZ17.out 5).trans rfl
  have f5 := blk_frozen HZ17.out 5
  have z6 := (blk_cell HZ17.out 6).trans rfl
  have f6 := blk_frozen HZ17.out 6
  have z7 := (blk_cell HZ17.out 7).trans rfl
  have f7 := blk_frozen HZ17.out 7
  have z8 := (blk_cell HZ17.out 8).trans rfl
  have f8 := blk_frozen HZ17.out 8
  have z9 := (blk_cell HZ17.out 9).trans rfl
  have f9 := blk_frozen HZ17.out 9
  have z10 := (blk_cell HZ17.out 10).trans rfl
  have f10 := blk_frozen HZ17.out 10
  go_upto_region 5 with fail
  go_wp2
  have HS19 := put57 HZ17.out (.int .i64 l[i].f0) (.int .i64 l[i].f1.f0) (.int .i64 l[i].f1.f1) (.int .i64 l[i].f1.f2) (.int .i64 l[i].f1.f3) (.int .i64 l[i].f1.f4) (.slice pr.1 l[i].f2.length pr.2) (.int .i64 l[i].f3) (.int .i64 l[i].f4) (.int .i64 l[i].f5) (.int .i64 l[i].f6)
  have HT19 := turn57 w17 w.heap.size (.int .i64 l[i].f0) (.int .i64 l[i].f1.f0) (.int .i64 l[i].f1.f1) (.int .i64 l[i].f1.f2) (.int .i64 l[i].f1.f3) (.int .i64 l[i].f1.f4) (.slice pr.1 l[i].f2.length pr.2) (.int .i64 l[i].f3) (.int .i64 l[i].f4) (.int .i64 l[i].f5) (.int .i64 l[i].f6)
  generalize hws : World.setCell _ _ _ = w19 at *
  refine bodyPost_ret (results_ct rfl _ _ w.heap.size 57 #[.int .i64 l[i].f0, .int .i64 l[i].f1.f0, .int .i64 l[i].f1.f1, .int .i64 l[i].f1.f2, .int .i64 l[i].f1.f3, .int .i64 l[i].f1.f4, .slice pr.1 l[i].f2.length pr.2, .int .i64 l[i].f3, .int .i64 l[i].f4, .int .i64 l[i].f5, .int .i64 l[i].f6] (0, 0) _ rfl HS19 Tryz.underlying57 rfl (by kernel_rfl)) rfl ?_
  exact ⟨⟨pr.1, pr.2, rfl⟩, Turn.below (HB1.out.trans (HB17.out.mono HB1.out.size)) HT19 (fun b e => by omega) (by have := HB1.out.size; have := HB17.out.size; omega)⟩
theorem raw_turn {n : Nat} {e base : Nat} {w w' : World} {v : Value} {xs : List (List Value)} (h : (Kd.raw n).R e w base (fun _ => True) v xs) {S : Nat → Prop} (ht : Turn w w' S) (hS : ∀ b, v.ownBlock = some b → ¬ S b) : (Kd.raw n).R e w' base (fun _ => True) v xs :=
  Kd.R_reok rfl (Kd.R_step (Kd.R_tight rfl h) (fun b hb hlt => ht.block b hlt (hS b hb.symm))) (fun _ _ => trivial)
theorem ent_turn {e base : Nat} {w w' : World} {v : Value} {xs : List S157} (h : k157.R e w base (fun _ => True) v xs) {S : Nat → Prop} (ht : Turn w w' S) (hS : ∀ b, v.ownBlock = some b → ¬ S b) : k157.R e w' base (fun _ => True) v xs :=
  Kd.R_reok rfl (Kd.R_step (Kd.R_tight rfl h) (fun b hb hlt => ht.block b hlt (hS b hb.symm))) (fun _ _ => trivial)
structure SysR where
  Nb : Nat
  Nn : Nat
  Ns : Nat
  A : Option Addr
  c : Nat
  A2 : Option Addr
  c2 : Nat
  A4 : Option Addr
  c4 : Nat
  a7 : Value
  vB : Value
  AE : Option Addr
  nE : Nat
  cE : Nat
  bB : Nat
  bE : Nat
  B : Bd
  F : Nat → Prop
structure SysX (w : World) (lab : Nat → Nat) (N : Nat) (M now : Int) (l : List S57) (q : List S63) (nn : Nat) (bk : List S157) (E : List (List Value)) (r : SysR) : Prop where
  blk : w.heap[N]? = some (.cells (sysC M now r.A l.length r.c r.A2 q.length r.c2 r.A4 r.c4 (.pointer (some ⟨r.Nb, 0, none⟩)) (.pointer (some ⟨r.Nn, 0, none⟩)) r.a7 (.slice r.AE r.nE r.cE)) 83 (0, 0))
  book : w.heap[r.Nb]? = some (.cells #[.int .i64 M, r.vB, .slice none 0 0] 116 (0, 0))
  ent : k157.R 157 w r.bB (fun _ => True) r.vB bk
  tab : TabAt w r.Nn r.Ns nn
  ev : (Kd.raw 4).R 67 w r.bE (fun _ => True) (.slice r.AE r.nE r.cE) E
  mach : RdF w r.F r.B r.A l r.A2 q
  l1 : lab N = 1
  l2 : lab r.Nb = 2
  l3 : lab r.Nn = 3
  l4 : lab r.Ns = 4
  l5 : ∀ b, r.vB.ownBlock = some b → lab b = 5
  l6 : ∀ b, (Value.slice r.AE r.nE r.cE).ownBlock = some b → lab b = 6
  l7 : ∀ b, r.F b → lab b = 7
  l8 : ∀ b, r.B.G b → lab b = 7
  lt : ∀ b, lab b ≠ 0 → b < w.heap.size
  bn : r.B.n ≤ w.heap.size
  bb : r.bB ≤ w.heap.size
  be : r.bE ≤ w.heap.size
theorem SysX.turn {w w' : World} {lab : Nat → Nat} {N : Nat} {M now : Int} {l : List S57} {q : List S63} {nn : Nat} {bk : List S157} {E : List (List Value)} {r : SysR} (h : SysX w lab N M now l q nn bk E r) {S : Nat → Prop} (ht : Turn w w' S) (hS : ∀ b, S b → lab b = 0) : SysX w' lab N M now l q nn bk E r := by
  have n1 := h.l1
  have n2 := h.l2
  have n3 := h.l3
  have n4 := h.l4
  have hs := ht.size
  exact { blk := (ht.block _ (blk_lt h.blk) (fun e => by have := hS _ e; omega)).trans h.blk
          book := (ht.block _ (blk_lt h.book) (fun e => by have := hS _ e; omega)).trans h.book
          ent := ent_turn h.ent ht (fun b hb e => by have := hS b e; have := h.l5 b hb; omega)
          tab := h.tab.turn ht (fun e => by have := hS _ e; omega) (fun e => by have := hS _ e; omega)
          ev := raw_turn h.ev ht (fun b hb e => by have := hS b e; have := h.l6 b hb; omega)
          mach := h.mach.keep ht (fun b e => ⟨fun hf => by have := hS b e; have := h.l7 b hf; omega, fun hf => by have := hS b e; have := h.l8 b hf; omega⟩)
          l1 := n1, l2 := n2, l3 := n3, l4 := n4, l5 := h.l5, l6 := h.l6, l7 := h.l7, l8 := h.l8
          lt := fun b hb => Nat.lt_of_lt_of_le (h.lt b hb) hs
          bn := Nat.le_trans h.bn hs
          bb := Nat.le_trans h.bb hs
          be := Nat.le_trans h.be hs }
theorem SysX.below {w w' : World} {lab : Nat → Nat} {N : Nat} {M now : Int} {l : List S57} {q : List S63} {nn : Nat} {bk : List S157} {E : List (List Value)} {r : SysR} (h : SysX w lab N M now l q nn bk E r) (hb : Below w.heap.size w w') : SysX w' lab N M now l q nn bk E r := h.turn (S := fun _ => False) (Turn.of_below _ hb) (fun _ e => e.elim)
def SysAt (w : World) (lab : Nat → Nat) (N : Nat) (M now : Int) (l : List S57) (q : List S63) (nn : Nat) (bk : List S157) (E : List (List Value)) : Prop := ∃ r, SysX w lab N M now l q nn bk E r
theorem SysAt.turn {w w' : World} {lab : Nat → Nat} {N : Nat} {M now : Int} {l : List S57} {q : List S63} {nn : Nat} {bk : List S157} {E : List (List Value)} (h : SysAt w lab N M now l q nn bk E) {S : Nat → Prop} (ht : Turn w w' S) (hS : ∀ b, S b → lab b = 0) : SysAt w' lab N M now l q nn bk E := h.imp fun _ h => h.turn ht hS
theorem SysAt.below {w w' : World} {lab : Nat → Nat} {N : Nat} {M now : Int} {l : List S57} {q : List S63} {nn : Nat} {bk : List S157} {E : List (List Value)} (h : SysAt w lab N M now l q nn bk E) (hb : Below w.heap.size w w') : SysAt w' lab N M now l q nn bk E := h.imp fun _ h => h.below hb
theorem SysX.anew {w w' : World} {lab : Nat → Nat} {N : Nat} {M now now' : Int} {l l' : List S57} {q q' : List S63} {nn : Nat} {bk : List S157} {E E' : List (List Value)} {r : SysR} (h : SysX w lab N M now l q nn bk E r) {S : Nat → Prop} (ht : Turn w w' S) (hS : ∀ b, S b → lab b = 1 ∨ lab b = 6) (A' : Option Addr) (c' : Nat) (A2' : Option Addr) (c2' : Nat) (A4' : Option Addr) (c4' : Nat) (AE' : Option Addr) (nE' cE' : Nat) (B' : Bd) (F' : Nat → Prop)
    (hN : w'.heap[N]? = some (.cells (sysC M now' A' l'.length c' A2' q'.length c2' A4' c4' (.pointer (some ⟨r.Nb, 0, none⟩)) (.pointer (some ⟨r.Nn, 0, none⟩)) r.a7 (.slice AE' nE' cE')) 83 (0, 0)))
    (hE : (Kd.raw 4).R 67 w' r.bE (fun _ => True) (.slice AE' nE' cE') E') (hR : RdF w' F' B' A' l' A2' q')
    (hF : ∀ b, F' b → (r.F b ∨ w.heap.size ≤ b) ∧ b < w'.heap.size ∧ (Value.slice AE' nE' cE').ownBlock ≠ some b)
    (hV : (Value.slice AE' nE' cE').ownBlock = (Value.slice r.AE r.nE r.cE).ownBlock ∨ ∀ b, (Value.slice AE' nE' cE').ownBlock = some b → w.heap.size ≤ b)
    (hG : ∀ b, B'.G b → (r.B.G b ∨ w.heap.size ≤ b) ∧ (Value.slice AE' nE' cE').ownBlock ≠ some b) (hBn : B'.n ≤ w'.heap.size) :
    ∃ lab', SysAt w' lab' N M now' l' q' nn bk E' ∧ ∀ b, lab' b ≠ 0 → lab b ≠ 0 ∨ w.heap.size ≤ b := by
  classical
  have n1 := h.l1
  have n2 := h.l2
  have n3 := h.l3
  have n4 := h.l4
  have hs := ht.size
  have o1 : N < w.heap.size := h.lt _ (by omega)
  have o2 : r.Nb < w.heap.size := h.lt _ (by omega)
  have o3 : r.Nn < w.heap.size := h.lt _ (by omega)
  have o4 : r.Ns < w.heap.size := h.lt _ (by omega)
  have hEl : ∀ b, (Value.slice AE' nE' cE').ownBlock = some b → b < w'.heap.size := fun b e => Kd.R_lt hE b e
  have hGl : ∀ b, B'.G b → b < w'.heap.size := fun b e => Nat.lt_of_lt_of_le (B'.lt b e) hBn
  have old : ∀ b, b < w.heap.size → (if b < w.heap.size then lab b else if (Value.slice AE' nE' cE').ownBlock = some b then 6 else if (F' b ∨ B'.G b) then 7 else 0) = lab b := fun b hb => if_pos hb
  refine ⟨fun b => if b < w.heap.size then lab b else if (Value.slice AE' nE' cE').ownBlock = some b then 6 else if (F' b ∨ B'.G b) then 7 else 0, ⟨{ r with A := A', c := c', A2 := A2', c2 := c2', A4 := A4', c4 := c4', AE := AE', nE := nE', cE := cE', B := B', F := F' }, ?_⟩, fun b hb => ?_⟩
  · exact { blk := hN
            book := (ht.block _ o2 (fun e => by have := hS _ e; omega)).trans h.book
            ent := ent_turn h.ent ht (fun b hb e => by have := hS b e; have := h.l5 b hb; omega)
            tab := h.tab.turn ht (fun e => by have := hS _ e; omega) (fun e => by have := hS _ e; omega)
            ev := hE
            mach := hR
            l1 := (old _ o1).trans n1
            l2 := (old _ o2).trans n2
            l3 := (old _ o3).trans n3
            l4 := (old _ o4).trans n4
            l5 := fun b hb => by
              have h5 := h.l5 b hb
              exact (old b (h.lt b (by omega))).trans h5
            l6 := fun b hb => by
              by_cases hlt : b < w.heap.size
              · refine (old b hlt).trans ?_
                rcases hV with hV | hV
                · exact h.l6 b (hV ▸ hb)
                · have := hV b hb; omega
              · show (if b < w.heap.size then lab b else _) = 6
                rw [if_neg hlt, if_pos hb]
            l7 := fun b hb => by
              by_cases hlt : b < w.heap.size
              · refine (old b hlt).trans ?_
                exact h.l7 b ((hF b hb).1.resolve_right (by omega))
              · show (if b < w.heap.size then lab b else _) = 7
                rw [if_neg hlt, if_neg (hF b hb).2.2, if_pos (.inl hb)]
            l8 := fun b hb => by
              by_cases hlt : b < w.heap.size
              · refine (old b hlt).trans ?_
                exact h.l8 b ((hG b hb).1.resolve_right (by omega))
              · show (if b < w.heap.size then lab b else _) = 7
                rw [if_neg hlt, if_neg (hG b hb).2, if_pos (.inr hb)]
            lt := fun b hb => by
              by_cases hlt : b < w.heap.size
              · omega
              · have hb2 : (if b < w.heap.size then lab b else if (Value.slice AE' nE' cE').ownBlock = some b then 6 else if (F' b ∨ B'.G b) then 7 else 0) ≠ 0 := hb
                rw [if_neg hlt] at hb2
                by_cases h6 : (Value.slice AE' nE' cE').ownBlock = some b
                · exact hEl b h6
                · rw [if_neg h6] at hb2
                  by_cases h7 : F' b ∨ B'.G b
                  · exact h7.elim (fun h => (hF b h).2.1) (hGl b)
                  · rw [if_neg h7] at hb2; exact absurd rfl hb2
            bn := hBn
            bb := Nat.le_trans h.bb hs
            be := Nat.le_trans h.be hs }
  · by_cases hlt : b < w.heap.size
    · left
      exact fun e => hb ((old b hlt).trans e)
    · right; omega
def Grew (w : World) (lab lab' : Nat → Nat) : Prop := ∀ b, lab' b ≠ 0 → lab b ≠ 0 ∨ w.heap.size ≤ b
theorem gos_calls (N : Nat) (lab : Nat → Nat) (M now n : Int) (l : List S57) (q : List S63) (nn : Nat) (bk : List S157) (E : List (List Value)) (w : World) (h : SysAt w lab N M now l q nn bk E) (hEl : E.length ≤ 10000000) (I : Int → List S57 → List S63 → Prop) (hI : GoInv M (now + n) I) (h0 : I now l q) (hn : 0 ≤ n) (hn2 : n ≤ 1000) (hnow : 0 ≤ now) (hnow2 : now ≤ 1000000000) :
    Calls Tryz.prog 14 #[.pointer (some ⟨N, 0, none⟩), .int .i64 n] w fun e w' => e = .returned .nilIface ∧ I (now + n) (goL n.toNat M now (now + n) l q).1 (goL n.toNat M now (now + n) l q).2.1 ∧ (∃ lab', SysAt w' lab' N M (now + n) (goL n.toNat M now (now + n) l q).1 (goL n.toNat M now (now + n) l q).2.1 nn bk (E ++ (goL n.toNat M now (now + n) l q).2.2.map Ev.cells) ∧ Grew w lab lab') ∧ Turn w w' (fun b => lab b ≠ 0) := by
  obtain ⟨r, h⟩ := h
  have n1 := h.l1
  have n2 := h.l2
  refine (sgo_calls N M now n r.A l r.c r.A2 q r.c2 r.A4 r.c4 (.pointer (some ⟨r.Nb, 0, none⟩)) (.pointer (some ⟨r.Nn, 0, none⟩)) r.a7 r.AE r.nE r.cE E r.bE r.B r.F w h.blk h.ev hEl (fun e => by have := h.l6 _ e; omega) h.be h.bn h.mach (fun b hb => h.lt b (by have := h.l7 b hb; omega)) I hI h0 (fun b hb => ⟨fun e => by have := h.l7 b hb; subst e; omega, fun e => by have := h.l7 b hb; have := h.l6 b e; omega⟩) (fun b hb => ⟨fun e => by have := h.l8 b hb; subst e; omega, fun e => by have := h.l8 b hb; have := h.l6 b e; omega⟩) hn hn2 hnow hnow2).mono ?_
  rintro e w' ⟨A', c', A2', c2', A4, c4, A7, n7, c7, F, rfl, hN, hE, hR, hF, hV, hI2, hT⟩
  have hT2 : ∀ b, (b = N ∨ some b = (Value.slice r.AE r.nE r.cE).ownBlock) → lab b = 1 ∨ lab b = 6 := fun b e => e.imp (fun e => by rw [e]; exact n1) (fun e => h.l6 b e.symm)
  refine ⟨rfl, hI2, ?_, hT.imp (fun b e => by have := hT2 b e; omega)⟩
  exact h.anew hT hT2 A' c' A2' c2' A4 c4 A7 n7 c7 r.B F hN hE hR (fun b hb => ⟨(hF b hb).1, (hF b hb).2.1, (hF b hb).2.2.2⟩) (hV.imp (fun h => h) (fun ⟨b, h1, h2⟩ b2 h3 => by rw [h1] at h3; injection h3 with h3; omega)) (fun b hb => ⟨.inl hb, fun e => by
    rcases hV with hV | ⟨b2, hV, hle⟩
    · have := h.l6 b (hV ▸ e); have := h.l8 b hb; omega
    · rw [hV] at e; injection e with e; have := h.lt b (by have := h.l8 b hb; omega); omega⟩) (Nat.le_trans h.bn hT.size)
theorem eventss_calls (N : Nat) (lab : Nat → Nat) (M now : Int) (l : List S57) (q : List S63) (nn : Nat) (bk : List S157) (E : List (List Value)) (w : World) (h : SysAt w lab N M now l q nn bk E) (hEl : E.length ≤ 100000) :
    Calls Tryz.prog 17 #[.pointer (some ⟨N, 0, none⟩)] w fun e w' => ∃ v, e = .returned v ∧ (Kd.raw 4).R 67 w' w.heap.size (fun _ => True) v E ∧ SysAt w' lab N M now l q nn bk [] ∧ Turn w w' (fun b => lab b ≠ 0) := by
  obtain ⟨r, h⟩ := h
  have n1 := h.l1
  have n2 := h.l2
  have n3 := h.l3
  have n4 := h.l4
  obtain ⟨AE, cE, e, hcE, hCE⟩ := Kd.R_reads h.ev
  injection e with e1 e2 e3
  subst e1 e3
  have hblk := h.blk
  rw [e2] at hblk
  refine (events_calls N M now r.A l.length r.c r.A2 q.length r.c2 r.A4 r.c4 (.pointer (some ⟨r.Nb, 0, none⟩)) (.pointer (some ⟨r.Nn, 0, none⟩)) r.a7 r.AE E.length r.cE E w hblk hCE hEl).mono ?_
  rintro e w' ⟨v, rfl, hR, hN, hT⟩
  have hs := hT.size
  have hS : ∀ b, b = N → lab b = 1 := fun b e => by rw [e]; exact n1
  refine ⟨v, rfl, hR, ⟨{ r with AE := none, nE := 0, cE := 0 }, ?_⟩, hT.imp (fun b e => by have := hS b e; omega)⟩
  exact { blk := hN
          book := (hT.block _ (blk_lt h.book) (fun e => by have := hS _ e; omega)).trans h.book
          ent := ent_turn h.ent hT (fun b hb e => by have := hS b e; have := h.l5 b hb; omega)
          tab := h.tab.turn hT (fun e => by have := hS _ e; omega) (fun e => by have := hS _ e; omega)
          ev := Kd.R_nil _ _ _ _ _
          mach := h.mach.keep hT (fun b e => ⟨fun hf => by have := hS b e; have := h.l7 b hf; omega, fun hf => by have := hS b e; have := h.l8 b hf; omega⟩)
          l1 := n1, l2 := n2, l3 := n3, l4 := n4, l5 := h.l5
          l6 := fun b hb => by simp [Value.ownBlock] at hb
          l7 := h.l7, l8 := h.l8
          lt := fun b hb => Nat.lt_of_lt_of_le (h.lt b hb) hs
          bn := Nat.le_trans h.bn hs
          bb := Nat.le_trans h.bb hs
          be := Nat.le_trans h.be hs }
end Go.Proofs.YtfimkmlgnmaopaaGreat.Top
