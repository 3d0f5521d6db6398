/- Part 8 of what is proved of the functions that the law reaches (contracts of functions, plain laws): no condition but those that each theorem names. -/
import Derived.Test.YtfimkmlgnmaopaaGreatKD7
namespace Go.Proofs.YtfimkmlgnmaopaaGreat.Top
set_option maxHeartbeats 40000000
set_option maxRecDepth 100000
open Go.RowKit Go.Proofs.YtfimkmlgnmaopaaGreatW.PrintWords Go.Proofs.YtfimkmlgnmaopaaGreatW.PrintLast Go.Proofs.YtfimkmlgnmaopaaGreatW.PrintMore Go.Proofs.YtfimkmlgnmaopaaGreat.PTopNames
set_option linter.unusedVariables false
set_option linter.unusedSimpArgs false
def bask.T3 : Bool × List (List Nat × List Nat) := (true, [([], []), ([0], [0]), ([1], [1]), ([2], [2]), ([3], [3]), ([4], [4]), ([5], [5]), ([6], [6]), ([7, 6], [6, 7]), ([8, 6], [6, 8]), ([9, 6], [6, 9]), ([10, 6], [6, 10]), ([6], [6]), ([6], [6]), ([12, 13, 6, 6], [6, 12, 13]), ([14, 6], [6, 14]), ([11, 15, 6], [6, 11, 15]), ([16, 6], [6, 16]), ([6, 17], [6, 17]), ([18, 14], [18])])
def bask.B3 : List Nat := [0, 1, 3, 7, 15, 31, 63, 127, 255, 511, 1023, 2047, 127, 127, 12415, 28799, 65535, 131071, 262143, 524287]
theorem bask.tab3 : rtab .any (opsOf Tryz.f67 3) = bask.T3 := by kernel_rfl
theorem bask.bits3 : waitsOk bask.T3.2 bask.B3 = true := by kernel_rfl
def bask.T5 : Bool × List (List Nat × List Nat) := (true, [([], []), ([], []), ([1], [1]), ([2], [2]), ([3], [3]), ([4], [4]), ([], []), ([6], [6]), ([5, 7, 5], [5, 7]), ([], []), ([0, 8, 9, 8], [0, 8, 9]), ([10], [10]), ([11, 10], [11])])
def bask.B5 : List Nat := [0, 0, 2, 6, 14, 30, 0, 64, 254, 0, 1023, 2047, 4095]
theorem bask.tab5 : rtab .any (opsOf Tryz.f67 5) = bask.T5 := by kernel_rfl
theorem bask.bits5 : waitsOk bask.T5.2 bask.B5 = true := by kernel_rfl
def bent.T8 : Bool × List (List Nat × List Nat) := (true, [([], []), ([], []), ([1], [1]), ([2], [2]), ([3], [3]), ([], []), ([], []), ([5, 6], [5, 6]), ([7], [7]), ([4, 8], [4, 8]), ([0, 0, 1, 2, 3, 4, 5, 6, 7, 8, 9], [0]), ([10, 0, 1, 2, 3, 4, 5, 6, 7, 8, 9], [10]), ([11, 9, 9, 0, 1, 2, 3, 4, 5, 6, 7, 8, 9], [9, 11])])
def bent.B8 : List Nat := [0, 0, 2, 6, 14, 0, 0, 96, 224, 510, 1023, 2047, 4095]
theorem bent.tab8 : rtab .any (opsOf Tryz.f36 8) = bent.T8 := by kernel_rfl
theorem bent.bits8 : waitsOk bent.T8.2 bent.B8 = true := by kernel_rfl
theorem lit85 (w : World) (q p : Int) : Kd.C k85 (w.alloc (.cells #[.int .i64 q, .int .i64 p] 85)) (some ⟨w.heap.size, 0, none⟩) 1 [(⟨q, p⟩ : S85)] := by
 refine ⟨rfl, by simp, fun _ => ⟨_, rfl, fun j x hx => ?_⟩⟩;have hb := blk_new w (.cells #[.int .i64 q, .int .i64 p] 85)
 cases j with
 | zero =>
  simp only [List.getElem?_cons_zero, Option.some.injEq] at hx;subst hx;refine ⟨_, rfl, k85_mk _ _, fun i u hu => ?_⟩;rw [Nat.zero_mul, Nat.zero_add, addr_at, Nat.zero_add, blk_cell hb]
  match i, hu with
  | 0, h => exact h
  | 1, h => exact h
  | i + 2, h => simp at h
 | succ j => simp at hx
def askC (M : Int) (l : List S157) (x : S85) : Int := if WOk x then (if allW M (l.map S157.f1 ++ [x]) then 0 else 7) else 1
theorem ask_calls (M : Int) (N : Nat) (A : Option Addr) (c : Nat) (l : List S157) (x : S85) (now : Int) (w : World) (hN : w.heap[N]? = some (.cells #[.int .i64 M, .slice A l.length c, .slice none 0 0] 116 (0, 0))) (hr : Kd.C k157 w A l.length l) (hlen : l.length <= 31) (hall : ∀ k (h : k < l.length), WOk l[k].f1) (hm1 : 1 <= M) (hm2 : M <= 64) (hnow : 0 <= now) :
  Calls Tryz.prog 67 #[.pointer (some ⟨N, 0, none⟩), agg85 x, .int .i64 now] w fun e w' => e = .returned (.int .i64 (askC M l x)) /\ Below w.heap.size w w' := by
 have DG := fun w => wgood_calls x w
 have HN := hZ hN;have HR := hZ hr;have gn : decide (now < 0) = false := by simpa using hnow
 have HB0 : Hid (Below w.heap.size w (w.alloc (.cells #[.int .i64 x.f0, .int .i64 x.f1] 85))) := hZ (below_alloc (Below.refl _ _) _);have HX0 : Hid ((w.alloc (.cells #[.int .i64 x.f0, .int .i64 x.f1] 85)).heap[w.heap.size]? = some (.cells #[.int .i64 x.f0, .int .i64 x.f1] 85 (0, 0))) := hZ (blk_new _ _);by_cases hx : WOk x
 ·have gx : decide (WOk x) = true := by simpa using hx
  rw [gx] at DG;have hps : (l.map S157.f1 ++ [x]).length <= 64 := by simp; omega
  have hpl : (l.map S157.f1).length <= 31 := by rw [List.length_map]; exact hlen
  have hpw : ∀ k (h : k < (l.map S157.f1 ++ [x]).length), WOk (l.map S157.f1 ++ [x])[k] := by
   intro k h;by_cases hk : k < l.length
   ·rw [List.getElem_append_left (by simpa using hk), List.getElem_map];exact hall k hk
   ·rw [List.getElem_append_right (by simp; omega)];simpa using hx
  have DL := fun wx (h : wx.heap[N]? = some (.cells #[.int .i64 M, .slice A l.length c, .slice none 0 0] 116 (0, 0))) => lingers_calls M N (.slice A l.length c) now wx h
  have DP := fun wx (hb : Below w.heap.size w wx) => pairs_calls A c l wx (Kd.C_below hr hb) (by omega)
  have DF := fun base v w1 wx hN hNb hR hB hb => bfits_calls M N (.slice A l.length c) v (l.map S157.f1 ++ [x]) now base w1 wx hN hNb hR hps hpw hm1 hm2 hB hb
  have HF : Hid (askC M l x = if allW M (l.map S157.f1 ++ [x]) then 0 else 7) := hZ (by unfold askC; rw [if_pos hx]);have g1 : decide ((l.length : Int) >= 32) = false := by simp; omega
  have hw0 : IntKind.i64.wrap ((l.length : Int) + 0) = (l.length : Int) := by rw [i64_w]; unfold Go.RowKit.wrap64; omega
  have hwl : Go.RowKit.wrap64 (l.length : Int) = (l.length : Int) := by unfold Go.RowKit.wrap64; omega
  have g2 : decide ((63 : Int) <= (l.length : Int)) = false := by simp; omega
  have g3 : decide ((l.length : Int) + 0 >= 63) = false := by simp; omega
  generalize askC M l x = fin at *;generalize allW M (l.map S157.f1 ++ [x]) = res at *;generalize l.map S157.f1 = pl at *;obtain ⟨q, p⟩ := x;dsimp only at HB0 HX0;clear hN hr hall hx gx hps hpw;go_enter Tryz.func67, Tryz.ntmps67
  go_upto_region 3 with (go_at_call 35; (with_reducible refine (DG _).mono ?_); rintro e w1 ⟨rfl, hB1⟩; have HX1 := hZ (blk_below HX0.out hB1); have HB1 := hZ (HB0.out.trans (hB1.mono HB0.out.size)); clear hB1)
  have HN1 := hZ ((HB1.out.block N (blk_lt HN.out)).trans HN.out);refine start_ (n := 20) (S := fun w' => Hid (w'.heap[N]? = some (.cells #[.int .i64 M, .slice A l.length c, .slice none 0 0] 116 (0, 0))) /\ Hid (Below w1.drew.heap.size w1.drew w')) (ds := []) #[false, false, false, false, false, false, false, false, false, false, false, false, false, false, false, false, false, false, false, false] (by kernel_rfl) rfl rfl ⟨(hZ (show w1.drew.heap[N]? = _ from HN1.out)), (hZ (Below.refl _ w1.drew))⟩ (fun hHeld => ?_);refine with_tabW bask.tab3 bask.bits3 (fun HT_ HW_ => ?_);have hbd : Hid (Below w1.heap.size w1 w1.drew) := hZ ⟨rfl, rfl, rfl, Nat.le_refl _, fun _ _ => rfl⟩;have hsd : w1.heap.size = w1.drew.heap.size := rfl;generalize hwd : w1.drew = wd at *;clear hwd;refine pst 0 (some 16) HT_ ?_;refine pst 1 (some 17) HT_ ?_;refine pst 2 (some 18) HT_ ?_;refine tst 3 (some 19) HT_ HW_ hHeld ?_ (hy := by (rintro w' ⟨s0, s1⟩; have e1 := (blk_cell s0.out 1).trans rfl); go_simp; with_reducible rfl);refine pst 4 (some 20) HT_ ?_;refine pst 5 (some 21) HT_ ?_;refine pst 6 (some 22) HT_ ?_;refine pst 7 (some 23) HT_ ?_;refine pst 8 (some 24) HT_ ?_;refine pst 9 (some 25) HT_ ?_;refine pst 12 (some 28) HT_ ?_;refine pst 13 (some 29) HT_ ?_;refine tst 10 (some 26) HT_ HW_ hHeld ?_ (hy := by (rintro w' ⟨s0, s1⟩; have e1 := (blk_cell s0.out 1).trans rfl); go_simp; with_reducible rfl);refine pst 11 (some 27) HT_ ?_;refine one_ (i := 14) (N := some 30) #[true, true, true, true, true, true, true, true, true, true, true, true, true, true, true, false, false, false, false, false] rfl rfl (one_of HT_.out (by kernel_rfl)) (by decide) (fun K hK => ?_);refine goes_ Tryz.func96 (by kernel_rfl) rfl #[.pointer (some ⟨N, 0, none⟩), .int .i64 now] (by rfl) rfl rfl (by simp only [List.map_toArray, List.map_cons, List.map_nil]; rfl) ?_;with_reducible refine (DL _ hHeld.1.out).mono ?_;rintro e w3 ⟨rfl, hB3⟩;refine ⟨_, rfl, ?_⟩;refine hK.out _ _ ⟨(hZ (blk_below hHeld.1.out hB3)), (hZ (hHeld.2.out.trans (hB3.mono hHeld.2.out.size)))⟩ (fun hHeld => ?_);clear hK K;refine norm_ (a' := ?_) ?_ ?_;rotate_left
  ·show Act.put _ (some 30) _ = _;simp only [Act.put, List.setIfInBounds_toArray, List.set_cons_zero, List.set_cons_succ, i64_w, i32_w];rfl
  refine pst 15 (some 31) HT_ ?_;refine pst 16 (some 32) HT_ ?_;refine pst 17 (some 33) HT_ ?_;refine pst 18 (some 34) HT_ ?_;refine pst 19 (some 15) HT_ ?_;refine done_ (done_of HT_.out (by kernel_rfl)) ?_;have HBF := hZ (hbd.out.trans (hHeld.2.out.mono hbd.out.size));have HB3 := hZ (HB1.out.trans (HBF.out.mono HB1.out.size));clear hHeld hB3 hbd hsd HT_ HW_;have HX3 := hZ (blk_below HX1.out HBF.out);have HN3 := hZ (blk_below HN1.out HBF.out);have x0 : w3.cell? ⟨w.heap.size, 0, none⟩ = some (.int .i64 q) := (blk_cell HX3.out 0).trans rfl;have x1 : w3.cell? ⟨w.heap.size, 1, none⟩ = some (.int .i64 p) := (blk_cell HX3.out 1).trans rfl;have x2 : w3.cell? ⟨N, 1, none⟩ = some (.slice A l.length c) := (blk_cell HN3.out 1).trans rfl;clear HX1 HX3 HN1
  go_upto_region 5 with fail
  refine start_ (n := 13) (S := fun w' => Hid (Below w3.heap.size w3 w')) (ds := []) #[false, false, false, false, false, false, false, false, false, false, false, false, false] (by kernel_rfl) rfl rfl ((hZ (below_drew (Below.refl _ _)))) (fun hHeld => ?_);refine with_tabW bask.tab5 bask.bits5 (fun HT_ HW_ => ?_);have hbd : Hid (Below w3.heap.size w3 w3.drew) := hZ ⟨rfl, rfl, rfl, Nat.le_refl _, fun _ _ => rfl⟩;have hsd : w3.heap.size = w3.drew.heap.size := rfl;generalize hwd : w3.drew = wd at *;clear hwd;refine pst 0 (some 36) HT_ ?_;refine pst 1 (some 37) HT_ ?_;refine pst 2 (some 38) HT_ ?_;refine pst 3 (some 39) HT_ ?_;refine pst 9 (some 45) HT_ ?_;refine tst 4 (some 40) HT_ HW_ hHeld ?_ (hy := by (intro w' s0; have e0 := (s0.out.cell (World.block_lt_of_cell? _ _ x0)).trans x0; have e1 := (s0.out.cell (World.block_lt_of_cell? _ _ x1)).trans x1; have e2 := (s0.out.cell (World.block_lt_of_cell? _ _ x2)).trans x2); go_simp; with_reducible rfl);refine tst 6 (some 42) HT_ HW_ hHeld ?_ (hy := by (intro w' s0; have e0 := (s0.out.cell (World.block_lt_of_cell? _ _ x0)).trans x0; have e1 := (s0.out.cell (World.block_lt_of_cell? _ _ x1)).trans x1; have e2 := (s0.out.cell (World.block_lt_of_cell? _ _ x2)).trans x2); go_simp; with_reducible rfl);refine join_ (σ := Value × Nat) 4 #[true, true, true, true, true, true, true, true, false, true, false, false, false] (fun s => [(41, s.1), (43, .slice (some ⟨s.2, 0, none⟩) 1 1)]) (fun s w' => Hid (k85.R 85 w' w3.heap.size (fun _ => True) s.1 pl) /\ Hid (Kd.C k85 w' (some ⟨s.2, 0, none⟩) 1 [(⟨q, p⟩ : S85)]) /\ Hid (Below w3.heap.size w3 w')) ?_ ?_;rotate_left
  ·intro hCont;refine two_ (i := 5) (j := 7) (Ni := some 41) (Nj := some 43) #[true, true, true, true, true, true, true, false, false, true, false, false, false] #[true, true, true, true, true, false, true, true, false, true, false, false, false] rfl rfl rfl rfl (two_of HT_.out (by kernel_rfl)) (by decide) (by decide) (fun K hK => ?_) (fun K hK => ?_)
   ·skip
    refine goes_ Tryz.func98 (by kernel_rfl) rfl #[.slice A l.length c] (by rfl) rfl rfl (by simp only [List.map_toArray, List.map_cons, List.map_nil]; rfl) ?_;with_reducible refine (DP _ (HB3.out.trans (hHeld.out.mono HB3.out.size))).mono ?_;rintro e w4 ⟨v4, rfl, hR4, hB4⟩;refine ⟨_, rfl, ?_⟩;have hR4 : k85.R 85 w4 w3.heap.size (fun _ => True) v4 pl := Kd.R_lower hR4 hHeld.out.size;refine hK.out _ _ ((hZ (hHeld.out.trans (hB4.mono hHeld.out.size)))) (fun hHeld => ?_);clear hK K;refine norm_ (a' := ?_) ?_ ?_;rotate_left
    ·show Act.put _ (some 41) _ = _;simp only [Act.put, List.setIfInBounds_toArray, List.set_cons_zero, List.set_cons_succ, i64_w, i32_w];rfl
    refine one_ (i := 7) (N := some 43) #[true, true, true, true, true, true, true, true, false, true, false, false, false] rfl rfl (one_of HT_.out (by kernel_rfl)) (by decide) (fun K hK => ?_);refine value_ (w1 := ?_) (v := ?_) (by rfl) rfl ?_ ?_;rotate_left 2
    ·go_simp;constructor
     ·rfl
     ·rfl
    refine hK.out _ _ ((hZ (hHeld.out.trans ((below_alloc (Below.refl _ _) _).mono hHeld.out.size)))) (fun hHeld => ?_);clear hK K;refine norm_ (a' := ?_) ?_ ?_;rotate_left
    ·show Act.put _ (some 43) _ = _;simp only [Act.put, List.setIfInBounds_toArray, List.set_cons_zero, List.set_cons_succ, i64_w, i32_w];rfl
    exact norm_ (by simp only [putAll, Act.put, List.setIfInBounds_toArray, List.set_cons_zero, List.set_cons_succ]) (hCont (v4, w4.heap.size) _ ⟨hZ (Kd.R_alloc hR4 _), hZ (lit85 w4 q p), hHeld⟩)
   ·skip
    refine value_ (w1 := ?_) (v := ?_) (by rfl) rfl ?_ ?_;rotate_left 2
    ·go_simp;constructor
     ·rfl
     ·rfl
    refine hK.out _ _ ((hZ (hHeld.out.trans ((below_alloc (Below.refl _ _) _).mono hHeld.out.size)))) (fun hHeld => ?_);clear hK K;refine norm_ (a' := ?_) ?_ ?_;rotate_left
    ·show Act.put _ (some 43) _ = _;simp only [Act.put, List.setIfInBounds_toArray, List.set_cons_zero, List.set_cons_succ, i64_w, i32_w];rfl
    refine one_ (i := 5) (N := some 41) #[true, true, true, true, true, true, true, true, false, true, false, false, false] rfl rfl (one_of HT_.out (by kernel_rfl)) (by decide) (fun K hK => ?_);refine goes_ Tryz.func98 (by kernel_rfl) rfl #[.slice A l.length c] (by rfl) rfl rfl (by simp only [List.map_toArray, List.map_cons, List.map_nil]; rfl) ?_;with_reducible refine (DP _ (HB3.out.trans (hHeld.out.mono HB3.out.size))).mono ?_;rintro e w4 ⟨v4, rfl, hR4, hB4⟩;refine ⟨_, rfl, ?_⟩;have hR4 : k85.R 85 w4 w3.heap.size (fun _ => True) v4 pl := Kd.R_lower hR4 hHeld.out.size;refine hK.out _ _ ((hZ (hHeld.out.trans (hB4.mono hHeld.out.size)))) (fun hHeld => ?_);clear hK K;refine norm_ (a' := ?_) ?_ ?_;rotate_left
    ·show Act.put _ (some 41) _ = _;simp only [Act.put, List.setIfInBounds_toArray, List.set_cons_zero, List.set_cons_succ, i64_w, i32_w];rfl
    exact norm_ (by simp only [putAll, Act.put, List.setIfInBounds_toArray, List.set_cons_zero, List.set_cons_succ]) (hCont (v4, wd.heap.size) _ ⟨hZ hR4, hZ (Kd.C_below (lit85 wd q p) hB4), hHeld⟩)
  rintro ⟨v6, s6⟩ w6 ⟨hR6, hC6, hB6⟩;dsimp only at hR6 hC6;have hHeld : Hid (Below w3.heap.size w3 w6) := hB6;refine norm_ (a' := ?_) ?_ ?_;rotate_left
  ·simp only [putAll, Act.put, List.setIfInBounds_toArray, List.set_cons_zero, List.set_cons_succ];rfl
  refine one_ (i := 8) (N := some 44) #[true, true, true, true, true, true, true, true, true, true, false, false, false] rfl rfl (one_of HT_.out (by kernel_rfl)) (by decide) (fun K hK => ?_);refine Kd.R_append_rows_step k85 (Rr := k85.K w6) (w0 := w6) w3.heap.size (by rfl) (.tmp 41) (.tmp 43) 24 85 (.agg #[.int .i64 0, .int .i64 0]) 16 rfl Tryz.underlying24 info85 rfl (by decide) (by omega) v6 pl [(⟨q, p⟩ : S85)] (some ⟨s6, 0, none⟩) 1 1 (fun _ => True) (fun _ => False) (by rfl) (by rfl) hR6.out hC6.out (fun x cs h => by obtain rfl := k85_open h; exact k85_mkM _ _ _ _) (fun _ h => h.elim) (fun _ _ => trivial) (Below.refl _ _) hHeld.out.size (by omega) ?_;intro v7 w7 hR7 hB7 hg7 hat7;have HR7 := hZ hR7;refine hK.out _ _ ((hZ (hHeld.out.trans hB7))) (fun hHeld => ?_);clear hK K;refine norm_ (a' := ?_) ?_ ?_;rotate_left
  ·show Act.put _ (some 44) _ = _;simp only [Act.put, List.setIfInBounds_toArray, List.set_cons_zero, List.set_cons_succ, i64_w, i32_w];rfl
  refine one_ (i := 10) (N := some 46) #[true, true, true, true, true, true, true, true, true, true, true, false, false] rfl rfl (one_of HT_.out (by kernel_rfl)) (by decide) (fun K hK => ?_);refine goes_ Tryz.func97 (by kernel_rfl) rfl #[.pointer (some ⟨N, 0, none⟩), v7, .int .i64 now] (by rfl) rfl rfl (by simp only [List.map_toArray, List.map_cons, List.map_nil]; rfl) ?_;with_reducible refine (DF w3.heap.size v7 w3 _ ((hHeld.out.block N (blk_lt HN3.out)).trans HN3.out) (blk_lt HN3.out) HR7.out hHeld.out hHeld.out.size).mono ?_;rintro e w8 ⟨rfl, hB8⟩;refine ⟨_, rfl, ?_⟩;refine hK.out _ _ ((hZ hB8)) (fun hHeld => ?_);clear hK K;refine norm_ (a' := ?_) ?_ ?_;rotate_left
  ·show Act.put _ (some 46) _ = _;simp only [Act.put, List.setIfInBounds_toArray, List.set_cons_zero, List.set_cons_succ, i64_w, i32_w];rfl
  refine pst 11 (some 47) HT_ ?_;refine pst 12 (some 35) HT_ ?_;refine done_ (done_of HT_.out (by kernel_rfl)) ?_
  cases res
  all_goals
   go_wp2;go_ret;exact ⟨by rw [HF.out]; rfl, HB3.out.trans (hHeld.out.mono HB3.out.size)⟩
 ·have gx : decide (WOk x) = false := by simpa using hx
  rw [gx] at DG;have HF : Hid (askC M l x = 1) := hZ (by unfold askC; rw [if_neg hx]);generalize askC M l x = fin at *;obtain ⟨q, p⟩ := x;dsimp only at HB0 HX0;clear hN hr hall hx gx;go_enter Tryz.func67, Tryz.ntmps67
  go_wp2_with (go_at_call 35; (with_reducible refine (DG _).mono ?_); rintro e w1 ⟨rfl, hB1⟩; have HB1 := hZ (HB0.out.trans (hB1.mono HB0.out.size)); clear hB1)
  go_ret;exact ⟨by rw [HF.out]; rfl, HB1.out⟩
theorem lit157 (w : World) (x : S157) : Kd.C k157 (w.alloc (.cells #[.int .i64 x.f0, .int .i64 x.f1.f0, .int .i64 x.f1.f1, .int .i64 x.f2] 157)) (some ⟨w.heap.size, 0, none⟩) 1 [x] := by
 refine ⟨rfl, by simp, fun _ => ⟨_, rfl, fun j y hy => ?_⟩⟩;have hb := blk_new w (.cells #[.int .i64 x.f0, .int .i64 x.f1.f0, .int .i64 x.f1.f1, .int .i64 x.f2] 157)
 cases j with
 | zero =>
  simp only [List.getElem?_cons_zero, Option.some.injEq] at hy;subst hy;refine ⟨_, rfl, k157_mk _ _, fun i u hu => ?_⟩;rw [Nat.zero_mul, Nat.zero_add, addr_at, Nat.zero_add, blk_cell hb]
  match i, hu with
  | 0, h => exact h
  | 1, h => exact h
  | 2, h => exact h
  | 3, h => exact h
  | i + 4, h => simp at h
 | succ j => simp at hy
def EnterP (M : Int) (N : Nat) (base : Nat) (vL : Value) (l : List S157) (id : Int) (x : S85) (w : World) (e : Ending) (w' : World) : Prop :=
 e = .returned (.int .i64 (askC M l x)) /\ (askC M l x ≠ 0 -> Below w.heap.size w w') /\ (askC M l x = 0 -> ∃ v', w'.heap[N]? = some (.cells #[.int .i64 M, v', .slice none 0 0] 116 (0, 0)) /\ k157.R 157 w' base (fun _ => True) v' (l ++ [⟨id, x, -1⟩]) /\ Turn w w' (fun b => b = N \/ some b = vL.ownBlock) /\ (v'.ownBlock = vL.ownBlock \/ ∃ b, v'.ownBlock = some b /\ w.heap.size <= b))
theorem enter_calls (M : Int) (N base : Nat) (vL : Value) (l : List S157) (id : Int) (x : S85) (now : Int) (w : World) (hN : w.heap[N]? = some (.cells #[.int .i64 M, vL, .slice none 0 0] 116 (0, 0))) (hR : k157.R 157 w base (fun _ => True) vL l) (hne : vL.ownBlock ≠ some N) (hbase : base <= w.heap.size) (hlen : l.length <= 31) (hid : ∀ k (h : k < l.length), l[k].f0 ≠ id) (hall : ∀ k (h : k < l.length), WOk l[k].f1) (hm1 : 1 <= M) (hm2 : M <= 64) (hnow : 0 <= now) :
  Calls Tryz.prog 36 #[.pointer (some ⟨N, 0, none⟩), .int .i64 id, agg85 x, .int .i64 now] w fun e w' => EnterP M N base vL l id x w e w' := by
 obtain ⟨A, c, rfl, hcl, hr⟩ := Kd.R_reads hR;have DG := fun w => wgood_calls x w
 have HN := hZ hN;have HR := hZ hR;have gn : decide (now < 0) = false := by simpa using hnow
 have HB0 : Hid (Below w.heap.size w (w.alloc (.cells #[.int .i64 x.f0, .int .i64 x.f1] 85))) := hZ (below_alloc (Below.refl _ _) _);have HX0 : Hid ((w.alloc (.cells #[.int .i64 x.f0, .int .i64 x.f1] 85)).heap[w.heap.size]? = some (.cells #[.int .i64 x.f0, .int .i64 x.f1] 85 (0, 0))) := hZ (blk_new _ _);unfold EnterP;by_cases hx : WOk x
 ·have gx : decide (WOk x) = true := by simpa using hx
  rw [gx] at DG;have DF := fun wx (hb : Below w.heap.size w wx) => efind_calls M N A c l id wx ((hb.block N (blk_lt hN)).trans hN) (Kd.C_below hr hb) (by omega) hid
  have DA := fun wx (hb : Below w.heap.size w wx) => ask_calls M N A c l x now wx ((hb.block N (blk_lt hN)).trans hN) (Kd.C_below hr hb) hlen hall hm1 hm2 hnow
  have hask : askC M l x = 0 \/ askC M l x = 7 := by unfold askC; rw [if_pos hx]; split <;> simp
  generalize askC M l x = res at *;obtain ⟨q, p⟩ := x;dsimp only at HB0 HX0;have hNs := blk_lt hN;clear hN hr hall hx gx hR hid;go_enter Tryz.func36, Tryz.ntmps36
  go_upto_region 6 with (first
   | (go_at_call 35; (with_reducible refine (DG _).mono ?_); rintro e w1 ⟨rfl, hB1⟩; have HX1 := hZ (blk_below HX0.out hB1); have HB1 := hZ (HB0.out.trans (hB1.mono HB0.out.size)); clear hB1)
   | (go_at_call 66; (with_reducible refine (DF _ HB1.out).mono ?_); rintro e w2 ⟨rfl, hB2⟩; have HX2 := hZ (blk_below HX1.out hB2); have HB2 := hZ (HB1.out.trans (hB2.mono HB1.out.size)); have x0 := (blk_cell HX2.out 0).trans rfl; have x1 := (blk_cell HX2.out 1).trans rfl; clear hB2)
   | (go_at_call 67; (with_reducible refine (DA _ HB2.out).mono ?_); rintro e w3 ⟨rfl, hB3⟩; have HX3 := hZ (blk_below HX2.out hB3); have HB3 := hZ (HB2.out.trans (hB3.mono HB2.out.size)); clear hB3 x0 x1))
  rcases hask with rfl | rfl
  ·have HN3 := hZ ((HB3.out.block N hNs).trans HN.out);have x0 : w3.cell? ⟨w.heap.size, 0, none⟩ = some (.int .i64 q) := (blk_cell HX3.out 0).trans rfl;have x1 : w3.cell? ⟨w.heap.size, 1, none⟩ = some (.int .i64 p) := (blk_cell HX3.out 1).trans rfl;have x2 : w3.cell? ⟨N, 1, none⟩ = some (.slice A l.length c) := (blk_cell HN3.out 1).trans rfl;have HR3 : Hid (k157.R 157 w3.drew base (fun _ => True) (.slice A l.length c) l) := hZ (Kd.R_drew (Kd.R_below HR.out HB3.out));have hs3 : w.heap.size <= w3.heap.size := HB3.out.size
   go_upto_region 8 with fail
   refine start_ (n := 13) (S := fun w' => Hid (Below w3.heap.size w3 w')) (ds := [9, 12]) #[false, false, false, false, false, false, false, false, false, false, false, false, false] (by kernel_rfl) rfl rfl ((hZ (below_drew (Below.refl _ _)))) (fun hHeld => ?_);refine with_tabW bent.tab8 bent.bits8 (fun HT_ HW_ => ?_);have hbd : Hid (Below w3.heap.size w3 w3.drew) := hZ ⟨rfl, rfl, rfl, Nat.le_refl _, fun _ _ => rfl⟩;have hsd : w3.heap.size = w3.drew.heap.size := rfl;generalize hwd : w3.drew = wd at *;clear hwd;refine pst 0 (some 30) HT_ ?_;refine pst 1 (some 31) HT_ ?_;refine pst 2 (some 32) HT_ ?_;refine pst 3 (some 33) HT_ ?_;refine pst 5 (some 35) HT_ ?_;refine tst 4 (some 34) HT_ HW_ hHeld ?_ (hy := by (intro w' s0; have e0 := (s0.out.cell (World.block_lt_of_cell? _ _ x0)).trans x0; have e1 := (s0.out.cell (World.block_lt_of_cell? _ _ x1)).trans x1; have e2 := (s0.out.cell (World.block_lt_of_cell? _ _ x2)).trans x2); go_simp; with_reducible rfl);refine tst 6 (some 36) HT_ HW_ hHeld ?_ (hy := by (intro w' s0; have e0 := (s0.out.cell (World.block_lt_of_cell? _ _ x0)).trans x0; have e1 := (s0.out.cell (World.block_lt_of_cell? _ _ x1)).trans x1; have e2 := (s0.out.cell (World.block_lt_of_cell? _ _ x2)).trans x2); go_simp; with_reducible rfl);refine pst 7 (some 37) HT_ ?_;refine one_ (i := 8) (N := some 38) #[true, true, true, true, true, true, true, true, true, false, false, false, false] rfl rfl (one_of HT_.out (by kernel_rfl)) (by decide) (fun K hK => ?_);refine value_ (w1 := ?_) (v := ?_) (by rfl) rfl ?_ ?_;rotate_left 2
   ·go_simp;constructor
    ·rfl
    ·rfl
   refine hK.out _ _ ((hZ (hHeld.out.trans ((below_alloc (Below.refl _ _) _).mono hHeld.out.size)))) (fun hHeld => ?_);clear hK K;refine norm_ (a' := ?_) ?_ ?_;rotate_left
   ·show Act.put _ (some 38) _ = _;simp only [Act.put, List.setIfInBounds_toArray, List.set_cons_zero, List.set_cons_succ, i64_w, i32_w];rfl
   refine last_ (i := 9) (N := some 39) #[true, true, true, true, true, true, true, true, true, true, false, false, false] rfl rfl (one_of HT_.out (by kernel_rfl)) (by decide) (fun K hK => ?_);refine Kd.R_append_rows_step k157 (Rr := k157.K (wd.alloc (.cells #[.int .i64 id, .int .i64 q, .int .i64 p, .int .i64 (-1)] 157))) (w0 := wd.alloc (.cells #[.int .i64 id, .int .i64 q, .int .i64 p, .int .i64 (-1)] 157)) base (by rfl) (.tmp 34) (.tmp 38) 114 157 (.agg #[.int .i64 0, .int .i64 0, .int .i64 0, .int .i64 0]) 32 rfl Tryz.underlying114 info157 rfl (by decide) (by omega) (.slice A l.length c) l [(⟨id, ⟨q, p⟩, -1⟩ : S157)] (some ⟨wd.heap.size, 0, none⟩) 1 1 (fun _ => True) (fun _ => False) (by rfl) (by rfl) (Kd.R_alloc HR3.out _) (lit157 wd ⟨id, ⟨q, p⟩, -1⟩) (fun x cs h => by obtain rfl := k157_open h; exact k157_mkM _ _ _ _) (fun _ h => h.elim) (fun _ _ => trivial) (Below.refl _ _) (by simp only [World.size_alloc]; omega) (by omega) ?_;intro v7 w7 hR7 hB7 hg7 hat7;obtain ⟨A7, c7, e7⟩ := Kd.R_slice hR7;generalize hn7 : (l ++ [(⟨id, ⟨q, p⟩, -1⟩ : S157)]).length = n7 at e7;subst e7;clear hn7;have HAT := hZ (hat7.imp (fun h => h) (fun ⟨b, h1, h2⟩ => (⟨b, h1, by simp only [World.size_alloc] at h2; omega⟩ : ∃ b, (Value.slice A7 n7 c7).ownBlock = some b /\ w3.heap.size <= b)));have HT7 := hZ (grown_turn hg7);have HN7 := hZ ((HT7.out.block N (by simp only [World.size_alloc]; omega) (fun e => hne e.symm)).trans ((hHeld.out.block N (by omega)).trans HN3.out));have HR7 := hZ hR7;have HBB := hZ hHeld.out;refine hK.out _ _ ?_;clear hK K;refine norm_ (a' := ?_) ?_ ?_;rotate_left
   ·show Act.put _ (some 39) _ = _;simp only [Act.put, List.setIfInBounds_toArray, List.set_cons_zero, List.set_cons_succ, i64_w, i32_w];rfl
   refine pst 10 (some 40) HT_ ?_;refine pst 11 (some 41) HT_ ?_;refine last_ (i := 12) (N := none) #[true, true, true, true, true, true, true, true, true, true, true, true, true] rfl rfl (one_of HT_.out (by kernel_rfl)) (by decide) (fun K hK => ?_);have y1 := (blk_cell HN7.out 1).trans rfl;have f1 := blk_frozen HN7.out 1;refine skip_ (w1 := ?_) (by rfl) rfl ?_ ?_;rotate_left
   ·go_simp;rfl
   have HX8 := hZ (blk_put (cs' := #[.int .i64 M, .slice A7 n7 c7, .slice none 0 0]) HN7.out 1 (.slice A7 n7 c7) rfl);have hne7 : (Value.slice A7 n7 c7).ownBlock ≠ some N := (fun e => by rcases HAT.out with h | ⟨b, h, hle⟩; rw [h] at e; exact hne e; rw [h] at e; injection e with e; omega);have HR8 : Hid (k157.R 157 (w7.setCell ⟨N, 1, none⟩ (.slice A7 n7 c7)) base (fun _ => True) (.slice A7 n7 c7) (l ++ [(⟨id, ⟨q, p⟩, -1⟩ : S157)])) := hZ (Kd.R_reok rfl (Kd.R_step (Kd.R_tight rfl HR7.out) (fun b hb hlt => blk_set_ne 1 (.slice A7 n7 c7) (fun e => hne7 (e ▸ hb.symm)))) (fun _ _ => trivial));have HT8 := hZ ((((Turn.of_below (fun b => b = N \/ some b = (Value.slice A l.length c).ownBlock) (HB3.out)).trans (Turn.of_below _ HBB.out)).trans (HT7.out.imp (fun b e => .inr e))).set (.inl rfl) 1 (.slice A7 n7 c7));clear y1 f1;generalize hws : World.setCell _ _ _ = w8 at *;clear hws;refine hK.out _ _ ?_;clear hK K;refine done_ (done_of HT_.out (by kernel_rfl)) ?_;go_wp2;go_ret;refine ⟨rfl, .slice A7 n7 c7, HX8.out, HR8.out, HT8.out, ?_⟩;rcases HAT.out with h | ⟨b, h, hle⟩
   ·exact .inl h
   ·exact .inr ⟨b, h, by omega⟩
  ·go_wp2;go_ret;exact ⟨rfl, fun _ => HB3.out, fun h => by omega⟩
 ·have gx : decide (WOk x) = false := by simpa using hx
  rw [gx] at DG;have HF : Hid (askC M l x = 1) := hZ (by unfold askC; rw [if_neg hx]);generalize askC M l x = fin at *;obtain ⟨q, p⟩ := x;dsimp only at HB0 HX0;clear hN hr hall hx gx hR;go_enter Tryz.func36, Tryz.ntmps36
  go_wp2_with (go_at_call 35; (with_reducible refine (DG _).mono ?_); rintro e w1 ⟨rfl, hB1⟩; have HB1 := hZ (HB0.out.trans (hB1.mono HB0.out.size)); clear hB1)
  go_ret;exact ⟨by rw [HF.out]; rfl, fun _ => HB1.out, fun h => by have := HF.out; omega⟩
theorem bnew_calls (M : Int) (w : World) (hm1 : 1 <= M) (hm2 : M <= 64) : Calls Tryz.prog 21 #[.int .i64 M] w fun e w' => e = .returned (.tuple #[.pointer (some ⟨w.heap.size, 0, none⟩), .int .i64 0]) /\ w'.heap[w.heap.size]? = some (.cells #[.int .i64 M, .slice none 0 0, .slice none 0 0] 116 (0, 0)) /\ Below w.heap.size w w' := by
 have g1 : decide (M < 1) = false := by simp; omega
 have g2 : decide (M > 64) = false := by simp; omega
 have h1 := blk_new w (.cells #[.int .i64 M, .slice none 0 0, .slice none 0 0] 116);have h2 := below_alloc (Below.refl w.heap.size w) (.cells #[.int .i64 M, .slice none 0 0, .slice none 0 0] 116);go_enter Tryz.func21, Tryz.ntmps21;go_wp2;go_ret2;exact ⟨rfl, h1, h2⟩
theorem bits_place : ∀ k : Nat, k < 32 -> Go.bits .and .i64 (k : Int) 255 = (k : Int) := by decide +kernel
theorem bits_make : ∀ k : Nat, k < 32 -> Go.bits .or .i64 0 (k : Int) % 4294967296 = (k : Int) := by decide +kernel
theorem nplace_calls (k : Nat) (w : World) (hk : k < 32) : Calls Tryz.prog 72 #[.int .u32 k] w fun e w' => e = .returned (.int .i64 k) /\ w = w' := by
 have hb := bits_place k hk;have hw : wrap64 (k : Int) = k := by unfold Go.RowKit.wrap64; omega
 go_enter Tryz.func72, Tryz.ntmps72;go_wp2;go_ret;exact ⟨by first | rfl | (simp; done) | (simp [*]; done), rfl⟩
theorem ngen_calls (k : Nat) (w : World) (hk : k < 32) : Calls Tryz.prog 73 #[.int .u32 k] w fun e w' => e = .returned (.int .i64 0) /\ w = w' := by
 have hw : wrap64 (k : Int) = k := by unfold Go.RowKit.wrap64; omega
 have hd : (k : Int) / 256 = 0 := by omega
 go_enter Tryz.func73, Tryz.ntmps73;go_wp2;go_ret;exact ⟨by first | rfl | (simp; done) | (simp [*]; done), rfl⟩
theorem nid_calls (k : Nat) (w : World) (hk : k < 32) : Calls Tryz.prog 42 #[.int .u32 k] w fun e w' => e = .returned (.int .i64 ((k : Int) + 1)) /\ w = w' := by
 have D := fun w => nplace_calls k w hk
 have hw : IntKind.i64.wrap ((k : Int) + 1) = (k : Int) + 1 := by rw [i64_w]; unfold Go.RowKit.wrap64; omega
 go_enter Tryz.func42, Tryz.ntmps42
 go_wp2_with (go_at_call 72; (with_reducible refine (D _).mono ?_); rintro e w1 ⟨rfl, rfl⟩)
 go_ret;exact ⟨rfl, rfl⟩
theorem nmake_calls (k : Nat) (w : World) (hk : k < 32) : Calls Tryz.prog 68 #[.int .i64 k, .int .i64 0] w fun e w' => e = .returned (.tuple #[.int .u32 k, .bool true]) /\ w = w' := by
 have g1 : decide ((k : Int) < 0) = false := by simp
 have g2 : decide ((k : Int) >= 256) = false := by simp; omega
 go_enter Tryz.func68, Tryz.ntmps68;go_wp2;go_ret2;exact ⟨congrArg (fun z => Ending.returned (.tuple #[.int .u32 z, .bool true])) (bits_make k hk), rfl⟩
def spotsL (n : Nat) : List (List Value) := (List.range 32).map fun k => [.int .i64 0, .bool (decide (k < n))]
theorem spotsL_len (n : Nat) : (spotsL n).length = 32 := by simp [spotsL]
theorem spotsL_get (n : Nat) {k : Nat} (hk : k < 32) {hh : k < (spotsL n).length} : (spotsL n)[k] = [.int .i64 0, .bool (decide (k < n))] := by simp [spotsL]
structure TabAt (w : World) (Nn Ns n : Nat) : Prop where
 T : w.heap[Nn]? = some (.cells #[.slice (some ⟨Ns, 0, none⟩) 32 32] 119 (0, 0))
 S : RowAt w Ns 0 2 159 (spotsL n)
 n32 : n < 32
theorem TabAt.below {w w' : World} {Nn Ns n : Nat} (h : TabAt w Nn Ns n) (hb : Below w.heap.size w w') : TabAt w' Nn Ns n := ⟨blk_below h.T hb, h.S.below hb, h.n32⟩
theorem TabAt.turn {w w' : World} {S : Nat -> Prop} {Nn Ns n : Nat} (h : TabAt w Nn Ns n) (ht : Turn w w' S) (h1 : ¬ S Nn) (h2 : ¬ S Ns) : TabAt w' Nn Ns n := ⟨(ht.block _ (blk_lt h.T) h1).trans h.T, h.S.turn ht h2, h.n32⟩
theorem TabAt.cells {w : World} {Nn Ns n : Nat} (h : TabAt w Nn Ns n) : w.cell? ⟨Nn, 0, none⟩ = some (.slice (some ⟨Ns, 0, none⟩) 32 32) /\ ∀ k, k < 32 -> w.cell? ⟨Ns, k * 2, none⟩ = some (.int .i64 0) /\ w.cell? ⟨Ns, k * 2 + 1, none⟩ = some (.bool (decide (k < n))) := by
 refine ⟨(blk_cell h.T 0).trans rfl, fun k hk => ?_⟩;have h1 := fun (j : Nat) (hj : j < 2) v hv => h.S.cell (i := k) (by rw [spotsL_len]; exact hk) (j := j) hj (v := v) hv
 have e := spotsL_get n hk (hh := by rw [spotsL_len]; exact hk);have a := h1 0 (by omega) (.int .i64 0) (by rw [e]; rfl);have b := h1 1 (by omega) (.bool (decide (k < n))) (by rw [e]; rfl);rw [Nat.zero_add] at a b;exact ⟨a, b⟩
theorem tat_calls (Nn Ns n k : Nat) (w : World) (h : TabAt w Nn Ns n) (hk : k < 32) : Calls Tryz.prog 65 #[.pointer (some ⟨Nn, 0, none⟩), .int .i64 k] w fun e w' => (∃ x : Int, e = .returned (.tuple #[.int .u32 x, .bool (decide (k < n))])) /\ w = w' := by
 obtain ⟨h0, h1⟩ := h.cells;obtain ⟨h2, h3⟩ := h1 k hk;have g1 : decide ((k : Int) < 0) = false := by simp
 have g2 : decide ((k : Int) >= 32) = false := by simp; omega
 have k0 : (0 : Int) <= (k : Int) := Int.natCast_nonneg k;have k1 : (k : Int) < 32 := by omega
 have D := fun w => nmake_calls k w hk
 clear h h1;by_cases hn : k < n
 ·have gn : decide (k < n) = true := by simpa using hn
  rw [gn] at h3 |-;clear gn hn hk;go_enter Tryz.func65, Tryz.ntmps65
  go_wp2_with (go_at_call 68; (with_reducible refine (D _).mono ?_); rintro e w1 ⟨rfl, rfl⟩)
  go_ret2;exact ⟨⟨_, rfl⟩, rfl⟩
 ·have gn : decide (k < n) = false := by simpa using hn
  rw [gn] at h3 |-;clear gn hn hk;go_enter Tryz.func65, Tryz.ntmps65;go_wp2;go_ret2;exact ⟨⟨_, rfl⟩, rfl⟩
theorem place_calls (Nn Ns n : Nat) (w : World) (h : TabAt w Nn Ns n) : Calls Tryz.prog 34 #[.pointer (some ⟨Nn, 0, none⟩), .int .i64 32] w fun e w' => e = .returned (.int .i64 n) /\ w = w' := by
 have H := hZ h;have hn := h.n32;clear h;go_enter Tryz.func34, Tryz.ntmps34;go_wp2
 go_loopw [9] (fun v9 wr => ∃ k : Nat, v9 = .int .i64 k /\ k <= n /\ wr = w) (fun v9 _ => n - (intOf v9).toNat)
 case atStart => exact ⟨0, rfl, Nat.zero_le _, rfl⟩
 case round =>
  obtain ⟨k, rfl, hk, rfl⟩ := hrel;have D := tat_calls Nn Ns n k wr H.out (by omega);have k1 : (k : Int) < 32 := by omega
  by_cases hlt : k < n
  ·have gn : decide (k < n) = true := by simpa using hlt
   rw [gn] at D
   go_wp2_with (go_at_call 65; (with_reducible refine D.mono ?_); rintro e w1 ⟨⟨x, rfl⟩, rfl⟩)
   go_roundw
   case rel => exact ⟨k + 1, by go_num, by omega, by first | rfl | trivial⟩
   case measure => simp [intOf]; omega
  ·have gn : decide (k < n) = false := by simpa using hlt
   rw [gn] at D;obtain rfl : k = n := by omega
   go_wp2_with (go_at_call 65; (with_reducible refine D.mono ?_); rintro e w1 ⟨⟨x, rfl⟩, rfl⟩)
   go_ret;exact ⟨rfl, rfl⟩
theorem spotsL_take {n : Nat} (hn : n < 32) : (spotsL n).set n ((spotsL n)[n]'(by rw [spotsL_len]; exact hn) |>.set 1 (.bool true)) = spotsL (n + 1) := by
 apply List.ext_getElem
 ·rw [List.length_set, spotsL_len, spotsL_len]
 ·intro k h1 h2;have hk : k < 32 := by rw [spotsL_len] at h2; exact h2
  rw [List.getElem_set];by_cases e : n = k
  ·subst e;rw [if_pos rfl, spotsL_get _ hk, spotsL_get (n + 1) hk];simp
  ·rw [if_neg e, spotsL_get _ hk, spotsL_get (n + 1) hk];have : (k < n + 1) ↔ (k < n) := by omega
   simp [this]
theorem take_calls (Nn Ns n : Nat) (w : World) (h : TabAt w Nn Ns n) (hn : n < 31) : Calls Tryz.prog 37 #[.pointer (some ⟨Nn, 0, none⟩)] w fun e w' => e = .returned (.tuple #[.int .u32 n, .int .i64 0]) /\ TabAt w' Nn Ns (n + 1) /\ Turn w w' (fun b => b = Ns) := by
 obtain ⟨h0, h1⟩ := h.cells;have H := hZ h;have H1 := hZ h1
 have hne : Nn ≠ Ns := by
  intro e;obtain ⟨_, pre, rest, _, hb⟩ := h.S;have := h.T;rw [e, hb] at this;injection this with this;injection this with _ this
  cases this
 have hfr := h.S.free;have D := fun w => nmake_calls n w (by omega)
 clear h h1;go_enter Tryz.func37, Tryz.ntmps37;go_wp2
 go_loopw [12] (fun v12 wr => ∃ k : Nat, v12 = .int .i64 k /\ k <= n /\ wr = w) (fun v12 _ => n - (intOf v12).toNat)
 case atStart => exact ⟨0, rfl, Nat.zero_le _, rfl⟩
 case round =>
  obtain ⟨k, rfl, hk, rfl⟩ := hrel;obtain ⟨h2, h3⟩ := H1.out k (by omega);have k0 : (0 : Int) <= (k : Int) := Int.natCast_nonneg k;have k1 : (k : Int) < 32 := by omega
  by_cases hlt : k < n
  ·have gn : decide (k < n) = true := by simpa using hlt
   rw [gn] at h3;go_wp2;go_roundw
   case rel => exact ⟨k + 1, by go_num, by omega, by first | rfl | trivial⟩
   case measure => simp [intOf]; omega
  ·have gn : decide (k < n) = false := by simpa using hlt
   rw [gn] at h3;obtain rfl : k = n := by omega
   have hset := H.out.S.set (i := k) (by rw [spotsL_len]; omega) (j := 1) (by omega) (.bool true);rw [Nat.zero_add, spotsL_take (by omega)] at hset;have hT : TabAt (wr.setCell ⟨Ns, k * 2 + 1, none⟩ (.bool true)) Nn Ns (k + 1) := ⟨(blk_set_ne _ _ hne).trans H.out.T, hset, by omega⟩;have hc := hT.cells;have q0 := hc.1;have q1 := (hc.2 k (by omega)).1;have hTu := (Turn.refl wr (fun b => b = Ns)).set rfl (k * 2 + 1) (.bool true);have HT := hZ hT;have HTu := hZ hTu;have f1 := hfr (k * 2 + 1);clear hset hT hc hTu
   go_wp2_with (go_at_call 68; (with_reducible refine (D _).mono ?_); rintro e w1 ⟨rfl, rfl⟩)
   go_ret2;exact ⟨rfl, HT.out, HTu.out⟩
theorem is_calls (Nn Ns n k : Nat) (w : World) (h : TabAt w Nn Ns n) (hk : k < n) : Calls Tryz.prog 41 #[.pointer (some ⟨Nn, 0, none⟩), .int .u32 k] w fun e w' => e = .returned (.int .i64 0) /\ Below w.heap.size w w' := by
 obtain ⟨h0, h1⟩ := h.cells;have h32 := h.n32;obtain ⟨h2, h3⟩ := h1 k (by omega);have gn : decide (k < n) = true := by simpa using hk
 rw [gn] at h3;have P := fun w => nplace_calls k w (by omega)
 have G := fun w => ngen_calls k w (by omega)
 have g1 : decide ((32 : Int) <= (k : Int)) = false := by simp; omega
 have g2 : decide ((k : Int) >= 32) = false := by simp; omega
 have k0 : (0 : Int) <= (k : Int) := Int.natCast_nonneg k;have k1 : (k : Int) < 32 := by omega
 have hts := blk_lt h.T;have hss := h.S.lt;clear h h1 gn hk h32;go_enter Tryz.func41, Tryz.ntmps41;go_wp2;go_quiet ((go_at_call 72; exact Calls.quiet_of_same ((P _).mono fun e w' ⟨h1, h2⟩ => ⟨h1, h2.symm⟩)));go_wp2;obtain ⟨w2, hw2⟩ : ∃ w2, w2 = w.drewN nq := ⟨_, rfl⟩;rw [<- hw2];have hc2 : w2.cell? ⟨Nn, 0, none⟩ = some (.slice (some ⟨Ns, 0, none⟩) 32 32) := by rw [hw2]; exact h0
 have hcg2 : w2.cell? ⟨Ns, k * 2, none⟩ = some (.int .i64 0) := by rw [hw2]; exact h2
 have hct2 : w2.cell? ⟨Ns, k * 2 + 1, none⟩ = some (.bool true) := by rw [hw2]; exact h3
 have n1 : w2.heap.size ≠ Nn := by rw [hw2]; simp; omega
 have n2 : w2.heap.size ≠ Ns := by rw [hw2]; simp; omega
 have B2 := Aside0.mk (show Below w.heap.size w w2 from by rw [hw2]; exact ⟨rfl, rfl, rfl, Nat.le_refl _, fun _ _ => rfl⟩);have Z2 := Aside0.mk (show w2.heap.size = w.heap.size from by rw [hw2]; rfl);clear hw2 hts hss h0 h2 h3;go_region_held3 (fun w' => w'.cell? ⟨Nn, 0, none⟩ = some (.slice (some ⟨Ns, 0, none⟩) 32 32) /\ w'.cell? ⟨Ns, k * 2, none⟩ = some (.int .i64 0) /\ w'.cell? ⟨Ns, k * 2 + 1, none⟩ = some (.bool true)) (go_keep) ((first | (go_at_call 72; refine (P _).mono ?_; rintro e w' ⟨rfl, rfl⟩)))
 all_goals
  go_wp2;generalize hw3 : World.drew _ = w3;have hg3 : w3.cell? ⟨w2.heap.size, 0, none⟩ = some (.int .i64 0) := by rw [<- hw3]; simp
  have ht3 : w3.cell? ⟨w2.heap.size, 1, none⟩ = some (.bool true) := by rw [<- hw3]; simp
  have B3 := Aside0.mk (show Below w.heap.size w w3 from by rw [<- hw3]; exact (B2.out.alloc (by rw [Z2.out]; exact Nat.le_refl _) _).trans ⟨rfl, rfl, rfl, Nat.le_refl _, fun _ _ => rfl⟩);clear hw3 hc2 hcg2 hct2;go_quiet ((go_at_call 73; exact Calls.quiet_of_same ((G _).mono fun e w' ⟨h1, h2⟩ => ⟨h1, h2.symm⟩)));go_wp2;obtain ⟨w4, hw4⟩ : ∃ w4, w4 = w3.drewN nq := ⟨_, rfl⟩;rw [<- hw4];have hg4 : w4.cell? ⟨w2.heap.size, 0, none⟩ = some (.int .i64 0) := by rw [hw4]; exact hg3
  have ht4 : w4.cell? ⟨w2.heap.size, 1, none⟩ = some (.bool true) := by rw [hw4]; exact ht3
  have B4 := Aside0.mk (show Below w.heap.size w w4 from by rw [hw4]; exact B3.out.trans ⟨rfl, rfl, rfl, Nat.le_refl _, fun _ _ => rfl⟩);clear hw4 hg3 ht3 B3;go_quiet ((go_at_call 73; exact Calls.quiet_of_same ((G _).mono fun e w' ⟨h1, h2⟩ => ⟨h1, h2.symm⟩)));go_wp2;go_ret;exact ⟨rfl, B4.out.trans ⟨rfl, rfl, rfl, Nat.le_refl _, fun _ _ => rfl⟩⟩
theorem info159 : (Tryz.prog.info? 159).map (fun i => (i.zero, i.size, i.bytes)) = some (some (.agg #[.int .i64 0, .bool false]), 2, 16) := by kernel_rfl
theorem made159 (n : Int) (h0 : 0 <= n) (hn : n <= 256) (w : World) : (Instr.makeSlice 117 (.int .i64 n) (.int .i64 n)).run Tryz.prog w = .ok (.slice (some ⟨w.heap.size, 0, none⟩) n.toNat n.toNat) (w.alloc (.cells (madeCells #[.int .i64 0, .bool false] (n.toNat * 2)) 159)) := by
 obtain ⟨i0, hi, hz0, hz1, hz2⟩ := info_parts info159;have := run_make (P := Tryz.prog) w 117 159 i0 (.agg #[.int .i64 0, .bool false]) Tryz.underlying117 hi hz0 .i64 .i64 n n h0 (Int.le_refl _) (by rw [hz2]; omega) (by omega);rw [this, hz1];rfl
theorem inew_calls (m : Nat) (w : World) (h1 : 1 <= m) (h2 : m <= 256) : Calls Tryz.prog 22 #[.int .i64 m] w fun e w' => e = .returned (.pointer (some ⟨w.heap.size + 1, 0, none⟩)) /\ w' = (w.alloc (.cells (madeCells #[.int .i64 0, .bool false] (m * 2)) 159)).alloc (.cells #[.slice (some ⟨w.heap.size, 0, none⟩) m m] 119) := by
 have hm := fun w => made159 m (by omega) (by omega) w
 simp only [Int.toNat_natCast] at hm;have g1 : ¬ (1 : Int) > (m : Int) := by omega
 have g2 : ¬ (256 : Int) < (m : Int) := by omega
 go_enter Tryz.func22, Tryz.ntmps22;go_wp2;go_ret;exact ⟨rfl, rfl⟩
theorem spots_zero : madeCells #[.int .i64 0, .bool false] 64 = ((spotsL 0).flatten).toArray := by kernel_rfl
theorem tab_new (w : World) : TabAt ((w.alloc (.cells (madeCells #[.int .i64 0, .bool false] (32 * 2)) 159)).alloc (.cells #[.slice (some ⟨w.heap.size, 0, none⟩) 32 32] 119)) (w.heap.size + 1) w.heap.size 0 := by
 have h := two_blocks (w := w) (x := madeCells #[.int .i64 0, .bool false] (32 * 2)) (y := #[.slice (some ⟨w.heap.size, 0, none⟩) 32 32]) (tx := 159) (ty := 119) (Below.refl _ _);refine ⟨h.2.1, ⟨fun x hx => ?_, [], [], rfl, ?_⟩, by omega⟩
 ·obtain ⟨k, hk, rfl⟩ := List.mem_iff_getElem.1 hx;rw [spotsL_get 0 (by rw [spotsL_len] at hk; exact hk)];rfl
 ·rw [h.1, spots_zero, List.nil_append, List.append_nil]
theorem fault_calls (s : Value) (hs : ∃ b, s = .string b) (id e : Int) (w : World) (he : e ≠ 0) : Calls Tryz.prog 20 #[s, .int .i64 id, .int .i64 e] w fun r w' => (∃ p, r = .returned (.iface 111 p)) /\ Below w.heap.size w w' := by
 obtain ⟨b, rfl⟩ := hs;have g : (e == 0) = false := by simpa using he
 have hb := fun o => below_alloc (Below.refl w.heap.size w) o
 go_enter Tryz.func20, Tryz.ntmps20;go_wp2;go_ret;exact ⟨⟨_, rfl⟩, hb _⟩
def moddB (x : Int) : Bool := decide (x < 1 \/ 1048576 < x)
theorem modd_calls (x : Int) (w : World) : Calls Tryz.prog 39 #[.int .i64 x] w fun e w' => e = .returned (.bool (moddB x)) /\ w = w' := by
 unfold moddB;by_cases h1 : x < 1
 ·have g1 : decide (x < 1) = true := by simpa using h1
  have e : decide (x < 1 \/ 1048576 < x) = true := by simp [h1]
  rw [e];clear h1 e;go_enter Tryz.func39, Tryz.ntmps39;go_wp2;go_ret;exact ⟨rfl, rfl⟩
 ·have g1 : decide (x < 1) = false := by simpa using h1
  have e : decide (x < 1 \/ 1048576 < x) = decide (x > 1048576) := by simp [h1]
  rw [e];clear h1 e;go_enter Tryz.func39, Tryz.ntmps39;go_wp2;go_ret;exact ⟨rfl, rfl⟩
theorem mindex_calls (A : Option Addr) (c : Nat) (l : List Int) (w : World) (hr : (Kd.int .i64).C w A l.length l) (hlen : l.length <= 8) :
  Calls Tryz.prog 71 #[.slice A l.length c, .func (.func 39) #[] #[]] w fun e w' => (∃ r : Int, e = .returned (.int .i64 r) /\ (decide (r >= 0) = l.any moddB)) /\ w = w' := by
 have HR := hZ hr;clear hr;go_enter Tryz.func71, Tryz.ntmps71;go_wp2
 go_loopw [8] (fun v8 wr => ∃ k : Nat, v8 = .int .i64 k /\ k <= l.length /\ (∀ j (h : j < l.length), j < k -> moddB l[j] = false) /\ wr = w) (fun v8 _ => l.length - (intOf v8).toNat)
 case atStart => exact ⟨0, rfl, Nat.zero_le _, fun j _ h => by omega, rfl⟩
 case round =>
  obtain ⟨k, rfl, hk, hall, rfl⟩ := hrel;have HA := hZ hall;clear hall;by_cases hlt : k < l.length
  ·obtain ⟨ad, rfl, h0⟩ := int_at HR.out hlt;have D := fun w => modd_calls l[k] w
   have k0 : (0 : Int) <= (k : Int) := Int.natCast_nonneg k;have k1 : (k : Int) < (l.length : Int) := by omega
   cases hm : moddB l[k] with
   | true =>
    rw [hm] at D;have HM := hZ hm;clear hm
    go_wp2_with (go_at_call 39; (with_reducible refine (D _).mono ?_); rintro e w' ⟨rfl, rfl⟩)
    go_ret;have : l.any moddB = true := List.any_eq_true.2 ⟨l[k], List.getElem_mem hlt, HM.out⟩;rw [this];simp
   | false =>
    rw [hm] at D;have HM := hZ hm;clear hm
    go_wp2_with (go_at_call 39; (with_reducible refine (D _).mono ?_); rintro e w' ⟨rfl, rfl⟩)
    go_roundw
    case rel => exact ⟨k + 1, by go_num, by omega, fun j h hj => by
     rcases Nat.lt_or_ge j k with h2 | h2
     ·exact HA.out j h h2
     ·have : j = k := by omega
      subst this;exact HM.out, by first | rfl | trivial⟩
    case measure => simp [intOf]; omega
  ·obtain rfl : k = l.length := by omega
   go_wp2;go_ret
   have : l.any moddB = false := by
    rw [List.any_eq_false];intro x hx;obtain ⟨j, hj, rfl⟩ := List.mem_iff_getElem.1 hx;rw [HA.out j hj hj];simp
   rw [this];exact ⟨⟨_, rfl, rfl⟩, rfl⟩
theorem mcontains_calls (A : Option Addr) (c : Nat) (l : List Int) (w : World) (hr : (Kd.int .i64).C w A l.length l) (hlen : l.length <= 8) :
  Calls Tryz.prog 40 #[.slice A l.length c, .func (.func 39) #[] #[]] w fun e w' => e = .returned (.bool (l.any moddB)) /\ w = w' := by
 have D := mindex_calls A c l w hr hlen;clear hr;go_enter Tryz.func40, Tryz.ntmps40
 go_wp2_with (go_at_call 71; (with_reducible refine D.mono ?_); rintro e w' ⟨⟨r, rfl, hr⟩, rfl⟩; have HR := hZ hr; clear hr)
 go_ret;exact ⟨by rw [<- HR.out]; rfl, rfl⟩
def lockOf (x : Int) : S63 := ⟨x, 0, [], false⟩
def noRef : Nat -> Ref := fun _ => (none, 0)
def newB (n : Nat) : Bd := ⟨n, fun _ => False, fun _ h => h.elim⟩
theorem own_new {w : World} {base : Nat} {v : Value} {ms : List Int} (h : (Kd.raw 4).R 63 w base (fun _ => True) v (rowsOf lockRow (ms.map lockOf) noRef)) (hm : ms.length <= 8) (n : Nat) (hn : n <= base) (hb : base <= w.heap.size) : ∃ A2 c2, v = .slice A2 (ms.map lockOf).length c2 /\ Own w (newB n) [] (ms.map lockOf) ⟨none, 0, A2, c2, noRef, noRef⟩ /\ ∀ b, A2.map (·.block) = some b -> base <= b := by
 obtain ⟨A2, c2, e, hc, hC⟩ := Kd.R_reads h;rw [rowsOf_len] at e hc;have hbase := Kd.R_base h;have hlt := Kd.R_lt h;subst e
 have hown : ∀ c b, (⟨none, 0, A2, c2, noRef, noRef⟩ : OwnR).own c = some b -> c = .h /\ A2.map (·.block) = some b := by
  intro c b hb
  cases c with
  | g => simp [OwnR.own] at hb
  | h => exact ⟨rfl, hb⟩
  | j k => simp [OwnR.own, ob, noRef] at hb
  | q k => simp [OwnR.own, ob, noRef] at hb
 have hA : ∀ b, A2.map (·.block) = some b -> base <= b /\ b < w.heap.size := fun b hb => ⟨hbase b (ownB_map hb), hlt b (ownB_map hb)⟩
 refine ⟨A2, c2, rfl, ⟨⟨by simp, by simp; omega⟩, ⟨by simp, hc⟩, fun h => absurd rfl h, fun hq => ?_, fun i hi => absurd hi (by simp), fun i hi => ?_, fun c d b hc hd => ?_, fun c b hc => ?_, by show n <= _; omega⟩, fun b hb => (hA b hb).1⟩
 ·obtain ⟨g, cap, e, _, _, _, _, hr⟩ := row_of_R h (by rw [rowsOf_len]; exact List.length_pos_iff.2 hq);injection e with e1 e2 e3;exact ⟨g, e1, hr⟩
 ·have hi2 : i < ms.length := by simpa using hi
  have e : (ms.map lockOf)[i].f2 = [] := by rw [List.getElem_map]; rfl
  rw [e];exact ⟨Nat.zero_le _, fun W' _ => C_nil' _ _ _⟩
 ·rw [(hown c b hc).1, (hown d b hd).1]
 ·have := hA b (hown c b hc).2;exact ⟨by show n <= b; omega, this.2⟩
def newB_ok (m : Int) (ms : List Int) : Bool := !(decide (m < 1) || decide (64 < m) || decide (8 < ms.length) || ms.any moddB)
def NewP (m : Int) (ms : List Int) (w : World) (e : Ending) (w' : World) : Prop :=
 if newB_ok m ms then ∃ A2 c2, e = .returned (.tuple #[stV m 0 none 0 0 A2 (ms.map lockOf).length c2 none 0, .int .i64 0]) /\ Own w' (newB w.heap.size) [] (ms.map lockOf) ⟨none, 0, A2, c2, noRef, noRef⟩ /\ Below w.heap.size w w'
 else e = .returned (.tuple #[.agg #[.int .i64 0, .int .i64 0, .slice none 0 0, .slice none 0 0, .slice none 0 0], .int .i64 1]) /\ Below w.heap.size w w'
theorem mnew_calls (m : Int) (A : Option Addr) (c : Nat) (ms : List Int) (w : World) (hr : (Kd.int .i64).C w A ms.length ms) (hm1 : 1 <= m) (hm2 : m <= 64) (hlen : ms.length <= 8) :
  Calls Tryz.prog 19 #[.int .i64 m, .slice A ms.length c] w fun e w' => NewP m ms w e w' := by
 have g1 : decide (m < 1) = false := by simp; omega
 have g2 : decide (m > 64) = false := by simp; omega
 have g3 : decide ((ms.length : Int) > 8) = false := by simp; omega
 have HR := hZ hr;have DC := fun wx (hb : Below w.heap.size w wx) => mcontains_calls A c ms wx (Kd.C_below hr hb) hlen
 have HB0 : Hid (Below w.heap.size w (w.alloc (.cells #[.int .i64 0, .int .i64 0, .slice none 0 0, .slice none 0 0, .slice none 0 0] 47))) := hZ (below_alloc (Below.refl _ _) _);have HZ0 : Hid ((w.alloc (.cells #[.int .i64 0, .int .i64 0, .slice none 0 0, .slice none 0 0, .slice none 0 0] 47)).heap[w.heap.size]? = some (.cells #[.int .i64 0, .int .i64 0, .slice none 0 0, .slice none 0 0, .slice none 0 0] 47 (0, 0))) := hZ (blk_new _ _)
 have hok : newB_ok m ms = !ms.any moddB := by
  unfold newB_ok;simp [show ¬ m < 1 by omega, show ¬ 64 < m by omega, show ¬ 8 < ms.length by omega]
 unfold NewP;rw [hok];clear hok hr
 cases hodd : ms.any moddB with
 | true =>
  rw [hodd] at DC;have z0 := (blk_cell HZ0.out 0).trans rfl;have z1 := (blk_cell HZ0.out 1).trans rfl;have z2 := (blk_cell HZ0.out 2).trans rfl;have z3 := (blk_cell HZ0.out 3).trans rfl;have z4 := (blk_cell HZ0.out 4).trans rfl;have f0 := blk_frozen HZ0.out 0;have f1 := blk_frozen HZ0.out 1;have f2 := blk_frozen HZ0.out 2;have f3 := blk_frozen HZ0.out 3;have f4 := blk_frozen HZ0.out 4;clear hodd;go_enter Tryz.func19, Tryz.ntmps19
  go_wp2_with (go_at_call 40; (with_reducible refine (DC _ HB0.out).mono ?_); rintro e w' ⟨rfl, rfl⟩)
  refine bodyPost_ret (results_ct rfl _ _ w.heap.size 47 #[.int .i64 0, .int .i64 0, .slice none 0 0, .slice none 0 0, .slice none 0 0] (0, 0) _ rfl HZ0.out Tryz.underlying47 rfl (by kernel_rfl)) rfl ?_;exact ⟨rfl, HB0.out⟩
 | false =>
  rw [hodd] at DC;clear hodd;go_enter Tryz.func19, Tryz.ntmps19
  go_wp2_with (go_at_call 40; (with_reducible refine (DC _ HB0.out).mono ?_); rintro e w' ⟨rfl, rfl⟩)
  have h2 := two_blocks (w := w) (x := #[.int .i64 0, .int .i64 0, .slice none 0 0, .slice none 0 0, .slice none 0 0]) (y := #[.int .i64 m, .int .i64 0, .slice none 0 0, .slice none 0 0, .slice none 0 0]) (tx := 47) (ty := 47) (Below.refl _ _);have HZ1 := hZ h2.1;have HX1 := hZ h2.2.1;have HB1 : Hid (Below w.heap.size w ((w.alloc (.cells #[.int .i64 0, .int .i64 0, .slice none 0 0, .slice none 0 0, .slice none 0 0] 47)).alloc (.cells #[.int .i64 m, .int .i64 0, .slice none 0 0, .slice none 0 0, .slice none 0 0] 47))) := hZ (below_alloc (below_alloc (Below.refl _ _) _) _);have hs1 : w.heap.size + 2 = ((w.alloc (.cells #[.int .i64 0, .int .i64 0, .slice none 0 0, .slice none 0 0, .slice none 0 0] 47)).alloc (.cells #[.int .i64 m, .int .i64 0, .slice none 0 0, .slice none 0 0, .slice none 0 0] 47)).heap.size := by simp
  clear h2 HZ0 HB0 DC;generalize hw1 : (w.alloc (.cells #[.int .i64 0, .int .i64 0, .slice none 0 0, .slice none 0 0, .slice none 0 0] 47)).alloc (.cells #[.int .i64 m, .int .i64 0, .slice none 0 0, .slice none 0 0, .slice none 0 0] 47) = w1 at *;clear hw1
  go_loopw [31] (fun v31 wr => ∃ (k : Nat) (A4 : Option Addr) (c4 : Nat), v31 = .int .i64 k /\ k <= ms.length /\ Hid (wr.heap[w.heap.size]? = some (.cells #[.int .i64 0, .int .i64 0, .slice none 0 0, .slice none 0 0, .slice none 0 0] 47 (0, 0))) /\ Hid (wr.heap[w.heap.size + 1]? = some (.cells #[.int .i64 m, .int .i64 0, .slice none 0 0, .slice A4 k c4, .slice none 0 0] 47 (0, 0))) /\ Hid ((Kd.raw 4).R 63 wr w1.heap.size (fun _ => True) (.slice A4 k c4) (rowsOf lockRow ((ms.take k).map lockOf) noRef)) /\ Hid (Below w.heap.size w wr) /\ w1.heap.size <= wr.heap.size) (fun v31 _ => ms.length - (intOf v31).toNat)
  case atStart => exact ⟨0, none, 0, rfl, Nat.zero_le _, HZ1, HX1, hZ (Kd.R_nil _ _ _ _ _), HB1, Nat.le_refl _⟩
  case round =>
   clear HZ1 HX1 HB1;obtain ⟨k, A4, c4, rfl, hk, HZ, HX, HRR, HB, hsw⟩ := hrel;by_cases hlt : k < ms.length
   ·obtain ⟨ad, rfl, h0⟩ := int_at (Kd.C_below HR.out HB.out) hlt
    have HTK : Hid (rowsOf lockRow ((ms.take (k + 1)).map lockOf) noRef = rowsOf lockRow ((ms.take k).map lockOf) noRef ++ [[.int .i64 ms[k], .int .i64 0, .slice none 0 0, .bool false]]) := hZ (by
     rw [List.take_succ_eq_append_getElem hlt, List.map_append];unfold rowsOf;rw [List.mapIdx_append];rfl)
    have hlr : (rowsOf lockRow ((ms.take k).map lockOf) noRef).length <= 8 := by rw [rowsOf_len, List.length_map, List.length_take]; omega
    have hrk : (rowsOf lockRow ((ms.take k).map lockOf) noRef).length = k := by rw [rowsOf_len, List.length_map, List.length_take]; omega
    have x3 := (blk_cell HX.out 3).trans rfl;have k0 : (0 : Int) <= (k : Int) := Int.natCast_nonneg k;have k1 : (k : Int) < (ms.length : Int) := by omega
    have HRK := hZ hrk;generalize rowsOf lockRow ((ms.take k).map lockOf) noRef = rows at *;clear hrk;generalize ms[k] = x at *
    go_upto_region 9 with ((with_reducible refine gate_builtin (b := .append) (xs := #[.tmp 36, .tmp 39]) rfl ?_); at_builtin; refine Kd.R_append (Kd.raw 4) (w0 := wr) w1.heap.size rfl (.tmp 36) (.tmp 39) 44 63 (.agg #[.int .i64 0, .int .i64 0, .slice none 0 0, .bool false]) 48 rfl Tryz.underlying44 info63 rfl (by decide) (by omega) _ rows [.int .i64 x, .int .i64 0, .slice none 0 0, .bool false] [.int .i64 x, .int .i64 0, .slice none 0 0, .bool false] (fun _ => True) (fun _ => False) rfl (by first | (go_simp; done) | (go_simp; rfl)) ?aP (fun _ hk => hk.elim) ?aF ?aO ?aB ?aS ?aL ?_; (case aP => exact ⟨rfl, rfl, fun u hu => by simp only [List.mem_cons, List.not_mem_nil, or_false] at hu; rcases hu with rfl | rfl | rfl | rfl <;> rfl⟩); (case aF => exact (fun _ _ => trivial)); (case aO => exact HRR.out); (case aB => exact Below.refl _ _); (case aS => exact hsw); (case aL => omega); intro v5 w5 hR5 hB5 hg5 hat5; obtain ⟨A5, c5, e5, _, _⟩ := Kd.R_reads hR5; have e6 : (rows ++ [([.int .i64 x, .int .i64 0, .slice none 0 0, .bool false] : List Value)]).length = k + 1 := (by rw [List.length_append, HRK.out]; rfl); rw [e6] at e5; subst e5; have HR5 := hZ hR5; have HT5 := hZ (grown_turn hg5); have HX5 := hZ ((HT5.out.block _ (blk_lt HX.out) (fun e => by have := Kd.R_base HRR.out _ e.symm; omega)).trans HX.out); have HZ5 := hZ ((HT5.out.block _ (blk_lt HZ.out) (fun e => by have := Kd.R_base HRR.out _ e.symm; omega)).trans HZ.out); have x5 := (blk_cell HX5.out 3).trans rfl; have f5 := blk_frozen HX5.out 3; clear hR5 hB5 hg5 hat5 x3)
    have HX6 := hZ (blk_put (cs' := #[.int .i64 m, .int .i64 0, .slice none 0 0, .slice A5 (k + 1) c5, .slice none 0 0]) HX5.out 3 (.slice A5 (k + 1) c5) rfl);have HT6 := hZ ((Turn.refl w5 (fun b => b = w.heap.size + 1)).set rfl 3 (.slice A5 (k + 1) c5));generalize hws : World.setCell _ _ _ = w6 at *;clear hws x5 f5;have HZ6 := hZ ((HT6.out.block _ (blk_lt HZ5.out) (by omega)).trans HZ5.out);have HR6 : Hid ((Kd.raw 4).R 63 w6 w1.heap.size (fun _ => True) (.slice A5 (k + 1) c5) (rows ++ [[.int .i64 x, .int .i64 0, .slice none 0 0, .bool false]])) := hZ (Kd.R_reok rfl (Kd.R_step (Kd.R_tight rfl HR5.out) (fun b hb hlt2 => HT6.out.block b hlt2 (fun e => by have := Kd.R_base HR5.out b hb.symm; omega))) (fun _ _ => trivial));have HB6 : Hid (Below w.heap.size w w6) := hZ (Turn.below (Turn.below HB.out HT5.out (fun b e => by have := Kd.R_base HRR.out b e.symm; omega) HB.out.size) HT6.out (fun b e => by omega) (by have := HT5.out.size; have := HB.out.size; omega));have hs6 : w1.heap.size <= w6.heap.size := by have := HT5.out.size; have := HT6.out.size; omega
    clear HZ HX HRR HB hsw HT5 HT6 HR5 HX5 HZ5;go_wp2;go_roundw
    case rel => exact ⟨k + 1, A5, c5, by go_num, by omega, HZ6, HX6, hZ (by rw [HTK.out]; exact HR6.out), HB6, hs6⟩
    case measure => simp [intOf]; omega
   ·obtain rfl : k = ms.length := by omega
    rw [List.take_length] at HRR;have x0 := (blk_cell HX.out 0).trans rfl;have x1 := (blk_cell HX.out 1).trans rfl;have x2 := (blk_cell HX.out 2).trans rfl;have x3 := (blk_cell HX.out 3).trans rfl;have x4 := (blk_cell HX.out 4).trans rfl;have z0 := (blk_cell HZ.out 0).trans rfl;have z1 := (blk_cell HZ.out 1).trans rfl;have z2 := (blk_cell HZ.out 2).trans rfl;have z3 := (blk_cell HZ.out 3).trans rfl;have z4 := (blk_cell HZ.out 4).trans rfl;have f0 := blk_frozen HZ.out 0;have f1 := blk_frozen HZ.out 1;have f2 := blk_frozen HZ.out 2;have f3 := blk_frozen HZ.out 3;have f4 := blk_frozen HZ.out 4;have HZ5 := hZ (blk_put (cs' := stX m 0 none 0 0 A4 ms.length c4 none 0) (blk_put (blk_put (blk_put (blk_put HZ.out 0 (.int .i64 m) rfl) 1 (.int .i64 0) rfl) 2 (.slice none 0 0) rfl) 3 (.slice A4 ms.length c4) rfl) 4 (.slice none 0 0) rfl);have HT5 := hZ (((((Turn.refl wr (fun b => b = w.heap.size)).set rfl 0 (.int .i64 m)).set rfl 1 (.int .i64 0)).set rfl 2 (.slice none 0 0)).set rfl 3 (.slice A4 ms.length c4)).set rfl 4 (.slice none 0 0);go_wp2;refine bodyPost_ret (results_ct rfl _ _ w.heap.size 47 (stX m 0 none 0 0 A4 ms.length c4 none 0) (0, 0) _ rfl HZ5.out Tryz.underlying47 rfl (by kernel_rfl)) rfl ?_;generalize hwf : World.setCell _ _ _ = wf at *;have ht := HT5;have hbw := HB.out.size;have hr5 : (Kd.raw 4).R 63 wf w1.heap.size (fun _ => True) (.slice A4 ms.length c4) (rowsOf lockRow (ms.map lockOf) noRef) := Kd.R_reok rfl (Kd.R_step (Kd.R_tight rfl HRR.out) (fun b hb hlt2 => ht.block b hlt2 (fun e => by have := Kd.R_base HRR.out b hb.symm; omega))) (fun _ _ => trivial);obtain ⟨A5, c5, e5, hO, hA⟩ := own_new hr5 hlen w.heap.size (by omega) (by have := ht.size; omega);injection e5 with e5 e6 e7;subst e5 e7;exact ⟨A4, c4, by first | rfl | (rw [List.length_map]; rfl), hO, Turn.below HB.out ht (fun b e => by omega) hbw⟩
theorem F72 {w : World} {A : Option Addr} {n : Nat} {p : List S72} (h : Kd.C k72 w A n p) : Kd.F k72 w (fun b => A.map (·.block) = some b) A n p := fun W' hW => by
 refine ⟨h.1, h.2.1, fun h0 => ?_⟩;obtain ⟨ad, e, hc⟩ := h.2.2 h0;refine ⟨ad, e, fun j x hx => ?_⟩;obtain ⟨cs, h1, h2, h3⟩ := hc j x hx;obtain rfl := k72_open h2;refine ⟨_, h1, k72_mk W' x, fun i u hu => ?_⟩;have h4 := h3 i u hu;have h5 := World.block_lt_of_cell? _ _ h4;refine cell_keep h4 ?_;refine hW _ ?_ h5;rw [add_block, e];rfl
structure RelAt (w : World) (B : Bd) (g : Nat) (l : List S57) (r : Nat -> Ref) (A2 : Option Addr) (q : List S63) (F : Nat -> Prop) : Prop where
 row : RowAt w g 0 11 57 (rowsOf servRow l r)
 rest : ∀ W' : World, (∀ b, (F b \/ B.G b) -> b < w.heap.size -> W'.heap[b]? = w.heap[b]?) -> (∀ i (hi : i < l.length), l[i].f2.length <= (r i).2 /\ ∃ rr, (Kd.raw 4).C W' (r i).1 l[i].f2.length (rowsOf jobRow l[i].f2 rr) /\ Progs W' B l[i].f2 rr) /\ Kd.C k63 W' A2 q.length q
 ne : ¬ F g /\ ¬ B.G g
 lt : (∀ b, F b -> b < w.heap.size) /\ B.n <= w.heap.size
 len : l.length <= 100000
theorem RelAt.rdf {w : World} {B : Bd} {g : Nat} {l : List S57} {r : Nat -> Ref} {A2 : Option Addr} {q : List S63} {F : Nat -> Prop} (h : RelAt w B g l r A2 q F) : RdF w (fun b => b = g \/ F b) B (some ⟨g, 0, none⟩) l A2 q := fun W' hW => by
 obtain ⟨h1, h2⟩ := h.rest W' (fun b hb hlt => hW b (hb.imp (fun e => .inr e) (fun e => e)) hlt);refine ⟨⟨r, ?_, h1⟩, h2⟩;rw [<- rowsOf_len (f := servRow) (r := r)];exact raw_of_row (h.row.same (hW g (.inl (.inl rfl)) h.row.lt)) (by rw [rowsOf_len]; have := h.len; omega) (mem_rowsOf (fun x p u hu => by simp only [servRow, List.mem_cons, List.not_mem_nil, or_false] at hu; rcases hu with rfl | rfl | rfl | rfl | rfl | rfl | rfl | rfl | rfl | rfl | rfl <;> rfl))
theorem RelAt.keep {w w' : World} {B : Bd} {g : Nat} {l : List S57} {r : Nat -> Ref} {A2 : Option Addr} {q : List S63} {F : Nat -> Prop} (h : RelAt w B g l r A2 q F) (hb : Below w.heap.size w w') : RelAt w' B g l r A2 q F where
 row := h.row.below hb
 rest := fun W' hW => h.rest W' (fun b hb2 hlt => by rw [hW b hb2 (Nat.lt_of_lt_of_le hlt hb.size)]; exact hb.block b hlt)
 ne := h.ne
 lt := ⟨fun b e => Nat.lt_of_lt_of_le (h.lt.1 b e) hb.size, Nat.le_trans h.lt.2 hb.size⟩
 len := h.len
theorem RelAt.serv {w w' : World} {B : Bd} {g : Nat} {l : List S57} {r : Nat -> Ref} {A2 : Option Addr} {q : List S63} {F : Nat -> Prop} (h : RelAt w B g l r A2 q F) {i : Nat} (hi : i < l.length) (x : S57) (hx : x.f2 = l[i].f2) (ht : Turn w w' (fun b => b = g)) (hr : RowAt w' g 0 11 57 ((rowsOf servRow l r).set i (servRow x (r i)))) : RelAt w' B g (l.set i x) r A2 q F where
 row := by rw [rowsOf_set_same]; exact hr
 rest := fun W' hW => by
  obtain ⟨h1, h2⟩ := h.rest W' (fun b hb2 hlt => by rw [hW b hb2 (Nat.lt_of_lt_of_le hlt ht.size)]; exact ht.block b hlt (fun e => by subst e; exact hb2.elim h.ne.1 h.ne.2));refine ⟨fun k hk => ?_, h2⟩;have hk2 : k < l.length := by simpa using hk
  have e : (l.set i x)[k].f2 = l[k].f2 := by
   rw [List.getElem_set];split
   ·rename_i e; subst e; exact hx
   ·rfl
  rw [e];exact h1 k hk2
 ne := h.ne
 lt := ⟨fun b e => Nat.lt_of_lt_of_le (h.lt.1 b e) ht.size, Nat.le_trans h.lt.2 ht.size⟩
 len := by rw [List.length_set]; exact h.len
theorem rowsOf_snoc {α : Type} (f : α -> Ref -> List Value) (l : List α) (x : α) (r : Nat -> Ref) (p : Ref) : rowsOf f (l ++ [x]) (upd r l.length p) = rowsOf f l r ++ [f x p] := by
 apply List.ext_getElem
 ·simp [rowsOf]
 ·intro k h1 h2;have hk : k < l.length + 1 := by simpa [rowsOf] using h1
  rw [rowsOf_get (by simpa using hk)];by_cases e : k = l.length
  ·subst e;rw [upd_self, List.getElem_append_right (by simp), List.getElem_append_right (by simp [rowsOf_len])];simp [rowsOf_len]
  ·have hk2 : k < l.length := by omega
   rw [upd_ne _ _ e, List.getElem_append_left hk2, List.getElem_append_left (by rw [rowsOf_len]; exact hk2), rowsOf_get hk2]
theorem Own.rel {w w' : World} {B B' : Bd} {l : List S57} {q : List S63} {o : OwnR} {i N1 : Nat} (h : Own w B l q o) (hi : i < l.length) {g : Nat} (hg : o.A = some ⟨g, 0, none⟩) (hN : ∀ c b, o.own c = some b -> b < N1) (hB : ∀ b, B.G b -> B'.G b) (hB' : ∀ b, B'.G b -> B.G b \/ N1 <= b) (hBn : B'.n <= w.heap.size) (hBN : B.n <= N1)
  (j : S125) (pp : Ref) (hj : j.f1.length <= pp.2 /\ Kd.F k72 w B'.G pp.1 j.f1.length j.f1) {rr : Nat -> Ref} (hpr : Progs w B l[i].f2 rr)
  {A7 : Option Addr} {c7 base : Nat} (hc7 : l[i].f2.length + 1 <= c7) (hR : (Kd.raw 4).R 125 w' base (fun _ => True) (.slice A7 (l[i].f2.length + 1) c7) (rowsOf jobRow l[i].f2 rr ++ [jobRow j pp]))
  (hown : ∀ b, (Value.slice A7 (l[i].f2.length + 1) c7).ownBlock = some b -> (o.own (.j i) = some b \/ w.heap.size <= b) /\ b < w'.heap.size)
  (ht : Turn w w' (fun b => b = g \/ o.own (.j i) = some b)) (x : S57) (hx : x.f2 = l[i].f2 ++ [j]) (hr : RowAt w' g 0 11 57 ((rowsOf servRow l o.r).set i (servRow x (A7, c7)))) (hNw : N1 <= w.heap.size) :
  RelAt w' B' g (l.set i x) (upd o.r i (A7, c7)) o.A2 q (fun b => (∃ c, c ≠ .g /\ c ≠ .j i /\ o.own c = some b) \/ (Value.slice A7 (l[i].f2.length + 1) c7).ownBlock = some b) := by
 have hgo : o.own .g = some g := by show o.A.map _ = _; rw [hg]; rfl
 have hS : ∀ b, (b = g \/ o.own (.j i) = some b) -> ¬ B'.G b := fun b hb hG => by
  have h1 : ∃ c, o.own c = some b := hb.elim (fun e => ⟨.g, by rw [e]; exact hgo⟩) (fun e => ⟨_, e⟩);obtain ⟨c, hc⟩ := h1;rcases hB' b hG with h2 | h2
  ·have := B.lt b h2; have := (h.bnd c b hc).1; omega
  ·have := hN c b hc; omega
 have hk0 : ∀ c b, c ≠ .g -> c ≠ .j i -> o.own c = some b -> w'.heap[b]? = w.heap[b]? := fun c b h1 h2 h3 => ht.block b (h.bnd c b h3).2 (fun e => e.elim (fun e => h1 (h.apart c .g b h3 (by rw [e]; exact hgo))) (fun e => h2 (h.apart c (.j i) b h3 e)))
 refine ⟨by rw [rowsOf_set]; exact hr, fun W' hW => ?_, ⟨fun e => ?_, hS g (.inl rfl)⟩, ⟨fun b e => ?_, Nat.le_trans hBn ht.size⟩, by rw [List.length_set]; exact h.max.1⟩
 ·have hWB : ∀ b, B'.G b -> b < w.heap.size -> W'.heap[b]? = w.heap[b]? := fun b hb hlt => by
   rw [hW b (.inr hb) (Nat.lt_of_lt_of_le hlt ht.size)]; exact ht.block b hlt (fun e => hS b e hb)
  have hWo : ∀ c b, c ≠ .g -> c ≠ .j i -> o.own c = some b -> W'.heap[b]? = w.heap[b]? := fun c b h1 h2 h3 => by
   rw [hW b (.inl (.inl ⟨c, h1, h2, h3⟩)) (Nat.lt_of_lt_of_le (h.bnd c b h3).2 ht.size)]; exact hk0 c b h1 h2 h3
  have hPm : ∀ {x : List S125} {r0 : Nat -> Ref}, Progs w B x r0 -> Progs W' B' x r0 := fun hp k hk => ⟨(hp k hk).1, fun W2 hW2 => (hp k hk).2 W2 (fun b hb hlt => by
   have e := hWB b (hB b hb) hlt;rw [<- e];refine hW2 b (hB b hb) ?_;rw [Array.getElem?_eq_getElem hlt] at e;exact (Array.getElem?_eq_some_iff.1 e).1)⟩
  refine ⟨fun k hk => ?_, ?_⟩
  ·have hk2 : k < l.length := by simpa using hk
   by_cases e : k = i
   ·subst e;have e2 : (l.set k x)[k] = x := List.getElem_set_self hk;rw [e2, upd_self, hx];have hl : (l[k].f2 ++ [j]).length = l[k].f2.length + 1 := by simp
    rw [hl];refine ⟨hc7, upd rr l[k].f2.length pp, ?_, fun n hn => ?_⟩
    ·rw [rowsOf_snoc];have h1 : (Kd.raw 4).R 125 W' base _ _ _ := Kd.R_step (Kd.R_tight rfl hR) (fun b hb hlt => hW b (.inl (.inr hb.symm)) hlt);obtain ⟨A8, c8, e8, _, hC8⟩ := Kd.R_reads h1;injection e8 with e9 e10 e11;subst e9;have hll : (rowsOf jobRow l[k].f2 rr ++ [jobRow j pp]).length = l[k].f2.length + 1 := by simp [rowsOf_len]
     rw [hll] at hC8;exact hC8
    ·by_cases en : n = l[k].f2.length
     ·subst en;have e3 : (l[k].f2 ++ [j])[l[k].f2.length] = j := by simp
      rw [e3, upd_self];refine ⟨hj.1, fun W2 hW2 => hj.2 W2 (fun b hb hlt => ?_)⟩;have e := hWB b hb hlt;rw [<- e];refine hW2 b hb ?_;rw [Array.getElem?_eq_getElem hlt] at e;exact (Array.getElem?_eq_some_iff.1 e).1
     ·have hn2 : n < l[k].f2.length := by rw [hl] at hn; omega
      have e3 : (l[k].f2 ++ [j])[n] = l[k].f2[n] := List.getElem_append_left hn2;rw [e3, upd_ne _ _ en];exact hPm hpr n hn2
   ·have e2 : (l.set i x)[k] = l[k] := by rw [List.getElem_set]; exact if_neg (fun h => e h.symm)
    rw [e2, upd_ne _ _ e];have hjk := h.jobs k hk2;refine ⟨hjk.cap, ?_⟩;by_cases hx0 : l[k].f2 = []
    ·exact ⟨fun _ => (none, 0), by rw [hx0]; exact C_nil' _ _ _, fun n hn => by rw [hx0] at hn; simp at hn⟩
    ·obtain ⟨b, oo, r0, e3, hr3, hp⟩ := hjk.row hx0;refine ⟨r0, ?_, hPm hp⟩;rw [e3];exact raw_jobs (hr3.same (hWo (.j k) b (by simp) (by intro h5; injection h5 with h5; exact e h5) (by show ob (o.r k) = _; rw [ob, e3]; rfl))) hjk.max
  ·by_cases hx0 : q = []
   ·subst hx0; exact C_nil' _ _ _
   ·obtain ⟨g2, e, hr2⟩ := h.lok hx0;rw [e];refine RowAt.kd (d := k63) (hr2.same (hWo .h g2 (by simp) (by simp) (by show o.A2.map _ = _; rw [e]; rfl))) rowsOf_len (by have := h.max; omega) (fun k h1 h2 => ?_);rw [rowsOf_get h1];exact k63_mk W' q[k] (h.que k h1).1 ((h.que k h1).2 W' (fun b hb hlt => hWo (.q k) b (by simp) (by simp) hb))
 ·rcases e with ⟨c, h1, h2, h3⟩ | h3
  ·exact h1 (h.apart c .g g h3 hgo)
  ·rcases (hown g h3).1 with h4 | h4
   ·have := h.apart (.j i) .g g h4 hgo; cases this
   ·have := (h.bnd .g g hgo).2; omega
 ·rcases e with ⟨c, h1, h2, h3⟩ | h3
  ·exact Nat.lt_of_lt_of_le (h.bnd c b h3).2 ht.size
  ·exact (hown b h3).2
def relC (k : Nat) (P : List S72) (x : S57) : Int := if fitsB k P = true then (if 8 <= x.f2.length then 3 else 0) else 1
def relX (now : Int) (P : List S72) (x : S57) : S57 := { x with f1 := if x.f1.f4 = 0 then wakeS x.f1 now else x.f1, f2 := x.f2 ++ [⟨x.f5 + 1, P, 0, 0⟩], f5 := x.f5 + 1 }
def relE (now : Int) (x : S57) : List Ev := ⟨now, 1, x.f0, x.f5 + 1⟩ :: (if x.f1.f4 = 0 then [⟨now, 9, x.f0, 0⟩] else [])
def relw.T12 : Bool × List (List Nat × List Nat) := (true, [([], []), ([], []), ([1], [1]), ([2], [2]), ([3], [3]), ([], []), ([5], [5]), ([4, 6], [4, 6]), ([0, 0, 1, 2, 3, 4, 5, 6, 7], [0]), ([8, 0, 1, 2, 3, 4, 5, 6, 7], [8]), ([9, 7, 7, 0, 1, 2, 3, 4, 5, 6, 7], [7, 9])])
def relw.B12 : List Nat := [0, 0, 2, 6, 14, 0, 32, 126, 255, 511, 1023]
theorem relw.tab12 : rtab .any (opsOf Tryz.f24 12) = relw.T12 := by kernel_rfl
theorem relw.bits12 : waitsOk relw.T12.2 relw.B12 = true := by kernel_rfl
def relw.T13 : Bool × List (List Nat × List Nat) := (true, [([], []), ([], []), ([], []), ([2], [2]), ([3], [3]), ([4], [4]), ([0, 1, 5], [0, 1, 5]), ([6], [6]), ([7, 6, 0, 1, 2, 3, 4, 5, 6, 7], [7])])
def relw.B13 : List Nat := [0, 0, 0, 4, 12, 28, 63, 127, 255]
theorem relw.tab13 : rtab .any (opsOf Tryz.f24 13) = relw.T13 := by kernel_rfl
theorem relw.bits13 : waitsOk relw.T13.2 relw.B13 = true := by kernel_rfl
def relw.T15 : Bool × List (List Nat × List Nat) := (true, [([], []), ([0], [0]), ([1], [1]), ([2], [2]), ([], []), ([4], [4]), ([3, 5], [3, 5]), ([6], [6]), ([7], [7]), ([7], [7]), ([], []), ([10, 8, 6, 0, 1, 2, 3, 4, 5, 6, 7, 8, 10], [8, 10]), ([9, 11, 0, 1, 2, 3, 4, 5, 6, 7, 8, 9, 10, 11], [9])])
def relw.B15 : List Nat := [0, 1, 3, 7, 0, 16, 63, 127, 255, 255, 0, 1535, 4095]
theorem relw.tab15 : rtab .any (opsOf Tryz.f24 15) = relw.T15 := by kernel_rfl
theorem relw.bits15 : waitsOk relw.T15.2 relw.B15 = true := by kernel_rfl
structure RelOk (now : Int) (l : List S57) (q : List S63) (i : Nat) (hi : i < l.length) : Prop where
 sorted : Sorted l
 len : l.length <= 12
 qlen : q.length <= 8
 jobs : ∀ k (h : k < l.length), l[k].f2.length <= 8
 que : ∀ n (h : n < q.length), q[n].f2.length <= 100000
 now0 : 0 <= now
 now1 : now <= 2305843009213693952
 cbs : CbsOk l[i].f1
 num0 : 0 <= l[i].f5
 num1 : l[i].f5 <= 1152921504606846976
structure RelW (M now : Int) (l : List S57) (q : List S63) (B : Bd) (i : Nat) (x : S57) (P : List S72) (w : World) (A' : Option Addr) (A2' : Option Addr) (v : Value) (w' : World) : Prop where
 R : ∃ F B', RdF w' F B' A' (l.set i (relX now P x)) A2' q /\ (∀ b, B'.G b -> B.G b \/ w.heap.size <= b) /\ (∀ b, B.G b -> B'.G b) /\ B'.n <= w'.heap.size /\ (∀ b, F b -> w.heap.size <= b /\ b < w'.heap.size /\ v.ownBlock ≠ some b) /\ (∀ b, v.ownBlock = some b -> ¬ B'.G b)
 E : (Kd.raw 4).R 67 w' w.heap.size (fun _ => True) v ((relE now x).map Ev.cells)
 Bl : Below w.heap.size w w'
def RelP (M now : Int) (l : List S57) (q : List S63) (B : Bd) (i : Nat) (x : S57) (P : List S72) (st0 : Value) (w : World) (e : Ending) (w' : World) : Prop :=
 (relC q.length P x ≠ 0 -> e = .returned (.tuple #[st0, .slice none 0 0, .int .i64 (relC q.length P x)]) /\ Below w.heap.size w w') /\
 (relC q.length P x = 0 -> ∃ A' c' A2' c2' A4 c4 v, e = .returned (.tuple #[stV M now A' l.length c' A2' q.length c2' A4 c4, v, .int .i64 0]) /\ RelW M now l q B i x P w A' A2' v w')
theorem RelAt.turn {w w' : World} {B : Bd} {g : Nat} {l : List S57} {r : Nat -> Ref} {A2 : Option Addr} {q : List S63} {F : Nat -> Prop} (h : RelAt w B g l r A2 q F) {S : Nat -> Prop} (ht : Turn w w' S) (hS : ∀ b, S b -> ¬ F b /\ ¬ B.G b /\ b ≠ g) : RelAt w' B g l r A2 q F where
 row := h.row.turn ht (fun e => (hS g e).2.2 rfl)
 rest := fun W' hW => h.rest W' (fun b hb2 hlt => by rw [hW b hb2 (Nat.lt_of_lt_of_le hlt ht.size)]; exact ht.block b hlt (fun e => hb2.elim (hS b e).1 (hS b e).2.1))
 ne := h.ne
 lt := ⟨fun b e => Nat.lt_of_lt_of_le (h.lt.1 b e) ht.size, Nat.le_trans h.lt.2 ht.size⟩
 len := h.len
theorem RelW.fin {M now : Int} {l : List S57} {q : List S63} {B B' : Bd} {i : Nat} {x : S57} {P : List S72} {w wx wf : World} {g N : Nat} {r : Nat -> Ref} {A2' : Option Addr} {F : Nat -> Prop} {v : Value} {lx : List S57} {E : List Ev} (hR : RelAt wx B' g lx r A2' q F) (hlx : lx = l.set i (relX now P x)) (ht : Turn wx wf (fun b => b = w.heap.size + 1)) (hE : (Kd.raw 4).R 67 wx w.heap.size (fun _ => True) v (E.map Ev.cells)) (hEE : E = relE now x) (hv : ∀ b, v.ownBlock = some b -> N <= b) (hF : ∀ b, (b = g \/ F b) -> w.heap.size + 1 < b /\ b < N) (hG : ∀ b, B'.G b -> B.G b \/ w.heap.size + 1 < b) (hG2 : ∀ b, B.G b -> B'.G b) (hGn : B'.n <= N) (hBw : B.n <= w.heap.size) (hb : Below w.heap.size w wx) (hN : w.heap.size + 1 < N) (hNx : N <= wx.heap.size) : RelW M now l q B i x P w (some ⟨g, 0, none⟩) A2' v wf := by
 subst hlx hEE;have hs := ht.size;refine ⟨⟨_, B', hR.rdf.keep ht (fun b e => ⟨fun h => by have := (hF b h).1; omega, fun h => ?_⟩), fun b h => (hG b h).imp (fun h => h) (fun h => by omega), hG2, by omega, fun b h => ⟨by have := (hF b h).1; omega, by have := (hF b h).2; omega, fun e => by have := hv b e; have := (hF b h).2; omega⟩, fun b e h => by have := hv b e; have := B'.lt b h; omega⟩, Kd.R_reok rfl (Kd.R_step (Kd.R_tight rfl hE) (fun b hb hlt => ht.block b hlt (fun e => by have := hv b hb.symm; omega))) (fun _ _ => trivial), Turn.below hb ht (fun b e => by omega) hb.size⟩;rcases hG b h with h | h
 ·have := B.lt b h; omega
 ·omega
theorem raw125 {w : World} {num : Int} {A : Option Addr} {n c : Nat} {a b : Int} : (Kd.raw 4).C (w.alloc (.cells #[.int .i64 num, .slice A n c, .int .i64 a, .int .i64 b] 125)) (some ⟨w.heap.size, 0, none⟩) 1 [[.int .i64 num, .slice A n c, .int .i64 a, .int .i64 b]] := by
 refine ⟨rfl, by simp, fun _ => ⟨_, rfl, fun j x hx => ?_⟩⟩;have hb := blk_new w (.cells #[.int .i64 num, .slice A n c, .int .i64 a, .int .i64 b] 125)
 cases j with
 | zero =>
  simp only [List.getElem?_cons_zero, Option.some.injEq] at hx;subst hx;refine ⟨_, rfl, ⟨rfl, rfl, fun u hu => by simp only [List.mem_cons, List.not_mem_nil, or_false] at hu; rcases hu with rfl | rfl | rfl | rfl <;> rfl⟩, fun i u hu => ?_⟩;rw [Nat.zero_mul, Nat.zero_add, addr_at, Nat.zero_add, blk_cell hb]
  match i, hu with
  | 0, h => exact h
  | 1, h => exact h
  | 2, h => exact h
  | 3, h => exact h
  | i + 4, h => simp at h
 | succ j => simp at hx
theorem rel_calls (M now : Int) (A : Option Addr) (l : List S57) (c : Nat) (A2 : Option Addr) (q : List S63) (c2 : Nat) (A3 : Option Addr) (c3 : Nat) (B : Bd) (i : Nat) (hi : i < l.length) (Ap : Option Addr) (cp : Nat) (P : List S72) (w : World) (hw : B.n <= w.heap.size) (hr : Rd w B A l A2 q) (hP : Kd.C k72 w Ap P.length P) (hk : RelOk now l q i hi) :
  Calls Tryz.prog 24 #[stV M now A l.length c A2 q.length c2 A3 c3, .int .i64 l[i].f0, .slice Ap P.length cp] w fun e w' => RelP M now l q B i l[i] P (stV M now A l.length c A2 q.length c2 A3 c3) w e w' := by
 have hl12 := hk.len;have hcbs := hk.cbs;have hn0 := hk.num0;have hn1 := hk.num1;have DA := fun wx (hb : Below w.heap.size w wx) => at_calls M now A c l (.slice A2 q.length c2) (.slice A3 0 c3) l[i].f0 wx (hr.below hb).reads hk.sorted (by omega) ⟨_, _, _, rfl⟩ ⟨_, _, _, rfl⟩
 have DM := fun wx (hb : Below w.heap.size w wx) => mosts_calls M now A l.length c A2 q c2 A3 c3 wx (Kd.C_below hr.lock hb) hk.qlen
 have DF := fun wx (hb : Below w.heap.size w wx) A' c' => fits_calls Ap cp P A' q.length c' wx (Kd.C_below hP hb)
 have DC := fun wx (hb : Below w.heap.size w wx) => clone_calls M now A l c A2 q c2 A3 c3 B wx (Nat.le_trans hw hb.size) (hr.below hb) (by omega) (by have := hk.qlen; omega) (fun i h => by have := hk.jobs i h; omega) hk.que
 have DJ := fun wx (hb : Below w.heap.size w wx) (hg : pgoodB P = true) => jnew_calls (l[i].f5 + 1) Ap cp P wx (Kd.C_below hP hb) hg (by omega)
 rw [ahead_at hk.sorted hi, isAt_at hi] at DA;obtain ⟨ad, J, cJ, rfl, hc57⟩ := cells57 hr.reads hi;have HJ8 := hZ (hk.jobs i hi);have HSO := hZ hk.sorted;have e6 := hc57.e6;have HNOW0 := hZ hk.now0;have HNOW1 := hZ hk.now1;have HLI : Hid (l[i] = l[i]) := hZ rfl;have HJ6 := hZ (hk.jobs i hi);unfold RelP;have HREL : Hid (relC q.length P l[i] = if fitsB q.length P = true then (if 8 <= l[i].f2.length then 3 else 0) else 1) := hZ rfl;have HFG : Hid (fitsB q.length P = true -> pgoodB P = true) := hZ (fun h => by unfold fitsB at h; simp only [Bool.and_eq_true] at h; exact h.1);generalize relC q.length P l[i] = code at *;generalize fitsB q.length P = fit at *;have i0 : (0 : Int) <= (i : Int) := by omega
 have i1 : (i : Int) < (l.length : Int) := by omega
 clear hc57 hr hP hk;unfold stV at *;have HB0 := hZ (below_alloc (below_alloc (Below.refl w.heap.size w) (.cells #[.int .i64 M, .int .i64 now, .slice (some ad) l.length c, .slice A2 q.length c2, .slice A3 0 c3] 47)) (.cells #[.int .i64 0, .int .i64 0, .slice none 0 0, .slice none 0 0, .slice none 0 0] 47));have h2 := two_blocks (w := w) (x := #[.int .i64 M, .int .i64 now, .slice (some ad) l.length c, .slice A2 q.length c2, .slice A3 0 c3]) (y := #[.int .i64 0, .int .i64 0, .slice none 0 0, .slice none 0 0, .slice none 0 0]) (tx := 47) (ty := 47) (Below.refl _ _);have HX0 := hZ h2.1;have HZ0 := hZ h2.2.1;clear h2;go_enter Tryz.func24, Tryz.ntmps24
 go_upto_region 4 with (go_at_call 32; (with_reducible refine (DA _ HB0.out).mono ?_); rintro e w1 ⟨rfl, hB1⟩; have HX1 := hZ (blk_below HX0.out hB1); have HZ1 := hZ (blk_below HZ0.out hB1); have HB1 := hZ (HB0.out.trans (hB1.mono HB0.out.size)); clear hB1)
 clear HX0 HZ0 HB0 DA;have x0 := (blk_cell HX1.out 0).trans rfl;have x1 := (blk_cell HX1.out 1).trans rfl;have x2 := (blk_cell HX1.out 2).trans rfl;have x3 := (blk_cell HX1.out 3).trans rfl;have x4 := (blk_cell HX1.out 4).trans rfl;have HP8 : Hid (∀ wx, Below w1.heap.size w1 wx -> wx.heap[w.heap.size]? = some (.cells #[.int .i64 M, .int .i64 now, .slice (some ad) l.length c, .slice A2 q.length c2, .slice A3 0 c3] 47 (0, 0)) /\ wx.heap[w.heap.size + 1]? = some (.cells #[.int .i64 0, .int .i64 0, .slice none 0 0, .slice none 0 0, .slice none 0 0] 47 (0, 0)) /\ Below w.heap.size w wx) := hZ (fun wx hb => ⟨blk_below HX1.out hb, blk_below HZ1.out hb, HB1.out.trans (hb.mono HB1.out.size)⟩)
 cases fit with
 | false =>
  go_wp2_with (first
   | (go_at_call 44; (with_reducible refine (DM _ HB1.out).mono ?_); rintro e w2 ⟨A5, c5, rfl, hB2⟩; have HB2 := hZ hB2; clear hB2)
   | (go_at_call 43; (with_reducible refine (DF _ (HP8.out _ HB2.out).2.2 _ _).mono ?_); rintro e w3 ⟨rfl, hB3⟩; obtain ⟨hx, hz, hb⟩ := HP8.out _ (HB2.out.trans (hB3.mono HB2.out.size)); have HZ3 := hZ hz; have HB3 := hZ hb; have y0 := (blk_cell hx 0).trans rfl; have y1 := (blk_cell hx 1).trans rfl; have y2 := (blk_cell hx 2).trans rfl; have y3 := (blk_cell hx 3).trans rfl; have y4 := (blk_cell hx 4).trans rfl; have z0 := (blk_cell hz 0).trans rfl; have z1 := (blk_cell hz 1).trans rfl; have z2 := (blk_cell hz 2).trans rfl; have z3 := (blk_cell hz 3).trans rfl; have z4 := (blk_cell hz 4).trans rfl; have f0 := blk_frozen hz 0; have f1 := blk_frozen hz 1; have f2 := blk_frozen hz 2; have f3 := blk_frozen hz 3; have f4 := blk_frozen hz 4; clear hB3 hx hz hb))
  obtain rfl : code = 1 := HREL.out;have hz9 := blk_put (cs' := #[.int .i64 M, .int .i64 now, .slice (some ad) l.length c, .slice A2 q.length c2, .slice A3 0 c3]) (blk_put (blk_put (blk_put (blk_put HZ3.out 0 (.int .i64 M) rfl) 1 (.int .i64 now) rfl) 2 (.slice (some ad) l.length c) rfl) 3 (.slice A2 q.length c2) rfl) 4 (.slice A3 0 c3) rfl;refine bodyPost_ret (results_ctt rfl _ _ (w.heap.size + 1) 47 #[.int .i64 M, .int .i64 now, .slice (some ad) l.length c, .slice A2 q.length c2, .slice A3 0 c3] (0, 0) _ rfl hz9 Tryz.underlying47 rfl (by kernel_rfl)) rfl ?_;exact ⟨fun _ => ⟨rfl, Turn.below HB3.out ((((((Turn.refl w3 (fun b => b = w.heap.size + 1)).set rfl 0 (.int .i64 M)).set rfl 1 (.int .i64 now)).set rfl 2 (.slice (some ad) l.length c)).set rfl 3 (.slice A2 q.length c2)).set rfl 4 (.slice A3 0 c3)) (fun b e => by omega) HB3.out.size⟩, fun h => absurd h (by decide)⟩
 | true =>
  by_cases h8 : 8 <= l[i].f2.length
  ·have g8 : decide ((l[i].f2.length : Int) >= 8) = true := by simp; omega
   go_wp2_with (first
    | (go_at_call 44; (with_reducible refine (DM _ HB1.out).mono ?_); rintro e w2 ⟨A5, c5, rfl, hB2⟩; have HB2 := hZ hB2; clear hB2)
    | (go_at_call 43; (with_reducible refine (DF _ (HP8.out _ HB2.out).2.2 _ _).mono ?_); rintro e w3 ⟨rfl, hB3⟩; obtain ⟨hx, hz, hb⟩ := HP8.out _ (HB2.out.trans (hB3.mono HB2.out.size)); have HX3 := hZ hx; have HZ3 := hZ hz; have HB3 := hZ hb; have y0 := (blk_cell hx 0).trans rfl; have y1 := (blk_cell hx 1).trans rfl; have y2 := (blk_cell hx 2).trans rfl; have y3 := (blk_cell hx 3).trans rfl; have y4 := (blk_cell hx 4).trans rfl; have z0 := (blk_cell hz 0).trans rfl; have z1 := (blk_cell hz 1).trans rfl; have z2 := (blk_cell hz 2).trans rfl; have z3 := (blk_cell hz 3).trans rfl; have z4 := (blk_cell hz 4).trans rfl; have f0 := blk_frozen hz 0; have f1 := blk_frozen hz 1; have f2 := blk_frozen hz 2; have f3 := blk_frozen hz 3; have f4 := blk_frozen hz 4; have e6 := (HB3.out.cell (World.block_lt_of_cell? _ _ e6)).trans e6; clear hB3 hx hz hb))
   obtain rfl : code = 3 := by have := HREL.out; simp only [if_true, if_pos h8] at this; exact this
   have hz9 := blk_put (cs' := #[.int .i64 M, .int .i64 now, .slice (some ad) l.length c, .slice A2 q.length c2, .slice A3 0 c3]) (blk_put (blk_put (blk_put (blk_put HZ3.out 0 (.int .i64 M) rfl) 1 (.int .i64 now) rfl) 2 (.slice (some ad) l.length c) rfl) 3 (.slice A2 q.length c2) rfl) 4 (.slice A3 0 c3) rfl;refine bodyPost_ret (results_ctt rfl _ _ (w.heap.size + 1) 47 #[.int .i64 M, .int .i64 now, .slice (some ad) l.length c, .slice A2 q.length c2, .slice A3 0 c3] (0, 0) _ rfl hz9 Tryz.underlying47 rfl (by kernel_rfl)) rfl ?_;exact ⟨fun _ => ⟨rfl, Turn.below HB3.out ((((((Turn.refl w3 (fun b => b = w.heap.size + 1)).set rfl 0 (.int .i64 M)).set rfl 1 (.int .i64 now)).set rfl 2 (.slice (some ad) l.length c)).set rfl 3 (.slice A2 q.length c2)).set rfl 4 (.slice A3 0 c3)) (fun b e => by omega) HB3.out.size⟩, fun h => absurd h (by decide)⟩
  ·have g8 : decide ((l[i].f2.length : Int) >= 8) = false := by simp; omega
   obtain rfl : code = 0 := by have := HREL.out; simp only [if_true, if_neg h8] at this; exact this
   have HEND : Hid (∀ (e : Ending) (w' : World), (∃ A' c' A2' c2' A4 c4 v, e = .returned (.tuple #[stV M now A' l.length c' A2' q.length c2' A4 c4, v, .int .i64 0]) /\ RelW M now l q B i l[i] P w A' A2' v w') -> (((0 : Int) ≠ 0 -> e = .returned (.tuple #[.agg #[.int .i64 M, .int .i64 now, .slice (some ad) l.length c, .slice A2 q.length c2, .slice A3 0 c3], .slice none 0 0, .int .i64 0]) /\ Below w.heap.size w w') /\ ((0 : Int) = 0 -> ∃ A' c' A2' c2' A4 c4 v, e = .returned (.tuple #[.agg #[.int .i64 M, .int .i64 now, .slice A' l.length c', .slice A2' q.length c2', .slice A4 0 c4], v, .int .i64 0]) /\ RelW M now l q B i l[i] P w A' A2' v w'))) := hZ (fun e w' h => ⟨fun h0 => absurd rfl h0, fun _ => h⟩)
   go_upto_region 9 with (first
    | (go_at_call 44; (with_reducible refine (DM _ HB1.out).mono ?_); rintro e w2 ⟨A5, c5, rfl, hB2⟩; have HB2 := hZ hB2; clear hB2)
    | (go_at_call 43; (with_reducible refine (DF _ (HP8.out _ HB2.out).2.2 _ _).mono ?_); rintro e w3 ⟨rfl, hB3⟩; obtain ⟨hx, hz, hb⟩ := HP8.out _ (HB2.out.trans (hB3.mono HB2.out.size)); have HX3 := hZ hx; have HZ3 := hZ hz; have HB3 := hZ hb; have y0 := (blk_cell hx 0).trans rfl; have y1 := (blk_cell hx 1).trans rfl; have y2 := (blk_cell hx 2).trans rfl; have y3 := (blk_cell hx 3).trans rfl; have y4 := (blk_cell hx 4).trans rfl; have z0 := (blk_cell hz 0).trans rfl; have z1 := (blk_cell hz 1).trans rfl; have z2 := (blk_cell hz 2).trans rfl; have z3 := (blk_cell hz 3).trans rfl; have z4 := (blk_cell hz 4).trans rfl; have f0 := blk_frozen hz 0; have f1 := blk_frozen hz 1; have f2 := blk_frozen hz 2; have f3 := blk_frozen hz 3; have f4 := blk_frozen hz 4; have e6 := (HB3.out.cell (World.block_lt_of_cell? _ _ e6)).trans e6; clear hB3 hx hz hb)
    | (go_at_call 25; (with_reducible refine (DC _ HB3.out).mono ?_); rintro e w4 ⟨o, A4, c4, rfl, hO4, _, hJ4, hown4, hB4⟩; have HO4 := hZ hO4; have HJ4 := hZ hJ4; have HW4 := hZ hown4; have HX4 := hZ (blk_below HX3.out hB4); have HZ4 := hZ (blk_below HZ3.out hB4); have HB4 := hZ (HB3.out.trans (hB4.mono HB3.out.size)); have HS34 := hZ hB4.size; clear hO4 hJ4 hown4 hB4))
   obtain ⟨g, hg, _⟩ := HO4.out.row (by intro e; rw [e] at hi; simp at hi);rw [hg];have HG := hZ hg;have HN5 := hZ (blk_new w4 (.cells #[.int .i64 M, .int .i64 now, .slice (some ⟨g, 0, none⟩) l.length o.c, .slice o.A2 q.length o.c2, .slice A4 0 c4] 47));have HB45 : Hid (Below w4.heap.size w4 (w4.alloc (.cells #[.int .i64 M, .int .i64 now, .slice (some ⟨g, 0, none⟩) l.length o.c, .slice o.A2 q.length o.c2, .slice A4 0 c4] 47))) := hZ (below_alloc (Below.refl _ _) _);generalize hw5 : World.alloc _ _ = w5 at *;have HO5 := hZ (HO4.out.below HB45.out);obtain ⟨rr, hR4, hp4⟩ := HJ4.out i hi;have HR5 := hZ (Kd.R_below hR4 HB45.out);have HP5 := hZ (hp4.below HB45.out);have hL4 : ∀ cc b, o.own cc = some b -> b < w4.heap.size := fun cc b h => (HO4.out.bnd cc b h).2
   have HL4 := hZ hL4;have hgo : o.own .g = some g := by show o.A.map _ = _; rw [hg]; rfl
   have hgl : w.heap.size + 1 < g := by have h1 := HW4.out .g g hgo; have h2 := blk_lt HZ3.out; omega
   have hg4 := hL4 .g g hgo;obtain ⟨hrow, hserv⟩ := HO5.out.cells hi hg;have r9 := hserv.e9;have f9 := hrow.free (i * 11 + 9);have x2' := (blk_cell HN5.out 2).trans rfl;have hw9 : IntKind.i64.wrap (l[i].f5 + 1) = l[i].f5 + 1 := by rw [i64_w]; unfold Go.RowKit.wrap64; omega
   have HROW := hZ hrow;have hX4 := HX4.out;have HX5 := hZ (blk_below HX4.out HB45.out);have HZ5 := hZ (blk_below HZ4.out HB45.out);have HB5 := hZ (HB4.out.trans (HB45.out.mono HB4.out.size));have hs45 := HB45.out.size;clear hw5 hg hrow hserv hR4 hp4 hL4 HJ4 HO4 hX4 HX4 HZ4 HB4
   go_upto_region 11 with fail
   have HRow6 := hZ (serv_set HROW.out (rows_at hi) (j := 9) (by omega) (.int .i64 (l[i].f5 + 1)));have HT6 := hZ ((Turn.refl w5 (fun b => b = g)).set rfl (i * 11 + 9) (.int .i64 (l[i].f5 + 1)));generalize hws : World.setCell _ _ _ = w6 at *;clear hws r9 f9 hw9 x2' HROW;have HO6 : Hid (Own w6 B (l.set i { l[i] with f5 := l[i].f5 + 1 }) q o) := hZ (HO5.out.serv0 hi { l[i] with f5 := l[i].f5 + 1 } rfl HG.out HT6.out HRow6.out)
   have HR6 : Hid ((Kd.raw 4).R 125 w6 B.n (fun b => o.own (.j i) = some b) (.slice (o.r i).1 l[i].f2.length (o.r i).2) (rowsOf jobRow l[i].f2 rr)) := hZ (Kd.R_reok rfl (Kd.R_step (Kd.R_tight rfl HR5.out) (fun b hb hlt => HT6.out.block b hlt (fun e => by
    have h1 := HR5.out.1 b hb.symm;subst e;have := HO5.out.apart _ _ _ h1 hgo
    cases this))) (fun b hb => HR5.out.1 b hb))
   obtain ⟨l6, hl6⟩ : ∃ l6, l6 = l.set i { l[i] with f5 := l[i].f5 + 1 } := ⟨_, rfl⟩;rw [<- hl6] at HO6;have HLEN : Hid (l6.length = l.length) := hZ (by rw [hl6]; simp);have HSET : Hid (∀ x : S57, l6.set i x = l.set i x) := hZ (fun x => by rw [hl6]; simp);have HAT6 : Hid (∀ h : i < l6.length, l6[i] = { l[i] with f5 := l[i].f5 + 1 }) := hZ (fun h => by subst hl6; simp);clear hl6;have hne1 := fun (k : Nat) (hk : k < w5.heap.size) (hn : k ≠ g) => HT6.out.block k hk hn
   have HX6 := hZ ((hne1 _ (blk_lt HX5.out) (by omega)).trans HX5.out);have HZ6 := hZ ((hne1 _ (blk_lt HZ5.out) (by omega)).trans HZ5.out);have HN6 := hZ ((hne1 _ (blk_lt HN5.out) (by omega)).trans HN5.out);have HB6 : Hid (Below w.heap.size w w6) := hZ (Turn.below HB5.out HT6.out (fun b e => by omega) (by have := blk_lt HZ5.out; omega));have HP6 : Hid (Progs w6 B l[i].f2 rr) := hZ (HP5.out.mv ⟨HT6.out.os, HT6.out.tape, HT6.out.output, HT6.out.size, fun b hb => HT6.out.block b (by have := HO5.out.old; omega) (fun e => by have := (HO5.out.bnd .g g hgo).1; omega)⟩);have hs6 : w4.heap.size < w6.heap.size := by have := blk_lt HN6.out; omega
   have hi6 : i < l6.length := by rw [HLEN.out]; exact hi
   obtain ⟨hrow, hserv⟩ := HO6.out.cells hi6 HG.out;have r9 := hserv.e9;rw [HAT6.out hi6] at r9;dsimp only at r9;have HROW6 := hZ hrow;have hpg := HFG.out trivial;have hnum : 1 <= l[i].f5 + 1 := by omega
   clear HRow6 HT6 HO5 HR5 HP5 HN5 HX5 HZ5 HB5 HB45 hne1 hrow hserv HFG HREL
   go_upto_region 12 with (go_at_call 45; (with_reducible refine (DJ _ HB6.out hpg).mono ?_); rintro e w7 ⟨Aj, cj, rfl, hcj, hCj, hgej, hB7⟩; have HCJ := hZ (And.intro hcj hCj); have HGJ := hZ hgej; have HB67 := hZ hB7; clear hcj hCj hgej hB7)
   have HJB := hZ (blk_new w7 (.cells #[.int .i64 (l[i].f5 + 1), .slice Aj P.length cj, .int .i64 0, .int .i64 0] 125));have HB68 : Hid (Below w6.heap.size w6 (w7.alloc (.cells #[.int .i64 (l[i].f5 + 1), .slice Aj P.length cj, .int .i64 0, .int .i64 0] 125))) := hZ (below_alloc HB67.out _);have HC8 : Hid (P.length <= cj /\ Kd.C k72 (w7.alloc (.cells #[.int .i64 (l[i].f5 + 1), .slice Aj P.length cj, .int .i64 0, .int .i64 0] 125)) Aj P.length P) := hZ ⟨HCJ.out.1, Kd.C_below HCJ.out.2 (below_alloc (Below.refl _ _) _)⟩;have hs78 : w7.heap.size < (w7.alloc (.cells #[.int .i64 (l[i].f5 + 1), .slice Aj P.length cj, .int .i64 0, .int .i64 0] 125)).heap.size := by simp
   generalize hw8 : World.alloc _ _ = w8 at *;have hs67 := HB67.out.size;have HO8 := hZ (HO6.out.below HB68.out);have HR8 := hZ (Kd.R_below HR6.out HB68.out);have HP8' := hZ (HP6.out.below HB68.out);have HX8 := hZ (blk_below HX6.out HB68.out);have HZ8 := hZ (blk_below HZ6.out HB68.out);have HN8 := hZ (blk_below HN6.out HB68.out);have HB8 := hZ (HB6.out.trans (HB68.out.mono HB6.out.size));have HROW8 := hZ (HROW6.out.below HB68.out);have r6 := (serv_at HROW8.out hi6).e6;rw [HAT6.out hi6] at r6;dsimp only at r6;have j0 := (blk_cell HJB.out 0).trans rfl;have j1 := (blk_cell HJB.out 1).trans rfl;have j2 := (blk_cell HJB.out 2).trans rfl;have j3 := (blk_cell HJB.out 3).trans rfl;clear hw8 HCJ HB67 HO6 HR6 HP6 HX6 HZ6 HN6 HROW6 r9 HB6;have hgj : (Value.slice (o.r i).1 l[i].f2.length (o.r i).2).ownBlock ≠ some g := fun e => by have := HO8.out.apart _ _ _ (HR8.out.1 g e) hgo; cases this
   have hrl : (rowsOf jobRow l[i].f2 rr).length = l[i].f2.length := rowsOf_len;have HRL := hZ hrl;have hl8 : l[i].f2.length < 8 := by omega
   have hBo := HO8.out.old;generalize hrows : rowsOf jobRow l[i].f2 rr = rows at *;have HRWS := hZ hrows;clear hrows hrl;refine start_ (n := 11) (S := fun w' => Hid (Below w8.heap.size w8 w')) (ds := [7, 10]) #[false, false, false, false, false, false, false, false, false, false, false] (by kernel_rfl) rfl rfl ((hZ (below_drew (Below.refl _ _)))) (fun hHeld => ?_);refine with_tabW relw.tab12 relw.bits12 (fun HT_ HW_ => ?_);have hbd : Hid (Below w8.heap.size w8 w8.drew) := hZ ⟨rfl, rfl, rfl, Nat.le_refl _, fun _ _ => rfl⟩;have hsd : w8.heap.size = w8.drew.heap.size := rfl;generalize hwd : w8.drew = wd at *;clear hwd;refine pst 0 (some 67) HT_ ?_;refine pst 1 (some 68) HT_ ?_;refine pst 2 (some 69) HT_ ?_;refine pst 3 (some 70) HT_ ?_;refine tst 4 (some 71) HT_ HW_ hHeld ?_ (hy := by (intro w' s0; have e0 := (s0.out.cell (World.block_lt_of_cell? _ _ r6)).trans r6; have e1 := (s0.out.cell (World.block_lt_of_cell? _ _ j0)).trans j0; have e2 := (s0.out.cell (World.block_lt_of_cell? _ _ j1)).trans j1; have e3 := (s0.out.cell (World.block_lt_of_cell? _ _ j2)).trans j2; have e4 := (s0.out.cell (World.block_lt_of_cell? _ _ j3)).trans j3); go_simp; with_reducible rfl);refine tst 5 (some 72) HT_ HW_ hHeld ?_ (hy := by (intro w' s0; have e0 := (s0.out.cell (World.block_lt_of_cell? _ _ r6)).trans r6; have e1 := (s0.out.cell (World.block_lt_of_cell? _ _ j0)).trans j0; have e2 := (s0.out.cell (World.block_lt_of_cell? _ _ j1)).trans j1; have e3 := (s0.out.cell (World.block_lt_of_cell? _ _ j2)).trans j2; have e4 := (s0.out.cell (World.block_lt_of_cell? _ _ j3)).trans j3); go_simp; with_reducible rfl);refine one_ (i := 6) (N := some 73) #[true, true, true, true, true, true, true, false, false, false, false] rfl rfl (one_of HT_.out (by kernel_rfl)) (by decide) (fun K hK => ?_);refine value_ (w1 := ?_) (v := ?_) (by rfl) rfl ?_ ?_;rotate_left 2
   ·go_simp;constructor
    ·rfl
    ·rfl
   refine hK.out _ _ ((hZ (hHeld.out.trans ((below_alloc (Below.refl _ _) _).mono hHeld.out.size)))) (fun hHeld => ?_);clear hK K;refine norm_ (a' := ?_) ?_ ?_;rotate_left
   ·show Act.put _ (some 73) _ = _;simp only [Act.put, List.setIfInBounds_toArray, List.set_cons_zero, List.set_cons_succ, i64_w, i32_w];rfl
   refine last_ (i := 7) (N := some 74) #[true, true, true, true, true, true, true, true, false, false, false] rfl rfl (one_of HT_.out (by kernel_rfl)) (by decide) (fun K hK => ?_);have hR9 : (Kd.raw 4).R 125 (wd.alloc (.cells #[.int .i64 (l[i].f5 + 1), .slice Aj P.length cj, .int .i64 0, .int .i64 0] 125)) B.n (fun _ => True) (.slice (o.r i).1 l[i].f2.length (o.r i).2) rows := Kd.R_reok rfl (Kd.R_alloc (Kd.R_below (Kd.R_tight rfl HR8.out) hbd.out) _) (fun _ _ => trivial);refine Kd.R_append_rows_step (Kd.raw 4) (Rr := (Kd.raw 4).K (wd.alloc (.cells #[.int .i64 (l[i].f5 + 1), .slice Aj P.length cj, .int .i64 0, .int .i64 0] 125))) (w0 := (wd.alloc (.cells #[.int .i64 (l[i].f5 + 1), .slice Aj P.length cj, .int .i64 0, .int .i64 0] 125))) B.n (by rfl) (.tmp 71) (.tmp 73) 55 125 (.agg #[.int .i64 0, .slice none 0 0, .int .i64 0, .int .i64 0]) 48 rfl Tryz.underlying55 info125 rfl (by decide) (by omega) (.slice (o.r i).1 l[i].f2.length (o.r i).2) rows [[.int .i64 (l[i].f5 + 1), .slice Aj P.length cj, .int .i64 0, .int .i64 0]] (some ⟨wd.heap.size, 0, none⟩) 1 1 (fun _ => True) (fun _ => False) (by rfl) (by rfl) hR9 raw125 (fun _ _ h => h) (fun _ h => h.elim) (fun _ _ => trivial) (Below.refl _ _) (by first | (simp only [World.size_alloc]; omega) | omega) (by rw [HRL.out]; first | omega | (simp only [List.length_cons, List.length_nil]; omega)) ?_;intro v7 w10 hR10 hB10 hg10 hat10;have HT10 := hZ (grown_turn hg10);have HAT10 := hZ hat10;have HR10 := hZ hR10;obtain ⟨A7, c7, e7⟩ := Kd.R_slice hR10;have hl7 : (rows ++ [([.int .i64 (l[i].f5 + 1), .slice Aj P.length cj, .int .i64 0, .int .i64 0] : List Value)]).length = l[i].f2.length + 1 := by rw [List.length_append, HRL.out]; rfl
   rw [hl7] at e7;subst e7;have HB89 := hZ (hHeld.out);clear hl7 hR9 hR10 hB10 hg10 hat10;refine hK.out _ _ ?_;clear hK K;refine norm_ (a' := ?_) ?_ ?_;rotate_left
   ·show Act.put _ (some 74) _ = _;simp only [Act.put, List.setIfInBounds_toArray, List.set_cons_zero, List.set_cons_succ, i64_w, i32_w];rfl
   refine pst 8 (some 75) HT_ ?_;refine pst 9 (some 76) HT_ ?_;refine last_ (i := 10) (N := none) #[true, true, true, true, true, true, true, true, true, true, true] rfl rfl (one_of HT_.out (by kernel_rfl)) (by decide) (fun K hK => ?_);have hd8 := HROW8.out.below hbd.out;have hr9 := (hd8.below (below_alloc (Below.refl _ _) (.cells #[.int .i64 (l[i].f5 + 1), .slice Aj P.length cj, .int .i64 0, .int .i64 0] 125))).turn HT10.out (fun e => hgj e.symm);have y6 := (serv_at hr9 hi6).e6;have y7 := hr9.free (i * 11 + 6);refine skip_ (w1 := ?_) (by rfl) rfl ?_ ?_;rotate_left
   ·go_simp;rfl
   have HROW11 := hZ (serv_set hr9 (rows_at hi6) (j := 6) (by omega) (.slice A7 (l[i].f2.length + 1) c7));have HT11 := hZ ((Turn.refl w10 (fun b => b = g)).set rfl (i * 11 + 6) (.slice A7 (l[i].f2.length + 1) c7));clear y6 y7 hr9 hd8;generalize hws : World.setCell _ _ _ = w11 at *;clear hws;refine hK.out _ _ ?_;clear hK K;refine done_ (done_of HT_.out (by kernel_rfl)) ?_;have hj9 : (wd.alloc (.cells #[.int .i64 (l[i].f5 + 1), .slice Aj P.length cj, .int .i64 0, .int .i64 0] 125)).heap.size = wd.heap.size + 1 := by simp
   have HB9 : Hid (Below w8.heap.size w8 (wd.alloc (.cells #[.int .i64 (l[i].f5 + 1), .slice Aj P.length cj, .int .i64 0, .int .i64 0] 125))) := HB89;generalize hw9 : World.alloc _ _ = w9 at *;clear hw9 hHeld HT_ HW_ r6 j0 j1 j2 j3 HB89;have HO9 := HO8.out.below HB9.out;have hgB := (HO9.bnd .g g hgo).1;have HJo : Hid (∀ b, (Value.slice (o.r i).1 l[i].f2.length (o.r i).2).ownBlock = some b -> o.own (.j i) = some b) := hZ (fun b e => HR8.out.1 b e);have HTT : Hid (Turn w9 w11 (fun b => b = g \/ o.own (.j i) = some b)) := hZ ((HT10.out.imp (fun b e => .inr (HJo.out b e.symm))).trans (HT11.out.imp (fun b e => .inl e)));have hg8 : g < w8.heap.size := (HO8.out.bnd .g g hgo).2
   have hng7 : (Value.slice A7 (l[i].f2.length + 1) c7).ownBlock ≠ some g := fun e => by
    rcases HAT10.out with h | ⟨b, h, hle⟩
    ·rw [h] at e; exact hgj e
    ·rw [h] at e; injection e with e; omega
   have HR11 : Hid ((Kd.raw 4).R 125 w11 B.n (fun _ => True) (.slice A7 (l[i].f2.length + 1) c7) (rows ++ [[.int .i64 (l[i].f5 + 1), .slice Aj P.length cj, .int .i64 0, .int .i64 0]])) := hZ (Kd.R_reok rfl (Kd.R_step (Kd.R_tight rfl HR10.out) (fun b hb hlt => HT11.out.block b hlt (fun e => by subst e; exact hng7 hb.symm))) (fun _ _ => trivial));obtain ⟨B', hBn, hBG⟩ : ∃ B' : Bd, B'.n = w9.heap.size /\ ∀ b, B'.G b ↔ (B.G b \/ (Aj.map (·.block) = some b /\ b < w9.heap.size)) := ⟨⟨w9.heap.size, fun b => B.G b \/ (Aj.map (·.block) = some b /\ b < w9.heap.size), fun b hb => hb.elim (fun h => by have := B.lt b h; omega) (fun h => h.2)⟩, rfl, fun _ => Iff.rfl⟩
   have hAj : ∀ b, Aj.map (·.block) = some b -> w6.heap.size <= b := fun b hb => by
    cases Aj with
    | none => simp at hb
    | some a => have := HGJ.out a rfl; simp at hb; omega
   have HREL11 : Hid (RelAt w11 B' g (l.set i { l[i] with f2 := l[i].f2 ++ [⟨l[i].f5 + 1, P, 0, 0⟩], f5 := l[i].f5 + 1 }) (upd o.r i (A7, c7)) o.A2 q (fun b => (∃ c, c ≠ .g /\ c ≠ .j i /\ o.own c = some b) \/ (Value.slice A7 (l[i].f2.length + 1) c7).ownBlock = some b)) := hZ (by
    have e6f : l6[i].f2 = l[i].f2 := by rw [HAT6.out hi6]
    obtain ⟨A8, c8, e8, hc8, _⟩ := Kd.R_reads HR11.out;injection e8 with e9 e10 e11
    have h := Own.rel (w := w9) (w' := w11) (B' := B') (N1 := w4.heap.size) (rr := rr) (A7 := A7) (c7 := c7) (base := B.n) HO9 hi6 HG.out HL4.out (fun b h => (hBG b).2 (.inl h)) (fun b h => ((hBG b).1 h).imp (fun h => h) (fun h => by have := hAj b h.1; omega)) (by omega) (by omega) ⟨l[i].f5 + 1, P, 0, 0⟩ (Aj, cj) ⟨HC8.out.1, fun W' hW => F72 (Kd.C_below HC8.out.2 HB9.out) W' (fun b hb hlt => hW b ((hBG b).2 (.inr ⟨hb, hlt⟩)) hlt)⟩ (by rw [e6f]; exact HP8'.out.below HB9.out) (by rw [e6f]; rw [List.length_append, HRL.out] at hc8; simp at hc8; omega) (by rw [e6f, HRWS.out]; exact HR11.out) (by
     rw [e6f];intro b hb;refine ⟨?_, Kd.R_lt HR11.out b hb⟩;rcases HAT10.out with h | ⟨b2, h, hle⟩
     ·exact .inl (HJo.out b (h ▸ hb))
     ·rw [h] at hb; injection hb with hb; exact .inr (by omega)) HTT.out { l[i] with f2 := l[i].f2 ++ [⟨l[i].f5 + 1, P, 0, 0⟩], f5 := l[i].f5 + 1 } (by rw [e6f]) (by
     have h := HROW11.out;rw [HAT6.out hi6] at h
     have e : servRow { l[i] with f2 := l[i].f2 ++ [(⟨l[i].f5 + 1, P, 0, 0⟩ : S125)], f5 := l[i].f5 + 1 } (A7, c7) = (servRow { l[i] with f5 := l[i].f5 + 1 } (o.r i)).set 6 (.slice A7 (l[i].f2.length + 1) c7) := by
      unfold servRow;simp
     rw [e];exact h) (by omega)
    rw [HSET.out, e6f] at h;exact h)
   have hs11 : ∀ b, (b = g \/ o.own (.j i) = some b) -> w3.heap.size <= b /\ b < w4.heap.size := fun b e => by
    have h : ∃ cc, o.own cc = some b := e.elim (fun e => ⟨.g, by rw [e]; exact hgo⟩) (fun e => ⟨_, e⟩);obtain ⟨cc, hc⟩ := h;exact ⟨HW4.out cc b hc, HL4.out cc b hc⟩
   have hz3 := blk_lt HZ3.out;have hz89 := HB9.out.size;have HX11 := hZ ((HTT.out.block _ (by omega) (fun e => by have := hs11 _ e; omega)).trans (blk_below HX8.out HB9.out));have HZ11 := hZ ((HTT.out.block _ (by omega) (fun e => by have := hs11 _ e; omega)).trans (blk_below HZ8.out HB9.out));have HN11 := hZ ((HTT.out.block _ (by omega) (fun e => by have := hs11 _ e; omega)).trans (blk_below HN8.out HB9.out));have HB11 : Hid (Below w.heap.size w w11) := hZ (Turn.below (HB8.out.trans (HB9.out.mono HB8.out.size)) HTT.out (fun b e => by have := hs11 b e; omega) (by omega));have HG11 : Hid (∀ b, B'.G b -> B.G b \/ w6.heap.size <= b) := hZ (fun b h => ((hBG b).1 h).imp (fun h => h) (fun h => hAj b h.1));have HG12 : Hid (∀ b, B.G b -> B'.G b) := hZ (fun b h => (hBG b).2 (.inl h))
   have HF11 : Hid (∀ b, (b = g \/ (∃ c, c ≠ .g /\ c ≠ .j i /\ o.own c = some b) \/ (Value.slice A7 (l[i].f2.length + 1) c7).ownBlock = some b) -> w.heap.size + 1 < b /\ b < w11.heap.size) := hZ (fun b e => by
    rcases e with e | e
    ·have := hs11 b (.inl e); have := HREL11.out.row.lt; omega
    ·refine ⟨?_, HREL11.out.lt.1 b e⟩;rcases e with ⟨cc, _, _, hc⟩ | e
     ·have := HW4.out cc b hc; omega
     ·rcases HAT10.out with h | ⟨b2, h, hle⟩
      ·have := hs11 b (.inr (HJo.out b (h ▸ e))); omega
      ·rw [h] at e; injection e with e; omega)
   obtain ⟨X, hX⟩ : ∃ X : S57, X = { l[i] with f2 := l[i].f2 ++ [⟨l[i].f5 + 1, P, 0, 0⟩], f5 := l[i].f5 + 1 } := ⟨_, rfl⟩;obtain ⟨l11, hl11⟩ : ∃ l11, l11 = l.set i X := ⟨_, rfl⟩;rw [<- hX, <- hl11] at HREL11;have hi11 : i < l11.length := by rw [hl11]; simpa using hi
   have HAT11 : Hid (l11[i] = X) := hZ (by subst hl11; simp);have HX0 : Hid (X = { l[i] with f2 := l[i].f2 ++ [⟨l[i].f5 + 1, P, 0, 0⟩], f5 := l[i].f5 + 1 }) := hZ hX;have HL11 : Hid (l11 = l.set i X) := hZ hl11;have h1l : w.heap.size <= w11.heap.size := HB11.out.size;clear hX hl11 hs11 HX8 HZ8 HN8 HB8 HB9 HTT HO9 hgB hg8 hng7 HR11 hBG hAj HR10 HAT10 HT10 HT11 HROW11 HROW8 HR8 HP8' HO8 HC8 HRL HRWS HGJ hgj HJB HSET HAT6 HLEN hbd hsd HJo hBo;obtain ⟨r0, r1, r2, r3, r4, r5, r6, r7, r8, r9, r10⟩ := serv_at HREL11.out.row hi11;rw [HAT11.out] at r0 r1 r2 r3 r4 r5 r6 r7 r8 r9 r10;have hX1 : X.f1 = l[i].f1 := by rw [HX0.out]
   have hX5 : X.f5 = l[i].f5 + 1 := by rw [HX0.out]
   have hX0 : X.f0 = l[i].f0 := by rw [HX0.out]
   rw [hX5] at r9;rw [hX0] at r0
   go_upto_region 13 with fail
   refine start_ (n := 9) (S := fun w' => Hid (Below w11.heap.size w11 w')) (ds := []) #[false, false, false, false, false, false, false, false, false] (by kernel_rfl) rfl rfl ((hZ (below_drew (Below.refl _ _)))) (fun hHeld => ?_);refine with_tabW relw.tab13 relw.bits13 (fun HT_ HW_ => ?_);have hbd : Hid (Below w11.heap.size w11 w11.drew) := hZ ⟨rfl, rfl, rfl, Nat.le_refl _, fun _ _ => rfl⟩;have hsd : w11.heap.size = w11.drew.heap.size := rfl;generalize hwd : w11.drew = wd at *;clear hwd;refine pst 1 (some 78) HT_ ?_;refine pst 2 (some 79) HT_ ?_;refine pst 3 (some 80) HT_ ?_;refine pst 4 (some 81) HT_ ?_;refine tst 0 (some 77) HT_ HW_ hHeld ?_ (hy := by (intro w' s0; have y0 := (blk_cell (blk_below HX11.out s0.out) 0).trans rfl; have y1 := (blk_cell (blk_below HX11.out s0.out) 1).trans rfl; have y2 := (blk_cell (blk_below HX11.out s0.out) 2).trans rfl; have y3 := (blk_cell (blk_below HX11.out s0.out) 3).trans rfl; have y4 := (blk_cell (blk_below HX11.out s0.out) 4).trans rfl; have e9 := (s0.out.cell (World.block_lt_of_cell? _ _ r9)).trans r9); go_simp; with_reducible rfl);refine tst 5 (some 82) HT_ HW_ hHeld ?_ (hy := by (intro w' s0; have y0 := (blk_cell (blk_below HX11.out s0.out) 0).trans rfl; have y1 := (blk_cell (blk_below HX11.out s0.out) 1).trans rfl; have y2 := (blk_cell (blk_below HX11.out s0.out) 2).trans rfl; have y3 := (blk_cell (blk_below HX11.out s0.out) 3).trans rfl; have y4 := (blk_cell (blk_below HX11.out s0.out) 4).trans rfl; have e9 := (s0.out.cell (World.block_lt_of_cell? _ _ r9)).trans r9); go_simp; with_reducible rfl);refine one_ (i := 6) (N := some 83) #[true, true, true, true, true, true, true, false, false] rfl rfl (one_of HT_.out (by kernel_rfl)) (by decide) (fun K hK => ?_);refine goes_ Tryz.func28 (by kernel_rfl) rfl #[stV M now (some ad) l.length c A2 q.length c2 A3 c3, .int .i64 1, .int .i64 l[i].f0, .int .i64 (l[i].f5 + 1)] (by rfl) rfl rfl (by simp only [List.map_toArray, List.map_cons, List.map_nil]; rfl) ?_;with_reducible refine (event_calls M now (some ad) l.length c A2 q.length c2 A3 c3 1 l[i].f0 (l[i].f5 + 1) _).mono ?_;rintro e w12 ⟨rfl, hB12⟩;refine ⟨_, rfl, ?_⟩;refine hK.out _ _ ((hZ (hHeld.out.trans (hB12.mono hHeld.out.size)))) (fun hHeld => ?_);clear hK K;refine norm_ (a' := ?_) ?_ ?_;rotate_left
   ·show Act.put _ (some 83) _ = _;simp only [Act.put, List.setIfInBounds_toArray, List.set_cons_zero, List.set_cons_succ, i64_w, i32_w];rfl
   refine one_ (i := 7) (N := some 84) #[true, true, true, true, true, true, true, true, false] rfl rfl (one_of HT_.out (by kernel_rfl)) (by decide) (fun K hK => ?_);refine Kd.R_lit_step (Kd.raw 4) (w0 := w12) w12.heap.size 67 (by rfl) (N := 84) rfl (xs := [[.int .i64 now, .int .i64 1, .int .i64 l[i].f0, .int .i64 (l[i].f5 + 1)]]) (inner := [.int .i64 now, .int .i64 1, .int .i64 l[i].f0, .int .i64 (l[i].f5 + 1)]) (ok := fun _ => True) (okp := fun _ => False) ?hr ?hp (fun _ h => h.elim) trivial (Below.refl _ _) (Nat.le_refl _) (by simp) ?_
   (case hr => first | (go_simp; done) | (go_simp; rfl))
   (case hp => exact reps_one)
   intro vL w13 hR13 hB13 _ _;obtain ⟨AL, cL, eL, hcL, hCL⟩ := Kd.R_reads hR13;subst eL;have HR13 := hZ (And.intro hR13 hHeld.out.size);refine hK.out _ _ ((hZ (hHeld.out.trans (hB13.mono hHeld.out.size)))) (fun hHeld => ?_);clear hK K;refine norm_ (a' := ?_) ?_ ?_;rotate_left
   ·show Act.put _ (some 84) _ = _;simp only [Act.put, List.setIfInBounds_toArray, List.set_cons_zero, List.set_cons_succ, i64_w, i32_w];rfl
   refine pst 8 (some 15) HT_ ?_;refine done_ (done_of HT_.out (by kernel_rfl)) ?_;have hs12 := HR13.out.2;have HVE : Hid (∀ b, (Value.slice AL 1 cL).ownBlock = some b -> w11.heap.size <= b) := hZ (fun b e => by have := Kd.R_base HR13.out.1 b e; omega);have HRE : Hid ((Kd.raw 4).R 67 w13 w.heap.size (fun _ => True) (.slice AL 1 cL) (([⟨now, 1, l[i].f0, l[i].f5 + 1⟩] : List Ev).map Ev.cells)) := hZ (Kd.R_lower HR13.out.1 (by omega));have HB13 := hZ (HB11.out.trans (hHeld.out.mono HB11.out.size));have HB1113 := hHeld;have HREL13 := hZ (HREL11.out.keep hHeld.out);have HX13 := hZ (blk_below HX11.out hHeld.out);have HZ13 := hZ (blk_below HZ11.out hHeld.out);have HN13 := hZ (blk_below HN11.out hHeld.out);have hs13 : w11.heap.size <= w13.heap.size := hHeld.out.size;clear hHeld HR13 hB13 hB12 hCL hcL hR13 r0 r1 r2 r3 r4 r5 r6 r7 r8 r9 r10 hbd hsd HT_ HW_;simp only [List.length_cons, List.length_nil, Nat.zero_add];obtain ⟨r0, r1, r2, r3, r4, r5, r6, r7, r8, r9, r10⟩ := serv_at HREL13.out.row hi11;rw [HAT11.out] at r0 r1 r2 r3 r4 r5 r6 r7 r8 r9 r10;rw [upd_self] at r6;have DI := fun wx => sidle_calls X.f0 X.f1.f0 X.f1.f1 X.f1.f2 X.f1.f3 X.f1.f4 (.slice A7 X.f2.length c7) X.f3 X.f4 X.f5 X.f6 wx ⟨_, _, _, rfl⟩
   rw [hX0, hX1, hX5] at DI;rw [hX1] at r1 r2 r3 r4 r5;have HBG : Hid (∀ b, B'.G b -> B.G b \/ w.heap.size + 1 < b) := hZ (fun b h => (HG11.out b h).imp (fun h => h) (fun h => by omega));have hN11 : w.heap.size + 1 < w11.heap.size := blk_lt HZ11.out;have hBn11 : B'.n <= w11.heap.size := HREL11.out.lt.2;by_cases hm : l[i].f1.f4 = 0
   ·have gm : (l[i].f1.f4 == 0) = true := by simpa using hm
    have DW := fun wx => wake_calls l[i].f1 now wx hcbs hm HNOW0.out HNOW1.out
    have HXR : Hid (relX now P l[i] = { X with f1 := wakeS l[i].f1 now }) := hZ (by unfold relX; rw [if_pos hm, HX0.out]);have HXE : Hid (([⟨now, 1, l[i].f0, l[i].f5 + 1⟩] : List Ev) ++ [⟨now, 9, l[i].f0, 0⟩] = relE now l[i]) := hZ (by unfold relE; rw [if_pos hm]; rfl);generalize wakeS l[i].f1 now = u at *;unfold agg54 at DW;clear hm
    go_upto_if 88 with (go_at_call 26; (with_reducible refine (DI _).mono ?_); rintro e w14 ⟨rfl, hB14⟩; have HB14 := hZ hB14; clear hB14)
    go_upto_region 15 with fail
    obtain ⟨s1, s2, s3, s4, s5⟩ := at54 (HREL13.out.keep HB14.out).row hi11;rw [HAT11.out, hX1] at s1 s2 s3 s4 s5;have HX14 := hZ (blk_below HX13.out HB14.out);have hs14 : w11.heap.size <= w14.heap.size := by have := HB14.out.size; omega
    refine start_ (n := 13) (S := fun w' => Hid (Below w14.heap.size w14 w')) (ds := [11]) #[false, false, false, false, false, false, false, false, false, false, false, false, false] (by kernel_rfl) rfl rfl ((hZ (below_drew (Below.refl _ _)))) (fun hHeld => ?_);refine with_tabW relw.tab15 relw.bits15 (fun HT_ HW_ => ?_);have hbd : Hid (Below w14.heap.size w14 w14.drew) := hZ ⟨rfl, rfl, rfl, Nat.le_refl _, fun _ _ => rfl⟩;have hsd : w14.heap.size = w14.drew.heap.size := rfl;generalize hwd : w14.drew = wd at *;clear hwd;refine pst 0 (some 90) HT_ ?_;refine pst 1 (some 91) HT_ ?_;refine pst 2 (some 92) HT_ ?_;refine pst 4 (some 94) HT_ ?_;refine tst 3 (some 93) HT_ HW_ hHeld ?_ (hy := by (intro w' s0; have y1 := (blk_cell (blk_below HX14.out s0.out) 1).trans rfl; have e1 := (s0.out.cell (World.block_lt_of_cell? _ _ s1)).trans s1; have e2 := (s0.out.cell (World.block_lt_of_cell? _ _ s2)).trans s2; have e3 := (s0.out.cell (World.block_lt_of_cell? _ _ s3)).trans s3; have e4 := (s0.out.cell (World.block_lt_of_cell? _ _ s4)).trans s4; have e5 := (s0.out.cell (World.block_lt_of_cell? _ _ s5)).trans s5); go_simp; with_reducible rfl);refine tst 5 (some 95) HT_ HW_ hHeld ?_ (hy := by (intro w' s0; have y1 := (blk_cell (blk_below HX14.out s0.out) 1).trans rfl; have e1 := (s0.out.cell (World.block_lt_of_cell? _ _ s1)).trans s1; have e2 := (s0.out.cell (World.block_lt_of_cell? _ _ s2)).trans s2; have e3 := (s0.out.cell (World.block_lt_of_cell? _ _ s3)).trans s3; have e4 := (s0.out.cell (World.block_lt_of_cell? _ _ s4)).trans s4; have e5 := (s0.out.cell (World.block_lt_of_cell? _ _ s5)).trans s5); go_simp; with_reducible rfl);refine join_ (σ := Nat) 2 #[true, true, true, true, true, true, true, true, true, true, true, false, false] (fun s => [(96, .tuple #[.agg #[.int .i64 u.f0, .int .i64 u.f1, .int .i64 u.f2, .int .i64 u.f3, .int .i64 u.f4], .int .i64 0]), (89, .tuple #[.agg #[.int .i64 u.f0, .int .i64 u.f1, .int .i64 u.f2, .int .i64 u.f3, .int .i64 u.f4], .int .i64 0]), (97, .agg #[.int .i64 u.f0, .int .i64 u.f1, .int .i64 u.f2, .int .i64 u.f3, .int .i64 u.f4]), (98, .int .i64 0), (16, .pointer (some ⟨s, 0, none⟩))]) (fun s w' => Hid (w'.heap[s]? = some (.cells #[.int .i64 0, .int .i64 0, .int .i64 0, .int .i64 0, .int .i64 0] 54 (0, 0))) /\ Hid (Below w14.heap.size w14 w') /\ Hid (w14.heap.size <= s)) ?_ ?_;rotate_left
    ·intro hCont;refine two_ (i := 6) (j := 10) (Ni := some 96) (Nj := some 16) #[true, true, true, true, true, true, true, false, false, false, false, false, false] #[true, true, true, true, true, true, false, false, false, false, true, false, false] rfl rfl rfl rfl (two_of HT_.out (by kernel_rfl)) (by decide) (by decide) (fun K hK => ?_) (fun K hK => ?_)
     ·skip
      refine goes_ Tryz.func46 (by kernel_rfl) rfl #[.agg #[.int .i64 l[i].f1.f0, .int .i64 l[i].f1.f1, .int .i64 l[i].f1.f2, .int .i64 l[i].f1.f3, .int .i64 l[i].f1.f4], .int .i64 now] (by rfl) rfl rfl (by simp only [List.map_toArray, List.map_cons, List.map_nil]; rfl) ?_;with_reducible refine (DW _).mono ?_;rintro e w15 ⟨rfl, hB15⟩;refine ⟨_, rfl, ?_⟩;refine hK.out _ _ ((hZ (hHeld.out.trans (hB15.mono hHeld.out.size)))) (fun hHeld => ?_);clear hK K;refine norm_ (a' := ?_) ?_ ?_;rotate_left
      ·show Act.put _ (some 96) _ = _;simp only [Act.put, List.setIfInBounds_toArray, List.set_cons_zero, List.set_cons_succ, i64_w, i32_w];rfl
      refine pst 7 (some 89) HT_ ?_;refine pst 8 (some 97) HT_ ?_;refine pst 9 (some 98) HT_ ?_;refine one_ (i := 10) (N := some 16) #[true, true, true, true, true, true, true, true, true, true, true, false, false] rfl rfl (one_of HT_.out (by kernel_rfl)) (by decide) (fun K hK => ?_);refine value_ (w1 := ?_) (v := ?_) (by rfl) rfl ?_ ?_;rotate_left 2
      ·go_simp;constructor
       ·rfl
       ·rfl
      refine hK.out _ _ ((hZ (hHeld.out.trans ((below_alloc (Below.refl _ _) _).mono hHeld.out.size)))) (fun hHeld => ?_);clear hK K;refine norm_ (a' := ?_) ?_ ?_;rotate_left
      ·show Act.put _ (some 16) _ = _;simp only [Act.put, List.setIfInBounds_toArray, List.set_cons_zero, List.set_cons_succ, i64_w, i32_w];rfl
      exact norm_ (by simp only [putAll, Act.put, List.setIfInBounds_toArray, List.set_cons_zero, List.set_cons_succ]) (hCont w15.heap.size _ ⟨hZ (blk_new w15 _), hHeld, hZ (by have := hB15.size; omega)⟩)
     ·skip
      refine value_ (w1 := ?_) (v := ?_) (by rfl) rfl ?_ ?_;rotate_left 2
      ·go_simp;constructor
       ·rfl
       ·rfl
      refine hK.out _ _ ((hZ (hHeld.out.trans ((below_alloc (Below.refl _ _) _).mono hHeld.out.size)))) (fun hHeld => ?_);clear hK K;refine norm_ (a' := ?_) ?_ ?_;rotate_left
      ·show Act.put _ (some 16) _ = _;simp only [Act.put, List.setIfInBounds_toArray, List.set_cons_zero, List.set_cons_succ, i64_w, i32_w];rfl
      refine one_ (i := 6) (N := some 96) #[true, true, true, true, true, true, true, false, false, false, true, false, false] rfl rfl (one_of HT_.out (by kernel_rfl)) (by decide) (fun K hK => ?_);refine goes_ Tryz.func46 (by kernel_rfl) rfl #[.agg #[.int .i64 l[i].f1.f0, .int .i64 l[i].f1.f1, .int .i64 l[i].f1.f2, .int .i64 l[i].f1.f3, .int .i64 l[i].f1.f4], .int .i64 now] (by rfl) rfl rfl (by simp only [List.map_toArray, List.map_cons, List.map_nil]; rfl) ?_;with_reducible refine (DW _).mono ?_;rintro e w15 ⟨rfl, hB15⟩;refine ⟨_, rfl, ?_⟩;refine hK.out _ _ ((hZ (hHeld.out.trans (hB15.mono hHeld.out.size)))) (fun hHeld => ?_);clear hK K;refine norm_ (a' := ?_) ?_ ?_;rotate_left
      ·show Act.put _ (some 96) _ = _;simp only [Act.put, List.setIfInBounds_toArray, List.set_cons_zero, List.set_cons_succ, i64_w, i32_w];rfl
      refine pst 7 (some 89) HT_ ?_;refine pst 8 (some 97) HT_ ?_;refine pst 9 (some 98) HT_ ?_;exact norm_ (by simp only [putAll, Act.put, List.setIfInBounds_toArray, List.set_cons_zero, List.set_cons_succ]) (hCont wd.heap.size _ ⟨hZ (blk_below (blk_new wd _) hB15), hHeld, hZ (by omega)⟩)
    rintro sb w16 ⟨hA6, hB6, hS6⟩;have hHeld : Hid (Below w14.heap.size w14 w16) := hB6;refine norm_ (a' := ?_) ?_ ?_;rotate_left
    ·simp only [putAll, Act.put, List.setIfInBounds_toArray, List.set_cons_zero, List.set_cons_succ];rfl
    refine last_ (i := 11) (N := none) #[true, true, true, true, true, true, true, true, true, true, true, true, false] rfl rfl (one_of HT_.out (by kernel_rfl)) (by decide) (fun K hK => ?_);have z0 := (blk_cell hA6.out 0).trans rfl;have f0 := blk_frozen hA6.out 0;have z1 := (blk_cell hA6.out 1).trans rfl;have f1 := blk_frozen hA6.out 1;have z2 := (blk_cell hA6.out 2).trans rfl;have f2 := blk_frozen hA6.out 2;have z3 := (blk_cell hA6.out 3).trans rfl;have f3 := blk_frozen hA6.out 3;have z4 := (blk_cell hA6.out 4).trans rfl;have f4 := blk_frozen hA6.out 4;refine skip_ (w1 := ?_) (by rfl) rfl ?_ ?_;rotate_left
    ·go_simp;rfl
    have HS17 := hZ (blk_put (cs' := #[.int .i64 u.f0, .int .i64 u.f1, .int .i64 u.f2, .int .i64 u.f3, .int .i64 u.f4]) (blk_put (blk_put (blk_put (blk_put hA6.out 0 (.int .i64 u.f0) rfl) 1 (.int .i64 u.f1) rfl) 2 (.int .i64 u.f2) rfl) 3 (.int .i64 u.f3) rfl) 4 (.int .i64 u.f4) rfl);have HT17 := hZ ((((((Turn.refl w16 (fun b => b = sb)).set rfl 0 (.int .i64 u.f0)).set rfl 1 (.int .i64 u.f1)).set rfl 2 (.int .i64 u.f2)).set rfl 3 (.int .i64 u.f3)).set rfl 4 (.int .i64 u.f4));clear z0 f0 z1 f1 z2 f2 z3 f3 z4 f4;generalize hws : World.setCell _ _ _ = w17 at *;clear hws;refine hK.out _ _ ?_;clear hK K;refine pst 12 (some 17) HT_ ?_;refine done_ (done_of HT_.out (by kernel_rfl)) ?_;have HB17 : Hid (Below w14.heap.size w14 w17) := hZ (Turn.below hB6.out HT17.out (fun b e => by have := hS6.out; omega) hB6.out.size);have HREL17 := hZ ((HREL13.out.keep HB14.out).keep HB17.out);have HX17 := hZ (blk_below HX14.out HB17.out);have HZ17 := hZ (blk_below (blk_below HZ13.out HB14.out) HB17.out);have HN17 := hZ (blk_below (blk_below HN13.out HB14.out) HB17.out);have HR17 := hZ (Kd.R_below (Kd.R_below HRE.out HB14.out) HB17.out);have HBW17 := hZ ((HB13.out.trans (HB14.out.mono HB13.out.size)).trans (HB17.out.mono (HB13.out.trans (HB14.out.mono HB13.out.size)).size));have hs17 : w11.heap.size <= w17.heap.size := by have := HB17.out.size; omega
    clear s1 s2 s3 s4 s5 hB6 HT17 HX14 hHeld HREL13 HX13 HZ13 HN13 HRE hS6 r0 r1 r2 r3 r4 r5 r6 r7 r8 r9 r10 HB17 HB14 HT_ HW_ hbd hsd;obtain ⟨s1, s2, s3, s4, s5⟩ := at54 HREL17.out.row hi11;have hfz := HREL17.out.row.free;have t0 := (blk_cell HS17.out 0).trans rfl;have t1 := (blk_cell HS17.out 1).trans rfl;have t2 := (blk_cell HS17.out 2).trans rfl;have t3 := (blk_cell HS17.out 3).trans rfl;have t4 := (blk_cell HS17.out 4).trans rfl
    go_upto_region 19 with fail
    have HRow18 := hZ (serv_set54 HREL17.out.row hi11 u);have HT18 := hZ (turn_set54 (Turn.refl w17 (fun b => b = g)) rfl (i * 11 + 1) (.int .i64 u.f0) (.int .i64 u.f1) (.int .i64 u.f2) (.int .i64 u.f3) (.int .i64 u.f4));generalize hws : World.setCell _ _ _ = w18 at *;clear hws s1 s2 s3 s4 s5 hfz t0 t1 t2 t3 t4;have HREL18 := hZ (HREL17.out.serv hi11 { l11[i] with f1 := u } rfl HT18.out HRow18.out);have hgF := HF11.out g (.inl rfl);have hgne : ∀ b, b <= w.heap.size + 1 -> b ≠ g := fun b h e => by omega
    have h34 : w4.heap.size < w11.heap.size := blk_lt HN11.out;have hg4' : w4.heap.size ≠ g := by omega
    have HX18 := hZ ((HT18.out.block _ (blk_lt HX17.out) (hgne _ (by omega))).trans HX17.out);have HZ18 := hZ ((HT18.out.block _ (blk_lt HZ17.out) (hgne _ (by omega))).trans HZ17.out);have HN18 := hZ ((HT18.out.block _ (blk_lt HN17.out) hg4').trans HN17.out);have HR18 : Hid ((Kd.raw 4).R 67 w18 w.heap.size (fun _ => True) (.slice AL 1 cL) (([⟨now, 1, l[i].f0, l[i].f5 + 1⟩] : List Ev).map Ev.cells)) := hZ (Kd.R_reok rfl (Kd.R_step (Kd.R_tight rfl HR17.out) (fun b hb hlt => HT18.out.block b hlt (fun e => by have := HVE.out b hb.symm; omega))) (fun _ _ => trivial));have HBW18 : Hid (Below w.heap.size w w18) := hZ (Turn.below HBW17.out HT18.out (fun b e => by omega) HBW17.out.size);have hs18 : w11.heap.size <= w18.heap.size := by have := HT18.out.size; omega
    clear HRow18 HT18 HREL17 HX17 HZ17 HN17 HR17 HBW17 hs17 HS17;have y0 := (blk_cell HX18.out 0).trans rfl;have y1 := (blk_cell HX18.out 1).trans rfl;have y2 := (blk_cell HX18.out 2).trans rfl;have y3 := (blk_cell HX18.out 3).trans rfl;have y4 := (blk_cell HX18.out 4).trans rfl;have DE := fun wx => event_calls M now (some ad) l.length c A2 q.length c2 A3 c3 9 l[i].f0 0 wx
    unfold stV evV at DE;have hxl : (([⟨now, 1, l[i].f0, l[i].f5 + 1⟩] : List Ev).map Ev.cells).length = 1 := rfl;have HXL := hZ hxl;clear hxl;generalize hxs : (([⟨now, 1, l[i].f0, l[i].f5 + 1⟩] : List Ev).map Ev.cells) = xs at *;have HXS := hZ hxs;clear hxs
    go_wp2_with (first
     | (go_at_call 28; ((with_reducible refine (DE _).mono ?_); rintro e w19 ⟨rfl, hB19⟩; have HB19 := hZ hB19; have HR19 := hZ (Kd.R_below HR18.out hB19); have HN19 := hZ (blk_below HN18.out hB19); have HZ19 := hZ (blk_below HZ18.out hB19); have hs19 : w.heap.size <= w19.heap.size := (by have := hB19.size; omega); clear hB19))
     | ((with_reducible refine gate_builtin (b := .append) (xs := #[.tmp 107, .tmp 111]) rfl ?_); at_builtin; refine Kd.R_append (Kd.raw 4) (w0 := w19) w.heap.size rfl (.tmp 107) (.tmp 111) 48 67 (.agg #[.int .i64 0, .int .i64 0, .int .i64 0, .int .i64 0]) 32 rfl Tryz.underlying48 info67 rfl (by decide) (by omega) _ xs [.int .i64 now, .int .i64 9, .int .i64 l[i].f0, .int .i64 0] [.int .i64 now, .int .i64 9, .int .i64 l[i].f0, .int .i64 0] (fun _ => True) (fun _ => False) rfl (by first | (go_simp; done) | (go_simp; rfl)) ?aP (fun _ hk => hk.elim) ?aF ?aO ?aB ?aS ?aL ?_; (case aP => exact ⟨rfl, rfl, fun u hu => by simp only [List.mem_cons, List.not_mem_nil, or_false] at hu; rcases hu with rfl | rfl | rfl | rfl <;> rfl⟩); (case aF => exact (fun _ _ => trivial)); (case aO => exact HR19.out); (case aB => exact Below.refl _ _); (case aS => exact hs19); (case aL => (rw [HXL.out]; omega)); intro v20 w20 hR20 hB20 hg20 hat20; have HR20 := hZ hR20; have HT20 := hZ (grown_turn hg20); have HAT20 := hZ hat20; have hn := hZ ((HT20.out.block _ (by have := blk_lt HN19.out; omega) (fun e => by have := HVE.out _ e.symm; omega)).trans HN19.out); have hz := hZ ((HT20.out.block _ (by have := blk_lt HZ19.out; omega) (fun e => by have := HVE.out _ e.symm; omega)).trans HZ19.out); have HZ20 := hz; have y0 := (blk_cell hn.out 0).trans rfl; have y1 := (blk_cell hn.out 1).trans rfl; have y2 := (blk_cell hn.out 2).trans rfl; have y3 := (blk_cell hn.out 3).trans rfl; have y4 := (blk_cell hn.out 4).trans rfl; have z0 := (blk_cell hz.out 0).trans rfl; have z1 := (blk_cell hz.out 1).trans rfl; have z2 := (blk_cell hz.out 2).trans rfl; have z3 := (blk_cell hz.out 3).trans rfl; have z4 := (blk_cell hz.out 4).trans rfl; have f0 := blk_frozen hz.out 0; have f1 := blk_frozen hz.out 1; have f2 := blk_frozen hz.out 2; have f3 := blk_frozen hz.out 3; have f4 := blk_frozen hz.out 4; clear hR20 hB20 hg20 hat20))
    refine bodyPost_ret (results_ctt rfl _ _ (w.heap.size + 1) 47 #[.int .i64 M, .int .i64 now, .slice (some ⟨g, 0, none⟩) l.length o.c, .slice o.A2 q.length o.c2, .slice A4 0 c4] (0, 0) _ rfl (blk_put (cs' := #[.int .i64 M, .int .i64 now, .slice (some ⟨g, 0, none⟩) l.length o.c, .slice o.A2 q.length o.c2, .slice A4 0 c4]) (blk_put (blk_put (blk_put (blk_put HZ20.out 0 (.int .i64 M) rfl) 1 (.int .i64 now) rfl) 2 (.slice (some ⟨g, 0, none⟩) l.length o.c) rfl) 3 (.slice o.A2 q.length o.c2) rfl) 4 (.slice A4 0 c4) rfl) Tryz.underlying47 rfl (by kernel_rfl)) rfl ?_;refine ⟨some ⟨g, 0, none⟩, o.c, o.A2, o.c2, A4, c4, _, rfl, ?_⟩
    have hv20 : ∀ b, v20.ownBlock = some b -> w11.heap.size <= b := fun b hb => by
     rcases HAT20.out with h | ⟨b2, h, hle⟩
     ·exact HVE.out b (h ▸ hb)
     ·rw [h] at hb; injection hb with hb; have := HB19.out.size; omega
    have hl19 : w18.heap.size <= w19.heap.size := HB19.out.size;have hl20 := HT20.out.size;exact RelW.fin (N := w11.heap.size) (E := ([⟨now, 1, l[i].f0, l[i].f5 + 1⟩] : List Ev) ++ [⟨now, 9, l[i].f0, 0⟩]) ((HREL18.out.keep HB19.out).turn HT20.out (fun b e => ⟨fun h => by have := (HF11.out b (.inr h)).2; have := HVE.out b e.symm; omega, fun h => by have := B'.lt b h; have := HVE.out b e.symm; omega, fun h => by have := HVE.out b e.symm; omega⟩)) (by rw [HXR.out, HAT11.out, HL11.out, List.set_set]) ((((((Turn.refl w20 (fun b => b = w.heap.size + 1)).set rfl 0 (.int .i64 M)).set rfl 1 (.int .i64 now)).set rfl 2 (.slice (some ⟨g, 0, none⟩) l.length o.c)).set rfl 3 (.slice o.A2 q.length o.c2)).set rfl 4 (.slice A4 0 c4)) (by rw [List.map_append, HXS.out]; exact HR20.out) HXE.out hv20 HF11.out HBG.out HG12.out hBn11 hw (Turn.below (HBW18.out.trans (HB19.out.mono HBW18.out.size)) HT20.out (fun b e => by have := HVE.out b e.symm; omega) (by omega)) hN11 (by omega)
   ·have gm : (l[i].f1.f4 == 0) = false := by simpa using hm
    have HXR : Hid (relX now P l[i] = X) := hZ (by unfold relX; rw [if_neg hm, HX0.out]);have HXE : Hid (([⟨now, 1, l[i].f0, l[i].f5 + 1⟩] : List Ev) = relE now l[i]) := hZ (by unfold relE; rw [if_neg hm])
    go_wp2_with (go_at_call 26; (with_reducible refine (DI _).mono ?_); rintro e w14 ⟨rfl, hB14⟩; have HB14 := hZ hB14; have hn := blk_below HN13.out hB14; have hz := blk_below HZ13.out hB14; have HZ14 := hZ hz; have y0 := (blk_cell hn 0).trans rfl; have y1 := (blk_cell hn 1).trans rfl; have y2 := (blk_cell hn 2).trans rfl; have y3 := (blk_cell hn 3).trans rfl; have y4 := (blk_cell hn 4).trans rfl; have z0 := (blk_cell hz 0).trans rfl; have z1 := (blk_cell hz 1).trans rfl; have z2 := (blk_cell hz 2).trans rfl; have z3 := (blk_cell hz 3).trans rfl; have z4 := (blk_cell hz 4).trans rfl; have f0 := blk_frozen hz 0; have f1 := blk_frozen hz 1; have f2 := blk_frozen hz 2; have f3 := blk_frozen hz 3; have f4 := blk_frozen hz 4; clear hB14 hn hz)
    refine bodyPost_ret (results_ctt rfl _ _ (w.heap.size + 1) 47 #[.int .i64 M, .int .i64 now, .slice (some ⟨g, 0, none⟩) l.length o.c, .slice o.A2 q.length o.c2, .slice A4 0 c4] (0, 0) _ rfl (blk_put (cs' := #[.int .i64 M, .int .i64 now, .slice (some ⟨g, 0, none⟩) l.length o.c, .slice o.A2 q.length o.c2, .slice A4 0 c4]) (blk_put (blk_put (blk_put (blk_put HZ14.out 0 (.int .i64 M) rfl) 1 (.int .i64 now) rfl) 2 (.slice (some ⟨g, 0, none⟩) l.length o.c) rfl) 3 (.slice o.A2 q.length o.c2) rfl) 4 (.slice A4 0 c4) rfl) Tryz.underlying47 rfl (by kernel_rfl)) rfl ?_;refine ⟨some ⟨g, 0, none⟩, o.c, o.A2, o.c2, A4, c4, _, rfl, ?_⟩;exact RelW.fin (N := w11.heap.size) (HREL13.out.keep HB14.out) (by rw [HXR.out]; exact HL11.out) ((((((Turn.refl w14 (fun b => b = w.heap.size + 1)).set rfl 0 (.int .i64 M)).set rfl 1 (.int .i64 now)).set rfl 2 (.slice (some ⟨g, 0, none⟩) l.length o.c)).set rfl 3 (.slice o.A2 q.length o.c2)).set rfl 4 (.slice A4 0 c4)) (Kd.R_below HRE.out HB14.out) HXE.out HVE.out HF11.out HBG.out HG12.out hBn11 hw (HB13.out.trans (HB14.out.mono HB13.out.size)) hN11 (by have := HB14.out.size; omega)
theorem insert_calls (A : Option Addr) (n c : Nat) (rows : List (List Value)) (b : Nat) (row : List Value) (base : Nat) (w : World) (hR : (Kd.raw 11).R 57 w base (fun _ => True) (.slice A n c) rows) (hn : rows.length = n) (hl : n <= 100) (hC : (Kd.raw 11).C w (some ⟨b, 0, none⟩) 1 [row]) (hb : base <= w.heap.size) :
  Calls Tryz.prog 70 #[.slice A n c, .int .i64 n, .slice (some ⟨b, 0, none⟩) 1 1] w fun e w' => ∃ A' c', e = .returned (.slice A' (n + 1) c') /\ (Kd.raw 11).R 57 w' base (fun _ => True) (.slice A' (n + 1) c') (rows ++ [row]) /\ Turn w w' (fun k => some k = (Value.slice A n c).ownBlock) /\ ((Value.slice A' (n + 1) c').ownBlock = (Value.slice A n c).ownBlock \/ ∃ b, (Value.slice A' (n + 1) c').ownBlock = some b /\ w.heap.size <= b) := by
 obtain ⟨A2, c2, e2, hc, _⟩ := Kd.R_reads hR;injection e2 with e3 e4 e5;subst e3 e5;rw [hn] at hc;have HR := hZ hR;have HC := hZ hC;have HN := hZ hn;have n0 : (0 : Int) <= (n : Int) := by omega
 clear hR hC e4 hn;go_enter Tryz.func70, Tryz.ntmps70
 go_wp2_with ((with_reducible refine gate_builtin (b := .append) (xs := #[.tmp 23, .tmp 24]) rfl ?_); (at_builtin; refine Kd.R_append_rows (Kd.raw 11) (Rr := (Kd.raw 11).K w) (okp := fun _ => False) (w0 := w) base rfl (.tmp 23) (.tmp 24) 43 57 (.agg #[.int .i64 0, .int .i64 0, .int .i64 0, .int .i64 0, .int .i64 0, .int .i64 0, .slice none 0 0, .int .i64 0, .int .i64 0, .int .i64 0, .int .i64 0]) 104 rfl Tryz.underlying43 info57 rfl (by decide) (by omega) (.slice A n c) rows [row] (some ⟨b, 0, none⟩) 1 1 (fun _ => True) rfl rfl HR.out ?hC (fun _ _ h => h) (fun _ h => h.elim) (fun _ _ => trivial) (Below.refl _ _) hb ?aL ?_; (case hC => exact HC.out); (case aL => (have := HN.out; first | omega | (simp; omega))); intro v1 w5 hR5 hB5 hg5 hat5; have HR5 := hZ hR5; have HT5 := hZ (grown_turn hg5); have HAT5 := hZ hat5; clear hR5 hB5 hg5 hat5))
 all_goals
  obtain ⟨A7, c7, e7⟩ := Kd.R_slice HR5.out;have hl7 : (rows ++ [row]).length = n + 1 := by rw [List.length_append, HN.out]; rfl
  rw [hl7] at e7;subst e7;go_ret
  first
   | exact ⟨A7, c7, rfl, HR5.out, HT5.out, HAT5.out⟩
   | (rename_i h; rw [h] at HT5 HAT5; exact ⟨A7, c7, rfl, HR5.out, HT5.out, HAT5.out⟩)
theorem flat_one {sz : Nat} {xs : List (List Value)} (h : ∀ x ∈ xs, x.length = sz) {k : Nat} (hk : k < xs.length) : (xs.flatten.drop (k * sz)).take sz = xs[k] := by
 have hl := flat_len h;have hx := h _ (List.getElem_mem hk);apply List.ext_getElem?;intro j;by_cases hj : j < sz
 ·rw [List.getElem?_take, if_pos hj, List.getElem?_drop, flat_get h k hk j hj]
 ·rw [List.getElem?_eq_none (by rw [List.length_take]; omega), List.getElem?_eq_none (by omega)]
theorem R_of_row {w : World} {A : Option Addr} {c base : Nat} {l : List S57} {r : Nat -> Ref} (hc : SerC w A c) (hr : l ≠ [] -> ∃ g, A = some ⟨g, 0, none⟩ /\ RowAt w g 0 11 57 (rowsOf servRow l r)) (hcap : l.length <= c) (hb : ∀ b, A.map (·.block) = some b -> base <= b) : (Kd.raw 11).R 57 w base (fun _ => True) (.slice A l.length c) (rowsOf servRow l r) := by
 have hlen : ∀ x ∈ rowsOf servRow l r, x.length = 11 := mem_rowsOf (fun _ _ => rfl);have h1 : ∀ x ∈ rowsOf servRow l r, ∀ u ∈ x, u.oneCell' = true := mem_rowsOf (fun x p u hu => by simp only [servRow, List.mem_cons, List.not_mem_nil, or_false] at hu; rcases hu with rfl | rfl | rfl | rfl | rfl | rfl | rfl | rfl | rfl | rfl | rfl <;> rfl);refine ⟨fun _ _ => trivial, (rowsOf servRow l r).flatten, ⟨?_, ?_⟩, ?_, fun i p hp => ?_⟩
 ·rw [flat_len hlen]; rfl
 ·rcases hc with ⟨rfl, rfl⟩ | ⟨g, cur, rfl, h2, h3, h4⟩
  ·have h0 : l = [] := List.length_eq_zero_iff.1 (by omega);subst h0;exact .inl ⟨rfl, rfl⟩
  ·refine .inr ⟨g, c, cur, by rw [rowsOf_len], hb g rfl, h2, by rw [rowsOf_len]; exact hcap, h4, h3, ?_⟩;by_cases h0 : l = []
   ·subst h0; simp [rowsOf]
   ·obtain ⟨g2, e, _, pre, rest, h5, h6⟩ := hr h0;injection e with e;injection e with e;subst e;rw [h2] at h6;injection h6 with h6;injection h6 with h6;subst h6;have hp : pre = [] := List.length_eq_zero_iff.1 h5;subst hp;simp only [List.nil_append];rw [List.take_append_of_le_length (by rw [flat_len hlen]; exact Nat.le_refl _), List.take_of_length_le (by rw [flat_len hlen]; exact Nat.le_refl _)]
 ·rw [flat_len hlen]; rfl
 ·obtain ⟨hi, rfl⟩ := List.getElem?_eq_some_iff.1 hp;have e : ((rowsOf servRow l r).flatten.drop (i * (Kd.raw 11).sz)).take (Kd.raw 11).sz = (rowsOf servRow l r)[i] := flat_one hlen hi;refine ⟨e, ?_, ?_⟩
  ·rw [e]; exact hlen _ (List.getElem_mem hi)
  ·intro u hu;rw [e] at hu;exact h1 _ (List.getElem_mem hi) u hu
theorem Own.addRd {w w' : World} {B : Bd} {l : List S57} {q : List S63} {o : OwnR} (h : Own w B l q o) {A7 : Option Addr} {c7 base : Nat} (x : S57) (hx : x.f2 = []) (hR : (Kd.raw 11).R 57 w' base (fun _ => True) (.slice A7 (l.length + 1) c7) (rowsOf servRow l o.r ++ [servRow x (none, 0)])) (ht : Turn w w' (fun b => some b = (Value.slice o.A l.length o.c).ownBlock)) : RdF w' (fun b => (∃ c, c ≠ .g /\ o.own c = some b) \/ (Value.slice A7 (l.length + 1) c7).ownBlock = some b) B A7 (l ++ [x]) o.A2 q := fun W' hW => by
 have hS : ∀ b, some b = (Value.slice o.A l.length o.c).ownBlock -> o.own .g = some b := fun b e => by
  show o.A.map (·.block) = some b
  cases hA : o.A with
  | none => rw [hA] at e; simp [Value.ownBlock] at e
  | some ad => rw [hA] at e; simpa [Value.ownBlock] using e.symm
 have hWB : ∀ b, B.G b -> b < w.heap.size -> W'.heap[b]? = w.heap[b]? := fun b hb hlt => by
  rw [hW b (.inr hb) (Nat.lt_of_lt_of_le hlt ht.size)];exact ht.block b hlt (fun e => by have := (h.bnd _ b (hS b e)).1; have := B.lt b hb; omega)
 have hWo : ∀ c b, c ≠ .g -> o.own c = some b -> W'.heap[b]? = w.heap[b]? := fun c b h1 h3 => by
  rw [hW b (.inl (.inl ⟨c, h1, h3⟩)) (Nat.lt_of_lt_of_le (h.bnd c b h3).2 ht.size)];exact ht.block b (h.bnd c b h3).2 (fun e => h1 (h.apart c .g b h3 (hS b e)))
 have hl : (l ++ [x]).length = l.length + 1 := by simp
 refine ⟨⟨upd o.r l.length (none, 0), ?_, fun k hk => ?_⟩, ?_⟩
 ·rw [rowsOf_snoc, hl];have h1 : (Kd.raw 11).R 57 W' base _ _ _ := Kd.R_step (Kd.R_tight rfl hR) (fun b hb hlt => hW b (.inl (.inr hb.symm)) hlt);obtain ⟨A8, c8, e8, _, hC8⟩ := Kd.R_reads h1;injection e8 with e9 e10 e11;subst e9;have hll : (rowsOf servRow l o.r ++ [servRow x (none, 0)]).length = l.length + 1 := by simp [rowsOf_len]
  rw [hll] at hC8;exact hC8
 ·by_cases e : k = l.length
  ·subst e;have e3 : (l ++ [x])[l.length] = x := by simp
   rw [e3, upd_self, hx];exact ⟨Nat.le_refl _, fun _ => (none, 0), C_nil' _ _ _, fun n hn => by simp at hn⟩
  ·have hk2 : k < l.length := by omega
   have e3 : (l ++ [x])[k] = l[k] := List.getElem_append_left hk2;rw [e3, upd_ne _ _ e];have hjk := h.jobs k hk2;refine ⟨hjk.cap, ?_⟩;by_cases hx0 : l[k].f2 = []
   ·exact ⟨fun _ => (none, 0), by rw [hx0]; exact C_nil' _ _ _, fun n hn => by rw [hx0] at hn; simp at hn⟩
   ·obtain ⟨b, oo, r0, e4, hr3, hp⟩ := hjk.row hx0;refine ⟨r0, ?_, fun n hn => ⟨(hp n hn).1, fun W2 hW2 => (hp n hn).2 W2 (fun b2 hb2 hlt => ?_)⟩⟩
    ·rw [e4];exact raw_jobs (hr3.same (hWo (.j k) b (by simp) (by show ob (o.r k) = _; rw [ob, e4]; rfl))) hjk.max
    ·have e := hWB b2 hb2 hlt;rw [<- e];refine hW2 b2 hb2 ?_;rw [Array.getElem?_eq_getElem hlt] at e;exact (Array.getElem?_eq_some_iff.1 e).1
 ·by_cases hx0 : q = []
  ·subst hx0; exact C_nil' _ _ _
  ·obtain ⟨g2, e, hr2⟩ := h.lok hx0;rw [e];refine RowAt.kd (d := k63) (hr2.same (hWo .h g2 (by simp) (by show o.A2.map _ = _; rw [e]; rfl))) rowsOf_len (by have := h.max; omega) (fun k h1 h2 => ?_);rw [rowsOf_get h1];exact k63_mk W' q[k] (h.que k h1).1 ((h.que k h1).2 W' (fun b hb hlt => hWo (.q k) b (by simp) hb))
theorem ahead_all {l : List S57} {t : Int} (h : ∀ k (hk : k < l.length), l[k].f0 < t) : ahead l t = l.length /\ isAt l t = false := by
 refine ⟨?_, ?_⟩
 ·unfold ahead;rw [List.countP_eq_length];intro x hx;obtain ⟨k, hk, rfl⟩ := List.mem_iff_getElem.1 hx;simpa using h k hk
 ·unfold isAt;rw [List.any_eq_false];intro x hx;obtain ⟨k, hk, rfl⟩ := List.mem_iff_getElem.1 hx;have := h k hk;simp;omega
def newServ (id q p : Int) : S57 := ⟨id, ⟨q, p, 0, 0, 0⟩, [], 0, 0, 0, 0⟩
theorem raw57 {w : World} {a0 a1 a2 a3 a4 a5 a7 a8 a9 a10 : Int} : (Kd.raw 11).C (w.alloc (.cells #[.int .i64 a0, .int .i64 a1, .int .i64 a2, .int .i64 a3, .int .i64 a4, .int .i64 a5, .slice none 0 0, .int .i64 a7, .int .i64 a8, .int .i64 a9, .int .i64 a10] 57)) (some ⟨w.heap.size, 0, none⟩) 1 [[.int .i64 a0, .int .i64 a1, .int .i64 a2, .int .i64 a3, .int .i64 a4, .int .i64 a5, .slice none 0 0, .int .i64 a7, .int .i64 a8, .int .i64 a9, .int .i64 a10]] := by
 refine ⟨rfl, by simp, fun _ => ⟨_, rfl, fun j x hx => ?_⟩⟩;have hb := blk_new w (.cells #[.int .i64 a0, .int .i64 a1, .int .i64 a2, .int .i64 a3, .int .i64 a4, .int .i64 a5, .slice none 0 0, .int .i64 a7, .int .i64 a8, .int .i64 a9, .int .i64 a10] 57)
 cases j with
 | zero =>
  simp only [List.getElem?_cons_zero, Option.some.injEq] at hx;subst hx;refine ⟨_, rfl, ⟨rfl, rfl, fun u hu => by simp only [List.mem_cons, List.not_mem_nil, or_false] at hu; rcases hu with rfl | rfl | rfl | rfl | rfl | rfl | rfl | rfl | rfl | rfl | rfl <;> rfl⟩, fun i u hu => ?_⟩;rw [Nat.zero_mul, Nat.zero_add, addr_at, Nat.zero_add, blk_cell hb]
  match i, hu with
  | 0, h => exact h
  | 1, h => exact h
  | 2, h => exact h
  | 3, h => exact h
  | 4, h => exact h
  | 5, h => exact h
  | 6, h => exact h
  | 7, h => exact h
  | 8, h => exact h
  | 9, h => exact h
  | 10, h => exact h
  | i + 11, h => simp at h
 | succ j => simp at hx
theorem add_calls (M now : Int) (A : Option Addr) (l : List S57) (c : Nat) (A2 : Option Addr) (q : List S63) (c2 : Nat) (A3 : Option Addr) (c3 : Nat) (B : Bd) (id q0 p0 : Int) (w : World) (hw : B.n <= w.heap.size) (hr : Rd w B A l A2 q) (hs : Sorted l) (hl : l.length <= 31) (hq : q.length <= 8) (hlj : ∀ i (h : i < l.length), l[i].f2.length <= 100000) (hqj : ∀ i (h : i < q.length), q[i].f2.length <= 100000) (hid : ∀ k (h : k < l.length), l[k].f0 < id) (hid1 : 1 <= id) (hid2 : id <= 255) (hq1 : 1 <= q0) (hq2 : q0 <= p0) (hp : p0 <= 2147483648) :
  Calls Tryz.prog 38 #[stV M now A l.length c A2 q.length c2 A3 c3, .int .i64 id, .int .i64 q0, .int .i64 p0] w fun e w' => ∃ A' c' A2' c2' A4 c4 F, e = .returned (.tuple #[stV M now A' (l.length + 1) c' A2' q.length c2' A4 c4, .int .i64 0]) /\ RdF w' F B A' (l ++ [newServ id q0 p0]) A2' q /\ (∀ b, F b -> w.heap.size <= b /\ b < w'.heap.size) /\ Below w.heap.size w w' := by
 have DA := fun wx (hb : Below w.heap.size w wx) => at_calls M now A c l (.slice A2 q.length c2) (.slice A3 0 c3) id wx (hr.below hb).reads hs (by omega) ⟨_, _, _, rfl⟩ ⟨_, _, _, rfl⟩
 rw [(ahead_all hid).1, (ahead_all hid).2] at DA;have DN := fun wx => cnew_calls q0 p0 wx hq1 hq2 hp
 have DC := fun wx (hb : Below w.heap.size w wx) => clone2_calls M now A l c A2 q c2 A3 c3 B wx (Nat.le_trans hw hb.size) (hr.below hb) (by omega) (by omega) hlj hqj
 have g1 : decide (id < 1) = false := by simp; omega
 have g2 : decide (id > 255) = false := by simp; omega
 have g3 : decide ((l.length : Int) >= 32) = false := by simp; omega
 unfold stV agg54 at *;have HB0 := hZ (below_alloc (below_alloc (Below.refl w.heap.size w) (.cells #[.int .i64 M, .int .i64 now, .slice A l.length c, .slice A2 q.length c2, .slice A3 0 c3] 47)) (.cells #[.int .i64 0, .int .i64 0, .slice none 0 0, .slice none 0 0, .slice none 0 0] 47));have h2 := two_blocks (w := w) (x := #[.int .i64 M, .int .i64 now, .slice A l.length c, .slice A2 q.length c2, .slice A3 0 c3]) (y := #[.int .i64 0, .int .i64 0, .slice none 0 0, .slice none 0 0, .slice none 0 0]) (tx := 47) (ty := 47) (Below.refl _ _);have HX0 := hZ h2.1;have HZ0 := hZ h2.2.1;clear h2 hr hlj hqj hid hs;go_enter Tryz.func38, Tryz.ntmps38
 go_upto_region 9 with (first
  | (go_at_call 32; (with_reducible refine (DA _ HB0.out).mono ?_); rintro e w1 ⟨rfl, hB1⟩; have HX1 := hZ (blk_below HX0.out hB1); have HZ1 := hZ (blk_below HZ0.out hB1); have HB1 := hZ (HB0.out.trans (hB1.mono HB0.out.size)); have x2 := (blk_cell HX1.out 2).trans rfl; clear hB1)
  | (go_at_call 69; (with_reducible refine (DN _).mono ?_); rintro e w2 ⟨rfl, hB2⟩; have HX2 := hZ (blk_below HX1.out hB2); have HZ2 := hZ (blk_below HZ1.out hB2); have HB2 := hZ (HB1.out.trans (hB2.mono HB1.out.size)); clear hB2))
 have HP := hZ (blk_new w2 (.cells #[.int .i64 q0, .int .i64 p0, .int .i64 0, .int .i64 0, .int .i64 0] 54));have HB23 : Hid (Below w2.heap.size w2 (w2.alloc (.cells #[.int .i64 q0, .int .i64 p0, .int .i64 0, .int .i64 0, .int .i64 0] 54))) := hZ (below_alloc (Below.refl _ _) _);clear HX0 HX1 HZ0 HZ1 HB0 HB1 DA DN x2;generalize hw3 : World.alloc _ _ = w3 at *;have HX3 := hZ (blk_below HX2.out HB23.out);have HZ3 := hZ (blk_below HZ2.out HB23.out);have HB3 := hZ (HB2.out.trans (HB23.out.mono HB2.out.size));have y0 := (blk_cell HX3.out 0).trans rfl;have y1 := (blk_cell HX3.out 1).trans rfl;have y2 := (blk_cell HX3.out 2).trans rfl;have y3 := (blk_cell HX3.out 3).trans rfl;have y4 := (blk_cell HX3.out 4).trans rfl;have hz2 := blk_lt HZ2.out;clear hw3 HX2 HZ2 HB2 HB23
 go_upto_region 12 with (go_at_call 25; (with_reducible refine (DC _ HB3.out).mono ?_); rintro e w4 ⟨o, A4, c4, rfl, hO4, _, _, hown4, hB4, hsc4⟩; have HO4 := hZ hO4; have HW4 := hZ hown4; have HSC4 := hZ hsc4; have HX4 := hZ (blk_below HX3.out hB4); have HZ4 := hZ (blk_below HZ3.out hB4); have HP4 := hZ (blk_below HP.out hB4); have HB4 := hZ (HB3.out.trans (hB4.mono HB3.out.size)); have HS34 := hZ hB4.size; have x0 := (blk_cell HX4.out 0).trans rfl; have x1 := (blk_cell HX4.out 1).trans rfl; have x2 := (blk_cell HX4.out 2).trans rfl; have x3 := (blk_cell HX4.out 3).trans rfl; have x4 := (blk_cell HX4.out 4).trans rfl; have f0 := blk_frozen HX4.out 0; have f1 := blk_frozen HX4.out 1; have f2 := blk_frozen HX4.out 2; have f3 := blk_frozen HX4.out 3; have f4 := blk_frozen HX4.out 4; clear hO4 hown4 hB4 hsc4)
 have HX5 := hZ (blk_put (cs' := #[.int .i64 M, .int .i64 now, .slice o.A l.length o.c, .slice o.A2 q.length o.c2, .slice A4 0 c4]) (blk_put (blk_put (blk_put (blk_put HX4.out 0 (.int .i64 M) rfl) 1 (.int .i64 now) rfl) 2 (.slice o.A l.length o.c) rfl) 3 (.slice o.A2 q.length o.c2) rfl) 4 (.slice A4 0 c4) rfl);have HT5 := hZ ((((((Turn.refl w4 (fun b => b = w.heap.size)).set rfl 0 (.int .i64 M)).set rfl 1 (.int .i64 now)).set rfl 2 (.slice o.A l.length o.c)).set rfl 3 (.slice o.A2 q.length o.c2)).set rfl 4 (.slice A4 0 c4));generalize hws : World.setCell _ _ _ = w5 at *;clear hws x0 x1 x2 x3 x4 f0 f1 f2 f3 f4 y0 y1 y2 y3 y4;have hz3 := blk_lt HZ3.out;have hp3 := blk_lt HP.out;have hs34 := HS34.out;have hs45 := HT5.out.size;have HO5 := hZ (HO4.out.keep HT5.out (fun b e => by omega) (fun cc b hc e => by have := HW4.out cc b hc; omega));have HSC5 := hZ (HSC4.out.turn HT5.out (fun b hb e => by have := HW4.out .g b hb; omega));have hpw : w2.heap.size ≠ w.heap.size := by omega
 have HZ5 := hZ ((HT5.out.block _ (blk_lt HZ4.out) (by omega)).trans HZ4.out);have HP5 := hZ ((HT5.out.block _ (blk_lt HP4.out) hpw).trans HP4.out);have HB5 : Hid (Below w.heap.size w w5) := hZ (Turn.below HB4.out HT5.out (fun b e => by omega) HB4.out.size);have HR5 : Hid ((Kd.raw 11).R 57 w5 w.heap.size (fun _ => True) (.slice o.A l.length o.c) (rowsOf servRow l o.r)) := hZ (R_of_row HSC5.out (fun h => HO5.out.row h) HO5.out.cap.1 (fun b hb => by have := HW4.out .g b hb; omega));have HRL : Hid ((rowsOf servRow l o.r).length = l.length) := hZ rowsOf_len
 have HA5 : Hid (∀ b, (Value.slice o.A l.length o.c).ownBlock = some b -> w3.heap.size <= b /\ b < w5.heap.size) := hZ (fun b e => ⟨HW4.out .g b (by
  show o.A.map (·.block) = some b
  cases hA : o.A with
  | none => rw [hA] at e; simp [Value.ownBlock] at e
  | some ad => rw [hA] at e; simpa [Value.ownBlock] using e), Kd.R_lt HR5.out b e⟩)
 have x2 := (blk_cell HX5.out 2).trans rfl;have p0_ := (blk_cell HP5.out 0).trans rfl;have p1_ := (blk_cell HP5.out 1).trans rfl;have p2_ := (blk_cell HP5.out 2).trans rfl;have p3_ := (blk_cell HP5.out 3).trans rfl;have p4_ := (blk_cell HP5.out 4).trans rfl;have hw5 : w.heap.size + 1 < w5.heap.size := blk_lt HZ5.out;clear HX3 HX4 HZ3 HZ4 HP HP4 HO4 HSC4 HT5 HB4 HS34 DC
 go_upto_region 13 with (go_at_call 70; (with_reducible refine (insert_calls o.A l.length o.c (rowsOf servRow l o.r) w5.heap.size _ w.heap.size _ (Kd.R_alloc HR5.out _) HRL.out (by omega) raw57 (by simp only [World.size_alloc]; omega)).mono ?_); rintro e w7 ⟨A7, c7, rfl, hR7, hT7, hA7⟩; have HR7 := hZ hR7; have HT7 := hZ hT7; have HAT7 := hZ hA7; have HX7 := hZ ((hT7.block w.heap.size (by simp only [World.size_alloc]; omega) (fun e => by have := HA5.out _ e.symm; omega)).trans ((below_alloc (Below.refl _ _) _).block _ (by omega) |>.trans HX5.out)); have HZ7 := hZ ((hT7.block (w.heap.size + 1) (by simp only [World.size_alloc]; omega) (fun e => by have := HA5.out _ e.symm; omega)).trans ((below_alloc (Below.refl _ _) _).block _ (by omega) |>.trans HZ5.out)); have xx := (blk_cell HX7.out 2).trans rfl; have fx := blk_frozen HX7.out 2; clear hR7 hT7 hA7 x2)
 have HX8 := hZ (blk_put (cs' := #[.int .i64 M, .int .i64 now, .slice A7 (l.length + 1) c7, .slice o.A2 q.length o.c2, .slice A4 0 c4]) HX7.out 2 (.slice A7 (l.length + 1) c7) rfl);have HT8 := hZ ((Turn.refl w7 (fun b => b = w.heap.size)).set rfl 2 (.slice A7 (l.length + 1) c7));generalize hws : World.setCell _ _ _ = w8 at *;have HZ8 := hZ ((HT8.out.block _ (blk_lt HZ7.out) (by omega)).trans HZ7.out);clear hws xx fx p0_ p1_ p2_ p3_ p4_ HX7 HX5;have x0 := (blk_cell HX8.out 0).trans rfl;have x1 := (blk_cell HX8.out 1).trans rfl;have x2 := (blk_cell HX8.out 2).trans rfl;have x3 := (blk_cell HX8.out 3).trans rfl;have x4 := (blk_cell HX8.out 4).trans rfl;have z0 := (blk_cell HZ8.out 0).trans rfl;have z1 := (blk_cell HZ8.out 1).trans rfl;have z2 := (blk_cell HZ8.out 2).trans rfl;have z3 := (blk_cell HZ8.out 3).trans rfl;have z4 := (blk_cell HZ8.out 4).trans rfl;have f0 := blk_frozen HZ8.out 0;have f1 := blk_frozen HZ8.out 1;have f2 := blk_frozen HZ8.out 2;have f3 := blk_frozen HZ8.out 3;have f4 := blk_frozen HZ8.out 4;go_wp2;refine bodyPost_ret (results_ct rfl _ _ (w.heap.size + 1) 47 #[.int .i64 M, .int .i64 now, .slice A7 (l.length + 1) c7, .slice o.A2 q.length o.c2, .slice A4 0 c4] (0, 0) _ rfl (blk_put (cs' := #[.int .i64 M, .int .i64 now, .slice A7 (l.length + 1) c7, .slice o.A2 q.length o.c2, .slice A4 0 c4]) (blk_put (blk_put (blk_put (blk_put HZ8.out 0 (.int .i64 M) rfl) 1 (.int .i64 now) rfl) 2 (.slice A7 (l.length + 1) c7) rfl) 3 (.slice o.A2 q.length o.c2) rfl) 4 (.slice A4 0 c4) rfl) Tryz.underlying47 rfl (by kernel_rfl)) rfl ?_;have HT9 := ((((((Turn.refl w8 (fun b => b = w.heap.size + 1)).set rfl 0 (.int .i64 M)).set rfl 1 (.int .i64 now)).set rfl 2 (.slice A7 (l.length + 1) c7)).set rfl 3 (.slice o.A2 q.length o.c2)).set rfl 4 (.slice A4 0 c4));generalize hwf : World.setCell _ _ _ = wf at *;have hR := Own.addRd (w' := w7) (HO5.out.below (below_alloc (Below.refl _ _) _)) (newServ id q0 p0) rfl HR7.out HT7.out
 have hF : ∀ b, ((∃ c, c ≠ .g /\ o.own c = some b) \/ (Value.slice A7 (l.length + 1) c7).ownBlock = some b) -> w.heap.size + 1 < b /\ b < w7.heap.size := fun b e => by
  have h57 := HT7.out.size;simp only [World.size_alloc] at h57;rcases e with ⟨cc, _, hc⟩ | e
  ·have := HW4.out cc b hc;have := (HO5.out.bnd cc b hc).2;omega
  ·have h7 := Kd.R_lt HR7.out b e;rcases HAT7.out with h | ⟨b2, h, hle⟩
   ·have := HA5.out b (h ▸ e);omega
   ·rw [h] at e;injection e with e;simp only [World.size_alloc] at hle;omega
 have h78 := HT8.out.size;have h89 := HT9.size;have hnB : ∀ b, w.heap.size <= b -> ¬ B.G b := fun b h hG => by have := B.lt b hG; omega
 refine ⟨A7, c7, o.A2, o.c2, A4, c4, _, rfl, (hR.keep HT8.out (fun b e => ⟨fun h => by have := (hF b h).1; omega, hnB b (by omega)⟩)).keep HT9 (fun b e => ⟨fun h => by have := (hF b h).1; omega, hnB b (by omega)⟩), fun b h => by have := hF b h; omega, ?_⟩;have hb7 : Below w.heap.size w w7 := Turn.below (HB5.out.trans ((below_alloc (Below.refl _ _) _).mono HB5.out.size)) HT7.out (fun b e => by have := HA5.out b e.symm; omega) (by simp only [World.size_alloc]; omega);exact Turn.below (Turn.below hb7 HT8.out (fun b e => by omega) hb7.size) HT9 (fun b e => by omega) (by have := hb7.size; omega)
end Go.Proofs.YtfimkmlgnmaopaaGreat.Top
