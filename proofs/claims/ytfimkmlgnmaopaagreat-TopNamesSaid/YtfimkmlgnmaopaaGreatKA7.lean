/- Part 7 of what is proved of the functions that the law reaches (contracts of functions, plain laws): no condition but those that each theorem names. -/
import Derived.Test.YtfimkmlgnmaopaaGreatKA6
namespace Go.Proofs.YtfimkmlgnmaopaaGreat.Top
open Go.RowKit Go.Proofs.YtfimkmlgnmaopaaGreatW.PrintWords Go.Proofs.YtfimkmlgnmaopaaGreatW.PrintLast Go.Proofs.YtfimkmlgnmaopaaGreatW.PrintMore Go.Proofs.YtfimkmlgnmaopaaGreat.PTopNames
set_option linter.unusedVariables false
set_option linter.unusedSimpArgs false
def wone.T8 : Bool × List (List Nat × List Nat) := (true, [([], []), ([], []), ([], []), ([1, 2], [1, 2]), ([3], [3]), ([0, 4], [0, 4]), ([5], [5]), ([6], [6]), ([6], [6]), ([7, 5, 0, 1, 2, 3, 4, 5, 6, 7], [7]), ([8, 9, 0, 1, 2, 3, 4, 5, 6, 7, 8, 9], [8])])
def wone.B8 : List Nat := [0, 0, 0, 6, 14, 31, 63, 127, 127, 255, 1023]
theorem wone.tab8 : rtab .any (opsOf Tryz.f126 8) = wone.T8 := by kernel_rfl
theorem wone.bits8 : waitsOk wone.T8.2 wone.B8 = true := by kernel_rfl
set_option maxHeartbeats 800000 in
theorem room_calls (x : S85) (w : World) (hx : WOk x) : Calls Tryz.prog 148 #[agg85 x] w fun e w' => e = .returned (.int .i64 (roomW x)) ∧ Below w.heap.size w w' := by
  obtain ⟨q, p⟩ := x
  obtain ⟨h1, h2, h3, h4⟩ := hx
  dsimp only at *
  have hb := below_alloc (Below.refl w.heap.size w) (.cells #[.int .i64 q, .int .i64 p] 85)
  have w1 : IntKind.i64.wrap (p - q) = p - q := by rw [i64_w]; unfold Go.RowKit.wrap64; omega
  have w2 : IntKind.i64.wrap (p - q + 1) = p - q + 1 := by rw [i64_w]; unfold Go.RowKit.wrap64; omega
  go_enter Tryz.func148, Tryz.ntmps148
  go_wp2
  go_ret
  exact ⟨rfl, hb⟩
theorem takesW_bnd {x o : S85} (hx : WOk x) (ho : WOk o) : 0 ≤ takesW x o ∧ takesW x o ≤ 2147483648 := by
  have h1 := workW_nn (n := o.f1) hx (by have := ho.1; omega)
  obtain ⟨a, b, c, d⟩ := ho
  unfold takesW roomW
  omega
set_option maxHeartbeats 1600000 in
set_option maxRecDepth 100000 in
theorem takes_calls (x o : S85) (w : World) (hx : WOk x) (ho : WOk o) : Calls Tryz.prog 147 #[agg85 x, agg85 o] w fun e w' => e = .returned (.tuple #[.int .i64 (takesW x o), .bool true]) ∧ Below w.heap.size w w' := by
  have DG := fun w => wgood_calls o w
  have gx : decide (WOk o) = true := by simpa using ho
  rw [gx] at DG
  have DW := fun w => work_calls x o.f1 w hx (by have := ho.1; omega) (by have := ho.2.1; omega)
  have DR := fun w => room_calls o w ho
  have HT : Hid (takesW x o = min (workW x o.f1) (roomW o)) := Lib.hid rfl
  obtain ⟨q, p⟩ := x
  obtain ⟨r, s⟩ := o
  generalize takesW ⟨q, p⟩ ⟨r, s⟩ = t at *
  generalize roomW ⟨r, s⟩ = rm at *
  dsimp only at *
  generalize workW ⟨q, p⟩ s = wk at *
  have h2 := two_blocks (w := w) (x := #[.int .i64 q, .int .i64 p]) (y := #[.int .i64 r, .int .i64 s]) (tx := 85) (ty := 85) (Below.refl _ _)
  have HX0 := Lib.hid h2.1
  have HY0 := Lib.hid h2.2.1
  have HB0 : Hid (Below w.heap.size w ((w.alloc (.cells #[.int .i64 q, .int .i64 p] 85)).alloc (.cells #[.int .i64 r, .int .i64 s] 85))) := Lib.hid (below_alloc (below_alloc (Below.refl _ _) _) _)
  clear gx h2 hx ho
  go_enter Tryz.func147, Tryz.ntmps147
  go_wp2_with (first
    | (go_at_call 35; (with_reducible refine (DG _).mono ?_); rintro e w1 ⟨rfl, hB1⟩; have HX1 := Lib.hid (blk_below HX0.out hB1); have HY1 := Lib.hid (blk_below HY0.out hB1); have x0 := (blk_cell HX1.out 0).trans rfl; have x1 := (blk_cell HX1.out 1).trans rfl; have y1 := (blk_cell HY1.out 1).trans rfl; have HB1 := Lib.hid (HB0.out.trans (hB1.mono HB0.out.size)); clear hB1)
    | (go_at_call 158; (with_reducible refine (DW _).mono ?_); rintro e w2 ⟨rfl, hB2⟩; have HY2 := Lib.hid (blk_below HY1.out hB2); have y0 := (blk_cell HY2.out 0).trans rfl; have y1' := (blk_cell HY2.out 1).trans rfl; have HB2 := Lib.hid (HB1.out.trans (hB2.mono HB1.out.size)); clear hB2)
    | (go_at_call 148; (with_reducible refine (DR _).mono ?_); rintro e w3 ⟨rfl, hB3⟩; have HB3 := Lib.hid (HB2.out.trans (hB3.mono HB2.out.size)); clear hB3))
  all_goals
    go_ret2
    refine ⟨?_, HB3.out⟩
    rw [HT.out]
    exact congrArg (fun z => Ending.returned (.tuple #[.int .i64 z, .bool true])) (by omega)
set_option maxHeartbeats 800000 in
theorem wodd_calls (x : S85) (w : World) (hx : WOk x) : Calls Tryz.prog 145 #[agg85 x] w fun e w' => e = .returned (.bool false) ∧ Below w.heap.size w w' := by
  have DG := fun w => wgood_calls x w
  have gx : decide (WOk x) = true := by simpa using hx
  rw [gx] at DG
  obtain ⟨q, p⟩ := x
  have HB0 : Hid (Below w.heap.size w (w.alloc (.cells #[.int .i64 q, .int .i64 p] 85))) := Lib.hid (below_alloc (Below.refl _ _) _)
  clear gx hx
  go_enter Tryz.func145, Tryz.ntmps145
  go_wp2_with (go_at_call 35; (with_reducible refine (DG _).mono ?_); rintro e w1 ⟨rfl, hB1⟩; have HB1 := Lib.hid (HB0.out.trans (hB1.mono HB0.out.size)); clear hB1)
  go_ret
  exact ⟨rfl, HB1.out⟩
theorem rd85 {l : List S85} {k : Nat} (h : k < l.length) : rd_T85 l (k : Int) = l[k] := by simp [rd_T85, h]
set_option maxHeartbeats 800000 in
theorem windex_calls (A : Option Addr) (c : Nat) (l : List S85) (w : World) (hr : Kd.C k85 w A l.length l) (hlen : l.length ≤ 64) (hall : ∀ k (h : k < l.length), WOk l[k]) :
    Calls Tryz.prog 157 #[.slice A l.length c, .func (.func 145) #[] #[]] w fun e w' => e = .returned (.int .i64 (-1)) ∧ Below w.heap.size w w' := by
  have HR := Lib.hid hr
  have HA := Lib.hid hall
  clear hr hall
  go_enter Tryz.func157, Tryz.ntmps157
  go_wp2
  go_loopw [8] (fun v8 wr => ∃ k : Nat, v8 = .int .i64 k ∧ k ≤ l.length ∧ Hid (Below w.heap.size w wr)) (fun v8 _ => l.length - (intOf v8).toNat)
  case atStart => exact ⟨0, rfl, Nat.zero_le _, Below.refl _ _⟩
  case round =>
    obtain ⟨k, rfl, hk, HB⟩ := hrel
    by_cases hlt : k < l.length
    · obtain ⟨ad, rfl, h0, h1⟩ := at_T85 (Kd.C_below HR.out HB.out) (k : Int) (by omega) (by omega)
      rw [Int.toNat_natCast] at h0 h1
      have D := fun w => wodd_calls (rd_T85 l (k : Int)) w (by rw [rd85 hlt]; exact HA.out k hlt)
      generalize rd_T85 l (k : Int) = p at *
      obtain ⟨p0, p1⟩ := p
      unfold agg85 at D
      dsimp only at h0 h1 D
      go_wp2_with (go_at_call 145; (with_reducible refine (D _).mono ?_); rintro e w' ⟨rfl, hB'⟩; have HB' := Lib.hid (HB.out.trans (hB'.mono HB.out.size)); clear hB')
      go_roundw
      case rel => exact ⟨k + 1, by go_num, by omega, HB'⟩
      case measure => simp [intOf]; omega
    · obtain rfl : k = l.length := by omega
      go_wp2
      go_ret
      exact ⟨rfl, HB.out⟩
set_option maxHeartbeats 800000 in
theorem wcontains_calls (A : Option Addr) (c : Nat) (l : List S85) (w : World) (hr : Kd.C k85 w A l.length l) (hlen : l.length ≤ 64) (hall : ∀ k (h : k < l.length), WOk l[k]) :
    Calls Tryz.prog 146 #[.slice A l.length c, .func (.func 145) #[] #[]] w fun e w' => e = .returned (.bool false) ∧ Below w.heap.size w w' := by
  have D := windex_calls A c l w hr hlen hall
  clear hr hall
  go_enter Tryz.func146, Tryz.ntmps146
  go_wp2_with (go_at_call 157; (with_reducible refine D.mono ?_); rintro e w' ⟨rfl, hB'⟩)
  go_ret
  exact ⟨rfl, hB'⟩
set_option maxHeartbeats 800000 in
theorem may_calls (m : Int) (A : Option Addr) (c : Nat) (l : List S85) (w : World) (hr : Kd.C k85 w A l.length l) (hlen : l.length ≤ 64) (hall : ∀ k (h : k < l.length), WOk l[k]) (hm1 : 1 ≤ m) (hm2 : m ≤ 64) :
    Calls Tryz.prog 125 #[.int .i64 m, .slice A l.length c] w fun e w' => e = .returned (.bool true) ∧ Below w.heap.size w w' := by
  have D := wcontains_calls A c l w hr hlen hall
  have g1 : decide (m ≥ 1) = true := by simpa using hm1
  have g2 : decide (m ≤ 64) = true := by simpa using hm2
  have g3 : decide ((l.length : Int) ≤ 64) = true := by simp; omega
  clear hr hall hm1 hm2
  go_enter Tryz.func125, Tryz.ntmps125
  go_wp2_with (go_at_call 146; (with_reducible refine D.mono ?_); rintro e w' ⟨rfl, hB'⟩)
  go_ret
  exact ⟨rfl, hB'⟩
def sumUp (l : List S85) (k : Nat) : Nat → Int
  | 0 => 0
  | i + 1 => sumUp l k i + (if i = k then 0 else takesW (l.getD i z85) (l.getD k z85))
def oneW (m : Int) (l : List S85) (k : Nat) : Bool := decide (sumUp l k l.length < m * roomW (l.getD k z85))
def allW (m : Int) (l : List S85) : Bool := (List.range l.length).all (oneW m l)
theorem sumUp_bnd {l : List S85} {k : Nat} (hk : k < l.length) (hall : ∀ k (h : k < l.length), WOk l[k]) : ∀ i, i ≤ l.length → 0 ≤ sumUp l k i ∧ sumUp l k i ≤ 2147483648 * i := by
  intro i
  induction i with
  | zero => intro _; exact ⟨Int.le_refl _, by simp [sumUp]⟩
  | succ i ih =>
    intro hi
    obtain ⟨a, b⟩ := ih (by omega)
    have e1 : l.getD i z85 = l[i]'(by omega) := by simp [show i < l.length by omega]
    have e2 : l.getD k z85 = l[k] := by simp [hk]
    have h := takesW_bnd (hall i (by omega)) (hall k hk)
    rw [sumUp, e1, e2]
    split <;> omega
set_option maxHeartbeats 1600000 in
set_option maxRecDepth 100000 in
theorem one_calls (m : Int) (A : Option Addr) (c : Nat) (l : List S85) (k : Nat) (w : World) (hr : Kd.C k85 w A l.length l) (hlen : l.length ≤ 64) (hall : ∀ k (h : k < l.length), WOk l[k]) (hm1 : 1 ≤ m) (hm2 : m ≤ 64) (hk : k < l.length) :
    Calls Tryz.prog 126 #[.int .i64 m, .slice A l.length c, .int .i64 k] w fun e w' => e = .returned (.tuple #[.bool (oneW m l k), .int .i64 0]) ∧ Below w.heap.size w w' := by
  have D := may_calls m A c l w hr hlen hall hm1 hm2
  have HR := Lib.hid hr
  have HA := Lib.hid hall
  have HO : Hid (oneW m l k = decide (sumUp l k l.length < m * roomW l[k])) := Lib.hid (by unfold oneW; simp [hk])
  have hko := hall k hk
  have hSB := sumUp_bnd hk hall
  have HSB := Lib.hid hSB
  have DR := fun w => room_calls l[k] w hko
  have DT := fun x w (h : WOk x) => takes_calls x l[k] w h hko
  have hrm : 1 ≤ roomW l[k] ∧ roomW l[k] ≤ 2147483648 := by obtain ⟨a, b, c, d⟩ := hko; unfold roomW; omega
  have HST : Hid (∀ i (h : i < l.length), sumUp l k (i + 1) = sumUp l k i + (if i = k then 0 else takesW l[i] l[k])) := Lib.hid (fun i h => by rw [sumUp]; simp [h, hk])
  have HTB : Hid (∀ i (h : i < l.length), 0 ≤ takesW l[i] l[k] ∧ takesW l[i] l[k] ≤ 2147483648) := Lib.hid (fun i h => takesW_bnd (hall i h) hko)
  have HK : Hid (∀ wx, Below w.heap.size w wx → ∃ ad, A = some ad ∧ wx.cell? (ad.add (k * 2)) = some (.int .i64 l[k].f0) ∧ wx.cell? ⟨(ad.add (k * 2)).block, (ad.add (k * 2)).off + 1, none⟩ = some (.int .i64 l[k].f1)) := Lib.hid (fun wx hb => by
    obtain ⟨ad, e, h0, h1⟩ := at_T85 (Kd.C_below hr hb) (k : Int) (by omega) (by omega)
    rw [Int.toNat_natCast, rd85 hk] at h0 h1
    exact ⟨ad, e, h0, h1⟩)
  have hkn : (0 : Int) ≤ (k : Int) := Int.natCast_nonneg k
  have hkl : (k : Int) < (l.length : Int) := Int.ofNat_lt.2 hk
  have gk1 : decide ((k : Int) < 0) = false := by simp
  have gk2 : decide ((k : Int) ≥ (l.length : Int)) = false := by simp; omega
  generalize oneW m l k = res at *
  generalize hok : l[k] = o at *
  obtain ⟨r, s⟩ := o
  unfold agg85 at DR DT
  clear hr hall hko hSB hok
  generalize roomW ⟨r, s⟩ = rm at *
  have hmul : 0 ≤ m * rm := Int.mul_nonneg (by omega) (by omega)
  have hmul2 : m * rm ≤ 64 * 2147483648 := Int.mul_le_mul hm2 hrm.2 (by omega) (by omega)
  have wm : IntKind.i64.wrap (m * rm) = m * rm := by rw [i64_w]; unfold Go.RowKit.wrap64; omega
  go_enter Tryz.func126, Tryz.ntmps126
  go_wp2_with (go_at_call 125; (with_reducible refine D.mono ?_); rintro e w1 ⟨rfl, hB1⟩; have HB1 := Lib.hid hB1; clear hB1)
  go_loopw [8, 29] (fun v8 v29 wr => ∃ i : Nat, v29 = .int .i64 i ∧ i ≤ l.length ∧ v8 = .int .i64 (sumUp l k i) ∧ Hid (Below w.heap.size w wr)) (fun _ v29 _ => l.length - (intOf v29).toNat)
  case atStart => exact ⟨0, rfl, Nat.zero_le _, rfl, HB1⟩
  case round =>
    obtain ⟨i, rfl, hi, rfl, HB⟩ := hrel
    by_cases hlt : i < l.length
    · obtain ⟨ad, rfl, h0, h1⟩ := at_T85 (Kd.C_below HR.out HB.out) (i : Int) (by omega) (by omega)
      rw [Int.toNat_natCast, rd85 hlt] at h0 h1
      have hx := HA.out i hlt
      have hst := HST.out i hlt
      have htb := HTB.out i hlt
      have hsb := HSB.out i hi
      have b0 : (0 : Int) ≤ (i : Int) := by omega
      have b1 : (i : Int) < (l.length : Int) := by omega
      generalize l[i] = x at *
      have DX := fun w => DT x w hx
      obtain ⟨q, p⟩ := x
      dsimp only at h0 h1 DX
      by_cases hik : i = k
      · have g1 : ((i : Int) != (k : Int)) = false := by simp [hik]
        rw [if_pos hik] at hst
        have HST2 := Lib.hid hst
        clear hst hik
        go_wp2
        go_roundw
        case rel => exact ⟨i + 1, by go_num, by omega, by rw [HST2.out]; simp, Lib.hid (HB.out.trans (below_alloc (Below.refl _ _) _ |>.mono HB.out.size))⟩
        case measure => simp [intOf]; omega
      · have g1 : ((i : Int) != (k : Int)) = true := by simp; omega
        rw [if_neg hik] at hst
        have HST2 := Lib.hid hst
        clear hst hik
        generalize takesW ⟨q, p⟩ ⟨r, s⟩ = tk at *
        have wt : IntKind.i64.wrap (sumUp l k i + tk) = sumUp l k i + tk := by rw [i64_w]; unfold Go.RowKit.wrap64; omega
        generalize sumUp l k i = su at *
        go_upto_region 8 with fail
        have HBA : Hid (Below w.heap.size w (wr.alloc (.cells #[.int .i64 q, .int .i64 p] 85))) := Lib.hid (HB.out.trans (below_alloc (Below.refl _ _) _ |>.mono HB.out.size))
        have HXA : Hid ((wr.alloc (.cells #[.int .i64 q, .int .i64 p] 85)).heap[wr.heap.size]? = some (.cells #[.int .i64 q, .int .i64 p] 85 (0, 0))) := Lib.hid (blk_new _ _)
        generalize hwb : wr.alloc (.cells #[.int .i64 q, .int .i64 p] 85) = wb at *
        clear hwb
        obtain ⟨ad2, e2, k0, k1⟩ := HK.out wb HBA.out
        injection e2 with e2
        subst e2
        refine start_ (n := 11) (S := fun w' => Hid (w'.heap[wr.heap.size]? = some (.cells #[.int .i64 q, .int .i64 p] 85 (0, 0))) ∧ w'.cell? (ad.add (k * 2)) = some (.int .i64 r) ∧ w'.cell? ⟨(ad.add (k * 2)).block, (ad.add (k * 2)).off + 1, none⟩ = some (.int .i64 s) ∧ Hid (Below wb.drew.heap.size wb.drew w')) (ds := []) #[false, false, false, false, false, false, false, false, false, false, false] (by kernel_rfl) rfl rfl ⟨(Lib.hid (show wb.drew.heap[wr.heap.size]? = _ from HXA.out)), (show wb.drew.cell? _ = _ from k0), (show wb.drew.cell? _ = _ from k1), (Lib.hid (Below.refl wb.drew.heap.size wb.drew))⟩ (fun hHeld => ?_)
        refine with_tabW wone.tab8 wone.bits8 (fun HT_ HW_ => ?_)
        have hbd : Hid (Below wb.heap.size wb wb.drew) := Lib.hid ⟨rfl, rfl, rfl, Nat.le_refl _, fun _ _ => rfl⟩
        have hsd : wb.heap.size = wb.drew.heap.size := rfl
        generalize hwd : wb.drew = wd at *
        clear hwd
        refine pst (i := 1) (N := some 39) HT_ (h := ?_)
        refine pst (i := 2) (N := some 40) HT_ (h := ?_)
        refine pst (i := 3) (N := some 41) HT_ (h := ?_)
        refine tst (i := 0) (N := some 38) HT_ HW_ hHeld (hy := by (rintro w' ⟨s0, s1, s2, s3⟩; have e0 := (blk_cell s0.out 0).trans rfl; have e1 := (blk_cell s0.out 1).trans rfl); go_simp; with_reducible rfl) (h := ?_)
        refine tst (i := 4) (N := some 42) HT_ HW_ hHeld (hy := by (rintro w' ⟨s0, s1, s2, s3⟩; have e0 := (blk_cell s0.out 0).trans rfl; have e1 := (blk_cell s0.out 1).trans rfl); go_simp; with_reducible rfl) (h := ?_)
        refine one_ (i := 5) (N := some 43) #[true, true, true, true, true, true, false, false, false, false, false] rfl rfl (one_of HT_.out (by kernel_rfl)) (by decide) (fun K hK => ?_)
        refine goes_ Tryz.func147 (by kernel_rfl) rfl #[.agg #[.int .i64 q, .int .i64 p], .agg #[.int .i64 r, .int .i64 s]] (by rfl) rfl rfl (by simp only [List.map_toArray, List.map_cons, List.map_nil]; rfl) ?_
        with_reducible refine (DX _).mono ?_
        rintro e w5 ⟨rfl, hB5⟩
        refine ⟨_, rfl, ?_⟩
        refine hK.out _ _ ⟨(Lib.hid (blk_below hHeld.1.out hB5)), ((hB5.cell (World.block_lt_of_cell? _ _ hHeld.2.1)).trans hHeld.2.1), ((hB5.cell (World.block_lt_of_cell? _ _ hHeld.2.2.1)).trans hHeld.2.2.1), (Lib.hid (hHeld.2.2.2.out.trans (hB5.mono hHeld.2.2.2.out.size)))⟩ (fun hHeld => ?_)
        clear hK K
        refine norm_ (a' := ?_) ?_ ?_
        rotate_left
        · show Act.put _ (some 43) _ = _
          simp only [Act.put, List.setIfInBounds_toArray, List.set_cons_zero, List.set_cons_succ, i64_w, i32_w]
          rfl
        refine pst (i := 6) (N := some 37) HT_ (h := ?_)
        refine pst (i := 7) (N := some 44) HT_ (h := ?_)
        refine pst (i := 8) (N := some 45) HT_ (h := ?_)
        refine pst (i := 9) (N := some 11) HT_ (h := ?_)
        refine pst (i := 10) (N := some 12) HT_ (h := ?_)
        refine done_ (done_of HT_.out (by kernel_rfl)) ?_
        go_wp2
        go_roundw
        case rel => exact ⟨i + 1, by go_num, by omega, by rw [HST2.out], Lib.hid (HBA.out.trans ((hbd.out.trans (hHeld.2.2.2.out.mono hbd.out.size)).mono HBA.out.size))⟩
        case measure => simp [intOf]; omega
    · obtain rfl : i = l.length := by omega
      obtain ⟨ad2, rfl, k0, k1⟩ := HK.out wr HB.out
      go_wp2_with (go_at_call 148; (with_reducible refine (DR _).mono ?_); rintro e w3 ⟨rfl, hB3⟩; have HB3 := Lib.hid (HB.out.trans (hB3.mono HB.out.size)); clear hB3)
      go_ret2
      exact ⟨by rw [HO.out]; rfl, HB3.out⟩
set_option maxHeartbeats 1600000 in
theorem all_calls (m : Int) (A : Option Addr) (c : Nat) (l : List S85) (w : World) (hr : Kd.C k85 w A l.length l) (hlen : l.length ≤ 64) (hall : ∀ k (h : k < l.length), WOk l[k]) (hm1 : 1 ≤ m) (hm2 : m ≤ 64) :
    Calls Tryz.prog 113 #[.int .i64 m, .slice A l.length c] w fun e w' => e = .returned (.tuple #[.bool (allW m l), .int .i64 0]) ∧ Below w.heap.size w w' := by
  have D := may_calls m A c l w hr hlen hall hm1 hm2
  have DO := fun k wx (hk : k < l.length) (hb : Below w.heap.size w wx) => one_calls m A c l k wx (Kd.C_below hr hb) hlen hall hm1 hm2 hk
  clear hr hall
  go_enter Tryz.func113, Tryz.ntmps113
  go_wp2_with (go_at_call 125; (with_reducible refine D.mono ?_); rintro e w1 ⟨rfl, hB1⟩; have HB1 := Lib.hid hB1; clear hB1)
  go_loopw [15] (fun v15 wr => ∃ i : Nat, v15 = .int .i64 i ∧ i ≤ l.length ∧ (∀ k, k < i → oneW m l k = true) ∧ Hid (Below w.heap.size w wr)) (fun v15 _ => l.length - (intOf v15).toNat)
  case atStart => exact ⟨0, rfl, Nat.zero_le _, fun k hk => by omega, HB1⟩
  case round =>
    obtain ⟨i, rfl, hi, hone, HB⟩ := hrel
    have HONE := Lib.hid hone
    clear hone
    by_cases hlt : i < l.length
    · have DX := DO i wr hlt HB.out
      cases h1 : oneW m l i with
      | true =>
        rw [h1] at DX
        have H1 := Lib.hid h1
        clear h1
        go_wp2_with (go_at_call 126; (with_reducible refine DX.mono ?_); rintro e w3 ⟨rfl, hB3⟩; have HB3 := Lib.hid (HB.out.trans (hB3.mono HB.out.size)); clear hB3)
        go_roundw
        case rel => exact ⟨i + 1, by go_num, by omega, fun k hk => by
          rcases Nat.lt_or_ge k i with h | h
          · exact HONE.out k h
          · have : k = i := by omega
            subst this
            exact H1.out, HB3⟩
        case measure => simp [intOf]; omega
      | false =>
        rw [h1] at DX
        have H1 := Lib.hid h1
        clear h1
        go_wp2_with (go_at_call 126; (with_reducible refine DX.mono ?_); rintro e w3 ⟨rfl, hB3⟩; have HB3 := Lib.hid (HB.out.trans (hB3.mono HB.out.size)); clear hB3)
        go_ret2
        refine ⟨?_, HB3.out⟩
        have e : allW m l = false := by
          unfold allW
          rw [List.all_eq_false]
          exact ⟨i, List.mem_range.2 hlt, by rw [H1.out]; simp⟩
        rw [e]
        rfl
    · obtain rfl : i = l.length := by omega
      go_wp2
      go_ret2
      refine ⟨?_, HB.out⟩
      have e : allW m l = true := by
        unfold allW
        rw [List.all_eq_true]
        exact fun k hk => HONE.out k (List.mem_range.1 hk)
      rw [e]
      rfl
def bfit.T1 : Bool × List (List Nat × List Nat) := (true, [([], []), ([0], [0]), ([1], [1]), ([2], [2]), ([], []), ([], []), ([], []), ([5, 6], [5, 6]), ([7, 7], [7]), ([4, 8, 8], [4, 8]), ([3, 9, 9], [3, 9]), ([10], [10]), ([11], [11]), ([11], [11]), ([12, 10, 0, 1, 2, 3, 4, 5, 6, 7, 8, 9, 10, 11, 12], [12]), ([13, 14, 0, 1, 2, 3, 4, 5, 6, 7, 8, 9, 10, 11, 12, 13, 14], [13])])
def bfit.B1 : List Nat := [0, 1, 3, 7, 0, 0, 0, 96, 224, 496, 1023, 2047, 4095, 4095, 8191, 32767]
theorem bfit.tab1 : rtab .any (opsOf Tryz.f97 1) = bfit.T1 := by kernel_rfl
theorem bfit.bits1 : waitsOk bfit.T1.2 bfit.B1 = true := by kernel_rfl
theorem info85 : (Tryz.prog.info? 85).map (fun i => (i.zero, i.size, i.bytes)) = some (some (.agg #[.int .i64 0, .int .i64 0]), 2, 16) := by kernel_rfl
theorem rd157 {l : List S157} {k : Nat} (h : k < l.length) : rd_T157 l (k : Int) = l[k] := by simp [rd_T157, h]
set_option maxHeartbeats 400000 in
theorem eodd_calls (x : S157) (b : Nat) (id : Int) (w : World) (hb : w.cell? ⟨b, 0, none⟩ = some (.int .i64 id)) (hne : x.f0 ≠ id) :
    Calls Tryz.prog 95 #[.agg #[.int .i64 x.f0, .int .i64 x.f1.f0, .int .i64 x.f1.f1, .int .i64 x.f2], .pointer (some ⟨b, 0, none⟩)] w fun e w' => e = .returned (.bool false) ∧ Below w.heap.size w w' := by
  have t0 := fun o => alloc_cell hb o
  have g : (x.f0 == id) = false := by simpa using hne
  clear hb hne
  go_enter Tryz.func95, Tryz.ntmps95
  go_wp2
  go_ret
  exact ⟨rfl, below_alloc (Below.refl _ _) _⟩
set_option maxHeartbeats 800000 in
theorem eindex_calls (A : Option Addr) (c : Nat) (l : List S157) (b : Nat) (id : Int) (w : World) (hb : w.cell? ⟨b, 0, none⟩ = some (.int .i64 id)) (hr : Kd.C k157 w A l.length l) (hlen : l.length ≤ 64) (hall : ∀ k (h : k < l.length), l[k].f0 ≠ id) :
    Calls Tryz.prog 94 #[.slice A l.length c, .func (.func 95) #[] #[.pointer (some ⟨b, 0, none⟩)]] w fun e w' => e = .returned (.int .i64 (-1)) ∧ Below w.heap.size w w' := by
  have HR := Lib.hid hr
  have HA := Lib.hid hall
  have HC := Lib.hid hb
  clear hr hall hb
  go_enter Tryz.func94, Tryz.ntmps94
  go_wp2
  go_loopw [8] (fun v8 wr => ∃ k : Nat, v8 = .int .i64 k ∧ k ≤ l.length ∧ Hid (Below w.heap.size w wr)) (fun v8 _ => l.length - (intOf v8).toNat)
  case atStart => exact ⟨0, rfl, Nat.zero_le _, Below.refl _ _⟩
  case round =>
    obtain ⟨k, rfl, hk, HB⟩ := hrel
    by_cases hlt : k < l.length
    · obtain ⟨ad, rfl, h0, h1, h2, h3⟩ := at_T157 (Kd.C_below HR.out HB.out) (k : Int) (by omega) (by omega)
      rw [Int.toNat_natCast] at h0 h1 h2 h3
      have D := eodd_calls (rd_T157 l (k : Int)) b id wr ((HB.out.cell (World.block_lt_of_cell? _ _ HC.out)).trans HC.out) (by rw [rd157 hlt]; exact HA.out k hlt)
      generalize rd_T157 l (k : Int) = p at *
      obtain ⟨p0, ⟨p1, p2⟩, p3⟩ := p
      dsimp only at h0 h1 h2 h3 D
      go_wp2_with (go_at_call 95; (with_reducible refine D.mono ?_); rintro e w' ⟨rfl, hB'⟩; have HB' := Lib.hid (HB.out.trans (hB'.mono HB.out.size)); clear hB')
      go_roundw
      case rel => exact ⟨k + 1, by go_num, by omega, HB'⟩
      case measure => simp [intOf]; omega
    · obtain rfl : k = l.length := by omega
      go_wp2
      go_ret
      exact ⟨rfl, HB.out⟩
set_option maxHeartbeats 800000 in
theorem efind_calls (M : Int) (N : Nat) (A : Option Addr) (c : Nat) (l : List S157) (id : Int) (w : World) (hN : w.heap[N]? = some (.cells #[.int .i64 M, .slice A l.length c, .slice none 0 0] 116 (0, 0))) (hr : Kd.C k157 w A l.length l) (hlen : l.length ≤ 64) (hall : ∀ k (h : k < l.length), l[k].f0 ≠ id) :
    Calls Tryz.prog 66 #[.pointer (some ⟨N, 0, none⟩), .int .i64 id] w fun e w' => e = .returned (.int .i64 (-1)) ∧ Below w.heap.size w w' := by
  have hx := blk_below hN (below_alloc (Below.refl _ _) (.cells #[.int .i64 id] 3))
  have x1 := (blk_cell hx 1).trans rfl
  have HB0 : Hid (Below w.heap.size w (w.alloc (.cells #[.int .i64 id] 3))) := Lib.hid (below_alloc (Below.refl _ _) _)
  have D := eindex_calls A c l w.heap.size id (w.alloc (.cells #[.int .i64 id] 3)) ((blk_cell (blk_new w (.cells #[.int .i64 id] 3)) 0).trans rfl) (Kd.C_below hr HB0.out) hlen hall
  clear hN hr hall hx
  go_enter Tryz.func66, Tryz.ntmps66
  go_wp2_with (go_at_call 94; (with_reducible refine D.mono ?_); rintro e w1 ⟨rfl, hB1⟩; have HB1 := Lib.hid (HB0.out.trans (hB1.mono HB0.out.size)); clear hB1)
  go_ret
  exact ⟨rfl, HB1.out⟩
set_option maxHeartbeats 800000 in
theorem lingers_calls (M : Int) (N : Nat) (V : Value) (now : Int) (w : World) (hN : w.heap[N]? = some (.cells #[.int .i64 M, V, .slice none 0 0] 116 (0, 0))) :
    Calls Tryz.prog 96 #[.pointer (some ⟨N, 0, none⟩), .int .i64 now] w fun e w' => e = .returned (.slice none 0 0) ∧ Below w.heap.size w w' := by
  have x2 := (blk_cell hN 2).trans rfl
  clear hN
  go_enter Tryz.func96, Tryz.ntmps96
  go_wp2
  go_loopw [5, 13] (fun v5 v13 wr => v5 = .slice none 0 0 ∧ v13 = .int .i64 0 ∧ wr = w) (fun _ _ _ => 0)
  case atStart => exact ⟨rfl, rfl, rfl⟩
  case round =>
    obtain ⟨rfl, rfl, rfl⟩ := hrel
    go_wp2
    go_ret
    exact ⟨rfl, Below.refl _ _⟩
set_option maxHeartbeats 1600000 in
theorem pairs_calls (A : Option Addr) (c : Nat) (l : List S157) (w : World) (hr : Kd.C k157 w A l.length l) (hlen : l.length ≤ 64) :
    Calls Tryz.prog 98 #[.slice A l.length c] w fun e w' => ∃ v, e = .returned v ∧ k85.R 85 w' w.heap.size (fun _ => True) v (l.map S157.f1) ∧ Below w.heap.size w w' := by
  have HR := Lib.hid hr
  clear hr
  go_enter Tryz.func98, Tryz.ntmps98
  go_wp2
  go_loopw [3, 8] (fun v3 v8 wr => ∃ k : Nat, v8 = .int .i64 k ∧ k ≤ l.length ∧ Hid (k85.R 85 wr w.heap.size (fun _ => True) v3 ((l.take k).map S157.f1)) ∧ Hid (Below w.heap.size w wr)) (fun _ v8 _ => l.length - (intOf v8).toNat)
  case atStart => exact ⟨0, rfl, Nat.zero_le _, Lib.hid (Kd.R_nil _ _ _ _ _), Below.refl _ _⟩
  case round =>
    obtain ⟨k, rfl, hk, HO, HB⟩ := hrel
    by_cases hlt : k < l.length
    · obtain ⟨ad, rfl, h0, h1, h2, h3⟩ := at_T157 (Kd.C_below HR.out HB.out) (k : Int) (by omega) (by omega)
      rw [Int.toNat_natCast, rd157 hlt] at h0 h1 h2 h3
      have HTK : Hid ((l.take (k + 1)).map S157.f1 = (l.take k).map S157.f1 ++ [l[k].f1]) := Lib.hid (by rw [List.take_succ_eq_append_getElem hlt, List.map_append]; rfl)
      have hl2 : ((l.take k).map S157.f1).length ≤ 64 := by rw [List.length_map, List.length_take]; omega
      generalize (l.take k).map S157.f1 = ps at *
      generalize l[k] = p at *
      obtain ⟨p0, ⟨p1, p2⟩, p3⟩ := p
      dsimp only at h0 h1 h2 h3
      go_wp2_with ((with_reducible refine gate_builtin (b := .append) (xs := #[.tmp 12, .tmp 15]) rfl ?_); at_builtin; refine Kd.R_append k85 (w0 := w) w.heap.size rfl (.tmp 12) (.tmp 15) 24 85 (.agg #[.int .i64 0, .int .i64 0]) 16 rfl Tryz.underlying24 info85 rfl (by decide) (by omega) _ ps (⟨p1, p2⟩ : S85) [.int .i64 p1, .int .i64 p2] (fun _ => True) (fun _ => False) rfl (by first | (go_simp; done) | (go_simp; rfl)) ?aP (fun _ hk => hk.elim) ?aF ?aO ?aB ?aS ?aL ?_; (case aP => exact k85_mkM _ _ _ _); (case aF => exact (fun _ _ => trivial)); (case aO => exact Kd.R_alloc HO.out _); (case aB => exact below_alloc HB.out _); (case aS => exact (below_alloc HB.out _).size); (case aL => omega); intro v5 w5 hR5 hB5 hg5 hat5; have HR5 := Lib.hid hR5; have HB5 := Lib.hid hB5; clear hR5 hB5 hg5 hat5)
      go_roundw
      case rel => exact ⟨k + 1, by go_num, by omega, Lib.hid (by rw [HTK.out]; exact HR5.out), HB5⟩
      case measure => first | (simp [intOf]; done) | (simp [intOf]; omega)
    · obtain rfl : k = l.length := by omega
      rw [List.take_length] at HO
      go_wp2
      go_ret
      exact ⟨_, rfl, HO.out, HB.out⟩
set_option maxHeartbeats 1600000 in
set_option maxRecDepth 100000 in
theorem bfits_calls (M : Int) (N : Nat) (V v : Value) (ps : List S85) (now : Int) (base : Nat) (w0 w : World) (hN : w.heap[N]? = some (.cells #[.int .i64 M, V, .slice none 0 0] 116 (0, 0))) (hNb : N < base) (hR : k85.R 85 w base (fun _ => True) v ps) (hlen : ps.length ≤ 64) (hall : ∀ k (h : k < ps.length), WOk ps[k]) (hm1 : 1 ≤ M) (hm2 : M ≤ 64) (hB : Below base w0 w) (hb : base ≤ w.heap.size) :
    Calls Tryz.prog 97 #[.pointer (some ⟨N, 0, none⟩), v, .int .i64 now] w fun e w' => e = .returned (.bool (allW M ps)) ∧ Below base w0 w' := by
  have DL := fun wx (h : wx.heap[N]? = some (.cells #[.int .i64 M, V, .slice none 0 0] 116 (0, 0))) => lingers_calls M N V now wx h
  have DP := fun wx => pairs_calls none 0 [] wx (C_nil' _ _ _) (by simp)
  have DA := fun A c wx (h : Kd.C k85 wx A ps.length ps) => all_calls M A c ps wx h hlen hall hm1 hm2
  have HN := Lib.hid hN
  have HR := Lib.hid hR
  have HB := Lib.hid hB
  clear hN hR hall hB
  simp only [List.length_nil, List.map_nil] at DP
  generalize allW M ps = res at *
  go_enter Tryz.func97, Tryz.ntmps97
  have HRD : Hid (k85.R 85 w.drew base (fun _ => True) v ps) := Lib.hid (Kd.R_drew HR.out)
  have hbs : base ≤ w.drew.heap.size := hb
  go_upto_region 1 with fail
  refine start_ (n := 16) (S := fun w' => Hid (w'.heap[N]? = some (.cells #[.int .i64 M, V, .slice none 0 0] 116 (0, 0))) ∧ Hid (Below base w.drew w')) (ds := [10]) #[false, false, false, false, false, false, false, false, false, false, false, false, false, false, false, false] (by kernel_rfl) rfl rfl ⟨(Lib.hid (show w.drew.heap[N]? = _ from HN.out)), (Lib.hid (Below.refl base w.drew))⟩ (fun hHeld => ?_)
  refine with_tabW bfit.tab1 bfit.bits1 (fun HT_ HW_ => ?_)
  have hbd : Hid (Below w.heap.size w w.drew) := Lib.hid ⟨rfl, rfl, rfl, Nat.le_refl _, fun _ _ => rfl⟩
  have hsd : w.heap.size = w.drew.heap.size := rfl
  generalize hwd : w.drew = wd at *
  clear hwd
  refine pst (i := 0) (N := some 10) HT_ (h := ?_)
  refine pst (i := 1) (N := some 11) HT_ (h := ?_)
  refine pst (i := 2) (N := some 12) HT_ (h := ?_)
  refine pst (i := 4) (N := some 14) HT_ (h := ?_)
  refine pst (i := 5) (N := some 15) HT_ (h := ?_)
  refine pst (i := 6) (N := some 16) HT_ (h := ?_)
  refine tst (i := 3) (N := some 13) HT_ HW_ hHeld (hy := by (rintro w' ⟨s0, s1⟩; have e0 := (blk_cell s0.out 0).trans rfl); go_simp; with_reducible rfl) (h := ?_)
  refine one_ (i := 7) (N := some 17) #[true, true, true, true, true, true, true, true, false, false, false, false, false, false, false, false] rfl rfl (one_of HT_.out (by kernel_rfl)) (by decide) (fun K hK => ?_)
  refine goes_ Tryz.func96 (by kernel_rfl) rfl #[.pointer (some ⟨N, 0, none⟩), .int .i64 now] (by rfl) rfl rfl (by simp only [List.map_toArray, List.map_cons, List.map_nil]; rfl) ?_
  with_reducible refine (DL _ hHeld.1.out).mono ?_
  rintro e w3 ⟨rfl, hB3⟩
  refine ⟨_, rfl, ?_⟩
  refine hK.out _ _ ⟨(Lib.hid (blk_below hHeld.1.out hB3)), (Lib.hid (hHeld.2.out.trans (hB3.mono (Nat.le_trans hbs hHeld.2.out.size))))⟩ (fun hHeld => ?_)
  clear hK K
  refine norm_ (a' := ?_) ?_ ?_
  rotate_left
  · show Act.put _ (some 17) _ = _
    simp only [Act.put, List.setIfInBounds_toArray, List.set_cons_zero, List.set_cons_succ, i64_w, i32_w]
    rfl
  refine one_ (i := 8) (N := some 18) #[true, true, true, true, true, true, true, true, true, false, false, false, false, false, false, false] rfl rfl (one_of HT_.out (by kernel_rfl)) (by decide) (fun K hK => ?_)
  refine goes_ Tryz.func98 (by kernel_rfl) rfl #[.slice none 0 0] (by rfl) rfl rfl (by simp only [List.map_toArray, List.map_cons, List.map_nil]; rfl) ?_
  with_reducible refine (DP _).mono ?_
  rintro e w4 ⟨v4, rfl, hR4, hB4⟩
  refine ⟨_, rfl, ?_⟩
  obtain ⟨AL, cL, eL, hcL, hCL⟩ := Kd.R_reads hR4
  simp only [List.length_nil] at eL hCL
  subst eL
  have HCL := Lib.hid hCL
  refine hK.out _ _ ⟨(Lib.hid (blk_below hHeld.1.out hB4)), (Lib.hid (hHeld.2.out.trans (hB4.mono (Nat.le_trans hbs hHeld.2.out.size))))⟩ (fun hHeld => ?_)
  clear hK K
  refine norm_ (a' := ?_) ?_ ?_
  rotate_left
  · show Act.put _ (some 18) _ = _
    simp only [Act.put, List.setIfInBounds_toArray, List.set_cons_zero, List.set_cons_succ, i64_w, i32_w]
    rfl
  refine one_ (i := 9) (N := some 19) #[true, true, true, true, true, true, true, true, true, true, false, false, false, false, false, false] rfl rfl (one_of HT_.out (by kernel_rfl)) (by decide) (fun K hK => ?_)
  refine Kd.R_append_rows_step k85 (Rr := k85.K w4) (w0 := w4) base (by rfl) (.tmp 14) (.tmp 18) 24 85 (.agg #[.int .i64 0, .int .i64 0]) 16 rfl Tryz.underlying24 info85 rfl (by decide) (by omega) v ps [] AL 0 cL (fun _ => True) (fun _ => False) (by rfl) (by rfl) (Kd.R_below (Kd.R_below HRD.out hB3) hB4) HCL.out (fun x cs h => by obtain rfl := k85_open h; exact k85_mkM _ _ _ _) (fun _ h => h.elim) (fun _ _ => trivial) (Below.refl _ _) (Nat.le_trans hbs hHeld.2.out.size) (by omega) ?_
  intro v5 w5 hR5 hB5 hg5 hat5
  rw [List.append_nil] at hR5
  obtain ⟨A5, c5, e5, _, hC5⟩ := Kd.R_reads hR5
  subst e5
  have HC5 := Lib.hid hC5
  refine hK.out _ _ ⟨(Lib.hid ((hB5.block N hNb).trans hHeld.1.out)), (Lib.hid (hHeld.2.out.trans hB5))⟩ (fun hHeld => ?_)
  clear hK K
  refine norm_ (a' := ?_) ?_ ?_
  rotate_left
  · show Act.put _ (some 19) _ = _
    simp only [Act.put, List.setIfInBounds_toArray, List.set_cons_zero, List.set_cons_succ, i64_w, i32_w]
    rfl
  refine last_ (i := 10) (N := some 20) #[true, true, true, true, true, true, true, true, true, true, true, false, false, false, false, false] rfl rfl (one_of HT_.out (by kernel_rfl)) (by decide) (fun K hK => ?_)
  refine goes_ Tryz.func113 (by kernel_rfl) rfl #[.int .i64 M, .slice A5 ps.length c5] (by rfl) rfl rfl (by simp only [List.map_toArray, List.map_cons, List.map_nil]; rfl) ?_
  with_reducible refine (DA A5 c5 _ HC5.out).mono ?_
  rintro e w6 ⟨rfl, hB6⟩
  refine ⟨_, rfl, ?_⟩
  have HBF := Lib.hid ((HB.out.trans (hbd.out.mono hb)).trans (hHeld.2.out.trans (hB6.mono (Nat.le_trans hbs hHeld.2.out.size))))
  refine hK.out _ _ ?_
  clear hK K
  refine norm_ (a' := ?_) ?_ ?_
  rotate_left
  · show Act.put _ (some 20) _ = _
    simp only [Act.put, List.setIfInBounds_toArray, List.set_cons_zero, List.set_cons_succ, i64_w, i32_w]
    rfl
  refine pst (i := 11) (N := some 9) HT_ (h := ?_)
  refine pst (i := 12) (N := some 21) HT_ (h := ?_)
  refine pst (i := 13) (N := some 22) HT_ (h := ?_)
  refine pst (i := 14) (N := some 7) HT_ (h := ?_)
  refine pst (i := 15) (N := some 8) HT_ (h := ?_)
  refine done_ (done_of HT_.out (by kernel_rfl)) ?_
  cases res
  all_goals
    go_wp2
    go_ret
    exact ⟨rfl, HBF.out⟩
def bask.T3 : Bool × List (List Nat × List Nat) := (true, [([], []), ([0], [0]), ([1], [1]), ([2], [2]), ([3], [3]), ([4], [4]), ([5], [5]), ([6], [6]), ([7, 6], [6, 7]), ([8, 6], [6, 8]), ([9, 6], [6, 9]), ([10, 6], [6, 10]), ([6], [6]), ([6], [6]), ([12, 13, 6, 6], [6, 12, 13]), ([14, 6], [6, 14]), ([11, 15, 6], [6, 11, 15]), ([16, 6], [6, 16]), ([6, 17], [6, 17]), ([18, 14], [18])])
def bask.B3 : List Nat := [0, 1, 3, 7, 15, 31, 63, 127, 255, 511, 1023, 2047, 127, 127, 12415, 28799, 65535, 131071, 262143, 524287]
theorem bask.tab3 : rtab .any (opsOf Tryz.f67 3) = bask.T3 := by kernel_rfl
theorem bask.bits3 : waitsOk bask.T3.2 bask.B3 = true := by kernel_rfl
def bask.T5 : Bool × List (List Nat × List Nat) := (true, [([], []), ([], []), ([1], [1]), ([2], [2]), ([3], [3]), ([4], [4]), ([], []), ([6], [6]), ([5, 7, 5], [5, 7]), ([], []), ([0, 8, 9, 8], [0, 8, 9]), ([10], [10]), ([11, 10], [11])])
def bask.B5 : List Nat := [0, 0, 2, 6, 14, 30, 0, 64, 254, 0, 1023, 2047, 4095]
theorem bask.tab5 : rtab .any (opsOf Tryz.f67 5) = bask.T5 := by kernel_rfl
theorem bask.bits5 : waitsOk bask.T5.2 bask.B5 = true := by kernel_rfl
def bent.T8 : Bool × List (List Nat × List Nat) := (true, [([], []), ([], []), ([1], [1]), ([2], [2]), ([3], [3]), ([], []), ([], []), ([5, 6], [5, 6]), ([7], [7]), ([4, 8], [4, 8]), ([0, 0, 1, 2, 3, 4, 5, 6, 7, 8, 9], [0]), ([10, 0, 1, 2, 3, 4, 5, 6, 7, 8, 9], [10]), ([11, 9, 9, 0, 1, 2, 3, 4, 5, 6, 7, 8, 9], [9, 11])])
def bent.B8 : List Nat := [0, 0, 2, 6, 14, 0, 0, 96, 224, 510, 1023, 2047, 4095]
theorem bent.tab8 : rtab .any (opsOf Tryz.f36 8) = bent.T8 := by kernel_rfl
theorem bent.bits8 : waitsOk bent.T8.2 bent.B8 = true := by kernel_rfl
theorem lit85 (w : World) (q p : Int) : Kd.C k85 (w.alloc (.cells #[.int .i64 q, .int .i64 p] 85)) (some ⟨w.heap.size, 0, none⟩) 1 [(⟨q, p⟩ : S85)] := by
  refine ⟨rfl, by simp, fun _ => ⟨_, rfl, fun j x hx => ?_⟩⟩
  have hb := blk_new w (.cells #[.int .i64 q, .int .i64 p] 85)
  cases j with
  | zero =>
    simp only [List.getElem?_cons_zero, Option.some.injEq] at hx
    subst hx
    refine ⟨_, rfl, k85_mk _ _, fun i u hu => ?_⟩
    rw [Nat.zero_mul, Nat.zero_add, addr_at, Nat.zero_add, blk_cell hb]
    match i, hu with
    | 0, h => exact h
    | 1, h => exact h
    | i + 2, h => simp at h
  | succ j => simp at hx
def askC (M : Int) (l : List S157) (x : S85) : Int := if WOk x then (if allW M (l.map S157.f1 ++ [x]) then 0 else 7) else 1
set_option maxHeartbeats 1600000 in
set_option maxRecDepth 100000 in
theorem ask_calls (M : Int) (N : Nat) (A : Option Addr) (c : Nat) (l : List S157) (x : S85) (now : Int) (w : World) (hN : w.heap[N]? = some (.cells #[.int .i64 M, .slice A l.length c, .slice none 0 0] 116 (0, 0))) (hr : Kd.C k157 w A l.length l) (hlen : l.length ≤ 31) (hall : ∀ k (h : k < l.length), WOk l[k].f1) (hm1 : 1 ≤ M) (hm2 : M ≤ 64) (hnow : 0 ≤ now) :
    Calls Tryz.prog 67 #[.pointer (some ⟨N, 0, none⟩), agg85 x, .int .i64 now] w fun e w' => e = .returned (.int .i64 (askC M l x)) ∧ Below w.heap.size w w' := by
  have DG := fun w => wgood_calls x w
  have HN := Lib.hid hN
  have HR := Lib.hid hr
  have gn : decide (now < 0) = false := by simpa using hnow
  have HB0 : Hid (Below w.heap.size w (w.alloc (.cells #[.int .i64 x.f0, .int .i64 x.f1] 85))) := Lib.hid (below_alloc (Below.refl _ _) _)
  have HX0 : Hid ((w.alloc (.cells #[.int .i64 x.f0, .int .i64 x.f1] 85)).heap[w.heap.size]? = some (.cells #[.int .i64 x.f0, .int .i64 x.f1] 85 (0, 0))) := Lib.hid (blk_new _ _)
  by_cases hx : WOk x
  · have gx : decide (WOk x) = true := by simpa using hx
    rw [gx] at DG
    have hps : (l.map S157.f1 ++ [x]).length ≤ 64 := by simp; omega
    have hpl : (l.map S157.f1).length ≤ 31 := by rw [List.length_map]; exact hlen
    have hpw : ∀ k (h : k < (l.map S157.f1 ++ [x]).length), WOk (l.map S157.f1 ++ [x])[k] := by
      intro k h
      by_cases hk : k < l.length
      · rw [List.getElem_append_left (by simpa using hk), List.getElem_map]
        exact hall k hk
      · rw [List.getElem_append_right (by simp; omega)]
        simpa using hx
    have DL := fun wx (h : wx.heap[N]? = some (.cells #[.int .i64 M, .slice A l.length c, .slice none 0 0] 116 (0, 0))) => lingers_calls M N (.slice A l.length c) now wx h
    have DP := fun wx (hb : Below w.heap.size w wx) => pairs_calls A c l wx (Kd.C_below hr hb) (by omega)
    have DF := fun base v w1 wx hN hNb hR hB hb => bfits_calls M N (.slice A l.length c) v (l.map S157.f1 ++ [x]) now base w1 wx hN hNb hR hps hpw hm1 hm2 hB hb
    have HF : Hid (askC M l x = if allW M (l.map S157.f1 ++ [x]) then 0 else 7) := Lib.hid (by unfold askC; rw [if_pos hx])
    have g1 : decide ((l.length : Int) ≥ 32) = false := by simp; omega
    have hw0 : IntKind.i64.wrap ((l.length : Int) + 0) = (l.length : Int) := by rw [i64_w]; unfold Go.RowKit.wrap64; omega
    have hwl : Go.RowKit.wrap64 (l.length : Int) = (l.length : Int) := by unfold Go.RowKit.wrap64; omega
    have g2 : decide ((63 : Int) ≤ (l.length : Int)) = false := by simp; omega
    have g3 : decide ((l.length : Int) + 0 ≥ 63) = false := by simp; omega
    generalize askC M l x = fin at *
    generalize allW M (l.map S157.f1 ++ [x]) = res at *
    generalize l.map S157.f1 = pl at *
    obtain ⟨q, p⟩ := x
    dsimp only at HB0 HX0
    clear hN hr hall hx gx hps hpw
    go_enter Tryz.func67, Tryz.ntmps67
    go_upto_region 3 with (go_at_call 35; (with_reducible refine (DG _).mono ?_); rintro e w1 ⟨rfl, hB1⟩; have HX1 := Lib.hid (blk_below HX0.out hB1); have HB1 := Lib.hid (HB0.out.trans (hB1.mono HB0.out.size)); clear hB1)
    have HN1 := Lib.hid ((HB1.out.block N (blk_lt HN.out)).trans HN.out)
    refine start_ (n := 20) (S := fun w' => Hid (w'.heap[N]? = some (.cells #[.int .i64 M, .slice A l.length c, .slice none 0 0] 116 (0, 0))) ∧ Hid (Below w1.drew.heap.size w1.drew w')) (ds := []) #[false, false, false, false, false, false, false, false, false, false, false, false, false, false, false, false, false, false, false, false] (by kernel_rfl) rfl rfl ⟨(Lib.hid (show w1.drew.heap[N]? = _ from HN1.out)), (Lib.hid (Below.refl _ w1.drew))⟩ (fun hHeld => ?_)
    refine with_tabW bask.tab3 bask.bits3 (fun HT_ HW_ => ?_)
    have hbd : Hid (Below w1.heap.size w1 w1.drew) := Lib.hid ⟨rfl, rfl, rfl, Nat.le_refl _, fun _ _ => rfl⟩
    have hsd : w1.heap.size = w1.drew.heap.size := rfl
    generalize hwd : w1.drew = wd at *
    clear hwd
    refine pst (i := 0) (N := some 16) HT_ (h := ?_)
    refine pst (i := 1) (N := some 17) HT_ (h := ?_)
    refine pst (i := 2) (N := some 18) HT_ (h := ?_)
    refine tst (i := 3) (N := some 19) HT_ HW_ hHeld (hy := by (rintro w' ⟨s0, s1⟩; have e1 := (blk_cell s0.out 1).trans rfl); go_simp; with_reducible rfl) (h := ?_)
    refine pst (i := 4) (N := some 20) HT_ (h := ?_)
    refine pst (i := 5) (N := some 21) HT_ (h := ?_)
    refine pst (i := 6) (N := some 22) HT_ (h := ?_)
    refine pst (i := 7) (N := some 23) HT_ (h := ?_)
    refine pst (i := 8) (N := some 24) HT_ (h := ?_)
    refine pst (i := 9) (N := some 25) HT_ (h := ?_)
    refine pst (i := 12) (N := some 28) HT_ (h := ?_)
    refine pst (i := 13) (N := some 29) HT_ (h := ?_)
    refine tst (i := 10) (N := some 26) HT_ HW_ hHeld (hy := by (rintro w' ⟨s0, s1⟩; have e1 := (blk_cell s0.out 1).trans rfl); go_simp; with_reducible rfl) (h := ?_)
    refine pst (i := 11) (N := some 27) HT_ (h := ?_)
    refine one_ (i := 14) (N := some 30) #[true, true, true, true, true, true, true, true, true, true, true, true, true, true, true, false, false, false, false, false] rfl rfl (one_of HT_.out (by kernel_rfl)) (by decide) (fun K hK => ?_)
    refine goes_ Tryz.func96 (by kernel_rfl) rfl #[.pointer (some ⟨N, 0, none⟩), .int .i64 now] (by rfl) rfl rfl (by simp only [List.map_toArray, List.map_cons, List.map_nil]; rfl) ?_
    with_reducible refine (DL _ hHeld.1.out).mono ?_
    rintro e w3 ⟨rfl, hB3⟩
    refine ⟨_, rfl, ?_⟩
    refine hK.out _ _ ⟨(Lib.hid (blk_below hHeld.1.out hB3)), (Lib.hid (hHeld.2.out.trans (hB3.mono hHeld.2.out.size)))⟩ (fun hHeld => ?_)
    clear hK K
    refine norm_ (a' := ?_) ?_ ?_
    rotate_left
    · show Act.put _ (some 30) _ = _
      simp only [Act.put, List.setIfInBounds_toArray, List.set_cons_zero, List.set_cons_succ, i64_w, i32_w]
      rfl
    refine pst (i := 15) (N := some 31) HT_ (h := ?_)
    refine pst (i := 16) (N := some 32) HT_ (h := ?_)
    refine pst (i := 17) (N := some 33) HT_ (h := ?_)
    refine pst (i := 18) (N := some 34) HT_ (h := ?_)
    refine pst (i := 19) (N := some 15) HT_ (h := ?_)
    refine done_ (done_of HT_.out (by kernel_rfl)) ?_
    have HBF := Lib.hid (hbd.out.trans (hHeld.2.out.mono hbd.out.size))
    have HB3 := Lib.hid (HB1.out.trans (HBF.out.mono HB1.out.size))
    clear hHeld hB3 hbd hsd HT_ HW_
    have HX3 := Lib.hid (blk_below HX1.out HBF.out)
    have HN3 := Lib.hid (blk_below HN1.out HBF.out)
    have x0 : w3.cell? ⟨w.heap.size, 0, none⟩ = some (.int .i64 q) := (blk_cell HX3.out 0).trans rfl
    have x1 : w3.cell? ⟨w.heap.size, 1, none⟩ = some (.int .i64 p) := (blk_cell HX3.out 1).trans rfl
    have x2 : w3.cell? ⟨N, 1, none⟩ = some (.slice A l.length c) := (blk_cell HN3.out 1).trans rfl
    clear HX1 HX3 HN1
    go_upto_region 5 with fail
    refine start_ (n := 13) (S := fun w' => Hid (Below w3.heap.size w3 w')) (ds := []) #[false, false, false, false, false, false, false, false, false, false, false, false, false] (by kernel_rfl) rfl rfl ((Lib.hid (below_drew (Below.refl _ _)))) (fun hHeld => ?_)
    refine with_tabW bask.tab5 bask.bits5 (fun HT_ HW_ => ?_)
    have hbd : Hid (Below w3.heap.size w3 w3.drew) := Lib.hid ⟨rfl, rfl, rfl, Nat.le_refl _, fun _ _ => rfl⟩
    have hsd : w3.heap.size = w3.drew.heap.size := rfl
    generalize hwd : w3.drew = wd at *
    clear hwd
    refine pst (i := 0) (N := some 36) HT_ (h := ?_)
    refine pst (i := 1) (N := some 37) HT_ (h := ?_)
    refine pst (i := 2) (N := some 38) HT_ (h := ?_)
    refine pst (i := 3) (N := some 39) HT_ (h := ?_)
    refine pst (i := 9) (N := some 45) HT_ (h := ?_)
    refine tst (i := 4) (N := some 40) HT_ HW_ hHeld (hy := by (intro w' s0; have e0 := (s0.out.cell (World.block_lt_of_cell? _ _ x0)).trans x0; have e1 := (s0.out.cell (World.block_lt_of_cell? _ _ x1)).trans x1; have e2 := (s0.out.cell (World.block_lt_of_cell? _ _ x2)).trans x2); go_simp; with_reducible rfl) (h := ?_)
    refine tst (i := 6) (N := some 42) HT_ HW_ hHeld (hy := by (intro w' s0; have e0 := (s0.out.cell (World.block_lt_of_cell? _ _ x0)).trans x0; have e1 := (s0.out.cell (World.block_lt_of_cell? _ _ x1)).trans x1; have e2 := (s0.out.cell (World.block_lt_of_cell? _ _ x2)).trans x2); go_simp; with_reducible rfl) (h := ?_)
    refine join_ (σ := Value × Nat) 4 #[true, true, true, true, true, true, true, true, false, true, false, false, false] (fun s => [(41, s.1), (43, .slice (some ⟨s.2, 0, none⟩) 1 1)]) (fun s w' => Hid (k85.R 85 w' w3.heap.size (fun _ => True) s.1 pl) ∧ Hid (Kd.C k85 w' (some ⟨s.2, 0, none⟩) 1 [(⟨q, p⟩ : S85)]) ∧ Hid (Below w3.heap.size w3 w')) ?_ ?_
    rotate_left
    · intro hCont
      refine two_ (i := 5) (j := 7) (Ni := some 41) (Nj := some 43) #[true, true, true, true, true, true, true, false, false, true, false, false, false] #[true, true, true, true, true, false, true, true, false, true, false, false, false] rfl rfl rfl rfl (two_of HT_.out (by kernel_rfl)) (by decide) (by decide) (fun K hK => ?_) (fun K hK => ?_)
      · skip
        refine goes_ Tryz.func98 (by kernel_rfl) rfl #[.slice A l.length c] (by rfl) rfl rfl (by simp only [List.map_toArray, List.map_cons, List.map_nil]; rfl) ?_
        with_reducible refine (DP _ (HB3.out.trans (hHeld.out.mono HB3.out.size))).mono ?_
        rintro e w4 ⟨v4, rfl, hR4, hB4⟩
        refine ⟨_, rfl, ?_⟩
        have hR4 : k85.R 85 w4 w3.heap.size (fun _ => True) v4 pl := Kd.R_lower hR4 hHeld.out.size
        refine hK.out _ _ ((Lib.hid (hHeld.out.trans (hB4.mono hHeld.out.size)))) (fun hHeld => ?_)
        clear hK K
        refine norm_ (a' := ?_) ?_ ?_
        rotate_left
        · show Act.put _ (some 41) _ = _
          simp only [Act.put, List.setIfInBounds_toArray, List.set_cons_zero, List.set_cons_succ, i64_w, i32_w]
          rfl
        refine one_ (i := 7) (N := some 43) #[true, true, true, true, true, true, true, true, false, true, false, false, false] rfl rfl (one_of HT_.out (by kernel_rfl)) (by decide) (fun K hK => ?_)
        refine value_ (w1 := ?_) (v := ?_) (by rfl) rfl ?_ ?_
        rotate_left 2
        · go_simp
          constructor
          · rfl
          · rfl
        refine hK.out _ _ ((Lib.hid (hHeld.out.trans ((below_alloc (Below.refl _ _) _).mono hHeld.out.size)))) (fun hHeld => ?_)
        clear hK K
        refine norm_ (a' := ?_) ?_ ?_
        rotate_left
        · show Act.put _ (some 43) _ = _
          simp only [Act.put, List.setIfInBounds_toArray, List.set_cons_zero, List.set_cons_succ, i64_w, i32_w]
          rfl
        exact norm_ (by simp only [putAll, Act.put, List.setIfInBounds_toArray, List.set_cons_zero, List.set_cons_succ]) (hCont (v4, w4.heap.size) _ ⟨Lib.hid (Kd.R_alloc hR4 _), Lib.hid (lit85 w4 q p), hHeld⟩)
      · skip
        refine value_ (w1 := ?_) (v := ?_) (by rfl) rfl ?_ ?_
        rotate_left 2
        · go_simp
          constructor
          · rfl
          · rfl
        refine hK.out _ _ ((Lib.hid (hHeld.out.trans ((below_alloc (Below.refl _ _) _).mono hHeld.out.size)))) (fun hHeld => ?_)
        clear hK K
        refine norm_ (a' := ?_) ?_ ?_
        rotate_left
        · show Act.put _ (some 43) _ = _
          simp only [Act.put, List.setIfInBounds_toArray, List.set_cons_zero, List.set_cons_succ, i64_w, i32_w]
          rfl
        refine one_ (i := 5) (N := some 41) #[true, true, true, true, true, true, true, true, false, true, false, false, false] rfl rfl (one_of HT_.out (by kernel_rfl)) (by decide) (fun K hK => ?_)
        refine goes_ Tryz.func98 (by kernel_rfl) rfl #[.slice A l.length c] (by rfl) rfl rfl (by simp only [List.map_toArray, List.map_cons, List.map_nil]; rfl) ?_
        with_reducible refine (DP _ (HB3.out.trans (hHeld.out.mono HB3.out.size))).mono ?_
        rintro e w4 ⟨v4, rfl, hR4, hB4⟩
        refine ⟨_, rfl, ?_⟩
        have hR4 : k85.R 85 w4 w3.heap.size (fun _ => True) v4 pl := Kd.R_lower hR4 hHeld.out.size
        refine hK.out _ _ ((Lib.hid (hHeld.out.trans (hB4.mono hHeld.out.size)))) (fun hHeld => ?_)
        clear hK K
        refine norm_ (a' := ?_) ?_ ?_
        rotate_left
        · show Act.put _ (some 41) _ = _
          simp only [Act.put, List.setIfInBounds_toArray, List.set_cons_zero, List.set_cons_succ, i64_w, i32_w]
          rfl
        exact norm_ (by simp only [putAll, Act.put, List.setIfInBounds_toArray, List.set_cons_zero, List.set_cons_succ]) (hCont (v4, wd.heap.size) _ ⟨Lib.hid hR4, Lib.hid (Kd.C_below (lit85 wd q p) hB4), hHeld⟩)
    rintro ⟨v6, s6⟩ w6 ⟨hR6, hC6, hB6⟩
    dsimp only at hR6 hC6
    have hHeld : Hid (Below w3.heap.size w3 w6) := hB6
    refine norm_ (a' := ?_) ?_ ?_
    rotate_left
    · simp only [putAll, Act.put, List.setIfInBounds_toArray, List.set_cons_zero, List.set_cons_succ]
      rfl
    refine one_ (i := 8) (N := some 44) #[true, true, true, true, true, true, true, true, true, true, false, false, false] rfl rfl (one_of HT_.out (by kernel_rfl)) (by decide) (fun K hK => ?_)
    refine Kd.R_append_rows_step k85 (Rr := k85.K w6) (w0 := w6) w3.heap.size (by rfl) (.tmp 41) (.tmp 43) 24 85 (.agg #[.int .i64 0, .int .i64 0]) 16 rfl Tryz.underlying24 info85 rfl (by decide) (by omega) v6 pl [(⟨q, p⟩ : S85)] (some ⟨s6, 0, none⟩) 1 1 (fun _ => True) (fun _ => False) (by rfl) (by rfl) hR6.out hC6.out (fun x cs h => by obtain rfl := k85_open h; exact k85_mkM _ _ _ _) (fun _ h => h.elim) (fun _ _ => trivial) (Below.refl _ _) hHeld.out.size (by omega) ?_
    intro v7 w7 hR7 hB7 hg7 hat7
    have HR7 := Lib.hid hR7
    refine hK.out _ _ ((Lib.hid (hHeld.out.trans hB7))) (fun hHeld => ?_)
    clear hK K
    refine norm_ (a' := ?_) ?_ ?_
    rotate_left
    · show Act.put _ (some 44) _ = _
      simp only [Act.put, List.setIfInBounds_toArray, List.set_cons_zero, List.set_cons_succ, i64_w, i32_w]
      rfl
    refine one_ (i := 10) (N := some 46) #[true, true, true, true, true, true, true, true, true, true, true, false, false] rfl rfl (one_of HT_.out (by kernel_rfl)) (by decide) (fun K hK => ?_)
    refine goes_ Tryz.func97 (by kernel_rfl) rfl #[.pointer (some ⟨N, 0, none⟩), v7, .int .i64 now] (by rfl) rfl rfl (by simp only [List.map_toArray, List.map_cons, List.map_nil]; rfl) ?_
    with_reducible refine (DF w3.heap.size v7 w3 _ ((hHeld.out.block N (blk_lt HN3.out)).trans HN3.out) (blk_lt HN3.out) HR7.out hHeld.out hHeld.out.size).mono ?_
    rintro e w8 ⟨rfl, hB8⟩
    refine ⟨_, rfl, ?_⟩
    refine hK.out _ _ ((Lib.hid hB8)) (fun hHeld => ?_)
    clear hK K
    refine norm_ (a' := ?_) ?_ ?_
    rotate_left
    · show Act.put _ (some 46) _ = _
      simp only [Act.put, List.setIfInBounds_toArray, List.set_cons_zero, List.set_cons_succ, i64_w, i32_w]
      rfl
    refine pst (i := 11) (N := some 47) HT_ (h := ?_)
    refine pst (i := 12) (N := some 35) HT_ (h := ?_)
    refine done_ (done_of HT_.out (by kernel_rfl)) ?_
    cases res
    all_goals
      go_wp2
      go_ret
      exact ⟨by rw [HF.out]; rfl, HB3.out.trans (hHeld.out.mono HB3.out.size)⟩
  · have gx : decide (WOk x) = false := by simpa using hx
    rw [gx] at DG
    have HF : Hid (askC M l x = 1) := Lib.hid (by unfold askC; rw [if_neg hx])
    generalize askC M l x = fin at *
    obtain ⟨q, p⟩ := x
    dsimp only at HB0 HX0
    clear hN hr hall hx gx
    go_enter Tryz.func67, Tryz.ntmps67
    go_wp2_with (go_at_call 35; (with_reducible refine (DG _).mono ?_); rintro e w1 ⟨rfl, hB1⟩; have HB1 := Lib.hid (HB0.out.trans (hB1.mono HB0.out.size)); clear hB1)
    go_ret
    exact ⟨by rw [HF.out]; rfl, HB1.out⟩
theorem lit157 (w : World) (x : S157) : Kd.C k157 (w.alloc (.cells #[.int .i64 x.f0, .int .i64 x.f1.f0, .int .i64 x.f1.f1, .int .i64 x.f2] 157)) (some ⟨w.heap.size, 0, none⟩) 1 [x] := by
  refine ⟨rfl, by simp, fun _ => ⟨_, rfl, fun j y hy => ?_⟩⟩
  have hb := blk_new w (.cells #[.int .i64 x.f0, .int .i64 x.f1.f0, .int .i64 x.f1.f1, .int .i64 x.f2] 157)
  cases j with
  | zero =>
    simp only [List.getElem?_cons_zero, Option.some.injEq] at hy
    subst hy
    refine ⟨_, rfl, k157_mk _ _, fun i u hu => ?_⟩
    rw [Nat.zero_mul, Nat.zero_add, addr_at, Nat.zero_add, blk_cell hb]
    match i, hu with
    | 0, h => exact h
    | 1, h => exact h
    | 2, h => exact h
    | 3, h => exact h
    | i + 4, h => simp at h
  | succ j => simp at hy
def EnterP (M : Int) (N : Nat) (base : Nat) (vL : Value) (l : List S157) (id : Int) (x : S85) (w : World) (e : Ending) (w' : World) : Prop :=
  e = .returned (.int .i64 (askC M l x)) ∧ (askC M l x ≠ 0 → Below w.heap.size w w') ∧ (askC M l x = 0 → ∃ v', w'.heap[N]? = some (.cells #[.int .i64 M, v', .slice none 0 0] 116 (0, 0)) ∧ k157.R 157 w' base (fun _ => True) v' (l ++ [⟨id, x, -1⟩]) ∧ Turn w w' (fun b => b = N ∨ some b = vL.ownBlock) ∧ (v'.ownBlock = vL.ownBlock ∨ ∃ b, v'.ownBlock = some b ∧ w.heap.size ≤ b))
set_option maxHeartbeats 1600000 in
set_option maxRecDepth 100000 in
theorem enter_calls (M : Int) (N base : Nat) (vL : Value) (l : List S157) (id : Int) (x : S85) (now : Int) (w : World) (hN : w.heap[N]? = some (.cells #[.int .i64 M, vL, .slice none 0 0] 116 (0, 0))) (hR : k157.R 157 w base (fun _ => True) vL l) (hne : vL.ownBlock ≠ some N) (hbase : base ≤ w.heap.size) (hlen : l.length ≤ 31) (hid : ∀ k (h : k < l.length), l[k].f0 ≠ id) (hall : ∀ k (h : k < l.length), WOk l[k].f1) (hm1 : 1 ≤ M) (hm2 : M ≤ 64) (hnow : 0 ≤ now) :
    Calls Tryz.prog 36 #[.pointer (some ⟨N, 0, none⟩), .int .i64 id, agg85 x, .int .i64 now] w fun e w' => EnterP M N base vL l id x w e w' := by
  obtain ⟨A, c, rfl, hcl, hr⟩ := Kd.R_reads hR
  have DG := fun w => wgood_calls x w
  have HN := Lib.hid hN
  have HR := Lib.hid hR
  have gn : decide (now < 0) = false := by simpa using hnow
  have HB0 : Hid (Below w.heap.size w (w.alloc (.cells #[.int .i64 x.f0, .int .i64 x.f1] 85))) := Lib.hid (below_alloc (Below.refl _ _) _)
  have HX0 : Hid ((w.alloc (.cells #[.int .i64 x.f0, .int .i64 x.f1] 85)).heap[w.heap.size]? = some (.cells #[.int .i64 x.f0, .int .i64 x.f1] 85 (0, 0))) := Lib.hid (blk_new _ _)
  unfold EnterP
  by_cases hx : WOk x
  · have gx : decide (WOk x) = true := by simpa using hx
    rw [gx] at DG
    have DF := fun wx (hb : Below w.heap.size w wx) => efind_calls M N A c l id wx ((hb.block N (blk_lt hN)).trans hN) (Kd.C_below hr hb) (by omega) hid
    have DA := fun wx (hb : Below w.heap.size w wx) => ask_calls M N A c l x now wx ((hb.block N (blk_lt hN)).trans hN) (Kd.C_below hr hb) hlen hall hm1 hm2 hnow
    have hask : askC M l x = 0 ∨ askC M l x = 7 := by unfold askC; rw [if_pos hx]; split <;> simp
    generalize askC M l x = res at *
    obtain ⟨q, p⟩ := x
    dsimp only at HB0 HX0
    have hNs := blk_lt hN
    clear hN hr hall hx gx hR hid
    go_enter Tryz.func36, Tryz.ntmps36
    go_upto_region 6 with (first
      | (go_at_call 35; (with_reducible refine (DG _).mono ?_); rintro e w1 ⟨rfl, hB1⟩; have HX1 := Lib.hid (blk_below HX0.out hB1); have HB1 := Lib.hid (HB0.out.trans (hB1.mono HB0.out.size)); clear hB1)
      | (go_at_call 66; (with_reducible refine (DF _ HB1.out).mono ?_); rintro e w2 ⟨rfl, hB2⟩; have HX2 := Lib.hid (blk_below HX1.out hB2); have HB2 := Lib.hid (HB1.out.trans (hB2.mono HB1.out.size)); have x0 := (blk_cell HX2.out 0).trans rfl; have x1 := (blk_cell HX2.out 1).trans rfl; clear hB2)
      | (go_at_call 67; (with_reducible refine (DA _ HB2.out).mono ?_); rintro e w3 ⟨rfl, hB3⟩; have HX3 := Lib.hid (blk_below HX2.out hB3); have HB3 := Lib.hid (HB2.out.trans (hB3.mono HB2.out.size)); clear hB3 x0 x1))
    rcases hask with rfl | rfl
    · have HN3 := Lib.hid ((HB3.out.block N hNs).trans HN.out)
      have x0 : w3.cell? ⟨w.heap.size, 0, none⟩ = some (.int .i64 q) := (blk_cell HX3.out 0).trans rfl
      have x1 : w3.cell? ⟨w.heap.size, 1, none⟩ = some (.int .i64 p) := (blk_cell HX3.out 1).trans rfl
      have x2 : w3.cell? ⟨N, 1, none⟩ = some (.slice A l.length c) := (blk_cell HN3.out 1).trans rfl
      have HR3 : Hid (k157.R 157 w3.drew base (fun _ => True) (.slice A l.length c) l) := Lib.hid (Kd.R_drew (Kd.R_below HR.out HB3.out))
      have hs3 : w.heap.size ≤ w3.heap.size := HB3.out.size
      go_upto_region 8 with fail
      refine start_ (n := 13) (S := fun w' => Hid (Below w3.heap.size w3 w')) (ds := [9, 12]) #[false, false, false, false, false, false, false, false, false, false, false, false, false] (by kernel_rfl) rfl rfl ((Lib.hid (below_drew (Below.refl _ _)))) (fun hHeld => ?_)
      refine with_tabW bent.tab8 bent.bits8 (fun HT_ HW_ => ?_)
      have hbd : Hid (Below w3.heap.size w3 w3.drew) := Lib.hid ⟨rfl, rfl, rfl, Nat.le_refl _, fun _ _ => rfl⟩
      have hsd : w3.heap.size = w3.drew.heap.size := rfl
      generalize hwd : w3.drew = wd at *
      clear hwd
      refine pst (i := 0) (N := some 30) HT_ (h := ?_)
      refine pst (i := 1) (N := some 31) HT_ (h := ?_)
      refine pst (i := 2) (N := some 32) HT_ (h := ?_)
      refine pst (i := 3) (N := some 33) HT_ (h := ?_)
      refine pst (i := 5) (N := some 35) HT_ (h := ?_)
      refine tst (i := 4) (N := some 34) HT_ HW_ hHeld (hy := by (intro w' s0; have e0 := (s0.out.cell (World.block_lt_of_cell? _ _ x0)).trans x0; have e1 := (s0.out.cell (World.block_lt_of_cell? _ _ x1)).trans x1; have e2 := (s0.out.cell (World.block_lt_of_cell? _ _ x2)).trans x2); go_simp; with_reducible rfl) (h := ?_)
      refine tst (i := 6) (N := some 36) HT_ HW_ hHeld (hy := by (intro w' s0; have e0 := (s0.out.cell (World.block_lt_of_cell? _ _ x0)).trans x0; have e1 := (s0.out.cell (World.block_lt_of_cell? _ _ x1)).trans x1; have e2 := (s0.out.cell (World.block_lt_of_cell? _ _ x2)).trans x2); go_simp; with_reducible rfl) (h := ?_)
      refine pst (i := 7) (N := some 37) HT_ (h := ?_)
      refine one_ (i := 8) (N := some 38) #[true, true, true, true, true, true, true, true, true, false, false, false, false] rfl rfl (one_of HT_.out (by kernel_rfl)) (by decide) (fun K hK => ?_)
      refine value_ (w1 := ?_) (v := ?_) (by rfl) rfl ?_ ?_
      rotate_left 2
      · go_simp
        constructor
        · rfl
        · rfl
      refine hK.out _ _ ((Lib.hid (hHeld.out.trans ((below_alloc (Below.refl _ _) _).mono hHeld.out.size)))) (fun hHeld => ?_)
      clear hK K
      refine norm_ (a' := ?_) ?_ ?_
      rotate_left
      · show Act.put _ (some 38) _ = _
        simp only [Act.put, List.setIfInBounds_toArray, List.set_cons_zero, List.set_cons_succ, i64_w, i32_w]
        rfl
      refine last_ (i := 9) (N := some 39) #[true, true, true, true, true, true, true, true, true, true, false, false, false] rfl rfl (one_of HT_.out (by kernel_rfl)) (by decide) (fun K hK => ?_)
      refine Kd.R_append_rows_step k157 (Rr := k157.K (wd.alloc (.cells #[.int .i64 id, .int .i64 q, .int .i64 p, .int .i64 (-1)] 157))) (w0 := wd.alloc (.cells #[.int .i64 id, .int .i64 q, .int .i64 p, .int .i64 (-1)] 157)) base (by rfl) (.tmp 34) (.tmp 38) 114 157 (.agg #[.int .i64 0, .int .i64 0, .int .i64 0, .int .i64 0]) 32 rfl Tryz.underlying114 info157 rfl (by decide) (by omega) (.slice A l.length c) l [(⟨id, ⟨q, p⟩, -1⟩ : S157)] (some ⟨wd.heap.size, 0, none⟩) 1 1 (fun _ => True) (fun _ => False) (by rfl) (by rfl) (Kd.R_alloc HR3.out _) (lit157 wd ⟨id, ⟨q, p⟩, -1⟩) (fun x cs h => by obtain rfl := k157_open h; exact k157_mkM _ _ _ _) (fun _ h => h.elim) (fun _ _ => trivial) (Below.refl _ _) (by simp only [World.size_alloc]; omega) (by omega) ?_
      intro v7 w7 hR7 hB7 hg7 hat7
      obtain ⟨A7, c7, e7⟩ := Kd.R_slice hR7
      generalize hn7 : (l ++ [(⟨id, ⟨q, p⟩, -1⟩ : S157)]).length = n7 at e7
      subst e7
      clear hn7
      have HAT := Lib.hid (hat7.imp (fun h => h) (fun ⟨b, h1, h2⟩ => (⟨b, h1, by simp only [World.size_alloc] at h2; omega⟩ : ∃ b, (Value.slice A7 n7 c7).ownBlock = some b ∧ w3.heap.size ≤ b)))
      have HT7 := Lib.hid (grown_turn hg7)
      have HN7 := Lib.hid ((HT7.out.block N (by simp only [World.size_alloc]; omega) (fun e => hne e.symm)).trans ((hHeld.out.block N (by omega)).trans HN3.out))
      have HR7 := Lib.hid hR7
      have HBB := Lib.hid hHeld.out
      refine hK.out _ _ ?_
      clear hK K
      refine norm_ (a' := ?_) ?_ ?_
      rotate_left
      · show Act.put _ (some 39) _ = _
        simp only [Act.put, List.setIfInBounds_toArray, List.set_cons_zero, List.set_cons_succ, i64_w, i32_w]
        rfl
      refine pst (i := 10) (N := some 40) HT_ (h := ?_)
      refine pst (i := 11) (N := some 41) HT_ (h := ?_)
      refine last_ (i := 12) (N := none) #[true, true, true, true, true, true, true, true, true, true, true, true, true] rfl rfl (one_of HT_.out (by kernel_rfl)) (by decide) (fun K hK => ?_)
      have y1 := (blk_cell HN7.out 1).trans rfl
      have f1 := blk_frozen HN7.out 1
      refine skip_ (w1 := ?_) (by rfl) rfl ?_ ?_
      rotate_left
      · go_simp
        rfl
      have HX8 := Lib.hid (blk_put (cs' := #[.int .i64 M, .slice A7 n7 c7, .slice none 0 0]) HN7.out 1 (.slice A7 n7 c7) rfl)
      have hne7 : (Value.slice A7 n7 c7).ownBlock ≠ some N := (fun e => by rcases HAT.out with h | ⟨b, h, hle⟩; rw [h] at e; exact hne e; rw [h] at e; injection e with e; omega)
      have HR8 : Hid (k157.R 157 (w7.setCell ⟨N, 1, none⟩ (.slice A7 n7 c7)) base (fun _ => True) (.slice A7 n7 c7) (l ++ [(⟨id, ⟨q, p⟩, -1⟩ : S157)])) := Lib.hid (Kd.R_reok rfl (Kd.R_step (Kd.R_tight rfl HR7.out) (fun b hb hlt => blk_set_ne 1 (.slice A7 n7 c7) (fun e => hne7 (e ▸ hb.symm)))) (fun _ _ => trivial))
      have HT8 := Lib.hid ((((Turn.of_below (fun b => b = N ∨ some b = (Value.slice A l.length c).ownBlock) (HB3.out)).trans (Turn.of_below _ HBB.out)).trans (HT7.out.imp (fun b e => .inr e))).set (.inl rfl) 1 (.slice A7 n7 c7))
      clear y1 f1
      generalize hws : World.setCell _ _ _ = w8 at *
      clear hws
      refine hK.out _ _ ?_
      clear hK K
      refine done_ (done_of HT_.out (by kernel_rfl)) ?_
      go_wp2
      go_ret
      refine ⟨rfl, .slice A7 n7 c7, HX8.out, HR8.out, HT8.out, ?_⟩
      rcases HAT.out with h | ⟨b, h, hle⟩
      · exact .inl h
      · exact .inr ⟨b, h, by omega⟩
    · go_wp2
      go_ret
      exact ⟨rfl, fun _ => HB3.out, fun h => by omega⟩
  · have gx : decide (WOk x) = false := by simpa using hx
    rw [gx] at DG
    have HF : Hid (askC M l x = 1) := Lib.hid (by unfold askC; rw [if_neg hx])
    generalize askC M l x = fin at *
    obtain ⟨q, p⟩ := x
    dsimp only at HB0 HX0
    clear hN hr hall hx gx hR
    go_enter Tryz.func36, Tryz.ntmps36
    go_wp2_with (go_at_call 35; (with_reducible refine (DG _).mono ?_); rintro e w1 ⟨rfl, hB1⟩; have HB1 := Lib.hid (HB0.out.trans (hB1.mono HB0.out.size)); clear hB1)
    go_ret
    exact ⟨by rw [HF.out]; rfl, fun _ => HB1.out, fun h => by have := HF.out; omega⟩
set_option maxHeartbeats 800000 in
theorem bnew_calls (M : Int) (w : World) (hm1 : 1 ≤ M) (hm2 : M ≤ 64) : Calls Tryz.prog 21 #[.int .i64 M] w fun e w' => e = .returned (.tuple #[.pointer (some ⟨w.heap.size, 0, none⟩), .int .i64 0]) ∧ w'.heap[w.heap.size]? = some (.cells #[.int .i64 M, .slice none 0 0, .slice none 0 0] 116 (0, 0)) ∧ Below w.heap.size w w' := by
  have g1 : decide (M < 1) = false := by simp; omega
  have g2 : decide (M > 64) = false := by simp; omega
  have h1 := blk_new w (.cells #[.int .i64 M, .slice none 0 0, .slice none 0 0] 116)
  have h2 := below_alloc (Below.refl w.heap.size w) (.cells #[.int .i64 M, .slice none 0 0, .slice none 0 0] 116)
  go_enter Tryz.func21, Tryz.ntmps21
  go_wp2
  go_ret2
  exact ⟨rfl, h1, h2⟩
set_option maxRecDepth 100000 in
theorem bits_place : ∀ k : Nat, k < 32 → Go.bits .and .i64 (k : Int) 255 = (k : Int) := by decide +kernel
set_option maxRecDepth 100000 in
theorem bits_make : ∀ k : Nat, k < 32 → Go.bits .or .i64 0 (k : Int) % 4294967296 = (k : Int) := by decide +kernel
set_option maxHeartbeats 400000 in
theorem nplace_calls (k : Nat) (w : World) (hk : k < 32) : Calls Tryz.prog 72 #[.int .u32 k] w fun e w' => e = .returned (.int .i64 k) ∧ w = w' := by
  have hb := bits_place k hk
  have hw : wrap64 (k : Int) = k := by unfold Go.RowKit.wrap64; omega
  go_enter Tryz.func72, Tryz.ntmps72
  go_wp2
  go_ret
  exact ⟨by first | rfl | (simp; done) | (simp [*]; done), rfl⟩
set_option maxHeartbeats 400000 in
theorem ngen_calls (k : Nat) (w : World) (hk : k < 32) : Calls Tryz.prog 73 #[.int .u32 k] w fun e w' => e = .returned (.int .i64 0) ∧ w = w' := by
  have hw : wrap64 (k : Int) = k := by unfold Go.RowKit.wrap64; omega
  have hd : (k : Int) / 256 = 0 := by omega
  go_enter Tryz.func73, Tryz.ntmps73
  go_wp2
  go_ret
  exact ⟨by first | rfl | (simp; done) | (simp [*]; done), rfl⟩
set_option maxHeartbeats 400000 in
theorem nid_calls (k : Nat) (w : World) (hk : k < 32) : Calls Tryz.prog 42 #[.int .u32 k] w fun e w' => e = .returned (.int .i64 ((k : Int) + 1)) ∧ w = w' := by
  have D := fun w => nplace_calls k w hk
  have hw : IntKind.i64.wrap ((k : Int) + 1) = (k : Int) + 1 := by rw [i64_w]; unfold Go.RowKit.wrap64; omega
  go_enter Tryz.func42, Tryz.ntmps42
  go_wp2_with (go_at_call 72; (with_reducible refine (D _).mono ?_); rintro e w1 ⟨rfl, rfl⟩)
  go_ret
  exact ⟨rfl, rfl⟩
set_option maxHeartbeats 400000 in
theorem nmake_calls (k : Nat) (w : World) (hk : k < 32) : Calls Tryz.prog 68 #[.int .i64 k, .int .i64 0] w fun e w' => e = .returned (.tuple #[.int .u32 k, .bool true]) ∧ w = w' := by
  have g1 : decide ((k : Int) < 0) = false := by simp
  have g2 : decide ((k : Int) ≥ 256) = false := by simp; omega
  go_enter Tryz.func68, Tryz.ntmps68
  go_wp2
  go_ret2
  exact ⟨congrArg (fun z => Ending.returned (.tuple #[.int .u32 z, .bool true])) (bits_make k hk), rfl⟩
def spotsL (n : Nat) : List (List Value) := (List.range 32).map fun k => [.int .i64 0, .bool (decide (k < n))]
theorem spotsL_len (n : Nat) : (spotsL n).length = 32 := by simp [spotsL]
theorem spotsL_get (n : Nat) {k : Nat} (hk : k < 32) {hh : k < (spotsL n).length} : (spotsL n)[k] = [.int .i64 0, .bool (decide (k < n))] := by simp [spotsL]
structure TabAt (w : World) (Nn Ns n : Nat) : Prop where
  T : w.heap[Nn]? = some (.cells #[.slice (some ⟨Ns, 0, none⟩) 32 32] 119 (0, 0))
  S : RowAt w Ns 0 2 159 (spotsL n)
  n32 : n < 32
theorem TabAt.below {w w' : World} {Nn Ns n : Nat} (h : TabAt w Nn Ns n) (hb : Below w.heap.size w w') : TabAt w' Nn Ns n := ⟨blk_below h.T hb, h.S.below hb, h.n32⟩
theorem TabAt.turn {w w' : World} {S : Nat → Prop} {Nn Ns n : Nat} (h : TabAt w Nn Ns n) (ht : Turn w w' S) (h1 : ¬ S Nn) (h2 : ¬ S Ns) : TabAt w' Nn Ns n := ⟨(ht.block _ (blk_lt h.T) h1).trans h.T, h.S.turn ht h2, h.n32⟩
theorem TabAt.cells {w : World} {Nn Ns n : Nat} (h : TabAt w Nn Ns n) : w.cell? ⟨Nn, 0, none⟩ = some (.slice (some ⟨Ns, 0, none⟩) 32 32) ∧ ∀ k, k < 32 → w.cell? ⟨Ns, k * 2, none⟩ = some (.int .i64 0) ∧ w.cell? ⟨Ns, k * 2 + 1, none⟩ = some (.bool (decide (k < n))) := by
  refine ⟨(blk_cell h.T 0).trans rfl, fun k hk => ?_⟩
  have h1 := fun (j : Nat) (hj : j < 2) v hv => h.S.cell (i := k) (by rw [spotsL_len]; exact hk) (j := j) hj (v := v) hv
  have e := spotsL_get n hk (hh := by rw [spotsL_len]; exact hk)
  have a := h1 0 (by omega) (.int .i64 0) (by rw [e]; rfl)
  have b := h1 1 (by omega) (.bool (decide (k < n))) (by rw [e]; rfl)
  rw [Nat.zero_add] at a b
  exact ⟨a, b⟩
set_option maxHeartbeats 800000 in
theorem tat_calls (Nn Ns n k : Nat) (w : World) (h : TabAt w Nn Ns n) (hk : k < 32) : Calls Tryz.prog 65 #[.pointer (some ⟨Nn, 0, none⟩), .int .i64 k] w fun e w' => (∃ x : Int, e = .returned (.tuple #[.int .u32 x, .bool (decide (k < n))])) ∧ w = w' := by
  obtain ⟨h0, h1⟩ := h.cells
  obtain ⟨h2, h3⟩ := h1 k hk
  have g1 : decide ((k : Int) < 0) = false := by simp
  have g2 : decide ((k : Int) ≥ 32) = false := by simp; omega
  have k0 : (0 : Int) ≤ (k : Int) := Int.natCast_nonneg k
  have k1 : (k : Int) < 32 := by omega
  have D := fun w => nmake_calls k w hk
  clear h h1
  by_cases hn : k < n
  · have gn : decide (k < n) = true := by simpa using hn
    rw [gn] at h3 ⊢
    clear gn hn hk
    go_enter Tryz.func65, Tryz.ntmps65
    go_wp2_with (go_at_call 68; (with_reducible refine (D _).mono ?_); rintro e w1 ⟨rfl, rfl⟩)
    go_ret2
    exact ⟨⟨_, rfl⟩, rfl⟩
  · have gn : decide (k < n) = false := by simpa using hn
    rw [gn] at h3 ⊢
    clear gn hn hk
    go_enter Tryz.func65, Tryz.ntmps65
    go_wp2
    go_ret2
    exact ⟨⟨_, rfl⟩, rfl⟩
set_option maxHeartbeats 800000 in
theorem place_calls (Nn Ns n : Nat) (w : World) (h : TabAt w Nn Ns n) : Calls Tryz.prog 34 #[.pointer (some ⟨Nn, 0, none⟩), .int .i64 32] w fun e w' => e = .returned (.int .i64 n) ∧ w = w' := by
  have H := Lib.hid h
  have hn := h.n32
  clear h
  go_enter Tryz.func34, Tryz.ntmps34
  go_wp2
  go_loopw [9] (fun v9 wr => ∃ k : Nat, v9 = .int .i64 k ∧ k ≤ n ∧ wr = w) (fun v9 _ => n - (intOf v9).toNat)
  case atStart => exact ⟨0, rfl, Nat.zero_le _, rfl⟩
  case round =>
    obtain ⟨k, rfl, hk, rfl⟩ := hrel
    have D := tat_calls Nn Ns n k wr H.out (by omega)
    have k1 : (k : Int) < 32 := by omega
    by_cases hlt : k < n
    · have gn : decide (k < n) = true := by simpa using hlt
      rw [gn] at D
      go_wp2_with (go_at_call 65; (with_reducible refine D.mono ?_); rintro e w1 ⟨⟨x, rfl⟩, rfl⟩)
      go_roundw
      case rel => exact ⟨k + 1, by go_num, by omega, by first | rfl | trivial⟩
      case measure => simp [intOf]; omega
    · have gn : decide (k < n) = false := by simpa using hlt
      rw [gn] at D
      obtain rfl : k = n := by omega
      go_wp2_with (go_at_call 65; (with_reducible refine D.mono ?_); rintro e w1 ⟨⟨x, rfl⟩, rfl⟩)
      go_ret
      exact ⟨rfl, rfl⟩
theorem spotsL_take {n : Nat} (hn : n < 32) : (spotsL n).set n ((spotsL n)[n]'(by rw [spotsL_len]; exact hn) |>.set 1 (.bool true)) = spotsL (n + 1) := by
  apply List.ext_getElem
  · rw [List.length_set, spotsL_len, spotsL_len]
  · intro k h1 h2
    have hk : k < 32 := by rw [spotsL_len] at h2; exact h2
    rw [List.getElem_set]
    by_cases e : n = k
    · subst e
      rw [if_pos rfl, spotsL_get _ hk, spotsL_get (n + 1) hk]
      simp
    · rw [if_neg e, spotsL_get _ hk, spotsL_get (n + 1) hk]
      have : (k < n + 1) ↔ (k < n) := by omega
      simp [this]
set_option maxHeartbeats 800000 in
theorem take_calls (Nn Ns n : Nat) (w : World) (h : TabAt w Nn Ns n) (hn : n < 31) : Calls Tryz.prog 37 #[.pointer (some ⟨Nn, 0, none⟩)] w fun e w' => e = .returned (.tuple #[.int .u32 n, .int .i64 0]) ∧ TabAt w' Nn Ns (n + 1) ∧ Turn w w' (fun b => b = Ns) := by
  obtain ⟨h0, h1⟩ := h.cells
  have H := Lib.hid h
  have H1 := Lib.hid h1
  have hne : Nn ≠ Ns := by
    intro e
    obtain ⟨_, pre, rest, _, hb⟩ := h.S
    have := h.T
    rw [e, hb] at this
    injection this with this
    injection this with _ this
    cases this
  have hfr := h.S.free
  have D := fun w => nmake_calls n w (by omega)
  clear h h1
  go_enter Tryz.func37, Tryz.ntmps37
  go_wp2
  go_loopw [12] (fun v12 wr => ∃ k : Nat, v12 = .int .i64 k ∧ k ≤ n ∧ wr = w) (fun v12 _ => n - (intOf v12).toNat)
  case atStart => exact ⟨0, rfl, Nat.zero_le _, rfl⟩
  case round =>
    obtain ⟨k, rfl, hk, rfl⟩ := hrel
    obtain ⟨h2, h3⟩ := H1.out k (by omega)
    have k0 : (0 : Int) ≤ (k : Int) := Int.natCast_nonneg k
    have k1 : (k : Int) < 32 := by omega
    by_cases hlt : k < n
    · have gn : decide (k < n) = true := by simpa using hlt
      rw [gn] at h3
      go_wp2
      go_roundw
      case rel => exact ⟨k + 1, by go_num, by omega, by first | rfl | trivial⟩
      case measure => simp [intOf]; omega
    · have gn : decide (k < n) = false := by simpa using hlt
      rw [gn] at h3
      obtain rfl : k = n := by omega
      have hset := H.out.S.set (i := k) (by rw [spotsL_len]; omega) (j := 1) (by omega) (.bool true)
      rw [Nat.zero_add, spotsL_take (by omega)] at hset
      have hT : TabAt (wr.setCell ⟨Ns, k * 2 + 1, none⟩ (.bool true)) Nn Ns (k + 1) := ⟨(blk_set_ne _ _ hne).trans H.out.T, hset, by omega⟩
      have hc := hT.cells
      have q0 := hc.1
      have q1 := (hc.2 k (by omega)).1
      have hTu := (Turn.refl wr (fun b => b = Ns)).set rfl (k * 2 + 1) (.bool true)
      have HT := Lib.hid hT
      have HTu := Lib.hid hTu
      have f1 := hfr (k * 2 + 1)
      clear hset hT hc hTu
      go_wp2_with (go_at_call 68; (with_reducible refine (D _).mono ?_); rintro e w1 ⟨rfl, rfl⟩)
      go_ret2
      exact ⟨rfl, HT.out, HTu.out⟩
set_option maxHeartbeats 1600000 in
set_option maxRecDepth 100000 in
theorem is_calls (Nn Ns n k : Nat) (w : World) (h : TabAt w Nn Ns n) (hk : k < n) : Calls Tryz.prog 41 #[.pointer (some ⟨Nn, 0, none⟩), .int .u32 k] w fun e w' => e = .returned (.int .i64 0) ∧ Below w.heap.size w w' := by
  obtain ⟨h0, h1⟩ := h.cells
  have h32 := h.n32
  obtain ⟨h2, h3⟩ := h1 k (by omega)
  have gn : decide (k < n) = true := by simpa using hk
  rw [gn] at h3
  have P := fun w => nplace_calls k w (by omega)
  have G := fun w => ngen_calls k w (by omega)
  have g1 : decide ((32 : Int) ≤ (k : Int)) = false := by simp; omega
  have g2 : decide ((k : Int) ≥ 32) = false := by simp; omega
  have k0 : (0 : Int) ≤ (k : Int) := Int.natCast_nonneg k
  have k1 : (k : Int) < 32 := by omega
  have hts := blk_lt h.T
  have hss := h.S.lt
  clear h h1 gn hk h32
  go_enter Tryz.func41, Tryz.ntmps41
  go_wp2
  go_quiet ((go_at_call 72; exact Calls.quiet_of_same ((P _).mono fun e w' ⟨h1, h2⟩ => ⟨h1, h2.symm⟩)))
  go_wp2
  obtain ⟨w2, hw2⟩ : ∃ w2, w2 = w.drewN nq := ⟨_, rfl⟩
  rw [← hw2]
  have hc2 : w2.cell? ⟨Nn, 0, none⟩ = some (.slice (some ⟨Ns, 0, none⟩) 32 32) := by rw [hw2]; exact h0
  have hcg2 : w2.cell? ⟨Ns, k * 2, none⟩ = some (.int .i64 0) := by rw [hw2]; exact h2
  have hct2 : w2.cell? ⟨Ns, k * 2 + 1, none⟩ = some (.bool true) := by rw [hw2]; exact h3
  have n1 : w2.heap.size ≠ Nn := by rw [hw2]; simp; omega
  have n2 : w2.heap.size ≠ Ns := by rw [hw2]; simp; omega
  have B2 := Aside0.mk (show Below w.heap.size w w2 from by rw [hw2]; exact ⟨rfl, rfl, rfl, Nat.le_refl _, fun _ _ => rfl⟩)
  have Z2 := Aside0.mk (show w2.heap.size = w.heap.size from by rw [hw2]; rfl)
  clear hw2 hts hss h0 h2 h3
  go_region_held3 (fun w' => w'.cell? ⟨Nn, 0, none⟩ = some (.slice (some ⟨Ns, 0, none⟩) 32 32) ∧ w'.cell? ⟨Ns, k * 2, none⟩ = some (.int .i64 0) ∧ w'.cell? ⟨Ns, k * 2 + 1, none⟩ = some (.bool true)) (go_keep) ((first | (go_at_call 72; refine (P _).mono ?_; rintro e w' ⟨rfl, rfl⟩)))
  all_goals
    go_wp2
    generalize hw3 : World.drew _ = w3
    have hg3 : w3.cell? ⟨w2.heap.size, 0, none⟩ = some (.int .i64 0) := by rw [← hw3]; simp
    have ht3 : w3.cell? ⟨w2.heap.size, 1, none⟩ = some (.bool true) := by rw [← hw3]; simp
    have B3 := Aside0.mk (show Below w.heap.size w w3 from by rw [← hw3]; exact (B2.out.alloc (by rw [Z2.out]; exact Nat.le_refl _) _).trans ⟨rfl, rfl, rfl, Nat.le_refl _, fun _ _ => rfl⟩)
    clear hw3 hc2 hcg2 hct2
    go_quiet ((go_at_call 73; exact Calls.quiet_of_same ((G _).mono fun e w' ⟨h1, h2⟩ => ⟨h1, h2.symm⟩)))
    go_wp2
    obtain ⟨w4, hw4⟩ : ∃ w4, w4 = w3.drewN nq := ⟨_, rfl⟩
    rw [← hw4]
    have hg4 : w4.cell? ⟨w2.heap.size, 0, none⟩ = some (.int .i64 0) := by rw [hw4]; exact hg3
    have ht4 : w4.cell? ⟨w2.heap.size, 1, none⟩ = some (.bool true) := by rw [hw4]; exact ht3
    have B4 := Aside0.mk (show Below w.heap.size w w4 from by rw [hw4]; exact B3.out.trans ⟨rfl, rfl, rfl, Nat.le_refl _, fun _ _ => rfl⟩)
    clear hw4 hg3 ht3 B3
    go_quiet ((go_at_call 73; exact Calls.quiet_of_same ((G _).mono fun e w' ⟨h1, h2⟩ => ⟨h1, h2.symm⟩)))
    go_wp2
    go_ret
    exact ⟨rfl, B4.out.trans ⟨rfl, rfl, rfl, Nat.le_refl _, fun _ _ => rfl⟩⟩
theorem info159 : (Tryz.prog.info? 159).map (fun i => (i.zero, i.size, i.bytes)) = some (some (.agg #[.int .i64 0, .bool false]), 2, 16) := by kernel_rfl
theorem made159 (n : Int) (h0 : 0 ≤ n) (hn : n ≤ 256) (w : World) : (Instr.makeSlice 117 (.int .i64 n) (.int .i64 n)).run Tryz.prog w = .ok (.slice (some ⟨w.heap.size, 0, none⟩) n.toNat n.toNat) (w.alloc (.cells (madeCells #[.int .i64 0, .bool false] (n.toNat * 2)) 159)) := by
  obtain ⟨i0, hi, hz0, hz1, hz2⟩ := info_parts info159
  have := run_make (P := Tryz.prog) w 117 159 i0 (.agg #[.int .i64 0, .bool false]) Tryz.underlying117 hi hz0 .i64 .i64 n n h0 (Int.le_refl _) (by rw [hz2]; omega) (by omega)
  rw [this, hz1]
  rfl
set_option maxHeartbeats 800000 in
theorem inew_calls (m : Nat) (w : World) (h1 : 1 ≤ m) (h2 : m ≤ 256) : Calls Tryz.prog 22 #[.int .i64 m] w fun e w' => e = .returned (.pointer (some ⟨w.heap.size + 1, 0, none⟩)) ∧ w' = (w.alloc (.cells (madeCells #[.int .i64 0, .bool false] (m * 2)) 159)).alloc (.cells #[.slice (some ⟨w.heap.size, 0, none⟩) m m] 119) := by
  have hm := fun w => made159 m (by omega) (by omega) w
  simp only [Int.toNat_natCast] at hm
  have g1 : ¬ (1 : Int) > (m : Int) := by omega
  have g2 : ¬ (256 : Int) < (m : Int) := by omega
  go_enter Tryz.func22, Tryz.ntmps22
  go_wp2
  go_ret
  exact ⟨rfl, rfl⟩
set_option maxRecDepth 100000 in
theorem spots_zero : madeCells #[.int .i64 0, .bool false] 64 = ((spotsL 0).flatten).toArray := by kernel_rfl
theorem tab_new (w : World) : TabAt ((w.alloc (.cells (madeCells #[.int .i64 0, .bool false] (32 * 2)) 159)).alloc (.cells #[.slice (some ⟨w.heap.size, 0, none⟩) 32 32] 119)) (w.heap.size + 1) w.heap.size 0 := by
  have h := two_blocks (w := w) (x := madeCells #[.int .i64 0, .bool false] (32 * 2)) (y := #[.slice (some ⟨w.heap.size, 0, none⟩) 32 32]) (tx := 159) (ty := 119) (Below.refl _ _)
  refine ⟨h.2.1, ⟨fun x hx => ?_, [], [], rfl, ?_⟩, by omega⟩
  · obtain ⟨k, hk, rfl⟩ := List.mem_iff_getElem.1 hx
    rw [spotsL_get 0 (by rw [spotsL_len] at hk; exact hk)]
    rfl
  · rw [h.1, spots_zero, List.nil_append, List.append_nil]
set_option maxHeartbeats 800000 in
theorem fault_calls (s : Value) (hs : ∃ b, s = .string b) (id e : Int) (w : World) (he : e ≠ 0) : Calls Tryz.prog 20 #[s, .int .i64 id, .int .i64 e] w fun r w' => (∃ p, r = .returned (.iface 111 p)) ∧ Below w.heap.size w w' := by
  obtain ⟨b, rfl⟩ := hs
  have g : (e == 0) = false := by simpa using he
  have hb := fun o => below_alloc (Below.refl w.heap.size w) o
  go_enter Tryz.func20, Tryz.ntmps20
  go_wp2
  go_ret
  exact ⟨⟨_, rfl⟩, hb _⟩
def moddB (x : Int) : Bool := decide (x < 1 ∨ 1048576 < x)
set_option maxHeartbeats 400000 in
theorem modd_calls (x : Int) (w : World) : Calls Tryz.prog 39 #[.int .i64 x] w fun e w' => e = .returned (.bool (moddB x)) ∧ w = w' := by
  unfold moddB
  by_cases h1 : x < 1
  · have g1 : decide (x < 1) = true := by simpa using h1
    have e : decide (x < 1 ∨ 1048576 < x) = true := by simp [h1]
    rw [e]
    clear h1 e
    go_enter Tryz.func39, Tryz.ntmps39
    go_wp2
    go_ret
    exact ⟨rfl, rfl⟩
  · have g1 : decide (x < 1) = false := by simpa using h1
    have e : decide (x < 1 ∨ 1048576 < x) = decide (x > 1048576) := by simp [h1]
    rw [e]
    clear h1 e
    go_enter Tryz.func39, Tryz.ntmps39
    go_wp2
    go_ret
    exact ⟨rfl, rfl⟩
set_option maxHeartbeats 800000 in
theorem mindex_calls (A : Option Addr) (c : Nat) (l : List Int) (w : World) (hr : (Kd.int .i64).C w A l.length l) (hlen : l.length ≤ 8) :
    Calls Tryz.prog 71 #[.slice A l.length c, .func (.func 39) #[] #[]] w fun e w' => (∃ r : Int, e = .returned (.int .i64 r) ∧ (decide (r ≥ 0) = l.any moddB)) ∧ w = w' := by
  have HR := Lib.hid hr
  clear hr
  go_enter Tryz.func71, Tryz.ntmps71
  go_wp2
  go_loopw [8] (fun v8 wr => ∃ k : Nat, v8 = .int .i64 k ∧ k ≤ l.length ∧ (∀ j (h : j < l.length), j < k → moddB l[j] = false) ∧ wr = w) (fun v8 _ => l.length - (intOf v8).toNat)
  case atStart => exact ⟨0, rfl, Nat.zero_le _, fun j _ h => by omega, rfl⟩
  case round =>
    obtain ⟨k, rfl, hk, hall, rfl⟩ := hrel
    have HA := Lib.hid hall
    clear hall
    by_cases hlt : k < l.length
    · obtain ⟨ad, rfl, h0⟩ := int_at HR.out hlt
      have D := fun w => modd_calls l[k] w
      have k0 : (0 : Int) ≤ (k : Int) := Int.natCast_nonneg k
      have k1 : (k : Int) < (l.length : Int) := by omega
      cases hm : moddB l[k] with
      | true =>
        rw [hm] at D
        have HM := Lib.hid hm
        clear hm
        go_wp2_with (go_at_call 39; (with_reducible refine (D _).mono ?_); rintro e w' ⟨rfl, rfl⟩)
        go_ret
        have : l.any moddB = true := List.any_eq_true.2 ⟨l[k], List.getElem_mem hlt, HM.out⟩
        rw [this]
        simp
      | false =>
        rw [hm] at D
        have HM := Lib.hid hm
        clear hm
        go_wp2_with (go_at_call 39; (with_reducible refine (D _).mono ?_); rintro e w' ⟨rfl, rfl⟩)
        go_roundw
        case rel => exact ⟨k + 1, by go_num, by omega, fun j h hj => by
          rcases Nat.lt_or_ge j k with h2 | h2
          · exact HA.out j h h2
          · have : j = k := by omega
            subst this
            exact HM.out, by first | rfl | trivial⟩
        case measure => simp [intOf]; omega
    · obtain rfl : k = l.length := by omega
      go_wp2
      go_ret
      have : l.any moddB = false := by
        rw [List.any_eq_false]
        intro x hx
        obtain ⟨j, hj, rfl⟩ := List.mem_iff_getElem.1 hx
        rw [HA.out j hj hj]
        simp
      rw [this]
      exact ⟨⟨_, rfl, rfl⟩, rfl⟩
set_option maxHeartbeats 800000 in
theorem mcontains_calls (A : Option Addr) (c : Nat) (l : List Int) (w : World) (hr : (Kd.int .i64).C w A l.length l) (hlen : l.length ≤ 8) :
    Calls Tryz.prog 40 #[.slice A l.length c, .func (.func 39) #[] #[]] w fun e w' => e = .returned (.bool (l.any moddB)) ∧ w = w' := by
  have D := mindex_calls A c l w hr hlen
  clear hr
  go_enter Tryz.func40, Tryz.ntmps40
  go_wp2_with (go_at_call 71; (with_reducible refine D.mono ?_); rintro e w' ⟨⟨r, rfl, hr⟩, rfl⟩; have HR := Lib.hid hr; clear hr)
  go_ret
  exact ⟨by rw [← HR.out]; rfl, rfl⟩
def lockOf (x : Int) : S63 := ⟨x, 0, [], false⟩
def noRef : Nat → Ref := fun _ => (none, 0)
def newB (n : Nat) : Bd := ⟨n, fun _ => False, fun _ h => h.elim⟩
theorem own_new {w : World} {base : Nat} {v : Value} {ms : List Int} (h : (Kd.raw 4).R 63 w base (fun _ => True) v (rowsOf lockRow (ms.map lockOf) noRef)) (hm : ms.length ≤ 8) (n : Nat) (hn : n ≤ base) (hb : base ≤ w.heap.size) : ∃ A2 c2, v = .slice A2 (ms.map lockOf).length c2 ∧ Own w (newB n) [] (ms.map lockOf) ⟨none, 0, A2, c2, noRef, noRef⟩ ∧ ∀ b, A2.map (·.block) = some b → base ≤ b := by
  obtain ⟨A2, c2, e, hc, hC⟩ := Kd.R_reads h
  rw [rowsOf_len] at e hc
  have hbase := Kd.R_base h
  have hlt := Kd.R_lt h
  subst e
  have hown : ∀ c b, (⟨none, 0, A2, c2, noRef, noRef⟩ : OwnR).own c = some b → c = .h ∧ A2.map (·.block) = some b := by
    intro c b hb
    cases c with
    | g => simp [OwnR.own] at hb
    | h => exact ⟨rfl, hb⟩
    | j k => simp [OwnR.own, ob, noRef] at hb
    | q k => simp [OwnR.own, ob, noRef] at hb
  have hA : ∀ b, A2.map (·.block) = some b → base ≤ b ∧ b < w.heap.size := fun b hb => ⟨hbase b (ownB_map hb), hlt b (ownB_map hb)⟩
  refine ⟨A2, c2, rfl, ⟨⟨by simp, by simp; omega⟩, ⟨by simp, hc⟩, fun h => absurd rfl h, fun hq => ?_, fun i hi => absurd hi (by simp), fun i hi => ?_, fun c d b hc hd => ?_, fun c b hc => ?_, by show n ≤ _; omega⟩, fun b hb => (hA b hb).1⟩
  · obtain ⟨g, cap, e, _, _, _, _, hr⟩ := row_of_R h (by rw [rowsOf_len]; exact List.length_pos_iff.2 hq)
    injection e with e1 e2 e3
    exact ⟨g, e1, hr⟩
  · have hi2 : i < ms.length := by simpa using hi
    have e : (ms.map lockOf)[i].f2 = [] := by rw [List.getElem_map]; rfl
    rw [e]
    exact ⟨Nat.zero_le _, fun W' _ => C_nil' _ _ _⟩
  · rw [(hown c b hc).1, (hown d b hd).1]
  · have := hA b (hown c b hc).2
    exact ⟨by show n ≤ b; omega, this.2⟩
def newB_ok (m : Int) (ms : List Int) : Bool := !(decide (m < 1) || decide (64 < m) || decide (8 < ms.length) || ms.any moddB)
def NewP (m : Int) (ms : List Int) (w : World) (e : Ending) (w' : World) : Prop :=
  if newB_ok m ms then ∃ A2 c2, e = .returned (.tuple #[stV m 0 none 0 0 A2 (ms.map lockOf).length c2 none 0, .int .i64 0]) ∧ Own w' (newB w.heap.size) [] (ms.map lockOf) ⟨none, 0, A2, c2, noRef, noRef⟩ ∧ Below w.heap.size w w'
  else e = .returned (.tuple #[.agg #[.int .i64 0, .int .i64 0, .slice none 0 0, .slice none 0 0, .slice none 0 0], .int .i64 1]) ∧ Below w.heap.size w w'
set_option maxHeartbeats 1600000 in
set_option maxRecDepth 100000 in
theorem mnew_calls (m : Int) (A : Option Addr) (c : Nat) (ms : List Int) (w : World) (hr : (Kd.int .i64).C w A ms.length ms) (hm1 : 1 ≤ m) (hm2 : m ≤ 64) (hlen : ms.length ≤ 8) :
    Calls Tryz.prog 19 #[.int .i64 m, .slice A ms.length c] w fun e w' => NewP m ms w e w' := by
  have g1 : decide (m < 1) = false := by simp; omega
  have g2 : decide (m > 64) = false := by simp; omega
  have g3 : decide ((ms.length : Int) > 8) = false := by simp; omega
  have HR := Lib.hid hr
  have DC := fun wx (hb : Below w.heap.size w wx) => mcontains_calls A c ms wx (Kd.C_below hr hb) hlen
  have HB0 : Hid (Below w.heap.size w (w.alloc (.cells #[.int .i64 0, .int .i64 0, .slice none 0 0, .slice none 0 0, .slice none 0 0] 47))) := Lib.hid (below_alloc (Below.refl _ _) _)
  have HZ0 : Hid ((w.alloc (.cells #[.int .i64 0, .int .i64 0, .slice none 0 0, .slice none 0 0, .slice none 0 0] 47)).heap[w.heap.size]? = some (.cells #[.int .i64 0, .int .i64 0, .slice none 0 0, .slice none 0 0, .slice none 0 0] 47 (0, 0))) := Lib.hid (blk_new _ _)
  have hok : newB_ok m ms = !ms.any moddB := by
    unfold newB_ok
    simp [show ¬ m < 1 by omega, show ¬ 64 < m by omega, show ¬ 8 < ms.length by omega]
  unfold NewP
  rw [hok]
  clear hok hr
  cases hodd : ms.any moddB with
  | true =>
    rw [hodd] at DC
    have z0 := (blk_cell HZ0.out 0).trans rfl
    have z1 := (blk_cell HZ0.out 1).trans rfl
    have z2 := (blk_cell HZ0.out 2).trans rfl
    have z3 := (blk_cell HZ0.out 3).trans rfl
    have z4 := (blk_cell HZ0.out 4).trans rfl
    have f0 := blk_frozen HZ0.out 0
    have f1 := blk_frozen HZ0.out 1
    have f2 := blk_frozen HZ0.out 2
    have f3 := blk_frozen HZ0.out 3
    have f4 := blk_frozen HZ0.out 4
    clear hodd
    go_enter Tryz.func19, Tryz.ntmps19
    go_wp2_with (go_at_call 40; (with_reducible refine (DC _ HB0.out).mono ?_); rintro e w' ⟨rfl, rfl⟩)
    refine bodyPost_ret (results_ct rfl _ _ w.heap.size 47 #[.int .i64 0, .int .i64 0, .slice none 0 0, .slice none 0 0, .slice none 0 0] (0, 0) _ rfl HZ0.out Tryz.underlying47 rfl (by kernel_rfl)) rfl ?_
    exact ⟨rfl, HB0.out⟩
  | false =>
    rw [hodd] at DC
    clear hodd
    go_enter Tryz.func19, Tryz.ntmps19
    go_wp2_with (go_at_call 40; (with_reducible refine (DC _ HB0.out).mono ?_); rintro e w' ⟨rfl, rfl⟩)
    have h2 := two_blocks (w := w) (x := #[.int .i64 0, .int .i64 0, .slice none 0 0, .slice none 0 0, .slice none 0 0]) (y := #[.int .i64 m, .int .i64 0, .slice none 0 0, .slice none 0 0, .slice none 0 0]) (tx := 47) (ty := 47) (Below.refl _ _)
    have HZ1 := Lib.hid h2.1
    have HX1 := Lib.hid h2.2.1
    have HB1 : Hid (Below w.heap.size w ((w.alloc (.cells #[.int .i64 0, .int .i64 0, .slice none 0 0, .slice none 0 0, .slice none 0 0] 47)).alloc (.cells #[.int .i64 m, .int .i64 0, .slice none 0 0, .slice none 0 0, .slice none 0 0] 47))) := Lib.hid (below_alloc (below_alloc (Below.refl _ _) _) _)
    have hs1 : w.heap.size + 2 = ((w.alloc (.cells #[.int .i64 0, .int .i64 0, .slice none 0 0, .slice none 0 0, .slice none 0 0] 47)).alloc (.cells #[.int .i64 m, .int .i64 0, .slice none 0 0, .slice none 0 0, .slice none 0 0] 47)).heap.size := by simp
    clear h2 HZ0 HB0 DC
    generalize hw1 : (w.alloc (.cells #[.int .i64 0, .int .i64 0, .slice none 0 0, .slice none 0 0, .slice none 0 0] 47)).alloc (.cells #[.int .i64 m, .int .i64 0, .slice none 0 0, .slice none 0 0, .slice none 0 0] 47) = w1 at *
    clear hw1
    go_loopw [31] (fun v31 wr => ∃ (k : Nat) (A4 : Option Addr) (c4 : Nat), v31 = .int .i64 k ∧ k ≤ ms.length ∧ Hid (wr.heap[w.heap.size]? = some (.cells #[.int .i64 0, .int .i64 0, .slice none 0 0, .slice none 0 0, .slice none 0 0] 47 (0, 0))) ∧ Hid (wr.heap[w.heap.size + 1]? = some (.cells #[.int .i64 m, .int .i64 0, .slice none 0 0, .slice A4 k c4, .slice none 0 0] 47 (0, 0))) ∧ Hid ((Kd.raw 4).R 63 wr w1.heap.size (fun _ => True) (.slice A4 k c4) (rowsOf lockRow ((ms.take k).map lockOf) noRef)) ∧ Hid (Below w.heap.size w wr) ∧ w1.heap.size ≤ wr.heap.size) (fun v31 _ => ms.length - (intOf v31).toNat)
    case atStart => exact ⟨0, none, 0, rfl, Nat.zero_le _, HZ1, HX1, Lib.hid (Kd.R_nil _ _ _ _ _), HB1, Nat.le_refl _⟩
    case round =>
      clear HZ1 HX1 HB1
      obtain ⟨k, A4, c4, rfl, hk, HZ, HX, HRR, HB, hsw⟩ := hrel
      by_cases hlt : k < ms.length
      · obtain ⟨ad, rfl, h0⟩ := int_at (Kd.C_below HR.out HB.out) hlt
        have HTK : Hid (rowsOf lockRow ((ms.take (k + 1)).map lockOf) noRef = rowsOf lockRow ((ms.take k).map lockOf) noRef ++ [[.int .i64 ms[k], .int .i64 0, .slice none 0 0, .bool false]]) := Lib.hid (by
          rw [List.take_succ_eq_append_getElem hlt, List.map_append]
          unfold rowsOf
          rw [List.mapIdx_append]
          rfl)
        have hlr : (rowsOf lockRow ((ms.take k).map lockOf) noRef).length ≤ 8 := by rw [rowsOf_len, List.length_map, List.length_take]; omega
        have hrk : (rowsOf lockRow ((ms.take k).map lockOf) noRef).length = k := by rw [rowsOf_len, List.length_map, List.length_take]; omega
        have x3 := (blk_cell HX.out 3).trans rfl
        have k0 : (0 : Int) ≤ (k : Int) := Int.natCast_nonneg k
        have k1 : (k : Int) < (ms.length : Int) := by omega
        have HRK := Lib.hid hrk
        generalize rowsOf lockRow ((ms.take k).map lockOf) noRef = rows at *
        clear hrk
        generalize ms[k] = x at *
        go_upto_region 9 with ((with_reducible refine gate_builtin (b := .append) (xs := #[.tmp 36, .tmp 39]) rfl ?_); at_builtin; refine Kd.R_append (Kd.raw 4) (w0 := wr) w1.heap.size rfl (.tmp 36) (.tmp 39) 44 63 (.agg #[.int .i64 0, .int .i64 0, .slice none 0 0, .bool false]) 48 rfl Tryz.underlying44 info63 rfl (by decide) (by omega) _ rows [.int .i64 x, .int .i64 0, .slice none 0 0, .bool false] [.int .i64 x, .int .i64 0, .slice none 0 0, .bool false] (fun _ => True) (fun _ => False) rfl (by first | (go_simp; done) | (go_simp; rfl)) ?aP (fun _ hk => hk.elim) ?aF ?aO ?aB ?aS ?aL ?_; (case aP => exact ⟨rfl, rfl, fun u hu => by simp only [List.mem_cons, List.not_mem_nil, or_false] at hu; rcases hu with rfl | rfl | rfl | rfl <;> rfl⟩); (case aF => exact (fun _ _ => trivial)); (case aO => exact HRR.out); (case aB => exact Below.refl _ _); (case aS => exact hsw); (case aL => omega); intro v5 w5 hR5 hB5 hg5 hat5; obtain ⟨A5, c5, e5, _, _⟩ := Kd.R_reads hR5; have e6 : (rows ++ [([.int .i64 x, .int .i64 0, .slice none 0 0, .bool false] : List Value)]).length = k + 1 := (by rw [List.length_append, HRK.out]; rfl); rw [e6] at e5; subst e5; have HR5 := Lib.hid hR5; have HT5 := Lib.hid (grown_turn hg5); have HX5 := Lib.hid ((HT5.out.block _ (blk_lt HX.out) (fun e => by have := Kd.R_base HRR.out _ e.symm; omega)).trans HX.out); have HZ5 := Lib.hid ((HT5.out.block _ (blk_lt HZ.out) (fun e => by have := Kd.R_base HRR.out _ e.symm; omega)).trans HZ.out); have x5 := (blk_cell HX5.out 3).trans rfl; have f5 := blk_frozen HX5.out 3; clear hR5 hB5 hg5 hat5 x3)
        have HX6 := Lib.hid (blk_put (cs' := #[.int .i64 m, .int .i64 0, .slice none 0 0, .slice A5 (k + 1) c5, .slice none 0 0]) HX5.out 3 (.slice A5 (k + 1) c5) rfl)
        have HT6 := Lib.hid ((Turn.refl w5 (fun b => b = w.heap.size + 1)).set rfl 3 (.slice A5 (k + 1) c5))
        generalize hws : World.setCell _ _ _ = w6 at *
        clear hws x5 f5
        have HZ6 := Lib.hid ((HT6.out.block _ (blk_lt HZ5.out) (by omega)).trans HZ5.out)
        have HR6 : Hid ((Kd.raw 4).R 63 w6 w1.heap.size (fun _ => True) (.slice A5 (k + 1) c5) (rows ++ [[.int .i64 x, .int .i64 0, .slice none 0 0, .bool false]])) := Lib.hid (Kd.R_reok rfl (Kd.R_step (Kd.R_tight rfl HR5.out) (fun b hb hlt2 => HT6.out.block b hlt2 (fun e => by have := Kd.R_base HR5.out b hb.symm; omega))) (fun _ _ => trivial))
        have HB6 : Hid (Below w.heap.size w w6) := Lib.hid (Turn.below (Turn.below HB.out HT5.out (fun b e => by have := Kd.R_base HRR.out b e.symm; omega) HB.out.size) HT6.out (fun b e => by omega) (by have := HT5.out.size; have := HB.out.size; omega))
        have hs6 : w1.heap.size ≤ w6.heap.size := by have := HT5.out.size; have := HT6.out.size; omega
        clear HZ HX HRR HB hsw HT5 HT6 HR5 HX5 HZ5
        go_wp2
        go_roundw
        case rel => exact ⟨k + 1, A5, c5, by go_num, by omega, HZ6, HX6, Lib.hid (by rw [HTK.out]; exact HR6.out), HB6, hs6⟩
        case measure => simp [intOf]; omega
      · obtain rfl : k = ms.length := by omega
        rw [List.take_length] at HRR
        have x0 := (blk_cell HX.out 0).trans rfl
        have x1 := (blk_cell HX.out 1).trans rfl
        have x2 := (blk_cell HX.out 2).trans rfl
        have x3 := (blk_cell HX.out 3).trans rfl
        have x4 := (blk_cell HX.out 4).trans rfl
        have z0 := (blk_cell HZ.out 0).trans rfl
        have z1 := (blk_cell HZ.out 1).trans rfl
        have z2 := (blk_cell HZ.out 2).trans rfl
        have z3 := (blk_cell HZ.out 3).trans rfl
        have z4 := (blk_cell HZ.out 4).trans rfl
        have f0 := blk_frozen HZ.out 0
        have f1 := blk_frozen HZ.out 1
        have f2 := blk_frozen HZ.out 2
        have f3 := blk_frozen HZ.out 3
        have f4 := blk_frozen HZ.out 4
        have HZ5 := Lib.hid (blk_put (cs' := stX m 0 none 0 0 A4 ms.length c4 none 0) (blk_put (blk_put (blk_put (blk_put HZ.out 0 (.int .i64 m) rfl) 1 (.int .i64 0) rfl) 2 (.slice none 0 0) rfl) 3 (.slice A4 ms.length c4) rfl) 4 (.slice none 0 0) rfl)
        have HT5 := Lib.hid (((((Turn.refl wr (fun b => b = w.heap.size)).set rfl 0 (.int .i64 m)).set rfl 1 (.int .i64 0)).set rfl 2 (.slice none 0 0)).set rfl 3 (.slice A4 ms.length c4)).set rfl 4 (.slice none 0 0)
        go_wp2
        refine bodyPost_ret (results_ct rfl _ _ w.heap.size 47 (stX m 0 none 0 0 A4 ms.length c4 none 0) (0, 0) _ rfl HZ5.out Tryz.underlying47 rfl (by kernel_rfl)) rfl ?_
        generalize hwf : World.setCell _ _ _ = wf at *
        have ht := HT5
        have hbw := HB.out.size
        have hr5 : (Kd.raw 4).R 63 wf w1.heap.size (fun _ => True) (.slice A4 ms.length c4) (rowsOf lockRow (ms.map lockOf) noRef) := Kd.R_reok rfl (Kd.R_step (Kd.R_tight rfl HRR.out) (fun b hb hlt2 => ht.block b hlt2 (fun e => by have := Kd.R_base HRR.out b hb.symm; omega))) (fun _ _ => trivial)
        obtain ⟨A5, c5, e5, hO, hA⟩ := own_new hr5 hlen w.heap.size (by omega) (by have := ht.size; omega)
        injection e5 with e5 e6 e7
        subst e5 e7
        exact ⟨A4, c4, by first | rfl | (rw [List.length_map]; rfl), hO, Turn.below HB.out ht (fun b e => by omega) hbw⟩
theorem F72 {w : World} {A : Option Addr} {n : Nat} {p : List S72} (h : Kd.C k72 w A n p) : Kd.F k72 w (fun b => A.map (·.block) = some b) A n p := fun W' hW => by
  refine ⟨h.1, h.2.1, fun h0 => ?_⟩
  obtain ⟨ad, e, hc⟩ := h.2.2 h0
  refine ⟨ad, e, fun j x hx => ?_⟩
  obtain ⟨cs, h1, h2, h3⟩ := hc j x hx
  obtain rfl := k72_open h2
  refine ⟨_, h1, k72_mk W' x, fun i u hu => ?_⟩
  have h4 := h3 i u hu
  have h5 := World.block_lt_of_cell? _ _ h4
  refine cell_keep h4 ?_
  refine hW _ ?_ h5
  rw [add_block, e]
  rfl
structure RelAt (w : World) (B : Bd) (g : Nat) (l : List S57) (r : Nat → Ref) (A2 : Option Addr) (q : List S63) (F : Nat → Prop) : Prop where
  row : RowAt w g 0 11 57 (rowsOf servRow l r)
  rest : ∀ W' : World, (∀ b, (F b ∨ B.G b) → b < w.heap.size → W'.heap[b]? = w.heap[b]?) → (∀ i (hi : i < l.length), l[i].f2.length ≤ (r i).2 ∧ ∃ rr, (Kd.raw 4).C W' (r i).1 l[i].f2.length (rowsOf jobRow l[i].f2 rr) ∧ Progs W' B l[i].f2 rr) ∧ Kd.C k63 W' A2 q.length q
  ne : ¬ F g ∧ ¬ B.G g
  lt : (∀ b, F b → b < w.heap.size) ∧ B.n ≤ w.heap.size
  len : l.length ≤ 100000
theorem RelAt.rdf {w : World} {B : Bd} {g : Nat} {l : List S57} {r : Nat → Ref} {A2 : Option Addr} {q : List S63} {F : Nat → Prop} (h : RelAt w B g l r A2 q F) : RdF w (fun b => b = g ∨ F b) B (some ⟨g, 0, none⟩) l A2 q := fun W' hW => by
  obtain ⟨h1, h2⟩ := h.rest W' (fun b hb hlt => hW b (hb.imp (fun e => .inr e) (fun e => e)) hlt)
  refine ⟨⟨r, ?_, h1⟩, h2⟩
  rw [← rowsOf_len (f := servRow) (r := r)]
  exact raw_of_row (h.row.same (hW g (.inl (.inl rfl)) h.row.lt)) (by rw [rowsOf_len]; have := h.len; omega) (mem_rowsOf (fun x p u hu => by simp only [servRow, List.mem_cons, List.not_mem_nil, or_false] at hu; rcases hu with rfl | rfl | rfl | rfl | rfl | rfl | rfl | rfl | rfl | rfl | rfl <;> rfl))
theorem RelAt.keep {w w' : World} {B : Bd} {g : Nat} {l : List S57} {r : Nat → Ref} {A2 : Option Addr} {q : List S63} {F : Nat → Prop} (h : RelAt w B g l r A2 q F) (hb : Below w.heap.size w w') : RelAt w' B g l r A2 q F where
  row := h.row.below hb
  rest := fun W' hW => h.rest W' (fun b hb2 hlt => by rw [hW b hb2 (Nat.lt_of_lt_of_le hlt hb.size)]; exact hb.block b hlt)
  ne := h.ne
  lt := ⟨fun b e => Nat.lt_of_lt_of_le (h.lt.1 b e) hb.size, Nat.le_trans h.lt.2 hb.size⟩
  len := h.len
theorem RelAt.serv {w w' : World} {B : Bd} {g : Nat} {l : List S57} {r : Nat → Ref} {A2 : Option Addr} {q : List S63} {F : Nat → Prop} (h : RelAt w B g l r A2 q F) {i : Nat} (hi : i < l.length) (x : S57) (hx : x.f2 = l[i].f2) (ht : Turn w w' (fun b => b = g)) (hr : RowAt w' g 0 11 57 ((rowsOf servRow l r).set i (servRow x (r i)))) : RelAt w' B g (l.set i x) r A2 q F where
  row := by rw [rowsOf_set_same]; exact hr
  rest := fun W' hW => by
    obtain ⟨h1, h2⟩ := h.rest W' (fun b hb2 hlt => by rw [hW b hb2 (Nat.lt_of_lt_of_le hlt ht.size)]; exact ht.block b hlt (fun e => by subst e; exact hb2.elim h.ne.1 h.ne.2))
    refine ⟨fun k hk => ?_, h2⟩
    have hk2 : k < l.length := by simpa using hk
    have e : (l.set i x)[k].f2 = l[k].f2 := by
      rw [List.getElem_set]
      split
      · rename_i e; subst e; exact hx
      · rfl
    rw [e]
    exact h1 k hk2
  ne := h.ne
  lt := ⟨fun b e => Nat.lt_of_lt_of_le (h.lt.1 b e) ht.size, Nat.le_trans h.lt.2 ht.size⟩
  len := by rw [List.length_set]; exact h.len
theorem rowsOf_snoc {α : Type} (f : α → Ref → List Value) (l : List α) (x : α) (r : Nat → Ref) (p : Ref) : rowsOf f (l ++ [x]) (upd r l.length p) = rowsOf f l r ++ [f x p] := by
  apply List.ext_getElem
  · simp [rowsOf]
  · intro k h1 h2
    have hk : k < l.length + 1 := by simpa [rowsOf] using h1
    rw [rowsOf_get (by simpa using hk)]
    by_cases e : k = l.length
    · subst e
      rw [upd_self, List.getElem_append_right (by simp), List.getElem_append_right (by simp [rowsOf_len])]
      simp [rowsOf_len]
    · have hk2 : k < l.length := by omega
      rw [upd_ne _ _ e, List.getElem_append_left hk2, List.getElem_append_left (by rw [rowsOf_len]; exact hk2), rowsOf_get hk2]
theorem Own.rel {w w' : World} {B B' : Bd} {l : List S57} {q : List S63} {o : OwnR} {i N1 : Nat} (h : Own w B l q o) (hi : i < l.length) {g : Nat} (hg : o.A = some ⟨g, 0, none⟩) (hN : ∀ c b, o.own c = some b → b < N1) (hB : ∀ b, B.G b → B'.G b) (hB' : ∀ b, B'.G b → B.G b ∨ N1 ≤ b) (hBn : B'.n ≤ w.heap.size) (hBN : B.n ≤ N1)
    (j : S125) (pp : Ref) (hj : j.f1.length ≤ pp.2 ∧ Kd.F k72 w B'.G pp.1 j.f1.length j.f1) {rr : Nat → Ref} (hpr : Progs w B l[i].f2 rr)
    {A7 : Option Addr} {c7 base : Nat} (hc7 : l[i].f2.length + 1 ≤ c7) (hR : (Kd.raw 4).R 125 w' base (fun _ => True) (.slice A7 (l[i].f2.length + 1) c7) (rowsOf jobRow l[i].f2 rr ++ [jobRow j pp]))
    (hown : ∀ b, (Value.slice A7 (l[i].f2.length + 1) c7).ownBlock = some b → (o.own (.j i) = some b ∨ w.heap.size ≤ b) ∧ b < w'.heap.size)
    (ht : Turn w w' (fun b => b = g ∨ o.own (.j i) = some b)) (x : S57) (hx : x.f2 = l[i].f2 ++ [j]) (hr : RowAt w' g 0 11 57 ((rowsOf servRow l o.r).set i (servRow x (A7, c7)))) (hNw : N1 ≤ w.heap.size) :
    RelAt w' B' g (l.set i x) (upd o.r i (A7, c7)) o.A2 q (fun b => (∃ c, c ≠ .g ∧ c ≠ .j i ∧ o.own c = some b) ∨ (Value.slice A7 (l[i].f2.length + 1) c7).ownBlock = some b) := by
  have hgo : o.own .g = some g := by show o.A.map _ = _; rw [hg]; rfl
  have hS : ∀ b, (b = g ∨ o.own (.j i) = some b) → ¬ B'.G b := fun b hb hG => by
    have h1 : ∃ c, o.own c = some b := hb.elim (fun e => ⟨.g, by rw [e]; exact hgo⟩) (fun e => ⟨_, e⟩)
    obtain ⟨c, hc⟩ := h1
    rcases hB' b hG with h2 | h2
    · have := B.lt b h2; have := (h.bnd c b hc).1; omega
    · have := hN c b hc; omega
  have hk0 : ∀ c b, c ≠ .g → c ≠ .j i → o.own c = some b → w'.heap[b]? = w.heap[b]? := fun c b h1 h2 h3 => ht.block b (h.bnd c b h3).2 (fun e => e.elim (fun e => h1 (h.apart c .g b h3 (by rw [e]; exact hgo))) (fun e => h2 (h.apart c (.j i) b h3 e)))
  refine ⟨by rw [rowsOf_set]; exact hr, fun W' hW => ?_, ⟨fun e => ?_, hS g (.inl rfl)⟩, ⟨fun b e => ?_, Nat.le_trans hBn ht.size⟩, by rw [List.length_set]; exact h.max.1⟩
  · have hWB : ∀ b, B'.G b → b < w.heap.size → W'.heap[b]? = w.heap[b]? := fun b hb hlt => by
      rw [hW b (.inr hb) (Nat.lt_of_lt_of_le hlt ht.size)]; exact ht.block b hlt (fun e => hS b e hb)
    have hWo : ∀ c b, c ≠ .g → c ≠ .j i → o.own c = some b → W'.heap[b]? = w.heap[b]? := fun c b h1 h2 h3 => by
      rw [hW b (.inl (.inl ⟨c, h1, h2, h3⟩)) (Nat.lt_of_lt_of_le (h.bnd c b h3).2 ht.size)]; exact hk0 c b h1 h2 h3
    have hPm : ∀ {x : List S125} {r0 : Nat → Ref}, Progs w B x r0 → Progs W' B' x r0 := fun hp k hk => ⟨(hp k hk).1, fun W2 hW2 => (hp k hk).2 W2 (fun b hb hlt => by
      have e := hWB b (hB b hb) hlt
      rw [← e]
      refine hW2 b (hB b hb) ?_
      rw [Array.getElem?_eq_getElem hlt] at e
      exact (Array.getElem?_eq_some_iff.1 e).1)⟩
    refine ⟨fun k hk => ?_, ?_⟩
    · have hk2 : k < l.length := by simpa using hk
      by_cases e : k = i
      · subst e
        have e2 : (l.set k x)[k] = x := List.getElem_set_self hk
        rw [e2, upd_self, hx]
        have hl : (l[k].f2 ++ [j]).length = l[k].f2.length + 1 := by simp
        rw [hl]
        refine ⟨hc7, upd rr l[k].f2.length pp, ?_, fun n hn => ?_⟩
        · rw [rowsOf_snoc]
          have h1 : (Kd.raw 4).R 125 W' base _ _ _ := Kd.R_step (Kd.R_tight rfl hR) (fun b hb hlt => hW b (.inl (.inr hb.symm)) hlt)
          obtain ⟨A8, c8, e8, _, hC8⟩ := Kd.R_reads h1
          injection e8 with e9 e10 e11
          subst e9
          have hll : (rowsOf jobRow l[k].f2 rr ++ [jobRow j pp]).length = l[k].f2.length + 1 := by simp [rowsOf_len]
          rw [hll] at hC8
          exact hC8
        · by_cases en : n = l[k].f2.length
          · subst en
            have e3 : (l[k].f2 ++ [j])[l[k].f2.length] = j := by simp
            rw [e3, upd_self]
            refine ⟨hj.1, fun W2 hW2 => hj.2 W2 (fun b hb hlt => ?_)⟩
            have e := hWB b hb hlt
            rw [← e]
            refine hW2 b hb ?_
            rw [Array.getElem?_eq_getElem hlt] at e
            exact (Array.getElem?_eq_some_iff.1 e).1
          · have hn2 : n < l[k].f2.length := by rw [hl] at hn; omega
            have e3 : (l[k].f2 ++ [j])[n] = l[k].f2[n] := List.getElem_append_left hn2
            rw [e3, upd_ne _ _ en]
            exact hPm hpr n hn2
      · have e2 : (l.set i x)[k] = l[k] := by rw [List.getElem_set]; exact if_neg (fun h => e h.symm)
        rw [e2, upd_ne _ _ e]
        have hjk := h.jobs k hk2
        refine ⟨hjk.cap, ?_⟩
        by_cases hx0 : l[k].f2 = []
        · exact ⟨fun _ => (none, 0), by rw [hx0]; exact C_nil' _ _ _, fun n hn => by rw [hx0] at hn; simp at hn⟩
        · obtain ⟨b, oo, r0, e3, hr3, hp⟩ := hjk.row hx0
          refine ⟨r0, ?_, hPm hp⟩
          rw [e3]
          exact raw_jobs (hr3.same (hWo (.j k) b (by simp) (by intro h5; injection h5 with h5; exact e h5) (by show ob (o.r k) = _; rw [ob, e3]; rfl))) hjk.max
    · by_cases hx0 : q = []
      · subst hx0; exact C_nil' _ _ _
      · obtain ⟨g2, e, hr2⟩ := h.lok hx0
        rw [e]
        refine RowAt.kd (d := k63) (hr2.same (hWo .h g2 (by simp) (by simp) (by show o.A2.map _ = _; rw [e]; rfl))) rowsOf_len (by have := h.max; omega) (fun k h1 h2 => ?_)
        rw [rowsOf_get h1]
        exact k63_mk W' q[k] (h.que k h1).1 ((h.que k h1).2 W' (fun b hb hlt => hWo (.q k) b (by simp) (by simp) hb))
  · rcases e with ⟨c, h1, h2, h3⟩ | h3
    · exact h1 (h.apart c .g g h3 hgo)
    · rcases (hown g h3).1 with h4 | h4
      · have := h.apart (.j i) .g g h4 hgo; cases this
      · have := (h.bnd .g g hgo).2; omega
  · rcases e with ⟨c, h1, h2, h3⟩ | h3
    · exact Nat.lt_of_lt_of_le (h.bnd c b h3).2 ht.size
    · exact (hown b h3).2
def relC (k : Nat) (P : List S72) (x : S57) : Int := if fitsB k P = true then (if 8 ≤ x.f2.length then 3 else 0) else 1
def relX (now : Int) (P : List S72) (x : S57) : S57 := { x with f1 := if x.f1.f4 = 0 then wakeS x.f1 now else x.f1, f2 := x.f2 ++ [⟨x.f5 + 1, P, 0, 0⟩], f5 := x.f5 + 1 }
def relE (now : Int) (x : S57) : List Ev := ⟨now, 1, x.f0, x.f5 + 1⟩ :: (if x.f1.f4 = 0 then [⟨now, 9, x.f0, 0⟩] else [])
end Go.Proofs.YtfimkmlgnmaopaaGreat.Top
