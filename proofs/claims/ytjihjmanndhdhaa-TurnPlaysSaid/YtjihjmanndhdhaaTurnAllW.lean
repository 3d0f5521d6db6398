/- TurnAll, the walk: whoever draws gets the lock, behind just those that drew ahead, if each one gives it back: for all rows of numbers, no condition. -/
import Derived.Test.YtjihjmanndhdhaaTurnC
import Derived.Test.YtjihjmanndhdhaaPGateLessx0
namespace Go.Proofs.Ytjihjmanndhdhaa.Turn
open Go.RowKit Go.Maps Go.Proofs.YtjihjmanndhdhaaW.PrintWords Go.Proofs.YtjihjmanndhdhaaW.PrintLast

theorem info3 : (Try.prog.info? 3).map (fun i => (i.zero, i.size, i.bytes)) = some (some (.int .i64 0), 1, 8) := by kernel_rfl

theorem rd_mem {l : List Int} {k : Nat} (h : k < l.length) : rd l (k : Int) ∈ l := by simp [rd, h]

/-- the row of the law: not the lock's blocks. -/
def off (t m : Nat) : Nat → Prop := fun k => k ≠ t ∧ k ≠ m

theorem row_frm {w w1 : World} {t m base : Nat} {v : Value} {xs : List Int} (h : (Kd.int .i64).R 3 w base (off t m) v xs) (hf : Frm w w1 (fun k => k = t ∨ k = m)) : (Kd.int .i64).R 3 w1 base (off t m) v xs :=
  Kd.R_step h (fun k hk hl => hf.block k hl (fun e => by rcases e with e | e; exact hk.1 e; exact hk.2 e))

theorem lk_grown {w w1 : World} {t m next base : Nat} {q : List (Int × Nat)} {v : Value} {xs : List Int} (h : Lk w t m next q) (hr : (Kd.int .i64).R 3 w base (off t m) v xs) (hg : w.grownBy w1 v.ownBlock) : Lk w1 t m next q := by
  have e : ∀ k, k = t ∨ k = m → some k ≠ v.ownBlock := fun k hk he => by
    have := hr.1 k he.symm
    rcases hk with hk | hk
    · exact this.1 hk
    · exact this.2 hk
  refine ⟨h.ne, by rw [hg.block t h.lt_t (e t (.inl rfl))]; exact h.ht, ?_, h.good⟩
  obtain ⟨D, h1, h2⟩ := h.map
  exact ⟨D, h1, owns_block h2 (hg.block m h2.lt (e m (.inr rfl)))⟩

/-- a Draw that is refused. -/
theorem draw_no (t m next : Nat) (q : List (Int × Nat)) (x : Int) (w : World) (h : Lk w t m next q) (hx : (Lit.int .i64 x).wf = true) (hno : ¬ (q.any (fun p => p.1 == x) = false ∧ 0 ≤ x ∧ x < 256 ∧ q.length < 64)) :
    ∃ e : Int, (e == 0) = false ∧ Calls Try.prog 29 #[.pointer (some ⟨t, 0, none⟩), .int .i64 x] w fun r w' => r = .returned (.tuple #[.int .u32 0, .int .i64 e]) ∧ w = w' := by
  by_cases c1 : q.any (fun p => p.1 == x) = true
  · exact ⟨5, rfl, (draw_busy t m next q x w h hx c1).mono fun _ _ ⟨a, b⟩ => ⟨a, b.symm⟩⟩
  replace c1 := eq_false_of_ne_true c1
  by_cases c2 : x < 0 ∨ 256 ≤ x
  · exact ⟨1, rfl, (draw_arg t m next q x w h hx c1 c2).mono fun _ _ ⟨a, b⟩ => ⟨a, b.symm⟩⟩
  have := h.good.few
  exact ⟨3, rfl, (draw_full t m next q x w h hx c1 (by omega) (by omega) (by have : ¬ q.length < 64 := fun h => hno ⟨c1, by omega, by omega, h⟩; omega)).mono fun _ _ ⟨a, b⟩ => ⟨a, b.symm⟩⟩

theorem drop_at {q : List (Int × Nat)} {i : Nat} (h : i < q.length) : ∃ x c, q.drop i = (x, c) :: q.drop (i + 1) ∧ rd (q.map (·.1)) (i : Int) = x := by
  refine ⟨q[i].1, q[i].2, List.drop_eq_getElem_cons h, ?_⟩
  simp [rd, h]

theorem row_cell {w : World} {base n c : Nat} {ok : Nat → Prop} {ad : Addr} {xs : List Int} (h : (Kd.int .i64).R 3 w base ok (.slice (some ad) n c) xs) {i : Nat} (hi : i < n) : w.cell? (ad.add i) = some (.int .i64 (rd xs (i : Int))) := by
  have hr := Kd.R_reads' h
  obtain ⟨ad', e, hc⟩ := Kd.at_int hr.2.2 (i : Int) (by omega) (by have := hr.1; omega)
  cases e
  rw [Int.toNat_natCast] at hc
  exact hc

theorem row_some {w : World} {base n c : Nat} {ok : Nat → Prop} {A : Option Addr} {xs : List Int} (h : (Kd.int .i64).R 3 w base ok (.slice A n c) xs) (hn : 0 < n) : ∃ ad, A = some ad := by
  have hr := Kd.R_reads' h
  obtain ⟨ad', e, _⟩ := Kd.at_int hr.2.2 0 (by omega) (by have := hr.1; omega)
  exact ⟨ad', e⟩

set_option maxHeartbeats 2000000 in
set_option maxRecDepth 100000 in
theorem all_long (A0 : Option Addr) (c0 : Nat) (l0 : List Int) (w : World) (hlen : 64 < l0.length) (hm : l0.length ≤ maxLen) :
    Calls Try.prog 8 #[.slice A0 l0.length c0] w fun e w' => e = .returned (.bool true) ∧ Below w.heap.size w w' := by
  unfold maxLen at hm
  have A := awake_calls w
  go_enter Try.func8, Try.ntmps8
  go_wp2_with (go_at_call 27; refine A.mono ?_; rintro e w1 ⟨rfl, hB⟩)
  go_ret
  exact ⟨rfl, hB⟩

set_option maxHeartbeats 2000000 in
set_option maxRecDepth 100000 in
theorem all_short (A0 : Option Addr) (c0 : Nat) (l0 : List Int) (w : World) (hr0 : (Kd.int .i64).C w A0 l0.length l0) (hlen : l0.length ≤ 64) (hwf : ∀ x ∈ l0, (Lit.int .i64 x).wf = true) :
    Calls Try.prog 8 #[.slice A0 l0.length c0] w fun e w' => e = .returned (.bool true) ∧ Below w.heap.size w w' := by
  have A := awake_calls w
  have HR0 := Lib.hid hr0
  have HW := Lib.hid hwf
  clear hr0 hwf
  go_enter Try.func8, Try.ntmps8
  go_wp2_with (go_at_call 27; refine A.mono ?_; rintro e w1 ⟨rfl, hB1⟩)
  clear A
  have N := new_calls w1
  have HB1 := Lib.hid hB1
  clear hB1
  go_wp2_with (go_at_call 28; (with_reducible refine N.mono ?_); rintro e w2 ⟨rfl, hL2, hB2⟩)
  have HB2 := Lib.hid (below_then HB1.out HB1.out.size hB2)
  have HL2 := Lib.hid hL2
  have ht1 : w.heap.size ≤ w1.heap.size := HB1.out.size
  clear hB2 hL2 N HB1
  generalize w1.heap.size = m at *
  generalize hbs : w.heap.size = base at *
  have HBS := Lib.hid hbs
  clear hbs
  have hmb : base ≤ m := ht1
  have hmt : base ≤ m + 1 := by omega
  go_loopw [4, 5] (fun v4 v5 wr => ∃ (k : Nat) (q : List (Int × Nat)), v5 = .int .i64 k ∧ k ≤ l0.length ∧ q.length ≤ k ∧ Hid (Lk wr (m + 1) m q.length q) ∧ Hid ((Kd.int .i64).R 3 wr base (off (m + 1) m) v4 (q.map (·.1))) ∧ Hid (Below base w wr)) (fun _ v5 _ => l0.length - (intOf v5).toNat)
  case atStart => exact ⟨0, [], rfl, Nat.zero_le _, Nat.le_refl _, HL2, Kd.R_nil _ _ _ _ _, HB2⟩
  case round =>
    obtain ⟨k, q, rfl, hk, hqk, HL, HR, HB⟩ := hrel
    by_cases hlt : k < l0.length
    · obtain ⟨ad, rfl, hcell0⟩ := Kd.at_int HR0.out (k : Int) (by omega) (by omega)
      rw [Int.toNat_natCast] at hcell0
      have hadw : (ad.add k).block < w.heap.size := World.block_lt_of_cell? w (ad.add k) hcell0
      have hcw := hcell0
      have hcell : wr.cell? (ad.add k) = some (.int .i64 (rd l0 (k : Int))) := by
        rw [HB.out.cell (by rw [← HBS.out]; exact World.block_lt_of_cell? w _ hcell0)]; exact hcell0
      have hxw : (Lit.int .i64 (rd l0 (k : Int))).wf = true := HW.out _ (rd_mem hlt)
      generalize rd l0 (k : Int) = x at *
      have hkb : k ≤ 64 := by omega
      clear hcell0
      by_cases hok : q.any (fun p => p.1 == x) = false ∧ 0 ≤ x ∧ x < 256 ∧ q.length < 64
      · have D := draw_ok (m + 1) m q.length q x wr HL.out hxw hok.1 hok.2.1 hok.2.2.1 hok.2.2.2 (by omega)
        have hq1 : q.length + 1 = (q ++ [(x, q.length)]).length := by simp
        have hq2 : q.map (·.1) ++ [x] = (q ++ [(x, q.length)]).map (·.1) := by simp
        have HQ1 := Lib.hid hq1
        have HQ2 := Lib.hid hq2
        clear hok hq1 hq2
        have hadlt : (ad.add k).block < base := by rw [← HBS.out]; exact hadw
        go_wp2_with (first
          | (go_at_call 29; (with_reducible refine D.mono ?_); rintro e w3 ⟨rfl, hL3, hF3⟩; have hB3 := Lib.hid (frm_below HB.out hF3 hmt hmb (by rw [← HBS.out]; exact HB.out.size)); have hR3 := Lib.hid (row_frm HR.out hF3); have hL3' := Lib.hid hL3; clear hL3 hF3; have hc3 : w3.cell? (ad.add k) = some (.int .i64 x) := by rw [hB3.out.cell hadlt]; exact hcw)
          | ((with_reducible refine gate_builtin (b := .append) (xs := #[.tmp 32, .tmp 37]) rfl ?_); at_builtin; refine Kd.R_append (Kd.int .i64) (w0 := w) base rfl (.tmp 32) (.tmp 37) 39 3 (.int .i64 0) 8 rfl Try.underlying39 info3 rfl (by decide) (by omega) u4 (q.map (·.1)) x [.int .i64 x] (off (m + 1) m) (fun _ => False) rfl rfl ?aP (fun _ hk => hk.elim) ?aF hR3.out hB3.out (by rw [← HBS.out]; exact hB3.out.size) ?aL ?_; (case aP => exact rfl); (case aF => (intro k hk; have h1 := hL3'.out.lt_t; have h2 := hL3'.out.lt_m; exact ⟨by omega, by omega⟩)); (case aL => simp; omega); intro v1 w4 hR4 hB4 hg4 hat4))
        refine ⟨⟨k + 1, q ++ [(x, q.length)], by go_num, by omega, by simp; omega, ?_, ?_, hB4⟩, by simp [intOf]; omega⟩
        · have := lk_grown hL3'.out hR3.out hg4
          rw [HQ1.out] at this
          exact this
        · rw [← HQ2.out]
          exact hR4
      · obtain ⟨e, he, D⟩ := draw_no (m + 1) m q.length q x wr HL.out hxw hok
        clear hok
        go_wp2_with (go_at_call 29; (with_reducible refine D.mono ?_); rintro e w3 ⟨rfl, rfl⟩)
        go_roundw
        case rel => exact ⟨k + 1, q, by go_num, by omega, by omega, HL, HR, HB⟩
        case measure => simp [intOf]; omega
    · obtain rfl : k = l0.length := by omega
      obtain ⟨Ao, co, hv⟩ := Kd.R_slice HR.out
      rw [List.length_map] at hv
      subst hv
      have hq64 : q.length ≤ 64 := by omega
      have HGD : Hid (Good q.length q) := HL.out.good
      go_wp2
      go_loopw [8] (fun v8 wx => ∃ i : Nat, v8 = .int .i64 i ∧ i ≤ q.length ∧ Hid (Lk wx (m + 1) m q.length (q.drop i)) ∧ Hid ((Kd.int .i64).R 3 wx base (off (m + 1) m) (.slice Ao q.length co) (q.map (·.1))) ∧ Hid (Below base w wx)) (fun v8 _ => q.length - (intOf v8).toNat)
      case atStart => exact ⟨0, rfl, Nat.zero_le _, HL, HR, HB⟩
      case round =>
        clear HL HR HB
        obtain ⟨i, rfl, hi, HL, HR, HB⟩ := hrel
        by_cases hil : i < q.length
        · obtain ⟨x, c, hdrop, hrd⟩ := drop_at hil
          obtain ⟨ad, rfl⟩ := row_some HR.out (by omega)
          have hc0 := row_cell HR.out hil
          rw [hrd] at hc0
          rw [hdrop] at HL
          have HRD := Lib.hid hrd
          clear hdrop hrd
          go_wp2_with (first
            | (go_at_call 31; (with_reducible refine (step_ahead HL.out).mono ?_); rintro e w5 ⟨rfl, hL5, hB5⟩; have HL5 := Lib.hid hL5; have HR5 := Lib.hid (Kd.R_below HR.out hB5); have HB5 := Lib.hid (HB.out.trans (hB5.mono (by rw [← HBS.out]; exact HB.out.size))); clear hL5 hB5; have hc5 := row_cell HR5.out hil; rw [HRD.out] at hc5)
            | (go_at_call 32; (with_reducible refine (step_free HL5.out).mono ?_); rintro e w6 ⟨rfl, hL6, hF6⟩; have HL6 := Lib.hid hL6; have HR6 := Lib.hid (row_frm HR5.out hF6); have HB6 := Lib.hid (frm_below HB5.out hF6 hmt hmb (by rw [← HBS.out]; exact HB5.out.size)); clear hL6 hF6; have hc6 := row_cell HR6.out hil; rw [HRD.out] at hc6)
            | (go_at_call 30; (with_reducible refine (step_gone HL6.out HL.out.good).mono ?_); rintro e w7 ⟨rfl, rfl⟩)
            | (go_at_call 30; (with_reducible refine (step_has HL.out).mono ?_); rintro e w4 ⟨rfl, rfl⟩))
          go_roundw
          case rel => exact ⟨i + 1, by go_num, by omega, HL6, HR6, HB6⟩
          case measure => simp [intOf]; omega
        · obtain rfl : i = q.length := by omega
          rw [List.drop_length] at HL
          have c0 := HL.out.c0
          have c1 := HL.out.c1
          have e0 : serves q.length ([] : List (Int × Nat)) = q.length := rfl
          rw [e0] at c1
          clear e0
          go_wp2
          go_quiet ((go_at_call 33; exact Calls.quiet_of_same ((step_len (HL.out.of_frm (Frm.drewN (Frm.refl _ (fun _ => False)) _) (fun h => h) (fun h => h))).mono fun e w' ⟨h1, h2⟩ => ⟨h1, h2.symm⟩)))
          go_wp2
          go_ret
          exact ⟨rfl, by rw [HBS.out]; exact pw_below_drewN HB.out _⟩

theorem all_calls (a : Option Addr) (len cap : Nat) (z : List Int) (w : World)
    (h : (a = none ∧ len = 0 ∧ cap = 0 ∧ z = []) ∨ ∃ x, a = some x ∧ len ≤ cap ∧ cap ≤ maxLen ∧ z.length = cap ∧ (∀ i, i < z.length → w.cell? (x.add i) = some (.int .i64 (z.getD i 0))) ∧ ∀ n ∈ z, (Lit.int .i64 n).wf = true) :
    Calls Try.prog 8 #[.slice a len cap] w fun e w' => e = .returned (.bool true) ∧ Below w.heap.size w w' := by
  obtain ⟨l, rfl, hr, hm, hw, _⟩ := ReadsInt.ofRowC h
  have hC : (Kd.int .i64).C w a l.length l := Kd.C_of_reads (d := (0 : Int)) (h1 := fun _ => rfl) hr
  by_cases hl : 64 < l.length
  · exact all_long a cap l w hl hm
  · exact all_short a cap l w hC (by omega) hw
end Go.Proofs.Ytjihjmanndhdhaa.Turn
