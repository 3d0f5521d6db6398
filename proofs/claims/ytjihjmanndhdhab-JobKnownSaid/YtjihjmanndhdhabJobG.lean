/- job: JobEnds walked, for all its arguments. -/
import Derived.Test.YtjihjmanndhdhabJobF
namespace Go.Proofs.Ytjihjmanndhdhab.Job
open Go.RowKit Go.Proofs.YtjihjmanndhdhabW.PrintWords Go.Proofs.YtjihjmanndhdhabW.PrintLast Go.Proofs.YtjihjmanndhdhabW.PrintMore Go.Proofs.Ytjihjmanndhdhab.PJob
set_option linter.unusedVariables false
set_option linter.unusedSimpArgs false

/-- where a job of the loop may stand, with all that has run. -/
structure At (l : List S24) (i a : Nat) (d all : Int) : Prop where
  le : a ≤ l.length
  d0 : 0 ≤ d
  fin : a = l.length → d = 0
  lt : a < l.length → d < (rd_T24 l (a : Int)).f1
  sum : all + leftJ l (a : Int) d = sumN l
  all0 : 0 ≤ all
  fast : i ≤ 200 + a

theorem leftJ_end (l : List S24) : leftJ l (l.length : Int) 0 = 0 := by simp [leftJ, sumN]

theorem leftJ_at {l : List S24} {a : Nat} (h : a < l.length) (d : Int) : leftJ l (a : Int) d = (rd_T24 l (a : Int)).f1 - d + sumN (l.drop (a + 1)) := by
  unfold leftJ
  rw [Int.toNat_natCast, rd_drop h]
  simp only [sumN]
  omega

theorem leftJ_next {l : List S24} {a : Nat} (h : a < l.length) : leftJ l ((a : Int) + 1) 0 = sumN (l.drop (a + 1)) := by
  unfold leftJ
  rw [show ((a : Int) + 1).toNat = a + 1 by omega]
  omega

/-- what the loads of the loop's look read. -/
abbrev SE (m k : Nat) (A : Option Addr) (n c : Nat) (i d d' : Int) (W w : World) : Prop :=
  (w.cell? ⟨m, 0, none⟩ = some (.int .i64 1) ∧ w.cell? ⟨m, 1, none⟩ = some (.slice A n c) ∧ w.cell? ⟨m, 2, none⟩ = some (.int .i64 i) ∧ w.cell? ⟨m, 3, none⟩ = some (.int .i64 d)) ∧ (w.cell? ⟨k, 0, none⟩ = some (.int .i64 1) ∧ w.cell? ⟨k, 1, none⟩ = some (.slice A n c) ∧ w.cell? ⟨k, 2, none⟩ = some (.int .i64 i) ∧ w.cell? ⟨k, 3, none⟩ = some (.int .i64 d')) ∧ (m < w.heap.size ∧ k < w.heap.size) ∧ Below m W w

theorem keepE {m k : Nat} {A : Option Addr} {n c : Nat} {i d d' : Int} {W w v : World} (h : SE m k A n c i d d' W w) (hb : Below w.heap.size w v) : SE m k A n c i d d' W v := by
  obtain ⟨⟨h1, h2, h3, h4⟩, ⟨h5, h6, h7, h8⟩, ⟨z1, z2⟩, hB⟩ := h
  have hs := hb.size
  have hc := (bcell hb).1
  exact ⟨⟨(hc _ _ z1).trans h1, (hc _ _ z1).trans h2, (hc _ _ z1).trans h3, (hc _ _ z1).trans h4⟩, ⟨(hc _ _ z2).trans h5, (hc _ _ z2).trans h6, (hc _ _ z2).trans h7, (hc _ _ z2).trans h8⟩, ⟨by omega, by omega⟩, hB.trans (hb.mono (by omega))⟩

theorem chainB {w a b c : World} (h0 : Below w.heap.size w a) (h1 : Below a.heap.size a b) (h2 : Below b.heap.size b c) : Below w.heap.size w c :=
  have h3 := h0.trans (h1.mono h0.size)
  h3.trans (h2.mono h3.size)

set_option maxHeartbeats 4000000 in
theorem ends_bad (A : Option Addr) (c : Nat) (l : List S24) (A2 : Option Addr) (c2 n2 : Nat) (w : World) (hr : Kd.C k24 w A l.length l) (hc : l.length ≤ c) (h : goodB l = false) :
    Calls Try.prog 5 #[.slice A l.length c, .slice A2 n2 c2] w fun e w' => e = .returned (.bool true) ∧ Below w.heap.size w w' := by
  go_enter Try.func5, Try.ntmps5
  go_wp2_with (first
    | (go_at_call 6; (with_reducible refine (awake_calls _).mono ?_); rintro e w1 ⟨rfl, hb1⟩)
    | (go_at_call 7; (with_reducible refine (new_bad (num := 1) (Kd.C_below hr hb1) hc (.inl h)).mono ?_); rintro e w2 ⟨A', c', rfl, hb2⟩))
  go_ret
  have hb3 := hb1.trans (hb2.mono hb1.size)
  exact ⟨rfl, hb3.alloc hb3.size _⟩

set_option maxHeartbeats 4000000 in
theorem ends_odd (A : Option Addr) (c : Nat) (l : List S24) (A2 : Option Addr) (c2 n2 : Nat) (w : World) (hr : Kd.C k24 w A l.length l) (hc : l.length ≤ c) (h : goodB l = true) (ho : n2 = 0 ∨ 50 < n2) :
    Calls Try.prog 5 #[.slice A l.length c, .slice A2 n2 c2] w fun e w' => e = .returned (.bool true) ∧ Below w.heap.size w w' := by
  have N : ∀ W, Below w.heap.size w W → Calls Try.prog 7 #[.int .i64 1, .slice A l.length c] W fun e w' => ∃ A' c', e = .returned (.tuple #[.agg #[.int .i64 1, .slice A' l.length c', .int .i64 0, .int .i64 0], .bool true]) ∧ Kd.C k24 w' A' l.length l ∧ l.length ≤ c' ∧ Below W.heap.size W w' := fun W hb => new_good (Kd.C_below hr hb) hc h (by omega)
  clear hr h
  have hcase : (n2 = 0) ∨ (n2 ≠ 0 ∧ 50 < n2) := by omega
  clear ho
  rcases hcase with h1 | ⟨h1, h2⟩
  all_goals
    try subst h1
    go_enter Try.func5, Try.ntmps5
    go_wp2_with (first
      | (go_at_call 6; (with_reducible refine (awake_calls _).mono ?_); rintro e w1 ⟨rfl, hb1⟩)
      | (go_at_call 7; (with_reducible refine (N _ hb1).mono ?_); rintro e w2 ⟨A', c', rfl, hC2, hc2, hb2⟩))
    go_ret
    have hb3 := hb1.trans (hb2.mono hb1.size)
    exact ⟨rfl, hb3.alloc hb3.size _⟩

set_option maxRecDepth 100000 in
set_option maxHeartbeats 8000000 in
theorem ends_good (A : Option Addr) (c : Nat) (l : List S24) (A2 : Option Addr) (cc2 : Nat) (ns : List Int) (w : World) (hr : Kd.C k24 w A l.length l) (hc : l.length ≤ c) (hr2 : (Kd.int .i64).C w A2 ns.length ns) (h : goodB l = true) (hn0 : ns.length ≠ 0) (hn1 : ns.length ≤ 50) :
    Calls Try.prog 5 #[.slice A l.length c, .slice A2 ns.length cc2] w fun e w' => e = .returned (.bool true) ∧ Below w.heap.size w w' := by
  have N : ∀ W, Below w.heap.size w W → Calls Try.prog 7 #[.int .i64 1, .slice A l.length c] W fun e w' => ∃ A' c', e = .returned (.tuple #[.agg #[.int .i64 1, .slice A' l.length c', .int .i64 0, .int .i64 0], .bool true]) ∧ Kd.C k24 w' A' l.length l ∧ l.length ≤ c' ∧ Below W.heap.size W w' := fun W hb => new_good (Kd.C_below hr hb) hc h (by omega)
  have T : ∀ W, Below w.heap.size w W → Calls Try.prog 15 #[.slice A l.length c] W fun e w' => e = .returned (.int .i64 (sumN l)) ∧ Below W.heap.size W w' := fun W hb => total_calls (Kd.C_below hr hb) hc h
  obtain ⟨ad, rfl, _⟩ := Kd.at_int hr2 0 (by omega) (by omega)
  have NS : ∀ W, Below w.heap.size w W → ∀ q : Nat, q < ns.length → ∃ e : Int, W.cell? (ad.add q) = some (.int .i64 e) := fun W hb q h1 => ⟨_, Kd.foot_int (Kd.C_below hr2 hb) (q : Int) (by omega) (by omega)⟩
  have hs := good_steps h
  have h8 : l.length ≤ 8 := hs.2.2
  have h1l : 1 ≤ l.length := hs.2.1
  have hp : ∀ i : Nat, i < l.length → 1 ≤ (rd_T24 l (i : Int)).f1 ∧ (rd_T24 l (i : Int)).f1 ≤ 2147483648 := fun i hi => hs.1 _ (by rw [rd_get hi]; exact List.getElem_mem hi)
  have hsum : ∀ k, 0 ≤ sumN (l.drop k) ∧ sumN (l.drop k) ≤ 17179869184 := fun k => by
    have := sumN_bound (hs.1.drop k)
    have h2 : (l.drop k).length ≤ 8 := by rw [List.length_drop]; omega
    omega
  have hgd : ∀ (i : Nat) (d : Int), i ≤ l.length → 0 ≤ d → (i = l.length → d = 0) → (i < l.length → d ≤ (rd_T24 l (i : Int)).f1) → goodJ 1 l (i : Int) d = true := fun i d hi h0 h1 h2 => goodJ_mk (by omega) h (by omega) (by omega) h0 (fun e => h1 (by omega)) (fun e => h2 (by omega))
  have hst : ∀ (i : Nat) (d : Int), i < l.length → 0 ≤ d → d ≤ (rd_T24 l (i : Int)).f1 → stepJ 1 l (i : Int) d = some (rd_T24 l (i : Int)) := fun i d hi h0 h1 => stepJ_some (hgd i d (by omega) h0 (by omega) (fun _ => h1)) (by omega)
  clear hr h hs hr2
  have hb0 : ((ns.length : Int) == 0) = false := by rw [beq_eq_false_iff_ne]; omega
  have hb50 : decide (50 < (ns.length : Int)) = false := decide_eq_false (by omega)
  have hne : ns ≠ [] := fun e => hn0 (by rw [e]; rfl)
  go_enter Try.func5, Try.ntmps5
  go_wp2_with (go_at_call 6; (with_reducible refine (awake_calls _).mono ?_); rintro e w1 ⟨rfl, hb1⟩)
  go_wp2_with (go_at_call 7; (with_reducible refine (N _ hb1).mono ?_); rintro e w2 ⟨A', c', rfl, hC2, hc2, hb2⟩)
  have HX := Lib.hid (hb1.trans (hb2.mono hb1.size))
  have hwm : w.heap.size ≤ w2.heap.size := HX.out.size
  clear N hb1 hb2
  have H0 := Lib.hid (new_block w2 (.cells #[.int .i64 1, .slice A' l.length c', .int .i64 0, .int .i64 0] 28))
  have B0 := Lib.hid ((Below.refl w2.heap.size w2).alloc (Nat.le_refl _) (.cells #[.int .i64 1, .slice A' l.length c', .int .i64 0, .int .i64 0] 28))
  have HC := Lib.hid hC2
  generalize hm : w2.heap.size = m at *
  have HM := Lib.hid hm
  clear hm hC2
  have Z : ∀ W, Below m w2 W → Kd.C k24 W A' l.length l := fun W hb => Kd.C_below HC.out (by rw [HM.out]; exact hb)
  have LJ : ∀ (i : Nat) (d : Int) W, i ≤ l.length → 0 ≤ d → (i = l.length → d = 0) → (i < l.length → d ≤ (rd_T24 l (i : Int)).f1) → Below m w2 W → Calls Try.prog 14 #[.agg #[.int .i64 1, .slice A' l.length c', .int .i64 i, .int .i64 d]] W fun e w' => e = .returned (.int .i64 (leftJ l (i : Int) d)) ∧ Below W.heap.size W w' :=
    fun i d W hi h0 h1 h2 hb => left_calls (Z W hb) hc2 (hgd i d hi h0 h1 h2)
  have L0 := Lib.hid (LJ 0 0 _ (by omega) (by omega) (by omega) (fun hh => by have := hp 0 hh; omega) B0.out)
  have hl0 : leftJ l ((0 : Nat) : Int) 0 = sumN l := by simp [leftJ]
  rw [hl0, show ((0 : Nat) : Int) = 0 from rfl] at L0
  go_wp2_with (go_at_call 14; (with_reducible refine L0.out.mono ?_); rintro e w3 ⟨rfl, hb3⟩)
  clear L0
  have H3 := Lib.hid (keeps H0.out hb3)
  have B3 := Lib.hid (B0.out.trans (hb3.mono (by have := older H0.out; omega)))
  clear H0 B0 hb3
  go_wp2_with (fail)
  go_loopw [7, 9] (fun v7 v9 wr => ∃ (i a : Nat) (d all : Int), v7 = .int .i64 all ∧ v9 = .int .i64 i ∧ Hid (At l i a d all) ∧ Hid (wr.heap[m]? = some (.cells #[.int .i64 1, .slice A' l.length c', .int .i64 a, .int .i64 d] 28 (0, 0))) ∧ Hid (Below m w2 wr)) (fun _ v9 _ => 400 - (intOf v9).toNat)
  case atStart => exact ⟨0, 0, 0, 0, rfl, rfl, Lib.hid ⟨by omega, by omega, by omega, fun hh => by have := hp 0 hh; omega, by rw [hl0]; omega, by omega, by omega⟩, H3, B3⟩
  case round =>
    clear H3 B3
    obtain ⟨i, a, d, all, rfl, rfl, HA, HB, HW⟩ := hrel
    have hal := HA.out.le
    have hi8 := HA.out.fast
    have hmz := older HB.out
    have a0 := cell_of HB.out 0
    have a1 := cell_of HB.out 1
    have a2 := cell_of HB.out 2
    have a3 := cell_of HB.out 3
    have L1 := LJ a d wr hal HA.out.d0 HA.out.fin (fun hh => by have := HA.out.lt hh; omega) HW.out
    by_cases hlt : a < l.length
    · have hdl := HA.out.lt hlt
      have hd0 := HA.out.d0
      have hpa := hp a hlt
      have hla := leftJ_at hlt d
      have hsa := hsum (a + 1)
      have hpos : 0 < leftJ l (a : Int) d := by omega
      have hi4 : (i : Int) < 400 := by omega
      have hq1 : i % ns.length < ns.length := Nat.mod_lt _ (by omega)
      have hq2 : (i : Int) % (ns.length : Int) < ns.length := by omega
      have RR : ∀ (n : Int) W, 1 ≤ n → Below m w2 W → ∃ mm : Int, 1 ≤ mm ∧ decide (n < mm) = false ∧ mm ≤ (rd_T24 l (a : Int)).f1 - d ∧ (n = 2147483648 → mm = (rd_T24 l (a : Int)).f1 - d) ∧ Calls Try.prog 9 #[.agg #[.int .i64 1, .slice A' l.length c', .int .i64 a, .int .i64 d], .int .i64 n] W fun e w' => e = .returned (.tuple #[.agg #[.int .i64 1, .slice A' l.length c', .int .i64 a, .int .i64 (d + mm)], .int .i64 mm]) ∧ Below W.heap.size W w' := fun n W hn hW => by
        have hran : 1 ≤ ranJ ((rd_T24 l (a : Int)).f1 - d) n ∧ ranJ ((rd_T24 l (a : Int)).f1 - d) n ≤ n ∧ ranJ ((rd_T24 l (a : Int)).f1 - d) n ≤ (rd_T24 l (a : Int)).f1 - d ∧ (n = 2147483648 → ranJ ((rd_T24 l (a : Int)).f1 - d) n = (rd_T24 l (a : Int)).f1 - d) := by
          unfold ranJ
          rw [if_neg (by omega)]
          split <;> refine ⟨?_, ?_, ?_, ?_⟩ <;> omega
        exact ⟨_, hran.1, decide_eq_false (by omega), hran.2.2.1, hran.2.2.2, run_yes 1 A' c' l a d n _ W (Z W hW) hc2 (hst a d hlt hd0 (by omega)) hd0 (by omega) hpa.2⟩
      go_wp2_with (go_at_call 14; (with_reducible refine L1.mono ?_); rintro e w4 ⟨rfl, hb4⟩; have k4 := keeps HB.out hb4; have hz4 := older k4; have c0 := cell_of k4 0; have c1 := cell_of k4 1; have c2 := cell_of k4 2; have c3 := cell_of k4 3; have HB4 := Lib.hid k4; have HW4 := Lib.hid (HW.out.trans (hb4.mono (by omega))); obtain ⟨ee, hcq⟩ := NS w4 (HX.out.trans (HW4.out.mono hwm)) _ hq1; clear k4 hb4)
      clear L1 a0 a1 a2 a3
      rotate_left
      obtain ⟨mm, hm1, hm2, hm3, hm4, RX⟩ := RR ee w4 (by omega) HW4.out
      rotate_left
      obtain ⟨mm, hm1, hm2, hm3, hm4, RX⟩ := RR 2147483648 w4 (by omega) HW4.out
      rotate_left
      obtain ⟨mm, hm1, hm2, hm3, hm4, RX⟩ := RR 2147483648 w4 (by omega) HW4.out
      all_goals
        have hfast : i + 1 ≤ 200 + a ∨ d + mm = (rd_T24 l (a : Int)).f1 := by omega
        clear hm4
        have hd1 : decide (mm < 0) = false := decide_eq_false (by omega)
        go_wp2_with (go_at_call 9; (with_reducible refine RX.mono ?_); rintro e w5 ⟨rfl, hb5⟩; have k5 := keeps HB4.out hb5; have hz5 := older k5; have HB5 := Lib.hid k5; have HW5 := Lib.hid (HW4.out.trans (hb5.mono (by omega))); clear k5 hb5)
        clear RX RR HB4 HW4 c0 c1 c2 c3 hcq
        have hLk : leftJ l (a : Int) (d + mm) = leftJ l (a : Int) d - mm := by rw [leftJ_at hlt, leftJ_at hlt]; omega
        have hLb : mm ≤ leftJ l (a : Int) d ∧ leftJ l (a : Int) d ≤ 20000000000 := by omega
        have hw1 : IntKind.i64.wrap (leftJ l (a : Int) d - mm) = leftJ l (a : Int) d - mm := by simp [IntKind.wrap, IntKind.bits, IntKind.signed]; omega
        have KB6 := Lib.hid (new_block w5 (.cells #[.int .i64 1, .slice A' l.length c', .int .i64 a, .int .i64 (d + mm)] 28))
        have HB6 := Lib.hid (alloc_keeps HB5.out (.cells #[.int .i64 1, .slice A' l.length c', .int .i64 a, .int .i64 (d + mm)] 28))
        have HW6 := Lib.hid (HW5.out.alloc (by omega) (.cells #[.int .i64 1, .slice A' l.length c', .int .i64 a, .int .i64 (d + mm)] 28))
        have hS : SE m w5.heap.size A' l.length c' a d (d + mm) w2 (w5.alloc (.cells #[.int .i64 1, .slice A' l.length c', .int .i64 a, .int .i64 (d + mm)] 28)) :=
          ⟨⟨cell_of HB6.out 0, cell_of HB6.out 1, cell_of HB6.out 2, cell_of HB6.out 3⟩, ⟨cell_of KB6.out 0, cell_of KB6.out 1, cell_of KB6.out 2, cell_of KB6.out 3⟩, ⟨older HB6.out, older KB6.out⟩, HW6.out⟩
        have LK : ∀ W, SE m w5.heap.size A' l.length c' a d (d + mm) w2 W → Calls Try.prog 14 #[.agg #[.int .i64 1, .slice A' l.length c', .int .i64 a, .int .i64 (d + mm)]] W fun e w' => e = .returned (.int .i64 (leftJ l (a : Int) d - mm)) ∧ Below W.heap.size W w' :=
          fun W hS => by rw [← hLk]; exact LJ a (d + mm) W hal (by omega) (by omega) (fun _ => by omega) hS.2.2.2
        have LJJ : ∀ W, SE m w5.heap.size A' l.length c' a d (d + mm) w2 W → Calls Try.prog 14 #[.agg #[.int .i64 1, .slice A' l.length c', .int .i64 a, .int .i64 d]] W fun e w' => e = .returned (.int .i64 (leftJ l (a : Int) d)) ∧ Below W.heap.size W w' :=
          fun W hS => LJ a d W hal hd0 (by omega) (fun _ => by omega) hS.2.2.2
        have hall : 0 ≤ all ∧ all + mm ≤ 20000000000 := by
          have := HA.out.sum
          have := HA.out.all0
          have := hsum 0
          rw [List.drop_zero] at this
          omega
        clear hla hpos hLk
        generalize leftJ l (a : Int) d = LL at *
        generalize hw6 : World.alloc w5 _ = w6 at *
        have Hw6 := Lib.hid hw6
        clear hw6
        go_region_held3 (fun w' => SE m w5.heap.size A' l.length c' a d (d + mm) w2 w') (first | exact keepE hS ⟨rfl, rfl, rfl, Nat.le_refl _, fun _ _ => rfl⟩ | (refine keepE ?_ (by assumption); first | assumption | exact ⟨⟨by assumption, by assumption, by assumption, by assumption⟩, ⟨by assumption, by assumption, by assumption, by assumption⟩, ⟨by assumption, by assumption⟩, by assumption⟩)) (first | (go_at_call 14; with_reducible refine (LK _ (by assumption)).mono ?_; rintro e w' ⟨rfl, hB1⟩) | (go_at_call 14; with_reducible refine (LJJ _ (by assumption)).mono ?_; rintro e w' ⟨rfl, hB1⟩))
      all_goals
        have BB := chainB (w := w6) (a := w6.drew) ⟨rfl, rfl, rfl, Nat.le_refl _, fun _ _ => rfl⟩ (by assumption) (by assumption)
        have k8 := keeps KB6.out BB
        have m8 := keeps HB6.out BB
        have HW8 := HW6.out.trans (BB.mono (by have := older HB6.out; omega))
        clear BB LK LJJ HB6 HW6 KB6 HB5 HW5 hS Hw6
        have c0 := cell_of k8 0
        have c1 := cell_of k8 1
        have c2 := cell_of k8 2
        have c3 := cell_of k8 3
        have KB8 := Lib.hid k8
        have HB8 := Lib.hid m8
        have HWW8 := Lib.hid HW8
        clear k8 m8 HW8
        by_cases hfin : d + mm = (rd_T24 l (a : Int)).f1
        · have NX := next_yes 1 A' c' l a (d + mm) _ w' (Z w' HWW8.out) hc2 (hst a (d + mm) hlt (by omega) (by omega)) hfin (by omega) (by omega)
          have hw2 : IntKind.i64.wrap (all + mm) = all + mm := by simp [IntKind.wrap, IntKind.bits, IntKind.signed]; omega
          have HF := Lib.hid hfin
          clear hfin
          clear hfast
          go_wp2_with (go_at_call 8; (with_reducible refine NX.mono ?_); rintro e w9 ⟨rfl, hb9⟩; have k9 := keeps KB8.out hb9; have m9 := keeps HB8.out hb9; have hz9 := older m9; have hy9 := older k9; have c0 := cell_of k9 0; have c1 := cell_of k9 1; have c2 := cell_of k9 2; have c3 := cell_of k9 3; have f0 := frozen_of k9 0; have f1 := frozen_of k9 1; have f2 := frozen_of k9 2; have f3 := frozen_of k9 3; have b0 := cell_of m9 0; have b1 := cell_of m9 1; have b2 := cell_of m9 2; have b3 := cell_of m9 3; have g0 := frozen_of m9 0; have g1 := frozen_of m9 1; have g2 := frozen_of m9 2; have g3 := frozen_of m9 3; have KB9 := Lib.hid k9; have HB9 := Lib.hid m9; have HW9 := Lib.hid (HWW8.out.trans (hb9.mono (by have := older HB8.out; omega))); clear k9 m9 hb9)
          have hmk : m ≠ w5.heap.size := by omega
          have e1 : ((a + 1 : Nat) : Int) = (a : Int) + 1 := by omega
          refine ⟨⟨i + 1, a + 1, 0, all + mm, rfl, by go_num, Lib.hid ⟨by omega, by omega, fun _ => rfl, fun hh => by have := hp (a + 1) hh; omega, ?_, by omega, by omega⟩, ?_, ?_⟩, ?_⟩
          · rw [e1, leftJ_next hlt]
            have h1 := HA.out.sum
            rw [leftJ_at hlt] at h1
            have h2 := HF.out
            omega
          · rw [e1]
            with_reducible exact Lib.hid (alloc_keeps (set4 (ne4 HB9.out hmk _ _ _ _) _ _ _ _) _)
          · with_reducible exact Lib.hid ((below4 (below4 HW9.out (by omega) _ _ _ _) (Nat.le_refl _) _ _ _ _).alloc (by rw [size4, size4]; omega) _)
          · simp [intOf]; omega
        · have NX := next_not 1 A' c' l a (d + mm) _ w' (Z w' HWW8.out) hc2 (hst a (d + mm) hlt (by omega) (by omega)) hfin
          have hw2 : IntKind.i64.wrap (all + mm) = all + mm := by simp [IntKind.wrap, IntKind.bits, IntKind.signed]; omega
          have hlt2 : d + mm < (rd_T24 l (a : Int)).f1 := by omega
          go_wp2_with (go_at_call 8; (with_reducible refine NX.mono ?_); rintro e w9 ⟨rfl, hb9⟩; have k9 := keeps KB8.out hb9; have m9 := keeps HB8.out hb9; have hz9 := older m9; have hy9 := older k9; have c0 := cell_of k9 0; have c1 := cell_of k9 1; have c2 := cell_of k9 2; have c3 := cell_of k9 3; have g0 := frozen_of m9 0; have g1 := frozen_of m9 1; have g2 := frozen_of m9 2; have g3 := frozen_of m9 3; have b0 := cell_of m9 0; have b1 := cell_of m9 1; have b2 := cell_of m9 2; have b3 := cell_of m9 3; have HB9 := Lib.hid m9; have HW9 := Lib.hid (HWW8.out.trans (hb9.mono (by have := older HB8.out; omega))); clear k9 m9 hb9)
          refine ⟨⟨i + 1, a, d + mm, all + mm, rfl, by go_num, Lib.hid ⟨by omega, by omega, by omega, fun _ => hlt2, ?_, by omega, by omega⟩, ?_, ?_⟩, ?_⟩
          · have h1 := HA.out.sum
            rw [leftJ_at hlt] at h1 ⊢
            omega
          · with_reducible exact Lib.hid (alloc_keeps (set4 HB9.out _ _ _ _) _)
          · with_reducible exact Lib.hid ((below4 HW9.out (Nat.le_refl _) _ _ _ _).alloc (by rw [size4]; omega) _)
          · simp [intOf]; omega
    · obtain rfl : a = l.length := by omega
      have hd : d = 0 := HA.out.fin rfl
      subst hd
      have hall : all = sumN l := by have := HA.out.sum; rw [leftJ_end] at this; omega
      subst hall
      rw [leftJ_end] at L1
      have hi4 : (i : Int) < 400 := by omega
      have ST : ∀ W, Below m w2 W → Calls Try.prog 10 #[.agg #[.int .i64 1, .slice A' l.length c', .int .i64 l.length, .int .i64 0]] W fun e w' => e = .returned (.tuple #[.agg #[.int .i64 0, .int .i64 0], .bool false]) ∧ Below W.heap.size W w' := fun W hb => step_calls 1 A' c' l l.length 0 W (Z W hb) hc2 (0, 0, false) (by rw [stepJ_end rfl])
      clear Z LJ HA
      go_wp2_with (first
        | (go_at_call 14; (with_reducible refine L1.mono ?_); rintro e w4 ⟨rfl, hb4⟩; have k4 := keeps HB.out hb4; have hz4 := older k4; have c0 := cell_of k4 0; have c1 := cell_of k4 1; have c2 := cell_of k4 2; have c3 := cell_of k4 3; have HW4 := Lib.hid (HW.out.trans (hb4.mono (by omega))); clear k4 hb4)
        | (go_at_call 10; (with_reducible refine (ST _ HW4.out).mono ?_); rintro e w5 ⟨rfl, hb5⟩; have HW5 := Lib.hid (HX.out.trans ((HW4.out.trans (hb5.mono (by omega))).mono hwm)); clear hb5))
      have TT := T _ (HW5.out.alloc HW5.out.size (.cells #[.int .i64 0, .int .i64 0] 24))
      go_wp2_with (go_at_call 15; (with_reducible refine TT.mono ?_); rintro e w6 ⟨rfl, hb6⟩)
      go_ret
      refine ⟨rfl, ?_⟩
      have h5 := HW5.out.alloc HW5.out.size (.cells #[.int .i64 0, .int .i64 0] 24)
      exact h5.trans (hb6.mono h5.size)

/-- JobEnds answers true, whatever it is given. -/
theorem ends_calls (A : Option Addr) (c : Nat) (l : List S24) (A2 : Option Addr) (c2 : Nat) (ns : List Int) (w : World) (hr : Kd.C k24 w A l.length l) (hc : l.length ≤ c) (hr2 : (Kd.int .i64).C w A2 ns.length ns) :
    Calls Try.prog 5 #[.slice A l.length c, .slice A2 ns.length c2] w fun e w' => e = .returned (.bool true) ∧ Below w.heap.size w w' := by
  cases hg : goodB l
  · exact ends_bad A c l A2 c2 ns.length w hr hc hg
  · by_cases ho : ns.length = 0 ∨ 50 < ns.length
    · exact ends_odd A c l A2 c2 ns.length w hr hc hg ho
    · exact ends_good A c l A2 c2 ns w hr hc hr2 hg (by omega) (by omega)
end Go.Proofs.Ytjihjmanndhdhab.Job
