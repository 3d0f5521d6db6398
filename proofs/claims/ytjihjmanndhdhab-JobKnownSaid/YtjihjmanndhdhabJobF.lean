/- job: JobParts walked, for all its arguments. -/
import Derived.Test.YtjihjmanndhdhabJobE
namespace Go.Proofs.Ytjihjmanndhdhab.Job
open Go.RowKit Go.Proofs.YtjihjmanndhdhabW.PrintWords Go.Proofs.YtjihjmanndhdhabW.PrintLast Go.Proofs.YtjihjmanndhdhabW.PrintMore Go.Proofs.Ytjihjmanndhdhab.PJob
set_option linter.unusedVariables false
set_option linter.unusedSimpArgs false

/-- a job's four cells set anew. -/
theorem set4 {w : World} {b : Nat} {x0 x1 x2 x3 : Value} (h : w.heap[b]? = some (.cells #[x0, x1, x2, x3] 28 (0, 0))) (y0 y1 y2 y3 : Value) : ((((w.setCell ⟨b, 0, none⟩ y0).setCell ⟨b, 1, none⟩ y1).setCell ⟨b, 2, none⟩ y2).setCell ⟨b, 3, none⟩ y3).heap[b]? = some (.cells #[y0, y1, y2, y3] 28 (0, 0)) := by
  rw [set_self _ _ (set_self _ _ (set_self _ _ (set_self _ _ h)))]
  rfl

theorem below4 {W w : World} {base b : Nat} (h : Below base W w) (hb : base ≤ b) (y0 y1 y2 y3 : Value) : Below base W ((((w.setCell ⟨b, 0, none⟩ y0).setCell ⟨b, 1, none⟩ y1).setCell ⟨b, 2, none⟩ y2).setCell ⟨b, 3, none⟩ y3) :=
  (((h.setCell hb y0).setCell hb y1).setCell hb y2).setCell hb y3

theorem ne4 {w : World} {b k : Nat} {o : Obj} (h : w.heap[k]? = some o) (hk : k ≠ b) (y0 y1 y2 y3 : Value) : ((((w.setCell ⟨b, 0, none⟩ y0).setCell ⟨b, 1, none⟩ y1).setCell ⟨b, 2, none⟩ y2).setCell ⟨b, 3, none⟩ y3).heap[k]? = some o := by
  rw [set_ne _ _ hk, set_ne _ _ hk, set_ne _ _ hk, set_ne _ _ hk]
  exact h

theorem size4 {w : World} {b : Nat} (y0 y1 y2 y3 : Value) : ((((w.setCell ⟨b, 0, none⟩ y0).setCell ⟨b, 1, none⟩ y1).setCell ⟨b, 2, none⟩ y2).setCell ⟨b, 3, none⟩ y3).heap.size = w.heap.size := by simp

/-- a program's own reading. -/
def ownL (l : List S24) : List S49 := l.map fun p => ⟨p.f0, p.f1⟩

theorem own_loop (l : List S24) (hl : l.length ≤ 8) (d : Nat) : ∀ (k i : Nat) (x : List S49), i + d = l.length → d < k → x.length ≤ i → beadlelaw11_ownP.l0 k l x (i : Int) = some (x ++ ownL (l.drop i)) := by
  induction d with
  | zero =>
    intro k i x hi hk hx
    obtain ⟨k, rfl⟩ : ∃ n, k = n + 1 := ⟨k - 1, by omega⟩
    simp only [beadlelaw11_ownP.l0]
    rw [if_neg (by omega), List.drop_of_length_le (by omega)]
    simp [ownL]
  | succ d ih =>
    intro k i x hi hk hx
    obtain ⟨k, rfl⟩ : ∃ n, k = n + 1 := ⟨k - 1, by omega⟩
    simp only [beadlelaw11_ownP.l0]
    rw [if_pos (by omega), if_pos (by omega), if_pos (by omega), rd_drop (show i < l.length by omega), show wrap64 ((i : Int) + 1) = ((i + 1 : Nat) : Int) by unfold wrap64; omega, ih k (i + 1) _ (by omega) (by omega) (by simp; omega)]
    simp [ownL]

theorem same_loop (a b c d e f : Int) (l : List S49) (hl : l.length ≤ 8) (n : Nat) : ∀ (k i : Nat), i + n = l.length → n < k → beadlelaw11_same.l0 k (i : Int) a l b c d l e f = some true := by
  induction n with
  | zero =>
    intro k i hi hk
    obtain ⟨k, rfl⟩ : ∃ n, k = n + 1 := ⟨k - 1, by omega⟩
    simp only [beadlelaw11_same.l0]
    rw [if_neg (by omega)]
  | succ n ih =>
    intro k i hi hk
    obtain ⟨k, rfl⟩ : ∃ n, k = n + 1 := ⟨k - 1, by omega⟩
    simp only [beadlelaw11_same.l0]
    rw [if_pos (by omega), if_pos (by omega), if_pos (by omega), if_neg (by simp), show wrap64 ((i : Int) + 1) = ((i + 1 : Nat) : Int) by unfold wrap64; omega]
    exact ih k (i + 1) (by omega) (by omega)

theorem own_calls (num : Int) (A : Option Addr) (c : Nat) (l : List S24) (at_ done : Int) (w : World) (hr : Kd.C k24 w A l.length l) (hc : l.length ≤ c) (hl : l.length ≤ 8) :
    Calls Try.prog 13 #[.agg #[.int .i64 num, .slice A l.length c, .int .i64 at_, .int .i64 done]] w fun e w' => ∃ A' c', e = .returned (.agg #[.int .i64 num, .slice A' l.length c', .int .i64 at_, .int .i64 done]) ∧ Kd.C k49 w' A' l.length (ownL l) ∧ l.length ≤ c' ∧ Below w.heap.size w w' := by
  refine (beadlelaw11_ownJ.calls 20 num A c l at_ done num (ownL l) at_ done w hr hc ?_).mono ?_
  · unfold beadlelaw11_ownJ.f beadlelaw11_ownP.f
    have := own_loop l hl l.length 20 0 [] (by omega) (by omega) (by simp)
    rw [List.drop_zero] at this
    rw [show ((0 : Nat) : Int) = 0 from rfl] at this
    rw [this]
    rfl
  · rintro e w' ⟨v, rfl, hR, hB⟩
    obtain ⟨A', c', rfl⟩ := Kd.R_slice hR
    have h := Kd.R_reads' hR
    have hlen : (ownL l).length = l.length := by simp [ownL]
    rw [hlen] at h
    rw [hlen]
    exact ⟨A', c', rfl, h.2.2, h.2.1, hB⟩

theorem same_calls (num at_ done : Int) (A1 A2 : Option Addr) (c1 c2 n : Nat) (l : List S24) (hn : n = l.length) (w : World) (hr1 : Kd.C k49 w A1 n (ownL l)) (hc1 : n ≤ c1) (hr2 : Kd.C k49 w A2 n (ownL l)) (hc2 : n ≤ c2) (hl : n ≤ 8) :
    Calls Try.prog 12 #[.agg #[.int .i64 num, .slice A1 n c1, .int .i64 at_, .int .i64 done], .agg #[.int .i64 num, .slice A2 n c2, .int .i64 at_, .int .i64 done]] w fun e w' => e = .returned (.bool true) ∧ Below w.heap.size w w' := by
  have hlen : n = (ownL l).length := by simp [ownL, hn]
  subst hlen
  refine beadlelaw11_same.calls 20 num A1 c1 (ownL l) at_ done num A2 c2 (ownL l) at_ done true w hr1 hc1 hr2 hc2 ?_
  unfold beadlelaw11_same.f
  rw [if_pos rfl, if_pos rfl, if_pos rfl]
  simp only [beadlelaw11_same.j0]
  rw [if_neg (by simp)]
  exact same_loop _ _ _ _ _ _ (ownL l) hl (ownL l).length 19 0 (by omega) (by omega)

/-- what the loads of JobParts' answer read. -/
abbrev SJ (m p r : Nat) (A : Option Addr) (n c : Nat) (i d : Int) (W w : World) : Prop :=
  w.cell? ⟨m, 2, none⟩ = some (.int .i64 i) ∧ (w.cell? ⟨p, 0, none⟩ = some (.int .i64 3) ∧ w.cell? ⟨p, 1, none⟩ = some (.slice A n c) ∧ w.cell? ⟨p, 2, none⟩ = some (.int .i64 i) ∧ w.cell? ⟨p, 3, none⟩ = some (.int .i64 d)) ∧ (w.cell? ⟨r, 0, none⟩ = some (.int .i64 3) ∧ w.cell? ⟨r, 1, none⟩ = some (.slice A n c) ∧ w.cell? ⟨r, 2, none⟩ = some (.int .i64 i) ∧ w.cell? ⟨r, 3, none⟩ = some (.int .i64 d)) ∧ (m < w.heap.size ∧ p < w.heap.size ∧ r < w.heap.size) ∧ Below m W w

theorem keepJ {m p r : Nat} {A : Option Addr} {n c : Nat} {i d : Int} {W w v : World} (h : SJ m p r A n c i d W w) (hb : Below w.heap.size w v) : SJ m p r A n c i d W v := by
  obtain ⟨h0, ⟨h1, h2, h3, h4⟩, ⟨h5, h6, h7, h8⟩, ⟨z1, z2, z3⟩, hB⟩ := h
  have hs := hb.size
  have hc := (bcell hb).1
  exact ⟨(hc _ _ z1).trans h0, ⟨(hc _ _ z2).trans h1, (hc _ _ z2).trans h2, (hc _ _ z2).trans h3, (hc _ _ z2).trans h4⟩, ⟨(hc _ _ z3).trans h5, (hc _ _ z3).trans h6, (hc _ _ z3).trans h7, (hc _ _ z3).trans h8⟩, ⟨by omega, by omega, by omega⟩, hB.trans (hb.mono (by omega))⟩

/-- none may be, or some argument is out of its bounds: it answers true. -/
def oddArgs (l : List S24) (at_ x y : Int) : Prop := goodB l = false ∨ x < 0 ∨ y < 0 ∨ 1099511627776 < x ∨ 1099511627776 < y ∨ at_ < 0 ∨ (l.length : Int) ≤ at_

set_option maxHeartbeats 4000000 in
theorem parts_bad (A : Option Addr) (c : Nat) (l : List S24) (at_ x y : Int) (w : World) (hr : Kd.C k24 w A l.length l) (hc : l.length ≤ c) (h : goodB l = false) :
    Calls Try.prog 4 #[.slice A l.length c, .int .i64 at_, .int .i64 x, .int .i64 y] w fun e w' => e = .returned (.bool true) ∧ Below w.heap.size w w' := by
  go_enter Try.func4, Try.ntmps4
  go_wp2_with (first
    | (go_at_call 6; (with_reducible refine (awake_calls _).mono ?_); rintro e w1 ⟨rfl, hb1⟩)
    | (go_at_call 7; (with_reducible refine (new_bad (num := 3) (Kd.C_below hr hb1) hc (.inl h)).mono ?_); rintro e w2 ⟨A', c', rfl, hb2⟩))
  go_ret
  have hb3 := hb1.trans (hb2.mono hb1.size)
  exact ⟨rfl, hb3.alloc hb3.size _⟩

set_option maxHeartbeats 4000000 in
theorem parts_odd (A : Option Addr) (c : Nat) (l : List S24) (at_ x y : Int) (w : World) (hr : Kd.C k24 w A l.length l) (hc : l.length ≤ c) (h : goodB l = true) (ho : x < 0 ∨ y < 0 ∨ 1099511627776 < x ∨ 1099511627776 < y ∨ at_ < 0 ∨ (l.length : Int) ≤ at_) :
    Calls Try.prog 4 #[.slice A l.length c, .int .i64 at_, .int .i64 x, .int .i64 y] w fun e w' => e = .returned (.bool true) ∧ Below w.heap.size w w' := by
  have N : ∀ W, Below w.heap.size w W → Calls Try.prog 7 #[.int .i64 3, .slice A l.length c] W fun e w' => ∃ A' c', e = .returned (.tuple #[.agg #[.int .i64 3, .slice A' l.length c', .int .i64 0, .int .i64 0], .bool true]) ∧ Kd.C k24 w' A' l.length l ∧ l.length ≤ c' ∧ Below W.heap.size W w' := fun W hb => new_good (Kd.C_below hr hb) hc h (by omega)
  clear hr h
  have hcase : (x < 0) ∨ (0 ≤ x ∧ y < 0) ∨ (0 ≤ x ∧ 0 ≤ y ∧ 1099511627776 < x) ∨ (0 ≤ x ∧ 0 ≤ y ∧ x ≤ 1099511627776 ∧ 1099511627776 < y) ∨ (0 ≤ x ∧ 0 ≤ y ∧ x ≤ 1099511627776 ∧ y ≤ 1099511627776 ∧ at_ < 0) ∨ (0 ≤ x ∧ 0 ≤ y ∧ x ≤ 1099511627776 ∧ y ≤ 1099511627776 ∧ 0 ≤ at_ ∧ (l.length : Int) ≤ at_) := by omega
  clear ho
  rcases hcase with h1 | ⟨h1, h2⟩ | ⟨h1, h2, h3⟩ | ⟨h1, h2, h3, h4⟩ | ⟨h1, h2, h3, h4, h5⟩ | ⟨h1, h2, h3, h4, h5, h6⟩
  all_goals
    go_enter Try.func4, Try.ntmps4
    go_wp2_with (first
      | (go_at_call 6; (with_reducible refine (awake_calls _).mono ?_); rintro e w1 ⟨rfl, hb1⟩)
      | (go_at_call 7; (with_reducible refine (N _ hb1).mono ?_); rintro e w2 ⟨A', c', rfl, hC2, hc2, hb2⟩))
    go_ret
    have hb3 := hb1.trans (hb2.mono hb1.size)
    exact ⟨rfl, hb3.alloc hb3.size _⟩

set_option maxHeartbeats 8000000 in
theorem parts_good (A : Option Addr) (c : Nat) (l : List S24) (a x y : Int) (w : World) (hr : Kd.C k24 w A l.length l) (hc : l.length ≤ c) (h : goodB l = true) (hx : 0 ≤ x) (hy : 0 ≤ y) (hxx : x ≤ 1099511627776) (hyy : y ≤ 1099511627776) (ha0 : 0 ≤ a) (ha : a < l.length) :
    Calls Try.prog 4 #[.slice A l.length c, .int .i64 a, .int .i64 x, .int .i64 y] w fun e w' => e = .returned (.bool true) ∧ Below w.heap.size w w' := by
  have N : ∀ W, Below w.heap.size w W → Calls Try.prog 7 #[.int .i64 3, .slice A l.length c] W fun e w' => ∃ A' c', e = .returned (.tuple #[.agg #[.int .i64 3, .slice A' l.length c', .int .i64 0, .int .i64 0], .bool true]) ∧ Kd.C k24 w' A' l.length l ∧ l.length ≤ c' ∧ Below W.heap.size W w' := fun W hb => new_good (Kd.C_below hr hb) hc h (by omega)
  have hs := good_steps h
  have h8 : l.length ≤ 8 := hs.2.2
  have hp : ∀ i : Nat, i < l.length → 1 ≤ (rd_T24 l (i : Int)).f1 ∧ (rd_T24 l (i : Int)).f1 ≤ 2147483648 := fun i hi => hs.1 _ (by rw [rd_get hi]; exact List.getElem_mem hi)
  have hst : ∀ (i : Nat) (d : Int), i < l.length → 0 ≤ d → d ≤ (rd_T24 l (i : Int)).f1 → stepJ 3 l (i : Int) d = some (rd_T24 l (i : Int)) := fun i d hi h0 h1 => stepJ_some (goodJ_mk (by omega) h (by omega) (by omega) h0 (by omega) (fun _ => h1)) (by omega)
  have hlw : IntKind.i64.wrap (x + y) = x + y := by first | go_num | (apply Go.IntKind.wrap_of_range <;> simp <;> omega) | (simp [IntKind.wrap, IntKind.bits, IntKind.signed]; omega)
  clear hr h hs
  go_enter Try.func4, Try.ntmps4
  go_wp2_with (go_at_call 6; (with_reducible refine (awake_calls _).mono ?_); rintro e w1 ⟨rfl, hb1⟩)
  go_wp2_with (go_at_call 7; (with_reducible refine (N _ hb1).mono ?_); rintro e w2 ⟨A', c', rfl, hC2, hc2, hb2⟩)
  have HX := Lib.hid (hb1.trans (hb2.mono hb1.size))
  have hwm : w.heap.size ≤ w2.heap.size := HX.out.size
  clear N hb1 hb2
  have H0 := Lib.hid (new_block w2 (.cells #[.int .i64 3, .slice A' l.length c', .int .i64 0, .int .i64 0] 28))
  have B0 := Lib.hid ((Below.refl w2.heap.size w2).alloc (Nat.le_refl _) (.cells #[.int .i64 3, .slice A' l.length c', .int .i64 0, .int .i64 0] 28))
  have HC := Lib.hid hC2
  generalize hm : w2.heap.size = m at *
  have HM := Lib.hid hm
  clear hm hC2
  have R : ∀ (i : Nat) (d n : Int) W, i < l.length → 0 ≤ d → d ≤ (rd_T24 l (i : Int)).f1 → Below m w2 W → Calls Try.prog 9 #[.agg #[.int .i64 3, .slice A' l.length c', .int .i64 i, .int .i64 d], .int .i64 n] W fun e w' => e = .returned (.tuple #[.agg #[.int .i64 3, .slice A' l.length c', .int .i64 i, .int .i64 (d + ranJ ((rd_T24 l (i : Int)).f1 - d) n)], .int .i64 (ranJ ((rd_T24 l (i : Int)).f1 - d) n)]) ∧ Below W.heap.size W w' :=
    fun i d n W hi h0 h1 hb => run_yes 3 A' c' l i d n _ W (Kd.C_below HC.out (by rw [HM.out]; exact hb)) hc2 (hst i d hi h0 h1) h0 h1 (hp i hi).2
  have NX : ∀ (i : Nat) W, i < l.length → Below m w2 W → Calls Try.prog 8 #[.agg #[.int .i64 3, .slice A' l.length c', .int .i64 i, .int .i64 (rd_T24 l (i : Int)).f1]] W fun e w' => e = .returned (.tuple #[.agg #[.int .i64 3, .slice A' l.length c', .int .i64 ((i : Int) + 1), .int .i64 0], .bool true]) ∧ Below W.heap.size W w' :=
    fun i W hi hb => next_yes 3 A' c' l i _ _ W (Kd.C_below HC.out (by rw [HM.out]; exact hb)) hc2 (hst i _ hi (by have := hp i hi; omega) (by omega)) rfl (by omega) (by omega)
  clear hst
  go_wp2_with (fail)
  go_loopw [11] (fun v11 wr => ∃ i : Nat, v11 = .int .i64 i ∧ (i : Int) ≤ a ∧ Hid (wr.heap[m]? = some (.cells #[.int .i64 3, .slice A' l.length c', .int .i64 i, .int .i64 0] 28 (0, 0))) ∧ Hid (Below m w2 wr)) (fun v11 _ => (a - intOf v11).toNat)
  case atStart => exact ⟨0, rfl, ha0, H0, B0⟩
  case round =>
    clear H0 B0
    obtain ⟨i, rfl, hi, HB, HW⟩ := hrel
    have a0 := cell_of HB.out 0
    have a1 := cell_of HB.out 1
    have a2 := cell_of HB.out 2
    have a3 := cell_of HB.out 3
    have hmz := older HB.out
    by_cases hlt : (i : Int) < a
    · have hil : i < l.length := by omega
      have hpi := hp i hil
      have RR := R i 0 2147483648 wr hil (by omega) (by omega) HW.out
      have NN := fun W hb => NX i W hil hb
      generalize hpp : (rd_T24 l (i : Int)).f1 = q at *
      have hran : ranJ (q - 0) 2147483648 = q := by unfold ranJ; rw [if_neg (by omega)]; split <;> omega
      rw [hran] at RR
      simp only [Int.zero_add] at RR
      go_wp2_with (go_at_call 9; (with_reducible refine RR.mono ?_); rintro e w3 ⟨rfl, hb3⟩; have k3 := keeps HB.out hb3; have hz3 := older k3; have c0 := cell_of k3 0; have c1 := cell_of k3 1; have c2 := cell_of k3 2; have c3 := cell_of k3 3; have f0 := frozen_of k3 0; have f1 := frozen_of k3 1; have f2 := frozen_of k3 2; have f3 := frozen_of k3 3; have HB3 := Lib.hid k3; have HW3 := Lib.hid (HW.out.trans (hb3.mono (by omega))); clear k3 hb3)
      clear RR a0 a1 a2 a3
      go_wp2_with (go_at_call 8; (with_reducible refine (NN _ (below4 HW3.out (Nat.le_refl _) _ _ _ _)).mono ?_); rintro e w4 ⟨rfl, hb4⟩; have k4 := keeps (set4 HB3.out _ _ _ _) hb4; have hz4 := older k4; have c0 := cell_of k4 0; have c1 := cell_of k4 1; have c2 := cell_of k4 2; have c3 := cell_of k4 3; have f0 := frozen_of k4 0; have f1 := frozen_of k4 1; have f2 := frozen_of k4 2; have f3 := frozen_of k4 3; have HB4 := Lib.hid k4; have HW4 := Lib.hid ((below4 HW3.out (Nat.le_refl _) _ _ _ _).trans (hb4.mono (by rw [size4]; omega))); clear k4 hb4)
      go_roundw
      case rel =>
        have e1 : ((i + 1 : Nat) : Int) = (i : Int) + 1 := by omega
        refine ⟨i + 1, by go_num, by omega, ?_, ?_⟩
        · rw [e1]
          with_reducible exact Lib.hid (alloc_keeps (set4 HB4.out _ _ _ _) _)
        · with_reducible exact Lib.hid ((below4 HW4.out (Nat.le_refl _) _ _ _ _).alloc (by rw [size4]; omega) _)
      case measure => simp [intOf]; omega
    · obtain hin : (i : Int) = a := by omega
      subst hin
      have hil : i < l.length := by omega
      have hpi := hp i hil
      have RX := R i 0 x wr hil (by omega) (by omega) HW.out
      generalize hpp : (rd_T24 l (i : Int)).f1 = q at *
      have RY := fun d W (h0 : 0 ≤ d) (h1 : d ≤ q) hb => R i d y W hil h0 (by omega) hb
      have RS := fun W hb => R i 0 (x + y) W hil (by omega) (by omega) hb
      simp only [hpp, Int.zero_add, Int.sub_zero] at RX RY RS
      clear R NX
      have hx1 : 0 ≤ ranJ q x ∧ ranJ q x ≤ q ∧ ranJ q x ≤ x := by unfold ranJ; rw [if_neg (by omega)]; split <;> omega
      have hsum : ranJ q x + ranJ (q - ranJ q x) y = ranJ q (x + y) := by
        unfold ranJ
        rw [if_neg (show ¬ x < 0 by omega), if_neg (show ¬ y < 0 by omega), if_neg (show ¬ x + y < 0 by omega)]
        repeat' split
        all_goals omega
      have hs1 : 0 ≤ ranJ (q - ranJ q x) y ∧ ranJ (q - ranJ q x) y ≤ y := by unfold ranJ; rw [if_neg (show ¬ y < 0 by omega)]; split <;> omega
      generalize ranJ q x = dx at *
      generalize hdy : ranJ (q - dx) y = dy at *
      generalize ranJ q (x + y) = ds at *
      subst hsum
      go_wp2_with (go_at_call 9; (with_reducible refine RX.mono ?_); rintro e w3 ⟨rfl, hb3⟩; have k3 := keeps HB.out hb3; have hz3 := older k3; have HB3 := Lib.hid k3; have HW3 := Lib.hid (HW.out.trans (hb3.mono (by omega))); clear k3 hb3)
      go_wp2_with (go_at_call 9; (with_reducible refine RX.mono ?_); rintro e w3 ⟨rfl, hb3⟩; have k3 := keeps HB.out hb3; have hz3 := older k3; have HB3 := Lib.hid k3; have HW3 := Lib.hid (HW.out.trans (hb3.mono (by omega))); clear k3 hb3)
      clear RX a0 a1 a2 a3 HB HW
      have Y4 := Lib.hid (RY dx (w3.alloc (.cells #[.int .i64 3, .slice A' l.length c', .int .i64 i, .int .i64 dx] 28)) hx1.1 hx1.2.1 (HW3.out.alloc (by omega) _))
      simp only [hdy] at Y4
      clear RY
      go_wp2_with (go_at_call 9; (with_reducible refine Y4.out.mono ?_); rintro e w4 ⟨rfl, hb4⟩; have m4 := keeps (alloc_keeps HB3.out _) hb4; have k4 := keeps (new_block _ _) hb4; have hz4 := older k4; have c0 := cell_of k4 0; have c1 := cell_of k4 1; have c2 := cell_of k4 2; have c3 := cell_of k4 3; have f0 := frozen_of k4 0; have f1 := frozen_of k4 1; have f2 := frozen_of k4 2; have f3 := frozen_of k4 3; have a0 := cell_of m4 0; have a1 := cell_of m4 1; have a2 := cell_of m4 2; have a3 := cell_of m4 3; have KB4 := Lib.hid k4; have HB4 := Lib.hid m4; have HW4 := Lib.hid ((HW3.out.alloc (by omega) _).trans (hb4.mono (by simp; omega))); clear k4 m4 hb4)
      clear Y4 HB3 HW3
      have S5 := Lib.hid (RS _ (below4 HW4.out (b := w3.heap.size) (by omega) (.int .i64 3) (.slice A' l.length c') (.int .i64 i) (.int .i64 (dx + dy))))
      have KB5 := Lib.hid (set4 KB4.out (.int .i64 3) (.slice A' l.length c') (.int .i64 i) (.int .i64 (dx + dy)))
      have HB5 := Lib.hid (ne4 (b := w3.heap.size) HB4.out (by omega) (.int .i64 3) (.slice A' l.length c') (.int .i64 i) (.int .i64 (dx + dy)))
      have HW5 := Lib.hid (below4 HW4.out (b := w3.heap.size) (by omega) (.int .i64 3) (.slice A' l.length c') (.int .i64 i) (.int .i64 (dx + dy)))
      have hz5 : w3.heap.size < ((((w4.setCell ⟨w3.heap.size, 0, none⟩ (.int .i64 3)).setCell ⟨w3.heap.size, 1, none⟩ (.slice A' l.length c')).setCell ⟨w3.heap.size, 2, none⟩ (.int .i64 i)).setCell ⟨w3.heap.size, 3, none⟩ (.int .i64 (dx + dy))).heap.size := by rw [size4]; omega
      clear RS KB4 HB4 HW4 c0 c1 c2 c3 f0 f1 f2 f3 a0 a1 a2 a3
      generalize World.setCell (World.setCell (World.setCell (World.setCell w4 _ _) _ _) _ _) _ _ = v4 at *
      go_wp2_with (go_at_call 9; (with_reducible refine S5.out.mono ?_); rintro e w5 ⟨rfl, hb5⟩; have m5 := keeps HB5.out hb5; have k5 := keeps KB5.out hb5; have hz6 := older m5; have hz7 := older k5; have HB6 := Lib.hid (alloc_keeps m5 (.cells #[.int .i64 3, .slice A' l.length c', .int .i64 i, .int .i64 (dx + dy)] 28)); have KB6 := Lib.hid (alloc_keeps k5 (.cells #[.int .i64 3, .slice A' l.length c', .int .i64 i, .int .i64 (dx + dy)] 28)); have HW6 := Lib.hid ((HW5.out.trans (hb5.mono (by omega))).alloc (by omega) (.cells #[.int .i64 3, .slice A' l.length c', .int .i64 i, .int .i64 (dx + dy)] 28)); have RB6 := Lib.hid (new_block w5 (.cells #[.int .i64 3, .slice A' l.length c', .int .i64 i, .int .i64 (dx + dy)] 28)); clear m5 k5 hb5)
      clear S5 HB5 KB5 HW5
      have hw1 : IntKind.i64.wrap (dx + dy) = dx + dy := by simp [IntKind.wrap, IntKind.bits, IntKind.signed]; omega
      have hle : dx + dy ≤ x + y := by omega
      have hS : SJ m w3.heap.size w5.heap.size A' l.length c' i (dx + dy) w2 (w5.alloc (.cells #[.int .i64 3, .slice A' l.length c', .int .i64 i, .int .i64 (dx + dy)] 28)) :=
        ⟨cell_of HB6.out 2, ⟨cell_of KB6.out 0, cell_of KB6.out 1, cell_of KB6.out 2, cell_of KB6.out 3⟩, ⟨cell_of RB6.out 0, cell_of RB6.out 1, cell_of RB6.out 2, cell_of RB6.out 3⟩, ⟨older HB6.out, older KB6.out, older RB6.out⟩, HW6.out⟩
      have OJ : ∀ W, SJ m w3.heap.size w5.heap.size A' l.length c' i (dx + dy) w2 W → Calls Try.prog 13 #[.agg #[.int .i64 3, .slice A' l.length c', .int .i64 i, .int .i64 (dx + dy)]] W fun e w' => ∃ A1 c1, e = .returned (.agg #[.int .i64 3, .slice A1 l.length c1, .int .i64 i, .int .i64 (dx + dy)]) ∧ Kd.C k49 w' A1 l.length (ownL l) ∧ l.length ≤ c1 ∧ Below W.heap.size W w' :=
        fun W hS => own_calls 3 A' c' l i (dx + dy) W (Kd.C_below HC.out (by rw [HM.out]; exact hS.2.2.2.2)) hc2 h8
      have SM : ∀ A1 c1 A2 c2 W, Kd.C k49 W A1 l.length (ownL l) → l.length ≤ c1 → Kd.C k49 W A2 l.length (ownL l) → l.length ≤ c2 → Calls Try.prog 12 #[.agg #[.int .i64 3, .slice A1 l.length c1, .int .i64 i, .int .i64 (dx + dy)], .agg #[.int .i64 3, .slice A2 l.length c2, .int .i64 i, .int .i64 (dx + dy)]] W fun e w' => e = .returned (.bool true) ∧ Below W.heap.size W w' :=
        fun A1 c1 A2 c2 W r1 q1 r2 q2 => same_calls 3 i (dx + dy) A1 A2 c1 c2 l.length l rfl W r1 q1 r2 q2 h8
      clear HB6 KB6 HW6 RB6 HC HM
      generalize World.alloc w5 _ = w6 at *
      go_region_held3 (fun w' => SJ m w3.heap.size w5.heap.size A' l.length c' i (dx + dy) w2 w') (first | exact keepJ hS ⟨rfl, rfl, rfl, Nat.le_refl _, fun _ _ => rfl⟩ | (refine keepJ ?_ (by assumption); first | assumption | exact ⟨by assumption, ⟨by assumption, by assumption, by assumption, by assumption⟩, ⟨by assumption, by assumption, by assumption, by assumption⟩, ⟨by assumption, by assumption, by assumption⟩, by assumption⟩)) (first | (go_at_call 13; refine (OJ _ (by assumption)).mono ?_; rintro e w' ⟨A1, c1, rfl, hC1, hc1, hB1⟩) | (go_at_call 12; refine (SM _ _ _ _ _ (by first | assumption | (refine Kd.C_below ?_ (by assumption); assumption)) (by assumption) (by first | assumption | (refine Kd.C_below ?_ (by assumption); assumption)) (by assumption)).mono ?_; rintro e w' ⟨rfl, hB1⟩))
      all_goals
        go_wp2
        go_ret
        refine ⟨rfl, HX.out.trans (Below.mono (B := m) ?_ hwm)⟩
        have q1 := keepJ hS (v := w6.drew) ⟨rfl, rfl, rfl, Nat.le_refl _, fun _ _ => rfl⟩
        exact (keepJ (keepJ (keepJ q1 (by assumption)) (by assumption)) (by assumption)).2.2.2.2

/-- JobParts answers true, whatever it is given. -/
theorem parts_calls (A : Option Addr) (c : Nat) (l : List S24) (at_ x y : Int) (w : World) (hr : Kd.C k24 w A l.length l) (hc : l.length ≤ c) :
    Calls Try.prog 4 #[.slice A l.length c, .int .i64 at_, .int .i64 x, .int .i64 y] w fun e w' => e = .returned (.bool true) ∧ Below w.heap.size w w' := by
  cases hg : goodB l
  · exact parts_bad A c l at_ x y w hr hc hg
  · by_cases ho : x < 0 ∨ y < 0 ∨ 1099511627776 < x ∨ 1099511627776 < y ∨ at_ < 0 ∨ (l.length : Int) ≤ at_
    · exact parts_odd A c l at_ x y w hr hc hg ho
    · exact parts_good A c l at_ x y w hr hc hg (by omega) (by omega) (by omega) (by omega) (by omega) (by omega)
end Go.Proofs.Ytjihjmanndhdhab.Job
