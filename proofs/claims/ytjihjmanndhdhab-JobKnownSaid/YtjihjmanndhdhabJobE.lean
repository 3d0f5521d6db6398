/- job: the sign of life of package beadlelaw11: it answers true, in whatever memory. -/
import Derived.Test.YtjihjmanndhdhabJobD
namespace Go.Proofs.Ytjihjmanndhdhab.Job
open Go.RowKit Go.Proofs.YtjihjmanndhdhabW.PrintWords Go.Proofs.YtjihjmanndhdhabW.PrintLast Go.Proofs.YtjihjmanndhdhabW.PrintMore Go.Proofs.Ytjihjmanndhdhab.PJob
set_option linter.unusedVariables false
set_option linter.unusedSimpArgs false

theorem bcell {W w1 : World} (hb : Below W.heap.size W w1) : (∀ b o, b < W.heap.size → w1.cell? ⟨b, o, none⟩ = W.cell? ⟨b, o, none⟩) ∧ (∀ b o, b < W.heap.size → w1.frozen? ⟨b, o, none⟩ = W.frozen? ⟨b, o, none⟩) :=
  ⟨fun b o h => hb.cell (p := ⟨b, o, none⟩) h, fun b o h => hb.frozen (p := ⟨b, o, none⟩) h⟩

/-- what is known of a block stays. -/
theorem keeps {W w1 : World} {b : Nat} {o : Obj} (h : W.heap[b]? = some o) (hb : Below W.heap.size W w1) : w1.heap[b]? = some o := by
  rw [hb.block b (Array.getElem?_eq_some_iff.1 h).1]; exact h

theorem new_block (w : World) (o : Obj) : (w.alloc o).heap[w.heap.size]? = some o := by
  show (w.heap.push _)[_]? = _
  rw [Array.getElem?_push_size]

theorem older {w : World} {b : Nat} {o : Obj} (h : w.heap[b]? = some o) : b < w.heap.size := (Array.getElem?_eq_some_iff.1 h).1

theorem alloc_keeps {w : World} {b : Nat} {o : Obj} (h : w.heap[b]? = some o) (x : Obj) : (w.alloc x).heap[b]? = some o := by
  rw [Below.heap_alloc _ _ _ (older h)]; exact h

/-- the program of the sign of life. -/
def pw : List S24 := [⟨0, 3⟩, ⟨1, 2⟩]

theorem pw_reads (w : World) : Kd.C k24 (w.alloc (.cells #[.int .i64 0, .int .i64 3, .int .i64 1, .int .i64 2] 24)) (some ⟨w.heap.size, 0, none⟩) 2 pw := by
  refine ⟨rfl, by omega, fun _ => ⟨_, rfl, fun j p hj => ?_⟩⟩
  have hb := new_block w (.cells #[.int .i64 0, .int .i64 3, .int .i64 1, .int .i64 2] 24)
  match j, hj with
  | 0, hj =>
    obtain rfl : (⟨0, 3⟩ : S24) = p := by simpa [pw] using hj
    refine ⟨_, rfl, k24_mk _ _, fun i u hu => ?_⟩
    match i, hu with
    | 0, hu => exact (cell_of hb 0).trans hu
    | 1, hu => exact (cell_of hb 1).trans hu
    | i + 2, hu => simp at hu
  | 1, hj =>
    obtain rfl : (⟨1, 2⟩ : S24) = p := by simpa [pw] using hj
    refine ⟨_, rfl, k24_mk _ _, fun i u hu => ?_⟩
    match i, hu with
    | 0, hu => exact (cell_of hb 2).trans hu
    | 1, hu => exact (cell_of hb 3).trans hu
    | i + 2, hu => simp at hu
  | j + 2, hj => simp [pw] at hj

set_option maxHeartbeats 2000000 in
theorem awake_calls (w : World) : Calls Try.prog 6 #[] w fun e w' => e = .returned (.bool true) ∧ Below w.heap.size w w' := by
  have N : ∀ A c W, Kd.C k24 W A 2 pw → 2 ≤ c → Calls Try.prog 7 #[.int .i64 1, .slice A 2 c] W fun e w' => ∃ A' c', e = .returned (.tuple #[.agg #[.int .i64 1, .slice A' 2 c', .int .i64 0, .int .i64 0], .bool true]) ∧ Kd.C k24 w' A' 2 pw ∧ 2 ≤ c' ∧ Below W.heap.size W w' :=
    fun A c W h hc => new_good (l := pw) h hc (by decide) (by omega)
  have R : ∀ A c W, Kd.C k24 W A 2 pw → 2 ≤ c → Calls Try.prog 9 #[.agg #[.int .i64 1, .slice A 2 c, .int .i64 0, .int .i64 0], .int .i64 2] W fun e w' => e = .returned (.tuple #[.agg #[.int .i64 1, .slice A 2 c, .int .i64 0, .int .i64 2], .int .i64 2]) ∧ Below W.heap.size W w' :=
    fun A c W h hc => run_yes 1 A c pw 0 0 2 ⟨0, 3⟩ W h hc (stepJ_some (by decide) (by decide)) (by omega) (by decide) (by decide)
  have L3 : ∀ A c W, Kd.C k24 W A 2 pw → 2 ≤ c → Calls Try.prog 14 #[.agg #[.int .i64 1, .slice A 2 c, .int .i64 0, .int .i64 2]] W fun e w' => e = .returned (.int .i64 3) ∧ Below W.heap.size W w' :=
    fun A c W h hc => left_calls (l := pw) h hc (by decide)
  have L5 : ∀ A c W, Kd.C k24 W A 2 pw → 2 ≤ c → Calls Try.prog 14 #[.agg #[.int .i64 1, .slice A 2 c, .int .i64 0, .int .i64 0]] W fun e w' => e = .returned (.int .i64 5) ∧ Below W.heap.size W w' :=
    fun A c W h hc => left_calls (l := pw) h hc (by decide)
  have G : ∀ A c W, Kd.C k24 W A 2 pw → 2 ≤ c → Calls Try.prog 11 #[.agg #[.int .i64 1, .slice A 2 c, .int .i64 0, .int .i64 2]] W fun e w' => e = .returned (.bool true) ∧ Below W.heap.size W w' :=
    fun A c W h hc => job_Good.calls 1 1 A c pw 0 2 true W h hc (by rw [good_f 0]; decide)
  have C0 : Kd.C k24 (w.alloc (.cells #[.int .i64 0, .int .i64 3, .int .i64 1, .int .i64 2] 24)) (some ⟨w.heap.size, 0, none⟩) 2 pw := pw_reads w
  go_enter Try.func6, Try.ntmps6
  go_wp2_with (go_at_call 7; (with_reducible refine (N _ _ _ C0 (by omega)).mono ?_); rintro e w1 ⟨A, c, rfl, hC1, hc1, hb1⟩)
  have hBB1 := Lib.hid (((Below.refl w.heap.size w).alloc (Nat.le_refl _) _).trans (hb1.mono (by simp)))
  have hs1 : w.heap.size ≤ w1.heap.size := hBB1.out.size
  clear hb1 C0 N
  go_wp2_with (go_at_call 9; (with_reducible refine (R _ _ _ (Kd.C_alloc hC1 _) hc1).mono ?_); rintro e w2 ⟨rfl, hb2⟩; have h2 := keeps (new_block _ _) hb2; have hz2 := older h2; have hC2 := Kd.C_below (Kd.C_alloc hC1 (.cells #[.int .i64 1, .slice A 2 c, .int .i64 0, .int .i64 0] 28)) hb2; have a0 := cell_of h2 0; have a1 := cell_of h2 1; have a2 := cell_of h2 2; have a3 := cell_of h2 3; have hBB2 := Lib.hid ((hBB1.out.alloc hs1 (.cells #[.int .i64 1, .slice A 2 c, .int .i64 0, .int .i64 0] 28)).trans (hb2.mono (by simp; omega))); have H2 := Lib.hid h2; clear hb2 h2)
  clear R hBB1
  go_wp2_with (go_at_call 14; (with_reducible refine (L3 _ _ _ (Kd.C_alloc hC2 _) hc1).mono ?_); rintro e w3 ⟨rfl, hb3⟩; have j2 := keeps (alloc_keeps H2.out _) hb3; have k2 := keeps (new_block _ _) hb3; have hz3 := older k2; have hC3 := Kd.C_below (Kd.C_alloc hC2 (.cells #[.int .i64 1, .slice A 2 c, .int .i64 0, .int .i64 2] 28)) hb3; have c0 := cell_of j2 0; have c1 := cell_of j2 1; have c2 := cell_of j2 2; have c3 := cell_of j2 3; have d0 := cell_of k2 0; have d1 := cell_of k2 1; have d2 := cell_of k2 2; have d3 := cell_of k2 3; have hBB3 := Lib.hid ((hBB2.out.alloc (by omega) (.cells #[.int .i64 1, .slice A 2 c, .int .i64 0, .int .i64 2] 28)).trans (hb3.mono (by simp; omega))); have J2 := Lib.hid j2; have K2 := Lib.hid k2; clear hb3 j2 k2 H2 hC2 hBB2)
  clear L3
  go_wp2_with (go_at_call 11; (with_reducible refine (G _ _ _ hC3 hc1).mono ?_); rintro e w4 ⟨rfl, hb4⟩; have j2 := keeps J2.out hb4; have hC4 := Kd.C_below hC3 hb4; have e0 := cell_of j2 0; have e1 := cell_of j2 1; have e2 := cell_of j2 2; have e3 := cell_of j2 3; have hBB4 := Lib.hid (hBB3.out.trans (hb4.mono (by omega))); clear hb4 j2 hC3 hBB3)
  clear G
  go_wp2_with (go_at_call 14; (with_reducible refine (L5 _ _ _ hC4 hc1).mono ?_); rintro e w5 ⟨rfl, hb5⟩; have hz5 := hBB4.out.size; have hBB5 := Lib.hid (hBB4.out.trans (hb5.mono (by omega))))
  clear L5
  go_ret
  refine ⟨rfl, ?_⟩
  with_reducible exact hBB5.out
end Go.Proofs.Ytjihjmanndhdhab.Job
