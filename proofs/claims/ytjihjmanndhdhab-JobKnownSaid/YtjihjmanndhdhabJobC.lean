/- job: Next: for all jobs. -/
import Derived.Test.YtjihjmanndhdhabJobB
namespace Go.Proofs.Ytjihjmanndhdhab.Job
open Go.RowKit Go.Proofs.YtjihjmanndhdhabW.PrintWords Go.Proofs.YtjihjmanndhdhabW.PrintLast Go.Proofs.YtjihjmanndhdhabW.PrintMore Go.Proofs.Ytjihjmanndhdhab.PJob
set_option linter.unusedVariables false
set_option linter.unusedSimpArgs false

set_option maxHeartbeats 4000000 in
theorem next_none (num : Int) (A : Option Addr) (c : Nat) (l : List S24) (at_ done : Int)  (w : World) (hr : Kd.C k24 w A l.length l) (hc : l.length ≤ c) (h : stepJ num l at_ done = none) :
    Calls Try.prog 8 #[.agg #[.int .i64 num, .slice A l.length c, .int .i64 at_, .int .i64 done]] w fun e w' => e = .returned (.tuple #[.agg #[.int .i64 num, .slice A l.length c, .int .i64 at_, .int .i64 done], .bool false]) ∧ Below w.heap.size w w' := by
  have D : ∀ W (hb : Below w.heap.size w W), Calls Try.prog 10 #[.agg #[.int .i64 num, .slice A l.length c, .int .i64 at_, .int .i64 done]] W fun e w' => e = .returned (.tuple #[.agg #[.int .i64 0, .int .i64 0], .bool false]) ∧ Below W.heap.size W w' :=
    fun W hb => step_calls num A c l at_ done W (Kd.C_below hr hb) hc (0, 0, false) (by rw [h])
  clear hr h
  go_enter Try.func8, Try.ntmps8
  go_wp2_with (first | (go_at_call 10; refine (D _ (((Below.refl _ _).alloc (Nat.le_refl _) _).alloc (by simp) _)).mono ?_; rintro e w1 ⟨rfl, hb⟩; obtain ⟨hx, hy, hz⟩ := two_blocks hb; have HB1 := Lib.hid ((((Below.refl w.heap.size w).alloc (Nat.le_refl _) _).alloc (by simp) _).trans (hb.mono (by simp; omega))); have a0 := cell_of hx 0; have a1 := cell_of hx 1; have a2 := cell_of hx 2; have a3 := cell_of hx 3; have b0 := cell_of hy 0; have b1 := cell_of hy 1; have b2 := cell_of hy 2; have b3 := cell_of hy 3; have f0 := frozen_of hy 0; have f1 := frozen_of hy 1; have f2 := frozen_of hy 2; have f3 := frozen_of hy 3; have f4 := frozen_of hx 3; have f5 := frozen_of hx 2; have n0 : w.heap.size < w1.heap.size := (by omega); have n1 := hz; have hy2 := hy; clear hx hy hz hb))
  clear D
  refine bodyPost_ret (v := .tuple #[.agg #[.int .i64 num, .slice A l.length c, .int .i64 at_, .int .i64 done], .bool false]) (res8 _ _ (w.heap.size + 1) _ _ _ _ _ rfl rfl ?_) rfl ⟨rfl, ?_⟩
  · rw [Below.heap_alloc]
    · rw [set_self _ _ (set_self _ _ (set_self _ _ (set_self _ _ (x := #[.int .i64 0, .slice none 0 0, .int .i64 0, .int .i64 0]) (f := (0, 0)) (t := 28) ?_)))]
      · rfl
      · repeat rw [set_ne _ _ (by omega)]
        exact hy2
    · simp only [World.size_setCell]
      exact n1
  · repeat (first | with_reducible exact HB1.out | (with_reducible refine Below.setCell ?_ (by simp) _) | (with_reducible refine Below.alloc ?_ (by simp only [World.size_setCell]; omega) _))

set_option maxHeartbeats 4000000 in
theorem next_not (num : Int) (A : Option Addr) (c : Nat) (l : List S24) (at_ done : Int) (p : S24) (w : World) (hr : Kd.C k24 w A l.length l) (hc : l.length ≤ c) (h : stepJ num l at_ done = some p) (hne : done ≠ p.f1) :
    Calls Try.prog 8 #[.agg #[.int .i64 num, .slice A l.length c, .int .i64 at_, .int .i64 done]] w fun e w' => e = .returned (.tuple #[.agg #[.int .i64 num, .slice A l.length c, .int .i64 at_, .int .i64 done], .bool false]) ∧ Below w.heap.size w w' := by
  obtain ⟨p0, p1⟩ := p
  dsimp only at hne
  have D : ∀ W (hb : Below w.heap.size w W), Calls Try.prog 10 #[.agg #[.int .i64 num, .slice A l.length c, .int .i64 at_, .int .i64 done]] W fun e w' => e = .returned (.tuple #[.agg #[.int .i64 p0, .int .i64 p1], .bool true]) ∧ Below W.heap.size W w' :=
    fun W hb => step_calls num A c l at_ done W (Kd.C_below hr hb) hc (p0, p1, true) (by rw [h])
  clear hr h
  have hb1 : (done != p1) = true := bne_iff_ne.2 hne
  have hb2 : (done == p1) = false := beq_eq_false_iff_ne.2 hne
  go_enter Try.func8, Try.ntmps8
  go_wp2_with (first | (go_at_call 10; refine (D _ (((Below.refl _ _).alloc (Nat.le_refl _) _).alloc (by simp) _)).mono ?_; rintro e w1 ⟨rfl, hb⟩; obtain ⟨hx, hy, hz⟩ := two_blocks hb; have HB1 := Lib.hid ((((Below.refl w.heap.size w).alloc (Nat.le_refl _) _).alloc (by simp) _).trans (hb.mono (by simp; omega))); have a0 := cell_of hx 0; have a1 := cell_of hx 1; have a2 := cell_of hx 2; have a3 := cell_of hx 3; have b0 := cell_of hy 0; have b1 := cell_of hy 1; have b2 := cell_of hy 2; have b3 := cell_of hy 3; have f0 := frozen_of hy 0; have f1 := frozen_of hy 1; have f2 := frozen_of hy 2; have f3 := frozen_of hy 3; have f4 := frozen_of hx 3; have f5 := frozen_of hx 2; have n0 : w.heap.size < w1.heap.size := (by omega); have n1 := hz; have hy2 := hy; clear hx hy hz hb))
  clear D
  refine bodyPost_ret (v := .tuple #[.agg #[.int .i64 num, .slice A l.length c, .int .i64 at_, .int .i64 done], .bool false]) (res8 _ _ (w.heap.size + 1) _ _ _ _ _ rfl rfl ?_) rfl ⟨rfl, ?_⟩
  · rw [Below.heap_alloc]
    · rw [set_self _ _ (set_self _ _ (set_self _ _ (set_self _ _ (x := #[.int .i64 0, .slice none 0 0, .int .i64 0, .int .i64 0]) (f := (0, 0)) (t := 28) ?_)))]
      · rfl
      · repeat rw [set_ne _ _ (by omega)]
        exact hy2
    · simp only [World.size_setCell]
      exact n1
  · repeat (first | with_reducible exact HB1.out | (with_reducible refine Below.setCell ?_ (by simp) _) | (with_reducible refine Below.alloc ?_ (by simp only [World.size_setCell]; omega) _))

set_option maxHeartbeats 4000000 in
theorem next_yes (num : Int) (A : Option Addr) (c : Nat) (l : List S24) (at_ done : Int) (p : S24) (w : World) (hr : Kd.C k24 w A l.length l) (hc : l.length ≤ c) (h : stepJ num l at_ done = some p) (heq : done = p.f1) (h0 : 0 ≤ at_) (h1 : at_ ≤ 8) :
    Calls Try.prog 8 #[.agg #[.int .i64 num, .slice A l.length c, .int .i64 at_, .int .i64 done]] w fun e w' => e = .returned (.tuple #[.agg #[.int .i64 num, .slice A l.length c, .int .i64 (at_ + 1), .int .i64 0], .bool true]) ∧ Below w.heap.size w w' := by
  obtain ⟨p0, p1⟩ := p
  dsimp only at heq
  subst heq
  have D : ∀ W (hb : Below w.heap.size w W), Calls Try.prog 10 #[.agg #[.int .i64 num, .slice A l.length c, .int .i64 at_, .int .i64 done]] W fun e w' => e = .returned (.tuple #[.agg #[.int .i64 p0, .int .i64 done], .bool true]) ∧ Below W.heap.size W w' :=
    fun W hb => step_calls num A c l at_ done W (Kd.C_below hr hb) hc (p0, done, true) (by rw [h])
  clear hr h
  go_enter Try.func8, Try.ntmps8
  go_wp2_with (first | (go_at_call 10; refine (D _ (((Below.refl _ _).alloc (Nat.le_refl _) _).alloc (by simp) _)).mono ?_; rintro e w1 ⟨rfl, hb⟩; obtain ⟨hx, hy, hz⟩ := two_blocks hb; have HB1 := Lib.hid ((((Below.refl w.heap.size w).alloc (Nat.le_refl _) _).alloc (by simp) _).trans (hb.mono (by simp; omega))); have a0 := cell_of hx 0; have a1 := cell_of hx 1; have a2 := cell_of hx 2; have a3 := cell_of hx 3; have b0 := cell_of hy 0; have b1 := cell_of hy 1; have b2 := cell_of hy 2; have b3 := cell_of hy 3; have f0 := frozen_of hy 0; have f1 := frozen_of hy 1; have f2 := frozen_of hy 2; have f3 := frozen_of hy 3; have f4 := frozen_of hx 3; have f5 := frozen_of hx 2; have n0 : w.heap.size < w1.heap.size := (by omega); have n1 := hz; have hy2 := hy; clear hx hy hz hb))
  clear D
  refine bodyPost_ret (v := .tuple #[.agg #[.int .i64 num, .slice A l.length c, .int .i64 (at_ + 1), .int .i64 0], .bool true]) (res8 _ _ (w.heap.size + 1) _ _ _ _ _ rfl rfl ?_) rfl ⟨rfl, ?_⟩
  · rw [Below.heap_alloc]
    · rw [set_self _ _ (set_self _ _ (set_self _ _ (set_self _ _ (x := #[.int .i64 0, .slice none 0 0, .int .i64 0, .int .i64 0]) (f := (0, 0)) (t := 28) ?_)))]
      · rfl
      · repeat rw [set_ne _ _ (by omega)]
        exact hy2
    · simp only [World.size_setCell]
      exact n1
  · repeat (first | with_reducible exact HB1.out | (with_reducible refine Below.setCell ?_ (by simp) _) | (with_reducible refine Below.alloc ?_ (by simp only [World.size_setCell]; omega) _))
end Go.Proofs.Ytjihjmanndhdhab.Job
