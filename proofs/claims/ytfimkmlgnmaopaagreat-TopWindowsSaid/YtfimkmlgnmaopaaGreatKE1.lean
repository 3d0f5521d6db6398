/- Part 1 of what is proved of the functions that the law reaches (contracts of functions, plain laws): no condition but those that each theorem names. -/
import Derived.Test.YtfimkmlgnmaopaaGreatKE0
import Derived.Lib.Hide
import Derived.WalkSpells
import Derived.Maps.OwnSet
set_option maxHeartbeats 40000000
set_option maxRecDepth 100000
namespace Go.Proofs.YtfimkmlgnmaopaaGreat.Top
open Go.RowKit Go.Proofs.YtfimkmlgnmaopaaGreatW.PrintWords Go.Proofs.YtfimkmlgnmaopaaGreatW.PrintLast Go.Proofs.YtfimkmlgnmaopaaGreatW.PrintMore Go.Proofs.YtfimkmlgnmaopaaGreat.PTopNames
set_option linter.unusedVariables false
set_option linter.unusedSimpArgs false
theorem hZ {p : Prop} (h : p) : Hid p := h
theorem sqA {α : Type _} (l : List α) (i : Nat) (a : α) : l.toArray.setIfInBounds i a = (l.set i a).toArray := List.setIfInBounds_toArray ..
theorem sqB {α : Type _} (a x : α) (l : List α) : (a :: l).set 0 x = x :: l := List.set_cons_zero ..
theorem sqC {α : Type _} (a x : α) (n : Nat) (l : List α) : (a :: l).set (n + 1) x = a :: l.set n x := List.set_cons_succ ..
theorem drB (w : World) : Hid (Below w.heap.size w w.drew) := hZ ⟨rfl, rfl, rfl, Nat.le_refl _, fun _ _ => rfl⟩
section
variable {P : Program} {md : Region.Mode} {ops : Array Oper} {Q : Exit → Act → World → Prop} {S : World → Prop} {ds : List Nat}
theorem pst (i : Nat) (N : Option Tmp) {oi : Oper} {v : Value} {fuel : Nat} {l : Array Bool} {a : Act} {w : World} {T : Bool × List (List Nat × List Nat)} {l' : Array Bool} {a' : Act} (hT : Aside0 (rtab md ops = T)) (h : wpAnyLast P md ops Q S ds fuel l' a' w) (hi : ops[i]? = some oi := by rfl) (hN : oi.dst = N := by rfl) (hl : l.setIfInBounds i true = l' := by simp only [List.setIfInBounds_toArray, List.set_cons_zero, List.set_cons_succ]; rfl) (hc : anyT T l.toList l'.toList i = true := by kernel_rfl)
    (hQ : ∀ c a w, Q (.panic c) (a.put oi.dst v) w → Q (.panic c) a w := by exact (fun _ _ _ h => h)) (hw : Region.wanted oi (yielded ops a.tmps) = true := by rfl) (hy : ∀ w, (execOp a.eval oi).run P w = .ok (.value v) w := by intro w'; go_simp; with_reducible rfl) (ha : a.put N v = a' := by simp only [Act.put, List.setIfInBounds_toArray, List.set_cons_zero, List.set_cons_succ, i64_w, i32_w]; rfl) : wpAnyLast P md ops Q S ds (fuel + 1) l a w :=
  pure_ l' hi hN (any_of hT.out hc) hQ (Or.inl ⟨hw, hy⟩) ha h
theorem tst (i : Nat) (N : Option Tmp) {oi : Oper} {v : Value} {fuel : Nat} {l : Array Bool} {a : Act} {w : World} {T : Bool × List (List Nat × List Nat)} {B : List Nat} {l' : Array Bool} {a' : Act} (hT : Aside0 (rtab md ops = T)) (hB : Aside0 (waitsOk T.2 B = true)) (hS : S w) (h : wpAnyLast P md ops Q S ds fuel l' a' w) (hi : ops[i]? = some oi := by rfl) (hN : oi.dst = N := by rfl) (hl : l.setIfInBounds i true = l' := by simp only [List.setIfInBounds_toArray, List.set_cons_zero, List.set_cons_succ]; rfl) (hc : takeW T B ds l.toList l'.toList i = true := by kernel_rfl)
    (hQ : ∀ c a w, Q (.panic c) (a.put oi.dst v) w → Q (.panic c) a w := by exact (fun _ _ _ h => h)) (hw : Region.wanted oi (yielded ops a.tmps) = true := by rfl) (hy : ∀ w, S w → (execOp a.eval oi).run P w = .ok (.value v) w) (ha : a.put N v = a' := by simp only [Act.put, List.setIfInBounds_toArray, List.set_cons_zero, List.set_cons_succ, i64_w, i32_w]; rfl) : wpAnyLast P md ops Q S ds (fuel + 1) l a w :=
  take_ l' hi hN (take_ofW hT.out hB.out hc) hQ (Or.inl ⟨hw, hy⟩) hS ha h
end
end Go.Proofs.YtfimkmlgnmaopaaGreat.Top
namespace Go.Proofs.YtfimkmlgnmaopaaGreat.Top
open Go.RowKit Go.Proofs.YtfimkmlgnmaopaaGreatW.PrintWords Go.Proofs.YtfimkmlgnmaopaaGreatW.PrintLast Go.Proofs.YtfimkmlgnmaopaaGreatW.PrintMore
set_option linter.unusedVariables false
theorem info57 : (Tryz.prog.info? 57).map (fun i => (i.zero, i.size, i.bytes)) = some (some (.agg #[.int .i64 0, .int .i64 0, .int .i64 0, .int .i64 0, .int .i64 0, .int .i64 0, .slice none 0 0, .int .i64 0, .int .i64 0, .int .i64 0, .int .i64 0]), 11, 104) := by kernel_rfl
theorem info125 : (Tryz.prog.info? 125).map (fun i => (i.zero, i.size, i.bytes)) = some (some (.agg #[.int .i64 0, .slice none 0 0, .int .i64 0, .int .i64 0]), 4, 48) := by kernel_rfl
theorem info176 : (Tryz.prog.info? 176).map (fun i => (i.zero, i.size, i.bytes)) = some (some (.agg #[.int .i64 0, .int .i64 0, .bool false]), 3, 24) := by kernel_rfl
theorem info67 : (Tryz.prog.info? 67).map (fun i => (i.zero, i.size, i.bytes)) = some (some (.agg #[.int .i64 0, .int .i64 0, .int .i64 0, .int .i64 0]), 4, 32) := by kernel_rfl
theorem C_none {sz n : Nat} {w : World} {xs : List (List Value)} (h : (Kd.raw sz).C w none n xs) : xs = [] /\ n = 0 := by
 have h0 : n = 0 := by
  rcases Nat.eq_zero_or_pos n with h0 | h0
  ·exact h0
  ·obtain ⟨ad, h1, _⟩ := h.2.2 h0
   cases h1
 exact ⟨List.eq_nil_of_length_eq_zero (by rw [h.1]; exact h0), h0⟩
theorem clone57 (A : Option Addr) (n c : Nat) (xs : List (List Value)) (w : World) (hr : (Kd.raw 11).C w A n xs) (hl : n <= 100000) :
  Calls Tryz.prog 47 #[.slice A n c] w fun e w' => ∃ v, e = .returned v /\ (Kd.raw 11).R 57 w' w.heap.size (fun _ => True) v xs /\ Below w.heap.size w w' := by
 cases A with
 | none =>
  obtain ⟨rfl, rfl⟩ := C_none hr;have hn := fun (w : World) => Lib.run_eql_slice_nil (P := Tryz.prog) w 43 57 none 0 c 0 0 Tryz.underlying43
  go_enter Tryz.func47, Tryz.ntmps47;go_wp2;go_ret;exact ⟨_, rfl, Kd.R_nil _ _ _ _ _, Below.refl _ _⟩
 | some ad =>
  have hn := fun (w : World) => Lib.run_eql_slice_nil (P := Tryz.prog) w 43 57 (some ad) n c 0 0 Tryz.underlying43
  have HR := hZ hr;clear hr;go_enter Tryz.func47, Tryz.ntmps47
  go_wp2_with (first
   | ((with_reducible refine gate_dst (N := 5) rfl ?_); (try (refine gate_guard (by rfl) ?_; dsimp only)); refine Kd.R_lit (Kd.raw 11) (w0 := w) w.heap.size 57 ?hg (N := 5) ?hd (xs := ([] : List (List Value))) (inner := []) (ok := fun _ => True) (okp := fun _ => False) ?hr ?hp (fun _ hk => hk.elim) trivial (Below.refl _ _) (Nat.le_refl _) (by simp) ?_; (case hd => rfl); (case hg => rfl); (case hr => first | (go_simp; done) | (go_simp; rfl)); (case hp => exact Reps.none _ _); intro v5 w4 hR4 hB4 hg4 _; have HR4 := hZ hR4; have HB4 := hZ hB4; clear hR4 hB4 hg4)
   | ((with_reducible refine gate_builtin (b := .append) (xs := #[.tmp 5, .tmp 6]) rfl ?_); at_builtin; refine Kd.R_append_rows (Kd.raw 11) (Rr := (Kd.raw 11).K w) (okp := fun _ => False) (w0 := w) w.heap.size rfl (.tmp 5) (.tmp 6) 43 57 (.agg #[.int .i64 0, .int .i64 0, .int .i64 0, .int .i64 0, .int .i64 0, .int .i64 0, .slice none 0 0, .int .i64 0, .int .i64 0, .int .i64 0, .int .i64 0]) 104 rfl Tryz.underlying43 info57 rfl (by decide) (by omega) v5 [] xs (some ad) n c (fun _ => True) rfl rfl HR4.out ?hC (fun _ _ h => h) (fun _ h => h.elim) (fun _ _ => trivial) HB4.out HB4.out.size ?aL ?_; (case hC => exact ReadsRow.imp_ HR.out HB4.out (fun _ _ h => h)); (case aL => (simp; omega)); intro v1 w5 hR5 hB5 _ _; have HR5 := hZ hR5; have HB5 := hZ hB5; clear hR5 hB5))
  go_ret;exact ⟨_, rfl, HR5.out, HB5.out⟩
theorem clone125 (A : Option Addr) (n c : Nat) (xs : List (List Value)) (w : World) (hr : (Kd.raw 4).C w A n xs) (hl : n <= 100000) :
  Calls Tryz.prog 50 #[.slice A n c] w fun e w' => ∃ v, e = .returned v /\ (Kd.raw 4).R 125 w' w.heap.size (fun _ => True) v xs /\ Below w.heap.size w w' := by
 cases A with
 | none =>
  obtain ⟨rfl, rfl⟩ := C_none hr;have hn := fun (w : World) => Lib.run_eql_slice_nil (P := Tryz.prog) w 55 125 none 0 c 0 0 Tryz.underlying55
  go_enter Tryz.func50, Tryz.ntmps50;go_wp2;go_ret;exact ⟨_, rfl, Kd.R_nil _ _ _ _ _, Below.refl _ _⟩
 | some ad =>
  have hn := fun (w : World) => Lib.run_eql_slice_nil (P := Tryz.prog) w 55 125 (some ad) n c 0 0 Tryz.underlying55
  have HR := hZ hr;clear hr;go_enter Tryz.func50, Tryz.ntmps50
  go_wp2_with (first
   | ((with_reducible refine gate_dst (N := 5) rfl ?_); (try (refine gate_guard (by rfl) ?_; dsimp only)); refine Kd.R_lit (Kd.raw 4) (w0 := w) w.heap.size 125 ?hg (N := 5) ?hd (xs := ([] : List (List Value))) (inner := []) (ok := fun _ => True) (okp := fun _ => False) ?hr ?hp (fun _ hk => hk.elim) trivial (Below.refl _ _) (Nat.le_refl _) (by simp) ?_; (case hd => rfl); (case hg => rfl); (case hr => first | (go_simp; done) | (go_simp; rfl)); (case hp => exact Reps.none _ _); intro v5 w4 hR4 hB4 hg4 _; have HR4 := hZ hR4; have HB4 := hZ hB4; clear hR4 hB4 hg4)
   | ((with_reducible refine gate_builtin (b := .append) (xs := #[.tmp 5, .tmp 6]) rfl ?_); at_builtin; refine Kd.R_append_rows (Kd.raw 4) (Rr := (Kd.raw 4).K w) (okp := fun _ => False) (w0 := w) w.heap.size rfl (.tmp 5) (.tmp 6) 55 125 (.agg #[.int .i64 0, .slice none 0 0, .int .i64 0, .int .i64 0]) 48 rfl Tryz.underlying55 info125 rfl (by decide) (by omega) v5 [] xs (some ad) n c (fun _ => True) rfl rfl HR4.out ?hC (fun _ _ h => h) (fun _ h => h.elim) (fun _ _ => trivial) HB4.out HB4.out.size ?aL ?_; (case hC => exact ReadsRow.imp_ HR.out HB4.out (fun _ _ h => h)); (case aL => (simp; omega)); intro v1 w5 hR5 hB5 _ _; have HR5 := hZ hR5; have HB5 := hZ hB5; clear hR5 hB5))
  go_ret;exact ⟨_, rfl, HR5.out, HB5.out⟩
theorem clone67 (A : Option Addr) (n c : Nat) (xs : List (List Value)) (w : World) (hr : (Kd.raw 4).C w A n xs) (hl : n <= 100000) :
  Calls Tryz.prog 33 #[.slice A n c] w fun e w' => ∃ v, e = .returned v /\ (Kd.raw 4).R 67 w' w.heap.size (fun _ => True) v xs /\ Below w.heap.size w w' := by
 cases A with
 | none =>
  obtain ⟨rfl, rfl⟩ := C_none hr;have hn := fun (w : World) => Lib.run_eql_slice_nil (P := Tryz.prog) w 48 67 none 0 c 0 0 Tryz.underlying48
  go_enter Tryz.func33, Tryz.ntmps33;go_wp2;go_ret;exact ⟨_, rfl, Kd.R_nil _ _ _ _ _, Below.refl _ _⟩
 | some ad =>
  have hn := fun (w : World) => Lib.run_eql_slice_nil (P := Tryz.prog) w 48 67 (some ad) n c 0 0 Tryz.underlying48
  have HR := hZ hr;clear hr;go_enter Tryz.func33, Tryz.ntmps33
  go_wp2_with (first
   | ((with_reducible refine gate_dst (N := 5) rfl ?_); (try (refine gate_guard (by rfl) ?_; dsimp only)); refine Kd.R_lit (Kd.raw 4) (w0 := w) w.heap.size 67 ?hg (N := 5) ?hd (xs := ([] : List (List Value))) (inner := []) (ok := fun _ => True) (okp := fun _ => False) ?hr ?hp (fun _ hk => hk.elim) trivial (Below.refl _ _) (Nat.le_refl _) (by simp) ?_; (case hd => rfl); (case hg => rfl); (case hr => first | (go_simp; done) | (go_simp; rfl)); (case hp => exact Reps.none _ _); intro v5 w4 hR4 hB4 hg4 _; have HR4 := hZ hR4; have HB4 := hZ hB4; clear hR4 hB4 hg4)
   | ((with_reducible refine gate_builtin (b := .append) (xs := #[.tmp 5, .tmp 6]) rfl ?_); at_builtin; refine Kd.R_append_rows (Kd.raw 4) (Rr := (Kd.raw 4).K w) (okp := fun _ => False) (w0 := w) w.heap.size rfl (.tmp 5) (.tmp 6) 48 67 (.agg #[.int .i64 0, .int .i64 0, .int .i64 0, .int .i64 0]) 32 rfl Tryz.underlying48 info67 rfl (by decide) (by omega) v5 [] xs (some ad) n c (fun _ => True) rfl rfl HR4.out ?hC (fun _ _ h => h) (fun _ h => h.elim) (fun _ _ => trivial) HB4.out HB4.out.size ?aL ?_; (case hC => exact ReadsRow.imp_ HR.out HB4.out (fun _ _ h => h)); (case aL => (simp; omega)); intro v1 w5 hR5 hB5 _ _; have HR5 := hZ hR5; have HB5 := hZ hB5; clear hR5 hB5))
  go_ret;exact ⟨_, rfl, HR5.out, HB5.out⟩
theorem info63 : (Tryz.prog.info? 63).map (fun i => (i.zero, i.size, i.bytes)) = some (some (.agg #[.int .i64 0, .int .i64 0, .slice none 0 0, .bool false]), 4, 48) := by kernel_rfl
theorem clone63 (A : Option Addr) (n c : Nat) (xs : List (List Value)) (w : World) (hr : (Kd.raw 4).C w A n xs) (hl : n <= 100000) :
  Calls Tryz.prog 48 #[.slice A n c] w fun e w' => ∃ v, e = .returned v /\ (Kd.raw 4).R 63 w' w.heap.size (fun _ => True) v xs /\ Below w.heap.size w w' := by
 cases A with
 | none =>
  obtain ⟨rfl, rfl⟩ := C_none hr;have hn := fun (w : World) => Lib.run_eql_slice_nil (P := Tryz.prog) w 44 63 none 0 c 0 0 Tryz.underlying44
  go_enter Tryz.func48, Tryz.ntmps48;go_wp2;go_ret;exact ⟨_, rfl, Kd.R_nil _ _ _ _ _, Below.refl _ _⟩
 | some ad =>
  have hn := fun (w : World) => Lib.run_eql_slice_nil (P := Tryz.prog) w 44 63 (some ad) n c 0 0 Tryz.underlying44
  have HR := hZ hr;clear hr;go_enter Tryz.func48, Tryz.ntmps48
  go_wp2_with (first
   | ((with_reducible refine gate_dst (N := 5) rfl ?_); (try (refine gate_guard (by rfl) ?_; dsimp only)); refine Kd.R_lit (Kd.raw 4) (w0 := w) w.heap.size 63 ?hg (N := 5) ?hd (xs := ([] : List (List Value))) (inner := []) (ok := fun _ => True) (okp := fun _ => False) ?hr ?hp (fun _ hk => hk.elim) trivial (Below.refl _ _) (Nat.le_refl _) (by simp) ?_; (case hd => rfl); (case hg => rfl); (case hr => first | (go_simp; done) | (go_simp; rfl)); (case hp => exact Reps.none _ _); intro v5 w4 hR4 hB4 hg4 _; have HR4 := hZ hR4; have HB4 := hZ hB4; clear hR4 hB4 hg4)
   | ((with_reducible refine gate_builtin (b := .append) (xs := #[.tmp 5, .tmp 6]) rfl ?_); at_builtin; refine Kd.R_append_rows (Kd.raw 4) (Rr := (Kd.raw 4).K w) (okp := fun _ => False) (w0 := w) w.heap.size rfl (.tmp 5) (.tmp 6) 44 63 (.agg #[.int .i64 0, .int .i64 0, .slice none 0 0, .bool false]) 48 rfl Tryz.underlying44 info63 rfl (by decide) (by omega) v5 [] xs (some ad) n c (fun _ => True) rfl rfl HR4.out ?hC (fun _ _ h => h) (fun _ h => h.elim) (fun _ _ => trivial) HB4.out HB4.out.size ?aL ?_; (case hC => exact ReadsRow.imp_ HR.out HB4.out (fun _ _ h => h)); (case aL => (simp; omega)); intro v1 w5 hR5 hB5 _ _; have HR5 := hZ hR5; have HB5 := hZ hB5; clear hR5 hB5))
  go_ret;exact ⟨_, rfl, HR5.out, HB5.out⟩
theorem info134 : (Tryz.prog.info? 134).map (fun i => (i.zero, i.size, i.bytes)) = some (some (.agg #[.int .i64 0, .int .i64 0]), 2, 16) := by kernel_rfl
theorem clone134 (A : Option Addr) (n c : Nat) (xs : List (List Value)) (w : World) (hr : (Kd.raw 2).C w A n xs) (hl : n <= 100000) :
  Calls Tryz.prog 49 #[.slice A n c] w fun e w' => ∃ v, e = .returned v /\ (Kd.raw 2).R 134 w' w.heap.size (fun _ => True) v xs /\ Below w.heap.size w w' := by
 cases A with
 | none =>
  obtain ⟨rfl, rfl⟩ := C_none hr;have hn := fun (w : World) => Lib.run_eql_slice_nil (P := Tryz.prog) w 45 134 none 0 c 0 0 Tryz.underlying45
  go_enter Tryz.func49, Tryz.ntmps49;go_wp2;go_ret;exact ⟨_, rfl, Kd.R_nil _ _ _ _ _, Below.refl _ _⟩
 | some ad =>
  have hn := fun (w : World) => Lib.run_eql_slice_nil (P := Tryz.prog) w 45 134 (some ad) n c 0 0 Tryz.underlying45
  have HR := hZ hr;clear hr;go_enter Tryz.func49, Tryz.ntmps49
  go_wp2_with (first
   | ((with_reducible refine gate_dst (N := 5) rfl ?_); (try (refine gate_guard (by rfl) ?_; dsimp only)); refine Kd.R_lit (Kd.raw 2) (w0 := w) w.heap.size 134 ?hg (N := 5) ?hd (xs := ([] : List (List Value))) (inner := []) (ok := fun _ => True) (okp := fun _ => False) ?hr ?hp (fun _ hk => hk.elim) trivial (Below.refl _ _) (Nat.le_refl _) (by simp) ?_; (case hd => rfl); (case hg => rfl); (case hr => first | (go_simp; done) | (go_simp; rfl)); (case hp => exact Reps.none _ _); intro v5 w4 hR4 hB4 hg4 _; have HR4 := hZ hR4; have HB4 := hZ hB4; clear hR4 hB4 hg4)
   | ((with_reducible refine gate_builtin (b := .append) (xs := #[.tmp 5, .tmp 6]) rfl ?_); at_builtin; refine Kd.R_append_rows (Kd.raw 2) (Rr := (Kd.raw 2).K w) (okp := fun _ => False) (w0 := w) w.heap.size rfl (.tmp 5) (.tmp 6) 45 134 (.agg #[.int .i64 0, .int .i64 0]) 16 rfl Tryz.underlying45 info134 rfl (by decide) (by omega) v5 [] xs (some ad) n c (fun _ => True) rfl rfl HR4.out ?hC (fun _ _ h => h) (fun _ h => h.elim) (fun _ _ => trivial) HB4.out HB4.out.size ?aL ?_; (case hC => exact ReadsRow.imp_ HR.out HB4.out (fun _ _ h => h)); (case aL => (simp; omega)); intro v1 w5 hR5 hB5 _ _; have HR5 := hZ hR5; have HB5 := hZ hB5; clear hR5 hB5))
  go_ret;exact ⟨_, rfl, HR5.out, HB5.out⟩
theorem info3 : (Tryz.prog.info? 3).map (fun i => (i.zero, i.size, i.bytes)) = some (some (.int .i64 0), 1, 8) := by kernel_rfl
theorem clone3 (A : Option Addr) (n c : Nat) (xs : List (List Value)) (w : World) (hr : (Kd.raw 1).C w A n xs) (hl : n <= 100000) :
  Calls Tryz.prog 51 #[.slice A n c] w fun e w' => ∃ v, e = .returned v /\ (Kd.raw 1).R 3 w' w.heap.size (fun _ => True) v xs /\ Below w.heap.size w w' := by
 cases A with
 | none =>
  obtain ⟨rfl, rfl⟩ := C_none hr;have hn := fun (w : World) => Lib.run_eql_slice_nil (P := Tryz.prog) w 61 3 none 0 c 0 0 Tryz.underlying61
  go_enter Tryz.func51, Tryz.ntmps51;go_wp2;go_ret;exact ⟨_, rfl, Kd.R_nil _ _ _ _ _, Below.refl _ _⟩
 | some ad =>
  have hn := fun (w : World) => Lib.run_eql_slice_nil (P := Tryz.prog) w 61 3 (some ad) n c 0 0 Tryz.underlying61
  have HR := hZ hr;clear hr;go_enter Tryz.func51, Tryz.ntmps51
  go_wp2_with (first
   | ((with_reducible refine gate_dst (N := 5) rfl ?_); (try (refine gate_guard (by rfl) ?_; dsimp only)); refine Kd.R_lit (Kd.raw 1) (w0 := w) w.heap.size 3 ?hg (N := 5) ?hd (xs := ([] : List (List Value))) (inner := []) (ok := fun _ => True) (okp := fun _ => False) ?hr ?hp (fun _ hk => hk.elim) trivial (Below.refl _ _) (Nat.le_refl _) (by simp) ?_; (case hd => rfl); (case hg => rfl); (case hr => first | (go_simp; done) | (go_simp; rfl)); (case hp => exact Reps.none _ _); intro v5 w4 hR4 hB4 hg4 _; have HR4 := hZ hR4; have HB4 := hZ hB4; clear hR4 hB4 hg4)
   | ((with_reducible refine gate_builtin (b := .append) (xs := #[.tmp 5, .tmp 6]) rfl ?_); at_builtin; refine Kd.R_append_rows (Kd.raw 1) (Rr := (Kd.raw 1).K w) (okp := fun _ => False) (w0 := w) w.heap.size rfl (.tmp 5) (.tmp 6) 61 3 (.int .i64 0) 8 rfl Tryz.underlying61 info3 rfl (by decide) (by omega) v5 [] xs (some ad) n c (fun _ => True) rfl rfl HR4.out ?hC (fun _ _ h => h) (fun _ h => h.elim) (fun _ _ => trivial) HB4.out HB4.out.size ?aL ?_; (case hC => exact ReadsRow.imp_ HR.out HB4.out (fun _ _ h => h)); (case aL => (simp; omega)); intro v1 w5 hR5 hB5 _ _; have HR5 := hZ hR5; have HB5 := hZ hB5; clear hR5 hB5))
  go_ret;exact ⟨_, rfl, HR5.out, HB5.out⟩
theorem clone176 (A : Option Addr) (n c : Nat) (xs : List (List Value)) (w : World) (hr : (Kd.raw 3).C w A n xs) (hl : n <= 100000) :
  Calls Tryz.prog 128 #[.slice A n c] w fun e w' => ∃ v, e = .returned v /\ (Kd.raw 3).R 176 w' w.heap.size (fun _ => True) v xs /\ Below w.heap.size w w' := by
 cases A with
 | none =>
  obtain ⟨rfl, rfl⟩ := C_none hr;have hn := fun (w : World) => Lib.run_eql_slice_nil (P := Tryz.prog) w 174 176 none 0 c 0 0 Tryz.underlying174
  go_enter Tryz.func128, Tryz.ntmps128;go_wp2;go_ret;exact ⟨_, rfl, Kd.R_nil _ _ _ _ _, Below.refl _ _⟩
 | some ad =>
  have hn := fun (w : World) => Lib.run_eql_slice_nil (P := Tryz.prog) w 174 176 (some ad) n c 0 0 Tryz.underlying174
  have HR := hZ hr;clear hr;go_enter Tryz.func128, Tryz.ntmps128
  go_wp2_with (first
   | ((with_reducible refine gate_dst (N := 5) rfl ?_); (try (refine gate_guard (by rfl) ?_; dsimp only)); refine Kd.R_lit (Kd.raw 3) (w0 := w) w.heap.size 176 ?hg (N := 5) ?hd (xs := ([] : List (List Value))) (inner := []) (ok := fun _ => True) (okp := fun _ => False) ?hr ?hp (fun _ hk => hk.elim) trivial (Below.refl _ _) (Nat.le_refl _) (by simp) ?_; (case hd => rfl); (case hg => rfl); (case hr => first | (go_simp; done) | (go_simp; rfl)); (case hp => exact Reps.none _ _); intro v5 w4 hR4 hB4 hg4 _; have HR4 := hZ hR4; have HB4 := hZ hB4; clear hR4 hB4 hg4)
   | ((with_reducible refine gate_builtin (b := .append) (xs := #[.tmp 5, .tmp 6]) rfl ?_); at_builtin; refine Kd.R_append_rows (Kd.raw 3) (Rr := (Kd.raw 3).K w) (okp := fun _ => False) (w0 := w) w.heap.size rfl (.tmp 5) (.tmp 6) 174 176 (.agg #[.int .i64 0, .int .i64 0, .bool false]) 24 rfl Tryz.underlying174 info176 rfl (by decide) (by omega) v5 [] xs (some ad) n c (fun _ => True) rfl rfl HR4.out ?hC (fun _ _ h => h) (fun _ h => h.elim) (fun _ _ => trivial) HB4.out HB4.out.size ?aL ?_; (case hC => exact ReadsRow.imp_ HR.out HB4.out (fun _ _ h => h)); (case aL => (simp; omega)); intro v1 w5 hR5 hB5 _ _; have HR5 := hZ hR5; have HB5 := hZ hB5; clear hR5 hB5))
  go_ret;exact ⟨_, rfl, HR5.out, HB5.out⟩
end Go.Proofs.YtfimkmlgnmaopaaGreat.Top
namespace Go.Proofs.YtfimkmlgnmaopaaGreat.Top
open Go.RowKit Go.Proofs.YtfimkmlgnmaopaaGreatW.PrintWords Go.Proofs.YtfimkmlgnmaopaaGreatW.PrintLast Go.Proofs.YtfimkmlgnmaopaaGreatW.PrintMore Go.Proofs.YtfimkmlgnmaopaaGreat.PTopNames
set_option linter.unusedVariables false
def cmpI (a b : Int) : Int := if a < b then -1 else if b < a then 1 else 0
theorem compare_calls (a b : Int) (w : World) : Calls Tryz.prog 64 #[.int .i64 a, .int .i64 b] w fun e w' => e = .returned (.int .i64 (cmpI a b)) /\ w = w' := by
 unfold cmpI;by_cases h1 : a < b
 ·rw [if_pos h1];go_enter Tryz.func64, Tryz.ntmps64;go_wp2;go_ret;exact ⟨rfl, rfl⟩
 ·rw [if_neg h1];by_cases h2 : b < a
  ·rw [if_pos h2];go_enter Tryz.func64, Tryz.ntmps64;go_wp2;go_ret;exact ⟨rfl, rfl⟩
  ·rw [if_neg h2];go_enter Tryz.func64, Tryz.ntmps64;go_wp2;go_ret;exact ⟨rfl, rfl⟩
theorem at1_calls (x0 x1 x2 x3 x4 x5 : Int) (J : Value) (x7 x8 x9 x10 t : Int) (w : World) (hJ : ∃ A n c, J = .slice A n c) :
  Calls Tryz.prog 63 #[.agg #[.int .i64 x0, .int .i64 x1, .int .i64 x2, .int .i64 x3, .int .i64 x4, .int .i64 x5, J, .int .i64 x7, .int .i64 x8, .int .i64 x9, .int .i64 x10], .int .i64 t] w fun e w' => e = .returned (.int .i64 (cmpI x0 t)) /\ Below w.heap.size w w' := by
 obtain ⟨A, n, c, rfl⟩ := hJ;have D := fun w => compare_calls x0 t w
 go_enter Tryz.func63, Tryz.ntmps63
 go_wp2_with (go_at_call 64; (with_reducible refine (D _).mono ?_); rintro e w' ⟨rfl, rfl⟩)
 go_ret;exact ⟨rfl, (Below.refl _ _).alloc (Nat.le_refl _) _⟩
def Sorted (l : List S57) : Prop := l.Pairwise (fun a b => a.f0 < b.f0)
def ahead (l : List S57) (t : Int) : Nat := l.countP (fun x => decide (x.f0 < t))
def isAt (l : List S57) (t : Int) : Bool := l.any (fun x => x.f0 == t)
theorem ahead_le (l : List S57) (t : Int) : ahead l t <= l.length := List.countP_le_length
theorem lt_ahead {l : List S57} (hs : Sorted l) {t : Int} {k : Nat} (hk : k < l.length) : l[k].f0 < t ↔ k < ahead l t := by
 induction l generalizing k with
 | nil => exact absurd hk (by simp)
 | cons p r ih =>
  have hp := List.pairwise_cons.1 hs;unfold ahead;by_cases hpt : p.f0 < t
  ·rw [List.countP_cons_of_pos (by simpa using hpt)]
   cases k with
   | zero => simp [hpt]
   | succ k => 
    have := ih hp.2 (k := k) (by simpa using hk);unfold ahead at this;simp only [List.getElem_cons_succ, this];omega
  ·rw [List.countP_cons_of_neg (by simpa using hpt)]
   have h0 : r.countP (fun x => decide (x.f0 < t)) = 0 := by
    rw [List.countP_eq_zero];intro x hx;have := hp.1 x hx;simp;omega
   rw [h0]
   cases k with
   | zero => simp [hpt]
   | succ k =>
    have hk' : k < r.length := by simpa using hk
    have := hp.1 r[k] (List.getElem_mem hk');simp only [List.getElem_cons_succ];omega
theorem isAt_ahead {l : List S57} (hs : Sorted l) (t : Int) : isAt l t = true ↔ ∃ h : ahead l t < l.length, l[ahead l t].f0 = t := by
 constructor
 ·intro h;obtain ⟨x, hx, he⟩ := List.any_eq_true.1 h;obtain ⟨k, hk, rfl⟩ := List.mem_iff_getElem.1 hx;have he' : l[k].f0 = t := by simpa using he
  have h1 : ¬ k < ahead l t := fun h2 => by have := (lt_ahead hs (t := t) hk).2 h2; omega
  have h2 : ahead l t = k := by
   by_cases h3 : ahead l t < k
   ·have h4 : ahead l t < l.length := by omega
    have h5 := List.pairwise_iff_getElem.1 hs (ahead l t) k h4 hk h3;have h6 := (lt_ahead hs (t := t) h4).1 (by omega);omega
   ·omega
  refine ⟨by omega, ?_⟩;simp only [h2, he']
 ·rintro ⟨h, he⟩;exact List.any_eq_true.2 ⟨l[ahead l t], List.getElem_mem h, by simpa using he⟩
theorem rd57_at {l : List S57} {k : Nat} (h : k < l.length) : rd_T57 l (k : Int) = l[k] := by simp [rd_T57, h]
structure Cells57 (w : World) (ad : Addr) (k : Nat) (x : S57) (J : Option Addr) (cJ : Nat) : Prop where
 e0 : w.cell? (ad.add (k * 11)) = some (.int .i64 x.f0)
 e1 : w.cell? ⟨(ad.add (k * 11)).block, (ad.add (k * 11)).off + 1, none⟩ = some (.int .i64 x.f1.f0)
 e2 : w.cell? ⟨(ad.add (k * 11)).block, (ad.add (k * 11)).off + 2, none⟩ = some (.int .i64 x.f1.f1)
 e3 : w.cell? ⟨(ad.add (k * 11)).block, (ad.add (k * 11)).off + 3, none⟩ = some (.int .i64 x.f1.f2)
 e4 : w.cell? ⟨(ad.add (k * 11)).block, (ad.add (k * 11)).off + 4, none⟩ = some (.int .i64 x.f1.f3)
 e5 : w.cell? ⟨(ad.add (k * 11)).block, (ad.add (k * 11)).off + 5, none⟩ = some (.int .i64 x.f1.f4)
 e6 : w.cell? ⟨(ad.add (k * 11)).block, (ad.add (k * 11)).off + 6, none⟩ = some (.slice J x.f2.length cJ)
 e7 : w.cell? ⟨(ad.add (k * 11)).block, (ad.add (k * 11)).off + 7, none⟩ = some (.int .i64 x.f3)
 e8 : w.cell? ⟨(ad.add (k * 11)).block, (ad.add (k * 11)).off + 8, none⟩ = some (.int .i64 x.f4)
 e9 : w.cell? ⟨(ad.add (k * 11)).block, (ad.add (k * 11)).off + 9, none⟩ = some (.int .i64 x.f5)
 e10 : w.cell? ⟨(ad.add (k * 11)).block, (ad.add (k * 11)).off + 10, none⟩ = some (.int .i64 x.f6)
 jc : x.f2.length <= cJ
 jobs : Kd.C k125 w J x.f2.length x.f2
theorem cells57 {w : World} {A : Option Addr} {l : List S57} (h : Kd.C k57 w A l.length l) {k : Nat} (hk : k < l.length) : ∃ ad J cJ, A = some ad /\ Cells57 w ad k l[k] J cJ := by
 obtain ⟨ad, A6, c6, rfl, e0, e1, e2, e3, e4, e5, e6, e7, e8, e9, e10, h1, h2⟩ := at_T57 h (k : Int) (by omega) (by omega);rw [rd57_at hk, Int.toNat_natCast] at *;exact ⟨ad, A6, c6, rfl, ⟨e0, e1, e2, e3, e4, e5, e6, e7, e8, e9, e10, h1, h2⟩⟩
theorem cmpI_lt {a b : Int} : decide (cmpI a b < 0) = decide (a < b) := by
 unfold cmpI;by_cases h1 : a < b
 ·simp [h1]
 ·rw [if_neg h1];by_cases h2 : b < a <;> simp [h1, h2]
theorem cmpI_eq {a b : Int} : (cmpI a b == 0) = (a == b) := by
 unfold cmpI;by_cases h1 : a < b
 ·have : (a == b) = false := by simp; omega
  rw [if_pos h1, this]; rfl
 ·rw [if_neg h1];by_cases h2 : b < a
  ·have : (a == b) = false := by simp; omega
   rw [if_pos h2, this]; rfl
  ·have : (a == b) = true := by simp; omega
   rw [if_neg h2, this]; rfl
theorem search_calls (A : Option Addr) (c : Nat) (l : List S57) (t : Int) (w : World) (hr : Kd.C k57 w A l.length l) (hs : Sorted l) (hlen : l.length <= 1000) :
  Calls Tryz.prog 62 #[.slice A l.length c, .int .i64 t, .func (.func 63) #[] #[]] w fun e w' => e = .returned (.tuple #[.int .i64 (ahead l t), .bool (isAt l t)]) /\ Below w.heap.size w w' := by
 have HR := hZ hr;have HS := hZ hs;have hal := ahead_le l t;have hlta := fun (k : Nat) (hk : k < l.length) => lt_ahead hs (t := t) hk
 have hia := isAt_ahead hs t;have hra := hZ (show isAt l t = isAt l t from rfl);generalize hrr : isAt l t = r at *;generalize hqq : ahead l t = q at *;have HIA := hZ hia;have HLT := hZ hlta;clear hr hs hrr hqq hia hlta hra;go_enter Tryz.func62, Tryz.ntmps62;go_wp2
 go_loopw [9, 10] (fun v9 v10 wr => ∃ i j : Nat, v9 = .int .i64 i /\ v10 = .int .i64 j /\ i <= q /\ q <= j /\ j <= l.length /\ Hid (Below w.heap.size w wr)) (fun v9 v10 _ => (intOf v10).toNat - (intOf v9).toNat)
 case atStart => exact ⟨0, l.length, rfl, rfl, Nat.zero_le _, hal, Nat.le_refl _, Below.refl _ _⟩
 case round =>
  obtain ⟨i, j, rfl, rfl, hi, hj, hjl, HB⟩ := hrel;by_cases hij : i < j
  ·have hk : (i + j) / 2 < l.length := by omega
   obtain ⟨ad, J, cJ, rfl, hC⟩ := cells57 (Kd.C_below HR.out HB.out) hk;obtain ⟨e0, e1, e2, e3, e4, e5, e6, e7, e8, e9, e10, hjc, hjobs⟩ := hC;have hlt := HLT.out _ hk;have D := fun w => at1_calls l[(i + j) / 2].f0 l[(i + j) / 2].f1.f0 l[(i + j) / 2].f1.f1 l[(i + j) / 2].f1.f2 l[(i + j) / 2].f1.f3 l[(i + j) / 2].f1.f4 (.slice J l[(i + j) / 2].f2.length cJ) l[(i + j) / 2].f3 l[(i + j) / 2].f4 l[(i + j) / 2].f5 l[(i + j) / 2].f6 t w ⟨_, _, _, rfl⟩
   have hcb := cmpI_lt (a := l[(i + j) / 2].f0) (b := t);generalize l[(i + j) / 2] = x at *;generalize hv : cmpI x.f0 t = v at *;clear hv hjobs;by_cases hx : x.f0 < t
   ·have hv1 : v < 0 := by simpa [hx] using hcb
    have hi2 : (i + j) / 2 < q := hlt.1 hx;clear hcb hlt hx
    go_wp2_with (go_at_call 63; (with_reducible refine (D _).mono ?_); rintro e w' ⟨rfl, hB'⟩; have HB' := hZ (HB.out.trans (hB'.mono HB.out.size)); clear hB')
    go_roundw
    case rel => exact ⟨(i + j) / 2 + 1, j, by go_num, rfl, by omega, by omega, by omega, HB'⟩
    case measure => simp [intOf]; omega
   ·have hv1 : 0 <= v := by simpa [hx] using hcb
    have hi2 : q <= (i + j) / 2 := by
     have : ¬ (i + j) / 2 < q := fun h => hx (hlt.2 h)
     omega
    clear hcb hlt hx
    go_wp2_with (go_at_call 63; (with_reducible refine (D _).mono ?_); rintro e w' ⟨rfl, hB'⟩; have HB' := hZ (HB.out.trans (hB'.mono HB.out.size)); clear hB')
    go_roundw
    case rel => exact ⟨i, (i + j) / 2, rfl, by go_num, by omega, by omega, by omega, HB'⟩
    case measure => simp [intOf]; omega
  ·obtain rfl : i = q := by omega
   have hji : j <= i := by omega
   clear hij hi hj;by_cases hk : i < l.length
   ·obtain ⟨ad, J, cJ, rfl, hC⟩ := cells57 (Kd.C_below HR.out HB.out) hk;obtain ⟨e0, e1, e2, e3, e4, e5, e6, e7, e8, e9, e10, hjc, hjobs⟩ := hC;have D := fun w => at1_calls l[i].f0 l[i].f1.f0 l[i].f1.f1 l[i].f1.f2 l[i].f1.f3 l[i].f1.f4 (.slice J l[i].f2.length cJ) l[i].f3 l[i].f4 l[i].f5 l[i].f6 t w ⟨_, _, _, rfl⟩
    have hcb := cmpI_eq (a := l[i].f0) (b := t)
    have hres : r = (cmpI l[i].f0 t == 0) := by
     rw [hcb, Bool.eq_iff_iff, HIA.out];simp [hk]
    generalize l[i] = x at *;generalize cmpI x.f0 t = v at *;have HRes := hZ hres;clear hjobs hcb hres
    go_wp2_with (go_at_call 63; (with_reducible refine (D _).mono ?_); rintro e w' ⟨rfl, hB'⟩; have HB' := hZ (HB.out.trans (hB'.mono HB.out.size)); clear hB')
    go_ret2;exact ⟨by rw [HRes.out]; rfl, HB'.out⟩
   ·have hres : r = false := by
     rw [Bool.eq_false_iff];intro h;exact hk (HIA.out.1 h).1
    subst hres;go_wp2;go_ret2;exact ⟨rfl, HB.out⟩
theorem at_calls (M now : Int) (A : Option Addr) (c : Nat) (l : List S57) (S2 B2 : Value) (t : Int) (w : World) (hr : Kd.C k57 w A l.length l) (hs : Sorted l) (hlen : l.length <= 1000) (h2 : ∃ A n c, S2 = .slice A n c) (h3 : ∃ A n c, B2 = .slice A n c) :
  Calls Tryz.prog 32 #[.agg #[.int .i64 M, .int .i64 now, .slice A l.length c, S2, B2], .int .i64 t] w fun e w' => e = .returned (.tuple #[.int .i64 (ahead l t), .bool (isAt l t)]) /\ Below w.heap.size w w' := by
 obtain ⟨A2, n2, c2, rfl⟩ := h2;obtain ⟨A3, n3, c3, rfl⟩ := h3;have hb0 := (Below.refl w.heap.size w).alloc (Nat.le_refl _) (.cells #[.int .i64 M, .int .i64 now, .slice A l.length c, .slice A2 n2 c2, .slice A3 n3 c3] 47);have D := fun w2 (hb : Below w.heap.size w w2) => search_calls A c l t w2 (Kd.C_below hr hb) hs hlen
 have HB0 := hZ hb0;clear hr hs hb0;generalize ahead l t = q at *;generalize isAt l t = r at *;go_enter Tryz.func32, Tryz.ntmps32
 go_wp2_with (go_at_call 62; (with_reducible refine (D _ HB0.out).mono ?_); rintro e w' ⟨rfl, hB'⟩)
 go_ret2;exact ⟨rfl, HB0.out.trans (hB'.mono HB0.out.size)⟩
end Go.Proofs.YtfimkmlgnmaopaaGreat.Top
namespace Go.Proofs.YtfimkmlgnmaopaaGreat.Top
open Go.RowKit Go.Proofs.YtfimkmlgnmaopaaGreatW.PrintWords Go.Proofs.YtfimkmlgnmaopaaGreatW.PrintLast Go.Proofs.YtfimkmlgnmaopaaGreatW.PrintMore
set_option linter.unusedVariables false
def RowAt (w : World) (b o sz : Nat) (T : TypeId) (xs : List (List Value)) : Prop :=
 (∀ x ∈ xs, x.length = sz) /\ ∃ pre rest : List Value, pre.length = o /\ w.heap[b]? = some (.cells (pre ++ xs.flatten ++ rest).toArray T (0, 0))
theorem flat_len {sz : Nat} : ∀ {xs : List (List Value)}, (∀ x ∈ xs, x.length = sz) -> xs.flatten.length = xs.length * sz
 | [], _ => by simp
 | x :: r, h => by
  have h1 := h x (by simp);have h2 := flat_len (xs := r) (fun y hy => h y (List.mem_cons_of_mem _ hy));simp only [List.flatten_cons, List.length_append, List.length_cons, h1, h2, Nat.add_mul, Nat.one_mul];omega
theorem flat_get {sz : Nat} : ∀ {xs : List (List Value)}, (∀ x ∈ xs, x.length = sz) -> ∀ (i : Nat) (hi : i < xs.length) (j : Nat), j < sz -> xs.flatten[i * sz + j]? = xs[i][j]?
 | [], _, i, hi, _, _ => absurd hi (by simp)
 | x :: r, h, 0, _, j, hj => by
  have h1 := h x (by simp);simp only [List.flatten_cons, Nat.zero_mul, Nat.zero_add, List.getElem_cons_zero];rw [List.getElem?_append_left (by omega)]
 | x :: r, h, i + 1, hi, j, hj => by
  have h1 := h x (by simp);have h2 := flat_get (xs := r) (fun y hy => h y (List.mem_cons_of_mem _ hy)) i (by simpa using hi) j hj;simp only [List.flatten_cons, List.getElem_cons_succ];rw [List.getElem?_append_right (by rw [h1, Nat.add_mul, Nat.one_mul]; omega), h1, <- h2];congr 1;rw [Nat.add_mul, Nat.one_mul];omega
theorem flat_set {sz : Nat} (u : Value) : ∀ {xs : List (List Value)}, (∀ x ∈ xs, x.length = sz) -> ∀ (i : Nat) (hi : i < xs.length) (j : Nat), j < sz -> xs.flatten.set (i * sz + j) u = (xs.set i (xs[i].set j u)).flatten
 | [], _, i, hi, _, _ => absurd hi (by simp)
 | x :: r, h, 0, _, j, hj => by
  have h1 := h x (by simp);simp only [List.flatten_cons, Nat.zero_mul, Nat.zero_add, List.getElem_cons_zero, List.set_cons_zero];rw [List.set_append_left _ _ (by omega)]
 | x :: r, h, i + 1, hi, j, hj => by
  have h1 := h x (by simp);have h2 := flat_set u (xs := r) (fun y hy => h y (List.mem_cons_of_mem _ hy)) i (by simpa using hi) j hj;simp only [List.flatten_cons, List.getElem_cons_succ, List.set_cons_succ];rw [List.set_append_right _ _ (by rw [h1, Nat.add_mul, Nat.one_mul]; omega), h1, <- h2];congr 2;rw [Nat.add_mul, Nat.one_mul];omega
theorem RowAt.lt {w : World} {b o sz : Nat} {T : TypeId} {xs : List (List Value)} (h : RowAt w b o sz T xs) : b < w.heap.size := by
 obtain ⟨_, pre, rest, _, hb⟩ := h;exact (Array.getElem?_eq_some_iff.1 hb).1
theorem RowAt.same {w w1 : World} {b o sz : Nat} {T : TypeId} {xs : List (List Value)} (h : RowAt w b o sz T xs) (hb : w1.heap[b]? = w.heap[b]?) : RowAt w1 b o sz T xs := by
 obtain ⟨h1, pre, rest, h2, h3⟩ := h;exact ⟨h1, pre, rest, h2, hb.trans h3⟩
theorem RowAt.below {w w1 : World} {b o sz : Nat} {T : TypeId} {xs : List (List Value)} (h : RowAt w b o sz T xs) (hb : Below w.heap.size w w1) : RowAt w1 b o sz T xs := h.same (hb.block _ h.lt)
theorem RowAt.cell {w : World} {b o sz : Nat} {T : TypeId} {xs : List (List Value)} (h : RowAt w b o sz T xs) {i : Nat} (hi : i < xs.length) {j : Nat} (hj : j < sz) {v : Value} (hv : xs[i][j]? = some v) : w.cell? ⟨b, o + i * sz + j, none⟩ = some v := by
 obtain ⟨h1, pre, rest, h2, h3⟩ := h;have hl := flat_len h1
 have hlt : i * sz + j < xs.flatten.length := by
  rw [hl];have := Nat.mul_le_mul_right sz (show i + 1 <= xs.length by omega);rw [Nat.add_mul, Nat.one_mul] at this;omega
 simp only [World.cell?, h3];show (pre ++ xs.flatten ++ rest).toArray[o + i * sz + j]? = some v;rw [List.getElem?_toArray, List.append_assoc, List.getElem?_append_right (by omega), List.getElem?_append_left (by omega), show o + i * sz + j - pre.length = i * sz + j by omega, flat_get h1 i hi j hj, hv]
theorem RowAt.free {w : World} {b o sz : Nat} {T : TypeId} {xs : List (List Value)} (h : RowAt w b o sz T xs) (k : Nat) : w.frozen? ⟨b, k, none⟩ = false := by
 obtain ⟨h1, pre, rest, h2, h3⟩ := h;simp [World.frozen?, h3]
theorem blk_set {w : World} {s : Nat} {c : Array Value} {e : TypeId} {fz : Nat × Nat} (o : Nat) (v : Value) (h : w.heap[s]? = some (.cells c e fz)) : (w.setCell ⟨s, o, none⟩ v).heap[s]? = some (.cells (c.setIfInBounds o v) e fz) := by
 simp only [World.setCell, Array.getElem?_modify, if_true, h];rfl
theorem blk_set_ne {w : World} {s k : Nat} (o : Nat) (v : Value) (h : k ≠ s) : (w.setCell ⟨s, o, none⟩ v).heap[k]? = w.heap[k]? := Below.heap_setCell _ _ _ _ h
theorem RowAt.set {w : World} {b o sz : Nat} {T : TypeId} {xs : List (List Value)} (h : RowAt w b o sz T xs) {i : Nat} (hi : i < xs.length) {j : Nat} (hj : j < sz) (u : Value) :
  RowAt (w.setCell ⟨b, o + i * sz + j, none⟩ u) b o sz T (xs.set i (xs[i].set j u)) := by
 obtain ⟨h1, pre, rest, h2, h3⟩ := h;have hl := flat_len h1
 have hlt : i * sz + j < xs.flatten.length := by
  rw [hl];have := Nat.mul_le_mul_right sz (show i + 1 <= xs.length by omega);rw [Nat.add_mul, Nat.one_mul] at this;omega
 refine ⟨fun x hx => ?_, pre, rest, h2, ?_⟩
 ·rcases List.mem_or_eq_of_mem_set hx with hx | rfl
  ·exact h1 x hx
  ·rw [List.length_set]; exact h1 _ (List.getElem_mem hi)
 ·rw [blk_set _ _ h3, <- flat_set u h1 i hi j hj];congr 2;rw [List.setIfInBounds_toArray, List.append_assoc, List.set_append_right _ _ (by omega), List.set_append_left _ _ (by omega), show o + i * sz + j - pre.length = i * sz + j by omega, List.append_assoc]
theorem RowAt.set_ne {w : World} {b o sz b' k : Nat} {T : TypeId} {xs : List (List Value)} (h : RowAt w b o sz T xs) (hne : b ≠ b') (u : Value) : RowAt (w.setCell ⟨b', k, none⟩ u) b o sz T xs := h.same (blk_set_ne _ _ hne)
theorem RowAt.tail {w : World} {b o sz : Nat} {T : TypeId} {x : List Value} {xs : List (List Value)} (h : RowAt w b o sz T (x :: xs)) : RowAt w b (o + sz) sz T xs := by
 obtain ⟨h1, pre, rest, h2, h3⟩ := h;refine ⟨fun y hy => h1 y (List.mem_cons_of_mem _ hy), pre ++ x, rest, ?_, ?_⟩
 ·rw [List.length_append, h2, h1 x (by simp)]
 ·rw [h3, List.flatten_cons];simp only [List.append_assoc]
theorem row_of_R {w : World} {base e sz : Nat} {ok : Nat -> Prop} {v : Value} {xs : List (List Value)} (h : (Kd.raw sz).R e w base ok v xs) (hp : 0 < xs.length) :
  ∃ g cap, v = .slice (some ⟨g, 0, none⟩) xs.length cap /\ xs.length <= cap /\ cap <= maxLen /\ base <= g /\ ok g /\ RowAt w g 0 sz e xs := by
 obtain ⟨hok, inner, ho, hr⟩ := h;obtain ⟨hil, hv⟩ := ho;rcases hv with ⟨_, h0⟩ | ⟨g, cap, cur, rfl, hb, hheap, hnc, hcm, hcs, htake⟩
 ·omega
 ·have hlen : ∀ x ∈ xs, x.length = sz := by
   intro x hx;obtain ⟨i, hi, rfl⟩ := List.mem_iff_getElem.1 hx;obtain ⟨h2, h3⟩ := hr;obtain ⟨h4, h5, _⟩ := h3 i _ (List.getElem?_eq_getElem hi);rw [<- h4]; exact h5
  have hin : inner = xs.flatten := by
   have hl := flat_len hlen;obtain ⟨h2, h3⟩ := hr;have h2' : inner.length = xs.length * sz := h2;apply List.ext_getElem?;intro k;by_cases hk : k < xs.length * sz
   ·by_cases hs : sz = 0
    ·subst hs; simp at hk
    ·have hi : k / sz < xs.length := by rw [Nat.div_lt_iff_lt_mul (by omega)]; exact hk
     obtain ⟨h4, _, _⟩ := h3 (k / sz) _ (List.getElem?_eq_getElem hi);have hj : k % sz < sz := Nat.mod_lt _ (by omega);have hkk : k / sz * sz + k % sz = k := by rw [Nat.mul_comm]; exact Nat.div_add_mod k sz
     have e1 := flat_get hlen (k / sz) hi (k % sz) hj;rw [hkk] at e1;have h4' : (inner.drop (k / sz * sz)).take sz = xs[k / sz] := h4;rw [e1, <- h4', List.getElem?_take, if_pos hj, List.getElem?_drop, hkk]
   ·rw [List.getElem?_eq_none (by omega), List.getElem?_eq_none (by omega)]
  refine ⟨g, cap, rfl, hnc, hcm, hb, hok g (by simp [Value.ownBlock]), hlen, [], cur.toList.drop (xs.length * sz), rfl, ?_⟩;rw [hheap, List.nil_append, <- hin];have htake' : cur.toList.take (xs.length * sz) = inner := htake;rw [<- htake', List.take_append_drop]
structure Turn (w w' : World) (S : Nat -> Prop) : Prop where
 os : w'.os = w.os
 tape : w'.tape = w.tape
 output : w'.output = w.output
 size : w.heap.size <= w'.heap.size
 block : ∀ k, k < w.heap.size -> ¬ S k -> w'.heap[k]? = w.heap[k]?
theorem Turn.refl (w : World) (S : Nat -> Prop) : Turn w w S := ⟨rfl, rfl, rfl, Nat.le_refl _, fun _ _ _ => rfl⟩
theorem Turn.of_below {w w' : World} (S : Nat -> Prop) (h : Below w.heap.size w w') : Turn w w' S := ⟨h.os, h.tape, h.output, h.size, fun k hk _ => h.block k hk⟩
theorem Turn.imp {w w' : World} {S T : Nat -> Prop} (h : Turn w w' S) (hs : ∀ k, S k -> T k) : Turn w w' T := ⟨h.os, h.tape, h.output, h.size, fun k hk hn => h.block k hk (fun e => hn (hs k e))⟩
theorem Turn.trans {a b c : World} {S : Nat -> Prop} (h : Turn a b S) (k : Turn b c S) : Turn a c S :=
 ⟨k.os.trans h.os, k.tape.trans h.tape, k.output.trans h.output, Nat.le_trans h.size k.size, fun i hi hn => (k.block i (Nat.lt_of_lt_of_le hi h.size) hn).trans (h.block i hi hn)⟩
theorem Turn.drew {a b : World} {S : Nat -> Prop} (h : Turn a b S) : Turn a b.drew S := ⟨h.os, h.tape, h.output, h.size, h.block⟩
theorem Turn.set {w w' : World} {S : Nat -> Prop} (h : Turn w w' S) {s : Nat} (hs : S s) (o : Nat) (v : Value) : Turn w (w'.setCell ⟨s, o, none⟩ v) S :=
 ⟨h.os, h.tape, h.output, by simpa using h.size, fun k hk hne => by rw [blk_set_ne _ _ (fun e => hne (by rw [e]; exact hs))]; exact h.block k hk hne⟩
theorem Turn.alloc {w w' : World} {S : Nat -> Prop} (h : Turn w w' S) (o : Obj) : Turn w (w'.alloc o) S :=
 h.trans (Turn.of_below S ((Below.refl _ _).alloc (Nat.le_refl _) o))
theorem Turn.below {B : Nat} {a w w' : World} {S : Nat -> Prop} (hb : Below B a w) (h : Turn w w' S) (hs : ∀ k, S k -> B <= k) (hB : B <= w.heap.size) : Below B a w' :=
 ⟨h.os.trans hb.os, h.tape.trans hb.tape, h.output.trans hb.output, Nat.le_trans hb.size h.size, fun k hk => (h.block k (by omega) (fun e => by have := hs k e; omega)).trans (hb.block k hk)⟩
theorem RowAt.turn {w w1 : World} {b o sz : Nat} {T : TypeId} {xs : List (List Value)} {S : Nat -> Prop} (h : RowAt w b o sz T xs) (ht : Turn w w1 S) (hb : ¬ S b) : RowAt w1 b o sz T xs := h.same (ht.block _ h.lt hb)
theorem RowAt.drew {w : World} {b o sz : Nat} {T : TypeId} {xs : List (List Value)} (h : RowAt w b o sz T xs) : RowAt w.drew b o sz T xs := h.same rfl
end Go.Proofs.YtfimkmlgnmaopaaGreat.Top
namespace Go.Proofs.YtfimkmlgnmaopaaGreat.Top
open Go.RowKit Go.Proofs.YtfimkmlgnmaopaaGreatW.PrintWords Go.Proofs.YtfimkmlgnmaopaaGreatW.PrintLast Go.Proofs.YtfimkmlgnmaopaaGreatW.PrintMore Go.Proofs.YtfimkmlgnmaopaaGreat.PTopNames
set_option linter.unusedVariables false
set_option linter.unusedSimpArgs false
def cmpE.T1 : Bool × List (List Nat × List Nat) := (true, [([], []), ([0], [0]), ([], []), ([2], [2]), ([1, 3], [1, 3]), ([], []), ([5], [5]), ([], []), ([7], [7]), ([6, 8, 4], [6, 8]), ([4, 9], [4, 9]), ([10, 9], [10]), ([11, 11, 0, 1, 2, 3, 4, 5, 6, 7, 8, 9, 10, 11], [11])])
def cmpE.B1 : List Nat := [0, 1, 0, 4, 15, 0, 32, 0, 128, 511, 1023, 2047, 4095]
theorem cmpE.tab1 : rtab .any (opsOf Tryz.f131 1) = cmpE.T1 := by kernel_rfl
theorem cmpE.bits1 : waitsOk cmpE.T1.2 cmpE.B1 = true := by kernel_rfl
theorem compare64_calls (a b : Int) (w : World) : Calls Tryz.prog 151 #[.int .i64 a, .int .i64 b] w fun e w' => e = .returned (.int .i64 (cmpI a b)) /\ w = w' := by
 unfold cmpI;by_cases h1 : a < b
 ·rw [if_pos h1];go_enter Tryz.func151, Tryz.ntmps151;go_wp2;go_ret;exact ⟨rfl, rfl⟩
 ·rw [if_neg h1];by_cases h2 : b < a
  ·rw [if_pos h2];go_enter Tryz.func151, Tryz.ntmps151;go_wp2;go_ret;exact ⟨rfl, rfl⟩
  ·rw [if_neg h2];go_enter Tryz.func151, Tryz.ntmps151;go_wp2;go_ret;exact ⟨rfl, rfl⟩
def orI (a b : Int) : Int := if a = 0 then b else a
theorem or_calls (A : Option Addr) (c : Nat) (a b : Int) (w : World) (hr : (Kd.int .i64).C w A 2 [a, b]) : Calls Tryz.prog 150 #[.slice A 2 c] w fun e w' => e = .returned (.int .i64 (orI a b)) /\ w = w' := by
 obtain ⟨ad, rfl, h0⟩ := Kd.at_int hr 0 (by omega) (by omega);obtain ⟨ad', e, h1⟩ := Kd.at_int hr 1 (by omega) (by omega)
 cases e
 have h0' : w.cell? ad = some (.int .i64 a) := h0;have h1' : w.cell? (ad.add 1) = some (.int .i64 b) := h1;clear hr h0 h1;go_enter Tryz.func150, Tryz.ntmps150;go_wp2
 go_loop [8] (fun v8 => ∃ k : Nat, v8 = .int .i64 k /\ k <= 2 /\ Hid (0 < k -> a = 0) /\ Hid (1 < k -> b = 0)) (fun v8 => 2 - (intOf v8).toNat)
 case atStart => exact ⟨0, rfl, by omega, hZ (fun h => absurd h (by omega)), hZ (fun h => absurd h (by omega))⟩
 case round =>
  obtain ⟨k, rfl, hk, HA, HB⟩ := hrel;by_cases h2 : k < 2
  ·obtain ⟨v, hv, hcell, hstop, hgo⟩ : ∃ v : Int, (v = if k = 0 then a else b) /\ w.cell? (ad.add k) = some (.int .i64 v) /\ (v ≠ 0 -> orI a b = v) /\ (v = 0 -> (0 < k + 1 -> a = 0) /\ (1 < k + 1 -> b = 0)) := by
    by_cases hk0 : k = 0
    ·subst hk0;refine ⟨a, by simp, h0', fun h => ?_, fun h => ⟨fun _ => h, fun h => by omega⟩⟩;unfold orI; rw [if_neg h]
    ·obtain rfl : k = 1 := by omega
     have ha := HA.out (by omega);refine ⟨b, by simp, h1', fun h => ?_, fun h => ⟨fun _ => ha, fun _ => h⟩⟩;unfold orI; rw [if_pos ha]
   have HS := hZ hstop;have HG := hZ hgo;clear hv hstop hgo;by_cases hv : v = 0
   ·have hvb : (v != 0) = false := by simp [hv]
    have HV := hZ hv;clear hv;go_wp2;go_round
    case rel => exact ⟨k + 1, by go_num, by omega, hZ (HG.out HV.out).1, hZ (HG.out HV.out).2⟩
    case measure => simp [intOf]; omega
   ·have hvb : (v != 0) = true := by simp [hv]
    have HV := hZ (HS.out hv);clear hv;go_wp2;go_ret;exact ⟨by rw [HV.out]; rfl, rfl⟩
  ·have ha : a = 0 := HA.out (by omega);have hb : b = 0 := HB.out (by omega);have HV := hZ (show orI a b = 0 by unfold orI; rw [if_pos ha]; exact hb);clear ha hb;go_wp2;go_ret;exact ⟨by rw [HV.out]; rfl, rfl⟩
def entCmp (i1 d1 i2 d2 : Int) : Int := orI (cmpI d1 d2) (cmpI i1 i2)
theorem entCompare_calls (i1 d1 : Int) (f1 : Bool) (i2 d2 : Int) (f2 : Bool) (w : World) :
  Calls Tryz.prog 131 #[.agg #[.int .i64 i1, .int .i64 d1, .bool f1], .agg #[.int .i64 i2, .int .i64 d2, .bool f2]] w fun e w' => e = .returned (.int .i64 (entCmp i1 d1 i2 d2)) /\ Below w.heap.size w w' := by
 go_enter Tryz.func131, Tryz.ntmps131
 go_upto_region 1 with fail
 have hW := (Below.refl w.heap.size w |>.alloc (Nat.le_refl _) (.cells #[.int .i64 i1, .int .i64 d1, .bool f1] 176)).alloc (by simp) (.cells #[.int .i64 i2, .int .i64 d2, .bool f2] 176);generalize hw1 : (w.alloc (.cells #[.int .i64 i1, .int .i64 d1, .bool f1] 176)).alloc (.cells #[.int .i64 i2, .int .i64 d2, .bool f2] 176) = w1 at *;have q1 : w1.drew.cell? ⟨w.heap.size, 1, none⟩ = some (.int .i64 d1) := by rw [<- hw1]; simp
 have q2 : w1.drew.cell? ⟨w.heap.size + 1, 1, none⟩ = some (.int .i64 d2) := by rw [<- hw1]; simp
 have q3 : w1.drew.cell? ⟨w.heap.size, 0, none⟩ = some (.int .i64 i1) := by rw [<- hw1]; simp
 have q4 : w1.drew.cell? ⟨w.heap.size + 1, 0, none⟩ = some (.int .i64 i2) := by rw [<- hw1]; simp
 have hz1 : w.heap.size < w1.drew.heap.size := by rw [<- hw1]; simp; omega
 have hz2 : w.heap.size + 1 < w1.drew.heap.size := by rw [<- hw1]; simp
 have HW := hZ (show Below w.heap.size w w1.drew from ⟨hW.os, hW.tape, hW.output, hW.size, hW.block⟩);clear hw1 hW;generalize hg1e : w.heap.size = g1 at *;generalize hg2e : g1 + 1 = g2 at *;have HG1 := hZ hg1e;clear hg1e hg2e;have hg1 : (⟨g1, 1, none⟩ : Addr).block < w1.drew.heap.size := hz1;have hg2 : (⟨g2, 1, none⟩ : Addr).block < w1.drew.heap.size := hz2;refine start_ (n := 13) (S := fun w' => w'.cell? ⟨g1, 1, none⟩ = some (.int .i64 d1) /\ w'.cell? ⟨g2, 1, none⟩ = some (.int .i64 d2) /\ w'.cell? ⟨g1, 0, none⟩ = some (.int .i64 i1) /\ w'.cell? ⟨g2, 0, none⟩ = some (.int .i64 i2) /\ Hid (Below w1.drew.heap.size w1.drew w')) (ds := []) #[false, false, false, false, false, false, false, false, false, false, false, false, false] (by kernel_rfl) rfl rfl ⟨q1, q2, q3, q4, (hZ (Below.refl w1.drew.heap.size w1.drew))⟩ (fun hHeld => ?_);refine with_tabW cmpE.tab1 cmpE.bits1 (fun HT_ HW_ => ?_);generalize hwd : w1.drew = wd at *;clear hwd;refine pst 0 (some 5) HT_ ?_;refine pst 2 (some 7) HT_ ?_;refine pst 5 (some 10) HT_ ?_;refine pst 7 (some 12) HT_ ?_;refine tst 1 (some 6) HT_ HW_ hHeld ?_ (hy := by rintro w' ⟨s0, s1, s2, s3, s4⟩; go_simp; with_reducible rfl);refine tst 3 (some 8) HT_ HW_ hHeld ?_ (hy := by rintro w' ⟨s0, s1, s2, s3, s4⟩; go_simp; with_reducible rfl);refine tst 6 (some 11) HT_ HW_ hHeld ?_ (hy := by rintro w' ⟨s0, s1, s2, s3, s4⟩; go_simp; with_reducible rfl);refine tst 8 (some 13) HT_ HW_ hHeld ?_ (hy := by rintro w' ⟨s0, s1, s2, s3, s4⟩; go_simp; with_reducible rfl);refine one_ (i := 4) (N := some 9) #[true, true, true, true, true, true, true, true, true, false, false, false, false] rfl rfl (one_of HT_.out (by kernel_rfl)) (by decide) (fun K hK => ?_);refine goes_ Tryz.func151 (by kernel_rfl) rfl #[.int .i64 d1, .int .i64 d2] (by rfl) rfl rfl (by simp only [List.map_toArray, List.map_cons, List.map_nil]; rfl) ?_;with_reducible refine (compare64_calls d1 d2 _).mono ?_;rintro e w3 ⟨rfl, rfl⟩;refine ⟨_, rfl, ?_⟩;refine hK.out _ _ ⟨hHeld.1, hHeld.2.1, hHeld.2.2.1, hHeld.2.2.2.1, hHeld.2.2.2.2⟩ (fun hHeld => ?_);clear hK K;refine norm_ (a' := ?_) ?_ ?_;rotate_left
 ·show Act.put _ (some 9) _ = _;simp only [Act.put, sqA, sqB, sqC, i64_w, i32_w];rfl
 refine one_ (i := 9) (N := some 14) #[true, true, true, true, true, true, true, true, true, true, false, false, false] rfl rfl (one_of HT_.out (by kernel_rfl)) (by decide) (fun K hK => ?_);refine goes_ Tryz.func64 (by kernel_rfl) rfl #[.int .i64 i1, .int .i64 i2] (by rfl) rfl rfl (by simp only [List.map_toArray, List.map_cons, List.map_nil]; rfl) ?_;with_reducible refine (compare_calls i1 i2 _).mono ?_;rintro e w3 ⟨rfl, rfl⟩;refine ⟨_, rfl, ?_⟩;refine hK.out _ _ ⟨hHeld.1, hHeld.2.1, hHeld.2.2.1, hHeld.2.2.2.1, hHeld.2.2.2.2⟩ (fun hHeld => ?_);clear hK K;refine norm_ (a' := ?_) ?_ ?_;rotate_left
 ·show Act.put _ (some 14) _ = _;simp only [Act.put, sqA, sqB, sqC, i64_w, i32_w];rfl
 refine one_ (i := 10) (N := some 15) #[true, true, true, true, true, true, true, true, true, true, true, false, false] rfl rfl (one_of HT_.out (by kernel_rfl)) (by decide) (fun K hK => ?_);refine Kd.R_lit_step (Kd.int .i64) (w0 := wd) wd.heap.size 3 (by rfl) (N := 15) rfl (xs := [cmpI d1 d2, cmpI i1 i2]) (inner := [.int .i64 (cmpI d1 d2), .int .i64 (cmpI i1 i2)]) (ok := fun _ => True) (okp := fun _ => False) ?_ (Kd.reps_scalar [cmpI d1 d2, cmpI i1 i2]) (fun _ h => h.elim) trivial hHeld.2.2.2.2.out hHeld.2.2.2.2.out.size (by simp) ?_
 ·first | (go_simp; done) | (go_simp; rfl)
 intro v15 w3 hR hBl _ _;have HBx := hZ hBl;have HR15 := hZ hR;clear hR hBl;obtain ⟨A15, c15, hv15⟩ := Kd.R_slice HR15.out;subst hv15;refine hK.out _ _ ⟨((HBx.out.cell hg1).trans q1), ((HBx.out.cell hg2).trans q2), ((HBx.out.cell (p := ⟨g1, 0, none⟩) hg1).trans q3), ((HBx.out.cell (p := ⟨g2, 0, none⟩) hg2).trans q4), HBx⟩ (fun hHeld => ?_);clear hK K;refine norm_ (a' := ?_) ?_ ?_;rotate_left
 ·show Act.put _ (some 15) _ = _;simp only [Act.put, sqA, sqB, sqC, i64_w, i32_w];rfl
 refine one_ (i := 11) (N := some 16) #[true, true, true, true, true, true, true, true, true, true, true, true, false] rfl rfl (one_of HT_.out (by kernel_rfl)) (by decide) (fun K hK => ?_);refine goes_ Tryz.func150 (by kernel_rfl) rfl #[.slice A15 2 c15] (by rfl) rfl rfl (by simp only [List.map_toArray, List.map_cons, List.map_nil]; rfl) ?_;with_reducible refine (or_calls A15 c15 _ _ _ (Kd.R_reads' HR15.out).2.2).mono ?_;rintro e w3 ⟨rfl, rfl⟩;refine ⟨_, rfl, ?_⟩;refine hK.out _ _ ⟨hHeld.1, hHeld.2.1, hHeld.2.2.1, hHeld.2.2.2.1, hHeld.2.2.2.2⟩ (fun hHeld => ?_);clear hK K;refine norm_ (a' := ?_) ?_ ?_;rotate_left
 ·show Act.put _ (some 16) _ = _;simp only [Act.put, sqA, sqB, sqC, i64_w, i32_w];rfl
 refine pst 12 (some 4) HT_ ?_;refine done_ (done_of HT_.out (by kernel_rfl)) ?_;have HF := hZ (HW.out.trans (hHeld.2.2.2.2.out.mono (by rw [<- HG1.out]; exact HW.out.size)));clear hHeld HR15;go_wp2;go_ret;exact ⟨rfl, by rw [HG1.out]; exact HF.out⟩
end Go.Proofs.YtfimkmlgnmaopaaGreat.Top
namespace Go.Proofs.YtfimkmlgnmaopaaGreat.Top
open Go.RowKit Go.Proofs.YtfimkmlgnmaopaaGreatW.PrintWords Go.Proofs.YtfimkmlgnmaopaaGreatW.PrintLast Go.Proofs.YtfimkmlgnmaopaaGreatW.PrintMore Go.Proofs.YtfimkmlgnmaopaaGreat.PTopNames
set_option linter.unusedVariables false
structure Ent where
 id : Int
 due : Int
 fixed : Bool
def Ent.cells (a : Ent) : List Value := [.int .i64 a.id, .int .i64 a.due, .bool a.fixed]
def Ent.lt (a b : Ent) : Prop := (a.fixed = true /\ b.fixed = false) \/ (a.fixed = b.fixed /\ (a.due < b.due \/ (a.due = b.due /\ a.id < b.id)))
def orderI (a b : Ent) : Int := if a.fixed && !b.fixed then -1 else if b.fixed && !a.fixed then 1 else entCmp a.id a.due b.id b.due
theorem entCmp_neg (i1 d1 i2 d2 : Int) : entCmp i1 d1 i2 d2 < 0 ↔ (d1 < d2 \/ (d1 = d2 /\ i1 < i2)) := by
 unfold entCmp orI cmpI;by_cases h1 : d1 < d2
 ·simp [h1]
 ·by_cases h2 : d2 < d1
  ·rw [if_neg h1, if_pos h2, if_neg (by omega)];constructor
   ·intro h; omega
   ·intro h; omega
  ·rw [if_neg h1, if_neg h2, if_pos rfl];by_cases h3 : i1 < i2
   ·rw [if_pos h3]; constructor <;> intro _ <;> omega
   ·rw [if_neg h3];by_cases h4 : i2 < i1
    ·rw [if_pos h4]; constructor <;> intro _ <;> omega
    ·rw [if_neg h4]; constructor <;> intro _ <;> omega
theorem orderI_neg (a b : Ent) : orderI a b < 0 ↔ a.lt b := by
 obtain ⟨i1, d1, f1⟩ := a;obtain ⟨i2, d2, f2⟩ := b;unfold orderI Ent.lt
 cases f1 <;> cases f2 <;> simp [entCmp_neg]
theorem Ent.lt_irrefl (a : Ent) : ¬ a.lt a := by
 unfold Ent.lt
 cases a.fixed <;> simp
theorem Ent.lt_trans {a b c : Ent} (h : a.lt b) (k : b.lt c) : a.lt c := by
 obtain ⟨i1, d1, f1⟩ := a;obtain ⟨i2, d2, f2⟩ := b;obtain ⟨i3, d3, f3⟩ := c;unfold Ent.lt at *
 cases f1 <;> cases f2 <;> cases f3 <;> simp at * <;> omega
def Ent.le (a b : Ent) : Prop := ¬ b.lt a
theorem Ent.le_trans {a b c : Ent} (h : a.le b) (k : b.le c) : a.le c := by
 obtain ⟨i1, d1, f1⟩ := a;obtain ⟨i2, d2, f2⟩ := b;obtain ⟨i3, d3, f3⟩ := c;unfold Ent.le Ent.lt at *
 cases f1 <;> cases f2 <;> cases f3 <;> simp at * <;> omega
theorem Ent.le_of_lt {a b : Ent} (h : a.lt b) : a.le b := fun k => a.lt_irrefl (Ent.lt_trans h k)
theorem order1_calls (a b : Ent) (w : World) :
  Calls Tryz.prog 130 #[.agg #[.int .i64 a.id, .int .i64 a.due, .bool a.fixed], .agg #[.int .i64 b.id, .int .i64 b.due, .bool b.fixed]] w fun e w' => e = .returned (.int .i64 (orderI a b)) /\ Below w.heap.size w w' := by
 obtain ⟨i1, d1, f1⟩ := a;obtain ⟨i2, d2, f2⟩ := b;have hW := (Below.refl w.heap.size w |>.alloc (Nat.le_refl _) (.cells #[.int .i64 i1, .int .i64 d1, .bool f1] 176)).alloc (by simp) (.cells #[.int .i64 i2, .int .i64 d2, .bool f2] 176);have HW := hZ hW;clear hW;have D := fun w => entCompare_calls i1 d1 f1 i2 d2 f2 w
 unfold orderI;dsimp only at D |-;generalize entCmp i1 d1 i2 d2 = r at *
 cases f1 <;> cases f2
 all_goals
  go_enter Tryz.func130, Tryz.ntmps130
  go_wp2_with (go_at_call 131; (with_reducible refine (D _).mono ?_); rintro e w' ⟨rfl, hB⟩; have HB := hZ (HW.out.trans (hB.mono (by simp; omega))); clear hB)
  go_ret;exact ⟨rfl, by first | exact HB.out | exact HW.out⟩
def zE : Ent := ⟨0, 0, false⟩
def atE (es : List Ent) (k : Nat) : Ent := es.getD k zE
def Srt (es : List Ent) (m : Nat) : Prop := ∀ a b, a < b -> b < m -> (atE es a).le (atE es b)
def Ord (es : List Ent) (i j : Nat) : Prop := ∀ a b, a < b -> b <= i -> b ≠ j -> (atE es a).le (atE es b)
theorem Srt.ord {es : List Ent} {i : Nat} (h : Srt es i) : Ord es i i := fun a b h1 h2 h3 => h a b h1 (by omega)
def sw (es : List Ent) (k : Nat) : List Ent := (es.set (k + 1) (atE es k)).set k (atE es (k + 1))
theorem atE_set {es : List Ent} {k : Nat} (hk : k < es.length) (v : Ent) (a : Nat) : atE (es.set k v) a = if a = k then v else atE es a := by
 unfold atE;rw [List.getD_eq_getElem?_getD, List.getElem?_set];by_cases h : k = a
 ·subst h;rw [if_pos rfl, if_pos hk, if_pos rfl];rfl
 ·rw [if_neg h, if_neg (fun e => h e.symm), List.getD_eq_getElem?_getD]
theorem atE_sw {es : List Ent} {k : Nat} (hk : k + 1 < es.length) (a : Nat) : atE (sw es k) a = if a = k then atE es (k + 1) else if a = k + 1 then atE es k else atE es a := by
 unfold sw;rw [atE_set (by simp; omega), atE_set hk]
theorem sw_perm {es : List Ent} {k : Nat} (hk : k + 1 < es.length) : (sw es k).Perm es := by
 have e1 : atE es k = es[k] := by simp [atE, show k < es.length by omega]
 have e2 : atE es (k + 1) = es[k + 1] := by simp [atE, hk]
 have h1 : es = es.take k ++ es[k] :: es[k + 1] :: es.drop (k + 2) := by
  rw [<- List.drop_eq_getElem_cons hk, <- List.drop_eq_getElem_cons (by omega), List.take_append_drop]
 have h2 : sw es k = es.take k ++ es[k + 1] :: es[k] :: es.drop (k + 2) := by
  unfold sw;rw [e1, e2];apply List.ext_getElem?;intro a;rw [List.getElem?_set, List.getElem?_set];by_cases ha : a < k
  ·rw [if_neg (by omega), if_neg (by omega), List.getElem?_append_left (by rw [List.length_take]; omega), List.getElem?_take, if_pos ha]
  ·have hl : (es.take k).length = k := by rw [List.length_take]; omega
   rw [List.getElem?_append_right (by omega), hl];by_cases h3 : k = a
   ·subst h3;rw [if_pos rfl, if_pos (by simp; omega), Nat.sub_self];rfl
   ·rw [if_neg h3];by_cases h4 : k + 1 = a
    ·subst h4;rw [if_pos rfl, if_pos hk, show k + 1 - k = 1 by omega];rfl
    ·rw [if_neg h4];obtain ⟨d, rfl⟩ : ∃ d, a = k + 2 + d := ⟨a - (k + 2), by omega⟩;rw [show k + 2 + d - k = d + 1 + 1 by omega, List.getElem?_cons_succ, List.getElem?_cons_succ, List.getElem?_drop]
 rw [h2]
 conv => rhs; rw [h1]
 exact List.Perm.append_left _ (List.Perm.swap _ _ _)
theorem Ord.swap {es : List Ent} {i k : Nat} (h : Ord es i (k + 1)) (hk : k + 1 < es.length) (hi : k + 1 <= i) (hlt : (atE es (k + 1)).lt (atE es k)) : Ord (sw es k) i k := by
 intro a b h1 h2 h3;rw [atE_sw hk, atE_sw hk, if_neg h3];by_cases hb : b = k + 1
 ·subst hb;rw [if_pos rfl];by_cases ha : a = k
  ·rw [if_pos ha]; exact Ent.le_of_lt hlt
  ·rw [if_neg ha, if_neg (by omega)];exact h a k (by omega) (by omega) (by omega)
 ·rw [if_neg hb];by_cases ha : a = k
  ·rw [if_pos ha];exact h (k + 1) b (by omega) h2 hb
  ·rw [if_neg ha];by_cases ha1 : a = k + 1
   ·rw [if_pos ha1];exact h k b (by omega) h2 hb
   ·rw [if_neg ha1];exact h a b h1 h2 hb
theorem Ord.stop {es : List Ent} {i k : Nat} (h : Ord es i (k + 1)) (hle : (atE es k).le (atE es (k + 1))) : Srt es (i + 1) := by
 intro a b h1 h2;by_cases hb : b = k + 1
 ·subst hb;by_cases ha : a = k
  ·rw [ha]; exact hle
  ·exact Ent.le_trans (h a k (by omega) (by omega) (by omega)) hle
 ·exact h a b h1 (by omega) hb
theorem Ord.zero {es : List Ent} {i : Nat} (h : Ord es i 0) : Srt es (i + 1) := fun a b h1 h2 => h a b h1 (by omega) (by omega)
theorem cells_sw {es : List Ent} {k : Nat} : (sw es k).map Ent.cells = ((es.map Ent.cells).set (k + 1) (atE es k).cells).set k (atE es (k + 1)).cells := by
 unfold sw;rw [List.map_set, List.map_set]
end Go.Proofs.YtfimkmlgnmaopaaGreat.Top
namespace Go.Proofs.YtfimkmlgnmaopaaGreat.Top
open Go.RowKit Go.Proofs.YtfimkmlgnmaopaaGreatW.PrintWords Go.Proofs.YtfimkmlgnmaopaaGreatW.PrintLast Go.Proofs.YtfimkmlgnmaopaaGreatW.PrintMore Go.Proofs.YtfimkmlgnmaopaaGreat.PTopNames
set_option linter.unusedVariables false
set_option linter.unusedSimpArgs false
def insE.T4 : Bool × List (List Nat × List Nat) := (true, [([], []), ([], []), ([0, 1], [0, 1]), ([2], [2]), ([3], [3]), ([3], [3]), ([3], [3]), ([5, 6, 3], [3, 5, 6]), ([7, 3], [3, 7]), ([3], [3]), ([3], [3]), ([10, 3], [3, 10]), ([9, 11, 3], [3, 9, 11]), ([12, 3], [3, 12]), ([4, 8, 13, 3, 3], [3, 4, 8, 13]), ([14, 3], [3, 14]), ([3, 15], [3, 15])])
def insE.B4 : List Nat := [0, 0, 3, 7, 15, 15, 15, 111, 239, 15, 15, 1039, 3599, 7695, 16383, 32767, 65535]
theorem insE.tab4 : rtab .any (opsOf Tryz.f159 4) = insE.T4 := by kernel_rfl
theorem insE.bits4 : waitsOk insE.T4.2 insE.B4 = true := by kernel_rfl
def insE.T6 : Bool × List (List Nat × List Nat) := (true, [([], []), ([], []), ([], []), ([], []), ([3], [3]), ([], []), ([], []), ([6], [6]), ([5, 7], [5, 7]), ([8], [8]), ([], []), ([], []), ([10, 11], [10, 11]), ([12], [12]), ([0, 1, 0, 1, 5, 6, 7, 8, 9, 13], [0, 1]), ([14, 9, 0, 1, 5, 6, 7, 8, 9, 13], [9, 14]), ([2, 4, 0, 1, 2, 3, 4, 5, 6, 7, 8, 9, 10, 11, 12, 13, 14, 15], [2, 4]), ([16, 13, 15, 0, 1, 2, 3, 4, 5, 6, 7, 8, 9, 10, 11, 12, 13, 14, 15], [13, 16])])
def insE.B6 : List Nat := [0, 0, 0, 0, 8, 0, 0, 64, 224, 480, 0, 0, 3072, 7168, 16355, 32739, 65535, 131071]
theorem insE.tab6 : rtab .any (opsOf Tryz.f159 6) = insE.T6 := by kernel_rfl
theorem insE.bits6 : waitsOk insE.T6.2 insE.B6 = true := by kernel_rfl
theorem cells_at {es : List Ent} {k : Nat} (h : k < es.length) {hh : k < (es.map Ent.cells).length} : (es.map Ent.cells)[k] = (atE es k).cells := by
 simp [atE, h]
theorem raw_cells {w : World} {g : Nat} {xs : List (List Value)} (h : RowAt w g 0 3 176 xs) {k : Nat} (hk : k < xs.length) {x : Ent} (hx : xs[k] = x.cells) :
  w.cell? ⟨g, k * 3, none⟩ = some (.int .i64 x.id) /\ w.cell? ⟨g, k * 3 + 1, none⟩ = some (.int .i64 x.due) /\ w.cell? ⟨g, k * 3 + 2, none⟩ = some (.bool x.fixed) := by
 have a := h.cell hk (j := 0) (by omega) (by rw [hx]; rfl);have b := h.cell hk (j := 1) (by omega) (by rw [hx]; rfl);have c := h.cell hk (j := 2) (by omega) (by rw [hx]; rfl);rw [Nat.zero_add] at a b c;exact ⟨a, b, c⟩
theorem ent_cells {w : World} {g : Nat} {es : List Ent} (h : RowAt w g 0 3 176 (es.map Ent.cells)) {k : Nat} (hk : k < es.length) :
  w.cell? ⟨g, k * 3, none⟩ = some (.int .i64 (atE es k).id) /\ w.cell? ⟨g, k * 3 + 1, none⟩ = some (.int .i64 (atE es k).due) /\ w.cell? ⟨g, k * 3 + 2, none⟩ = some (.bool (atE es k).fixed) :=
 raw_cells h (by simpa using hk) (cells_at hk)
theorem set_get_ne {xs : List (List Value)} {i j : Nat} {v : List Value} (h : i ≠ j) {hh : j < (xs.set i v).length} : (xs.set i v)[j] = xs[j]'(by simpa using hh) := by
 rw [List.getElem_set_ne h]
theorem row_set3 {w : World} {g : Nat} {xs : List (List Value)} (h : RowAt w g 0 3 176 xs) {k : Nat} (hk : k < xs.length) (a b c : Value) :
  RowAt (((w.setCell ⟨g, k * 3, none⟩ a).setCell ⟨g, k * 3 + 1, none⟩ b).setCell ⟨g, k * 3 + 2, none⟩ c) g 0 3 176 (xs.set k [a, b, c]) := by
 have hl : xs[k].length = 3 := h.1 _ (List.getElem_mem hk);have h1 := h.set hk (j := 0) (by omega) a;have h2 := h1.set (i := k) (by simpa using hk) (j := 1) (by omega) b;have h3 := h2.set (i := k) (by simpa using hk) (j := 2) (by omega) c;simp only [Nat.zero_add, Nat.add_zero, List.getElem_set_self, List.set_set] at h3
 obtain ⟨u, v, x, hx⟩ : ∃ u v x, xs[k] = [u, v, x] := by
  match xs[k], hl with
  | [u, v, x], _ => exact ⟨u, v, x, rfl⟩
 rw [hx] at h3;exact h3
theorem turn_set3 {w w' : World} (g o : Nat) (S : Nat -> Prop) (h : Turn w w' S) (hg : S g) (a b c : Value) : Turn w (((w'.setCell ⟨g, o, none⟩ a).setCell ⟨g, o + 1, none⟩ b).setCell ⟨g, o + 2, none⟩ c) S :=
 ((h.set hg _ _).set hg _ _).set hg _ _
section
variable {P : Program} {ops : Array Oper} {Q : Exit -> Act -> World -> Prop}
theorem goesV_ {oi : Oper} {N : Option Tmp} {a : Act} {w : World} {K : Act → World → Prop} {f : FuncId} {fn : Func} {t : Tmp} {ags : Array Operand} {ts : Array TypeId} (hf : P.funcs[f]? = some fn) (hname : (fn.name == "runtime.NumGoroutine") = false) (hb : fn.body.isSome = true) (args : Array Value)
  (hw : Region.wanted oi (yielded ops a.tmps) = true) (hN : oi.dst = N) (hop : oi.op = .call { callee := .value (.tmp t), args := ags, argTypes := ts }) (hfv : a.eval (.tmp t) = .func (.func f) #[] #[]) (hargs : ags.map a.eval = args)
  (h : Calls P f args w fun e w' => ∃ v, e = .returned v /\ K (a.put N v) w') : if Region.wanted oi (yielded ops a.tmps) = true then Oper.wp P oi a w K Q else K (a.put N undef) w := by
 refine call_ f args hw hN ?_ h;have he := enters_ hf hname hb args w;have hfv' : a.tmps.getD t undef = .func (.func f) #[] #[] := hfv;unfold execOp;simp [hop, resolve, Deferred.ofValue, invoke, hargs, he, hfv]
end
theorem ins_calls (g c : Nat) (es : List Ent) (w : World) (hR : RowAt w g 0 3 176 (es.map Ent.cells)) (hl : es.length <= 1000) (hc : es.length <= c) :
  Calls Tryz.prog 159 #[.slice (some ⟨g, 0, none⟩) es.length c, .int .i64 0, .int .i64 es.length, .func (.func 130) #[] #[]] w fun e w' => e = .returned (.tuple #[]) /\ ∃ es' : List Ent, es'.Perm es /\ Srt es' es'.length /\ RowAt w' g 0 3 176 (es'.map Ent.cells) /\ Turn w w' (fun b => b = g) := by
 have HR0 := hZ hR;clear hR;go_enter Tryz.func159, Tryz.ntmps159;go_wp2
 go_loopw [8] (fun v8 wr => ∃ (i : Nat) (e1 : List Ent), v8 = .int .i64 i /\ 1 <= i /\ (i <= es.length \/ i = 1) /\ Hid (e1.Perm es) /\ Hid (Srt e1 i) /\ Hid (RowAt wr g 0 3 176 (e1.map Ent.cells)) /\ Hid (Turn w wr (fun b => b = g))) (fun v8 _ => es.length - (intOf v8).toNat)
 case atStart => exact ⟨1, es, rfl, by omega, .inr rfl, hZ (List.Perm.refl _), hZ (fun a b h1 h2 => absurd h1 (by omega)), HR0, hZ (Turn.refl _ _)⟩
 case round =>
  clear HR0;obtain ⟨i, e1, rfl, hi1, hi2, HP, HS, HRow1, HT⟩ := hrel;by_cases hin : i < es.length
  ·go_wp2;obtain ⟨wo, rfl⟩ : ∃ wo : World, wo = wr := ⟨_, rfl⟩
   go_loopw [9] (fun v9 wr => ∃ (j : Nat) (es2 : List Ent), v9 = .int .i64 j /\ j <= i /\ Hid (es2.Perm es) /\ Hid (Ord es2 i j) /\ Hid (RowAt wr g 0 3 176 (es2.map Ent.cells)) /\ Hid (Turn w wr (fun b => b = g))) (fun v9 _ => (intOf v9).toNat)
   case atStart => exact ⟨i, e1, rfl, Nat.le_refl _, HP, hZ HS.out.ord, HRow1, HT⟩
   case round =>
    clear HP HS HRow1 HT;obtain ⟨j, es2, rfl, hj, HP, HO, HRow, HT⟩ := hrel;have HLen : Hid (es2.length = es.length) := hZ HP.out.length_eq;have hlen1 : es2.length <= es.length := by rw [HLen.out]; exact Nat.le_refl _
    have hlen2 : es.length <= es2.length := by rw [HLen.out]; exact Nat.le_refl _
    by_cases hj0 : j = 0
    ·have hjb : decide (0 < j) = false := by simp [hj0]
     have HZ := hZ (show Srt es2 (i + 1) from (by rw [hj0] at HO; exact HO.out.zero));have hjl : (j : Int) <= 0 := by omega
     clear hj0
     go_upto_region 4 with fail
     refine start_ (n := 17) (S := fun w' => Hid (RowAt w' g 0 3 176 (es2.map Ent.cells)) /\ Hid (Below wr.drew.heap.size wr.drew w')) (ds := []) #[false, false, false, false, false, false, false, false, false, false, false, false, false, false, false, false, false] (by kernel_rfl) rfl rfl ⟨(hZ HRow.out.drew), (hZ (Below.refl wr.drew.heap.size wr.drew))⟩ (fun hHeld => ?_);refine with_tabW insE.tab4 insE.bits4 (fun HT_ HW_ => ?_);have hwb : Hid (Below wr.heap.size wr wr.drew) := hZ ⟨rfl, rfl, rfl, Nat.le_refl _, fun _ _ => rfl⟩;generalize hwd : wr.drew = wd at *;clear hwd;refine pst 0 (some 18) HT_ ?_;refine pst 1 (some 19) HT_ ?_;refine pst 2 (some 20) HT_ ?_;refine pst 3 (some 21) HT_ ?_;refine pure_ (i := 4) (N := some 22) (v := undef) (a' := ?_) #[true, true, true, true, true, false, false, false, false, false, false, false, false, false, false, false, false] rfl rfl (any_of HT_.out (by kernel_rfl)) (fun _ _ _ h => h) (Or.inr ⟨by rfl, rfl⟩) ?_ ?_;rotate_left
     ·simp only [Act.put, sqA, sqB, sqC, i64_w, i32_w];rfl
     refine pure_ (i := 5) (N := some 23) (v := undef) (a' := ?_) #[true, true, true, true, true, true, false, false, false, false, false, false, false, false, false, false, false] rfl rfl (any_of HT_.out (by kernel_rfl)) (fun _ _ _ h => h) (Or.inr ⟨by rfl, rfl⟩) ?_ ?_;rotate_left
     ·simp only [Act.put, sqA, sqB, sqC, i64_w, i32_w];rfl
     refine pure_ (i := 6) (N := some 24) (v := undef) (a' := ?_) #[true, true, true, true, true, true, true, false, false, false, false, false, false, false, false, false, false] rfl rfl (any_of HT_.out (by kernel_rfl)) (fun _ _ _ h => h) (Or.inr ⟨by rfl, rfl⟩) ?_ ?_;rotate_left
     ·simp only [Act.put, sqA, sqB, sqC, i64_w, i32_w];rfl
     refine pure_ (i := 7) (N := some 25) (v := undef) (a' := ?_) #[true, true, true, true, true, true, true, true, false, false, false, false, false, false, false, false, false] rfl rfl (any_of HT_.out (by kernel_rfl)) (fun _ _ _ h => h) (Or.inr ⟨by rfl, rfl⟩) ?_ ?_;rotate_left
     ·simp only [Act.put, sqA, sqB, sqC, i64_w, i32_w];rfl
     refine pure_ (i := 8) (N := some 26) (v := undef) (a' := ?_) #[true, true, true, true, true, true, true, true, true, false, false, false, false, false, false, false, false] rfl rfl (any_of HT_.out (by kernel_rfl)) (fun _ _ _ h => h) (Or.inr ⟨by rfl, rfl⟩) ?_ ?_;rotate_left
     ·simp only [Act.put, sqA, sqB, sqC, i64_w, i32_w];rfl
     refine pure_ (i := 9) (N := some 27) (v := undef) (a' := ?_) #[true, true, true, true, true, true, true, true, true, true, false, false, false, false, false, false, false] rfl rfl (any_of HT_.out (by kernel_rfl)) (fun _ _ _ h => h) (Or.inr ⟨by rfl, rfl⟩) ?_ ?_;rotate_left
     ·simp only [Act.put, sqA, sqB, sqC, i64_w, i32_w];rfl
     refine pure_ (i := 10) (N := some 28) (v := undef) (a' := ?_) #[true, true, true, true, true, true, true, true, true, true, true, false, false, false, false, false, false] rfl rfl (any_of HT_.out (by kernel_rfl)) (fun _ _ _ h => h) (Or.inr ⟨by rfl, rfl⟩) ?_ ?_;rotate_left
     ·simp only [Act.put, sqA, sqB, sqC, i64_w, i32_w];rfl
     refine pure_ (i := 11) (N := some 29) (v := undef) (a' := ?_) #[true, true, true, true, true, true, true, true, true, true, true, true, false, false, false, false, false] rfl rfl (any_of HT_.out (by kernel_rfl)) (fun _ _ _ h => h) (Or.inr ⟨by rfl, rfl⟩) ?_ ?_;rotate_left
     ·simp only [Act.put, sqA, sqB, sqC, i64_w, i32_w];rfl
     refine pure_ (i := 12) (N := some 30) (v := undef) (a' := ?_) #[true, true, true, true, true, true, true, true, true, true, true, true, true, false, false, false, false] rfl rfl (any_of HT_.out (by kernel_rfl)) (fun _ _ _ h => h) (Or.inr ⟨by rfl, rfl⟩) ?_ ?_;rotate_left
     ·simp only [Act.put, sqA, sqB, sqC, i64_w, i32_w];rfl
     refine pure_ (i := 13) (N := some 31) (v := undef) (a' := ?_) #[true, true, true, true, true, true, true, true, true, true, true, true, true, true, false, false, false] rfl rfl (any_of HT_.out (by kernel_rfl)) (fun _ _ _ h => h) (Or.inr ⟨by rfl, rfl⟩) ?_ ?_;rotate_left
     ·simp only [Act.put, sqA, sqB, sqC, i64_w, i32_w];rfl
     refine pure_ (i := 14) (N := some 32) (v := undef) (a' := ?_) #[true, true, true, true, true, true, true, true, true, true, true, true, true, true, true, false, false] rfl rfl (any_of HT_.out (by kernel_rfl)) (fun _ _ _ h => h) (Or.inr ⟨by rfl, rfl⟩) ?_ ?_;rotate_left
     ·simp only [Act.put, sqA, sqB, sqC, i64_w, i32_w];rfl
     refine pure_ (i := 15) (N := some 33) (v := undef) (a' := ?_) #[true, true, true, true, true, true, true, true, true, true, true, true, true, true, true, true, false] rfl rfl (any_of HT_.out (by kernel_rfl)) (fun _ _ _ h => h) (Or.inr ⟨by rfl, rfl⟩) ?_ ?_;rotate_left
     ·simp only [Act.put, sqA, sqB, sqC, i64_w, i32_w];rfl
     refine pst 16 (some 34) HT_ ?_;refine done_ (done_of HT_.out (by kernel_rfl)) ?_;have HRF := hZ (hHeld.1.out);have HTF := hZ (HT.out.trans (Turn.of_below _ (show Below wr.heap.size wr wd from hwb.out)));clear hHeld;go_wp2;go_roundw
     case rel => exact ⟨i + 1, es2, by go_num, by omega, by omega, HP, HZ, HRF, HTF⟩
     case measure => simp [intOf]; omega
    ·obtain ⟨k, rfl⟩ : ∃ k, j = k + 1 := ⟨j - 1, by omega⟩;rw [show ((k + 1 : Nat) : Int) = (k : Int) + 1 from by omega];have hk1 : k + 1 < es2.length := by omega
     have hk0 : k < es2.length := by omega
     have b0 : (0 : Int) <= (k : Int) := by omega
     have b1 : (0 : Int) <= (k : Int) + 1 := by omega
     have b2 : (k : Int) + 1 < (es.length : Int) := by omega
     have b3 : (k : Int) < (es.length : Int) := by omega
     have t1 : ((k : Int) + 1).toNat = k + 1 := by omega
     have u1 : IntKind.i64.wrap ((k : Int) + 1 - 1) = (k : Int) := by rw [IntKind.wrap_i64]; omega
     have u2 : IntKind.i64.wrap (k : Int) = (k : Int) := by rw [IntKind.wrap_i64]; omega
     have hgb : decide (0 < (k : Int) + 1) = true := by first | (simp; done) | (simp; omega)
     clear hj0;by_cases hlt : (atE es2 (k + 1)).lt (atE es2 k)
     ·have hrb : decide (orderI (atE es2 (k + 1)) (atE es2 k) < 0) = true := decide_eq_true ((orderI_neg _ _).2 hlt);have HLT := hZ hlt;clear hlt
      go_upto_region 4 with fail
      refine start_ (n := 17) (S := fun w' => Hid (RowAt w' g 0 3 176 (es2.map Ent.cells)) /\ Hid (Below wr.drew.heap.size wr.drew w')) (ds := []) #[false, false, false, false, false, false, false, false, false, false, false, false, false, false, false, false, false] (by kernel_rfl) rfl rfl ⟨(hZ HRow.out.drew), (hZ (Below.refl wr.drew.heap.size wr.drew))⟩ (fun hHeld => ?_);refine with_tabW insE.tab4 insE.bits4 (fun HT_ HW_ => ?_);have hwb : Hid (Below wr.heap.size wr wr.drew) := hZ ⟨rfl, rfl, rfl, Nat.le_refl _, fun _ _ => rfl⟩;generalize hwd : wr.drew = wd at *;clear hwd;refine pst 0 (some 18) HT_ ?_;refine pst 1 (some 19) HT_ ?_;refine pst 2 (some 20) HT_ ?_;refine pst 3 (some 21) HT_ ?_;refine pst 4 (some 22) HT_ ?_;refine pst 5 (some 23) HT_ ?_;refine pst 6 (some 24) HT_ ?_;refine pst 7 (some 25) HT_ ?_;refine pst 9 (some 27) HT_ ?_;refine pst 10 (some 28) HT_ ?_;refine pst 11 (some 29) HT_ ?_;refine pst 12 (some 30) HT_ ?_;refine tst 8 (some 26) HT_ HW_ hHeld ?_ (hy := by (rintro w' ⟨s0, s1⟩; obtain ⟨e0, e1, e2⟩ := ent_cells s0.out hk1; obtain ⟨e3, e4, e5⟩ := ent_cells s0.out hk0; clear s0 s1); go_simp; with_reducible rfl);refine tst 13 (some 31) HT_ HW_ hHeld ?_ (hy := by (rintro w' ⟨s0, s1⟩; obtain ⟨e0, e1, e2⟩ := ent_cells s0.out hk1; obtain ⟨e3, e4, e5⟩ := ent_cells s0.out hk0; clear s0 s1); go_simp; with_reducible rfl);refine one_ (i := 14) (N := some 32) #[true, true, true, true, true, true, true, true, true, true, true, true, true, true, true, false, false] rfl rfl (one_of HT_.out (by kernel_rfl)) (by decide) (fun K hK => ?_);refine goesV_ Tryz.func130 (by kernel_rfl) rfl #[.agg #[.int .i64 (atE es2 (k + 1)).id, .int .i64 (atE es2 (k + 1)).due, .bool (atE es2 (k + 1)).fixed], .agg #[.int .i64 (atE es2 k).id, .int .i64 (atE es2 k).due, .bool (atE es2 k).fixed]] (by rfl) rfl rfl rfl (by simp only [List.map_toArray, List.map_cons, List.map_nil]; rfl) ?_;with_reducible refine (order1_calls (atE es2 (k + 1)) (atE es2 k) _).mono ?_;rintro e w4 ⟨rfl, hb⟩;refine ⟨_, rfl, ?_⟩;refine hK.out _ _ ⟨(hZ (hHeld.1.out.below hb)), (hZ (hHeld.2.out.trans (hb.mono hHeld.2.out.size)))⟩ (fun hHeld => ?_);clear hK K;refine norm_ (a' := ?_) ?_ ?_;rotate_left
      ·show Act.put _ (some 32) _ = _;simp only [Act.put, sqA, sqB, sqC, i64_w, i32_w];rfl
      refine pst 15 (some 33) HT_ ?_;refine pst 16 (some 34) HT_ ?_;refine done_ (done_of HT_.out (by kernel_rfl)) ?_;have HRow2 := hZ hHeld.1.out;have HT2 := hZ (HT.out.trans (Turn.of_below _ (show Below wr.heap.size wr w4 from hwb.out.trans (hHeld.2.out.mono hwb.out.size))));clear hHeld
      go_upto_region 6 with fail
      refine start_ (n := 18) (S := fun w' => Hid (RowAt w' g 0 3 176 (es2.map Ent.cells))) (ds := [15, 17]) #[false, false, false, false, false, false, false, false, false, false, false, false, false, false, false, false, false, false] (by kernel_rfl) rfl rfl ((hZ HRow2.out.drew)) (fun hHeld => ?_);refine with_tabW insE.tab6 insE.bits6 (fun HT_ HW_ => ?_);have hwd2 : Hid (Turn w4 w4.drew (fun b => b = g)) := hZ (Turn.refl _ _).drew;generalize hwd : w4.drew = wd2 at *;clear hwd;refine pst 0 (some 37) HT_ ?_;refine pst 1 (some 38) HT_ ?_;refine pst 2 (some 39) HT_ ?_;refine pst 3 (some 40) HT_ ?_;refine pst 4 (some 41) HT_ ?_;refine pst 5 (some 42) HT_ ?_;refine pst 6 (some 43) HT_ ?_;refine pst 7 (some 44) HT_ ?_;refine pst 8 (some 45) HT_ ?_;refine pst 10 (some 47) HT_ ?_;refine pst 11 (some 48) HT_ ?_;refine pst 12 (some 49) HT_ ?_;refine tst 9 (some 46) HT_ HW_ hHeld ?_ (hy := by (intro w' s0; obtain ⟨e0, e1, e2⟩ := ent_cells s0.out hk1; obtain ⟨e3, e4, e5⟩ := ent_cells s0.out hk0; clear s0); go_simp; with_reducible rfl);refine tst 13 (some 50) HT_ HW_ hHeld ?_ (hy := by (intro w' s0; obtain ⟨e0, e1, e2⟩ := ent_cells s0.out hk1; obtain ⟨e3, e4, e5⟩ := ent_cells s0.out hk0; clear s0); go_simp; with_reducible rfl);refine pst 14 (some 51) HT_ ?_;refine last_ (i := 15) (N := none) #[true, true, true, true, true, true, true, true, true, true, true, true, true, true, true, true, false, false] rfl rfl (one_of HT_.out (by kernel_rfl)) (by decide) (fun K hK => ?_);obtain ⟨e0, e1, e2⟩ := ent_cells hHeld.out hk1;have hz := fun o => hHeld.out.free o
      refine skip_ (w1 := ?_) (by rfl) rfl ?_ ?_;rotate_left
      ·go_simp;rfl
      have RA := hZ (row_set3 hHeld.out (by simpa using hk1) (.int .i64 (atE es2 k).id) (.int .i64 (atE es2 k).due) (.bool (atE es2 k).fixed));have TA := hZ (turn_set3 g ((k + 1) * 3) _ (Turn.refl wd2 (fun b => b = g)) rfl (.int .i64 (atE es2 k).id) (.int .i64 (atE es2 k).due) (.bool (atE es2 k).fixed));clear e0 e1 e2 hz;refine hK.out _ _ ?_;clear hK K;refine pst 16 (some 52) HT_ ?_;refine last_ (i := 17) (N := none) #[true, true, true, true, true, true, true, true, true, true, true, true, true, true, true, true, true, true] rfl rfl (one_of HT_.out (by kernel_rfl)) (by decide) (fun K hK => ?_);generalize hw2 : World.setCell _ _ _ = w2 at *;clear hw2;obtain ⟨e3, e4, e5⟩ := raw_cells RA.out (k := k) (by simpa using hk0) (by rw [set_get_ne (by omega)]; exact cells_at hk0);have hz := fun o => RA.out.free o
      refine skip_ (w1 := ?_) (by rfl) rfl ?_ ?_;rotate_left
      ·go_simp;rfl
      have RB := hZ (row_set3 RA.out (k := k) (by simpa using hk0) (.int .i64 (atE es2 (k + 1)).id) (.int .i64 (atE es2 (k + 1)).due) (.bool (atE es2 (k + 1)).fixed));have TB := hZ (turn_set3 g (k * 3) _ TA.out rfl (.int .i64 (atE es2 (k + 1)).id) (.int .i64 (atE es2 (k + 1)).due) (.bool (atE es2 (k + 1)).fixed));clear e3 e4 e5 hz;refine hK.out _ _ ?_;clear hK K;refine done_ (done_of HT_.out (by kernel_rfl)) ?_;have HRow3 : Hid (RowAt _ g 0 3 176 ((sw es2 k).map Ent.cells)) := hZ (by rw [cells_sw]; exact RB.out);have HT3 := hZ ((HT2.out.trans (show Turn w4 wd2 (fun b => b = g) from hwd2.out)).trans TB.out);have HO3 := hZ (HO.out.swap hk1 hj HLT.out);have HP3 := hZ ((sw_perm hk1).trans HP.out);clear RA TA RB TB hHeld;go_wp2;go_roundw
      case rel => exact ⟨k, sw es2 k, by go_num, by omega, HP3, HO3, HRow3, HT3⟩
      case measure => first | (simp [intOf]; done) | (simp [intOf]; omega)
     ·have hrb : decide (orderI (atE es2 (k + 1)) (atE es2 k) < 0) = false := decide_eq_false (fun h => hlt ((orderI_neg _ _).1 h));have HZ := hZ (HO.out.stop (show (atE es2 k).le (atE es2 (k + 1)) from hlt));clear hlt
      go_upto_region 4 with fail
      refine start_ (n := 17) (S := fun w' => Hid (RowAt w' g 0 3 176 (es2.map Ent.cells)) /\ Hid (Below wr.drew.heap.size wr.drew w')) (ds := []) #[false, false, false, false, false, false, false, false, false, false, false, false, false, false, false, false, false] (by kernel_rfl) rfl rfl ⟨(hZ HRow.out.drew), (hZ (Below.refl wr.drew.heap.size wr.drew))⟩ (fun hHeld => ?_);refine with_tabW insE.tab4 insE.bits4 (fun HT_ HW_ => ?_);have hwb : Hid (Below wr.heap.size wr wr.drew) := hZ ⟨rfl, rfl, rfl, Nat.le_refl _, fun _ _ => rfl⟩;generalize hwd : wr.drew = wd at *;clear hwd;refine pst 0 (some 18) HT_ ?_;refine pst 1 (some 19) HT_ ?_;refine pst 2 (some 20) HT_ ?_;refine pst 3 (some 21) HT_ ?_;refine pst 4 (some 22) HT_ ?_;refine pst 5 (some 23) HT_ ?_;refine pst 6 (some 24) HT_ ?_;refine pst 7 (some 25) HT_ ?_;refine pst 9 (some 27) HT_ ?_;refine pst 10 (some 28) HT_ ?_;refine pst 11 (some 29) HT_ ?_;refine pst 12 (some 30) HT_ ?_;refine tst 8 (some 26) HT_ HW_ hHeld ?_ (hy := by (rintro w' ⟨s0, s1⟩; obtain ⟨e0, e1, e2⟩ := ent_cells s0.out hk1; obtain ⟨e3, e4, e5⟩ := ent_cells s0.out hk0; clear s0 s1); go_simp; with_reducible rfl);refine tst 13 (some 31) HT_ HW_ hHeld ?_ (hy := by (rintro w' ⟨s0, s1⟩; obtain ⟨e0, e1, e2⟩ := ent_cells s0.out hk1; obtain ⟨e3, e4, e5⟩ := ent_cells s0.out hk0; clear s0 s1); go_simp; with_reducible rfl);refine one_ (i := 14) (N := some 32) #[true, true, true, true, true, true, true, true, true, true, true, true, true, true, true, false, false] rfl rfl (one_of HT_.out (by kernel_rfl)) (by decide) (fun K hK => ?_);refine goesV_ Tryz.func130 (by kernel_rfl) rfl #[.agg #[.int .i64 (atE es2 (k + 1)).id, .int .i64 (atE es2 (k + 1)).due, .bool (atE es2 (k + 1)).fixed], .agg #[.int .i64 (atE es2 k).id, .int .i64 (atE es2 k).due, .bool (atE es2 k).fixed]] (by rfl) rfl rfl rfl (by simp only [List.map_toArray, List.map_cons, List.map_nil]; rfl) ?_;with_reducible refine (order1_calls (atE es2 (k + 1)) (atE es2 k) _).mono ?_;rintro e w4 ⟨rfl, hb⟩;refine ⟨_, rfl, ?_⟩;refine hK.out _ _ ⟨(hZ (hHeld.1.out.below hb)), (hZ (hHeld.2.out.trans (hb.mono hHeld.2.out.size)))⟩ (fun hHeld => ?_);clear hK K;refine norm_ (a' := ?_) ?_ ?_;rotate_left
      ·show Act.put _ (some 32) _ = _;simp only [Act.put, sqA, sqB, sqC, i64_w, i32_w];rfl
      refine pst 15 (some 33) HT_ ?_;refine pst 16 (some 34) HT_ ?_;refine done_ (done_of HT_.out (by kernel_rfl)) ?_;have HRow2 := hZ hHeld.1.out;have HT2 := hZ (HT.out.trans (Turn.of_below _ (show Below wr.heap.size wr w4 from hwb.out.trans (hHeld.2.out.mono hwb.out.size))));clear hHeld;go_wp2;go_roundw
      case rel => exact ⟨i + 1, es2, by go_num, by omega, by omega, HP, HZ, HRow2, HT2⟩
      case measure => first | (simp [intOf]; done) | (simp [intOf]; omega)
  ·have HZ : Hid (Srt e1 e1.length) := hZ (fun a b h1 h2 => HS.out a b h1 (by have := HP.out.length_eq; omega));go_wp2;go_end0;exact ⟨rfl, e1, HP.out, HZ.out, HRow1.out, HT.out⟩
end Go.Proofs.YtfimkmlgnmaopaaGreat.Top
namespace Go.Proofs.YtfimkmlgnmaopaaGreat.Top
open Go.RowKit Go.Proofs.YtfimkmlgnmaopaaGreatW.PrintWords Go.Proofs.YtfimkmlgnmaopaaGreatW.PrintLast Go.Proofs.YtfimkmlgnmaopaaGreatW.PrintMore Go.Proofs.YtfimkmlgnmaopaaGreat.PTopNames
set_option linter.unusedVariables false
theorem pdq_calls (g c : Nat) (es : List Ent) (lim : Int) (w : World) (hR : RowAt w g 0 3 176 (es.map Ent.cells)) (hl : es.length <= 12) (hc : es.length <= c) :
  Calls Tryz.prog 149 #[.slice (some ⟨g, 0, none⟩) es.length c, .int .i64 0, .int .i64 es.length, .int .i64 lim, .func (.func 130) #[] #[]] w fun e w' => e = .returned (.tuple #[]) /\ ∃ es' : List Ent, es'.Perm es /\ Srt es' es'.length /\ RowAt w' g 0 3 176 (es'.map Ent.cells) /\ Turn w w' (fun b => b = g) := by
 have D := ins_calls g c es w hR (by omega) hc;clear hR;go_enter Tryz.func149, Tryz.ntmps149;go_wp2;refine wp_loop_rounds 1 ?_;rw [rounds_succ]
 go_wp2_with (go_at_call 159; (with_reducible refine D.mono ?_); rintro e w' ⟨rfl, hP⟩)
 refine bodyPost_ret (results_none rfl _ _ _) rfl ?_;exact ⟨rfl, hP⟩
theorem len_calls (n : Nat) (w : World) (h : n <= 12) : Calls Tryz.prog 118 #[.int .u64 n] w fun e w' => (∃ v : Int, e = .returned (.int .i64 v)) /\ w = w' := by
 have hn : n = 0 \/ n = 1 \/ n = 2 \/ n = 3 \/ n = 4 \/ n = 5 \/ n = 6 \/ n = 7 \/ n = 8 \/ n = 9 \/ n = 10 \/ n = 11 \/ n = 12 := by omega
 rcases hn with rfl | rfl | rfl | rfl | rfl | rfl | rfl | rfl | rfl | rfl | rfl | rfl | rfl
 all_goals
  go_enter Tryz.func118, Tryz.ntmps118;go_wp2;go_ret;exact ⟨⟨_, rfl⟩, rfl⟩
theorem RowAt.C {w : World} {g sz : Nat} {T : TypeId} {xs : List (List Value)} (h : RowAt w g 0 sz T xs) (hn : xs.length <= 9223372036854775807) (h1 : ∀ x ∈ xs, ∀ u ∈ x, u.oneCell' = true) : (Kd.raw sz).C w (some ⟨g, 0, none⟩) xs.length xs := by
 refine ⟨rfl, hn, fun _ => ⟨_, rfl, fun j p hp => ?_⟩⟩;obtain ⟨hj, rfl⟩ := List.getElem?_eq_some_iff.mp hp;have hl := h.1 _ (List.getElem_mem hj);refine ⟨xs[j], hl, ?_, fun i u hu => ?_⟩
 ·exact ⟨rfl, hl, h1 _ (List.getElem_mem hj)⟩
 ·have hi : i < sz := by rw [<- hl]; exact (List.getElem?_eq_some_iff.mp hu).1
  have := h.cell hj hi hu;rw [Nat.zero_add] at this
  have e : (⟨g, 0, none⟩ : Addr).add (j * (Kd.raw sz).sz + i) = ⟨g, j * sz + i, none⟩ := by
   show (⟨g, 0, none⟩ : Addr).add (j * sz + i) = ⟨g, j * sz + i, none⟩;generalize j * sz + i = q
   cases q with
   | zero => rfl
   | succ q => simp [Addr.add]
  rw [e];exact this
theorem sortFunc_calls (g c : Nat) (es : List Ent) (w : World) (hR : RowAt w g 0 3 176 (es.map Ent.cells)) (hl : es.length <= 12) (hc : es.length <= c) :
  Calls Tryz.prog 129 #[.slice (some ⟨g, 0, none⟩) es.length c, .func (.func 130) #[] #[]] w fun e w' => e = .returned (.tuple #[]) /\ ∃ es' : List Ent, es'.Perm es /\ Srt es' es'.length /\ RowAt w' g 0 3 176 (es'.map Ent.cells) /\ Turn w w' (fun b => b = g) := by
 have D0 := fun (w : World) => len_calls es.length w hl
 have D := fun lim => pdq_calls g c es lim w hR hl hc
 clear hR;go_enter Tryz.func129, Tryz.ntmps129
 go_wp2_with (first
  | (go_at_call 118; (with_reducible refine (D0 _).mono ?_); rintro e w' ⟨⟨v, rfl⟩, rfl⟩)
  | (go_at_call 149; (with_reducible refine (D _).mono ?_); rintro e w' ⟨rfl, hP⟩))
 go_end0;exact ⟨rfl, hP⟩
theorem ins0_calls (A : Option Addr) (c : Nat) (w : World) :
  Calls Tryz.prog 159 #[.slice A 0 c, .int .i64 0, .int .i64 0, .func (.func 130) #[] #[]] w fun e w' => e = .returned (.tuple #[]) /\ w = w' := by
 go_enter Tryz.func159, Tryz.ntmps159;go_wp2;refine wp_loop_rounds 1 ?_;rw [rounds_succ];go_wp2;go_end0;exact ⟨rfl, rfl⟩
theorem pdq0_calls (A : Option Addr) (c : Nat) (lim : Int) (w : World) :
  Calls Tryz.prog 149 #[.slice A 0 c, .int .i64 0, .int .i64 0, .int .i64 lim, .func (.func 130) #[] #[]] w fun e w' => e = .returned (.tuple #[]) /\ w = w' := by
 have D := ins0_calls A c w;go_enter Tryz.func149, Tryz.ntmps149;go_wp2;refine wp_loop_rounds 1 ?_;rw [rounds_succ]
 go_wp2_with (go_at_call 159; (with_reducible refine D.mono ?_); rintro e w' ⟨rfl, rfl⟩)
 refine bodyPost_ret (results_none rfl _ _ _) rfl ?_;exact ⟨rfl, rfl⟩
theorem sort0_calls (A : Option Addr) (c : Nat) (w : World) :
  Calls Tryz.prog 129 #[.slice A 0 c, .func (.func 130) #[] #[]] w fun e w' => e = .returned (.tuple #[]) /\ w = w' := by
 have D0 : ∀ (w : World), Calls Tryz.prog 118 #[.int .u64 0] w fun e w' => (∃ v : Int, e = .returned (.int .i64 v)) /\ w = w' := fun (w : World) => len_calls 0 w (by omega)
 have D := fun lim => pdq0_calls A c lim w
 go_enter Tryz.func129, Tryz.ntmps129
 go_wp2_with (first
  | (go_at_call 118; (with_reducible refine (D0 _).mono ?_); rintro e w' ⟨⟨v, rfl⟩, rfl⟩)
  | (go_at_call 149; (with_reducible refine (D _).mono ?_); rintro e w' ⟨rfl, rfl⟩))
 go_end0;exact ⟨rfl, rfl⟩
/-- the sort, for every own row. -/
theorem sort_calls (base : Nat) (ok : Nat -> Prop) (v : Value) (es : List Ent) (w : World) (hr : (Kd.raw 3).R 176 w base ok v (es.map Ent.cells)) (hl : es.length <= 12) :
  Calls Tryz.prog 129 #[v, .func (.func 130) #[] #[]] w fun e w' => e = .returned (.tuple #[]) /\ ∃ es' : List Ent, es'.Perm es /\ Srt es' es'.length /\ (∃ A c, v = .slice A es'.length c /\ es'.length <= c /\ (Kd.raw 3).C w' A es'.length (es'.map Ent.cells)) /\ Turn w w' (fun b => base <= b) := by
 by_cases h0 : es.length = 0
 ·have hes : es = [] := List.eq_nil_of_length_eq_zero h0;subst hes;obtain ⟨A, c, rfl, hc, hC⟩ := Kd.R_reads hr;refine (sort0_calls A c w).mono ?_;rintro e w' ⟨rfl, rfl⟩;exact ⟨rfl, [], List.Perm.refl _, fun a b h1 h2 => by simp at h2, ⟨A, c, rfl, hc, hC⟩, Turn.refl _ _⟩
 ·obtain ⟨g, cap, rfl, hc, hm, hb, hok, hR⟩ := row_of_R hr (by simp; omega);simp only [List.length_map] at hc |-;refine (sortFunc_calls g cap es w hR hl hc).mono ?_;rintro e w' ⟨rfl, es', hP, hS, hR', hT⟩;refine ⟨rfl, es', hP, hS, ⟨some ⟨g, 0, none⟩, cap, by rw [hP.length_eq], by rw [hP.length_eq]; exact hc, ?_⟩, hT.imp (fun b h => by subst h; exact hb)⟩
  have := RowAt.C hR' (by simp [hP.length_eq]; try omega) (fun x hx u hu => by
   obtain ⟨y, _, rfl⟩ := List.mem_map.mp hx;simp only [Ent.cells, List.mem_cons, List.not_mem_nil, or_false] at hu;rcases hu with rfl | rfl | rfl <;> rfl)
  simpa using this
theorem order_calls (A : Option Addr) (c : Nat) (es : List Ent) (w : World) (hr : (Kd.raw 3).C w A es.length (es.map Ent.cells)) (hl : es.length <= 12) :
  Calls Tryz.prog 116 #[.slice A es.length c] w fun e w' => ∃ (es' : List Ent) (A' : Option Addr) (c' : Nat), e = .returned (.slice A' es'.length c') /\ es'.length <= c' /\ es'.Perm es /\ Srt es' es'.length /\ (Kd.raw 3).C w' A' es'.length (es'.map Ent.cells) /\ Below w.heap.size w w' := by
 have D := clone176 A es.length c _ w hr (by omega);clear hr;go_enter Tryz.func116, Tryz.ntmps116
 go_wp2_with (first
  | (go_at_call 128; (with_reducible refine D.mono ?_); rintro e w1 ⟨v, rfl, hR1, hB1⟩; have HR1 := hZ hR1; have HB1 := hZ hB1; clear hR1 hB1)
  | (go_at_call 129; (with_reducible refine (sort_calls _ _ v es _ HR1.out hl).mono ?_); rintro e w2 ⟨rfl, es', hP, hS, ⟨A', c', rfl, hc', hC'⟩, hT⟩; have HP := hZ hP; have HS := hZ hS; have HC := hZ hC'; have HT := hZ hT; clear hP hS hC' hT))
 go_ret;exact ⟨es', A', c', rfl, hc', HP.out, HS.out, HC.out, Turn.below HB1.out HT.out (fun _ h => h) HB1.out.size⟩
end Go.Proofs.YtfimkmlgnmaopaaGreat.Top
namespace Go.Proofs.YtfimkmlgnmaopaaGreat.Top
open Go.RowKit Go.Maps Go.Proofs.YtfimkmlgnmaopaaGreatW.PrintWords Go.Proofs.YtfimkmlgnmaopaaGreatW.PrintLast Go.Proofs.YtfimkmlgnmaopaaGreatW.PrintMore Go.Proofs.YtfimkmlgnmaopaaGreat.PTopNames
set_option linter.unusedVariables false
theorem law3 : Keyed Tryz.prog 3 := int_keyed Tryz.underlying3
theorem zero4 (w : World) : (zeroValue 4).run Tryz.prog w = .ok (.bool false) w := by kernel_rfl
structure SetIs (D : DataW Unit) (q : List Int) : Prop where
 tidy : Tidy D
 has : ∀ x : Int, Maps.has D (.int .i64 x) = decide (x ∈ q)
theorem SetIs.nil : SetIs (.map []) [] := ⟨tidy_empty, fun _ => by simp [Maps.has]⟩
theorem key64_ne {x y : Int} (h : x ≠ y) : Lit.int .i64 x ≠ Lit.int .i64 y := fun e => h (by injection e)
theorem SetIs.put {D : DataW Unit} {q : List Int} (h : SetIs D q) (x : Int) : SetIs (D.put (.int .i64 x) (.lit (.bool true))) (q ++ [x]) := by
 have hk : WideAt.IsKeyLit (.int .i64 x) := trivial;refine ⟨h.tidy.put hk _, fun y => ?_⟩;by_cases e : y = x
 ·subst e; rw [has_put_same h.tidy.isMap hk]; simp
 ·rw [has_put_other (key64_ne e), h.has]; simp [e]
theorem plainElem_bool_inv {v : Value} {b : Bool} {ps : List MemPlace} (h : plainElem Tryz.prog 4 v = some ((.lit (.bool b) : DataW Unit), ps)) : v = .bool b := by
 unfold plainElem at h;rw [Tryz.underlying4] at h
 cases v <;> simp at h
 rw [h.1]
theorem look_new {w : World} {m n : Nat} {D : DataW Unit} {q : List Int} (h : w.ownsMap Tryz.prog 3 (plainElem Tryz.prog 4) m n D) (hD : SetIs D q) {x : Int} (hx : x ∉ q) (hw : (Lit.int .i64 x).wf = true) :
  (Instr.lookup 223 (.map (some m)) (.int .i64 x) false).run Tryz.prog w = .ok (.bool false) w := by
 obtain ⟨v, ps, hrun, hv⟩ := h.lookup law3 Tryz.underlying223 (zero4 w) (plainElem_bool Tryz.underlying4 false) (keyOf_int_mk Tryz.underlying3 hw);rw [atKey_of_not_has (by rw [hD.has]; simp [hx])] at hv;rw [hrun, plainElem_bool_inv hv]
theorem owns_same {w w1 : World} {m n : Nat} {D : DataW Unit} (h : w.ownsMap Tryz.prog 3 (plainElem Tryz.prog 4) m n D) (hb : w1.heap[m]? = w.heap[m]?) : w1.ownsMap Tryz.prog 3 (plainElem Tryz.prog 4) m n D := by
 obtain ⟨es, clock, h1, rest⟩ := h;exact ⟨es, clock, by rw [hb]; exact h1, rest⟩
theorem addr_next (ad : Addr) (q j : Nat) : ad.add (q + (j + 1)) = ⟨(ad.add q).block, (ad.add q).off + (j + 1), none⟩ := by
 cases q with
 | zero => simp [Addr.add]
 | succ q => simp [Addr.add, Nat.add_assoc]
theorem ent_at {w : World} {A : Option Addr} {es : List Ent} (h : (Kd.raw 3).C w A es.length (es.map Ent.cells)) {k : Nat} (hk : k < es.length) :
  ∃ ad, A = some ad /\ w.cell? (ad.add (k * 3)) = some (.int .i64 (atE es k).id) /\ w.cell? ⟨(ad.add (k * 3)).block, (ad.add (k * 3)).off + 1, none⟩ = some (.int .i64 (atE es k).due) /\ w.cell? ⟨(ad.add (k * 3)).block, (ad.add (k * 3)).off + 2, none⟩ = some (.bool (atE es k).fixed) := by
 obtain ⟨ad, rfl, hc⟩ := h.2.2 (by omega)
 obtain ⟨cs, hl, hK, hcell⟩ := hc k (atE es k).cells (by
  rw [List.getElem?_map, List.getElem?_eq_getElem hk];simp [atE, List.getD_eq_getElem?_getD, List.getElem?_eq_getElem hk])
 have e : cs = (atE es k).cells := by first | exact hK.1 | exact hK.1.symm
 subst e;refine ⟨ad, rfl, ?_, ?_, ?_⟩
 ·exact hcell 0 _ rfl
 ·rw [<- addr_next ad (k * 3) 0]; exact hcell 1 _ rfl
 ·rw [<- addr_next ad (k * 3) 1]; exact hcell 2 _ rfl
theorem Turn.map {w w2 : World} {m : Nat} (ht : w.mapTurned w2 m) : Turn w w2 (fun b => b = m) := by
 obtain ⟨es, clock, es', clock', hb, rfl⟩ := ht;refine ⟨rfl, rfl, rfl, by simp [ChangeMaps.setBlock], fun k hk hne => ?_⟩;simp only [ChangeMaps.setBlock, Array.getElem?_setIfInBounds];rw [if_neg (fun e => hne e.symm)]
theorem cell_new3 {w w6 : World} {m : Nat} {x y z : Value} {t : TypeId} (h : Turn (w.alloc (.cells #[x, y, z] t)) w6 (fun b => b = m)) (hm : m < w.heap.size) : w6.cell? ⟨w.heap.size, 2, none⟩ = some z := by
 have hb := h.block w.heap.size (by simp) (by omega)
 have hn : (w.alloc (.cells #[x, y, z] t)).heap[w.heap.size]? = some (.cells #[x, y, z] t) := by
  show (w.heap.push _)[w.heap.size]? = _;rw [Array.getElem?_push_size]
 simp only [World.cell?, hb, hn];rfl
theorem take_id {l : List Ent} {i : Nat} (h : i < l.length) : (l.take i).map Ent.id ++ [(atE l i).id] = (l.take (i + 1)).map Ent.id := by
 rw [List.take_succ_eq_append_getElem h, List.map_append];simp [atE, List.getD_eq_getElem?_getD, List.getElem?_eq_getElem h]
def fixes : List Ent -> Nat
 | [] => 0
 | x :: r => (if x.fixed then 1 else 0) + fixes r
theorem fixes_le : ∀ (l : List Ent), fixes l <= l.length
 | [] => Nat.le_refl _
 | x :: r => by
  have := fixes_le r;simp only [fixes, List.length_cons];split <;> omega
theorem fixes_take {l : List Ent} {i : Nat} (h : i < l.length) : fixes (l.take (i + 1)) = fixes (l.take i) + (if (atE l i).fixed then 1 else 0) := by
 induction l generalizing i with
 | nil => simp at h
 | cons x r ih =>
  cases i with
  | zero => simp [fixes, atE]
  | succ i =>
   simp only [List.take_succ_cons, fixes];have := ih (i := i) (by simpa using h);have e : atE (x :: r) (i + 1) = atE r i := by simp [atE]
   rw [e, this];omega
theorem good_calls (n : Int) (A : Option Addr) (c : Nat) (es : List Ent) (w : World) (hr : (Kd.raw 3).C w A es.length (es.map Ent.cells)) (hl : es.length <= 12) (hn : 1 <= n /\ n <= 64) (hid : ∀ k, k < es.length -> 0 <= (atE es k).id /\ (atE es k).id < 1024) (hd : ∀ a b, a < b -> b < es.length -> (atE es a).id ≠ (atE es b).id) :
  Calls Tryz.prog 115 #[.int .i64 n, .slice A es.length c] w fun e w' => e = .returned (.bool (decide ((fixes es : Int) <= n))) /\ Below w.heap.size w w' := by
 have hmm := @run_makeMap Tryz.prog;have HR0 := hZ hr;clear hr;have a1 : decide (n < 1) = false := by simp; omega
 have a2 : decide (n > 64) = false := by simp; omega
 have a3 : decide ((es.length : Int) > 64) = false := by simp; omega
 go_enter Tryz.func115, Tryz.ntmps115;go_wp2;have HB1 : Hid (Below w.heap.size w (w.alloc (.map #[] 0))) := hZ ((Below.refl _ w).alloc (Nat.le_refl _) _);have HM1 : Hid (∃ D, SetIs D ((es.take 0).map Ent.id) /\ (w.alloc (.map #[] 0)).ownsMap Tryz.prog 3 (plainElem Tryz.prog 4) w.heap.size 0 D) := hZ ⟨_, SetIs.nil, World.ownsMap_made _ _ _ _⟩;generalize hm : w.heap.size = m at *
 go_loopw [6, 23] (fun v6 v23 wr => ∃ (i : Nat), v23 = .int .i64 i /\ v6 = .int .i64 (fixes (es.take i) : Nat) /\ i <= es.length /\ Hid (∃ D, SetIs D ((es.take i).map Ent.id) /\ wr.ownsMap Tryz.prog 3 (plainElem Tryz.prog 4) m i D) /\ Hid (Below m w wr)) (fun _ v23 _ => es.length - (intOf v23).toNat)
 case atStart => exact ⟨0, rfl, rfl, Nat.zero_le _, HM1, HB1⟩
 case round =>
  clear HM1 HB1;obtain ⟨i, rfl, rfl, hi, HM, HB⟩ := hrel;by_cases hlt : i < es.length
  ·obtain ⟨ad, rfl, b0, b1, b2⟩ := ent_at HR0.out hlt;have hlt0 : (ad.add (i * 3)).block < m := by rw [<- hm]; exact World.block_lt_of_cell? w _ b0
   have e0 := (HB.out.cell hlt0).trans b0;have e1 := (HB.out.cell (p := ⟨(ad.add (i * 3)).block, (ad.add (i * 3)).off + 1, none⟩) hlt0).trans b1;have e2 := (HB.out.cell (p := ⟨(ad.add (i * 3)).block, (ad.add (i * 3)).off + 2, none⟩) hlt0).trans b2;clear b0 b1 b2;obtain ⟨D, hD, hM⟩ := HM.out
   have hq : (atE es i).id ∉ (es.take i).map Ent.id := by
    intro hx;obtain ⟨y, hy, he⟩ := List.mem_map.mp hx;obtain ⟨k, hk, rfl⟩ := List.mem_iff_getElem.mp hy;have hk2 : k < i := by rw [List.length_take] at hk; omega
    refine hd k i hk2 hlt ?_;rw [<- he];simp [atE, List.getD_eq_getElem?_getD, List.getElem?_eq_getElem (show k < es.length by omega)]
   have hwf : (Lit.int .i64 (atE es i).id).wf = true := by
    have := hid i hlt;simp [Lit.wf, IntKind.min, IntKind.max, IntKind.signed, IntKind.bits]; omega
   have hkey := keyOf_int_mk (P := Tryz.prog) Tryz.underlying3 hwf;have g0 : decide ((atE es i).id < 0) = false := by have := hid i hlt; simp; omega
   have g1 : decide (1024 <= (atE es i).id) = false := by have := hid i hlt; simp; omega
   have hM2 : (wr.alloc (.cells #[.int .i64 (atE es i).id, .int .i64 (atE es i).due, .bool (atE es i).fixed] 176)).ownsMap Tryz.prog 3 (plainElem Tryz.prog 4) m i D := owns_same hM (((Below.refl _ wr).alloc (Nat.le_refl _) _).block m hM.lt);have hlook := look_new hM2 hD hq hwf;have hsz := hM.lt
   cases hfx : (atE es i).fixed
   ·rw [hfx] at e2 hM2 hlook
    go_wp2_with (first
     | (at_mapUpdate; refine wpList_mapUpdate_in _ rfl _ _ _ 223 rfl 3 4 law3 Tryz.underlying223 _ m i D rfl hM2 (by unfold maxLen; omega) _ _ _ rfl rfl hkey _ [] (plainElem_bool Tryz.underlying4 true) ?_; intro w6 hown6 hturn6; have hB6 := Turn.map hturn6; have hc6 : w6.cell? ⟨wr.heap.size, 2, none⟩ = some (.bool false) := cell_new3 hB6 hsz))
    have HM6 : Hid (∃ D, SetIs D ((es.take (i + 1)).map Ent.id) /\ w6.ownsMap Tryz.prog 3 (plainElem Tryz.prog 4) m (i + 1) D) := hZ ⟨_, by
     have := hD.put (atE es i).id
     rwa [take_id hlt] at this, hown6⟩
    have HB7 : Hid (Below m w w6) := hZ (Turn.below (HB.out.alloc (Nat.le_of_lt hsz) _) hB6 (fun k h => by subst h; exact Nat.le_refl _) (by simp; omega));go_roundw
    case rel => exact ⟨i + 1, by go_num, by rw [fixes_take hlt, hfx]; rfl, by omega, HM6, HB7⟩
    case measure => first | (simp [intOf]; done) | (simp [intOf]; omega)
   ·have hfi : fixes (es.take i) <= 12 := Nat.le_trans (fixes_le _) (by rw [List.length_take]; omega);have hww : IntKind.i64.wrap ((fixes (es.take i) : Int) + 1) = (fixes (es.take i) : Int) + 1 := by rw [i64_w]; unfold Go.RowKit.wrap64; omega
    rw [hfx] at e2 hM2 hlook
    go_wp2_with (first
     | (at_mapUpdate; refine wpList_mapUpdate_in _ rfl _ _ _ 223 rfl 3 4 law3 Tryz.underlying223 _ m i D rfl hM2 (by unfold maxLen; omega) _ _ _ rfl rfl hkey _ [] (plainElem_bool Tryz.underlying4 true) ?_; intro w6 hown6 hturn6; have hB6 := Turn.map hturn6; have hc6 : w6.cell? ⟨wr.heap.size, 2, none⟩ = some (.bool true) := cell_new3 hB6 hsz))
    have HM6 : Hid (∃ D, SetIs D ((es.take (i + 1)).map Ent.id) /\ w6.ownsMap Tryz.prog 3 (plainElem Tryz.prog 4) m (i + 1) D) := hZ ⟨_, by
     have := hD.put (atE es i).id
     rwa [take_id hlt] at this, hown6⟩
    have HB7 : Hid (Below m w w6) := hZ (Turn.below (HB.out.alloc (Nat.le_of_lt hsz) _) hB6 (fun k h => by subst h; exact Nat.le_refl _) (by simp; omega));go_roundw
    case rel => exact ⟨i + 1, by go_num, by rw [fixes_take hlt, hfx]; rfl, by omega, HM6, HB7⟩
    case measure => first | (simp [intOf]; done) | (simp [intOf]; omega)
  ·go_wp2;have hie : i = es.length := by omega
   subst hie;go_ret;rw [List.take_length];exact ⟨rfl, by rw [hm]; exact HB.out⟩
structure Fine (n : Int) (es : List Ent) : Prop where
 n1 : 1 <= n
 n2 : n <= 64
 len : es.length <= 12
 id : ∀ k, k < es.length -> 0 <= (atE es k).id /\ (atE es k).id < 1024
 ne : ∀ a b, a < b -> b < es.length -> (atE es a).id ≠ (atE es b).id
 fix : (fixes es : Int) <= n
theorem raw_take {w : World} {A : Option Addr} {es : List Ent} {m : Nat} (h : (Kd.raw 3).C w A es.length (es.map Ent.cells)) (hm : m <= es.length) : (Kd.raw 3).C w A (es.take m).length ((es.take m).map Ent.cells) := by
 have h1 : (Kd.raw 3).C w A (es.map Ent.cells).length (es.map Ent.cells) := by simpa using h
 have h2 := Kd.C_take h1 (m := m) (by simpa using hm);rw [<- List.map_take, List.length_map] at h2;exact h2
def SplitP (n : Int) (es : List Ent) (w : World) (e : Ending) (w' : World) : Prop := ∃ (k : Nat) (es' : List Ent) (A' : Option Addr) (c' : Nat) (rest : Value), (k : Int) = min n es.length /\ e = .returned (.tuple #[.slice A' (es'.take k).length c', rest]) /\ (es'.take k).length = k /\ es'.Perm es /\ Srt es' es'.length /\ (Kd.raw 3).C w' A' (es'.take k).length ((es'.take k).map Ent.cells) /\ Below w.heap.size w w'
theorem split_calls (n : Int) (A : Option Addr) (c : Nat) (es : List Ent) (w : World) (hr : (Kd.raw 3).C w A es.length (es.map Ent.cells)) (hf : Fine n es) :
  Calls Tryz.prog 103 #[.int .i64 n, .slice A es.length c] w fun e w' => SplitP n es w e w' := by
 have hl := hf.len;have hn1 := hf.n1;have hn2 := hf.n2;have D0 := good_calls n A c es w hr hf.len ⟨hf.n1, hf.n2⟩ hf.id hf.ne;have hfx : decide ((fixes es : Int) <= n) = true := by simpa using hf.fix
 rw [hfx] at D0;have HR := hZ hr;obtain ⟨k, hk⟩ : ∃ k : Nat, (k : Int) = min n es.length := ⟨(min n es.length).toNat, by omega⟩;have hkl : k <= es.length := by omega
 clear hr hf hfx;have hmin : min n (es.length : Int) = (k : Int) := hk.symm;clear hk;go_enter Tryz.func103, Tryz.ntmps103;rcases (show n = (k : Int) \/ (k = es.length /\ (es.length : Int) < n) by omega) with rfl | ⟨rfl, hlt⟩
 ·go_wp2_with (first
   | (go_at_call 115; (with_reducible refine D0.mono ?_); rintro e w1 ⟨rfl, hB1⟩; have HB1 := hZ hB1; have HR1 := hZ (Kd.C_below HR.out hB1); clear hB1))
  go_at_call 116; (with_reducible refine (order_calls A c es _ HR1.out hl).mono ?_); rintro e w2 ⟨es1, A1, c1, rfl, hc1, hP, hS, hC1, hB2⟩; have hle := hP.length_eq; have hkc : k <= c1 := by omega
  have hk1 : k <= es1.length := by omega
  have HP := hZ hP; have HS := hZ hS; have HC := hZ hC1; have HB2 := hZ hB2; have HLE := hZ hle;rw [<- hle] at hmin;clear hP hS hC1 hB2 hle;go_wp2;go_quiet (fail);go_wp2
  all_goals go_ret2
  all_goals (
   have hC := raw_take HC.out (m := k) hk1;have hl3 : (es1.take (k)).length = k := by rw [List.length_take]; omega
   refine ⟨k, es1, _, _, _, by rw [<- HLE.out]; exact hmin.symm, by rw [hl3]; rfl, hl3, HP.out, HS.out, Kd.C_drewN hC _, ?_⟩;exact HB1.out.trans ((HB2.out.mono HB1.out.size).trans ⟨rfl, rfl, rfl, Nat.le_refl _, fun _ _ => rfl⟩))
 ·go_wp2_with (first
   | (go_at_call 115; (with_reducible refine D0.mono ?_); rintro e w1 ⟨rfl, hB1⟩; have HB1 := hZ hB1; have HR1 := hZ (Kd.C_below HR.out hB1); clear hB1))
  go_at_call 116; (with_reducible refine (order_calls A c es _ HR1.out hl).mono ?_); rintro e w2 ⟨es1, A1, c1, rfl, hc1, hP, hS, hC1, hB2⟩; have hle := hP.length_eq; have hlt1 : (es1.length : Int) < n := by omega
  have hkc : es1.length <= c1 := by omega
  have hk1 : es1.length <= es1.length := by omega
  have HP := hZ hP; have HS := hZ hS; have HC := hZ hC1; have HB2 := hZ hB2; have HLE := hZ hle;rw [<- hle] at hmin;clear hP hS hC1 hB2 hle;go_wp2;go_quiet (fail);go_wp2
  all_goals go_ret2
  all_goals (
   have hC := raw_take HC.out (m := es1.length) hk1;have hl3 : (es1.take (es1.length)).length = es1.length := by rw [List.length_take]; omega
   refine ⟨es1.length, es1, _, _, _, by rw [<- HLE.out]; exact hmin.symm, by rw [hl3]; rfl, hl3, HP.out, HS.out, Kd.C_drewN hC _, ?_⟩;exact HB1.out.trans ((HB2.out.mono HB1.out.size).trans ⟨rfl, rfl, rfl, Nat.le_refl _, fun _ _ => rfl⟩))
end Go.Proofs.YtfimkmlgnmaopaaGreat.Top
namespace Go.Proofs.YtfimkmlgnmaopaaGreat.Top
open Go.RowKit Go.Proofs.YtfimkmlgnmaopaaGreatW.PrintWords Go.Proofs.YtfimkmlgnmaopaaGreatW.PrintLast Go.Proofs.YtfimkmlgnmaopaaGreatW.PrintMore Go.Proofs.YtfimkmlgnmaopaaGreat.PTopNames
set_option linter.unusedVariables false
set_option linter.unusedSimpArgs false
def insI.T6 : Bool × List (List Nat × List Nat) := (true, [([], []), ([], []), ([], []), ([], []), ([3], [3]), ([], []), ([], []), ([6], [6]), ([5, 7], [5, 7]), ([8], [8]), ([], []), ([], []), ([10, 11], [10, 11]), ([12], [12]), ([0, 1, 0, 1, 5, 6, 7, 8, 9, 13], [0, 1]), ([14, 9, 0, 1, 5, 6, 7, 8, 9, 13], [9, 14]), ([2, 4, 0, 1, 2, 3, 4, 5, 6, 7, 8, 9, 10, 11, 12, 13, 14, 15], [2, 4]), ([16, 13, 15, 0, 1, 2, 3, 4, 5, 6, 7, 8, 9, 10, 11, 12, 13, 14, 15], [13, 16])])
def insI.B6 : List Nat := [0, 0, 0, 0, 8, 0, 0, 64, 224, 480, 0, 0, 3072, 7168, 16355, 32739, 65535, 131071]
theorem insI.tab6 : rtab .any (opsOf Tryz.f132 6) = insI.T6 := by kernel_rfl
theorem insI.bits6 : waitsOk insI.T6.2 insI.B6 = true := by kernel_rfl
def Ent.one (a : Ent) : List Value := [.int .i64 a.id]
def Pl (es : List Ent) : Prop := ∀ k, k < es.length -> (atE es k).due = 0 /\ (atE es k).fixed = false
theorem pl_lt {a b : Ent} (ha : a.due = 0 /\ a.fixed = false) (hb : b.due = 0 /\ b.fixed = false) : a.lt b ↔ a.id < b.id := by
 unfold Ent.lt;rw [ha.1, ha.2, hb.1, hb.2];simp
theorem Pl.perm {es es2 : List Ent} (h : Pl es) (hp : es2.Perm es) : Pl es2 := by
 intro k hk
 have hm : atE es2 k ∈ es := hp.mem_iff.1 (by
  unfold atE;rw [List.getD_eq_getElem?_getD, List.getElem?_eq_getElem hk];exact List.getElem_mem hk)
 obtain ⟨j, hj, e⟩ := List.mem_iff_getElem.1 hm;have := h j hj;unfold atE at this;rw [List.getD_eq_getElem?_getD, List.getElem?_eq_getElem hj] at this;rw [<- e];exact this
theorem one_at {es : List Ent} {k : Nat} (h : k < es.length) {hh : k < (es.map Ent.one).length} : (es.map Ent.one)[k] = (atE es k).one := by
 simp [atE, h]
theorem raw_one {w : World} {g : Nat} {xs : List (List Value)} (h : RowAt w g 0 1 3 xs) {k : Nat} (hk : k < xs.length) {x : Ent} (hx : xs[k] = x.one) :
  w.cell? ⟨g, k, none⟩ = some (.int .i64 x.id) := by
 have a := h.cell hk (j := 0) (by omega) (by rw [hx]; rfl);rw [Nat.zero_add, Nat.mul_one, Nat.add_zero] at a;exact a
theorem one_cell {w : World} {g : Nat} {es : List Ent} (h : RowAt w g 0 1 3 (es.map Ent.one)) {k : Nat} (hk : k < es.length) : w.cell? ⟨g, k, none⟩ = some (.int .i64 (atE es k).id) :=
 raw_one h (by simpa using hk) (one_at hk)
theorem row_set1 {w : World} {g : Nat} {xs : List (List Value)} (h : RowAt w g 0 1 3 xs) {k : Nat} (hk : k < xs.length) (a : Value) : RowAt (w.setCell ⟨g, k, none⟩ a) g 0 1 3 (xs.set k [a]) := by
 have hl : xs[k].length = 1 := h.1 _ (List.getElem_mem hk);have h1 := h.set hk (j := 0) (by omega) a;simp only [Nat.zero_add, Nat.add_zero, Nat.mul_one] at h1
 obtain ⟨u, hx⟩ : ∃ u, xs[k] = [u] := by
  match xs[k], hl with
  | [u], _ => exact ⟨u, rfl⟩
 rw [hx] at h1;exact h1
theorem one_sw {es : List Ent} {k : Nat} : (sw es k).map Ent.one = ((es.map Ent.one).set (k + 1) (atE es k).one).set k (atE es (k + 1)).one := by
 unfold sw;rw [List.map_set, List.map_set]
theorem isnan_calls (a : Int) (w : World) : Calls Tryz.prog 93 #[.int .i64 a] w fun e w' => e = .returned (.bool false) /\ w = w' := by
 have h : (a != a) = false := by simp
 go_enter Tryz.func93, Tryz.ntmps93;go_wp2;go_ret;exact ⟨by simp, rfl⟩
theorem less_calls (a b : Int) (w : World) : Calls Tryz.prog 138 #[.int .i64 a, .int .i64 b] w fun e w' => e = .returned (.bool (decide (a < b))) /\ w = w' := by
 have D := fun w => isnan_calls a w
 go_enter Tryz.func138, Tryz.ntmps138
 go_wp2_with (go_at_call 93; (with_reducible refine (D _).mono ?_); rintro e w' ⟨rfl, rfl⟩)
 go_ret;exact ⟨rfl, rfl⟩
theorem less2_calls (a b : Int) (w : World) : Calls Tryz.prog 138 #[.int .i64 a, .int .i64 b] w fun e w' => e = .returned (.bool (decide (a < b))) /\ w' = w := (less_calls a b w).mono fun _ _ h => ⟨h.1, h.2.symm⟩
theorem insi_calls (g c : Nat) (es : List Ent) (w : World) (hR : RowAt w g 0 1 3 (es.map Ent.one)) (hpl : Pl es) (hl : es.length <= 1000) (hc : es.length <= c) :
  Calls Tryz.prog 132 #[.slice (some ⟨g, 0, none⟩) es.length c, .int .i64 0, .int .i64 es.length] w fun e w' => e = .returned (.tuple #[]) /\ ∃ es' : List Ent, es'.Perm es /\ Srt es' es'.length /\ RowAt w' g 0 1 3 (es'.map Ent.one) /\ Turn w w' (fun b => b = g) := by
 have HR0 := hZ hR;have HPl := hZ hpl;clear hR hpl;go_enter Tryz.func132, Tryz.ntmps132;go_wp2
 go_loopw [6] (fun v8 wr => ∃ (i : Nat) (e1 : List Ent), v8 = .int .i64 i /\ 1 <= i /\ (i <= es.length \/ i = 1) /\ Hid (e1.Perm es) /\ Hid (Srt e1 i) /\ Hid (RowAt wr g 0 1 3 (e1.map Ent.one)) /\ Hid (Turn w wr (fun b => b = g))) (fun v8 _ => es.length - (intOf v8).toNat)
 case atStart => exact ⟨1, es, rfl, by omega, .inr rfl, hZ (List.Perm.refl _), hZ (fun a b h1 h2 => absurd h1 (by omega)), HR0, hZ (Turn.refl _ _)⟩
 case round =>
  clear HR0;obtain ⟨i, e1, rfl, hi1, hi2, HP, HS, HRow1, HT⟩ := hrel;by_cases hin : i < es.length
  ·go_wp2;obtain ⟨wo, rfl⟩ : ∃ wo : World, wo = wr := ⟨_, rfl⟩
   go_loopw [7] (fun v9 wr => ∃ (j : Nat) (es2 : List Ent), v9 = .int .i64 j /\ j <= i /\ Hid (es2.Perm es) /\ Hid (Ord es2 i j) /\ Hid (RowAt wr g 0 1 3 (es2.map Ent.one)) /\ Hid (Turn w wr (fun b => b = g))) (fun v9 _ => (intOf v9).toNat)
   case atStart => exact ⟨i, e1, rfl, Nat.le_refl _, HP, hZ HS.out.ord, HRow1, HT⟩
   case round =>
    clear HP HS HRow1 HT;obtain ⟨j, es2, rfl, hj, HP, HO, HRow, HT⟩ := hrel;have HLen : Hid (es2.length = es.length) := hZ HP.out.length_eq;have hlen1 : es2.length <= es.length := by rw [HLen.out]; exact Nat.le_refl _
    have hlen2 : es.length <= es2.length := by rw [HLen.out]; exact Nat.le_refl _
    by_cases hj0 : j = 0
    ·have hjb : decide (0 < j) = false := by simp [hj0]
     have HZ := hZ (show Srt es2 (i + 1) from (by rw [hj0] at HO; exact HO.out.zero));have hjl : (j : Int) <= 0 := by omega
     clear hj0;go_wp2;go_quiet (fail);go_wp2;go_roundw
     case rel => exact ⟨i + 1, es2, by go_num, by omega, by omega, HP, HZ, hZ (HRow.out.same rfl), hZ (HT.out.trans ⟨rfl, rfl, rfl, Nat.le_refl _, fun _ _ _ => rfl⟩)⟩
     case measure => simp [intOf]; omega
    ·obtain ⟨k, rfl⟩ : ∃ k, j = k + 1 := ⟨j - 1, by omega⟩;rw [show ((k + 1 : Nat) : Int) = (k : Int) + 1 from by omega];have hk1 : k + 1 < es2.length := by omega
     have hk0 : k < es2.length := by omega
     have b0 : (0 : Int) <= (k : Int) := by omega
     have b1 : (0 : Int) <= (k : Int) + 1 := by omega
     have b2 : (k : Int) + 1 < (es.length : Int) := by omega
     have b3 : (k : Int) < (es.length : Int) := by omega
     have t1 : ((k : Int) + 1).toNat = k + 1 := by omega
     have u1 : IntKind.i64.wrap ((k : Int) + 1 - 1) = (k : Int) := by rw [IntKind.wrap_i64]; omega
     have u2 : IntKind.i64.wrap (k : Int) = (k : Int) := by rw [IntKind.wrap_i64]; omega
     have hgb : decide (0 < (k : Int) + 1) = true := by first | (simp; done) | (simp; omega)
     have hpl2 := HPl.out.perm HP.out;have hiff := pl_lt (hpl2 (k + 1) hk1) (hpl2 k hk0);have c1 := one_cell HRow.out hk1;have c0 := one_cell HRow.out hk0;have D := fun w => less2_calls (atE es2 (k + 1)).id (atE es2 k).id w
     clear hj0 hpl2;by_cases hlt : (atE es2 (k + 1)).lt (atE es2 k)
     ·have hrb : decide ((atE es2 (k + 1)).id < (atE es2 k).id) = true := decide_eq_true (hiff.1 hlt);have HLT := hZ hlt;clear hlt hiff;rw [hrb] at D;clear hrb;go_wp2;go_quiet (first | (go_at_call 138; refine Calls.quiet_of_same (D _)));generalize hwe : wr.drewN nq = w4;have HRow2 : Hid (RowAt w4 g 0 1 3 (es2.map Ent.one)) := hZ (by rw [<- hwe]; exact HRow.out.same rfl);have HT2 : Hid (Turn w w4 (fun b => b = g)) := hZ (by rw [<- hwe]; exact HT.out.trans ⟨rfl, rfl, rfl, Nat.le_refl _, fun _ _ _ => rfl⟩);clear hwe HRow HT c0 c1 D
      go_upto_region 6 with fail
      refine start_ (n := 18) (S := fun w' => Hid (RowAt w' g 0 1 3 (es2.map Ent.one))) (ds := [15, 17]) #[false, false, false, false, false, false, false, false, false, false, false, false, false, false, false, false, false, false] (by kernel_rfl) rfl rfl ((hZ HRow2.out.drew)) (fun hHeld => ?_);refine with_tabW insI.tab6 insI.bits6 (fun HT_ HW_ => ?_);have hwd2 : Hid (Turn w4 w4.drew (fun b => b = g)) := hZ (Turn.refl _ _).drew;generalize hwd : w4.drew = wd2 at *;clear hwd;refine pst 0 (some 33) HT_ ?_;refine pst 1 (some 34) HT_ ?_;refine pst 2 (some 35) HT_ ?_;refine pst 3 (some 36) HT_ ?_;refine pst 4 (some 37) HT_ ?_;refine pst 5 (some 38) HT_ ?_;refine pst 6 (some 39) HT_ ?_;refine pst 7 (some 40) HT_ ?_;refine pst 8 (some 41) HT_ ?_;refine pst 10 (some 43) HT_ ?_;refine pst 11 (some 44) HT_ ?_;refine pst 12 (some 45) HT_ ?_;refine tst 9 (some 42) HT_ HW_ hHeld ?_ (hy := by (intro w' s0; have e0 := one_cell s0.out hk1; have e3 := one_cell s0.out hk0; clear s0); go_simp; with_reducible rfl);refine tst 13 (some 46) HT_ HW_ hHeld ?_ (hy := by (intro w' s0; have e0 := one_cell s0.out hk1; have e3 := one_cell s0.out hk0; clear s0); go_simp; with_reducible rfl);refine pst 14 (some 47) HT_ ?_;refine last_ (i := 15) (N := none) #[true, true, true, true, true, true, true, true, true, true, true, true, true, true, true, true, false, false] rfl rfl (one_of HT_.out (by kernel_rfl)) (by decide) (fun K hK => ?_);have e0 := one_cell hHeld.out hk1;have hz := fun o => hHeld.out.free o
      refine skip_ (w1 := ?_) (by rfl) rfl ?_ ?_;rotate_left
      ·go_simp;rfl
      have RA := hZ (row_set1 hHeld.out (k := k + 1) (by simpa using hk1) (.int .i64 (atE es2 k).id));have TA := hZ ((Turn.refl wd2 (fun b => b = g)).set rfl (k + 1) (.int .i64 (atE es2 k).id));clear e0 hz;refine hK.out _ _ ?_;clear hK K;refine pst 16 (some 48) HT_ ?_;refine last_ (i := 17) (N := none) #[true, true, true, true, true, true, true, true, true, true, true, true, true, true, true, true, true, true] rfl rfl (one_of HT_.out (by kernel_rfl)) (by decide) (fun K hK => ?_);generalize hw2 : World.setCell _ _ _ = w2 at *;clear hw2;have e3 := raw_one RA.out (k := k) (x := atE es2 k) (by simpa using hk0) (by rw [set_get_ne (by omega)]; exact one_at hk0);have hz := fun o => RA.out.free o
      refine skip_ (w1 := ?_) (by rfl) rfl ?_ ?_;rotate_left
      ·go_simp;rfl
      have RB := hZ (row_set1 RA.out (k := k) (by simpa using hk0) (.int .i64 (atE es2 (k + 1)).id));have TB := hZ (TA.out.set rfl k (.int .i64 (atE es2 (k + 1)).id));clear e3 hz;refine hK.out _ _ ?_;clear hK K;refine done_ (done_of HT_.out (by kernel_rfl)) ?_;have HRow3 : Hid (RowAt _ g 0 1 3 ((sw es2 k).map Ent.one)) := hZ (by rw [one_sw]; exact RB.out);have HT3 := hZ ((HT2.out.trans (show Turn w4 wd2 (fun b => b = g) from hwd2.out)).trans TB.out);have HO3 := hZ (HO.out.swap hk1 hj HLT.out);have HP3 := hZ ((sw_perm hk1).trans HP.out);clear RA TA RB TB hHeld;go_wp2;go_roundw
      case rel => exact ⟨k, sw es2 k, by go_num, by omega, HP3, HO3, HRow3, HT3⟩
      case measure => first | (simp [intOf]; done) | (simp [intOf]; omega)
     ·have hrb : decide ((atE es2 (k + 1)).id < (atE es2 k).id) = false := decide_eq_false (fun h => hlt (hiff.2 h));have HZ := hZ (HO.out.stop (show (atE es2 k).le (atE es2 (k + 1)) from hlt));clear hlt hiff;rw [hrb] at D;clear hrb;go_wp2;go_quiet (first | (go_at_call 138; refine Calls.quiet_of_same (D _)));go_wp2;go_roundw
      case rel => exact ⟨i + 1, es2, by go_num, by omega, by omega, HP, HZ, hZ (HRow.out.same rfl), hZ (HT.out.trans ⟨rfl, rfl, rfl, Nat.le_refl _, fun _ _ _ => rfl⟩)⟩
      case measure => first | (simp [intOf]; done) | (simp [intOf]; omega)
  ·have HZ : Hid (Srt e1 e1.length) := hZ (fun a b h1 h2 => HS.out a b h1 (by have := HP.out.length_eq; omega));go_wp2;go_end0;exact ⟨rfl, e1, HP.out, HZ.out, HRow1.out, HT.out⟩
theorem pdqi_calls (g c : Nat) (es : List Ent) (lim : Int) (w : World) (hR : RowAt w g 0 1 3 (es.map Ent.one)) (hpl : Pl es) (hl : es.length <= 12) (hc : es.length <= c) :
  Calls Tryz.prog 117 #[.slice (some ⟨g, 0, none⟩) es.length c, .int .i64 0, .int .i64 es.length, .int .i64 lim] w fun e w' => e = .returned (.tuple #[]) /\ ∃ es' : List Ent, es'.Perm es /\ Srt es' es'.length /\ RowAt w' g 0 1 3 (es'.map Ent.one) /\ Turn w w' (fun b => b = g) := by
 have D := insi_calls g c es w hR hpl (by omega) hc;clear hR;go_enter Tryz.func117, Tryz.ntmps117;go_wp2;refine wp_loop_rounds 1 ?_;rw [rounds_succ]
 go_wp2_with (go_at_call 132; (with_reducible refine D.mono ?_); rintro e w' ⟨rfl, hP⟩)
 refine bodyPost_ret (results_none rfl _ _ _) rfl ?_;exact ⟨rfl, hP⟩
theorem sorti_calls (g c : Nat) (es : List Ent) (w : World) (hR : RowAt w g 0 1 3 (es.map Ent.one)) (hpl : Pl es) (hl : es.length <= 12) (hc : es.length <= c) :
  Calls Tryz.prog 104 #[.slice (some ⟨g, 0, none⟩) es.length c] w fun e w' => e = .returned (.tuple #[]) /\ ∃ es' : List Ent, es'.Perm es /\ Srt es' es'.length /\ RowAt w' g 0 1 3 (es'.map Ent.one) /\ Turn w w' (fun b => b = g) := by
 have D0 := fun (w : World) => len_calls es.length w hl
 have D := fun lim => pdqi_calls g c es lim w hR hpl hl hc
 clear hR;go_enter Tryz.func104, Tryz.ntmps104
 go_wp2_with (first
  | (go_at_call 118; (with_reducible refine (D0 _).mono ?_); rintro e w' ⟨⟨v, rfl⟩, rfl⟩)
  | (go_at_call 117; (with_reducible refine (D _).mono ?_); rintro e w' ⟨rfl, hP⟩))
 go_end0;exact ⟨rfl, hP⟩
theorem insi0_calls (A : Option Addr) (c : Nat) (w : World) :
  Calls Tryz.prog 132 #[.slice A 0 c, .int .i64 0, .int .i64 0] w fun e w' => e = .returned (.tuple #[]) /\ w = w' := by
 go_enter Tryz.func132, Tryz.ntmps132;go_wp2;refine wp_loop_rounds 1 ?_;rw [rounds_succ];go_wp2;go_end0;exact ⟨rfl, rfl⟩
theorem pdqi0_calls (A : Option Addr) (c : Nat) (lim : Int) (w : World) :
  Calls Tryz.prog 117 #[.slice A 0 c, .int .i64 0, .int .i64 0, .int .i64 lim] w fun e w' => e = .returned (.tuple #[]) /\ w = w' := by
 have D := insi0_calls A c w;go_enter Tryz.func117, Tryz.ntmps117;go_wp2;refine wp_loop_rounds 1 ?_;rw [rounds_succ]
 go_wp2_with (go_at_call 132; (with_reducible refine D.mono ?_); rintro e w' ⟨rfl, rfl⟩)
 refine bodyPost_ret (results_none rfl _ _ _) rfl ?_;exact ⟨rfl, rfl⟩
theorem sorti0_calls (A : Option Addr) (c : Nat) (w : World) :
  Calls Tryz.prog 104 #[.slice A 0 c] w fun e w' => e = .returned (.tuple #[]) /\ w = w' := by
 have D0 : ∀ (w : World), Calls Tryz.prog 118 #[.int .u64 0] w fun e w' => (∃ v : Int, e = .returned (.int .i64 v)) /\ w = w' := fun (w : World) => len_calls 0 w (by omega)
 have D := fun lim => pdqi0_calls A c lim w
 go_enter Tryz.func104, Tryz.ntmps104
 go_wp2_with (first
  | (go_at_call 118; (with_reducible refine (D0 _).mono ?_); rintro e w' ⟨⟨v, rfl⟩, rfl⟩)
  | (go_at_call 117; (with_reducible refine (D _).mono ?_); rintro e w' ⟨rfl, rfl⟩))
 go_end0;exact ⟨rfl, rfl⟩
theorem row1_int {w : World} {A : Option Addr} {l : List Int} (h : (Kd.raw 1).C w A l.length (l.map fun x => [.int .i64 x])) : (Kd.int .i64).C w A l.length l := by
 refine ⟨rfl, h.2.1, fun h0 => ?_⟩;obtain ⟨ad, h1, h2⟩ := h.2.2 h0;refine ⟨ad, h1, fun j p hp => ?_⟩;obtain ⟨cs, h3, h4, h5⟩ := h2 j [.int .i64 p] (by rw [List.getElem?_map, hp]; rfl);exact ⟨cs, h3, by first | exact h4.1.symm | exact h4.1, h5⟩
/-- the sort, for every own row. -/
theorem sortI_calls (base : Nat) (ok : Nat -> Prop) (v : Value) (l : List Int) (w : World) (hr : (Kd.raw 1).R 3 w base ok v (l.map fun x => [.int .i64 x])) (hl : l.length <= 12) :
  Calls Tryz.prog 104 #[v] w fun e w' => e = .returned (.tuple #[]) /\ ∃ l' : List Int, l'.Perm l /\ l'.Pairwise (· <= ·) /\ (∃ A c, v = .slice A l'.length c /\ l'.length <= c /\ (Kd.int .i64).C w' A l'.length l') /\ Turn w w' (fun b => base <= b) := by
 by_cases h0 : l.length = 0
 ·have hes : l = [] := List.eq_nil_of_length_eq_zero h0;subst hes;obtain ⟨A, c, rfl, hc, hC⟩ := Kd.R_reads hr;refine (sorti0_calls A c w).mono ?_;rintro e w' ⟨rfl, rfl⟩;exact ⟨rfl, [], List.Perm.refl _, List.Pairwise.nil, ⟨A, c, rfl, hc, row1_int hC⟩, Turn.refl _ _⟩
 ·obtain ⟨g, cap, rfl, hc, hm, hb, hok, hR⟩ := row_of_R hr (by simp; omega);obtain ⟨es, hes⟩ : ∃ es : List Ent, es = l.map (fun x => (⟨x, 0, false⟩ : Ent)) := ⟨_, rfl⟩;have e1 : es.map Ent.one = l.map (fun x => [.int .i64 x]) := by rw [hes, List.map_map]; rfl
  have e2 : es.length = l.length := by rw [hes, List.length_map]
  have e3 : es.map Ent.id = l := by rw [hes, List.map_map]; exact List.map_id _
  have hpl : Pl es := by
   intro k hk;rw [hes];rw [e2] at hk;simp [atE, List.getD_eq_getElem?_getD, hk]
  rw [<- e1] at hR;simp only [List.length_map] at hc |-;rw [<- e2] at hc hl |-;refine (sorti_calls g cap es w hR hpl hl hc).mono ?_;rintro e w' ⟨rfl, es', hP, hS, hR', hT⟩;have hpl' := hpl.perm hP;refine ⟨rfl, es'.map Ent.id, by rw [<- e3]; exact hP.map _, ?_, ⟨some ⟨g, 0, none⟩, cap, by rw [List.length_map, hP.length_eq], by rw [List.length_map, hP.length_eq]; exact hc, ?_⟩, hT.imp (fun b h => by subst h; exact hb)⟩
  ·rw [List.pairwise_iff_getElem];intro i j hi hj hij;rw [List.length_map] at hi hj;have h1 := hS i j hij hj;have h2 := fun h => h1 ((pl_lt (hpl' j hj) (hpl' i hi)).2 h)
   simp only [List.getElem_map];have a1 : atE es' i = es'[i] := by simp [atE, hi]
   have a2 : atE es' j = es'[j] := by simp [atE, hj]
   rw [a1, a2] at h2;exact Int.not_lt.1 h2
  ·have := RowAt.C hR' (by simp [hP.length_eq]; try omega) (fun x hx u hu => by
    obtain ⟨y, _, rfl⟩ := List.mem_map.mp hx;simp only [Ent.one, List.mem_cons, List.not_mem_nil, or_false] at hu;rcases hu with rfl;rfl)
   refine row1_int ?_;rw [List.map_map];rw [List.length_map] at this |-;exact this
def Ent.ltB (a b : Ent) : Bool := (a.fixed && !b.fixed) || (a.fixed == b.fixed && (decide (a.due < b.due) || (a.due == b.due && decide (a.id < b.id))))
theorem ltB_iff (a b : Ent) : a.ltB b = true ↔ a.lt b := by
 obtain ⟨i1, d1, f1⟩ := a;obtain ⟨i2, d2, f2⟩ := b;unfold Ent.ltB Ent.lt
 cases f1 <;> cases f2 <;> simp
def rank (es : List Ent) (e : Ent) : Nat := es.countP (fun x => x.ltB e)
def pickE (n : Int) (es : List Ent) : List Ent := es.filter (fun e => decide ((rank es e : Int) < n))
def pickL (n : Int) (es : List Ent) : List Int := (pickE n es).map Ent.id
theorem rank_perm {es es' : List Ent} (h : es'.Perm es) (e : Ent) : rank es' e = rank es e := h.countP_eq _
theorem rank_at {es : List Ent} (hs : Srt es es.length) (hne : ∀ a b, a < b -> b < es.length -> (atE es a).id ≠ (atE es b).id) {i : Nat} (hi : i < es.length) : rank es (atE es i) = i := by
 unfold rank;have hsplit : ∀ p : Ent -> Bool, es.countP p = (es.take i).countP p + (es.drop i).countP p := fun p => by rw [<- List.countP_append, List.take_append_drop]
 have h1 : (es.take i).countP (fun x => x.ltB (atE es i)) = i := by
  have : (es.take i).countP (fun x => x.ltB (atE es i)) = (es.take i).length := by
   rw [List.countP_eq_length];intro x hx;obtain ⟨k, hk, rfl⟩ := List.mem_iff_getElem.1 hx;rw [List.length_take] at hk;have e1 : (es.take i)[k] = atE es k := by simp [atE, show k < es.length by omega]
   rw [e1, ltB_iff];have h2 := hs k i (by omega) hi;have h3 := hne k i (by omega) hi;revert h2 h3;generalize atE es k = a;generalize atE es i = b;obtain ⟨i1, d1, f1⟩ := a;obtain ⟨i2, d2, f2⟩ := b;unfold Ent.le Ent.lt
   cases f1 <;> cases f2 <;> simp <;> omega
  rw [this, List.length_take];omega
 have h2 : (es.drop i).countP (fun x => x.ltB (atE es i)) = 0 := by
  rw [List.countP_eq_zero];intro x hx;obtain ⟨k, hk, rfl⟩ := List.mem_iff_getElem.1 hx;rw [List.length_drop] at hk;have e1 : (es.drop i)[k] = atE es (i + k) := by simp [atE, show i + k < es.length by omega]
  rw [e1, ltB_iff];rcases Nat.eq_zero_or_pos k with rfl | hk0
  ·exact Ent.lt_irrefl _
  ·exact hs i (i + k) (by omega) (by omega)
 rw [hsplit, h1, h2, Nat.add_zero]
theorem take_rank {es : List Ent} (hs : Srt es es.length) (hne : ∀ a b, a < b -> b < es.length -> (atE es a).id ≠ (atE es b).id) {k : Nat} (hk : k <= es.length) : es.take k = es.filter (fun e => decide (rank es e < k)) := by
 have hsplit : es.filter (fun e => decide (rank es e < k)) = (es.take k).filter (fun e => decide (rank es e < k)) ++ (es.drop k).filter (fun e => decide (rank es e < k)) := by
  rw [<- List.filter_append, List.take_append_drop]
 rw [hsplit]
 have h1 : (es.take k).filter (fun e => decide (rank es e < k)) = es.take k := by
  rw [List.filter_eq_self];intro x hx;obtain ⟨j, hj, rfl⟩ := List.mem_iff_getElem.1 hx;rw [List.length_take] at hj;have e1 : (es.take k)[j] = atE es j := by simp [atE, show j < es.length by omega]
  rw [e1, rank_at hs hne (by omega)];simp;omega
 have h2 : (es.drop k).filter (fun e => decide (rank es e < k)) = [] := by
  rw [List.filter_eq_nil_iff];intro x hx;obtain ⟨j, hj, rfl⟩ := List.mem_iff_getElem.1 hx;rw [List.length_drop] at hj;have e1 : (es.drop k)[j] = atE es (k + j) := by simp [atE, show k + j < es.length by omega]
  rw [e1, rank_at hs hne (by omega)];simp
 rw [h1, h2, List.append_nil]
theorem sorted_perm_eq : ∀ {a b : List Int}, a.Perm b -> a.Pairwise (· <= ·) -> b.Pairwise (· <= ·) -> a = b
 | [], b, hp, _, _ => (List.nil_perm.1 hp).symm
 | x :: r, [], hp, _, _ => absurd hp (by simp)
 | x :: r, y :: s, hp, ha, hb => by
  have ha' := List.pairwise_cons.1 ha;have hb' := List.pairwise_cons.1 hb
  have hxy : x = y := by
   have h1 : x ∈ y :: s := hp.mem_iff.1 (by simp);have h2 : y ∈ x :: r := hp.mem_iff.2 (by simp);rcases List.mem_cons.1 h1 with h1 | h1
   ·exact h1
   ·rcases List.mem_cons.1 h2 with h2 | h2
    ·exact h2.symm
    ·have := ha'.1 y h2; have := hb'.1 x h1; omega
  subst hxy;rw [sorted_perm_eq (List.Perm.cons_inv hp) ha'.2 hb'.2]
theorem ne_of_perm {es es' : List Ent} (hp : es'.Perm es) (hne : (es.map Ent.id).Nodup) : ∀ a b, a < b -> b < es'.length -> (atE es' a).id ≠ (atE es' b).id := by
 have hn : (es'.map Ent.id).Nodup := (hp.map _).nodup_iff.2 hne;intro a b hab hb he;rw [List.nodup_iff_pairwise_ne, List.pairwise_iff_getElem] at hn;refine hn a b (by simp; omega) (by simpa using hb) hab ?_;simp only [List.getElem_map];simpa [atE, hb, show a < es'.length by omega] using he
theorem pick_unique {n : Int} {es es' : List Ent} {k : Nat} {l : List Int} (hid : (es.map Ent.id).Pairwise (· < ·)) (hk : (k : Int) = min n es.length) (hp : es'.Perm es) (hs : Srt es' es'.length) (hl : l.Perm ((es'.take k).map Ent.id)) (ho : l.Pairwise (· <= ·)) : l = pickL n es := by
 have hnd : (es.map Ent.id).Nodup := by
  rw [List.nodup_iff_pairwise_ne];exact hid.imp (fun h => by omega)
 have hne := ne_of_perm hp hnd;have hlen := hp.length_eq;rw [take_rank hs hne (by omega)] at hl
 have e1 : es'.filter (fun e => decide (rank es' e < k)) = es'.filter (fun e => decide ((rank es e : Int) < n)) := by
  apply List.filter_congr;intro x hx;rw [rank_perm hp]
  have hr : rank es x < es.length := by
   unfold rank;refine Nat.lt_of_le_of_ne List.countP_le_length (fun h => ?_);rw [List.countP_eq_length] at h;have := h x (hp.mem_iff.1 hx);rw [ltB_iff] at this;exact Ent.lt_irrefl _ this
  have : rank es x < k ↔ (rank es x : Int) < n := by omega
  simp [this]
 rw [e1] at hl;refine sorted_perm_eq (hl.trans ((hp.filter _).map _)) ho ?_;unfold pickL pickE;refine List.Pairwise.sublist ((List.filter_sublist).map _) (hid.imp (fun h => by omega))
theorem pick_calls (n : Int) (A : Option Addr) (c : Nat) (es : List Ent) (w : World) (hr : (Kd.raw 3).C w A es.length (es.map Ent.cells)) (hf : Fine n es) (hid : (es.map Ent.id).Pairwise (· < ·)) :
  Calls Tryz.prog 84 #[.int .i64 n, .slice A es.length c] w fun e w' => ∃ A' c', e = .returned (.slice A' (pickL n es).length c') /\ (pickL n es).length <= c' /\ (Kd.int .i64).C w' A' (pickL n es).length (pickL n es) /\ (∀ ad, A' = some ad -> w.heap.size <= ad.block) /\ Below w.heap.size w w' := by
 have D0 := split_calls n A c es w hr hf;have hl := hf.len;clear hr hf;go_enter Tryz.func84, Tryz.ntmps84
 go_wp2_with (go_at_call 103; (with_reducible refine D0.mono ?_); rintro e w1 ⟨k, es', A1, c1, rest, hk, rfl, hkl, hP, hS, hC, hB1⟩; have HK := hZ hk; have HP := hZ hP; have HS := hZ hS; have HC := hZ hC; have HB1 := hZ hB1; clear hk hP hS hC hB1)
 have hq : (es'.take k).length <= 12 := by have := HK.out; omega
 generalize hqq : es'.take k = q at hkl HC hq |-;subst hkl;have HQ := hZ hqq;clear hqq
 go_loopw [5, 18] (fun v5 v18 wr => ∃ (i : Nat), v18 = .int .i64 i /\ i <= q.length /\ Hid ((Kd.raw 1).R 3 wr w1.heap.size (fun _ => True) v5 (((q.take i).map Ent.id).map fun x => [.int .i64 x])) /\ Hid (Below w1.heap.size w1 wr)) (fun _ v18 _ => q.length - (intOf v18).toNat)
 case atStart => exact ⟨0, rfl, Nat.zero_le _, hZ (Kd.R_nil _ _ _ _ _), hZ (Below.refl _ _)⟩
 case round =>
  obtain ⟨i, rfl, hi, HR, HB⟩ := hrel;by_cases hlt : i < q.length
  ·obtain ⟨ad, rfl, b0, b1, b2⟩ := ent_at HC.out hlt;have hlt0 : (ad.add (i * 3)).block < w1.heap.size := World.block_lt_of_cell? w1 _ b0;have e0 := (HB.out.cell hlt0).trans b0;have e1 := (HB.out.cell (p := ⟨(ad.add (i * 3)).block, (ad.add (i * 3)).off + 1, none⟩) hlt0).trans b1;have e2 := (HB.out.cell (p := ⟨(ad.add (i * 3)).block, (ad.add (i * 3)).off + 2, none⟩) hlt0).trans b2;clear b0 b1 b2
   go_wp2_with (first
    | ((with_reducible refine gate_builtin (b := .append) (xs := #[.tmp 22, .tmp 25]) rfl ?_); at_builtin; refine Kd.R_append (Kd.raw 1) (w0 := w1) w1.heap.size rfl (.tmp 22) (.tmp 25) 61 3 (.int .i64 0) 8 rfl Tryz.underlying61 info3 rfl (by decide) (by omega) _ (((q.take i).map Ent.id).map fun x => [.int .i64 x]) [.int .i64 (atE q i).id] [.int .i64 (atE q i).id] (fun _ => True) (fun _ => False) rfl (by first | (go_simp; done) | (go_simp; rfl)) ?aP (fun _ hk => hk.elim) ?aF ?aO ?aB ?aS ?aL ?_; (case aP => exact ⟨rfl, rfl, fun u hu => by (rcases List.mem_singleton.1 hu with rfl; rfl)⟩); (case aF => exact (fun _ _ => trivial)); (case aO => exact Kd.R_alloc HR.out _); (case aB => exact below_alloc HB.out _); (case aS => exact (below_alloc HB.out _).size); (case aL => (simp; omega)); intro v5 w5 hR5 hB5 hg5 hat5; have HR5 := hZ hR5; have HB5 := hZ hB5; clear hR5 hB5 hg5 hat5))
   go_roundw
   case rel => exact ⟨i + 1, by go_num, by omega, hZ (by rw [<- take_id hlt, List.map_append]; exact HR5.out), HB5⟩
   case measure => first | (simp [intOf]; done) | (simp [intOf]; omega)
  ·have hie : i = q.length := by omega
   subst hie;rw [List.take_length] at HR;have hbase := Kd.R_base HR.out
   go_wp2_with (go_at_call 104; (with_reducible refine (sortI_calls _ _ _ _ _ HR.out (by simpa using hq)).mono ?_); rintro e w6 ⟨rfl, l', hP', hS', ⟨A', c', rfl, hc', hC'⟩, hT⟩; have HP' := hZ hP'; have HS' := hZ hS'; have HC' := hZ hC'; have HT := hZ hT; clear hP' hS' hC' hT)
   go_ret;have hu := pick_unique hid HK.out HP.out HS.out (by rw [HQ.out]; exact HP'.out) HS'.out;rw [<- hu];exact ⟨A', c', rfl, hc', HC'.out, (fun ad e => by subst e; exact Nat.le_trans HB1.out.size (hbase ad.block rfl)), HB1.out.trans ((Turn.below HB.out HT.out (fun _ h => h) HB.out.size).mono HB1.out.size)⟩
def entOf (x : S57) : Ent := ⟨x.f0, x.f1.f3, x.f3 != 0⟩
def readyL (l : List S57) : List Ent := (l.filter (fun x => x.f1.f4 == 1)).map entOf
def runsL (M : Int) (l : List S57) : List Int := pickL M (readyL l)
theorem readyL_take {l : List S57} {i : Nat} (h : i < l.length) : readyL (l.take (i + 1)) = readyL (l.take i) ++ (if l[i].f1.f4 == 1 then [entOf l[i]] else []) := by
 unfold readyL;rw [List.take_succ_eq_append_getElem h, List.filter_append, List.map_append];congr 1;by_cases hx : l[i].f1.f4 == 1 <;> simp [hx]
theorem readyL_sorted {l : List S57} (h : Sorted l) : ((readyL l).map Ent.id).Pairwise (· < ·) := by
 unfold readyL;rw [List.map_map];have h1 : (l.filter (fun x => x.f1.f4 == 1)).Pairwise (fun a b => a.f0 < b.f0) := List.Pairwise.sublist List.filter_sublist h;rw [List.pairwise_map];exact h1
theorem readyL_len (l : List S57) : (readyL l).length <= l.length := by
 unfold readyL;rw [List.length_map];exact List.length_filter_le _ _
structure Sane (M : Int) (l : List S57) : Prop where
 m1 : 1 <= M
 m2 : M <= 64
 len : l.length <= 12
 sorted : Sorted l
 id : ∀ k (h : k < l.length), 1 <= l[k].f0 /\ l[k].f0 <= 255
 fix : (fixes (readyL l) : Int) <= M
theorem Sane.fine {M : Int} {l : List S57} (h : Sane M l) : Fine M (readyL l) where
 n1 := h.m1
 n2 := h.m2
 len := Nat.le_trans (readyL_len l) h.len
 id := by
  intro k hk
  have hm : atE (readyL l) k ∈ readyL l := by
   unfold atE;rw [List.getD_eq_getElem?_getD, List.getElem?_eq_getElem hk];exact List.getElem_mem hk
  obtain ⟨x, hx, e⟩ := List.mem_map.1 hm;obtain ⟨j, hj, rfl⟩ := List.mem_iff_getElem.1 (List.mem_filter.1 hx).1;have := h.id j hj;rw [<- e];show 0 <= l[j].f0 /\ l[j].f0 < 1024;omega
 ne := by
  intro a b hab hb he;have h1 := readyL_sorted h.sorted;rw [List.pairwise_iff_getElem] at h1;have h2 := h1 a b (by simp; omega) (by simpa using hb) hab;simp only [List.getElem_map] at h2;have ea : atE (readyL l) a = (readyL l)[a] := by simp [atE, show a < (readyL l).length by omega]
  have eb : atE (readyL l) b = (readyL l)[b] := by simp [atE, hb]
  rw [ea, eb] at he;omega
 fix := h.fix
theorem pickL_le (n : Int) (es : List Ent) : (pickL n es).length <= es.length := by
 unfold pickL pickE;rw [List.length_map];exact List.length_filter_le _ _
theorem info176r : (Tryz.prog.info? 176).map (fun i => (i.zero, i.size, i.bytes)) = some (some (.agg #[.int .i64 0, .int .i64 0, .bool false]), (Kd.raw 3).sz, 24) := info176
theorem runs_calls (M now : Int) (A : Option Addr) (c : Nat) (l : List S57) (S2 : Value) (A3 : Option Addr) (c3 : Nat) (w : World) (hr : Kd.C k57 w A l.length l) (hs : Sane M l) (h2 : ∃ A n c, S2 = .slice A n c) (hlen : (runsL M l).length <= M.toNat) :
  Calls Tryz.prog 57 #[.agg #[.int .i64 M, .int .i64 now, .slice A l.length c, S2, .slice A3 0 c3]] w fun e w' => ∃ A' c', e = .returned (.tuple #[.slice A' (runsL M l).length c', .slice none 0 0]) /\ (runsL M l).length <= c' /\ (Kd.int .i64).C w' A' (runsL M l).length (runsL M l) /\ (∀ ad, A' = some ad -> w.heap.size <= ad.block) /\ Below w.heap.size w w' := by
 obtain ⟨A2, n2, c2, rfl⟩ := h2;have hl := hs.len;have hm1 := hs.m1;have hm2 := hs.m2;have HR := hZ hr;have D := fun A4 c4 wr hC4 => pick_calls M A4 c4 (readyL l) wr hC4 hs.fine (readyL_sorted hs.sorted)
 unfold runsL at *
 have hd0 : 0 <= wrap64 (M - ((pickL M (readyL l)).length : Int)) := by
  have hd : wrap64 (M - ((pickL M (readyL l)).length : Int)) = M - ((pickL M (readyL l)).length : Int) := by
   unfold Go.RowKit.wrap64;omega
  rw [hd];omega
 clear hr hs hlen;generalize pickL M (readyL l) = pl at *;generalize hdd : wrap64 (M - (pl.length : Int)) = dd at *;have hmin : min dd 0 = 0 := by omega
 have HB0 : Hid (Below w.heap.size w (w.alloc (.cells #[.int .i64 M, .int .i64 now, .slice A l.length c, .slice A2 n2 c2, .slice A3 0 c3] 47))) := hZ (below_alloc (Below.refl _ _) _);have HX0 : Hid ((w.alloc (.cells #[.int .i64 M, .int .i64 now, .slice A l.length c, .slice A2 n2 c2, .slice A3 0 c3] 47)).heap[w.heap.size]? = some (.cells #[.int .i64 M, .int .i64 now, .slice A l.length c, .slice A2 n2 c2, .slice A3 0 c3] 47 (0, 0))) := hZ (by show (w.heap.push _)[w.heap.size]? = _; rw [Array.getElem?_push_size]);go_enter Tryz.func57, Tryz.ntmps57;go_wp2;generalize hw0 : w.alloc (.cells #[.int .i64 M, .int .i64 now, .slice A l.length c, .slice A2 n2 c2, .slice A3 0 c3] 47) = w0 at *;have hsz : w.heap.size + 1 = w0.heap.size := by rw [<- hw0]; simp
 clear hw0
 go_loopw [4, 12] (fun v4 v12 wr => ∃ (i : Nat), v12 = .int .i64 i /\ i <= l.length /\ Hid ((Kd.raw 3).R 176 wr w0.heap.size (fun _ => True) v4 ((readyL (l.take i)).map Ent.cells)) /\ Hid (Below w0.heap.size w0 wr)) (fun _ v12 _ => l.length - (intOf v12).toNat)
 case atStart => exact ⟨0, rfl, Nat.zero_le _, hZ (Kd.R_nil _ _ _ _ _), hZ (Below.refl _ _)⟩
 case round =>
  obtain ⟨i, rfl, hi, HO, HB⟩ := hrel;by_cases hlt : i < l.length
  ·obtain ⟨ad, J, cJ, rfl, hC⟩ := cells57 (Kd.C_below HR.out (HB0.out.trans (HB.out.mono HB0.out.size))) hlt;obtain ⟨e0, e1, e2, e3, e4, e5, e6, e7, e8, e9, e10, hjc, hjobs⟩ := hC;have HTK := hZ (readyL_take hlt);have hrl : (readyL (l.take i)).length <= 12 := Nat.le_trans (readyL_len _) (by rw [List.length_take]; omega);generalize l[i] = x at *;clear hjobs;by_cases hx : x.f1.f4 = 1
   ·rw [hx] at e5
    go_wp2_with (first
     | ((with_reducible refine gate_builtin (b := .append) (xs := #[.tmp 20, .tmp 30]) rfl ?_); at_builtin; refine Kd.R_append (Kd.raw 3) (w0 := w0) w0.heap.size rfl (.tmp 20) (.tmp 30) 174 176 (.agg #[.int .i64 0, .int .i64 0, .bool false]) 24 rfl Tryz.underlying174 info176r rfl (by decide) (by omega) _ ((readyL (l.take i)).map Ent.cells) (entOf x).cells (entOf x).cells (fun _ => True) (fun _ => False) rfl (by first | (go_simp; done) | (go_simp; rfl)) ?aP (fun _ hk => hk.elim) ?aF ?aO ?aB ?aS ?aL ?_; (case aP => exact ⟨rfl, rfl, fun u hu => by (simp only [Ent.cells, List.mem_cons, List.not_mem_nil, or_false] at hu; rcases hu with rfl | rfl | rfl <;> rfl)⟩); (case aF => exact (fun _ _ => trivial)); (case aO => exact Kd.R_alloc HO.out _); (case aB => exact below_alloc HB.out _); (case aS => exact (below_alloc HB.out _).size); (case aL => (simp; omega)); intro v5 w5 hR5 hB5 hg5 hat5; have HR5 := hZ hR5; have HB5 := hZ hB5; clear hR5 hB5 hg5 hat5))
    go_roundw
    case rel => exact ⟨i + 1, by go_num, by omega, hZ (by rw [HTK.out, if_pos (by simp [hx]), List.map_append]; exact HR5.out), HB5⟩
    case measure => first | (simp [intOf]; done) | (simp [intOf]; omega)
   ·go_wp2;go_roundw
    case rel => exact ⟨i + 1, by go_num, by omega, hZ (by rw [HTK.out, if_neg (by simp [hx]), List.append_nil]; exact Kd.R_alloc HO.out _), hZ (below_alloc HB.out _)⟩
    case measure => first | (simp [intOf]; done) | (simp [intOf]; omega)
  ·have hie : i = l.length := by omega
   subst hie;rw [List.take_length] at HO;obtain ⟨A4, c4, rfl, hc4, hC4⟩ := Kd.R_reads HO.out;rw [List.length_map] at *;have hbx := (HB.out.block w.heap.size (by omega)).trans HX0.out;have q0 : wr.cell? ⟨w.heap.size, 0, none⟩ = some (.int .i64 M) := (blk_cell hbx 0).trans rfl;have q4 : ∀ wx, Below wr.heap.size wr wx -> wx.cell? ⟨w.heap.size, 4, none⟩ = some (.slice A3 0 c3) := fun wx hb => (blk_cell ((hb.block _ (by have := HB.out.size; omega)).trans hbx) 4).trans rfl
   have q5 : ∀ wx, Below wr.heap.size wr wx -> wx.cell? ⟨w.heap.size, 0, none⟩ = some (.int .i64 M) := fun wx hb => (blk_cell ((hb.block _ (by have := HB.out.size; omega)).trans hbx) 0).trans rfl
   have D := D A4 c4 wr hC4;have HBW := hZ (HB0.out.trans (HB.out.mono HB0.out.size));clear hbx hC4 HO
   go_wp2_with (go_at_call 84; (with_reducible refine D.mono ?_); rintro e w5 ⟨A5, c5, rfl, hc5, hC5, hba, hB5⟩; have e0 := q5 w5 hB5; have e4 := q4 w5 hB5; have HC5 := hZ hC5; have HB5 := hZ hB5; clear hC5 hB5 q0 q4 q5)
   ·refine wp_loop_rounds 1 ?_;rw [rounds_succ];go_wp2;go_ret2;exact ⟨A5, c5, rfl, hc5, HC5.out, fun ad e => Nat.le_trans HBW.out.size (hba ad e), HBW.out.trans (HB5.out.mono HBW.out.size)⟩
   ·obtain rfl : dd = 0 := by omega
    refine wp_loop_rounds 1 ?_;rw [rounds_succ];go_wp2;go_ret2;exact ⟨A5, c5, rfl, hc5, HC5.out, fun ad e => Nat.le_trans HBW.out.size (hba ad e), HBW.out.trans (HB5.out.mono HBW.out.size)⟩
end Go.Proofs.YtfimkmlgnmaopaaGreat.Top
namespace Go.Proofs.YtfimkmlgnmaopaaGreat.Top
open Go.RowKit Go.Proofs.YtfimkmlgnmaopaaGreatW.PrintWords Go.Proofs.YtfimkmlgnmaopaaGreatW.PrintLast Go.Proofs.YtfimkmlgnmaopaaGreatW.PrintMore Go.Proofs.YtfimkmlgnmaopaaGreat.PTopNames
def poddB (p : S72) : Bool := decide (p.f0 < 0 \/ 8 < p.f0 \/ p.f1 < 1 \/ 2147483648 < p.f1)
theorem podd_no (s n : Int) (w : World) (h1 : 0 <= s) (h2 : s <= 8) (h3 : 1 <= n) (h4 : n <= 2147483648) : Calls Tryz.prog 101 #[.agg #[.int .i64 s, .int .i64 n]] w fun e w' => e = .returned (.bool false) /\ Below w.heap.size w w' := by
 go_enter Tryz.func101, Tryz.ntmps101;go_wp2;go_ret;exact ⟨by simp; omega, (Below.refl _ _).alloc (Nat.le_refl _) _⟩
theorem podd_yes (s n : Int) (w : World) (h : s < 0 \/ (0 <= s /\ 8 < s) \/ (0 <= s /\ s <= 8 /\ n < 1) \/ (0 <= s /\ s <= 8 /\ 1 <= n /\ 2147483648 < n)) : Calls Tryz.prog 101 #[.agg #[.int .i64 s, .int .i64 n]] w fun e w' => e = .returned (.bool true) /\ Below w.heap.size w w' := by
 rcases h with h | ⟨h1, h2⟩ | ⟨h1, h2, h3⟩ | ⟨h1, h2, h3, h4⟩
 all_goals
  go_enter Tryz.func101, Tryz.ntmps101;go_wp2;go_ret;exact ⟨by first | rfl | (simp; omega), (Below.refl _ _).alloc (Nat.le_refl _) _⟩
theorem podd_calls (p : S72) (w : World) : Calls Tryz.prog 101 #[.agg #[.int .i64 p.f0, .int .i64 p.f1]] w fun e w' => e = .returned (.bool (poddB p)) /\ Below w.heap.size w w' := by
 by_cases h : p.f0 < 0 \/ 8 < p.f0 \/ p.f1 < 1 \/ 2147483648 < p.f1
 ·have e : poddB p = true := decide_eq_true h;rw [e];exact podd_yes _ _ w (by omega)
 ·have e : poddB p = false := decide_eq_false h;rw [e];exact podd_no _ _ w (by omega) (by omega) (by omega) (by omega)
theorem rd72 {l : List S72} {k : Nat} (h : k < l.length) : rd_T72 l (k : Int) = l[k] := by
 simp [rd_T72, h]
theorem pindex_no (A0 : Option Addr) (c0 : Nat) (l0 : List S72) (w : World) (hr0 : Kd.C k72 w A0 l0.length l0) (hlen : l0.length <= 8) (hall : ∀ k (h : k < l0.length), poddB l0[k] = false) :
  Calls Tryz.prog 102 #[.slice A0 l0.length c0, .func (.func 101) #[] #[]] w fun e w' => e = .returned (.int .i64 (-1)) /\ Below w.heap.size w w' := by
 have HR0 := hZ hr0;have HA := hZ hall;clear hr0 hall;go_enter Tryz.func102, Tryz.ntmps102;go_wp2
 go_loopw [8] (fun v8 wr => ∃ k : Nat, v8 = .int .i64 k /\ k <= l0.length /\ Hid (Below w.heap.size w wr)) (fun v8 _ => l0.length - (intOf v8).toNat)
 case atStart => exact ⟨0, rfl, Nat.zero_le _, Below.refl _ _⟩
 case round =>
  obtain ⟨k, rfl, hk, HB⟩ := hrel;by_cases hlt : k < l0.length
  ·obtain ⟨ad, rfl, h0, h1⟩ := at_T72 (Kd.C_below HR0.out HB.out) (k : Int) (by omega) (by omega);rw [Int.toNat_natCast] at h0 h1;have D := fun w => podd_calls (rd_T72 l0 (k : Int)) w
   rw [show poddB (rd_T72 l0 (k : Int)) = false by rw [rd72 hlt]; exact HA.out k hlt] at D;generalize rd_T72 l0 (k : Int) = p at *;obtain ⟨p0, p1⟩ := p;dsimp only at h0 h1 D
   go_wp2_with (go_at_call 101; (with_reducible refine (D _).mono ?_); rintro e w' ⟨rfl, hB'⟩; have HB' := hZ (HB.out.trans (hB'.mono HB.out.size)); clear hB')
   go_roundw
   case rel => exact ⟨k + 1, by go_num, by omega, HB'⟩
   case measure => simp [intOf]; omega
  ·obtain rfl : k = l0.length := by omega
   go_wp2;go_ret;exact ⟨rfl, HB.out⟩
theorem pindex_yes (A0 : Option Addr) (c0 : Nat) (l0 : List S72) (w : World) (i : Nat) (hr0 : Kd.C k72 w A0 l0.length l0) (hlen : l0.length <= 8) (hi : i < l0.length) (hall : ∀ k (h : k < i), poddB l0[k] = false) (hodd : poddB l0[i] = true) :
  Calls Tryz.prog 102 #[.slice A0 l0.length c0, .func (.func 101) #[] #[]] w fun e w' => e = .returned (.int .i64 i) /\ Below w.heap.size w w' := by
 have HR0 := hZ hr0;have HA := hZ hall;have HO := hZ hodd;clear hr0 hall hodd;go_enter Tryz.func102, Tryz.ntmps102;go_wp2
 go_loopw [8] (fun v8 wr => ∃ k : Nat, v8 = .int .i64 k /\ k <= i /\ Hid (Below w.heap.size w wr)) (fun v8 _ => l0.length - (intOf v8).toNat)
 case atStart => exact ⟨0, rfl, Nat.zero_le _, Below.refl _ _⟩
 case round =>
  obtain ⟨k, rfl, hk, HB⟩ := hrel;have hlt : k < l0.length := by omega
  obtain ⟨ad, rfl, h0, h1⟩ := at_T72 (Kd.C_below HR0.out HB.out) (k : Int) (by omega) (by omega);rw [Int.toNat_natCast] at h0 h1;have D := fun w => podd_calls (rd_T72 l0 (k : Int)) w
  rw [show poddB (rd_T72 l0 (k : Int)) = poddB l0[k] by rw [rd72 hlt]] at D;by_cases hki : k < i
  ·rw [HA.out k hki] at D;generalize rd_T72 l0 (k : Int) = p at *;obtain ⟨p0, p1⟩ := p;dsimp only at h0 h1 D
   go_wp2_with (go_at_call 101; (with_reducible refine (D _).mono ?_); rintro e w' ⟨rfl, hB'⟩; have HB' := hZ (HB.out.trans (hB'.mono HB.out.size)); clear hB')
   go_roundw
   case rel => exact ⟨k + 1, by go_num, by omega, HB'⟩
   case measure => simp [intOf]; omega
  ·obtain rfl : k = i := by omega
   rw [HO.out] at D;generalize rd_T72 l0 (k : Int) = p at *;obtain ⟨p0, p1⟩ := p;dsimp only at h0 h1 D
   go_wp2_with (go_at_call 101; (with_reducible refine (D _).mono ?_); rintro e w' ⟨rfl, hB'⟩; have HB' := hZ (HB.out.trans (hB'.mono HB.out.size)); clear hB')
   go_ret;exact ⟨rfl, HB'.out⟩
theorem pfirst_odd (l : List S72) : (l.any poddB = false /\ ∀ k (h : k < l.length), poddB l[k] = false) \/ ∃ i, ∃ h : i < l.length, l.any poddB = true /\ (∀ k (h : k < i), poddB l[k] = false) /\ poddB l[i] = true := by
 by_cases h : l.any poddB = true
 ·right
  have hx : l.findIdx poddB < l.length := by
   rw [List.findIdx_lt_length];simpa using h
  exact ⟨l.findIdx poddB, hx, h, fun k hk => by simpa using List.not_of_lt_findIdx hk, List.findIdx_getElem⟩
 ·left;refine ⟨by simpa using h, fun k hk => ?_⟩;have := List.any_eq_false.1 (eq_false_of_ne_true h) l[k] (List.getElem_mem hk);simpa using this
theorem pcontains_calls (A0 : Option Addr) (c0 : Nat) (l0 : List S72) (w : World) (hr0 : Kd.C k72 w A0 l0.length l0) (hlen : l0.length <= 8) :
  Calls Tryz.prog 76 #[.slice A0 l0.length c0, .func (.func 101) #[] #[]] w fun e w' => e = .returned (.bool (l0.any poddB)) /\ Below w.heap.size w w' := by
 rcases pfirst_odd l0 with ⟨h1, h2⟩ | ⟨i, hi, h1, h2, h3⟩
 ·have D := pindex_no A0 c0 l0 w hr0 hlen h2;rw [h1];clear h1 h2 hr0;go_enter Tryz.func76, Tryz.ntmps76
  go_wp2_with (go_at_call 102; (with_reducible refine D.mono ?_); rintro e w' ⟨rfl, hB'⟩)
  go_ret;exact ⟨rfl, hB'⟩
 ·have D := pindex_yes A0 c0 l0 w i hr0 hlen hi h2 h3;rw [h1];clear h1 h2 h3 hr0;go_enter Tryz.func76, Tryz.ntmps76
  go_wp2_with (go_at_call 102; (with_reducible refine D.mono ?_); rintro e w' ⟨rfl, hB'⟩)
  go_ret;exact ⟨rfl, hB'⟩
def pgoodB (l : List S72) : Bool := decide (1 <= l.length) && decide (l.length <= 8) && !l.any poddB
theorem pgood_calls (A0 : Option Addr) (c0 : Nat) (l0 : List S72) (w : World) (hr0 : Kd.C k72 w A0 l0.length l0) :
  Calls Tryz.prog 75 #[.slice A0 l0.length c0] w fun e w' => e = .returned (.bool (pgoodB l0)) /\ Below w.heap.size w w' := by
 have hm := Kd.C_max hr0;by_cases h1 : l0.length < 1
 ·have e : pgoodB l0 = false := by unfold pgoodB; simp; omega
  rw [e];clear e hr0;go_enter Tryz.func75, Tryz.ntmps75;go_wp2;go_ret;exact ⟨rfl, Below.refl _ _⟩
 ·by_cases h2 : 8 < l0.length
  ·have e : pgoodB l0 = false := by unfold pgoodB; simp; omega
   rw [e];have h1' : 1 <= l0.length := by omega
   clear e hr0;go_enter Tryz.func75, Tryz.ntmps75;go_wp2;go_ret;exact ⟨rfl, Below.refl _ _⟩
  ·have D := pcontains_calls A0 c0 l0 w hr0 (by omega)
   have e : pgoodB l0 = !l0.any poddB := by
    unfold pgoodB;rw [decide_eq_true (by omega), decide_eq_true (by omega)]; rfl
   rw [e];have h1' : 1 <= l0.length := by omega
   have h2' : l0.length <= 8 := by omega
   clear e hr0 h1 h2;generalize l0.any poddB = b at *;go_enter Tryz.func75, Tryz.ntmps75
   go_wp2_with (go_at_call 76; (with_reducible refine D.mono ?_); rintro e w' ⟨rfl, hB'⟩)
   go_ret;exact ⟨rfl, hB'⟩
end Go.Proofs.YtfimkmlgnmaopaaGreat.Top
