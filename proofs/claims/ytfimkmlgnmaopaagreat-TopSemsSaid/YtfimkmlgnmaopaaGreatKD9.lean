/- Part 9 of what is proved of the functions that the law reaches (contracts of functions, plain laws): no condition but those that each theorem names. -/
import Derived.Test.YtfimkmlgnmaopaaGreatKD8
namespace Go.Proofs.YtfimkmlgnmaopaaGreat.Top
set_option maxHeartbeats 40000000
set_option maxRecDepth 100000
open Go.RowKit Go.Proofs.YtfimkmlgnmaopaaGreatW.PrintWords Go.Proofs.YtfimkmlgnmaopaaGreatW.PrintLast Go.Proofs.YtfimkmlgnmaopaaGreatW.PrintMore Go.Proofs.YtfimkmlgnmaopaaGreat.PTopNames
set_option linter.unusedVariables false
set_option linter.unusedSimpArgs false
def servV (x : S57) (p : Ref) : Value := .agg #[.int .i64 x.f0, .int .i64 x.f1.f0, .int .i64 x.f1.f1, .int .i64 x.f1.f2, .int .i64 x.f1.f3, .int .i64 x.f1.f4, .slice p.1 x.f2.length p.2, .int .i64 x.f3, .int .i64 x.f4, .int .i64 x.f5, .int .i64 x.f6]
theorem field47 (M now : Int) (A : Option Addr) (n c : Nat) (A2 : Option Addr) (n2 c2 : Nat) (A3 : Option Addr) (n3 c3 : Nat) (w : World) : Sem.run Tryz.prog (Instr.field 47 (.agg #[.int .i64 M, .int .i64 now, .slice A n c, .slice A2 n2 c2, .slice A3 n3 c3]) 2) w = .ok (.slice A n c) w := by kernel_rfl
theorem find_calls (M now : Int) (A : Option Addr) (l : List S57) (c : Nat) (A2 : Option Addr) (q : List S63) (c2 : Nat) (A3 : Option Addr) (c3 : Nat) (B : Bd) (i : Nat) (hi : i < l.length) (w : World) (hw : B.n <= w.heap.size) (hr : Rd w B A l A2 q) (hs : Sorted l) (hl : l.length <= 31) (hq : q.length <= 8) (hlj : ∀ i (h : i < l.length), l[i].f2.length <= 100000) (hqj : ∀ i (h : i < q.length), q[i].f2.length <= 100000) :
  Calls Tryz.prog 15 #[stV M now A l.length c A2 q.length c2 A3 c3, .int .i64 l[i].f0] w fun e w' => ∃ p, e = .returned (.tuple #[servV l[i] p, .bool true]) /\ Below w.heap.size w w' := by
 have DA := fun wx (hb : Below w.heap.size w wx) => at_calls M now A c l (.slice A2 q.length c2) (.slice A3 0 c3) l[i].f0 wx (hr.below hb).reads hs (by omega) ⟨_, _, _, rfl⟩ ⟨_, _, _, rfl⟩
 rw [ahead_at hs hi, isAt_at hi] at DA;have DC := fun wx (hb : Below w.heap.size w wx) => clone_calls M now A l c A2 q c2 A3 c3 B wx (Nat.le_trans hw hb.size) (hr.below hb) (by omega) (by omega) hlj hqj
 have i0 : (0 : Int) <= (i : Int) := by omega
 have i1 : (i : Int) < (l.length : Int) := by omega
 unfold stV at *;have HB0 := hZ (below_alloc (below_alloc (Below.refl w.heap.size w) (.cells #[.int .i64 M, .int .i64 now, .slice A l.length c, .slice A2 q.length c2, .slice A3 0 c3] 47)) (.cells #[.int .i64 0, .int .i64 0, .int .i64 0, .int .i64 0, .int .i64 0, .int .i64 0, .slice none 0 0, .int .i64 0, .int .i64 0, .int .i64 0, .int .i64 0] 57));have h2 := two_blocks (w := w) (x := #[.int .i64 M, .int .i64 now, .slice A l.length c, .slice A2 q.length c2, .slice A3 0 c3]) (y := #[.int .i64 0, .int .i64 0, .int .i64 0, .int .i64 0, .int .i64 0, .int .i64 0, .slice none 0 0, .int .i64 0, .int .i64 0, .int .i64 0, .int .i64 0]) (tx := 47) (ty := 57) (Below.refl _ _);have HX0 := hZ h2.1;have HZ0 := hZ h2.2.1;clear h2 hr hlj hqj hs;go_enter Tryz.func15, Tryz.ntmps15
 go_wp2_with (first
  | (go_at_call 32; (with_reducible refine (DA _ HB0.out).mono ?_); rintro e w1 ⟨rfl, hB1⟩; have HX1 := hZ (blk_below HX0.out hB1); have HZ1 := hZ (blk_below HZ0.out hB1); have HB1 := hZ (HB0.out.trans (hB1.mono HB0.out.size)); have x0 := (blk_cell HX1.out 0).trans rfl; have x1 := (blk_cell HX1.out 1).trans rfl; have x2 := (blk_cell HX1.out 2).trans rfl; have x3 := (blk_cell HX1.out 3).trans rfl; have x4 := (blk_cell HX1.out 4).trans rfl; clear hB1)
  | (go_at_call 25; (with_reducible refine (DC _ HB1.out).mono ?_); rintro e w4 ⟨o, A4, c4, rfl, hO4, _, _, _, hB4⟩; have HZ4 := hZ (blk_below HZ1.out hB4); have HB4 := hZ (HB1.out.trans (hB4.mono HB1.out.size)); obtain ⟨g, hg, _⟩ := hO4.row (by intro e; rw [e] at hi; simp at hi); obtain ⟨_, r0, r1, r2, r3, r4, r5, r6, r7, r8, r9, r10⟩ := hO4.cells hi hg; have HG := hZ hg; (try rw [hg]); have z0 := (blk_cell HZ4.out 0).trans rfl; have z1 := (blk_cell HZ4.out 1).trans rfl; have z2 := (blk_cell HZ4.out 2).trans rfl; have z3 := (blk_cell HZ4.out 3).trans rfl; have z4 := (blk_cell HZ4.out 4).trans rfl; have z5 := (blk_cell HZ4.out 5).trans rfl; have z6 := (blk_cell HZ4.out 6).trans rfl; have z7 := (blk_cell HZ4.out 7).trans rfl; have z8 := (blk_cell HZ4.out 8).trans rfl; have z9 := (blk_cell HZ4.out 9).trans rfl; have z10 := (blk_cell HZ4.out 10).trans rfl; have f0 := blk_frozen HZ4.out 0; have f1 := blk_frozen HZ4.out 1; have f2 := blk_frozen HZ4.out 2; have f3 := blk_frozen HZ4.out 3; have f4 := blk_frozen HZ4.out 4; have f5 := blk_frozen HZ4.out 5; have f6 := blk_frozen HZ4.out 6; have f7 := blk_frozen HZ4.out 7; have f8 := blk_frozen HZ4.out 8; have f9 := blk_frozen HZ4.out 9; have f10 := blk_frozen HZ4.out 10; have hfd := fun w => field47 M now (some ⟨g, 0, none⟩) l.length o.c o.A2 q.length o.c2 A4 0 c4 w; clear hO4 hB4 hg x0 x1 x2 x3 x4))
 have HS1 := hZ (blk_put (cs' := #[.int .i64 l[i].f0, .int .i64 0, .int .i64 0, .int .i64 0, .int .i64 0, .int .i64 0, .slice none 0 0, .int .i64 0, .int .i64 0, .int .i64 0, .int .i64 0]) HZ4.out 0 (.int .i64 l[i].f0) rfl);have HS2 := hZ (blk_put (cs' := #[.int .i64 l[i].f0, .int .i64 l[i].f1.f0, .int .i64 0, .int .i64 0, .int .i64 0, .int .i64 0, .slice none 0 0, .int .i64 0, .int .i64 0, .int .i64 0, .int .i64 0]) HS1.out 1 (.int .i64 l[i].f1.f0) rfl);have HS3 := hZ (blk_put (cs' := #[.int .i64 l[i].f0, .int .i64 l[i].f1.f0, .int .i64 l[i].f1.f1, .int .i64 0, .int .i64 0, .int .i64 0, .slice none 0 0, .int .i64 0, .int .i64 0, .int .i64 0, .int .i64 0]) HS2.out 2 (.int .i64 l[i].f1.f1) rfl);have HS4 := hZ (blk_put (cs' := #[.int .i64 l[i].f0, .int .i64 l[i].f1.f0, .int .i64 l[i].f1.f1, .int .i64 l[i].f1.f2, .int .i64 0, .int .i64 0, .slice none 0 0, .int .i64 0, .int .i64 0, .int .i64 0, .int .i64 0]) HS3.out 3 (.int .i64 l[i].f1.f2) rfl);have HS5 := hZ (blk_put (cs' := #[.int .i64 l[i].f0, .int .i64 l[i].f1.f0, .int .i64 l[i].f1.f1, .int .i64 l[i].f1.f2, .int .i64 l[i].f1.f3, .int .i64 0, .slice none 0 0, .int .i64 0, .int .i64 0, .int .i64 0, .int .i64 0]) HS4.out 4 (.int .i64 l[i].f1.f3) rfl);have HS6 := hZ (blk_put (cs' := #[.int .i64 l[i].f0, .int .i64 l[i].f1.f0, .int .i64 l[i].f1.f1, .int .i64 l[i].f1.f2, .int .i64 l[i].f1.f3, .int .i64 l[i].f1.f4, .slice none 0 0, .int .i64 0, .int .i64 0, .int .i64 0, .int .i64 0]) HS5.out 5 (.int .i64 l[i].f1.f4) rfl);have HS7 := hZ (blk_put (cs' := #[.int .i64 l[i].f0, .int .i64 l[i].f1.f0, .int .i64 l[i].f1.f1, .int .i64 l[i].f1.f2, .int .i64 l[i].f1.f3, .int .i64 l[i].f1.f4, .slice (o.r i).1 l[i].f2.length (o.r i).2, .int .i64 0, .int .i64 0, .int .i64 0, .int .i64 0]) HS6.out 6 (.slice (o.r i).1 l[i].f2.length (o.r i).2) rfl);have HS8 := hZ (blk_put (cs' := #[.int .i64 l[i].f0, .int .i64 l[i].f1.f0, .int .i64 l[i].f1.f1, .int .i64 l[i].f1.f2, .int .i64 l[i].f1.f3, .int .i64 l[i].f1.f4, .slice (o.r i).1 l[i].f2.length (o.r i).2, .int .i64 l[i].f3, .int .i64 0, .int .i64 0, .int .i64 0]) HS7.out 7 (.int .i64 l[i].f3) rfl);have HS9 := hZ (blk_put (cs' := #[.int .i64 l[i].f0, .int .i64 l[i].f1.f0, .int .i64 l[i].f1.f1, .int .i64 l[i].f1.f2, .int .i64 l[i].f1.f3, .int .i64 l[i].f1.f4, .slice (o.r i).1 l[i].f2.length (o.r i).2, .int .i64 l[i].f3, .int .i64 l[i].f4, .int .i64 0, .int .i64 0]) HS8.out 8 (.int .i64 l[i].f4) rfl);have HS10 := hZ (blk_put (cs' := #[.int .i64 l[i].f0, .int .i64 l[i].f1.f0, .int .i64 l[i].f1.f1, .int .i64 l[i].f1.f2, .int .i64 l[i].f1.f3, .int .i64 l[i].f1.f4, .slice (o.r i).1 l[i].f2.length (o.r i).2, .int .i64 l[i].f3, .int .i64 l[i].f4, .int .i64 l[i].f5, .int .i64 0]) HS9.out 9 (.int .i64 l[i].f5) rfl);have HS11 := hZ (blk_put (cs' := #[.int .i64 l[i].f0, .int .i64 l[i].f1.f0, .int .i64 l[i].f1.f1, .int .i64 l[i].f1.f2, .int .i64 l[i].f1.f3, .int .i64 l[i].f1.f4, .slice (o.r i).1 l[i].f2.length (o.r i).2, .int .i64 l[i].f3, .int .i64 l[i].f4, .int .i64 l[i].f5, .int .i64 l[i].f6]) HS10.out 10 (.int .i64 l[i].f6) rfl);have HT9 := hZ ((((((((((((Turn.refl w4 (fun b => b = w.heap.size + 1)).set rfl 0 (.int .i64 l[i].f0)).set rfl 1 (.int .i64 l[i].f1.f0)).set rfl 2 (.int .i64 l[i].f1.f1)).set rfl 3 (.int .i64 l[i].f1.f2)).set rfl 4 (.int .i64 l[i].f1.f3)).set rfl 5 (.int .i64 l[i].f1.f4)).set rfl 6 (.slice (o.r i).1 l[i].f2.length (o.r i).2)).set rfl 7 (.int .i64 l[i].f3)).set rfl 8 (.int .i64 l[i].f4)).set rfl 9 (.int .i64 l[i].f5)).set rfl 10 (.int .i64 l[i].f6));generalize hwf : World.setCell _ _ _ = wf at *;clear HS1 HS2 HS3 HS4 HS5 HS6 HS7 HS8 HS9 HS10 hwf;refine bodyPost_ret (results_ct rfl _ _ (w.heap.size + 1) 57 #[.int .i64 l[i].f0, .int .i64 l[i].f1.f0, .int .i64 l[i].f1.f1, .int .i64 l[i].f1.f2, .int .i64 l[i].f1.f3, .int .i64 l[i].f1.f4, .slice (o.r i).1 l[i].f2.length (o.r i).2, .int .i64 l[i].f3, .int .i64 l[i].f4, .int .i64 l[i].f5, .int .i64 l[i].f6] (0, 0) _ rfl HS11.out Tryz.underlying57 rfl (by kernel_rfl)) rfl ?_;exact ⟨o.r i, rfl, Turn.below HB4.out HT9.out (fun b e => by omega) HB4.out.size⟩
def sysC (M now : Int) (A : Option Addr) (n c : Nat) (A2 : Option Addr) (n2 c2 : Nat) (A4 : Option Addr) (c4 : Nat) (a5 a6 a7 v8 : Value) : Array Value := #[.int .i64 M, .int .i64 now, .slice A n c, .slice A2 n2 c2, .slice A4 0 c4, a5, a6, a7, v8]
theorem events_calls (N : Nat) (M now : Int) (A : Option Addr) (n c : Nat) (A2 : Option Addr) (n2 c2 : Nat) (A4 : Option Addr) (c4 : Nat) (a5 a6 a7 : Value) (A8 : Option Addr) (n8 c8 : Nat) (xs : List (List Value)) (w : World) (hN : w.heap[N]? = some (.cells (sysC M now A n c A2 n2 c2 A4 c4 a5 a6 a7 (.slice A8 n8 c8)) 83 (0, 0))) (hr : (Kd.raw 4).C w A8 n8 xs) (hl : n8 <= 100000) :
  Calls Tryz.prog 17 #[.pointer (some ⟨N, 0, none⟩)] w fun e w' => ∃ v, e = .returned v /\ (Kd.raw 4).R 67 w' w.heap.size (fun _ => True) v xs /\ w'.heap[N]? = some (.cells (sysC M now A n c A2 n2 c2 A4 c4 a5 a6 a7 (.slice none 0 0)) 83 (0, 0)) /\ Turn w w' (fun b => b = N) := by
 have HN := hZ hN;have HR := hZ hr;have hlt := blk_lt hN;have x8 : w.cell? ⟨N, 8, none⟩ = some (.slice A8 n8 c8) := (blk_cell hN 8).trans rfl;clear hN hr;go_enter Tryz.func17, Tryz.ntmps17
 go_upto_region 2 with (go_at_call 33; (with_reducible refine (clone67 A8 n8 c8 xs _ HR.out hl).mono ?_); rintro e w2 ⟨v, rfl, hR2, hB2⟩; have HR2 := hZ hR2; have HB2 := hZ hB2; have HN2 := hZ (blk_below HN.out hB2); have y8 : w2.cell? ⟨N, 8, none⟩ = some (.slice A8 n8 c8) := (blk_cell HN2.out 8).trans rfl; have f8 := blk_frozen HN2.out 8; clear hR2 hB2 x8)
 have HN3 := hZ (blk_put (cs' := sysC M now A n c A2 n2 c2 A4 c4 a5 a6 a7 (.slice none 0 0)) HN2.out 8 (.slice none 0 0) rfl);have HT3 := hZ ((Turn.refl w2 (fun b => b = N)).set rfl 8 (.slice none 0 0));go_wp2;generalize hws : World.setCell _ _ _ = w3 at *;clear hws y8 f8;go_ret;exact ⟨v, rfl, Kd.R_reok rfl (Kd.R_step (Kd.R_tight rfl HR2.out) (fun b hb hlt2 => HT3.out.block b hlt2 (fun e => by have := Kd.R_base HR2.out b hb.symm; omega))) (fun _ _ => trivial), HN3.out, (Turn.of_below _ HB2.out).trans HT3.out⟩
theorem state_calls (N : Nat) (M now : Int) (A : Option Addr) (l : List S57) (c : Nat) (A2 : Option Addr) (q : List S63) (c2 : Nat) (A3 : Option Addr) (c3 : Nat) (a5 a6 a7 v8 : Value) (B : Bd) (w : World) (hN : w.heap[N]? = some (.cells (sysC M now A l.length c A2 q.length c2 A3 c3 a5 a6 a7 v8) 83 (0, 0))) (hw : B.n <= w.heap.size) (hr : Rd w B A l A2 q) (hl : l.length <= 100000) (hq : q.length <= 100000) (hlj : ∀ i (h : i < l.length), l[i].f2.length <= 100000) (hqj : ∀ i (h : i < q.length), q[i].f2.length <= 100000) :
  Calls Tryz.prog 13 #[.pointer (some ⟨N, 0, none⟩)] w fun e w' => ∃ o A4 c4, e = .returned (stV M now o.A l.length o.c o.A2 q.length o.c2 A4 c4) /\ Own w' B l q o /\ (∀ cc b, o.own cc = some b -> w.heap.size < b) /\ Below w.heap.size w w' := by
 have DC := fun wx (hb : Below w.heap.size w wx) => clone_calls M now A l c A2 q c2 A3 c3 B wx (Nat.le_trans hw hb.size) (hr.below hb) hl hq hlj hqj
 unfold stV at *;have HB0 := hZ (below_alloc (Below.refl w.heap.size w) (.cells #[.int .i64 0, .int .i64 0, .slice none 0 0, .slice none 0 0, .slice none 0 0] 47));have HZ0 := hZ (blk_new w (.cells #[.int .i64 0, .int .i64 0, .slice none 0 0, .slice none 0 0, .slice none 0 0] 47));have HN0 := hZ (blk_below hN (below_alloc (Below.refl w.heap.size w) (.cells #[.int .i64 0, .int .i64 0, .slice none 0 0, .slice none 0 0, .slice none 0 0] 47)));have hs0 : (w.alloc (.cells #[.int .i64 0, .int .i64 0, .slice none 0 0, .slice none 0 0, .slice none 0 0] 47)).heap.size = w.heap.size + 1 := World.size_alloc _ _;generalize hw0 : w.alloc (.cells #[.int .i64 0, .int .i64 0, .slice none 0 0, .slice none 0 0, .slice none 0 0] 47) = w0 at *;have x0 : w0.cell? ⟨N, 0, none⟩ = some (.int .i64 M) := (blk_cell HN0.out 0).trans rfl;have x1 : w0.cell? ⟨N, 1, none⟩ = some (.int .i64 now) := (blk_cell HN0.out 1).trans rfl;have x2 : w0.cell? ⟨N, 2, none⟩ = some (.slice A l.length c) := (blk_cell HN0.out 2).trans rfl;have x3 : w0.cell? ⟨N, 3, none⟩ = some (.slice A2 q.length c2) := (blk_cell HN0.out 3).trans rfl;have x4 : w0.cell? ⟨N, 4, none⟩ = some (.slice A3 0 c3) := (blk_cell HN0.out 4).trans rfl;have HW0 := hZ hw0;clear hr hlj hqj hN hw0;go_enter Tryz.func13, Tryz.ntmps13
 go_upto_region 1 with fail
 rw [HW0.out]
 go_wp2_with (go_at_call 25; (with_reducible refine (DC _ HB0.out).mono ?_); rintro e w4 ⟨o, A4, c4, rfl, hO4, _, _, hown4, hB4⟩; have HO4 := hZ hO4; have HW4 := hZ hown4; have HZ4 := hZ (blk_below HZ0.out hB4); have HB4 := hZ (HB0.out.trans (hB4.mono HB0.out.size)); have z0 := (blk_cell HZ4.out 0).trans rfl; have z1 := (blk_cell HZ4.out 1).trans rfl; have z2 := (blk_cell HZ4.out 2).trans rfl; have z3 := (blk_cell HZ4.out 3).trans rfl; have z4 := (blk_cell HZ4.out 4).trans rfl; have f0 := blk_frozen HZ4.out 0; have f1 := blk_frozen HZ4.out 1; have f2 := blk_frozen HZ4.out 2; have f3 := blk_frozen HZ4.out 3; have f4 := blk_frozen HZ4.out 4; clear hO4 hown4 hB4)
 have HS := hZ (blk_put (cs' := #[.int .i64 M, .int .i64 now, .slice o.A l.length o.c, .slice o.A2 q.length o.c2, .slice A4 0 c4]) (blk_put (blk_put (blk_put (blk_put HZ4.out 0 (.int .i64 M) rfl) 1 (.int .i64 now) rfl) 2 (.slice o.A l.length o.c) rfl) 3 (.slice o.A2 q.length o.c2) rfl) 4 (.slice A4 0 c4) rfl);have HT := hZ (((((Turn.refl w4 (fun b => b = w.heap.size)).set rfl 0 (.int .i64 M)).set rfl 1 (.int .i64 now)).set rfl 2 (.slice o.A l.length o.c)).set rfl 3 (.slice o.A2 q.length o.c2) |>.set rfl 4 (.slice A4 0 c4));refine bodyPost_ret (results_cell_row rfl _ _ w.heap.size 47 #[.int .i64 M, .int .i64 now, .slice o.A l.length o.c, .slice o.A2 q.length o.c2, .slice A4 0 c4] (0, 0) _ rfl HS.out Tryz.underlying47 rfl (by kernel_rfl)) rfl ?_;generalize hwf : World.setCell _ _ _ = wf at *;exact ⟨o, A4, c4, rfl, HO4.out.keep HT.out (fun b e => by omega) (fun cc b hc e => by have := HW4.out cc b hc; omega), fun cc b hc => by have := HW4.out cc b hc; omega, Turn.below HB4.out HT.out (fun b e => by omega) HB4.out.size⟩
theorem sgo_calls (N : Nat) (M now n : Int) (A : Option Addr) (l : List S57) (c : Nat) (A2 : Option Addr) (q : List S63) (c2 : Nat) (A3 : Option Addr) (c3 : Nat) (a5 a6 a7 : Value) (AE : Option Addr) (nE cE : Nat) (E : List (List Value)) (base : Nat) (B : Bd) (F0 : Nat -> Prop) (w : World) (hN : w.heap[N]? = some (.cells (sysC M now A l.length c A2 q.length c2 A3 c3 a5 a6 a7 (.slice AE nE cE)) 83 (0, 0))) (hE : (Kd.raw 4).R 67 w base (fun _ => True) (.slice AE nE cE) E) (hEl : E.length <= 10000000) (hEN : (Value.slice AE nE cE).ownBlock ≠ some N) (hbase : base <= w.heap.size) (hB : B.n <= w.heap.size) (hF : RdF w F0 B A l A2 q) (hF0 : ∀ b, F0 b -> b < w.heap.size) (I : Int -> List S57 -> List S63 -> Prop) (hI : GoInv M (now + n) I) (h0 : I now l q) (hFN : ∀ b, F0 b -> b ≠ N /\ (Value.slice AE nE cE).ownBlock ≠ some b) (hGN : ∀ b, B.G b -> b ≠ N /\ (Value.slice AE nE cE).ownBlock ≠ some b) (hn : 0 <= n) (hn2 : n <= 1000) (hnow : 0 <= now) (hnow2 : now <= 1000000000) :
  Calls Tryz.prog 14 #[.pointer (some ⟨N, 0, none⟩), .int .i64 n] w fun e w' => ∃ A' c' A2' c2' A4 c4 A7 n7 c7 F, e = .returned .nilIface /\ w'.heap[N]? = some (.cells (sysC M (now + n) A' (goL n.toNat M now (now + n) l q).1.length c' A2' (goL n.toNat M now (now + n) l q).2.1.length c2' A4 c4 a5 a6 a7 (.slice A7 n7 c7)) 83 (0, 0)) /\ (Kd.raw 4).R 67 w' base (fun _ => True) (.slice A7 n7 c7) (E ++ (goL n.toNat M now (now + n) l q).2.2.map Ev.cells) /\ RdF w' F B A' (goL n.toNat M now (now + n) l q).1 A2' (goL n.toNat M now (now + n) l q).2.1 /\ (∀ b, F b -> (F0 b \/ w.heap.size <= b) /\ b < w'.heap.size /\ b ≠ N /\ (Value.slice A7 n7 c7).ownBlock ≠ some b) /\ ((Value.slice A7 n7 c7).ownBlock = (Value.slice AE nE cE).ownBlock \/ ∃ b, (Value.slice A7 n7 c7).ownBlock = some b /\ w.heap.size <= b) /\ I (now + n) (goL n.toNat M now (now + n) l q).1 (goL n.toNat M now (now + n) l q).2.1 /\ Turn w w' (fun b => b = N \/ some b = (Value.slice AE nE cE).ownBlock) := by
 have DG := fun wx (hb : Below w.heap.size w wx) => go_calls M now n A l c A2 q c2 A3 c3 B F0 wx (Nat.le_trans hB hb.size) (hF.below hb) (fun b h => Nat.lt_of_lt_of_le (hF0 b h) hb.size) I hI h0 hn hn2 hnow hnow2
 have HN := hZ hN;have HE := hZ hE;have x0 : w.cell? ⟨N, 0, none⟩ = some (.int .i64 M) := (blk_cell hN 0).trans rfl;have x1 : w.cell? ⟨N, 1, none⟩ = some (.int .i64 now) := (blk_cell hN 1).trans rfl;have x2 : w.cell? ⟨N, 2, none⟩ = some (.slice A l.length c) := (blk_cell hN 2).trans rfl;have x3 : w.cell? ⟨N, 3, none⟩ = some (.slice A2 q.length c2) := (blk_cell hN 3).trans rfl;have x4 : w.cell? ⟨N, 4, none⟩ = some (.slice A3 0 c3) := (blk_cell hN 4).trans rfl;obtain ⟨⟨l', q', ev⟩, hgo⟩ : ∃ r, goL n.toNat M now (now + n) l q = r := ⟨_, rfl⟩;rw [hgo] at DG;rw [hgo];dsimp only at DG;unfold stV at DG;clear hN hE hF hI h0 hgo;go_enter Tryz.func14, Tryz.ntmps14
 go_upto_region 2 with (go_at_call 31; (with_reducible refine (DG _ (Below.refl _ _)).mono ?_); rintro e w2 ⟨A', c', A2', c2', A4, c4, v, F, rfl, hR2, hF2, hE2, hl2, hI2, hB2⟩; have HR2 := hZ hR2; have HF2 := hZ hF2; have HE2 := hZ hE2; have HI2 := hZ hI2; have HB2 := hZ hB2; clear hR2 hF2 hE2 hI2 hB2)
 have HP := hZ (blk_new w2 (.cells #[.int .i64 M, .int .i64 (now + n), .slice A' l'.length c', .slice A2' q'.length c2', .slice A4 0 c4] 47));have HB23 : Hid (Below w2.heap.size w2 (w2.alloc (.cells #[.int .i64 M, .int .i64 (now + n), .slice A' l'.length c', .slice A2' q'.length c2', .slice A4 0 c4] 47))) := hZ (below_alloc (Below.refl _ _) _);clear DG x0 x1 x2 x3 x4;generalize hw3 : World.alloc _ _ = w3 at *;clear hw3;have HB3 := hZ (HB2.out.trans (HB23.out.mono HB2.out.size));have HN3 := hZ (blk_below HN.out HB3.out);have y0 := (blk_cell HP.out 0).trans rfl;have y1 := (blk_cell HP.out 1).trans rfl;have y2 := (blk_cell HP.out 2).trans rfl;have y3 := (blk_cell HP.out 3).trans rfl;have y4 := (blk_cell HP.out 4).trans rfl;have z0 : w3.cell? ⟨N, 0, none⟩ = some (.int .i64 M) := (blk_cell HN3.out 0).trans rfl;have z1 : w3.cell? ⟨N, 1, none⟩ = some (.int .i64 now) := (blk_cell HN3.out 1).trans rfl;have z2 : w3.cell? ⟨N, 2, none⟩ = some (.slice A l.length c) := (blk_cell HN3.out 2).trans rfl;have z3 : w3.cell? ⟨N, 3, none⟩ = some (.slice A2 q.length c2) := (blk_cell HN3.out 3).trans rfl;have z4 : w3.cell? ⟨N, 4, none⟩ = some (.slice A3 0 c3) := (blk_cell HN3.out 4).trans rfl;have f0 := blk_frozen HN3.out 0;have f1 := blk_frozen HN3.out 1;have f2 := blk_frozen HN3.out 2;have f3 := blk_frozen HN3.out 3;have f4 := blk_frozen HN3.out 4
 go_upto_region 5 with fail
 have HN4 := hZ (blk_put (cs' := sysC M (now + n) A' l'.length c' A2' q'.length c2' A4 c4 a5 a6 a7 (.slice AE nE cE)) (blk_put (blk_put (blk_put (blk_put HN3.out 0 (.int .i64 M) rfl) 1 (.int .i64 (now + n)) rfl) 2 (.slice A' l'.length c') rfl) 3 (.slice A2' q'.length c2') rfl) 4 (.slice A4 0 c4) rfl);have HT4 := hZ ((((((Turn.refl w3 (fun b => b = N)).set rfl 0 (.int .i64 M)).set rfl 1 (.int .i64 (now + n))).set rfl 2 (.slice A' l'.length c')).set rfl 3 (.slice A2' q'.length c2')).set rfl 4 (.slice A4 0 c4));generalize hws : World.setCell _ _ _ = w4 at *;clear hws y0 y1 y2 y3 y4 z0 z1 z2 z3 z4 f0 f1 f2 f3 f4;have hNw : N < w.heap.size := blk_lt HN.out;have hs3 := HB3.out.size;have hs4 := HT4.out.size;have HE4 : Hid ((Kd.raw 4).R 67 w4 base (fun _ => True) (.slice AE nE cE) E) := hZ (Kd.R_reok rfl (Kd.R_step (Kd.R_tight rfl (Kd.R_below HE.out HB3.out)) (fun b hb hlt => HT4.out.block b hlt (fun e => by subst e; exact hEN hb.symm))) (fun _ _ => trivial));have HV4 : (Kd.raw 4).R 67 w4 w.heap.size (fun _ => True) v (ev.map Ev.cells) := Kd.R_reok rfl (Kd.R_step (Kd.R_tight rfl (Kd.R_below HE2.out HB23.out)) (fun b hb hlt => HT4.out.block b hlt (fun e => by have := Kd.R_base HE2.out b hb.symm; omega))) (fun _ _ => trivial);obtain ⟨AV, cV, rfl, hcV, hCV⟩ := Kd.R_reads HV4;have HCV := hZ hCV;have x8 : w4.cell? ⟨N, 8, none⟩ = some (.slice AE nE cE) := (blk_cell HN4.out 8).trans rfl;have hb4 : base <= w4.heap.size := by omega
 have hev : (ev.map Ev.cells).length <= 1000000 := by rw [List.length_map]; omega
 generalize hes : ev.map Ev.cells = es at *;have HES := hZ hes;clear hes hCV HV4
 go_upto_region 6 with ((with_reducible refine gate_builtin (b := .append) (xs := #[.tmp 30, .tmp 31]) rfl ?_); at_builtin; refine Kd.R_append_rows (Kd.raw 4) (Rr := (Kd.raw 4).K w4) (okp := fun _ => False) (w0 := w4) base rfl (.tmp 30) (.tmp 31) 48 67 (.agg #[.int .i64 0, .int .i64 0, .int .i64 0, .int .i64 0]) 32 rfl Tryz.underlying48 info67 rfl (by decide) (by omega) (.slice AE nE cE) E es AV es.length cV (fun _ => True) rfl rfl HE4.out ?hC (fun _ _ h => h) (fun _ h => h.elim) (fun _ _ => trivial) (Below.refl _ _) hb4 ?aL ?_; (case hC => exact HCV.out); (case aL => omega); intro v5 w5 hR5 hB5 hg5 hat5; obtain ⟨A7, c7, e7⟩ := Kd.R_slice hR5; rw [List.length_append] at e7; subst e7; have HR5 := hZ hR5; have HT5 := hZ (grown_turn hg5); have HAT5 := hZ hat5; have HN5 := hZ ((HT5.out.block N (by omega) (fun e => hEN e.symm)).trans HN4.out); have y8 : w5.cell? ⟨N, 8, none⟩ = some (.slice AE nE cE) := ((blk_cell HN5.out 8).trans rfl); have f8 := blk_frozen HN5.out 8; clear hR5 hB5 hg5 hat5 x8)
 have HN6 := hZ (blk_put (cs' := sysC M (now + n) A' l'.length c' A2' q'.length c2' A4 c4 a5 a6 a7 (.slice A7 (E.length + es.length) c7)) HN5.out 8 (.slice A7 (E.length + es.length) c7) rfl);have HT6 := hZ ((Turn.refl w5 (fun b => b = N)).set rfl 8 (.slice A7 (E.length + es.length) c7));generalize hws : World.setCell _ _ _ = w6 at *;clear hws y8 f8;go_wp2;go_ret;have hs5 := HT5.out.size;have hs6 := HT6.out.size;have hs23 := HB23.out.size;have hEl2 : ∀ b, (Value.slice AE nE cE).ownBlock = some b -> b < w.heap.size := fun b e => Kd.R_lt HE.out b e
 have hn7 : (Value.slice A7 (E.length + es.length) c7).ownBlock ≠ some N := fun e => by
  rcases HAT5.out with h | ⟨b, h, hle⟩
  ·exact hEN (h ▸ e)
  ·rw [h] at e; injection e with e; omega
 have hFb : ∀ b, F b -> b ≠ N /\ (Value.slice AE nE cE).ownBlock ≠ some b := fun b h => by
  rcases (HF2.out b h).1 with h1 | h1
  ·exact hFN b h1
  ·exact ⟨by omega, fun e => by have := hEl2 b e; omega⟩
 have hT26 : Turn w2 w6 (fun b => b = N \/ some b = (Value.slice AE nE cE).ownBlock) := (((Turn.of_below _ HB23.out).trans (HT4.out.imp (fun b e => .inl e))).trans (HT5.out.imp (fun b e => .inr e))).trans (HT6.out.imp (fun b e => .inl e));refine ⟨A', c', A2', c2', A4, c4, A7, _, c7, F, rfl, HN6.out, ?_, HR2.out.keep hT26 (fun b e => ⟨fun h => e.elim (hFb b h).1 (fun e => (hFb b h).2 e.symm), fun h => e.elim (hGN b h).1 (fun e => (hGN b h).2 e.symm)⟩), fun b h => ⟨(HF2.out b h).1, by have := (HF2.out b h).2.1; omega, (hFb b h).1, fun e => ?_⟩, HAT5.out.imp (fun h => h) (fun ⟨b, h1, h2⟩ => ⟨b, h1, by omega⟩), HI2.out, (Turn.of_below _ HB2.out).trans hT26⟩
 ·rw [HES.out];exact Kd.R_reok rfl (Kd.R_step (Kd.R_tight rfl HR5.out) (fun b hb hlt => HT6.out.block b hlt (fun e => by subst e; exact hn7 hb.symm))) (fun _ _ => trivial)
 ·rcases HAT5.out with h2 | ⟨b2, h2, hle⟩
  ·exact (hFb b h).2 (h2 ▸ e)
  ·rw [h2] at e; injection e with e; have := (HF2.out b h).2.1; omega
def sfindw.T4 : Bool × List (List Nat × List Nat) := (true, [([], []), ([0], [0]), ([1], [1]), ([2], [2]), ([], []), ([4], [4]), ([3, 5, 5], [3, 5]), ([6], [6]), ([7], [7]), ([7], [7]), ([], []), ([10, 8, 6, 0, 1, 2, 3, 4, 5, 6, 7, 8, 10], [8, 10]), ([9, 11, 0, 1, 2, 3, 4, 5, 6, 7, 8, 9, 10, 11], [9])])
def sfindw.B4 : List Nat := [0, 1, 3, 7, 0, 16, 63, 127, 255, 255, 0, 1535, 4095]
theorem sfindw.tab4 : rtab .any (opsOf Tryz.f23 4) = sfindw.T4 := by kernel_rfl
theorem sfindw.bits4 : waitsOk sfindw.T4.2 sfindw.B4 = true := by kernel_rfl
theorem put57 {w : World} {b t : Nat} {z0 z1 z2 z3 z4 z5 z6 z7 z8 z9 z10 : Value} (h : w.heap[b]? = some (.cells #[z0, z1, z2, z3, z4, z5, z6, z7, z8, z9, z10] t (0, 0))) (v0 v1 v2 v3 v4 v5 v6 v7 v8 v9 v10 : Value) : ((((((((((((w.setCell ⟨b, 0, none⟩ v0).setCell ⟨b, 1, none⟩ v1).setCell ⟨b, 2, none⟩ v2).setCell ⟨b, 3, none⟩ v3).setCell ⟨b, 4, none⟩ v4).setCell ⟨b, 5, none⟩ v5).setCell ⟨b, 6, none⟩ v6).setCell ⟨b, 7, none⟩ v7).setCell ⟨b, 8, none⟩ v8).setCell ⟨b, 9, none⟩ v9).setCell ⟨b, 10, none⟩ v10)).heap[b]? = some (.cells #[v0, v1, v2, v3, v4, v5, v6, v7, v8, v9, v10] t (0, 0)) :=
 (blk_put (cs' := #[v0, v1, v2, v3, v4, v5, v6, v7, v8, v9, v10]) (blk_put (cs' := #[v0, v1, v2, v3, v4, v5, v6, v7, v8, v9, z10]) (blk_put (cs' := #[v0, v1, v2, v3, v4, v5, v6, v7, v8, z9, z10]) (blk_put (cs' := #[v0, v1, v2, v3, v4, v5, v6, v7, z8, z9, z10]) (blk_put (cs' := #[v0, v1, v2, v3, v4, v5, v6, z7, z8, z9, z10]) (blk_put (cs' := #[v0, v1, v2, v3, v4, v5, z6, z7, z8, z9, z10]) (blk_put (cs' := #[v0, v1, v2, v3, v4, z5, z6, z7, z8, z9, z10]) (blk_put (cs' := #[v0, v1, v2, v3, z4, z5, z6, z7, z8, z9, z10]) (blk_put (cs' := #[v0, v1, v2, z3, z4, z5, z6, z7, z8, z9, z10]) (blk_put (cs' := #[v0, v1, z2, z3, z4, z5, z6, z7, z8, z9, z10]) (blk_put (cs' := #[v0, z1, z2, z3, z4, z5, z6, z7, z8, z9, z10]) h 0 v0 rfl) 1 v1 rfl) 2 v2 rfl) 3 v3 rfl) 4 v4 rfl) 5 v5 rfl) 6 v6 rfl) 7 v7 rfl) 8 v8 rfl) 9 v9 rfl) 10 v10 rfl)
theorem turn57 (w : World) (b : Nat) (v0 v1 v2 v3 v4 v5 v6 v7 v8 v9 v10 : Value) : Turn w ((((((((((((w.setCell ⟨b, 0, none⟩ v0).setCell ⟨b, 1, none⟩ v1).setCell ⟨b, 2, none⟩ v2).setCell ⟨b, 3, none⟩ v3).setCell ⟨b, 4, none⟩ v4).setCell ⟨b, 5, none⟩ v5).setCell ⟨b, 6, none⟩ v6).setCell ⟨b, 7, none⟩ v7).setCell ⟨b, 8, none⟩ v8).setCell ⟨b, 9, none⟩ v9).setCell ⟨b, 10, none⟩ v10)) (fun x => x = b) :=
 ((((((((((((Turn.refl w (fun x => x = b)).set rfl 0 v0).set rfl 1 v1).set rfl 2 v2).set rfl 3 v3).set rfl 4 v4).set rfl 5 v5).set rfl 6 v6).set rfl 7 v7).set rfl 8 v8).set rfl 9 v9).set rfl 10 v10)
theorem sfind_calls (N Nn Ns nn : Nat) (M now : Int) (A : Option Addr) (l : List S57) (c : Nat) (A2 : Option Addr) (q : List S63) (c2 : Nat) (A3 : Option Addr) (c3 : Nat) (a5 a7 v8 : Value) (B : Bd) (i : Nat) (hi : i < l.length) (w : World) (hN : w.heap[N]? = some (.cells (sysC M now A l.length c A2 q.length c2 A3 c3 a5 (.pointer (some ⟨Nn, 0, none⟩)) a7 v8) 83 (0, 0))) (ht : TabAt w Nn Ns nn) (hin : i < nn) (hw : B.n <= w.heap.size) (hr : Rd w B A l A2 q) (hs : Sorted l) (hid : l[i].f0 = (i : Int) + 1) (hl : l.length <= 31) (hq : q.length <= 8) (hlj : ∀ i (h : i < l.length), l[i].f2.length <= 100000) (hqj : ∀ i (h : i < q.length), q[i].f2.length <= 100000) :
  Calls Tryz.prog 23 #[.pointer (some ⟨N, 0, none⟩), .int .u32 i] w fun e w' => ∃ p, e = .returned (.tuple #[servV l[i] p, .int .i64 0]) /\ Below w.heap.size w w' := by
 have hi32 : i < 32 := by omega
 have DI := fun wx (hb : Below w.heap.size w wx) => is_calls Nn Ns nn i wx (ht.below hb) hin
 have DD := fun wx => nid_calls i wx hi32
 have DF := fun wx (hb : Below w.heap.size w wx) id (e : l[i].f0 = id) => (by subst e; exact find_calls M now A l c A2 q c2 A3 c3 B i hi wx (Nat.le_trans hw hb.size) (hr.below hb) hs hl hq hlj hqj : Calls Tryz.prog 15 #[stV M now A l.length c A2 q.length c2 A3 c3, .int .i64 id] wx fun e w' => ∃ p, e = .returned (.tuple #[servV l[i] p, .bool true]) /\ Below wx.heap.size wx w')
 have HID := hZ hid;have HB0 := hZ (below_alloc (Below.refl w.heap.size w) (.cells #[.int .i64 0, .int .i64 0, .int .i64 0, .int .i64 0, .int .i64 0, .int .i64 0, .slice none 0 0, .int .i64 0, .int .i64 0, .int .i64 0, .int .i64 0] 57));have HZ0 := hZ (blk_new w (.cells #[.int .i64 0, .int .i64 0, .int .i64 0, .int .i64 0, .int .i64 0, .int .i64 0, .slice none 0 0, .int .i64 0, .int .i64 0, .int .i64 0, .int .i64 0] 57));have HN0 := hZ (blk_below hN (below_alloc (Below.refl w.heap.size w) (.cells #[.int .i64 0, .int .i64 0, .int .i64 0, .int .i64 0, .int .i64 0, .int .i64 0, .slice none 0 0, .int .i64 0, .int .i64 0, .int .i64 0, .int .i64 0] 57)));have hs0 : (w.alloc (.cells #[.int .i64 0, .int .i64 0, .int .i64 0, .int .i64 0, .int .i64 0, .int .i64 0, .slice none 0 0, .int .i64 0, .int .i64 0, .int .i64 0, .int .i64 0] 57)).heap.size = w.heap.size + 1 := World.size_alloc _ _;generalize hw0 : w.alloc (.cells #[.int .i64 0, .int .i64 0, .int .i64 0, .int .i64 0, .int .i64 0, .int .i64 0, .slice none 0 0, .int .i64 0, .int .i64 0, .int .i64 0, .int .i64 0] 57) = w0 at *;have x6 : w0.cell? ⟨N, 6, none⟩ = some (.pointer (some ⟨Nn, 0, none⟩)) := (blk_cell HN0.out 6).trans rfl;have HW0 := hZ hw0;unfold stV servV at *;clear hr hlj hqj hs hN ht hw hid hl hq hw0;go_enter Tryz.func23, Tryz.ntmps23
 go_upto_region 1 with fail
 rw [HW0.out]
 go_upto_region 4 with (go_at_call 41; (with_reducible refine (DI _ HB0.out).mono ?_); rintro e w1 ⟨rfl, hB1⟩; have HN1 := hZ (blk_below HN0.out hB1); have HZ1 := hZ (blk_below HZ0.out hB1); have HB1 := hZ (HB0.out.trans (hB1.mono HB0.out.size)); clear hB1 x6)
 clear HB0 HZ0 HN0;refine start_ (n := 13) (S := fun w' => Hid (Below w1.heap.size w1 w')) (ds := [11]) #[false, false, false, false, false, false, false, false, false, false, false, false, false] (by kernel_rfl) rfl rfl ((hZ (below_drew (Below.refl _ _)))) (fun hHeld => ?_);refine with_tabW sfindw.tab4 sfindw.bits4 (fun HT_ HW_ => ?_);have hbd : Hid (Below w1.heap.size w1 w1.drew) := hZ ⟨rfl, rfl, rfl, Nat.le_refl _, fun _ _ => rfl⟩;have hsd : w1.heap.size = w1.drew.heap.size := rfl;generalize hwd : w1.drew = wd at *;clear hwd;refine pst 0 (some 20) HT_ ?_;refine pst 1 (some 21) HT_ ?_;refine pst 2 (some 22) HT_ ?_;refine pst 4 (some 24) HT_ ?_;refine tst 3 (some 23) HT_ HW_ hHeld ?_ (hy := by (intro w' s0; have y0 : w'.cell? ⟨N, 0, none⟩ = some (.int .i64 M) := (blk_cell (blk_below HN1.out s0.out) 0).trans rfl; have y1 : w'.cell? ⟨N, 1, none⟩ = some (.int .i64 now) := (blk_cell (blk_below HN1.out s0.out) 1).trans rfl; have y2 : w'.cell? ⟨N, 2, none⟩ = some (.slice A l.length c) := (blk_cell (blk_below HN1.out s0.out) 2).trans rfl; have y3 : w'.cell? ⟨N, 3, none⟩ = some (.slice A2 q.length c2) := (blk_cell (blk_below HN1.out s0.out) 3).trans rfl; have y4 : w'.cell? ⟨N, 4, none⟩ = some (.slice A3 0 c3) := (blk_cell (blk_below HN1.out s0.out) 4).trans rfl); go_simp; with_reducible rfl);refine join_ (σ := Nat × Ref) 2 #[true, true, true, true, true, true, true, true, true, true, true, false, false] (fun s => [(25, .int .i64 ((i : Int) + 1)), (26, .tuple #[.agg #[.int .i64 l[i].f0, .int .i64 l[i].f1.f0, .int .i64 l[i].f1.f1, .int .i64 l[i].f1.f2, .int .i64 l[i].f1.f3, .int .i64 l[i].f1.f4, .slice s.2.1 l[i].f2.length s.2.2, .int .i64 l[i].f3, .int .i64 l[i].f4, .int .i64 l[i].f5, .int .i64 l[i].f6], .bool true]), (19, .tuple #[.agg #[.int .i64 l[i].f0, .int .i64 l[i].f1.f0, .int .i64 l[i].f1.f1, .int .i64 l[i].f1.f2, .int .i64 l[i].f1.f3, .int .i64 l[i].f1.f4, .slice s.2.1 l[i].f2.length s.2.2, .int .i64 l[i].f3, .int .i64 l[i].f4, .int .i64 l[i].f5, .int .i64 l[i].f6], .bool true]), (27, .agg #[.int .i64 l[i].f0, .int .i64 l[i].f1.f0, .int .i64 l[i].f1.f1, .int .i64 l[i].f1.f2, .int .i64 l[i].f1.f3, .int .i64 l[i].f1.f4, .slice s.2.1 l[i].f2.length s.2.2, .int .i64 l[i].f3, .int .i64 l[i].f4, .int .i64 l[i].f5, .int .i64 l[i].f6]), (28, .bool true), (7, .pointer (some ⟨s.1, 0, none⟩))]) (fun s w' => Hid (w'.heap[s.1]? = some (.cells #[.int .i64 0, .int .i64 0, .int .i64 0, .int .i64 0, .int .i64 0, .int .i64 0, .slice none 0 0, .int .i64 0, .int .i64 0, .int .i64 0, .int .i64 0] 57 (0, 0))) /\ Hid (Below w1.heap.size w1 w') /\ Hid (w1.heap.size <= s.1)) ?_ ?_;rotate_left
 ·intro hCont;refine two_ (i := 5) (j := 10) (Ni := some 25) (Nj := some 7) #[true, true, true, true, true, true, false, false, false, false, false, false, false] #[true, true, true, true, true, false, false, false, false, false, true, false, false] rfl rfl rfl rfl (two_of HT_.out (by kernel_rfl)) (by decide) (by decide) (fun K hK => ?_) (fun K hK => ?_)
  ·skip
   refine goes_ Tryz.func42 (by kernel_rfl) rfl #[.int .u32 i] (by rfl) rfl rfl (by simp only [List.map_toArray, List.map_cons, List.map_nil]; rfl) ?_;with_reducible refine (DD _).mono ?_;rintro e w14 ⟨rfl, rfl⟩;refine ⟨_, rfl, ?_⟩;refine hK.out _ _ (hHeld) (fun hHeld => ?_);clear hK K;refine norm_ (a' := ?_) ?_ ?_;rotate_left
   ·show Act.put _ (some 25) _ = _;simp only [Act.put, List.setIfInBounds_toArray, List.set_cons_zero, List.set_cons_succ, i64_w, i32_w];rfl
   refine two_ (i := 6) (j := 10) (Ni := some 26) (Nj := some 7) #[true, true, true, true, true, true, true, false, false, false, false, false, false] #[true, true, true, true, true, true, false, false, false, false, true, false, false] rfl rfl rfl rfl (two_of HT_.out (by kernel_rfl)) (by decide) (by decide) (fun K hK => ?_) (fun K hK => ?_)
   ·skip
    refine goes_ Tryz.func15 (by kernel_rfl) rfl #[.agg #[.int .i64 M, .int .i64 now, .slice A l.length c, .slice A2 q.length c2, .slice A3 0 c3], .int .i64 ((i : Int) + 1)] (by rfl) rfl rfl (by simp only [List.map_toArray, List.map_cons, List.map_nil]; rfl) ?_;with_reducible refine (DF _ (HB1.out.trans (hHeld.out.mono HB1.out.size)) _ HID.out).mono ?_;rintro e w15 ⟨p, rfl, hB15⟩;refine ⟨_, rfl, ?_⟩;refine hK.out _ _ ((hZ (hHeld.out.trans (hB15.mono hHeld.out.size)))) (fun hHeld => ?_);clear hK K;refine norm_ (a' := ?_) ?_ ?_;rotate_left
    ·show Act.put _ (some 26) _ = _;simp only [Act.put, List.setIfInBounds_toArray, List.set_cons_zero, List.set_cons_succ, i64_w, i32_w];rfl
    refine pst 7 (some 19) HT_ ?_;refine pst 8 (some 27) HT_ ?_;refine pst 9 (some 28) HT_ ?_;refine one_ (i := 10) (N := some 7) #[true, true, true, true, true, true, true, true, true, true, true, false, false] rfl rfl (one_of HT_.out (by kernel_rfl)) (by decide) (fun K hK => ?_);refine value_ (w1 := ?_) (v := ?_) (by rfl) rfl ?_ ?_;rotate_left 2
    ·go_simp;constructor
     ·rfl
     ·rfl
    refine hK.out _ _ ((hZ (hHeld.out.trans ((below_alloc (Below.refl _ _) _).mono hHeld.out.size)))) (fun hHeld => ?_);clear hK K;refine norm_ (a' := ?_) ?_ ?_;rotate_left
    ·show Act.put _ (some 7) _ = _;simp only [Act.put, List.setIfInBounds_toArray, List.set_cons_zero, List.set_cons_succ, i64_w, i32_w];rfl
    exact norm_ (by simp only [putAll, Act.put, List.setIfInBounds_toArray, List.set_cons_zero, List.set_cons_succ]) (hCont (w15.heap.size, p) _ ⟨hZ (blk_new w15 _), hHeld, hZ (by have := hB15.size; omega)⟩)
   ·skip
    refine value_ (w1 := ?_) (v := ?_) (by rfl) rfl ?_ ?_;rotate_left 2
    ·go_simp;constructor
     ·rfl
     ·rfl
    refine hK.out _ _ ((hZ (hHeld.out.trans ((below_alloc (Below.refl _ _) _).mono hHeld.out.size)))) (fun hHeld => ?_);clear hK K;refine norm_ (a' := ?_) ?_ ?_;rotate_left
    ·show Act.put _ (some 7) _ = _;simp only [Act.put, List.setIfInBounds_toArray, List.set_cons_zero, List.set_cons_succ, i64_w, i32_w];rfl
    refine one_ (i := 6) (N := some 26) #[true, true, true, true, true, true, true, false, false, false, true, false, false] rfl rfl (one_of HT_.out (by kernel_rfl)) (by decide) (fun K hK => ?_);refine goes_ Tryz.func15 (by kernel_rfl) rfl #[.agg #[.int .i64 M, .int .i64 now, .slice A l.length c, .slice A2 q.length c2, .slice A3 0 c3], .int .i64 ((i : Int) + 1)] (by rfl) rfl rfl (by simp only [List.map_toArray, List.map_cons, List.map_nil]; rfl) ?_;with_reducible refine (DF _ (HB1.out.trans (hHeld.out.mono HB1.out.size)) _ HID.out).mono ?_;rintro e w15 ⟨p, rfl, hB15⟩;refine ⟨_, rfl, ?_⟩;refine hK.out _ _ ((hZ (hHeld.out.trans (hB15.mono hHeld.out.size)))) (fun hHeld => ?_);clear hK K;refine norm_ (a' := ?_) ?_ ?_;rotate_left
    ·show Act.put _ (some 26) _ = _;simp only [Act.put, List.setIfInBounds_toArray, List.set_cons_zero, List.set_cons_succ, i64_w, i32_w];rfl
    refine pst 7 (some 19) HT_ ?_;refine pst 8 (some 27) HT_ ?_;refine pst 9 (some 28) HT_ ?_;exact norm_ (by simp only [putAll, Act.put, List.setIfInBounds_toArray, List.set_cons_zero, List.set_cons_succ]) (hCont (wd.heap.size, p) _ ⟨hZ (blk_below (blk_new wd _) hB15), hHeld, hZ (by omega)⟩)
  ·skip
   refine value_ (w1 := ?_) (v := ?_) (by rfl) rfl ?_ ?_;rotate_left 2
   ·go_simp;constructor
    ·rfl
    ·rfl
   refine hK.out _ _ ((hZ (hHeld.out.trans ((below_alloc (Below.refl _ _) _).mono hHeld.out.size)))) (fun hHeld => ?_);clear hK K;refine norm_ (a' := ?_) ?_ ?_;rotate_left
   ·show Act.put _ (some 7) _ = _;simp only [Act.put, List.setIfInBounds_toArray, List.set_cons_zero, List.set_cons_succ, i64_w, i32_w];rfl
   refine one_ (i := 5) (N := some 25) #[true, true, true, true, true, true, false, false, false, false, true, false, false] rfl rfl (one_of HT_.out (by kernel_rfl)) (by decide) (fun K hK => ?_);refine goes_ Tryz.func42 (by kernel_rfl) rfl #[.int .u32 i] (by rfl) rfl rfl (by simp only [List.map_toArray, List.map_cons, List.map_nil]; rfl) ?_;with_reducible refine (DD _).mono ?_;rintro e w14 ⟨rfl, rfl⟩;refine ⟨_, rfl, ?_⟩;refine hK.out _ _ (hHeld) (fun hHeld => ?_);clear hK K;refine norm_ (a' := ?_) ?_ ?_;rotate_left
   ·show Act.put _ (some 25) _ = _;simp only [Act.put, List.setIfInBounds_toArray, List.set_cons_zero, List.set_cons_succ, i64_w, i32_w];rfl
   refine one_ (i := 6) (N := some 26) #[true, true, true, true, true, true, true, false, false, false, true, false, false] rfl rfl (one_of HT_.out (by kernel_rfl)) (by decide) (fun K hK => ?_);refine goes_ Tryz.func15 (by kernel_rfl) rfl #[.agg #[.int .i64 M, .int .i64 now, .slice A l.length c, .slice A2 q.length c2, .slice A3 0 c3], .int .i64 ((i : Int) + 1)] (by rfl) rfl rfl (by simp only [List.map_toArray, List.map_cons, List.map_nil]; rfl) ?_;with_reducible refine (DF _ (HB1.out.trans (hHeld.out.mono HB1.out.size)) _ HID.out).mono ?_;rintro e w15 ⟨p, rfl, hB15⟩;refine ⟨_, rfl, ?_⟩;refine hK.out _ _ ((hZ (hHeld.out.trans (hB15.mono hHeld.out.size)))) (fun hHeld => ?_);clear hK K;refine norm_ (a' := ?_) ?_ ?_;rotate_left
   ·show Act.put _ (some 26) _ = _;simp only [Act.put, List.setIfInBounds_toArray, List.set_cons_zero, List.set_cons_succ, i64_w, i32_w];rfl
   refine pst 7 (some 19) HT_ ?_;refine pst 8 (some 27) HT_ ?_;refine pst 9 (some 28) HT_ ?_;exact norm_ (by simp only [putAll, Act.put, List.setIfInBounds_toArray, List.set_cons_zero, List.set_cons_succ]) (hCont (wd.heap.size, p) _ ⟨hZ (blk_below (blk_new wd _) hB15), hHeld, hZ (by omega)⟩)
 rintro ⟨sb, pr⟩ w16 ⟨hA6, hB6, hS6⟩;have hHeld : Hid (Below w1.heap.size w1 w16) := hB6;refine norm_ (a' := ?_) ?_ ?_;rotate_left
 ·simp only [putAll, Act.put, List.setIfInBounds_toArray, List.set_cons_zero, List.set_cons_succ];rfl
 refine last_ (i := 11) (N := none) #[true, true, true, true, true, true, true, true, true, true, true, true, false] rfl rfl (one_of HT_.out (by kernel_rfl)) (by decide) (fun K hK => ?_);have z0 := (blk_cell hA6.out 0).trans rfl;have f0 := blk_frozen hA6.out 0;have z1 := (blk_cell hA6.out 1).trans rfl;have f1 := blk_frozen hA6.out 1;have z2 := (blk_cell hA6.out 2).trans rfl;have f2 := blk_frozen hA6.out 2;have z3 := (blk_cell hA6.out 3).trans rfl;have f3 := blk_frozen hA6.out 3;have z4 := (blk_cell hA6.out 4).trans rfl;have f4 := blk_frozen hA6.out 4;have z5 := (blk_cell hA6.out 5).trans rfl;have f5 := blk_frozen hA6.out 5;have z6 := (blk_cell hA6.out 6).trans rfl;have f6 := blk_frozen hA6.out 6;have z7 := (blk_cell hA6.out 7).trans rfl;have f7 := blk_frozen hA6.out 7;have z8 := (blk_cell hA6.out 8).trans rfl;have f8 := blk_frozen hA6.out 8;have z9 := (blk_cell hA6.out 9).trans rfl;have f9 := blk_frozen hA6.out 9;have z10 := (blk_cell hA6.out 10).trans rfl;have f10 := blk_frozen hA6.out 10;refine skip_ (w1 := ?_) (by rfl) rfl ?_ ?_;rotate_left
 ·go_simp;rfl
 have HS17 := hZ (put57 hA6.out (.int .i64 l[i].f0) (.int .i64 l[i].f1.f0) (.int .i64 l[i].f1.f1) (.int .i64 l[i].f1.f2) (.int .i64 l[i].f1.f3) (.int .i64 l[i].f1.f4) (.slice pr.1 l[i].f2.length pr.2) (.int .i64 l[i].f3) (.int .i64 l[i].f4) (.int .i64 l[i].f5) (.int .i64 l[i].f6));have HT17 := hZ (turn57 w16 sb (.int .i64 l[i].f0) (.int .i64 l[i].f1.f0) (.int .i64 l[i].f1.f1) (.int .i64 l[i].f1.f2) (.int .i64 l[i].f1.f3) (.int .i64 l[i].f1.f4) (.slice pr.1 l[i].f2.length pr.2) (.int .i64 l[i].f3) (.int .i64 l[i].f4) (.int .i64 l[i].f5) (.int .i64 l[i].f6));clear z0 f0 z1 f1 z2 f2 z3 f3 z4 f4 z5 f5 z6 f6 z7 f7 z8 f8 z9 f9 z10 f10;generalize hws : World.setCell _ _ _ = w17 at *;clear hws;refine hK.out _ _ ?_;clear hK K;refine pst 12 (some 8) HT_ ?_;refine done_ (done_of HT_.out (by kernel_rfl)) ?_;dsimp only at hS6 HS17;have HB17 : Hid (Below w1.heap.size w1 w17) := hZ (Turn.below hB6.out HT17.out (fun b e => by have := hS6.out; omega) hB6.out.size);have HZ17 := hZ (blk_below HZ1.out HB17.out);have c0 : w17.cell? ⟨sb, 0, none⟩ = some (.int .i64 l[i].f0) := (blk_cell HS17.out 0).trans rfl;have c1 : w17.cell? ⟨sb, 1, none⟩ = some (.int .i64 l[i].f1.f0) := (blk_cell HS17.out 1).trans rfl;have c2 : w17.cell? ⟨sb, 2, none⟩ = some (.int .i64 l[i].f1.f1) := (blk_cell HS17.out 2).trans rfl;have c3 : w17.cell? ⟨sb, 3, none⟩ = some (.int .i64 l[i].f1.f2) := (blk_cell HS17.out 3).trans rfl;have c4 : w17.cell? ⟨sb, 4, none⟩ = some (.int .i64 l[i].f1.f3) := (blk_cell HS17.out 4).trans rfl;have c5 : w17.cell? ⟨sb, 5, none⟩ = some (.int .i64 l[i].f1.f4) := (blk_cell HS17.out 5).trans rfl;have c6 : w17.cell? ⟨sb, 6, none⟩ = some (.slice pr.1 l[i].f2.length pr.2) := (blk_cell HS17.out 6).trans rfl;have c7 : w17.cell? ⟨sb, 7, none⟩ = some (.int .i64 l[i].f3) := (blk_cell HS17.out 7).trans rfl;have c8 : w17.cell? ⟨sb, 8, none⟩ = some (.int .i64 l[i].f4) := (blk_cell HS17.out 8).trans rfl;have c9 : w17.cell? ⟨sb, 9, none⟩ = some (.int .i64 l[i].f5) := (blk_cell HS17.out 9).trans rfl;have c10 : w17.cell? ⟨sb, 10, none⟩ = some (.int .i64 l[i].f6) := (blk_cell HS17.out 10).trans rfl;have z0 := (blk_cell HZ17.out 0).trans rfl;have f0 := blk_frozen HZ17.out 0;have z1 := (blk_cell HZ17.out 1).trans rfl;have f1 := blk_frozen HZ17.out 1;have z2 := (blk_cell HZ17.out 2).trans rfl;have f2 := blk_frozen HZ17.out 2;have z3 := (blk_cell HZ17.out 3).trans rfl;have f3 := blk_frozen HZ17.out 3;have z4 := (blk_cell HZ17.out 4).trans rfl;have f4 := blk_frozen HZ17.out 4;have z5 := (blk_cell HZ17.out 5).trans rfl;have f5 := blk_frozen HZ17.out 5;have z6 := (blk_cell HZ17.out 6).trans rfl;have f6 := blk_frozen HZ17.out 6;have z7 := (blk_cell HZ17.out 7).trans rfl;have f7 := blk_frozen HZ17.out 7;have z8 := (blk_cell HZ17.out 8).trans rfl;have f8 := blk_frozen HZ17.out 8;have z9 := (blk_cell HZ17.out 9).trans rfl;have f9 := blk_frozen HZ17.out 9;have z10 := (blk_cell HZ17.out 10).trans rfl;have f10 := blk_frozen HZ17.out 10
 go_upto_region 5 with fail
 go_wp2;have HS19 := put57 HZ17.out (.int .i64 l[i].f0) (.int .i64 l[i].f1.f0) (.int .i64 l[i].f1.f1) (.int .i64 l[i].f1.f2) (.int .i64 l[i].f1.f3) (.int .i64 l[i].f1.f4) (.slice pr.1 l[i].f2.length pr.2) (.int .i64 l[i].f3) (.int .i64 l[i].f4) (.int .i64 l[i].f5) (.int .i64 l[i].f6);have HT19 := turn57 w17 w.heap.size (.int .i64 l[i].f0) (.int .i64 l[i].f1.f0) (.int .i64 l[i].f1.f1) (.int .i64 l[i].f1.f2) (.int .i64 l[i].f1.f3) (.int .i64 l[i].f1.f4) (.slice pr.1 l[i].f2.length pr.2) (.int .i64 l[i].f3) (.int .i64 l[i].f4) (.int .i64 l[i].f5) (.int .i64 l[i].f6);generalize hws : World.setCell _ _ _ = w19 at *;refine bodyPost_ret (results_ct rfl _ _ w.heap.size 57 #[.int .i64 l[i].f0, .int .i64 l[i].f1.f0, .int .i64 l[i].f1.f1, .int .i64 l[i].f1.f2, .int .i64 l[i].f1.f3, .int .i64 l[i].f1.f4, .slice pr.1 l[i].f2.length pr.2, .int .i64 l[i].f3, .int .i64 l[i].f4, .int .i64 l[i].f5, .int .i64 l[i].f6] (0, 0) _ rfl HS19 Tryz.underlying57 rfl (by kernel_rfl)) rfl ?_;exact ⟨⟨pr.1, pr.2, rfl⟩, Turn.below (HB1.out.trans (HB17.out.mono HB1.out.size)) HT19 (fun b e => by omega) (by have := HB1.out.size; have := HB17.out.size; omega)⟩
theorem raw_turn {n : Nat} {e base : Nat} {w w' : World} {v : Value} {xs : List (List Value)} (h : (Kd.raw n).R e w base (fun _ => True) v xs) {S : Nat -> Prop} (ht : Turn w w' S) (hS : ∀ b, v.ownBlock = some b -> ¬ S b) : (Kd.raw n).R e w' base (fun _ => True) v xs :=
  Kd.R_reok rfl (Kd.R_step (Kd.R_tight rfl h) (fun b hb hlt => ht.block b hlt (hS b hb.symm))) (fun _ _ => trivial)
theorem ent_turn {e base : Nat} {w w' : World} {v : Value} {xs : List S157} (h : k157.R e w base (fun _ => True) v xs) {S : Nat -> Prop} (ht : Turn w w' S) (hS : ∀ b, v.ownBlock = some b -> ¬ S b) : k157.R e w' base (fun _ => True) v xs :=
  Kd.R_reok rfl (Kd.R_step (Kd.R_tight rfl h) (fun b hb hlt => ht.block b hlt (hS b hb.symm))) (fun _ _ => trivial)
structure SysR where
  Nb : Nat
  Nn : Nat
  Ns : Nat
  A : Option Addr
  c : Nat
  A2 : Option Addr
  c2 : Nat
  A4 : Option Addr
  c4 : Nat
  a7 : Value
  vB : Value
  AE : Option Addr
  nE : Nat
  cE : Nat
  bB : Nat
  bE : Nat
  B : Bd
  F : Nat -> Prop
structure SysX (w : World) (lab : Nat -> Nat) (N : Nat) (M now : Int) (l : List S57) (q : List S63) (nn : Nat) (bk : List S157) (E : List (List Value)) (r : SysR) : Prop where
  blk : w.heap[N]? = some (.cells (sysC M now r.A l.length r.c r.A2 q.length r.c2 r.A4 r.c4 (.pointer (some ⟨r.Nb, 0, none⟩)) (.pointer (some ⟨r.Nn, 0, none⟩)) r.a7 (.slice r.AE r.nE r.cE)) 83 (0, 0))
  book : w.heap[r.Nb]? = some (.cells #[.int .i64 M, r.vB, .slice none 0 0] 116 (0, 0))
  ent : k157.R 157 w r.bB (fun _ => True) r.vB bk
  tab : TabAt w r.Nn r.Ns nn
  ev : (Kd.raw 4).R 67 w r.bE (fun _ => True) (.slice r.AE r.nE r.cE) E
  mach : RdF w r.F r.B r.A l r.A2 q
  l1 : lab N = 1
  l2 : lab r.Nb = 2
  l3 : lab r.Nn = 3
  l4 : lab r.Ns = 4
  l5 : ∀ b, r.vB.ownBlock = some b -> lab b = 5
  l6 : ∀ b, (Value.slice r.AE r.nE r.cE).ownBlock = some b -> lab b = 6
  l7 : ∀ b, r.F b -> lab b = 7
  l8 : ∀ b, r.B.G b -> lab b = 7
  lt : ∀ b, lab b ≠ 0 -> b < w.heap.size
  bn : r.B.n <= w.heap.size
  bb : r.bB <= w.heap.size
  be : r.bE <= w.heap.size
theorem SysX.turn {w w' : World} {lab : Nat -> Nat} {N : Nat} {M now : Int} {l : List S57} {q : List S63} {nn : Nat} {bk : List S157} {E : List (List Value)} {r : SysR} (h : SysX w lab N M now l q nn bk E r) {S : Nat -> Prop} (ht : Turn w w' S) (hS : ∀ b, S b -> lab b = 0) : SysX w' lab N M now l q nn bk E r := by
  have n1 := h.l1;have n2 := h.l2;have n3 := h.l3;have n4 := h.l4;have hs := ht.size
  exact { blk := (ht.block _ (blk_lt h.blk) (fun e => by have := hS _ e; omega)).trans h.blk
          book := (ht.block _ (blk_lt h.book) (fun e => by have := hS _ e; omega)).trans h.book
          ent := ent_turn h.ent ht (fun b hb e => by have := hS b e; have := h.l5 b hb; omega)
          tab := h.tab.turn ht (fun e => by have := hS _ e; omega) (fun e => by have := hS _ e; omega)
          ev := raw_turn h.ev ht (fun b hb e => by have := hS b e; have := h.l6 b hb; omega)
          mach := h.mach.keep ht (fun b e => ⟨fun hf => by have := hS b e; have := h.l7 b hf; omega, fun hf => by have := hS b e; have := h.l8 b hf; omega⟩)
          l1 := n1, l2 := n2, l3 := n3, l4 := n4, l5 := h.l5, l6 := h.l6, l7 := h.l7, l8 := h.l8
          lt := fun b hb => Nat.lt_of_lt_of_le (h.lt b hb) hs
          bn := Nat.le_trans h.bn hs
          bb := Nat.le_trans h.bb hs
          be := Nat.le_trans h.be hs }
theorem SysX.below {w w' : World} {lab : Nat -> Nat} {N : Nat} {M now : Int} {l : List S57} {q : List S63} {nn : Nat} {bk : List S157} {E : List (List Value)} {r : SysR} (h : SysX w lab N M now l q nn bk E r) (hb : Below w.heap.size w w') : SysX w' lab N M now l q nn bk E r := h.turn (S := fun _ => False) (Turn.of_below _ hb) (fun _ e => e.elim)
def SysAt (w : World) (lab : Nat -> Nat) (N : Nat) (M now : Int) (l : List S57) (q : List S63) (nn : Nat) (bk : List S157) (E : List (List Value)) : Prop := ∃ r, SysX w lab N M now l q nn bk E r
theorem SysAt.turn {w w' : World} {lab : Nat -> Nat} {N : Nat} {M now : Int} {l : List S57} {q : List S63} {nn : Nat} {bk : List S157} {E : List (List Value)} (h : SysAt w lab N M now l q nn bk E) {S : Nat -> Prop} (ht : Turn w w' S) (hS : ∀ b, S b -> lab b = 0) : SysAt w' lab N M now l q nn bk E := h.imp fun _ h => h.turn ht hS
theorem SysAt.below {w w' : World} {lab : Nat -> Nat} {N : Nat} {M now : Int} {l : List S57} {q : List S63} {nn : Nat} {bk : List S157} {E : List (List Value)} (h : SysAt w lab N M now l q nn bk E) (hb : Below w.heap.size w w') : SysAt w' lab N M now l q nn bk E := h.imp fun _ h => h.below hb
theorem SysX.anew {w w' : World} {lab : Nat -> Nat} {N : Nat} {M now now' : Int} {l l' : List S57} {q q' : List S63} {nn : Nat} {bk : List S157} {E E' : List (List Value)} {r : SysR} (h : SysX w lab N M now l q nn bk E r) {S : Nat -> Prop} (ht : Turn w w' S) (hS : ∀ b, S b -> lab b = 1 \/ lab b = 6) (A' : Option Addr) (c' : Nat) (A2' : Option Addr) (c2' : Nat) (A4' : Option Addr) (c4' : Nat) (AE' : Option Addr) (nE' cE' : Nat) (B' : Bd) (F' : Nat -> Prop)
    (hN : w'.heap[N]? = some (.cells (sysC M now' A' l'.length c' A2' q'.length c2' A4' c4' (.pointer (some ⟨r.Nb, 0, none⟩)) (.pointer (some ⟨r.Nn, 0, none⟩)) r.a7 (.slice AE' nE' cE')) 83 (0, 0)))
    (hE : (Kd.raw 4).R 67 w' r.bE (fun _ => True) (.slice AE' nE' cE') E') (hR : RdF w' F' B' A' l' A2' q')
    (hF : ∀ b, F' b -> (r.F b \/ w.heap.size <= b) /\ b < w'.heap.size /\ (Value.slice AE' nE' cE').ownBlock ≠ some b)
    (hV : (Value.slice AE' nE' cE').ownBlock = (Value.slice r.AE r.nE r.cE).ownBlock \/ ∀ b, (Value.slice AE' nE' cE').ownBlock = some b -> w.heap.size <= b)
    (hG : ∀ b, B'.G b -> (r.B.G b \/ w.heap.size <= b) /\ (Value.slice AE' nE' cE').ownBlock ≠ some b) (hBn : B'.n <= w'.heap.size) :
    ∃ lab', SysAt w' lab' N M now' l' q' nn bk E' /\ ∀ b, lab' b ≠ 0 -> lab b ≠ 0 \/ w.heap.size <= b := by
  classical
  have n1 := h.l1;have n2 := h.l2;have n3 := h.l3;have n4 := h.l4;have hs := ht.size;have o1 : N < w.heap.size := h.lt _ (by omega);have o2 : r.Nb < w.heap.size := h.lt _ (by omega);have o3 : r.Nn < w.heap.size := h.lt _ (by omega);have o4 : r.Ns < w.heap.size := h.lt _ (by omega);have hEl : ∀ b, (Value.slice AE' nE' cE').ownBlock = some b -> b < w'.heap.size := fun b e => Kd.R_lt hE b e
  have hGl : ∀ b, B'.G b -> b < w'.heap.size := fun b e => Nat.lt_of_lt_of_le (B'.lt b e) hBn
  have old : ∀ b, b < w.heap.size -> (if b < w.heap.size then lab b else if (Value.slice AE' nE' cE').ownBlock = some b then 6 else if (F' b \/ B'.G b) then 7 else 0) = lab b := fun b hb => if_pos hb
  refine ⟨fun b => if b < w.heap.size then lab b else if (Value.slice AE' nE' cE').ownBlock = some b then 6 else if (F' b \/ B'.G b) then 7 else 0, ⟨{ r with A := A', c := c', A2 := A2', c2 := c2', A4 := A4', c4 := c4', AE := AE', nE := nE', cE := cE', B := B', F := F' }, ?_⟩, fun b hb => ?_⟩
  · exact { blk := hN
            book := (ht.block _ o2 (fun e => by have := hS _ e; omega)).trans h.book
            ent := ent_turn h.ent ht (fun b hb e => by have := hS b e; have := h.l5 b hb; omega)
            tab := h.tab.turn ht (fun e => by have := hS _ e; omega) (fun e => by have := hS _ e; omega)
            ev := hE
            mach := hR
            l1 := (old _ o1).trans n1
            l2 := (old _ o2).trans n2
            l3 := (old _ o3).trans n3
            l4 := (old _ o4).trans n4
            l5 := fun b hb => by
              have h5 := h.l5 b hb;exact (old b (h.lt b (by omega))).trans h5
            l6 := fun b hb => by
              by_cases hlt : b < w.heap.size
              · refine (old b hlt).trans ?_;rcases hV with hV | hV
                · exact h.l6 b (hV ▸ hb)
                · have := hV b hb; omega
              · show (if b < w.heap.size then lab b else _) = 6;rw [if_neg hlt, if_pos hb]
            l7 := fun b hb => by
              by_cases hlt : b < w.heap.size
              · refine (old b hlt).trans ?_;exact h.l7 b ((hF b hb).1.resolve_right (by omega))
              · show (if b < w.heap.size then lab b else _) = 7;rw [if_neg hlt, if_neg (hF b hb).2.2, if_pos (.inl hb)]
            l8 := fun b hb => by
              by_cases hlt : b < w.heap.size
              · refine (old b hlt).trans ?_;exact h.l8 b ((hG b hb).1.resolve_right (by omega))
              · show (if b < w.heap.size then lab b else _) = 7;rw [if_neg hlt, if_neg (hG b hb).2, if_pos (.inr hb)]
            lt := fun b hb => by
              by_cases hlt : b < w.heap.size
              · omega
              · have hb2 : (if b < w.heap.size then lab b else if (Value.slice AE' nE' cE').ownBlock = some b then 6 else if (F' b \/ B'.G b) then 7 else 0) ≠ 0 := hb;rw [if_neg hlt] at hb2;by_cases h6 : (Value.slice AE' nE' cE').ownBlock = some b
                · exact hEl b h6
                · rw [if_neg h6] at hb2;by_cases h7 : F' b \/ B'.G b
                  · exact h7.elim (fun h => (hF b h).2.1) (hGl b)
                  · rw [if_neg h7] at hb2; exact absurd rfl hb2
            bn := hBn
            bb := Nat.le_trans h.bb hs
            be := Nat.le_trans h.be hs }
  · by_cases hlt : b < w.heap.size
    · left;exact fun e => hb ((old b hlt).trans e)
    · right; omega
def Grew (w : World) (lab lab' : Nat -> Nat) : Prop := ∀ b, lab' b ≠ 0 -> lab b ≠ 0 \/ w.heap.size <= b
theorem gos_calls (N : Nat) (lab : Nat -> Nat) (M now n : Int) (l : List S57) (q : List S63) (nn : Nat) (bk : List S157) (E : List (List Value)) (w : World) (h : SysAt w lab N M now l q nn bk E) (hEl : E.length <= 10000000) (I : Int -> List S57 -> List S63 -> Prop) (hI : GoInv M (now + n) I) (h0 : I now l q) (hn : 0 <= n) (hn2 : n <= 1000) (hnow : 0 <= now) (hnow2 : now <= 1000000000) :
    Calls Tryz.prog 14 #[.pointer (some ⟨N, 0, none⟩), .int .i64 n] w fun e w' => e = .returned .nilIface /\ I (now + n) (goL n.toNat M now (now + n) l q).1 (goL n.toNat M now (now + n) l q).2.1 /\ (∃ lab', SysAt w' lab' N M (now + n) (goL n.toNat M now (now + n) l q).1 (goL n.toNat M now (now + n) l q).2.1 nn bk (E ++ (goL n.toNat M now (now + n) l q).2.2.map Ev.cells) /\ Grew w lab lab') /\ Turn w w' (fun b => lab b ≠ 0) := by
  obtain ⟨r, h⟩ := h;have n1 := h.l1;have n2 := h.l2;refine (sgo_calls N M now n r.A l r.c r.A2 q r.c2 r.A4 r.c4 (.pointer (some ⟨r.Nb, 0, none⟩)) (.pointer (some ⟨r.Nn, 0, none⟩)) r.a7 r.AE r.nE r.cE E r.bE r.B r.F w h.blk h.ev hEl (fun e => by have := h.l6 _ e; omega) h.be h.bn h.mach (fun b hb => h.lt b (by have := h.l7 b hb; omega)) I hI h0 (fun b hb => ⟨fun e => by have := h.l7 b hb; subst e; omega, fun e => by have := h.l7 b hb; have := h.l6 b e; omega⟩) (fun b hb => ⟨fun e => by have := h.l8 b hb; subst e; omega, fun e => by have := h.l8 b hb; have := h.l6 b e; omega⟩) hn hn2 hnow hnow2).mono ?_;rintro e w' ⟨A', c', A2', c2', A4, c4, A7, n7, c7, F, rfl, hN, hE, hR, hF, hV, hI2, hT⟩;have hT2 : ∀ b, (b = N \/ some b = (Value.slice r.AE r.nE r.cE).ownBlock) -> lab b = 1 \/ lab b = 6 := fun b e => e.imp (fun e => by rw [e]; exact n1) (fun e => h.l6 b e.symm)
  refine ⟨rfl, hI2, ?_, hT.imp (fun b e => by have := hT2 b e; omega)⟩
  exact h.anew hT hT2 A' c' A2' c2' A4 c4 A7 n7 c7 r.B F hN hE hR (fun b hb => ⟨(hF b hb).1, (hF b hb).2.1, (hF b hb).2.2.2⟩) (hV.imp (fun h => h) (fun ⟨b, h1, h2⟩ b2 h3 => by rw [h1] at h3; injection h3 with h3; omega)) (fun b hb => ⟨.inl hb, fun e => by
    rcases hV with hV | ⟨b2, hV, hle⟩
    · have := h.l6 b (hV ▸ e); have := h.l8 b hb; omega
    · rw [hV] at e; injection e with e; have := h.lt b (by have := h.l8 b hb; omega); omega⟩) (Nat.le_trans h.bn hT.size)
theorem eventss_calls (N : Nat) (lab : Nat -> Nat) (M now : Int) (l : List S57) (q : List S63) (nn : Nat) (bk : List S157) (E : List (List Value)) (w : World) (h : SysAt w lab N M now l q nn bk E) (hEl : E.length <= 100000) :
    Calls Tryz.prog 17 #[.pointer (some ⟨N, 0, none⟩)] w fun e w' => ∃ v, e = .returned v /\ (Kd.raw 4).R 67 w' w.heap.size (fun _ => True) v E /\ SysAt w' lab N M now l q nn bk [] /\ Turn w w' (fun b => lab b ≠ 0) := by
  obtain ⟨r, h⟩ := h;have n1 := h.l1;have n2 := h.l2;have n3 := h.l3;have n4 := h.l4;obtain ⟨AE, cE, e, hcE, hCE⟩ := Kd.R_reads h.ev;injection e with e1 e2 e3;subst e1 e3;have hblk := h.blk;rw [e2] at hblk;refine (events_calls N M now r.A l.length r.c r.A2 q.length r.c2 r.A4 r.c4 (.pointer (some ⟨r.Nb, 0, none⟩)) (.pointer (some ⟨r.Nn, 0, none⟩)) r.a7 r.AE E.length r.cE E w hblk hCE hEl).mono ?_;rintro e w' ⟨v, rfl, hR, hN, hT⟩;have hs := hT.size;have hS : ∀ b, b = N -> lab b = 1 := fun b e => by rw [e]; exact n1
  refine ⟨v, rfl, hR, ⟨{ r with AE := none, nE := 0, cE := 0 }, ?_⟩, hT.imp (fun b e => by have := hS b e; omega)⟩
  exact { blk := hN
          book := (hT.block _ (blk_lt h.book) (fun e => by have := hS _ e; omega)).trans h.book
          ent := ent_turn h.ent hT (fun b hb e => by have := hS b e; have := h.l5 b hb; omega)
          tab := h.tab.turn hT (fun e => by have := hS _ e; omega) (fun e => by have := hS _ e; omega)
          ev := Kd.R_nil _ _ _ _ _
          mach := h.mach.keep hT (fun b e => ⟨fun hf => by have := hS b e; have := h.l7 b hf; omega, fun hf => by have := hS b e; have := h.l8 b hf; omega⟩)
          l1 := n1, l2 := n2, l3 := n3, l4 := n4, l5 := h.l5
          l6 := fun b hb => by simp [Value.ownBlock] at hb
          l7 := h.l7, l8 := h.l8
          lt := fun b hb => Nat.lt_of_lt_of_le (h.lt b hb) hs
          bn := Nat.le_trans h.bn hs
          bb := Nat.le_trans h.bb hs
          be := Nat.le_trans h.be hs }
theorem states_calls (N : Nat) (lab : Nat -> Nat) (M now : Int) (l : List S57) (q : List S63) (nn : Nat) (bk : List S157) (E : List (List Value)) (w : World) (h : SysAt w lab N M now l q nn bk E) (hl : l.length <= 100000) (hq : q.length <= 100000) (hlj : ∀ i (h : i < l.length), l[i].f2.length <= 100000) (hqj : ∀ i (h : i < q.length), q[i].f2.length <= 100000) :
    Calls Tryz.prog 13 #[.pointer (some ⟨N, 0, none⟩)] w fun e w' => ∃ B o A4 c4, e = .returned (stV M now o.A l.length o.c o.A2 q.length o.c2 A4 c4) /\ Own w' B l q o /\ (∀ b, B.G b -> lab b ≠ 0) /\ (∀ cc b, o.own cc = some b -> w.heap.size < b) /\ Below w.heap.size w w' := by
  obtain ⟨r, h⟩ := h;refine (state_calls N M now r.A l r.c r.A2 q r.c2 r.A4 r.c4 (.pointer (some ⟨r.Nb, 0, none⟩)) (.pointer (some ⟨r.Nn, 0, none⟩)) r.a7 (.slice r.AE r.nE r.cE) r.B w h.blk h.bn h.mach.now hl hq hlj hqj).mono ?_;rintro e w' ⟨o, A4, c4, rfl, hO, hown, hB⟩;exact ⟨r.B, o, A4, c4, rfl, hO, fun b hb => by have := h.l8 b hb; omega, hown, hB⟩
def srelw.T4 : Bool × List (List Nat × List Nat) := (true, [([], []), ([0], [0]), ([1], [1]), ([2], [2]), ([], []), ([4], [4]), ([], []), ([3, 5, 6], [3, 5, 6]), ([7], [7]), ([8], [8]), ([8], [8]), ([8], [8]), ([], []), ([12, 9, 7, 0, 1, 2, 3, 4, 5, 6, 7, 8, 9, 12], [9, 12]), ([10, 13, 0, 1, 2, 3, 4, 5, 6, 7, 8, 9, 10, 12, 13], [10]), ([11, 14, 0, 1, 2, 3, 4, 5, 6, 7, 8, 9, 10, 11, 12, 13, 14], [11])])
def srelw.B4 : List Nat := [0, 1, 3, 7, 0, 16, 0, 127, 255, 511, 511, 511, 0, 5119, 14335, 32767]
theorem srelw.tab4 : rtab .any (opsOf Tryz.f11 4) = srelw.T4 := by kernel_rfl
theorem srelw.bits4 : waitsOk srelw.T4.2 srelw.B4 = true := by kernel_rfl
structure RelS (M now : Int) (l : List S57) (q : List S63) (B : Bd) (i : Nat) (x : S57) (P : List S72) (w : World) (s : Nat) (A' : Option Addr) (A2' : Option Addr) (v : Value) (w' : World) : Prop where
 R : ∃ F B', RdF w' F B' A' (l.set i (relX now P x)) A2' q /\ (∀ b, B'.G b -> (B.G b \/ w.heap.size <= b) /\ b ≠ s) /\ B'.n <= w'.heap.size /\ (∀ b, F b -> w.heap.size <= b /\ b < w'.heap.size /\ v.ownBlock ≠ some b /\ b ≠ s) /\ (∀ b, v.ownBlock = some b -> ¬ B'.G b)
 E : (Kd.raw 4).R 67 w' w.heap.size (fun _ => True) v ((relE now x).map Ev.cells)
 vs : v.ownBlock ≠ some s
 Z : w'.heap[s]? = some (.cells #[.int .i64 0, .int .i64 0, .slice none 0 0, .slice none 0 0, .slice none 0 0] 47 (0, 0))
 Bl : Below w.heap.size w w'
 sl : w.heap.size <= s
section
variable {M now : Int} {l : List S57} {q : List S63} {B : Bd} {i : Nat} {x : S57} {P : List S72} {w w1 : World} {A' A2' : Option Addr} {v : Value}
theorem RelS.after (h : RelW M now l q B i x P w A' A2' v w1) (hB : B.n <= w.heap.size) : RelS M now l q B i x P w w1.heap.size A' A2' v (w1.alloc (.cells #[.int .i64 0, .int .i64 0, .slice none 0 0, .slice none 0 0, .slice none 0 0] 47)) := by
 obtain ⟨⟨F, B', h1, h2, h3, h4, h5, h6⟩, hE, hBl⟩ := h;have hb : Below w1.heap.size w1 (w1.alloc (.cells #[.int .i64 0, .int .i64 0, .slice none 0 0, .slice none 0 0, .slice none 0 0] 47)) := below_alloc (Below.refl _ _) _;have hs := hb.size;exact ⟨⟨F, B', h1.below hb, fun b hb2 => ⟨h2 b hb2, fun e => by have := B'.lt b hb2; omega⟩, Nat.le_trans h4 hs, fun b hb2 => ⟨(h5 b hb2).1, by have := (h5 b hb2).2.1; omega, (h5 b hb2).2.2, fun e => by have := (h5 b hb2).2.1; omega⟩, h6⟩, Kd.R_below hE hb, fun e => by have := Kd.R_lt hE _ e; omega, blk_new _ _, hBl.trans (hb.mono hBl.size), hBl.size⟩
theorem RelS.ahead (h : RelW M now l q B i x P (w.alloc (.cells #[.int .i64 0, .int .i64 0, .slice none 0 0, .slice none 0 0, .slice none 0 0] 47)) A' A2' v w1) (hB : B.n <= w.heap.size) : RelS M now l q B i x P w w.heap.size A' A2' v w1 := by
 obtain ⟨⟨F, B', h1, h2, h3, h4, h5, h6⟩, hE, hBl⟩ := h;have hb : Below w.heap.size w (w.alloc (.cells #[.int .i64 0, .int .i64 0, .slice none 0 0, .slice none 0 0, .slice none 0 0] 47)) := below_alloc (Below.refl _ _) _;have hs : (w.alloc (.cells #[.int .i64 0, .int .i64 0, .slice none 0 0, .slice none 0 0, .slice none 0 0] 47)).heap.size = w.heap.size + 1 := World.size_alloc _ _;refine ⟨⟨F, B', h1, fun b hb2 => ⟨(h2 b hb2).imp (fun h => h) (fun h => by omega), fun e => ?_⟩, h4, fun b hb2 => ⟨by have := (h5 b hb2).1; omega, (h5 b hb2).2.1, (h5 b hb2).2.2, fun e => by have := (h5 b hb2).1; omega⟩, h6⟩, Kd.R_lower hE (by omega), fun e => by have := Kd.R_base hE _ e; omega, blk_below (blk_new _ _) hBl, hb.trans (hBl.mono hb.size), Nat.le_refl _⟩;rcases h2 b hb2 with h | h
 ·have := B.lt b h; omega
 ·omega
end
theorem relE_few (now : Int) (x : S57) : (relE now x).length <= 2 := by
 unfold relE;split <;> simp
theorem srel_calls (N : Nat) (lab : Nat -> Nat) (M now : Int) (l : List S57) (q : List S63) (nn : Nat) (bk : List S157) (E : List (List Value)) (w : World) (h : SysAt w lab N M now l q nn bk E) (i : Nat) (hi : i < l.length) (hin : i < nn) (hid : l[i].f0 = (i : Int) + 1) (hk : RelOk now l q i hi) (hEl : E.length <= 10000000) (hqj : ∀ i (h : i < q.length), q[i].f2.length <= 100000) (Ap : Option Addr) (cp : Nat) (P : List S72) (hP : Kd.C k72 w Ap P.length P) :
  Calls Tryz.prog 11 #[.pointer (some ⟨N, 0, none⟩), .int .u32 i, .slice Ap P.length cp] w fun e w' =>
   (relC q.length P l[i] ≠ 0 -> (∃ p, e = .returned (.tuple #[.int .i64 0, .iface 111 p])) /\ Below w.heap.size w w') /\
   (relC q.length P l[i] = 0 -> e = .returned (.tuple #[.int .i64 (l[i].f5 + 1), .nilIface]) /\ (∃ lab', SysAt w' lab' N M now (l.set i (relX now P l[i])) q nn bk (E ++ (relE now l[i]).map Ev.cells) /\ Grew w lab lab') /\ Turn w w' (fun b => lab b ≠ 0)) := by
 obtain ⟨r, h⟩ := h;have hblk := h.blk;have hev := h.ev;have DS := fun wx (hb : Below w.heap.size w wx) => sfind_calls N r.Nn r.Ns nn M now r.A l r.c r.A2 q r.c2 r.A4 r.c4 (.pointer (some ⟨r.Nb, 0, none⟩)) r.a7 (.slice r.AE r.nE r.cE) r.B i hi wx (blk_below hblk hb) (h.tab.below hb) hin (Nat.le_trans h.bn hb.size) (h.mach.below hb).now hk.sorted hid (by have := hk.len; omega) hk.qlen (fun k h => by have := hk.jobs k h; omega) hqj
 have DR := fun wx (hb : Below w.heap.size w wx) => rel_calls M now r.A l r.c r.A2 q r.c2 r.A4 r.c4 r.B i hi Ap cp P wx (Nat.le_trans h.bn hb.size) (h.mach.below hb).now (Kd.C_below hP hb) hk
 have DE := fun wx (id c : Int) (hc : c ≠ 0) => fault_calls (.string { data := #[114, 101, 108, 101, 97, 115, 101] }) ⟨_, rfl⟩ id c wx hc
 obtain ⟨x, hx⟩ : ∃ x, x = l[i] := ⟨_, rfl⟩;rw [<- hx] at DS DR hid;rw [<- hx];obtain ⟨C, hC⟩ : ∃ C, C = relC q.length P x := ⟨_, rfl⟩;unfold RelP at DR;rw [<- hC] at DR;rw [<- hC];have HC := hZ hC;have HID := hZ hid;have HX := hZ h;have HN := hZ hblk;have HE := hZ hev;have hn0 : 0 <= x.f5 := by rw [hx]; exact hk.num0
 have hn1 : x.f5 <= 1152921504606846976 := by rw [hx]; exact hk.num1
 have hwi : IntKind.i64.wrap (i : Int) = (i : Int) := by have := hk.len; rw [i64_w]; unfold Go.RowKit.wrap64; omega
 have hws5 : IntKind.i64.wrap (x.f5 + 1) = x.f5 + 1 := by rw [i64_w]; unfold Go.RowKit.wrap64; omega
 have HBN := hZ h.bn;have HL6 : Hid (∀ b, (Value.slice r.AE r.nE r.cE).ownBlock = some b -> b ≠ N) := hZ (fun b hb e => by have := h.l6 b hb; have := h.l1; subst e; omega);have HBE := hZ h.be;have HLX : Hid (l[i] = x) := hZ hx.symm;obtain ⟨Nb, Nn, Ns, A, c, A2, c2, A4, c4, a7, vB, AE, nE, cE, bB, bE, B, F0⟩ := r;dsimp only at *;unfold stV servV at *;clear hblk hev hP hk hqj hC hx h hid;go_enter Tryz.func11, Tryz.ntmps11
 go_upto_region 2 with (go_at_call 23; (with_reducible refine (DS _ (Below.refl _ _)).mono ?_); rintro e w1 ⟨p, rfl, hB1⟩; have HB1 := hZ hB1; have HV1 := hZ (blk_new w1 (.cells #[.int .i64 x.f0, .int .i64 x.f1.f0, .int .i64 x.f1.f1, .int .i64 x.f1.f2, .int .i64 x.f1.f3, .int .i64 x.f1.f4, .slice p.1 x.f2.length p.2, .int .i64 x.f3, .int .i64 x.f4, .int .i64 x.f5, .int .i64 x.f6] 57)); have HBV := hZ (below_alloc (Below.refl w1.heap.size w1) (.cells #[.int .i64 x.f0, .int .i64 x.f1.f0, .int .i64 x.f1.f1, .int .i64 x.f1.f2, .int .i64 x.f1.f3, .int .i64 x.f1.f4, .slice p.1 x.f2.length p.2, .int .i64 x.f3, .int .i64 x.f4, .int .i64 x.f5, .int .i64 x.f6] 57)); skip; clear hB1)
 clear DS;generalize hw2 : World.alloc _ _ = w2 at *;have HZ2 := HV1;have HB2 := hZ (HB1.out.trans (HBV.out.mono HB1.out.size));have HN2 := hZ (blk_below HN.out HB2.out);have hN2 : N < w.heap.size := blk_lt HN.out;have h12 : w.heap.size <= w1.heap.size := HB1.out.size;clear hw2 HV1 HBV;by_cases hC0 : C = 0
 ·subst hC0;have DR := fun wx (hb : Below w.heap.size w wx) => (DR wx hb).mono (fun e w' h => h.2 rfl)
  go_upto_region 4 with fail
  refine start_ (n := 16) (S := fun w' => Hid (Below w2.heap.size w2 w')) (ds := [13]) #[false, false, false, false, false, false, false, false, false, false, false, false, false, false, false, false] (by kernel_rfl) rfl rfl ((hZ (below_drew (Below.refl _ _)))) (fun hHeld => ?_);refine with_tabW srelw.tab4 srelw.bits4 (fun HT_ HW_ => ?_);have hbd : Hid (Below w2.heap.size w2 w2.drew) := hZ ⟨rfl, rfl, rfl, Nat.le_refl _, fun _ _ => rfl⟩;have hsd : w2.heap.size = w2.drew.heap.size := rfl;generalize hwd : w2.drew = wd at *;clear hwd;refine pst 0 (some 25) HT_ ?_;refine pst 1 (some 26) HT_ ?_;refine pst 2 (some 27) HT_ ?_;refine pst 4 (some 29) HT_ ?_;refine pst 6 (some 31) HT_ ?_;refine tst 3 (some 28) HT_ HW_ hHeld ?_ (hy := by (intro w' s0; have y0 : w'.cell? ⟨N, 0, none⟩ = some (.int .i64 M) := (blk_cell (blk_below HN2.out s0.out) 0).trans rfl; have y1 : w'.cell? ⟨N, 1, none⟩ = some (.int .i64 now) := (blk_cell (blk_below HN2.out s0.out) 1).trans rfl; have y2 : w'.cell? ⟨N, 2, none⟩ = some (.slice A l.length c) := (blk_cell (blk_below HN2.out s0.out) 2).trans rfl; have y3 : w'.cell? ⟨N, 3, none⟩ = some (.slice A2 q.length c2) := (blk_cell (blk_below HN2.out s0.out) 3).trans rfl; have y4 : w'.cell? ⟨N, 4, none⟩ = some (.slice A4 0 c4) := (blk_cell (blk_below HN2.out s0.out) 4).trans rfl; have q0 : w'.cell? ⟨w1.heap.size, 0, none⟩ = some (.int .i64 x.f0) := (blk_cell (blk_below HZ2.out s0.out) 0).trans rfl); go_simp; with_reducible rfl);refine tst 5 (some 30) HT_ HW_ hHeld ?_ (hy := by (intro w' s0; have y0 : w'.cell? ⟨N, 0, none⟩ = some (.int .i64 M) := (blk_cell (blk_below HN2.out s0.out) 0).trans rfl; have y1 : w'.cell? ⟨N, 1, none⟩ = some (.int .i64 now) := (blk_cell (blk_below HN2.out s0.out) 1).trans rfl; have y2 : w'.cell? ⟨N, 2, none⟩ = some (.slice A l.length c) := (blk_cell (blk_below HN2.out s0.out) 2).trans rfl; have y3 : w'.cell? ⟨N, 3, none⟩ = some (.slice A2 q.length c2) := (blk_cell (blk_below HN2.out s0.out) 3).trans rfl; have y4 : w'.cell? ⟨N, 4, none⟩ = some (.slice A4 0 c4) := (blk_cell (blk_below HN2.out s0.out) 4).trans rfl; have q0 : w'.cell? ⟨w1.heap.size, 0, none⟩ = some (.int .i64 x.f0) := (blk_cell (blk_below HZ2.out s0.out) 0).trans rfl); go_simp; with_reducible rfl);refine join_ (σ := Nat × Option Addr × Nat × Option Addr × Nat × Option Addr × Nat × Value) 3 #[true, true, true, true, true, true, true, true, true, true, true, true, true, false, false, false] (fun s => [(32, .tuple #[.agg #[.int .i64 M, .int .i64 now, .slice s.2.1 l.length s.2.2.1, .slice s.2.2.2.1 q.length s.2.2.2.2.1, .slice s.2.2.2.2.2.1 0 s.2.2.2.2.2.2.1], s.2.2.2.2.2.2.2, .int .i64 0]), (24, .tuple #[.agg #[.int .i64 M, .int .i64 now, .slice s.2.1 l.length s.2.2.1, .slice s.2.2.2.1 q.length s.2.2.2.2.1, .slice s.2.2.2.2.2.1 0 s.2.2.2.2.2.2.1], s.2.2.2.2.2.2.2, .int .i64 0]), (33, .agg #[.int .i64 M, .int .i64 now, .slice s.2.1 l.length s.2.2.1, .slice s.2.2.2.1 q.length s.2.2.2.2.1, .slice s.2.2.2.2.2.1 0 s.2.2.2.2.2.2.1]), (34, s.2.2.2.2.2.2.2), (35, .int .i64 0), (10, .pointer (some ⟨s.1, 0, none⟩))]) (fun s w' => Hid (RelS M now l q B i x P wd s.1 s.2.1 s.2.2.2.1 s.2.2.2.2.2.2.2 w') /\ Hid (Below w2.heap.size w2 w')) ?_ ?_;rotate_left
  ·intro hCont;refine two_ (i := 7) (j := 12) (Ni := some 32) (Nj := some 10) #[true, true, true, true, true, true, true, true, false, false, false, false, false, false, false, false] #[true, true, true, true, true, true, true, false, false, false, false, false, true, false, false, false] rfl rfl rfl rfl (two_of HT_.out (by kernel_rfl)) (by decide) (by decide) (fun K hK => ?_) (fun K hK => ?_)
   ·skip
    refine goes_ Tryz.func24 (by kernel_rfl) rfl #[.agg #[.int .i64 M, .int .i64 now, .slice A l.length c, .slice A2 q.length c2, .slice A4 0 c4], .int .i64 x.f0, .slice Ap P.length cp] (by rfl) rfl rfl (by simp only [List.map_toArray, List.map_cons, List.map_nil]; rfl) ?_;with_reducible refine (DR _ (HB2.out.trans (hHeld.out.mono HB2.out.size))).mono ?_;rintro e w15 ⟨A5, c5, A6, c6, A7, c7, v5, rfl, hW⟩;refine ⟨_, rfl, ?_⟩;refine hK.out _ _ ((hZ (hHeld.out.trans (hW.Bl.mono hHeld.out.size)))) (fun hHeld => ?_);clear hK K;refine norm_ (a' := ?_) ?_ ?_;rotate_left
    ·show Act.put _ (some 32) _ = _;simp only [Act.put, List.setIfInBounds_toArray, List.set_cons_zero, List.set_cons_succ, i64_w, i32_w];rfl
    refine pst 8 (some 24) HT_ ?_;refine pst 9 (some 33) HT_ ?_;refine pst 10 (some 34) HT_ ?_;refine pst 11 (some 35) HT_ ?_;refine one_ (i := 12) (N := some 10) #[true, true, true, true, true, true, true, true, true, true, true, true, true, false, false, false] rfl rfl (one_of HT_.out (by kernel_rfl)) (by decide) (fun K hK => ?_);refine value_ (w1 := ?_) (v := ?_) (by rfl) rfl ?_ ?_;rotate_left 2
    ·go_simp;constructor
     ·rfl
     ·rfl
    refine hK.out _ _ ((hZ (hHeld.out.trans ((below_alloc (Below.refl _ _) _).mono hHeld.out.size)))) (fun hHeld => ?_);clear hK K;refine norm_ (a' := ?_) ?_ ?_;rotate_left
    ·show Act.put _ (some 10) _ = _;simp only [Act.put, List.setIfInBounds_toArray, List.set_cons_zero, List.set_cons_succ, i64_w, i32_w];rfl
    exact norm_ (by simp only [putAll, Act.put, List.setIfInBounds_toArray, List.set_cons_zero, List.set_cons_succ]) (hCont (w15.heap.size, A5, c5, A6, c6, A7, c7, v5) _ ⟨hZ (RelS.after hW (by have := HBN.out; have := HB2.out.size; omega)), hHeld⟩)
   ·skip
    refine value_ (w1 := ?_) (v := ?_) (by rfl) rfl ?_ ?_;rotate_left 2
    ·go_simp;constructor
     ·rfl
     ·rfl
    refine hK.out _ _ ((hZ (hHeld.out.trans ((below_alloc (Below.refl _ _) _).mono hHeld.out.size)))) (fun hHeld => ?_);clear hK K;refine norm_ (a' := ?_) ?_ ?_;rotate_left
    ·show Act.put _ (some 10) _ = _;simp only [Act.put, List.setIfInBounds_toArray, List.set_cons_zero, List.set_cons_succ, i64_w, i32_w];rfl
    refine one_ (i := 7) (N := some 32) #[true, true, true, true, true, true, true, true, false, false, false, false, true, false, false, false] rfl rfl (one_of HT_.out (by kernel_rfl)) (by decide) (fun K hK => ?_);refine goes_ Tryz.func24 (by kernel_rfl) rfl #[.agg #[.int .i64 M, .int .i64 now, .slice A l.length c, .slice A2 q.length c2, .slice A4 0 c4], .int .i64 x.f0, .slice Ap P.length cp] (by rfl) rfl rfl (by simp only [List.map_toArray, List.map_cons, List.map_nil]; rfl) ?_;with_reducible refine (DR _ (HB2.out.trans (hHeld.out.mono HB2.out.size))).mono ?_;rintro e w15 ⟨A5, c5, A6, c6, A7, c7, v5, rfl, hW⟩;refine ⟨_, rfl, ?_⟩;refine hK.out _ _ ((hZ (hHeld.out.trans (hW.Bl.mono hHeld.out.size)))) (fun hHeld => ?_);clear hK K;refine norm_ (a' := ?_) ?_ ?_;rotate_left
    ·show Act.put _ (some 32) _ = _;simp only [Act.put, List.setIfInBounds_toArray, List.set_cons_zero, List.set_cons_succ, i64_w, i32_w];rfl
    refine pst 8 (some 24) HT_ ?_;refine pst 9 (some 33) HT_ ?_;refine pst 10 (some 34) HT_ ?_;refine pst 11 (some 35) HT_ ?_;exact norm_ (by simp only [putAll, Act.put, List.setIfInBounds_toArray, List.set_cons_zero, List.set_cons_succ]) (hCont (wd.heap.size, A5, c5, A6, c6, A7, c7, v5) _ ⟨hZ (RelS.ahead hW (by have := HBN.out; have := HB2.out.size; omega)), hHeld⟩)
  rintro ⟨sb, A5, c5, A6, c6, A7, c7, v5⟩ w16 ⟨hS6, hB6⟩;have hHeld : Hid (Below w2.heap.size w2 w16) := hB6;refine norm_ (a' := ?_) ?_ ?_;rotate_left
  ·simp only [putAll, Act.put, List.setIfInBounds_toArray, List.set_cons_zero, List.set_cons_succ];rfl
  refine last_ (i := 13) (N := none) #[true, true, true, true, true, true, true, true, true, true, true, true, true, true, false, false] rfl rfl (one_of HT_.out (by kernel_rfl)) (by decide) (fun K hK => ?_);have z0 := (blk_cell hS6.out.Z 0).trans rfl;have f0 := blk_frozen hS6.out.Z 0;have z1 := (blk_cell hS6.out.Z 1).trans rfl;have f1 := blk_frozen hS6.out.Z 1;have z2 := (blk_cell hS6.out.Z 2).trans rfl;have f2 := blk_frozen hS6.out.Z 2;have z3 := (blk_cell hS6.out.Z 3).trans rfl;have f3 := blk_frozen hS6.out.Z 3;have z4 := (blk_cell hS6.out.Z 4).trans rfl;have f4 := blk_frozen hS6.out.Z 4;refine skip_ (w1 := ?_) (by rfl) rfl ?_ ?_;rotate_left
  ·go_simp;rfl
  have HS17 := hZ (blk_put (cs' := #[.int .i64 M, .int .i64 now, .slice A5 l.length c5, .slice A6 q.length c6, .slice A7 0 c7]) (blk_put (blk_put (blk_put (blk_put hS6.out.Z 0 (.int .i64 M) rfl) 1 (.int .i64 now) rfl) 2 (.slice A5 l.length c5) rfl) 3 (.slice A6 q.length c6) rfl) 4 (.slice A7 0 c7) rfl);have HT17 := hZ ((((((Turn.refl w16 (fun b => b = sb)).set rfl 0 (.int .i64 M)).set rfl 1 (.int .i64 now)).set rfl 2 (.slice A5 l.length c5)).set rfl 3 (.slice A6 q.length c6)).set rfl 4 (.slice A7 0 c7));clear z0 f0 z1 f1 z2 f2 z3 f3 z4 f4;generalize hws : World.setCell _ _ _ = w17 at *;clear hws;refine hK.out _ _ ?_;clear hK K;refine pst 14 (some 11) HT_ ?_;refine pst 15 (some 9) HT_ ?_;refine done_ (done_of HT_.out (by kernel_rfl)) ?_;dsimp only at hS6 HS17;have hsw2 := HB2.out.size;have hsl := hS6.out.sl;have hs17 := HT17.out.size;have hs6 := hB6.out.size;have HB17 : Hid (Below w2.heap.size w2 w17) := hZ (Turn.below hB6.out HT17.out (fun b e => by omega) hs6);have HBw : Hid (Below w.heap.size w w17) := hZ (HB2.out.trans (HB17.out.mono HB2.out.size));have HN17 := hZ (blk_below HN2.out HB17.out);have HZ17 := hZ (blk_below HZ2.out HB17.out);have HE17 := hZ (Kd.R_below HE.out HBw.out);have HV17 : Hid ((Kd.raw 4).R 67 w17 wd.heap.size (fun _ => True) v5 ((relE now x).map Ev.cells)) := hZ (raw_turn hS6.out.E HT17.out (fun b hb e => hS6.out.vs (by rw [hb, e])));have hev : ((relE now x).map Ev.cells).length <= 2 := by rw [List.length_map]; exact relE_few now x
  obtain ⟨es, hes⟩ : ∃ es, es = (relE now x).map Ev.cells := ⟨_, rfl⟩;rw [<- hes] at HV17 hev;have HES := hZ hes;clear hes;have c0 := (blk_cell HS17.out 0).trans rfl;have c1 := (blk_cell HS17.out 1).trans rfl;have c2' := (blk_cell HS17.out 2).trans rfl;have c3 := (blk_cell HS17.out 3).trans rfl;have c4' := (blk_cell HS17.out 4).trans rfl;have z0 : w17.cell? ⟨N, 0, none⟩ = some (.int .i64 M) := (blk_cell HN17.out 0).trans rfl;have z1 : w17.cell? ⟨N, 1, none⟩ = some (.int .i64 now) := (blk_cell HN17.out 1).trans rfl;have z2 : w17.cell? ⟨N, 2, none⟩ = some (.slice A l.length c) := (blk_cell HN17.out 2).trans rfl;have z3 : w17.cell? ⟨N, 3, none⟩ = some (.slice A2 q.length c2) := (blk_cell HN17.out 3).trans rfl;have z4 : w17.cell? ⟨N, 4, none⟩ = some (.slice A4 0 c4) := (blk_cell HN17.out 4).trans rfl;have f0 := blk_frozen HN17.out 0;have f1 := blk_frozen HN17.out 1;have f2 := blk_frozen HN17.out 2;have f3 := blk_frozen HN17.out 3;have f4 := blk_frozen HN17.out 4
  go_upto_region 8 with fail
  have HN18 := hZ (blk_put (cs' := sysC M now A5 l.length c5 A6 q.length c6 A7 c7 (.pointer (some ⟨Nb, 0, none⟩)) (.pointer (some ⟨Nn, 0, none⟩)) a7 (.slice AE nE cE)) (blk_put (blk_put (blk_put (blk_put HN17.out 0 (.int .i64 M) rfl) 1 (.int .i64 now) rfl) 2 (.slice A5 l.length c5) rfl) 3 (.slice A6 q.length c6) rfl) 4 (.slice A7 0 c7) rfl);have HT18 := hZ ((((((Turn.refl w17 (fun b => b = N)).set rfl 0 (.int .i64 M)).set rfl 1 (.int .i64 now)).set rfl 2 (.slice A5 l.length c5)).set rfl 3 (.slice A6 q.length c6)).set rfl 4 (.slice A7 0 c7));generalize hws : World.setCell _ _ _ = w18 at *;clear hws c0 c1 c2' c3 c4' z0 z1 z2 z3 z4 f0 f1 f2 f3 f4;have hs18 := HT18.out.size;have hsw := HBw.out.size;have HV18 := raw_turn HV17.out HT18.out (fun b hb e => by have := Kd.R_base HV17.out b hb; omega);have HE18 := hZ (raw_turn HE17.out HT18.out (fun b hb e => HL6.out b hb e));obtain ⟨AV, cV, e5, hcV, hCV⟩ := Kd.R_reads HV18;have HCV := hZ hCV;have HV5 := hZ e5;have x8 : w18.cell? ⟨N, 8, none⟩ = some (.slice AE nE cE) := (blk_cell HN18.out 8).trans rfl;have hb18 : bE <= w18.heap.size := by have := HBE.out; omega
  have HRS := hZ (And.intro hS6.out.R hS6.out.vs);rw [e5] at HRS;subst e5;clear hCV HV18 hS6 hB6
  go_upto_region 9 with ((with_reducible refine gate_builtin (b := .append) (xs := #[.tmp 50, .tmp 51]) rfl ?_); at_builtin; refine Kd.R_append_rows (Kd.raw 4) (Rr := (Kd.raw 4).K w18) (okp := fun _ => False) (w0 := w18) bE rfl (.tmp 50) (.tmp 51) 48 67 (.agg #[.int .i64 0, .int .i64 0, .int .i64 0, .int .i64 0]) 32 rfl Tryz.underlying48 info67 rfl (by decide) (by omega) (.slice AE nE cE) E es AV es.length cV (fun _ => True) rfl rfl HE18.out ?hC (fun _ _ h => h) (fun _ h => h.elim) (fun _ _ => trivial) (Below.refl _ _) hb18 ?aL ?_; (case hC => exact HCV.out); (case aL => omega); intro v9 w19 hR9 hB9 hg9 hat9; obtain ⟨A9, c9, e9⟩ := Kd.R_slice hR9; rw [List.length_append] at e9; subst e9; have HR9 := hZ hR9; have HT9 := hZ (grown_turn hg9); have HAT9 := hZ hat9; have HN19 := hZ ((HT9.out.block N (by omega) (fun e => HL6.out _ e.symm rfl)).trans HN18.out); have y8 : w19.cell? ⟨N, 8, none⟩ = some (.slice AE nE cE) := ((blk_cell HN19.out 8).trans rfl); have f8 := blk_frozen HN19.out 8; clear hR9 hB9 hg9 hat9 x8)
  have HN20 := hZ (blk_put (cs' := sysC M now A5 l.length c5 A6 q.length c6 A7 c7 (.pointer (some ⟨Nb, 0, none⟩)) (.pointer (some ⟨Nn, 0, none⟩)) a7 (.slice A9 (E.length + es.length) c9)) HN19.out 8 (.slice A9 (E.length + es.length) c9) rfl);have HT20 := hZ ((Turn.refl w19 (fun b => b = N)).set rfl 8 (.slice A9 (E.length + es.length) c9));generalize hws : World.setCell _ _ _ = w20 at *;clear hws y8 f8;have hs19 := HT9.out.size;have hs20 := HT20.out.size;have HAEw : Hid (∀ b, (Value.slice AE nE cE).ownBlock = some b -> b < w.heap.size) := hZ (fun b e => Kd.R_lt HE.out b e);have HT1720 : Hid (Turn w17 w20 (fun b => b = N \/ some b = (Value.slice AE nE cE).ownBlock)) := hZ (((HT18.out.imp (fun b e => .inl e)).trans (HT9.out.imp (fun b e => .inr e))).trans (HT20.out.imp (fun b e => .inl e)));have hz1 : w1.heap.size < w2.heap.size := blk_lt HZ2.out;have HZ20 := hZ ((HT1720.out.block w1.heap.size (by have := HB17.out.size; omega) (fun e => e.elim (fun e => by omega) (fun e => by have := HAEw.out _ e.symm; omega))).trans HZ17.out);have y5 : w20.cell? ⟨w1.heap.size, 9, none⟩ = some (.int .i64 x.f5) := (blk_cell HZ20.out 9).trans rfl;go_wp2;go_ret2;have hT2 : ∀ b, (b = N \/ some b = (Value.slice AE nE cE).ownBlock) -> lab b = 1 \/ lab b = 6 := fun b e => e.imp (fun e => by rw [e]; exact HX.out.l1) (fun e => HX.out.l6 b e.symm)
  have hTw : Turn w w20 (fun b => b = N \/ some b = (Value.slice AE nE cE).ownBlock) := (Turn.of_below _ HBw.out).trans HT1720.out;refine ⟨rfl, ?_, hTw.imp (fun b e => by have := hT2 b e; omega)⟩;obtain ⟨⟨F, B', h1, h2, h3, h4, h5⟩, hvs⟩ := HRS.out;have hT16 : Turn w16 w20 (fun b => b = sb \/ b = N \/ some b = (Value.slice AE nE cE).ownBlock) := (HT17.out.imp (fun b e => .inl e)).trans (HT1720.out.imp (fun b e => .inr e))
  have hv9 : ∀ b, (Value.slice A9 (E.length + es.length) c9).ownBlock = some b -> (Value.slice AE nE cE).ownBlock = some b \/ w18.heap.size <= b := fun b e => by
   rcases HAT9.out with h | ⟨b2, h, hle⟩
   ·exact .inl (h ▸ e)
   ·rw [h] at e; injection e with e; exact .inr (by omega)
  have hG : ∀ b, B'.G b -> b ≠ N /\ (Value.slice AE nE cE).ownBlock ≠ some b := fun b hb => by
   rcases (h2 b hb).1 with h | h
   ·have h8 : lab b = 7 := HX.out.l8 b h;exact ⟨fun e => by have h9 := HX.out.l1; rw [<- e] at h9; omega, fun e => by have h9 := HX.out.l6 b e; omega⟩
   ·exact ⟨by omega, fun e => by have := HAEw.out b e; omega⟩
  have hF : ∀ b, F b -> b ≠ N /\ (Value.slice AE nE cE).ownBlock ≠ some b := fun b hb => by
   have := (h4 b hb).1;exact ⟨by omega, fun e => by have := HAEw.out b e; omega⟩
  have hES := HES.out;rw [<- hES]
  exact HX.out.anew hTw hT2 A5 c5 A6 c6 A7 c7 A9 (E.length + es.length) c9 B' F (by rw [List.length_set]; exact HN20.out) (raw_turn HR9.out HT20.out (fun b hb e => by
   rcases hv9 b hb with h | h
   ·exact HL6.out b h e
   ·omega)) (h1.keep hT16 (fun b e => by
   rcases e with e | e | e
   ·exact ⟨fun h => (h4 b h).2.2.2 e, fun h => (h2 b h).2 e⟩
   ·exact ⟨fun h => (hF b h).1 e, fun h => (hG b h).1 e⟩
   ·exact ⟨fun h => (hF b h).2 e.symm, fun h => (hG b h).2 e.symm⟩)) (fun b hb => ⟨.inr (by have := (h4 b hb).1; omega), by have := (h4 b hb).2.1; omega, fun e => by
   rcases hv9 b e with h | h
   ·exact (hF b hb).2 h
   ·have := (h4 b hb).2.1; omega⟩) (by
   rcases HAT9.out with h | ⟨b2, h, hle⟩
   ·exact .inl h
   ·exact .inr (fun b e => by rw [h] at e; injection e with e; omega)) (fun b hb => ⟨(h2 b hb).1.imp (fun h => h) (fun h => by omega), fun e => by
   rcases hv9 b e with h | h
   ·exact (hG b hb).2 h
   ·have := B'.lt b hb; omega⟩) (by omega)
 ·have gC : (C != 0) = true := by simpa using hC0
  have DR := fun wx (hb : Below w.heap.size w wx) => (DR wx hb).mono (fun e w' h => h.1 hC0)
  go_upto_region 4 with fail
  refine start_ (n := 16) (S := fun w' => Hid (Below w2.heap.size w2 w')) (ds := [13]) #[false, false, false, false, false, false, false, false, false, false, false, false, false, false, false, false] (by kernel_rfl) rfl rfl ((hZ (below_drew (Below.refl _ _)))) (fun hHeld => ?_);refine with_tabW srelw.tab4 srelw.bits4 (fun HT_ HW_ => ?_);have hbd : Hid (Below w2.heap.size w2 w2.drew) := hZ ⟨rfl, rfl, rfl, Nat.le_refl _, fun _ _ => rfl⟩;have hsd : w2.heap.size = w2.drew.heap.size := rfl;generalize hwd : w2.drew = wd at *;clear hwd;refine pst 0 (some 25) HT_ ?_;refine pst 1 (some 26) HT_ ?_;refine pst 2 (some 27) HT_ ?_;refine pst 4 (some 29) HT_ ?_;refine pst 6 (some 31) HT_ ?_;refine tst 3 (some 28) HT_ HW_ hHeld ?_ (hy := by (intro w' s0; have y0 : w'.cell? ⟨N, 0, none⟩ = some (.int .i64 M) := (blk_cell (blk_below HN2.out s0.out) 0).trans rfl; have y1 : w'.cell? ⟨N, 1, none⟩ = some (.int .i64 now) := (blk_cell (blk_below HN2.out s0.out) 1).trans rfl; have y2 : w'.cell? ⟨N, 2, none⟩ = some (.slice A l.length c) := (blk_cell (blk_below HN2.out s0.out) 2).trans rfl; have y3 : w'.cell? ⟨N, 3, none⟩ = some (.slice A2 q.length c2) := (blk_cell (blk_below HN2.out s0.out) 3).trans rfl; have y4 : w'.cell? ⟨N, 4, none⟩ = some (.slice A4 0 c4) := (blk_cell (blk_below HN2.out s0.out) 4).trans rfl; have q0 : w'.cell? ⟨w1.heap.size, 0, none⟩ = some (.int .i64 x.f0) := (blk_cell (blk_below HZ2.out s0.out) 0).trans rfl); go_simp; with_reducible rfl);refine tst 5 (some 30) HT_ HW_ hHeld ?_ (hy := by (intro w' s0; have y0 : w'.cell? ⟨N, 0, none⟩ = some (.int .i64 M) := (blk_cell (blk_below HN2.out s0.out) 0).trans rfl; have y1 : w'.cell? ⟨N, 1, none⟩ = some (.int .i64 now) := (blk_cell (blk_below HN2.out s0.out) 1).trans rfl; have y2 : w'.cell? ⟨N, 2, none⟩ = some (.slice A l.length c) := (blk_cell (blk_below HN2.out s0.out) 2).trans rfl; have y3 : w'.cell? ⟨N, 3, none⟩ = some (.slice A2 q.length c2) := (blk_cell (blk_below HN2.out s0.out) 3).trans rfl; have y4 : w'.cell? ⟨N, 4, none⟩ = some (.slice A4 0 c4) := (blk_cell (blk_below HN2.out s0.out) 4).trans rfl; have q0 : w'.cell? ⟨w1.heap.size, 0, none⟩ = some (.int .i64 x.f0) := (blk_cell (blk_below HZ2.out s0.out) 0).trans rfl); go_simp; with_reducible rfl);refine join_ (σ := Nat) 3 #[true, true, true, true, true, true, true, true, true, true, true, true, true, false, false, false] (fun s => [(32, .tuple #[.agg #[.int .i64 M, .int .i64 now, .slice A l.length c, .slice A2 q.length c2, .slice A4 0 c4], .slice none 0 0, .int .i64 C]), (24, .tuple #[.agg #[.int .i64 M, .int .i64 now, .slice A l.length c, .slice A2 q.length c2, .slice A4 0 c4], .slice none 0 0, .int .i64 C]), (33, .agg #[.int .i64 M, .int .i64 now, .slice A l.length c, .slice A2 q.length c2, .slice A4 0 c4]), (34, .slice none 0 0), (35, .int .i64 C), (10, .pointer (some ⟨s, 0, none⟩))]) (fun s w' => Hid (w'.heap[s]? = some (.cells #[.int .i64 0, .int .i64 0, .slice none 0 0, .slice none 0 0, .slice none 0 0] 47 (0, 0))) /\ Hid (Below w2.heap.size w2 w') /\ Hid (w2.heap.size <= s)) ?_ ?_;rotate_left
  ·intro hCont;refine two_ (i := 7) (j := 12) (Ni := some 32) (Nj := some 10) #[true, true, true, true, true, true, true, true, false, false, false, false, false, false, false, false] #[true, true, true, true, true, true, true, false, false, false, false, false, true, false, false, false] rfl rfl rfl rfl (two_of HT_.out (by kernel_rfl)) (by decide) (by decide) (fun K hK => ?_) (fun K hK => ?_)
   ·skip
    refine goes_ Tryz.func24 (by kernel_rfl) rfl #[.agg #[.int .i64 M, .int .i64 now, .slice A l.length c, .slice A2 q.length c2, .slice A4 0 c4], .int .i64 x.f0, .slice Ap P.length cp] (by rfl) rfl rfl (by simp only [List.map_toArray, List.map_cons, List.map_nil]; rfl) ?_;with_reducible refine (DR _ (HB2.out.trans (hHeld.out.mono HB2.out.size))).mono ?_;rintro e w15 ⟨rfl, hB15⟩;refine ⟨_, rfl, ?_⟩;refine hK.out _ _ ((hZ (hHeld.out.trans (hB15.mono hHeld.out.size)))) (fun hHeld => ?_);clear hK K;refine norm_ (a' := ?_) ?_ ?_;rotate_left
    ·show Act.put _ (some 32) _ = _;simp only [Act.put, List.setIfInBounds_toArray, List.set_cons_zero, List.set_cons_succ, i64_w, i32_w];rfl
    refine pst 8 (some 24) HT_ ?_;refine pst 9 (some 33) HT_ ?_;refine pst 10 (some 34) HT_ ?_;refine pst 11 (some 35) HT_ ?_;refine one_ (i := 12) (N := some 10) #[true, true, true, true, true, true, true, true, true, true, true, true, true, false, false, false] rfl rfl (one_of HT_.out (by kernel_rfl)) (by decide) (fun K hK => ?_);refine value_ (w1 := ?_) (v := ?_) (by rfl) rfl ?_ ?_;rotate_left 2
    ·go_simp;constructor
     ·rfl
     ·rfl
    refine hK.out _ _ ((hZ (hHeld.out.trans ((below_alloc (Below.refl _ _) _).mono hHeld.out.size)))) (fun hHeld => ?_);clear hK K;refine norm_ (a' := ?_) ?_ ?_;rotate_left
    ·show Act.put _ (some 10) _ = _;simp only [Act.put, List.setIfInBounds_toArray, List.set_cons_zero, List.set_cons_succ, i64_w, i32_w];rfl
    exact norm_ (by simp only [putAll, Act.put, List.setIfInBounds_toArray, List.set_cons_zero, List.set_cons_succ]) (hCont w15.heap.size _ ⟨hZ (blk_new w15 _), hHeld, hZ (by have := hB15.size; omega)⟩)
   ·skip
    refine value_ (w1 := ?_) (v := ?_) (by rfl) rfl ?_ ?_;rotate_left 2
    ·go_simp;constructor
     ·rfl
     ·rfl
    refine hK.out _ _ ((hZ (hHeld.out.trans ((below_alloc (Below.refl _ _) _).mono hHeld.out.size)))) (fun hHeld => ?_);clear hK K;refine norm_ (a' := ?_) ?_ ?_;rotate_left
    ·show Act.put _ (some 10) _ = _;simp only [Act.put, List.setIfInBounds_toArray, List.set_cons_zero, List.set_cons_succ, i64_w, i32_w];rfl
    refine one_ (i := 7) (N := some 32) #[true, true, true, true, true, true, true, true, false, false, false, false, true, false, false, false] rfl rfl (one_of HT_.out (by kernel_rfl)) (by decide) (fun K hK => ?_);refine goes_ Tryz.func24 (by kernel_rfl) rfl #[.agg #[.int .i64 M, .int .i64 now, .slice A l.length c, .slice A2 q.length c2, .slice A4 0 c4], .int .i64 x.f0, .slice Ap P.length cp] (by rfl) rfl rfl (by simp only [List.map_toArray, List.map_cons, List.map_nil]; rfl) ?_;with_reducible refine (DR _ (HB2.out.trans (hHeld.out.mono HB2.out.size))).mono ?_;rintro e w15 ⟨rfl, hB15⟩;refine ⟨_, rfl, ?_⟩;refine hK.out _ _ ((hZ (hHeld.out.trans (hB15.mono hHeld.out.size)))) (fun hHeld => ?_);clear hK K;refine norm_ (a' := ?_) ?_ ?_;rotate_left
    ·show Act.put _ (some 32) _ = _;simp only [Act.put, List.setIfInBounds_toArray, List.set_cons_zero, List.set_cons_succ, i64_w, i32_w];rfl
    refine pst 8 (some 24) HT_ ?_;refine pst 9 (some 33) HT_ ?_;refine pst 10 (some 34) HT_ ?_;refine pst 11 (some 35) HT_ ?_;exact norm_ (by simp only [putAll, Act.put, List.setIfInBounds_toArray, List.set_cons_zero, List.set_cons_succ]) (hCont wd.heap.size _ ⟨hZ (blk_below (blk_new wd _) hB15), hHeld, hZ (by omega)⟩)
  rintro sb w16 ⟨hA6, hB6, hS6⟩;have hHeld : Hid (Below w2.heap.size w2 w16) := hB6;refine norm_ (a' := ?_) ?_ ?_;rotate_left
  ·simp only [putAll, Act.put, List.setIfInBounds_toArray, List.set_cons_zero, List.set_cons_succ];rfl
  refine last_ (i := 13) (N := none) #[true, true, true, true, true, true, true, true, true, true, true, true, true, true, false, false] rfl rfl (one_of HT_.out (by kernel_rfl)) (by decide) (fun K hK => ?_);have z0 := (blk_cell hA6.out 0).trans rfl;have f0 := blk_frozen hA6.out 0;have z1 := (blk_cell hA6.out 1).trans rfl;have f1 := blk_frozen hA6.out 1;have z2 := (blk_cell hA6.out 2).trans rfl;have f2 := blk_frozen hA6.out 2;have z3 := (blk_cell hA6.out 3).trans rfl;have f3 := blk_frozen hA6.out 3;have z4 := (blk_cell hA6.out 4).trans rfl;have f4 := blk_frozen hA6.out 4;refine skip_ (w1 := ?_) (by rfl) rfl ?_ ?_;rotate_left
  ·go_simp;rfl
  have HS17 := hZ (blk_put (cs' := #[.int .i64 M, .int .i64 now, .slice A l.length c, .slice A2 q.length c2, .slice A4 0 c4]) (blk_put (blk_put (blk_put (blk_put hA6.out 0 (.int .i64 M) rfl) 1 (.int .i64 now) rfl) 2 (.slice A l.length c) rfl) 3 (.slice A2 q.length c2) rfl) 4 (.slice A4 0 c4) rfl);have HT17 := hZ ((((((Turn.refl w16 (fun b => b = sb)).set rfl 0 (.int .i64 M)).set rfl 1 (.int .i64 now)).set rfl 2 (.slice A l.length c)).set rfl 3 (.slice A2 q.length c2)).set rfl 4 (.slice A4 0 c4));clear z0 f0 z1 f1 z2 f2 z3 f3 z4 f4;generalize hws : World.setCell _ _ _ = w17 at *;clear hws;refine hK.out _ _ ?_;clear hK K;refine pst 14 (some 11) HT_ ?_;refine pst 15 (some 9) HT_ ?_;refine done_ (done_of HT_.out (by kernel_rfl)) ?_;have HB17 := hZ (Turn.below hB6.out HT17.out (fun b e => by have := hS6.out; omega) hB6.out.size)
  go_wp2_with (go_at_call 20; (with_reducible refine (DE _ _ _ hC0).mono ?_); rintro e w18 ⟨⟨pf, rfl⟩, hB18⟩; have HB18 := hZ hB18; clear hB18)
  go_ret2;exact ⟨fun _ => ⟨⟨pf, rfl⟩, HB2.out.trans ((HB17.out.trans (HB18.out.mono HB17.out.size)).mono HB2.out.size)⟩, fun h => absurd h hC0⟩
def sopenw.T4 : Bool × List (List Nat × List Nat) := (true, [([], []), ([0], [0]), ([1], [1]), ([2], [2]), ([], []), ([4], [4]), ([], []), ([], []), ([7], [7]), ([8], [8]), ([9], [9]), ([10], [10]), ([3, 5, 6, 11], [3, 5, 6, 11]), ([12, 12, 0, 1, 2, 3, 4, 5, 6, 7, 8, 9, 10, 11, 12], [12])])
def sopenw.B4 : List Nat := [0, 1, 3, 7, 0, 16, 0, 0, 128, 384, 896, 1920, 4095, 8191]
theorem sopenw.tab4 : rtab .any (opsOf Tryz.f18 4) = sopenw.T4 := by kernel_rfl
theorem sopenw.bits4 : waitsOk sopenw.T4.2 sopenw.B4 = true := by kernel_rfl
structure OpenOk (l : List S57) (q : List S63) (nn : Nat) (bk : List S157) : Prop where
  sorted : Sorted l
  n30 : nn <= 30
  len : l.length <= nn
  blen : bk.length <= nn
  lid : ∀ k (h : k < l.length), l[k].f0 <= nn
  bid : ∀ k (h : k < bk.length), bk[k].f0 <= nn
  bok : ∀ k (h : k < bk.length), WOk bk[k].f1
  qlen : q.length <= 8
  jobs : ∀ i (h : i < l.length), l[i].f2.length <= 100000
  que : ∀ i (h : i < q.length), q[i].f2.length <= 100000
theorem askC_ok {M : Int} {bk : List S157} {x : S85} (h : askC M bk x = 0) : WOk x := by
  unfold askC at h;by_cases hx : WOk x
  · exact hx
  · rw [if_neg hx] at h; exact absurd h (by decide)
theorem askC_not {M : Int} {bk : List S157} {x : S85} (h : ¬ WOk x) : askC M bk x = 1 := by
  unfold askC;rw [if_neg h]
theorem sopen_calls (N : Nat) (lab : Nat -> Nat) (M now : Int) (l : List S57) (q : List S63) (nn : Nat) (bk : List S157) (E : List (List Value)) (w : World) (h : SysAt w lab N M now l q nn bk E) (hk : OpenOk l q nn bk) (q0 p0 : Int) (hm1 : 1 <= M) (hm2 : M <= 64) (hnow : 0 <= now) :
    Calls Tryz.prog 18 #[.pointer (some ⟨N, 0, none⟩), .int .i64 q0, .int .i64 p0] w fun e w' =>
      (askC M bk ⟨q0, p0⟩ ≠ 0 -> (∃ p, e = .returned (.tuple #[.int .u32 0, .iface 111 p])) /\ Below w.heap.size w w') /\
      (askC M bk ⟨q0, p0⟩ = 0 -> e = .returned (.tuple #[.int .u32 nn, .nilIface]) /\ (∃ lab', SysAt w' lab' N M now (l ++ [newServ ((nn : Int) + 1) q0 p0]) q (nn + 1) (bk ++ [⟨(nn : Int) + 1, ⟨q0, p0⟩, -1⟩]) E /\ Grew w lab lab') /\ Turn w w' (fun b => lab b ≠ 0)) := by
  obtain ⟨r, h⟩ := h;have n30 := hk.n30;have n1 := h.l1;have n2 := h.l2;have n3 := h.l3;have n4 := h.l4;have hblk := h.blk;have DP := fun wx (hb : Below w.heap.size w wx) => place_calls r.Nn r.Ns nn wx (h.tab.below hb)
  have DG := fun wx => wgood_calls ⟨q0, p0⟩ wx
  have DN := fun wx (hb : Below w.heap.size w wx) => enter_calls M r.Nb r.bB r.vB bk ((nn : Int) + 1) ⟨q0, p0⟩ now wx (blk_below h.book hb) (Kd.R_below h.ent hb) (fun e => by have := h.l5 _ e; omega) (Nat.le_trans h.bb hb.size) (by have := hk.blen; omega) (fun k hh => by have := hk.bid k hh; omega) hk.bok hm1 hm2 hnow
  have DE := fun wx (c : Int) (hc : c ≠ 0) => fault_calls (.string { data := #[111, 112, 101, 110] }) ⟨_, rfl⟩ 0 c wx hc
  have HX := hZ h;have HK := hZ hk;have HN := hZ hblk;have HB0 := hZ (below_alloc (Below.refl w.heap.size w) (.cells #[.int .i64 q0, .int .i64 p0] 85));have HX0 := hZ (blk_new w (.cells #[.int .i64 q0, .int .i64 p0] 85));have gn : decide ((nn : Int) < 0) = false := by simp
  have HC : Hid (¬ WOk ⟨q0, p0⟩ -> askC M bk ⟨q0, p0⟩ = 1) := hZ askC_not;have HC2 : Hid (askC M bk ⟨q0, p0⟩ = 0 -> WOk ⟨q0, p0⟩) := hZ askC_ok;have hwn : IntKind.i64.wrap ((nn : Int) + 1) = (nn : Int) + 1 := by rw [i64_w]; unfold Go.RowKit.wrap64; omega
  have hNw : N < w.heap.size := blk_lt hblk;unfold EnterP at DN;generalize askC M bk ⟨q0, p0⟩ = C at *;obtain ⟨Nb, Nn, Ns, A, c, A2, c2, A4, c4, a7, vB, AE, nE, cE, bB, bE, B, F0⟩ := r;dsimp only at *;clear h hk hblk;have hs0 : (w.alloc (.cells #[.int .i64 q0, .int .i64 p0] 85)).heap.size = w.heap.size + 1 := World.size_alloc _ _;generalize hw0 : w.alloc (.cells #[.int .i64 q0, .int .i64 p0] 85) = w0 at *;have HN0 := hZ (blk_below HN.out HB0.out);have x6 : w0.cell? ⟨N, 6, none⟩ = some (.pointer (some ⟨Nn, 0, none⟩)) := (blk_cell HN0.out 6).trans rfl;have x0 := (blk_cell HX0.out 0).trans rfl;have x1 := (blk_cell HX0.out 1).trans rfl;have HW0 := hZ hw0;clear hw0;go_enter Tryz.func18, Tryz.ntmps18
  go_upto_region 2 with fail
  rw [HW0.out]
  go_upto_region 3 with (go_at_call 34; (with_reducible refine (DP _ HB0.out).mono ?_); rintro e w1 ⟨rfl, rfl⟩)
  clear DP;by_cases hx : WOk ⟨q0, p0⟩
  · have gx : decide (WOk ⟨q0, p0⟩) = true := by simpa using hx
    rw [gx] at DG;have HWOK := hZ hx;clear gx hx;by_cases hC0 : C = 0
    · subst hC0
      go_upto_if 34 with (go_at_call 35; (with_reducible refine (DG _).mono ?_); rintro e w2 ⟨rfl, hB2⟩; have HN2 := hZ (blk_below HN0.out hB2); have HX2 := hZ (blk_below HX0.out hB2); have HB2 := hZ (HB0.out.trans (hB2.mono HB0.out.size)); clear hB2 x0 x1 x6)
      go_upto_if 38 with fail
      go_upto_region 4 with fail
      refine start_ (n := 14) (S := fun w' => Hid (Below w2.heap.size w2 w')) (ds := [12]) #[false, false, false, false, false, false, false, false, false, false, false, false, false, false] (by kernel_rfl) rfl rfl ((hZ (below_drew (Below.refl _ _)))) (fun hHeld => ?_);refine with_tabW sopenw.tab4 sopenw.bits4 (fun HT_ HW_ => ?_);have hbd : Hid (Below w2.heap.size w2 w2.drew) := hZ ⟨rfl, rfl, rfl, Nat.le_refl _, fun _ _ => rfl⟩;have hsd : w2.heap.size = w2.drew.heap.size := rfl;generalize hwd : w2.drew = wd at *;clear hwd;refine pst 0 (some 21) HT_ ?_;refine pst 1 (some 22) HT_ ?_;refine pst 2 (some 23) HT_ ?_;refine pst 4 (some 25) HT_ ?_;refine pst 5 (some 26) HT_ ?_;refine pst 7 (some 28) HT_ ?_;refine pst 8 (some 29) HT_ ?_;refine pst 9 (some 30) HT_ ?_;refine pst 10 (some 31) HT_ ?_;refine tst 3 (some 24) HT_ HW_ hHeld ?_ (hy := by (intro w' s0; have y1 : w'.cell? ⟨N, 5, none⟩ = some (.pointer (some ⟨Nb, 0, none⟩)) := (blk_cell (blk_below HN2.out s0.out) 5).trans rfl; have y2 : w'.cell? ⟨N, 1, none⟩ = some (.int .i64 now) := (blk_cell (blk_below HN2.out s0.out) 1).trans rfl; have q1 := (blk_cell (blk_below HX2.out s0.out) 0).trans rfl; have q2 := (blk_cell (blk_below HX2.out s0.out) 1).trans rfl); go_simp; with_reducible rfl);refine tst 6 (some 27) HT_ HW_ hHeld ?_ (hy := by (intro w' s0; have y1 : w'.cell? ⟨N, 5, none⟩ = some (.pointer (some ⟨Nb, 0, none⟩)) := (blk_cell (blk_below HN2.out s0.out) 5).trans rfl; have y2 : w'.cell? ⟨N, 1, none⟩ = some (.int .i64 now) := (blk_cell (blk_below HN2.out s0.out) 1).trans rfl; have q1 := (blk_cell (blk_below HX2.out s0.out) 0).trans rfl; have q2 := (blk_cell (blk_below HX2.out s0.out) 1).trans rfl); go_simp; with_reducible rfl);refine tst 11 (some 32) HT_ HW_ hHeld ?_ (hy := by (intro w' s0; have y1 : w'.cell? ⟨N, 5, none⟩ = some (.pointer (some ⟨Nb, 0, none⟩)) := (blk_cell (blk_below HN2.out s0.out) 5).trans rfl; have y2 : w'.cell? ⟨N, 1, none⟩ = some (.int .i64 now) := (blk_cell (blk_below HN2.out s0.out) 1).trans rfl; have q1 := (blk_cell (blk_below HX2.out s0.out) 0).trans rfl; have q2 := (blk_cell (blk_below HX2.out s0.out) 1).trans rfl); go_simp; with_reducible rfl);refine last_ (i := 12) (N := some 33) #[true, true, true, true, true, true, true, true, true, true, true, true, true, false] rfl rfl (one_of HT_.out (by kernel_rfl)) (by decide) (fun K hK => ?_);refine goes_ Tryz.func36 (by kernel_rfl) rfl #[.pointer (some ⟨Nb, 0, none⟩), .int .i64 ((nn : Int) + 1), .agg #[.int .i64 q0, .int .i64 p0], .int .i64 now] (by rfl) rfl rfl (by simp only [List.map_toArray, List.map_cons, List.map_nil]; rfl) ?_;with_reducible refine (DN _ (HB2.out.trans (hHeld.out.mono HB2.out.size))).mono ?_;rintro e w4 ⟨rfl, _, hB4⟩;refine ⟨_, rfl, ?_⟩;obtain ⟨vB', hbk4, hent4, hT4, hvb4⟩ := hB4 (by first | exact trivial | exact rfl);have HBK4 := hZ hbk4;have HENT4 := hZ hent4;have HT4 := hZ hT4;have HVB4 := hZ hvb4;have HB3 := hHeld;clear hB4 hbk4 hent4 hT4 hvb4;refine hK.out _ _ ?_;clear hK K;refine norm_ (a' := ?_) ?_ ?_;rotate_left
      · show Act.put _ (some 33) _ = _;simp only [Act.put, List.setIfInBounds_toArray, List.set_cons_zero, List.set_cons_succ, i64_w, i32_w];rfl
      refine pst 13 (some 10) HT_ ?_;refine done_ (done_of HT_.out (by kernel_rfl)) ?_;have HBd := hZ (HB2.out.trans (HB3.out.mono HB2.out.size));have l2 := HX.out.l2;have l1 := HX.out.l1;have l3 := HX.out.l3;have l4 := HX.out.l4;dsimp only at l2 l3 l4;have HTw4 : Hid (Turn w w4 (fun b => b = Nb \/ some b = vB.ownBlock)) := hZ ((Turn.of_below _ HBd.out).trans HT4.out);have HL4 : Hid (∀ b, (b = Nb \/ some b = vB.ownBlock) -> lab b = 2 \/ lab b = 5) := hZ (fun b e => e.imp (fun e => by rw [e]; exact l2) (fun e => HX.out.l5 b e.symm));have HN4 := hZ ((HTw4.out.block N hNw (fun e => by have := HL4.out _ e; omega)).trans HN.out);have HTAB4 := hZ (HX.out.tab.turn HTw4.out (fun e => by have := HL4.out _ e; dsimp only at this; omega) (fun e => by have := HL4.out _ e; dsimp only at this; omega));dsimp only at HTAB4;have DT := fun wx (hb : w4 = wx) => (by subst hb; exact take_calls Nn Ns nn w4 HTAB4.out (by omega) : Calls Tryz.prog 37 #[.pointer (some ⟨Nn, 0, none⟩)] wx fun e w' => e = .returned (.tuple #[.int .u32 nn, .int .i64 0]) /\ TabAt w' Nn Ns (nn + 1) /\ Turn w4 w' (fun b => b = Ns))
      have x6 : w4.cell? ⟨N, 6, none⟩ = some (.pointer (some ⟨Nn, 0, none⟩)) := (blk_cell HN4.out 6).trans rfl;have hsw := HTw4.out.size
      go_upto_region 12 with (go_at_call 37; (with_reducible refine (DT _ rfl).mono ?_); rintro e w5 ⟨rfl, hTab5, hT5⟩; have HTAB5 := hZ hTab5; have HT5 := hZ hT5; clear hTab5 hT5)
      have hs5 := HT5.out.size;have HTw5 : Hid (Turn w w5 (fun b => (b = Nb \/ some b = vB.ownBlock) \/ b = Ns)) := hZ ((HTw4.out.imp (fun b e => .inl e)).trans (HT5.out.imp (fun b e => .inr e)));have HL5 : Hid (∀ b, ((b = Nb \/ some b = vB.ownBlock) \/ b = Ns) -> lab b = 2 \/ lab b = 5 \/ lab b = 4) := hZ (fun b e => e.elim (fun e => (HL4.out b e).imp (fun h => h) (fun h => .inl h)) (fun e => by rw [e]; exact .inr (.inr l4)));have HN5 := hZ ((HTw5.out.block N hNw (fun e => by have := HL5.out _ e; omega)).trans HN.out);have hM5 : RdF w5 F0 B A l A2 q := HX.out.mach.keep HTw5.out (fun b e => ⟨fun hf => by have := HL5.out b e; have := HX.out.l7 b hf; omega, fun hf => by have := HL5.out b e; have := HX.out.l8 b hf; omega⟩);have hw := HWOK.out;have DA := fun wx (hb : w5 = wx) => (by subst hb; exact add_calls M now A l c A2 q c2 A4 c4 B ((nn : Int) + 1) q0 p0 w5 (Nat.le_trans HX.out.bn HTw5.out.size) hM5.now HK.out.sorted (by have := HK.out.len; omega) HK.out.qlen HK.out.jobs HK.out.que (fun k hh => by have := HK.out.lid k hh; omega) (by omega) (by omega) hw.2.2.1 hw.2.2.2 hw.2.1 : Calls Tryz.prog 38 #[stV M now A l.length c A2 q.length c2 A4 c4, .int .i64 ((nn : Int) + 1), .int .i64 q0, .int .i64 p0] wx fun e w' => ∃ A' c' A2' c2' A4 c4 F, e = .returned (.tuple #[stV M now A' (l.length + 1) c' A2' q.length c2' A4 c4, .int .i64 0]) /\ RdF w' F B A' (l ++ [newServ ((nn : Int) + 1) q0 p0]) A2' q /\ (∀ b, F b -> w5.heap.size <= b /\ b < w'.heap.size) /\ Below w5.heap.size w5 w')
      unfold stV at DA;have x0 : w5.cell? ⟨N, 0, none⟩ = some (.int .i64 M) := (blk_cell HN5.out 0).trans rfl;have x1 : w5.cell? ⟨N, 1, none⟩ = some (.int .i64 now) := (blk_cell HN5.out 1).trans rfl;have x2 : w5.cell? ⟨N, 2, none⟩ = some (.slice A l.length c) := (blk_cell HN5.out 2).trans rfl;have x3 : w5.cell? ⟨N, 3, none⟩ = some (.slice A2 q.length c2) := (blk_cell HN5.out 3).trans rfl;have x4 : w5.cell? ⟨N, 4, none⟩ = some (.slice A4 0 c4) := (blk_cell HN5.out 4).trans rfl;clear x6 hM5 hw
      go_upto_region 13 with (go_at_call 38; (with_reducible refine (DA _ rfl).mono ?_); rintro e w6 ⟨A', c', A2', c2', A5, c5, F, rfl, hR6, hF6, hB6⟩; have HR6 := hZ hR6; have HF6 := hZ hF6; have HB6 := hZ hB6; have HN6 := hZ (blk_below HN5.out hB6); have z0 : w6.cell? ⟨N, 0, none⟩ = some (.int .i64 M) := (blk_cell HN6.out 0).trans rfl; have z1 : w6.cell? ⟨N, 1, none⟩ = some (.int .i64 now) := (blk_cell HN6.out 1).trans rfl; have z2 : w6.cell? ⟨N, 2, none⟩ = some (.slice A l.length c) := (blk_cell HN6.out 2).trans rfl; have z3 : w6.cell? ⟨N, 3, none⟩ = some (.slice A2 q.length c2) := (blk_cell HN6.out 3).trans rfl; have z4 : w6.cell? ⟨N, 4, none⟩ = some (.slice A4 0 c4) := (blk_cell HN6.out 4).trans rfl; have f0 := blk_frozen HN6.out 0; have f1 := blk_frozen HN6.out 1; have f2 := blk_frozen HN6.out 2; have f3 := blk_frozen HN6.out 3; have f4 := blk_frozen HN6.out 4; clear hR6 hF6 hB6 x0 x1 x2 x3 x4)
      have HN7 := hZ (blk_put (cs' := sysC M now A' (l.length + 1) c' A2' q.length c2' A5 c5 (.pointer (some ⟨Nb, 0, none⟩)) (.pointer (some ⟨Nn, 0, none⟩)) a7 (.slice AE nE cE)) (blk_put (blk_put (blk_put (blk_put HN6.out 0 (.int .i64 M) rfl) 1 (.int .i64 now) rfl) 2 (.slice A' (l.length + 1) c') rfl) 3 (.slice A2' q.length c2') rfl) 4 (.slice A5 0 c5) rfl);have HT7 := hZ ((((((Turn.refl w6 (fun b => b = N)).set rfl 0 (.int .i64 M)).set rfl 1 (.int .i64 now)).set rfl 2 (.slice A' (l.length + 1) c')).set rfl 3 (.slice A2' q.length c2')).set rfl 4 (.slice A5 0 c5));generalize hws : World.setCell _ _ _ = w7 at *;clear hws z0 z1 z2 z3 z4 f0 f1 f2 f3 f4;go_wp2;go_ret2;have hs6 := HB6.out.size;have hs7 := HT7.out.size;have hNb : Nb < w.heap.size := blk_lt HX.out.book;have hne : Nb ≠ Ns /\ Nb ≠ N /\ Nn ≠ N /\ Ns ≠ N := ⟨fun e => by rw [e] at l2; omega, fun e => by rw [e] at l2; omega, fun e => by rw [e] at l3; omega, fun e => by rw [e] at l4; omega⟩;have hNs : Ns < w.heap.size := HX.out.lt _ (by omega);have hNn : Nn < w.heap.size := HX.out.lt _ (by omega);have hsd2 := HBd.out.size;have hvl : ∀ b, vB'.ownBlock = some b -> b < w4.heap.size := fun b e => Kd.R_lt HENT4.out b e
      have hvo : ∀ b, vB'.ownBlock = some b -> b < w.heap.size -> lab b = 5 := fun b e hlt => by
        rcases HVB4.out with h | ⟨b2, h, hle⟩
        · exact HX.out.l5 b (h ▸ e)
        · rw [h] at e; injection e with e; omega
      have HT47 : Turn w4 w7 (fun b => b = Ns \/ b = N) := ((HT5.out.imp (fun b e => .inl e)).trans (Turn.of_below _ HB6.out)).trans (HT7.out.imp (fun b e => .inr e));have HTw7 : Turn w w7 (fun b => (b = Nb \/ some b = vB.ownBlock) \/ b = Ns \/ b = N) := (HTw4.out.imp (fun b e => .inl e)).trans (HT47.imp (fun b e => .inr e))
      have HL7 : ∀ b, ((b = Nb \/ some b = vB.ownBlock) \/ b = Ns \/ b = N) -> lab b = 2 \/ lab b = 5 \/ lab b = 4 \/ lab b = 1 := fun b e => by
        rcases e with e | e | e
        · have := HL4.out b e; omega
        · rw [e]; exact .inr (.inr (.inl l4))
        · rw [e]; exact .inr (.inr (.inr l1))
      refine ⟨rfl, ?_, HTw7.imp (fun b e => by have := HL7 b e; omega)⟩
      classical
      have old : ∀ b, b < w.heap.size -> (if b < w.heap.size then lab b else if vB'.ownBlock = some b then 5 else if F b then 7 else 0) = lab b := fun b hb => if_pos hb
      refine ⟨fun b => (if b < w.heap.size then lab b else if vB'.ownBlock = some b then 5 else if F b then 7 else 0), ⟨⟨Nb, Nn, Ns, A', c', A2', c2', A5, c5, a7, vB', AE, nE, cE, bB, bE, B, F⟩, ?_⟩, fun b hb => ?_⟩
      · exact { blk := by rw [List.length_append]; exact HN7.out
                book := (HT47.block Nb (by omega) (fun e => e.elim hne.1 hne.2.1)).trans HBK4.out
                ent := ent_turn HENT4.out HT47 (fun b hb e => by
                  rcases e with e | e
                  · have := hvo b hb (by omega); rw [e] at this; omega
                  · have := hvo b hb (by omega); rw [e] at this; omega)
                tab := (HTAB5.out.below HB6.out).turn HT7.out hne.2.2.1 hne.2.2.2
                ev := raw_turn HX.out.ev HTw7 (fun b hb e => by have := HL7 b e; have := HX.out.l6 b hb; omega)
                mach := HR6.out.keep HT7.out (fun b e => ⟨fun hf => by have := HF6.out b hf; omega, fun hf => by have := HX.out.l8 b hf; rw [e] at this; omega⟩)
                l1 := (old _ hNw).trans l1
                l2 := (old _ hNb).trans l2
                l3 := (old _ hNn).trans l3
                l4 := (old _ hNs).trans l4
                l5 := fun b hb => by
                  by_cases hlt : b < w.heap.size
                  · exact (old b hlt).trans (hvo b hb hlt)
                  · show (if b < w.heap.size then lab b else _) = 5;rw [if_neg hlt, if_pos hb]
                l6 := fun b hb => by
                  have h6 := HX.out.l6 b hb;exact (old b (HX.out.lt b (by omega))).trans h6
                l7 := fun b hb => by
                  have h7 := HF6.out b hb;show (if b < w.heap.size then lab b else _) = 7;rw [if_neg (by omega), if_neg (fun e => by have := hvl b e; omega), if_pos hb]
                l8 := fun b hb => by
                  have h8 := HX.out.l8 b hb;exact (old b (HX.out.lt b (by omega))).trans h8
                lt := fun b hb => by
                  by_cases hlt : b < w.heap.size
                  · omega
                  · have hb2 : (if b < w.heap.size then lab b else if vB'.ownBlock = some b then 5 else if F b then 7 else 0) ≠ 0 := hb;rw [if_neg hlt] at hb2;by_cases h6 : vB'.ownBlock = some b
                    · have := hvl b h6; omega
                    · rw [if_neg h6] at hb2;by_cases h7 : F b
                      · have := HF6.out b h7; omega
                      · rw [if_neg h7] at hb2; exact absurd rfl hb2
                bn := by have := HX.out.bn; dsimp only at this |-; omega
                bb := by have := HX.out.bb; dsimp only at this |-; omega
                be := by have := HX.out.be; dsimp only at this |-; omega }
      · by_cases hlt : b < w.heap.size
        · exact .inl (fun e => hb ((old b hlt).trans e))
        · exact .inr (by omega)
    · have gC : (C != 0) = true := by simpa using hC0
      go_upto_if 34 with (go_at_call 35; (with_reducible refine (DG _).mono ?_); rintro e w2 ⟨rfl, hB2⟩; have HN2 := hZ (blk_below HN0.out hB2); have HX2 := hZ (blk_below HX0.out hB2); have HB2 := hZ (HB0.out.trans (hB2.mono HB0.out.size)); clear hB2 x0 x1 x6)
      go_upto_if 38 with fail
      go_upto_region 4 with fail
      refine start_ (n := 14) (S := fun w' => Hid (Below w2.heap.size w2 w')) (ds := [12]) #[false, false, false, false, false, false, false, false, false, false, false, false, false, false] (by kernel_rfl) rfl rfl ((hZ (below_drew (Below.refl _ _)))) (fun hHeld => ?_);refine with_tabW sopenw.tab4 sopenw.bits4 (fun HT_ HW_ => ?_);have hbd : Hid (Below w2.heap.size w2 w2.drew) := hZ ⟨rfl, rfl, rfl, Nat.le_refl _, fun _ _ => rfl⟩;have hsd : w2.heap.size = w2.drew.heap.size := rfl;generalize hwd : w2.drew = wd at *;clear hwd;refine pst 0 (some 21) HT_ ?_;refine pst 1 (some 22) HT_ ?_;refine pst 2 (some 23) HT_ ?_;refine pst 4 (some 25) HT_ ?_;refine pst 5 (some 26) HT_ ?_;refine pst 7 (some 28) HT_ ?_;refine pst 8 (some 29) HT_ ?_;refine pst 9 (some 30) HT_ ?_;refine pst 10 (some 31) HT_ ?_;refine tst 3 (some 24) HT_ HW_ hHeld ?_ (hy := by (intro w' s0; have y1 : w'.cell? ⟨N, 5, none⟩ = some (.pointer (some ⟨Nb, 0, none⟩)) := (blk_cell (blk_below HN2.out s0.out) 5).trans rfl; have y2 : w'.cell? ⟨N, 1, none⟩ = some (.int .i64 now) := (blk_cell (blk_below HN2.out s0.out) 1).trans rfl; have q1 := (blk_cell (blk_below HX2.out s0.out) 0).trans rfl; have q2 := (blk_cell (blk_below HX2.out s0.out) 1).trans rfl); go_simp; with_reducible rfl);refine tst 6 (some 27) HT_ HW_ hHeld ?_ (hy := by (intro w' s0; have y1 : w'.cell? ⟨N, 5, none⟩ = some (.pointer (some ⟨Nb, 0, none⟩)) := (blk_cell (blk_below HN2.out s0.out) 5).trans rfl; have y2 : w'.cell? ⟨N, 1, none⟩ = some (.int .i64 now) := (blk_cell (blk_below HN2.out s0.out) 1).trans rfl; have q1 := (blk_cell (blk_below HX2.out s0.out) 0).trans rfl; have q2 := (blk_cell (blk_below HX2.out s0.out) 1).trans rfl); go_simp; with_reducible rfl);refine tst 11 (some 32) HT_ HW_ hHeld ?_ (hy := by (intro w' s0; have y1 : w'.cell? ⟨N, 5, none⟩ = some (.pointer (some ⟨Nb, 0, none⟩)) := (blk_cell (blk_below HN2.out s0.out) 5).trans rfl; have y2 : w'.cell? ⟨N, 1, none⟩ = some (.int .i64 now) := (blk_cell (blk_below HN2.out s0.out) 1).trans rfl; have q1 := (blk_cell (blk_below HX2.out s0.out) 0).trans rfl; have q2 := (blk_cell (blk_below HX2.out s0.out) 1).trans rfl); go_simp; with_reducible rfl);refine last_ (i := 12) (N := some 33) #[true, true, true, true, true, true, true, true, true, true, true, true, true, false] rfl rfl (one_of HT_.out (by kernel_rfl)) (by decide) (fun K hK => ?_);refine goes_ Tryz.func36 (by kernel_rfl) rfl #[.pointer (some ⟨Nb, 0, none⟩), .int .i64 ((nn : Int) + 1), .agg #[.int .i64 q0, .int .i64 p0], .int .i64 now] (by rfl) rfl rfl (by simp only [List.map_toArray, List.map_cons, List.map_nil]; rfl) ?_;with_reducible refine (DN _ (HB2.out.trans (hHeld.out.mono HB2.out.size))).mono ?_;rintro e w4 ⟨rfl, hB4, _⟩;refine ⟨_, rfl, ?_⟩;have HB4 := hZ (hHeld.out.trans ((hB4 hC0).mono hHeld.out.size));refine hK.out _ _ ?_;clear hK K;refine norm_ (a' := ?_) ?_ ?_;rotate_left
      · show Act.put _ (some 33) _ = _;simp only [Act.put, List.setIfInBounds_toArray, List.set_cons_zero, List.set_cons_succ, i64_w, i32_w];rfl
      refine pst 13 (some 10) HT_ ?_;refine done_ (done_of HT_.out (by kernel_rfl)) ?_
      go_wp2_with (go_at_call 20; (with_reducible refine (DE _ _ hC0).mono ?_); rintro e w5 ⟨⟨pf, rfl⟩, hB5⟩; have HB5 := hZ hB5; clear hB5)
      go_ret2;exact ⟨fun _ => ⟨⟨pf, rfl⟩, HB2.out.trans ((HB4.out.trans (HB5.out.mono HB4.out.size)).mono HB2.out.size)⟩, fun h => absurd h hC0⟩
  · have gx : decide (WOk ⟨q0, p0⟩) = false := by simpa using hx
    rw [gx] at DG;obtain rfl : C = 1 := HC.out hx;clear gx hx;have h10 : (1 : Int) ≠ 0 := by decide
    go_wp2_with (first
      | (go_at_call 35; (with_reducible refine (DG _).mono ?_); rintro e w2 ⟨rfl, hB2⟩; have HB2 := hZ (HB0.out.trans (hB2.mono HB0.out.size)); clear hB2)
      | (go_at_call 20; (with_reducible refine (DE _ _ h10).mono ?_); rintro e w3 ⟨⟨pf, rfl⟩, hB3⟩; have HB3 := hZ (HB2.out.trans (hB3.mono HB2.out.size)); clear hB3))
    go_ret2;exact ⟨fun _ => ⟨⟨pf, rfl⟩, HB3.out⟩, fun h => absurd h h10⟩
def snew.T7 : Bool × List (List Nat × List Nat) := (true, [([], []), ([], []), ([], []), ([2], []), ([0, 1, 2, 3], [0, 1, 2, 3]), ([4], [4]), ([5, 3, 0, 1, 2, 3, 4, 5], [5]), ([6, 0, 1, 2, 3, 4, 5, 6], [])])
def snew.B7 : List Nat := [0, 0, 0, 4, 15, 31, 63, 127]
theorem snew.tab7 : rtab .any (opsOf Tryz.f9 7) = snew.T7 := by kernel_rfl
theorem snew.bits7 : waitsOk snew.T7.2 snew.B7 = true := by kernel_rfl
theorem inew32 (w : World) : Calls Tryz.prog 22 #[.int .i64 32] w fun e w' => e = .returned (.pointer (some ⟨w.heap.size + 1, 0, none⟩)) /\ TabAt w' (w.heap.size + 1) w.heap.size 0 /\ w'.heap.size = w.heap.size + 2 /\ Below w.heap.size w w' :=
  (inew_calls 32 w (by decide) (by decide)).mono fun e w' ⟨h1, h2⟩ => by
    subst h2;exact ⟨h1, tab_new w, by simp, below_alloc (below_alloc (Below.refl _ _) _) _⟩
theorem inew16 (w : World) : Calls Tryz.prog 22 #[.int .i64 16] w fun e w' => e = .returned (.pointer (some ⟨w.heap.size + 1, 0, none⟩)) /\ w'.heap.size = w.heap.size + 2 /\ Below w.heap.size w w' :=
  (inew_calls 16 w (by decide) (by decide)).mono fun e w' ⟨h1, h2⟩ => by
    subst h2;exact ⟨h1, by simp, below_alloc (below_alloc (Below.refl _ _) _) _⟩
theorem snew_calls (m : Int) (A : Option Addr) (c : Nat) (ms : List Int) (w : World) (hr : (Kd.int .i64).C w A ms.length ms) (hm1 : 1 <= m) (hm2 : m <= 64) (hlen : ms.length <= 8) :
    Calls Tryz.prog 9 #[.int .i64 m, .slice A ms.length c] w fun e w' =>
      (newB_ok m ms = true -> ∃ N lab, e = .returned (.tuple #[.pointer (some ⟨N, 0, none⟩), .nilIface]) /\ SysAt w' lab N m 0 [] (ms.map lockOf) 0 [] [] /\ Below w.heap.size w w' /\ ∀ b, lab b ≠ 0 -> w.heap.size <= b) /\
      (newB_ok m ms = false -> (∃ p, e = .returned (.tuple #[.pointer none, .iface 111 p])) /\ Below w.heap.size w w') := by
  have DM := mnew_calls m A c ms w hr hm1 hm2 hlen;have DB := fun wx => bnew_calls m wx hm1 hm2
  have DE := fun wx (c : Int) (hc : c ≠ 0) => fault_calls (.string { data := #[110, 101, 119] }) ⟨_, rfl⟩ 0 c wx hc
  unfold NewP at DM;rw [List.length_map] at DM;generalize newB_ok m ms = ok at *
  cases ok with
  | false =>
    simp only [Bool.false_eq_true, if_false] at DM;have h10 : (1 : Int) ≠ 0 := by decide
    clear hr DB;go_enter Tryz.func9, Tryz.ntmps9
    go_wp2_with (first
      | (go_at_call 19; (with_reducible refine DM.mono ?_); rintro e w1 ⟨rfl, hB1⟩; have HB1 := hZ hB1; clear hB1)
      | (go_at_call 20; (with_reducible refine (DE _ _ h10).mono ?_); rintro e w3 ⟨⟨pf, rfl⟩, hB3⟩; have HB3 := hZ hB3; clear hB3))
    go_ret2;exact ⟨fun h => absurd h (by decide), fun _ => ⟨⟨pf, rfl⟩, HB1.out.trans (((below_alloc (Below.refl w1.heap.size w1) _).trans (HB3.out.mono (by simp))).mono HB1.out.size)⟩⟩
  | true =>
    simp only [if_true] at DM;unfold stV at DM;clear hr DE;go_enter Tryz.func9, Tryz.ntmps9
    go_upto_region 4 with (go_at_call 19; (with_reducible refine DM.mono ?_); rintro e w1 ⟨A2, c2, rfl, hO1, hB1⟩; have HO1 := hZ hO1; have HB1 := hZ hB1; have HX1 := hZ (blk_new w1 (.cells #[.int .i64 m, .int .i64 0, .slice none 0 0, .slice A2 ms.length c2, .slice none 0 0] 47)); have HB12 := hZ (below_alloc (Below.refl w1.heap.size w1) (.cells #[.int .i64 m, .int .i64 0, .slice none 0 0, .slice A2 ms.length c2, .slice none 0 0] 47)); clear hO1 hB1)
    generalize hw2 : World.alloc _ _ = w2 at *;have HB2 := hZ (HB1.out.trans (HB12.out.mono HB1.out.size));have hs12 : w1.heap.size < w2.heap.size := blk_lt HX1.out;clear hw2 DM
    go_upto_region 7 with (go_at_call 21; (with_reducible refine (DB _).mono ?_); rintro e w3 ⟨rfl, hb3, hB3⟩; have HBK3 := hZ hb3; have HB3 := hZ hB3; clear hb3 hB3)
    have HX3 := hZ (blk_below HX1.out HB3.out);clear DB;refine start_ (n := 8) (S := fun w' => Hid (Below w3.heap.size w3 w')) (ds := []) #[false, false, false, false, false, false, false, false] (by kernel_rfl) rfl rfl ((hZ (below_drew (Below.refl _ _)))) (fun hHeld => ?_);refine with_tabW snew.tab7 snew.bits7 (fun HT_ HW_ => ?_);have hbd : Hid (Below w3.heap.size w3 w3.drew) := hZ ⟨rfl, rfl, rfl, Nat.le_refl _, fun _ _ => rfl⟩;have hsd : w3.heap.size = w3.drew.heap.size := rfl;generalize hwd : w3.drew = wd at *;clear hwd;refine pst 1 (some 29) HT_ ?_;refine tst 0 (some 28) HT_ HW_ hHeld ?_ (hy := by (intro w' s0; have y0 := (blk_cell (blk_below HX3.out s0.out) 0).trans rfl; have y1 := (blk_cell (blk_below HX3.out s0.out) 1).trans rfl; have y2 := (blk_cell (blk_below HX3.out s0.out) 2).trans rfl; have y3 := (blk_cell (blk_below HX3.out s0.out) 3).trans rfl; have y4 := (blk_cell (blk_below HX3.out s0.out) 4).trans rfl); go_simp; with_reducible rfl);refine one_ (i := 2) (N := some 30) #[true, true, true, false, false, false, false, false] rfl rfl (one_of HT_.out (by kernel_rfl)) (by decide) (fun K hK => ?_);refine goes_ Tryz.func22 (by kernel_rfl) rfl #[.int .i64 32] (by rfl) rfl rfl (by simp only [List.map_toArray, List.map_cons, List.map_nil]; rfl) ?_;with_reducible refine (inew32 _).mono ?_;rintro e w5 ⟨rfl, hTab5, hS5, hB5⟩;refine ⟨_, rfl, ?_⟩;refine hK.out _ _ ((hZ (hHeld.out.trans (hB5.mono hHeld.out.size)))) (fun hHeld => ?_);clear hK K;refine norm_ (a' := ?_) ?_ ?_;rotate_left
    · show Act.put _ (some 30) _ = _;simp only [Act.put, List.setIfInBounds_toArray, List.set_cons_zero, List.set_cons_succ, i64_w, i32_w];rfl
    refine one_ (i := 3) (N := some 31) #[true, true, true, true, false, false, false, false] rfl rfl (one_of HT_.out (by kernel_rfl)) (by decide) (fun K hK => ?_);refine goes_ Tryz.func22 (by kernel_rfl) rfl #[.int .i64 16] (by rfl) rfl rfl (by simp only [List.map_toArray, List.map_cons, List.map_nil]; rfl) ?_;with_reducible refine (inew16 _).mono ?_;rintro e w6 ⟨rfl, hS6, hB6⟩;refine ⟨_, rfl, ?_⟩;refine hK.out _ _ ((hZ (hHeld.out.trans (hB6.mono hHeld.out.size)))) (fun hHeld => ?_);clear hK K;refine norm_ (a' := ?_) ?_ ?_;rotate_left
    · show Act.put _ (some 31) _ = _;simp only [Act.put, List.setIfInBounds_toArray, List.set_cons_zero, List.set_cons_succ, i64_w, i32_w];rfl
    refine pst 4 (some 32) HT_ ?_;refine one_ (i := 5) (N := some 33) #[true, true, true, true, true, true, false, false] rfl rfl (one_of HT_.out (by kernel_rfl)) (by decide) (fun K hK => ?_);refine value_ (w1 := ?_) (v := ?_) (by rfl) rfl ?_ ?_;rotate_left 2
    · go_simp;constructor
      · rfl
      · rfl
    refine hK.out _ _ ((hZ (hHeld.out.trans ((below_alloc (Below.refl _ _) _).mono hHeld.out.size)))) (fun hHeld => ?_);clear hK K;refine norm_ (a' := ?_) ?_ ?_;rotate_left
    · show Act.put _ (some 33) _ = _;simp only [Act.put, List.setIfInBounds_toArray, List.set_cons_zero, List.set_cons_succ, i64_w, i32_w];rfl
    refine pst 6 (some 4) HT_ ?_;refine pst 7 (some 5) HT_ ?_;refine done_ (done_of HT_.out (by kernel_rfl)) ?_;go_wp2;go_ret2;have hs6 := hHeld.out.size;have hs3 := HB3.out.size;have hN := blk_new w6 (.cells #[.int .i64 m, .int .i64 0, .slice none 0 0, .slice A2 ms.length c2, .slice none 0 0, .pointer (some ⟨w2.heap.size, 0, none⟩), .pointer (some ⟨wd.heap.size + 1, 0, none⟩), .pointer (some ⟨wd.heap.size + 2 + 1, 0, none⟩), .slice none 0 0] 83);have hb67 := below_alloc (Below.refl w6.heap.size w6) (.cells #[.int .i64 m, .int .i64 0, .slice none 0 0, .slice A2 ms.length c2, .slice none 0 0, .pointer (some ⟨w2.heap.size, 0, none⟩), .pointer (some ⟨wd.heap.size + 1, 0, none⟩), .pointer (some ⟨wd.heap.size + 2 + 1, 0, none⟩), .slice none 0 0] 83);have hs67 : (w6.alloc (.cells #[.int .i64 m, .int .i64 0, .slice none 0 0, .slice A2 ms.length c2, .slice none 0 0, .pointer (some ⟨w2.heap.size, 0, none⟩), .pointer (some ⟨wd.heap.size + 1, 0, none⟩), .pointer (some ⟨wd.heap.size + 2 + 1, 0, none⟩), .slice none 0 0] 83)).heap.size = w6.heap.size + 1 := World.size_alloc _ _;generalize hw7 : World.alloc _ _ = w7 at *;clear hw7;have hs1 := HB1.out.size;have hbd2 : w2.heap.size < w3.heap.size := blk_lt HBK3.out;have hB37 := hHeld.out;have hBw : Below w.heap.size w w7 := HB2.out.trans ((HB3.out.trans (hB37.mono HB3.out.size)).mono HB2.out.size);refine ⟨fun _ => ⟨wd.heap.size + 2 + 2, fun b => if b = wd.heap.size + 2 + 2 then 1 else if b = w2.heap.size then 2 else if b = wd.heap.size + 1 then 3 else if b = wd.heap.size then 4 else if w.heap.size <= b /\ b < w1.heap.size then 7 else 0, rfl, ⟨⟨w2.heap.size, wd.heap.size + 1, wd.heap.size, none, 0, A2, c2, none, 0, .pointer (some ⟨wd.heap.size + 2 + 1, 0, none⟩), .slice none 0 0, none, 0, 0, 0, 0, newB w.heap.size, fun b => ∃ cc, (⟨none, 0, A2, c2, noRef, noRef⟩ : OwnR).own cc = some b⟩, ?_⟩, hBw, fun b hb => ?_⟩, fun h => absurd h (by decide)⟩
    · have hF : ∀ b, (∃ cc, (⟨none, 0, A2, c2, noRef, noRef⟩ : OwnR).own cc = some b) -> w.heap.size <= b /\ b < w1.heap.size := fun b ⟨cc, hc⟩ => HO1.out.bnd cc b hc
      exact { blk := by
                rw [List.length_map];rw [show wd.heap.size + 2 + 2 = w6.heap.size by omega];exact hN
              book := blk_below HBK3.out hB37
              ent := Kd.R_nil _ _ _ _ _
              tab := (hTab5.below hB6).below hb67
              ev := Kd.R_nil _ _ _ _ _
              mach := HO1.out.rdf.below (HB12.out.trans ((HB3.out.trans (hB37.mono HB3.out.size)).mono HB12.out.size))
              l1 := if_pos rfl
              l2 := by
                show (if w2.heap.size = wd.heap.size + 2 + 2 then 1 else if w2.heap.size = w2.heap.size then 2 else _) = 2;rw [if_neg (by omega), if_pos rfl]
              l3 := by
                show (if wd.heap.size + 1 = wd.heap.size + 2 + 2 then 1 else if wd.heap.size + 1 = w2.heap.size then 2 else if wd.heap.size + 1 = wd.heap.size + 1 then 3 else _) = 3;rw [if_neg (by omega), if_neg (by omega), if_pos rfl]
              l4 := by
                show (if wd.heap.size = wd.heap.size + 2 + 2 then 1 else if wd.heap.size = w2.heap.size then 2 else if wd.heap.size = wd.heap.size + 1 then 3 else if wd.heap.size = wd.heap.size then 4 else _) = 4;rw [if_neg (by omega), if_neg (by omega), if_neg (by omega), if_pos rfl]
              l5 := fun b hb => by simp [Value.ownBlock] at hb
              l6 := fun b hb => by simp [Value.ownBlock] at hb
              l7 := fun b hb => by
                have := hF b hb;show (if b = wd.heap.size + 2 + 2 then 1 else if b = w2.heap.size then 2 else if b = wd.heap.size + 1 then 3 else if b = wd.heap.size then 4 else if w.heap.size <= b /\ b < w1.heap.size then 7 else 0) = 7;rw [if_neg (by omega), if_neg (by omega), if_neg (by omega), if_neg (by omega), if_pos this]
              l8 := fun b hb => hb.elim
              lt := fun b hb => by
                replace hb : (if b = wd.heap.size + 2 + 2 then 1 else if b = w2.heap.size then 2 else if b = wd.heap.size + 1 then 3 else if b = wd.heap.size then 4 else if w.heap.size <= b /\ b < w1.heap.size then 7 else 0) ≠ 0 := hb;split at hb
                · omega
                · split at hb
                  · omega
                  · split at hb
                    · omega
                    · split at hb
                      · omega
                      · split at hb
                        · omega
                        · exact absurd rfl hb
              bn := by have := hBw.size; exact this
              bb := Nat.zero_le _
              be := Nat.zero_le _ }
    · replace hb : (if b = wd.heap.size + 2 + 2 then 1 else if b = w2.heap.size then 2 else if b = wd.heap.size + 1 then 3 else if b = wd.heap.size then 4 else if w.heap.size <= b /\ b < w1.heap.size then 7 else 0) ≠ 0 := hb;split at hb
      · omega
      · split at hb
        · omega
        · split at hb
          · omega
          · split at hb
            · omega
            · split at hb
              · omega
              · exact absurd rfl hb
section
variable {M now c : Int} {wt : Nat -> Int} {l : List S57} {q : List S63} {R : Nat -> List Nat}
theorem wakeS_ok {s : S54} (h : CbsOk s) (h0 : 0 <= now) (h1 : now <= 1000000000) : CbsOk (wakeS s now) /\ (wakeS s now).f4 ≠ 0 /\ now <= (wakeS s now).f3 /\ ((wakeS s now).f3 <= now + 2147483648 \/ (wakeS s now).f3 = s.f3) := by
  obtain ⟨a1, a2, a3, a4, a5, a6, a7, a8, a9, a10⟩ := h;unfold wakeS;by_cases hd : s.f3 <= now
  · rw [if_pos hd];refine ⟨readyS_ok ⟨a1, a2, a3, by show 0 <= s.f0; omega, by show s.f0 <= s.f0; omega, by show 0 <= now + s.f1; omega, by show now + s.f1 <= _; omega, by show (0 : Int) <= 0; decide, by show (0 : Int) <= 2; decide, fun e => absurd e (by show ¬ (0 : Int) = 1; decide)⟩, ?_, by show now <= now + s.f1; omega, .inl (by show now + s.f1 <= _; omega)⟩;show (if s.f0 = 0 then (2 : Int) else 1) ≠ 0;split <;> decide
  · rw [if_neg hd];by_cases hb : min (s.f3 - now) s.f1 * s.f0 < s.f2 * s.f1
    · rw [if_pos hb];have hp : 0 < s.f1 := by omega
      have hm : 0 <= min (s.f3 - now) s.f1 := by omega
      have hm2 : min (s.f3 - now) s.f1 <= s.f1 := by omega
      have h2 : 0 <= min (s.f3 - now) s.f1 * s.f0 := Int.mul_nonneg hm (by omega)
      have h3 : min (s.f3 - now) s.f1 * s.f0 <= s.f0 * s.f1 := by
        rw [Int.mul_comm s.f0 s.f1];exact Int.mul_le_mul_of_nonneg_right hm2 (by omega)
      have h4 : 0 <= min (s.f3 - now) s.f1 * s.f0 / s.f1 := Int.ediv_nonneg h2 (by omega);have h5 : min (s.f3 - now) s.f1 * s.f0 / s.f1 <= s.f0 := Int.ediv_le_of_le_mul hp h3;refine ⟨readyS_ok ⟨a1, a2, a3, h4, h5, a6, a7, by show (0 : Int) <= 0; decide, by show (0 : Int) <= 2; decide, fun e => absurd e (by show ¬ (0 : Int) = 1; decide)⟩, ?_, by show now <= s.f3; omega, .inr rfl⟩;show (if min (s.f3 - now) s.f1 * s.f0 / s.f1 = 0 then (2 : Int) else 1) ≠ 0;split <;> decide
    · rw [if_neg hb];refine ⟨readyS_ok ⟨a1, a2, a3, a4, a5, a6, a7, by show (0 : Int) <= 0; decide, by show (0 : Int) <= 2; decide, fun e => absurd e (by show ¬ (0 : Int) = 1; decide)⟩, ?_, by show now <= s.f3; omega, .inr rfl⟩;show (if s.f2 = 0 then (2 : Int) else 1) ≠ 0;split <;> decide
theorem Inv.more (h : Inv M now c wt noD l q R) {c' : Int} (hc : c <= c') {wt' : Nat -> Int} (hw : ∀ k, wt' k <= wt k \/ ∀ n, k ∉ (R n).tail) : Inv M now c' wt' noD l q R where
  sane := h.sane
  now0 := h.now0
  now1 := h.now1
  qlen := h.qlen
  qmost := h.qmost
  serv := fun k hk => by
    have hs := h.serv k hk;have hn : 0 <= (at_ l k).f5 /\ (at_ l k).f5 <= c' := by have := hs.num; omega
    exact { hs with num := hn }
  rows := by
    have hr := h.rows
    have hp : ∀ n (h : n < q.length) (p k : Nat), (R n)[p + 1]? = some k -> q[n].f0 - (at_ l ((R n).headD 0)).f4 + p * q[n].f0 <= (M - 1) * q[n].f0 - wt' k := fun n hn p k hp => by
      have h1 := hr.wait n hn p k hp;rcases hw k with h2 | h2
      · omega
      · exfalso;refine h2 n ?_
        cases hR : R n with
        | nil => rw [hR] at hp; simp at hp
        | cons a r =>
          rw [hR] at hp;simp only [List.getElem?_cons_succ] at hp;exact List.mem_of_getElem? hp
    exact { hr with wait := hp }
theorem fits_ok {k : Nat} {P : List S72} (h : fitsB k P = true) : pgoodB P = true /\ ∀ s ∈ P, s.f0 <= k := by
  unfold fitsB at h;simp only [Bool.and_eq_true, Bool.not_eq_true'] at h;refine ⟨h.1, fun s hs => ?_⟩;have := h.2;rw [List.any_eq_false] at this;have h2 := this s hs;unfold foddB at h2;simp at h2;omega
theorem Inv.release (h : Inv M now c wt noD l q R) {i : Nat} (hi : i < l.length) {P : List S72} (hC : relC q.length P l[i] = 0) : Inv M now (c + 1) wt noD (l.set i (relX now P l[i])) q R := by
  have hs := h.serv i hi;rw [<- at_lt hi] at hC |-;unfold relC at hC
  have hfit : fitsB q.length P = true := by
    by_cases e : fitsB q.length P = true
    · exact e
    · rw [if_neg e] at hC; exact absurd hC (by decide)
  rw [if_pos hfit] at hC
  have hl8 : (at_ l i).f2.length < 8 := by
    by_cases e : 8 <= (at_ l i).f2.length
    · rw [if_pos e] at hC; exact absurd hC (by decide)
    · omega
  have hf := fits_ok hfit;have hplen := pgood_len hf.1;have hnum := hs.num
  have hJ : JobOk ⟨(at_ l i).f5 + 1, P, 0, 0⟩ := by
    refine ⟨by show 1 <= (at_ l i).f5 + 1; omega, hf.1, by show (0 : Int) <= 0; decide, by show (0 : Int) < (P.length : Int); omega, by show (0 : Int) <= 0; decide, ?_⟩
    have e : stepOf ⟨(at_ l i).f5 + 1, P, 0, 0⟩ = P[0] := by
      unfold stepOf;show rd_T72 P 0 = _;have hp0 : 0 < P.length := by omega
      simp [rd_T72, hp0]
    rw [e];have := good_step hf.1 (List.getElem_mem (by omega : 0 < P.length));unfold poddB at this;simp only [decide_eq_false_iff_not, not_or] at this;show 0 <= P[0].f1;omega
  have hJ1 : 0 < (stepOf ⟨(at_ l i).f5 + 1, P, 0, 0⟩).f1 := by
    have := good_step hf.1 (job_step hJ);unfold poddB at this;simp only [decide_eq_false_iff_not, not_or] at this;omega
  have hm := h.more (c' := c + 1) (wt' := wt) (by omega) (fun k => .inl (Int.le_refl _));have hs := hm.serv i hi;by_cases hid : (at_ l i).f1.f4 = 0
  · obtain ⟨h2, h3⟩ := hs.idle hid;obtain ⟨w1, w2, w3, w4⟩ := wakeS_ok (now := now) hs.cbs h.now0 h.now1
    have hx : relX now P (at_ l i) = { at_ l i with f1 := wakeS (at_ l i).f1 now, f2 := [⟨(at_ l i).f5 + 1, P, 0, 0⟩], f5 := (at_ l i).f5 + 1 } := by
      unfold relX;rw [if_pos hid, h2];rfl
    rw [hx];refine hm.set0 hi h3 (x := { at_ l i with f1 := wakeS (at_ l i).f1 now, f2 := [⟨(at_ l i).f5 + 1, P, 0, 0⟩], f5 := (at_ l i).f5 + 1 }) rfl h3 noD ?_ (fun k _ => Iff.rfl)
    exact { cbs := w1
            due := by
              have := hs.due;show (wakeS (at_ l i).f1 now).f3 <= _;omega
            ahead := fun _ => w3
            idle := fun e => absurd e w2
            busy := fun _ => by show [_] ≠ []; simp
            jlen := by show 1 <= 8; decide
            jobs := fun j hj => by
              obtain rfl : j = ⟨(at_ l i).f5 + 1, P, 0, 0⟩ := by simpa using hj
              exact ⟨hJ, hf.2⟩
            rest := fun j hj => by
              have : j ∈ ([] : List S125) := hj;simp at this
            sec := by show 0 <= (at_ l i).f3 /\ _; rw [h3]; decide
            spin := fun _ _ => rfl
            sem := fun e => absurd h3 e
            secm := fun e => absurd h3 e
            part := fun _ _ => hJ1
            held := hs.held
            ran := hs.ran
            num := by show 0 <= (at_ l i).f5 + 1 /\ (at_ l i).f5 + 1 <= c + 1; omega }
  · have hx : relX now P (at_ l i) = { at_ l i with f2 := (at_ l i).f2 ++ [⟨(at_ l i).f5 + 1, P, 0, 0⟩], f5 := (at_ l i).f5 + 1 } := by
      unfold relX;rw [if_neg hid]
    obtain ⟨j, js, hjx, hj, hq, hst, hdn⟩ := hs.head (hs.busy hid)
    have hst2 : servStep (relX now P (at_ l i)) = servStep (at_ l i) := by
      rw [hx];unfold servStep;dsimp only;rw [hjx];rfl
    have hdn2 : doneOf (relX now P (at_ l i)) = doneOf (at_ l i) := by
      rw [hx];unfold doneOf;dsimp only;rw [hjx];rfl
    have hf2 : (relX now P (at_ l i)).f2 = (at_ l i).f2 ++ [⟨(at_ l i).f5 + 1, P, 0, 0⟩] := by rw [hx]
    have hf1 : (relX now P (at_ l i)).f1 = (at_ l i).f1 := by rw [hx]
    have hf0 : (relX now P (at_ l i)).f0 = (at_ l i).f0 := rfl;have hf3 : (relX now P (at_ l i)).f3 = (at_ l i).f3 := rfl;have hf4 : (relX now P (at_ l i)).f4 = (at_ l i).f4 := rfl;have hf5 : (relX now P (at_ l i)).f5 = (at_ l i).f5 + 1 := rfl;have hf6 : (relX now P (at_ l i)).f6 = (at_ l i).f6 := rfl;generalize relX now P (at_ l i) = x at *
    have hat : ∀ k, at_ (l.set i x) k = if k = i then x else at_ l k := fun k => by
      rw [at_set];by_cases e : k = i
      · rw [if_pos ⟨e, hi⟩, if_pos e]
      · rw [if_neg (fun h => e h.1), if_neg e]
    refine ⟨h.sane.keep (List.length_set ..) (fun k _ => by rw [hat]; split; (· subst_vars; exact hf0); rfl) (fun k _ hfx => ?_), h.now0, h.now1, h.qlen, h.qmost, fun k hk => ?_, hm.rows.keep (Int.le_refl _) (List.length_set ..) (fun k _ => by rw [hat]; split; (· subst_vars; exact hf0); rfl) (fun k _ => by rw [hat]; split; (· subst_vars; exact hf3); rfl) (fun k _ _ => by rw [hat]; split; (· subst_vars; exact ⟨hf1, hst2, hf4⟩); exact ⟨rfl, rfl, rfl⟩)⟩
    · rw [hat] at hfx;by_cases e : k = i
      · subst e;rw [if_pos rfl] at hfx;unfold fixd at hfx |-;rw [hf1, hf3] at hfx;exact hfx
      · rwa [if_neg e] at hfx
    · rw [List.length_set] at hk;rw [hat];by_cases e : k = i
      · subst e;rw [if_pos rfl]
        exact { cbs := by rw [hf1]; exact hs.cbs
                due := by rw [hf1]; exact hs.due
                ahead := by rw [hf1]; exact hs.ahead
                idle := fun e => absurd (by rw [hf1] at e; exact e) hid
                busy := fun _ => by rw [hf2]; simp
                jlen := by rw [hf2, List.length_append, List.length_singleton]; omega
                jobs := fun j' hj' => by
                  rw [hf2] at hj';rcases List.mem_append.1 hj' with hj' | hj'
                  · exact hs.jobs j' hj'
                  · obtain rfl : j' = ⟨(at_ l k).f5 + 1, P, 0, 0⟩ := by simpa using hj'
                    exact ⟨hJ, hf.2⟩
                rest := fun j' hj' => by
                  rw [hf2, hjx] at hj';have hr := hs.rest;rw [hjx] at hr;simp only [List.cons_append, List.tail_cons, List.mem_append, List.mem_cons, List.not_mem_nil, or_false] at hj';rcases hj' with hj' | rfl
                  · exact hr j' hj'
                  · exact ⟨rfl, rfl⟩
                sec := by rw [hf3]; exact hs.sec
                spin := by rw [hf3, hst2, hdn2]; exact hs.spin
                sem := by rw [hf3, hst2]; exact hs.sem
                secm := by rw [hf3, hf1]; exact hs.secm
                part := by rw [hf1, hst2, hdn2]; exact hs.part
                held := by rw [hf4]; exact hs.held
                ran := by rw [hf6]; exact hs.ran
                num := by rw [hf5]; omega }
      · rw [if_neg e]; exact hm.serv k hk
end
end Go.Proofs.YtfimkmlgnmaopaaGreat.Top
