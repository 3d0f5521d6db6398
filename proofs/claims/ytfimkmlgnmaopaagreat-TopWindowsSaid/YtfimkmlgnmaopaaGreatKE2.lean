/- Part 2 of what is proved of the functions that the law reaches (contracts of functions, plain laws): no condition but those that each theorem names. -/
import Derived.Test.YtfimkmlgnmaopaaGreatKE1
set_option maxHeartbeats 40000000
set_option maxRecDepth 100000
namespace Go.Proofs.YtfimkmlgnmaopaaGreat.Top
open Go.RowKit Go.Proofs.YtfimkmlgnmaopaaGreatW.PrintWords Go.Proofs.YtfimkmlgnmaopaaGreatW.PrintLast Go.Proofs.YtfimkmlgnmaopaaGreatW.PrintMore Go.Proofs.YtfimkmlgnmaopaaGreat.PTopNames
set_option linter.unusedVariables false
set_option linter.unusedSimpArgs false
def stepOf (j : S125) : S72 := rd_T72 j.f1 j.f2
structure JobOk (j : S125) : Prop where
 num : 1 <= j.f0
 prog : pgoodB j.f1 = true
 at0 : 0 <= j.f2
 atl : j.f2 < j.f1.length
 d0 : 0 <= j.f3
 dn : j.f3 <= (stepOf j).f1
theorem pgood_len {p : List S72} (h : pgoodB p = true) : 1 <= p.length /\ p.length <= 8 := by
 unfold pgoodB at h;simp only [Bool.and_eq_true, decide_eq_true_eq] at h;exact h.1
theorem pgood_at {p : List S72} (h : pgoodB p = true) {i : Int} (h0 : 0 <= i) (h1 : i < p.length) : 0 <= (rd_T72 p i).f0 /\ (rd_T72 p i).f0 <= 8 /\ 1 <= (rd_T72 p i).f1 /\ (rd_T72 p i).f1 <= 2147483648 := by
 unfold pgoodB at h;simp only [Bool.and_eq_true, Bool.not_eq_true'] at h;have h2 := List.any_eq_false.1 h.2;obtain ⟨k, rfl⟩ : ∃ k : Nat, i = k := ⟨i.toNat, by omega⟩;have hk : k < p.length := by omega
 have h3 := h2 _ (List.getElem_mem hk);rw [rd72 hk];unfold poddB at h3;simp at h3;omega
theorem jgood_calls (j : S125) (A : Option Addr) (c : Nat) (w : World) (hr : Kd.C k72 w A j.f1.length j.f1) (h : JobOk j) :
  Calls Tryz.prog 85 #[.agg #[.int .i64 j.f0, .slice A j.f1.length c, .int .i64 j.f2, .int .i64 j.f3]] w fun e w' => e = .returned (.bool true) /\ Below w.heap.size w w' := by
 obtain ⟨h1, h2, h3, h4, h5, h6⟩ := h;obtain ⟨ad, rfl, e0, e1⟩ := at_T72 hr j.f2 h3 h4;have D := fun wx (hb : Below w.heap.size w wx) => pgood_calls (some ad) c j.f1 wx (Kd.C_below hr hb)
 rw [h2] at D;have h6' : decide (j.f3 <= (rd_T72 j.f1 j.f2).f1) = true := decide_eq_true h6;unfold stepOf at h6;generalize rd_T72 j.f1 j.f2 = p at *;have hlt0 : (ad.add (j.f2.toNat * 2)).block < w.heap.size := World.block_lt_of_cell? w _ e0;have hlt1 := World.block_lt_of_cell? w _ e1;obtain ⟨num, pr, at_, dn⟩ := j;dsimp only at *;have g1 : decide (num < 1) = false := by simp; omega
 have g2 : decide (at_ < 0) = false := by simp; omega
 have g3 : decide (at_ > (pr.length : Int)) = false := by simp; omega
 have g4 : decide (dn < 0) = false := by simp; omega
 have g5 : (at_ == (pr.length : Int)) = false := by simp; omega
 have hpl : (0 : Int) <= (pr.length : Int) := by omega
 have HB0 : Hid (Below w.heap.size w (w.alloc (.cells #[.int .i64 num, .slice (some ad) pr.length c, .int .i64 at_, .int .i64 dn] 125))) := hZ (below_alloc (Below.refl _ _) _);have HX0 : Hid ((w.alloc (.cells #[.int .i64 num, .slice (some ad) pr.length c, .int .i64 at_, .int .i64 dn] 125)).heap[w.heap.size]? = some (.cells #[.int .i64 num, .slice (some ad) pr.length c, .int .i64 at_, .int .i64 dn] 125 (0, 0))) := hZ (blk_new _ _);clear hr h2;go_enter Tryz.func85, Tryz.ntmps85
 go_wp2_with (go_at_call 75; (with_reducible refine (D _ HB0.out).mono ?_); rintro e w1 ⟨rfl, hB1⟩; have HBW := hZ (HB0.out.trans (hB1.mono HB0.out.size)); have hbx := (hB1.block w.heap.size (by simp)).trans HX0.out; have q0 : w1.cell? ⟨w.heap.size, 0, none⟩ = some (.int .i64 num) := (blk_cell hbx 0).trans rfl; have q1 : w1.cell? ⟨w.heap.size, 1, none⟩ = some (.slice (some ad) pr.length c) := (blk_cell hbx 1).trans rfl; have q2 : w1.cell? ⟨w.heap.size, 2, none⟩ = some (.int .i64 at_) := (blk_cell hbx 2).trans rfl; have q3 : w1.cell? ⟨w.heap.size, 3, none⟩ = some (.int .i64 dn) := (blk_cell hbx 3).trans rfl; have r1 := (HBW.out.cell (p := ⟨(ad.add (at_.toNat * 2)).block, (ad.add (at_.toNat * 2)).off + 1, none⟩) hlt0).trans e1; clear hB1 hbx)
 go_quiet (fail);go_wp2;go_ret;exact ⟨rfl, HBW.out.trans ⟨rfl, rfl, rfl, Nat.le_refl _, fun _ _ => rfl⟩⟩
theorem two_blocks {w w1 : World} {x y : Array Value} {tx ty : TypeId} (hb : Below ((w.alloc (.cells x tx)).alloc (.cells y ty)).heap.size ((w.alloc (.cells x tx)).alloc (.cells y ty)) w1) :
  w1.heap[w.heap.size]? = some (.cells x tx (0, 0)) /\ w1.heap[w.heap.size + 1]? = some (.cells y ty (0, 0)) /\ w.heap.size + 1 < w1.heap.size := by
 have hz := hb.size;simp only [World.size_alloc] at hz;refine ⟨?_, ?_, by omega⟩
 ·rw [hb.block _ (by simp only [World.size_alloc]; omega)];show ((w.heap.push _).push _)[_]? = _;rw [Array.getElem?_push, if_neg (by simp), Array.getElem?_push_size]
 ·rw [hb.block _ (by simp only [World.size_alloc]; omega)];show ((w.heap.push _).push _)[_]? = _;rw [show w.heap.size + 1 = (w.heap.push (.cells x tx (0, 0))).size by simp, Array.getElem?_push_size]
theorem jstep_calls (j : S125) (A : Option Addr) (c : Nat) (w : World) (hr : Kd.C k72 w A j.f1.length j.f1) (h : JobOk j) :
  Calls Tryz.prog 58 #[.agg #[.int .i64 j.f0, .slice A j.f1.length c, .int .i64 j.f2, .int .i64 j.f3]] w fun e w' => e = .returned (.tuple #[.agg #[.int .i64 (stepOf j).f0, .int .i64 (stepOf j).f1], .bool true]) /\ Below w.heap.size w w' := by
 have D := fun wx (hb : Below w.heap.size w wx) => jgood_calls j A c wx (Kd.C_below hr hb) h
 obtain ⟨h1, h2, h3, h4, h5, h6⟩ := h;obtain ⟨ad, rfl, e0, e1⟩ := at_T72 hr j.f2 h3 h4;unfold stepOf at *;generalize rd_T72 j.f1 j.f2 = p at *;have hlt0 : (ad.add (j.f2.toNat * 2)).block < w.heap.size := World.block_lt_of_cell? w _ e0;obtain ⟨num, pr, at_, dn⟩ := j;dsimp only at *;have g5 : (at_ == (pr.length : Int)) = false := by simp; omega
 clear hr h1 h2 h5 h6;go_enter Tryz.func58, Tryz.ntmps58
 go_wp2_with (go_at_call 85; refine (D _ (below_alloc (below_alloc (Below.refl _ _) _) _)).mono ?_; rintro e w1 ⟨rfl, hb⟩; obtain ⟨hx, hy, hz⟩ := two_blocks hb; have HB1 := hZ ((below_alloc (below_alloc (Below.refl w.heap.size w) _) _).trans (hb.mono (by simp; omega))); have a1 := (blk_cell hx 1).trans rfl; have a2 := (blk_cell hx 2).trans rfl; have b0 := (blk_cell hy 0).trans rfl; have b1 := (blk_cell hy 1).trans rfl; have f0 := blk_frozen hy 0; have f1 := blk_frozen hy 1; have r0 := (HB1.out.cell (p := ad.add (at_.toNat * 2)) hlt0).trans e0; have r1 := (HB1.out.cell (p := ⟨(ad.add (at_.toNat * 2)).block, (ad.add (at_.toNat * 2)).off + 1, none⟩) hlt0).trans e1; have n0 : w.heap.size < w1.heap.size := (by omega); have n1 := hz; have HY := hZ hy; clear hx hy hz hb)
 refine bodyPost_ret (results_ct rfl _ _ (w.heap.size + 1) 72 #[.int .i64 p.f0, .int .i64 p.f1] (0, 0) _ rfl (blk_put (cs := #[.int .i64 p.f0, .int .i64 0]) (blk_put (cs := #[.int .i64 0, .int .i64 0]) HY.out 0 _ rfl) 1 _ rfl) Tryz.underlying72 rfl (by kernel_rfl)) rfl ?_;exact ⟨rfl, below_set (below_set HB1.out (Nat.le_succ _)) (Nat.le_succ _)⟩
theorem cell_of {w : World} {b : Nat} {x : Array Value} {t : TypeId} {f : Nat × Nat} (h : w.heap[b]? = some (.cells x t f)) (o : Nat) : w.cell? ⟨b, o, none⟩ = x[o]? := by simp [World.cell?, h]
theorem frozen_of {w : World} {b : Nat} {x : Array Value} {t : TypeId} (h : w.heap[b]? = some (.cells x t (0, 0))) (o : Nat) : w.frozen? ⟨b, o, none⟩ = false := by simp [World.frozen?, h]
theorem set_self {w : World} {b : Nat} {x : Array Value} {t : TypeId} {f : Nat × Nat} (o : Nat) (v : Value) (h : w.heap[b]? = some (.cells x t f)) : (w.setCell ⟨b, o, none⟩ v).heap[b]? = some (.cells (x.setIfInBounds o v) t f) := blk_set o v h
theorem set_ne {w : World} {b k : Nat} (o : Nat) (v : Value) (h : k ≠ b) : (w.setCell ⟨b, o, none⟩ v).heap[k]? = w.heap[k]? := Below.heap_setCell _ _ _ _ h
/-- a job that runs n ticks of its step. -/
theorem jrun_calls (j : S125) (A : Option Addr) (c : Nat) (n : Int) (w : World) (hr : Kd.C k72 w A j.f1.length j.f1) (h : JobOk j) (hn : 1 <= n) (hn2 : n <= (stepOf j).f1 - j.f3) :
  Calls Tryz.prog 88 #[.agg #[.int .i64 j.f0, .slice A j.f1.length c, .int .i64 j.f2, .int .i64 j.f3], .int .i64 n] w fun e w' => e = .returned (.tuple #[.agg #[.int .i64 j.f0, .slice A j.f1.length c, .int .i64 j.f2, .int .i64 (j.f3 + n)], .int .i64 n]) /\ Below w.heap.size w w' := by
 have D := fun wx (hb : Below w.heap.size w wx) => jstep_calls j A c wx (Kd.C_below hr hb) h
 have hbd := pgood_at h.prog h.at0 h.atl;have hd0 := h.d0;change _ /\ _ /\ 1 <= (stepOf j).f1 /\ (stepOf j).f1 <= 2147483648 at hbd;generalize stepOf j = p at *;obtain ⟨p0, p1⟩ := p;obtain ⟨num, pr, at_, dn⟩ := j;dsimp only at *;clear hr h;have g0 : 0 <= p1 - dn := by omega
 have g1 : 0 <= n := by omega
 go_enter Tryz.func88, Tryz.ntmps88
 go_wp2_with (go_at_call 58; refine (D _ (below_alloc (below_alloc (Below.refl _ _) _) _)).mono ?_; rintro e w1 ⟨rfl, hb⟩; obtain ⟨hx, hy, hz⟩ := two_blocks hb; have HB1 := hZ ((below_alloc (below_alloc (Below.refl w.heap.size w) _) _).trans (hb.mono (by simp; omega))); have a0 := cell_of hx 0; have a1 := cell_of hx 1; have a2 := cell_of hx 2; have a3 := cell_of hx 3; have b0 := cell_of hy 0; have b1 := cell_of hy 1; have b2 := cell_of hy 2; have b3 := cell_of hy 3; have f0 := frozen_of hy 0; have f1 := frozen_of hy 1; have f2 := frozen_of hy 2; have f3 := frozen_of hy 3; have f4 := frozen_of hx 3; have f5 := frozen_of hx 2; have n0 : w.heap.size < w1.heap.size := (by omega); have n1 := hz; have hy2 := hy; clear hx hy hz hb)
 refine bodyPost_ret (results_ct rfl _ _ (w.heap.size + 1) 125 #[.int .i64 num, .slice A pr.length c, .int .i64 at_, .int .i64 (dn + n)] (0, 0) _ rfl ?_ Tryz.underlying125 rfl (by kernel_rfl)) rfl ⟨rfl, ?_⟩
 ·rw [Below.heap_alloc]
  ·rw [set_self _ _ (set_self _ _ (set_self _ _ (set_self _ _ (x := #[.int .i64 0, .slice none 0 0, .int .i64 0, .int .i64 0]) (f := (0, 0)) (t := 125) ?_)))]
   ·rfl
   ·repeat rw [set_ne _ _ (by omega)]
    exact hy2
  ·simp only [World.size_setCell];exact n1
 ·repeat (first | with_reducible exact HB1.out | (with_reducible refine Below.setCell ?_ (by simp) _) | (with_reducible refine Below.alloc ?_ (by simp only [World.size_setCell]; omega) _))
/-- a job whose step is over goes to the next one. -/
theorem jnext_calls (j : S125) (A : Option Addr) (c : Nat) (w : World) (hr : Kd.C k72 w A j.f1.length j.f1) (h : JobOk j) (hn : j.f3 = (stepOf j).f1) :
  Calls Tryz.prog 111 #[.agg #[.int .i64 j.f0, .slice A j.f1.length c, .int .i64 j.f2, .int .i64 j.f3]] w fun e w' => e = .returned (.tuple #[.agg #[.int .i64 j.f0, .slice A j.f1.length c, .int .i64 (j.f2 + 1), .int .i64 0], .bool true]) /\ Below w.heap.size w w' := by
 have D := fun wx (hb : Below w.heap.size w wx) => jstep_calls j A c wx (Kd.C_below hr hb) h
 have h0 := h.at0;have h1 := h.atl;have h2 := (pgood_len h.prog).2;generalize stepOf j = p at *;obtain ⟨p0, p1⟩ := p;obtain ⟨num, pr, at_, dn⟩ := j;dsimp only at *;subst hn;clear hr h;go_enter Tryz.func111, Tryz.ntmps111
 go_wp2_with (go_at_call 58; refine (D _ (below_alloc (below_alloc (Below.refl _ _) _) _)).mono ?_; rintro e w1 ⟨rfl, hb⟩; obtain ⟨hx, hy, hz⟩ := two_blocks hb; have HB1 := hZ ((below_alloc (below_alloc (Below.refl w.heap.size w) _) _).trans (hb.mono (by simp; omega))); have a0 := cell_of hx 0; have a1 := cell_of hx 1; have a2 := cell_of hx 2; have a3 := cell_of hx 3; have b0 := cell_of hy 0; have b1 := cell_of hy 1; have b2 := cell_of hy 2; have b3 := cell_of hy 3; have f0 := frozen_of hy 0; have f1 := frozen_of hy 1; have f2 := frozen_of hy 2; have f3 := frozen_of hy 3; have f4 := frozen_of hx 3; have f5 := frozen_of hx 2; have n0 : w.heap.size < w1.heap.size := (by omega); have n1 := hz; have hy2 := hy; clear hx hy hz hb)
 refine bodyPost_ret (results_ct rfl _ _ (w.heap.size + 1) 125 #[.int .i64 num, .slice A pr.length c, .int .i64 (at_ + 1), .int .i64 0] (0, 0) _ rfl ?_ Tryz.underlying125 rfl (by kernel_rfl)) rfl ⟨rfl, ?_⟩
 ·rw [Below.heap_alloc]
  ·rw [set_self _ _ (set_self _ _ (set_self _ _ (set_self _ _ (x := #[.int .i64 0, .slice none 0 0, .int .i64 0, .int .i64 0]) (f := (0, 0)) (t := 125) ?_)))]
   ·rfl
   ·repeat rw [set_ne _ _ (by omega)]
    exact hy2
  ·simp only [World.size_setCell];exact n1
 ·repeat (first | with_reducible exact HB1.out | (with_reducible refine Below.setCell ?_ (by simp) _) | (with_reducible refine Below.alloc ?_ (by simp only [World.size_setCell]; omega) _))
theorem info72 : (Tryz.prog.info? 72).map (fun i => (i.zero, i.size, i.bytes)) = some (some (.agg #[.int .i64 0, .int .i64 0]), 2, 16) := by kernel_rfl
theorem jnew_calls (num : Int) (A : Option Addr) (c : Nat) (p : List S72) (w : World) (hr : Kd.C k72 w A p.length p) (hg : pgoodB p = true) (hn : 1 <= num) :
  Calls Tryz.prog 45 #[.int .i64 num, .slice A p.length c] w fun e w' => ∃ A' c', e = .returned (.tuple #[.agg #[.int .i64 num, .slice A' p.length c', .int .i64 0, .int .i64 0], .bool true]) /\ p.length <= c' /\ Kd.C k72 w' A' p.length p /\ (∀ ad, A' = some ad -> w.heap.size <= ad.block) /\ Below w.heap.size w w' := by
 have D := fun wx (hb : Below w.heap.size w wx) => pgood_calls A c p wx (Kd.C_below hr hb)
 rw [hg] at D;have hl := pgood_len hg;have HR := hZ hr;have g1 : decide (num < 1) = false := by simp; omega
 clear hr hg;go_enter Tryz.func45, Tryz.ntmps45
 go_wp2_with (first
  | ((with_reducible refine gate_dst (N := 4) rfl ?_); refine box_event ?hg (N := 4) ?hd (cs := #[.int .i64 0, .slice none 0 0, .int .i64 0, .int .i64 0]) (t := 125) ?hr ?_; (case hd => rfl); (case hg => rfl); (case hr => first | (go_simp; done) | (go_simp; rfl)); intro gb hgb w2 hbox hb; have HBX := hZ hbox; have HB := hZ hb; have hlt := blk_lt hbox; have GE := hZ (show w.heap.size <= gb by omega); clear hbox hb hgb)
  | (go_at_call 75; (with_reducible refine (D _ HB.out).mono ?_); rintro e w3 ⟨rfl, hB3⟩; have HBX3 := hZ (blk_below HBX.out (hB3.mono (Nat.le_refl _))); have HB3 := hZ (HB.out.trans (hB3.mono HB.out.size)); have hlt3 := blk_lt HBX3.out; clear hB3)
  | ((with_reducible refine gate_dst (N := 15) rfl ?_); (try (refine gate_guard (by rfl) ?_; dsimp only)); refine Kd.R_lit k72 (w0 := w) w.heap.size 72 ?hg (N := 15) ?hd (xs := ([] : List S72)) (inner := []) (ok := fun b => w.heap.size <= b /\ b ≠ gb) (okp := fun _ => False) ?hr ?hp (fun _ hk => hk.elim) ⟨HB3.out.size, by omega⟩ HB3.out HB3.out.size (by simp) ?_; (case hd => rfl); (case hg => rfl); (case hr => first | (go_simp; done) | (go_simp; rfl)); (case hp => exact Reps.none _ _); intro v5 w4 hR4 hB4 hg4 ho4; have HR4 := hZ hR4; have HB4 := hZ hB4; have HBX4 := hZ (blk_grown HBX3.out hg4 (by simp)); have hlt4 := blk_lt HBX4.out; have hne4 : some gb ≠ v5.ownBlock := (by intro e; exact (hR4.1 gb e.symm).2 rfl); clear hR4 hB4 hg4 ho4)
  | ((with_reducible refine gate_builtin (b := .append) (xs := #[.tmp 15, .tmp 16]) rfl ?_); at_builtin; refine Kd.R_append_rows k72 (Rr := k72.K w) (okp := fun _ => False) (w0 := w) w.heap.size rfl (.tmp 15) (.tmp 16) 42 72 (.agg #[.int .i64 0, .int .i64 0]) 16 rfl Tryz.underlying42 info72 rfl (by decide) (by omega) v5 [] p A p.length c (fun b => w.heap.size <= b /\ b ≠ gb) rfl rfl HR4.out ?hC (fun x cs h => by (obtain rfl := k72_open h; exact k72_mkM _ _ _ _)) (fun _ h => h.elim) (fun k hk => ⟨Nat.le_trans HB4.out.size hk, by omega⟩) HB4.out HB4.out.size ?aL ?_; (case hC => exact ReadsRow.imp_ HR.out HB4.out (fun _ _ h => h)); (case aL => (simp; omega)); intro v1 w5 hR5 hB5 hg5 _; have HR5 := hZ hR5; have HB5 := hZ hB5; have HBX5 := hZ (blk_grown HBX4.out hg5 hne4); have z0 := blk_frozen HBX5.out 0; have z1 := blk_frozen HBX5.out 1; have z2 := blk_frozen HBX5.out 2; have z3 := blk_frozen HBX5.out 3; have d0 := (blk_cell HBX5.out 0).trans rfl; have d1 := (blk_cell HBX5.out 1).trans rfl; have d2 := (blk_cell HBX5.out 2).trans rfl; have d3 := (blk_cell HBX5.out 3).trans rfl; obtain ⟨A6, c6, rfl, hc6, hC6⟩ := Kd.R_reads hR5; clear hR5 hB5 hg5))
 have hRf := Kd.R_far (p := ⟨gb, 3, none⟩) (Kd.R_far (p := ⟨gb, 2, none⟩) (Kd.R_far (p := ⟨gb, 1, none⟩) (Kd.R_far (p := ⟨gb, 0, none⟩) HR5.out (fun _ hk => hk.2) (.int .i64 num)) (fun _ hk => hk.2) (.slice A6 p.length c6)) (fun _ hk => hk.2) (.int .i64 0)) (fun _ hk => hk.2) (.int .i64 0);obtain ⟨A7, c7, e7, hc7, hC7⟩ := Kd.R_reads hRf
 cases e7
 have hge := GE.out;refine bodyPost_ret (results_ct rfl _ _ gb 125 #[.int .i64 num, .slice A6 p.length c6, .int .i64 0, .int .i64 0] (0, 0) _ rfl (blk_put (cs := #[.int .i64 num, .slice A6 p.length c6, .int .i64 0, .int .i64 0]) (blk_put (cs := #[.int .i64 num, .slice A6 p.length c6, .int .i64 0, .int .i64 0]) (blk_put (cs := #[.int .i64 num, .slice none 0 0, .int .i64 0, .int .i64 0]) (blk_put (cs := #[.int .i64 0, .slice none 0 0, .int .i64 0, .int .i64 0]) HBX5.out 0 _ rfl) 1 _ rfl) 2 _ rfl) 3 _ rfl) Tryz.underlying125 rfl (by kernel_rfl)) rfl ?_;refine ⟨A6, c6, rfl, hc6, hC7, ?_, below_set (below_set (below_set (below_set HB5.out hge) hge) hge) hge⟩;rintro ad rfl;exact (hRf.1 ad.block (by simp [Value.ownBlock])).1
theorem fodd_calls (s n : Int) (b : Nat) (A : Option Addr) (k c : Nat) (w : World) (hb : w.cell? ⟨b, 0, none⟩ = some (.slice A k c)) :
  Calls Tryz.prog 74 #[.agg #[.int .i64 s, .int .i64 n], .pointer (some ⟨b, 0, none⟩)] w fun e w' => e = .returned (.bool (decide (s > (k : Int)))) /\ Below w.heap.size w w' := by
 have hlt := World.block_lt_of_cell? w _ hb;have hb2 : (w.alloc (.cells #[.int .i64 s, .int .i64 n] 72)).cell? ⟨b, 0, none⟩ = some (.slice A k c) := ((below_alloc (Below.refl _ w) _).cell (p := ⟨b, 0, none⟩) hlt).trans hb;go_enter Tryz.func74, Tryz.ntmps74;go_wp2;go_ret;exact ⟨rfl, below_alloc (Below.refl _ _) _⟩
def foddB (kk : Nat) (x : S72) : Bool := decide (x.f0 > (kk : Int))
theorem findex_no (A0 : Option Addr) (c0 : Nat) (l0 : List S72) (b kk cc : Nat) (B : Option Addr) (w : World) (hb : w.cell? ⟨b, 0, none⟩ = some (.slice B kk cc)) (hr0 : Kd.C k72 w A0 l0.length l0) (hlen : l0.length <= 8) (hall : ∀ k (h : k < l0.length), foddB kk l0[k] = false) :
  Calls Tryz.prog 102 #[.slice A0 l0.length c0, .func (.func 74) #[] #[.pointer (some ⟨b, 0, none⟩)]] w fun e w' => e = .returned (.int .i64 (-1)) /\ Below w.heap.size w w' := by
 have HR0 := hZ hr0;have HA := hZ hall;clear hr0 hall;go_enter Tryz.func102, Tryz.ntmps102;go_wp2
 go_loopw [8] (fun v8 wr => ∃ k : Nat, v8 = .int .i64 k /\ k <= l0.length /\ Hid (Below w.heap.size w wr)) (fun v8 _ => l0.length - (intOf v8).toNat)
 case atStart => exact ⟨0, rfl, Nat.zero_le _, Below.refl _ _⟩
 case round =>
  obtain ⟨k, rfl, hk, HB⟩ := hrel;by_cases hlt : k < l0.length
  ·obtain ⟨ad, rfl, h0, h1⟩ := at_T72 (Kd.C_below HR0.out HB.out) (k : Int) (by omega) (by omega);rw [Int.toNat_natCast] at h0 h1;have D := fun wx (hbx : Below w.heap.size w wx) => fodd_calls (rd_T72 l0 (k : Int)).f0 (rd_T72 l0 (k : Int)).f1 b B kk cc wx ((hbx.cell (p := ⟨b, 0, none⟩) (World.block_lt_of_cell? w _ hb)).trans hb)
   change ∀ wx (hbx : Below w.heap.size w wx), Calls Tryz.prog 74 _ wx fun e w' => e = .returned (.bool (foddB kk (rd_T72 l0 (k : Int)))) /\ _ at D
   rw [show foddB kk (rd_T72 l0 (k : Int)) = false by rw [rd72 hlt]; exact HA.out k hlt] at D;generalize rd_T72 l0 (k : Int) = p at *;obtain ⟨p0, p1⟩ := p;dsimp only at h0 h1 D
   go_wp2_with (go_at_call 74; (with_reducible refine (D _ HB.out).mono ?_); rintro e w' ⟨rfl, hB'⟩; have HB' := hZ (HB.out.trans (hB'.mono HB.out.size)); clear hB')
   go_roundw
   case rel => exact ⟨k + 1, by go_num, by omega, HB'⟩
   case measure => simp [intOf]; omega
  ·obtain rfl : k = l0.length := by omega
   go_wp2;go_ret;exact ⟨rfl, HB.out⟩
theorem findex_yes (A0 : Option Addr) (c0 : Nat) (l0 : List S72) (b kk cc : Nat) (B : Option Addr) (w : World) (hb : w.cell? ⟨b, 0, none⟩ = some (.slice B kk cc)) (i : Nat) (hr0 : Kd.C k72 w A0 l0.length l0) (hlen : l0.length <= 8) (hi : i < l0.length) (hall : ∀ k (h : k < i), foddB kk l0[k] = false) (hodd : foddB kk l0[i] = true) :
  Calls Tryz.prog 102 #[.slice A0 l0.length c0, .func (.func 74) #[] #[.pointer (some ⟨b, 0, none⟩)]] w fun e w' => e = .returned (.int .i64 i) /\ Below w.heap.size w w' := by
 have HR0 := hZ hr0;have HA := hZ hall;have HO := hZ hodd;clear hr0 hall hodd;go_enter Tryz.func102, Tryz.ntmps102;go_wp2
 go_loopw [8] (fun v8 wr => ∃ k : Nat, v8 = .int .i64 k /\ k <= i /\ Hid (Below w.heap.size w wr)) (fun v8 _ => l0.length - (intOf v8).toNat)
 case atStart => exact ⟨0, rfl, Nat.zero_le _, Below.refl _ _⟩
 case round =>
  obtain ⟨k, rfl, hk, HB⟩ := hrel;have hlt : k < l0.length := by omega
  obtain ⟨ad, rfl, h0, h1⟩ := at_T72 (Kd.C_below HR0.out HB.out) (k : Int) (by omega) (by omega);rw [Int.toNat_natCast] at h0 h1;have D := fun wx (hbx : Below w.heap.size w wx) => fodd_calls (rd_T72 l0 (k : Int)).f0 (rd_T72 l0 (k : Int)).f1 b B kk cc wx ((hbx.cell (p := ⟨b, 0, none⟩) (World.block_lt_of_cell? w _ hb)).trans hb)
  change ∀ wx (hbx : Below w.heap.size w wx), Calls Tryz.prog 74 _ wx fun e w' => e = .returned (.bool (foddB kk (rd_T72 l0 (k : Int)))) /\ _ at D
  rw [show foddB kk (rd_T72 l0 (k : Int)) = foddB kk l0[k] by rw [rd72 hlt]] at D;by_cases hki : k < i
  ·rw [HA.out k hki] at D;generalize rd_T72 l0 (k : Int) = p at *;obtain ⟨p0, p1⟩ := p;dsimp only at h0 h1 D
   go_wp2_with (go_at_call 74; (with_reducible refine (D _ HB.out).mono ?_); rintro e w' ⟨rfl, hB'⟩; have HB' := hZ (HB.out.trans (hB'.mono HB.out.size)); clear hB')
   go_roundw
   case rel => exact ⟨k + 1, by go_num, by omega, HB'⟩
   case measure => simp [intOf]; omega
  ·obtain rfl : k = i := by omega
   rw [HO.out] at D;generalize rd_T72 l0 (k : Int) = p at *;obtain ⟨p0, p1⟩ := p;dsimp only at h0 h1 D
   go_wp2_with (go_at_call 74; (with_reducible refine (D _ HB.out).mono ?_); rintro e w' ⟨rfl, hB'⟩; have HB' := hZ (HB.out.trans (hB'.mono HB.out.size)); clear hB')
   go_ret;exact ⟨rfl, HB'.out⟩
theorem ffirst_odd (kk : Nat) (l : List S72) : (l.any (foddB kk) = false /\ ∀ k (h : k < l.length), foddB kk l[k] = false) \/ ∃ i, ∃ h : i < l.length, l.any (foddB kk) = true /\ (∀ k (h : k < i), foddB kk l[k] = false) /\ foddB kk l[i] = true := by
 by_cases h : l.any (foddB kk) = true
 ·right
  have hx : l.findIdx (foddB kk) < l.length := by
   rw [List.findIdx_lt_length];simpa using h
  exact ⟨l.findIdx (foddB kk), hx, h, fun k hk => by simpa using List.not_of_lt_findIdx hk, List.findIdx_getElem⟩
 ·left;refine ⟨by simpa using h, fun k hk => ?_⟩;have := List.any_eq_false.1 (eq_false_of_ne_true h) l[k] (List.getElem_mem hk);simpa using this
theorem fcontains_calls (A0 : Option Addr) (c0 : Nat) (l0 : List S72) (b kk cc : Nat) (B : Option Addr) (w : World) (hb : w.cell? ⟨b, 0, none⟩ = some (.slice B kk cc)) (hr0 : Kd.C k72 w A0 l0.length l0) (hlen : l0.length <= 8) :
  Calls Tryz.prog 76 #[.slice A0 l0.length c0, .func (.func 74) #[] #[.pointer (some ⟨b, 0, none⟩)]] w fun e w' => e = .returned (.bool (l0.any (foddB kk))) /\ Below w.heap.size w w' := by
 rcases ffirst_odd kk l0 with ⟨h1, h2⟩ | ⟨i, hi, h1, h2, h3⟩
 ·have D := findex_no A0 c0 l0 b kk cc B w hb hr0 hlen h2;rw [h1];clear h1 h2 hr0 hb;go_enter Tryz.func76, Tryz.ntmps76
  go_wp2_with (go_at_call 102; (with_reducible refine D.mono ?_); rintro e w' ⟨rfl, hB'⟩)
  go_ret;exact ⟨rfl, hB'⟩
 ·have D := findex_yes A0 c0 l0 b kk cc B w hb i hr0 hlen hi h2 h3;rw [h1];clear h1 h2 h3 hr0 hb;go_enter Tryz.func76, Tryz.ntmps76
  go_wp2_with (go_at_call 102; (with_reducible refine D.mono ?_); rintro e w' ⟨rfl, hB'⟩)
  go_ret;exact ⟨rfl, hB'⟩
def fitsB (kk : Nat) (p : List S72) : Bool := pgoodB p && !p.any (foddB kk)
theorem fits_calls (A : Option Addr) (c : Nat) (p : List S72) (B : Option Addr) (kk cc : Nat) (w : World) (hr : Kd.C k72 w A p.length p) :
  Calls Tryz.prog 43 #[.slice A p.length c, .slice B kk cc] w fun e w' => e = .returned (.bool (fitsB kk p)) /\ Below w.heap.size w w' := by
 have HB0 : Hid (Below w.heap.size w (w.alloc (.cells #[.slice B kk cc] 23))) := hZ (below_alloc (Below.refl _ _) _);have hbx : (w.alloc (.cells #[.slice B kk cc] 23)).heap[w.heap.size]? = some (.cells #[.slice B kk cc] 23 (0, 0)) := blk_new _ _;have D1 := fun wx (hb : Below w.heap.size w wx) => pgood_calls A c p wx (Kd.C_below hr hb)
 cases hg : pgoodB p
 ·have e : fitsB kk p = false := by unfold fitsB; rw [hg]; rfl
  rw [e];rw [hg] at D1;clear e hg hbx;go_enter Tryz.func43, Tryz.ntmps43
  go_wp2_with (go_at_call 75; (with_reducible refine (D1 _ HB0.out).mono ?_); rintro e w1 ⟨rfl, hB⟩)
  go_ret;exact ⟨rfl, HB0.out.trans (hB.mono HB0.out.size)⟩
 ·have e : fitsB kk p = !p.any (foddB kk) := by unfold fitsB; rw [hg]; rfl
  have hl := (pgood_len hg).2;have D2 := fun wx (hb : Below w.heap.size w wx) (hc : wx.cell? ⟨w.heap.size, 0, none⟩ = some (.slice B kk cc)) => fcontains_calls A c p w.heap.size kk cc B wx hc (Kd.C_below hr hb) hl
  rw [e];rw [hg] at D1;clear e hg hr;generalize p.any (foddB kk) = r at *;have HBX := hZ hbx;clear hbx;go_enter Tryz.func43, Tryz.ntmps43
  go_wp2_with (first
   | (go_at_call 75; (with_reducible refine (D1 _ HB0.out).mono ?_); rintro e w1 ⟨rfl, hB⟩; have HB1 := hZ (HB0.out.trans (hB.mono HB0.out.size)); have HC1 := hZ (show w1.cell? ⟨w.heap.size, 0, none⟩ = some (.slice B kk cc) from (blk_cell (blk_below HBX.out hB) 0).trans rfl); clear hB)
   | (go_at_call 76; (with_reducible refine (D2 _ HB1.out HC1.out).mono ?_); rintro e w2 ⟨rfl, hB2⟩))
  go_ret;exact ⟨rfl, HB1.out.trans (hB2.mono HB1.out.size)⟩
structure CbsOk (s : S54) : Prop where
 q1 : 1 <= s.f0
 qp : s.f0 <= s.f1
 pm : s.f1 <= 2147483648
 b0 : 0 <= s.f2
 bq : s.f2 <= s.f0
 d0 : 0 <= s.f3
 dm : s.f3 <= 4611686018427387904
 m0 : 0 <= s.f4
 m2 : s.f4 <= 2
 mb : s.f4 = 1 -> 0 < s.f2
def agg54 (s : S54) : Value := .agg #[.int .i64 s.f0, .int .i64 s.f1, .int .i64 s.f2, .int .i64 s.f3, .int .i64 s.f4]
theorem pair_calls (q p : Int) (w : World) (h1 : 1 <= q) (h2 : q <= p) (h3 : p <= 2147483648) : Calls Tryz.prog 80 #[.int .i64 q, .int .i64 p] w fun e w' => e = .returned (.bool true) /\ w = w' := by
 have g1 : (1 : Int) <= p := by omega
 go_enter Tryz.func80, Tryz.ntmps80;go_wp2;go_ret;exact ⟨rfl, rfl⟩
theorem tgood_calls (t : Int) (w : World) (h1 : 0 <= t) (h2 : t <= 4611686018427387904) : Calls Tryz.prog 77 #[.int .i64 t] w fun e w' => e = .returned (.bool true) /\ w = w' := by
 go_enter Tryz.func77, Tryz.ntmps77;go_wp2;go_ret;exact ⟨rfl, rfl⟩
theorem cgood_calls (s : S54) (w : World) (h : CbsOk s) : Calls Tryz.prog 52 #[agg54 s] w fun e w' => e = .returned (.bool true) /\ Below w.heap.size w w' := by
 have D1 := fun w => pair_calls s.f0 s.f1 w h.q1 h.qp h.pm
 have D2 := fun w => tgood_calls s.f3 w h.d0 h.dm
 obtain ⟨h1, h2, h3, h4, h5, h6, h7, h8, h9, h10⟩ := h;obtain ⟨q, p, b, d, m⟩ := s;unfold agg54;dsimp only at *;rcases (show m = 1 \/ m = 0 \/ m = 2 by omega) with rfl | rfl | rfl
 ·have h11 := h10 rfl;clear h10;go_enter Tryz.func52, Tryz.ntmps52
  go_wp2_with (first
   | (go_at_call 80; (with_reducible refine (D1 _).mono ?_); rintro e w1 ⟨rfl, rfl⟩)
   | (go_at_call 77; (with_reducible refine (D2 _).mono ?_); rintro e w1 ⟨rfl, rfl⟩))
  go_ret;exact ⟨rfl, below_alloc (Below.refl _ _) _⟩
 all_goals
  clear h10;go_enter Tryz.func52, Tryz.ntmps52
  go_wp2_with (first
   | (go_at_call 80; (with_reducible refine (D1 _).mono ?_); rintro e w1 ⟨rfl, rfl⟩)
   | (go_at_call 77; (with_reducible refine (D2 _).mono ?_); rintro e w1 ⟨rfl, rfl⟩))
  go_ret;exact ⟨rfl, below_alloc (Below.refl _ _) _⟩
theorem idle_calls (s : S54) (w : World) (h : CbsOk s) (hm : s.f4 ≠ 0) : Calls Tryz.prog 112 #[agg54 s] w fun e w' => e = .returned (.tuple #[agg54 { s with f4 := 0 }, .int .i64 0]) /\ Below w.heap.size w w' := by
 have D := fun w => cgood_calls s w h
 clear h;obtain ⟨q, p, b, d, m⟩ := s;unfold agg54 at *;dsimp only at *;go_enter Tryz.func112, Tryz.ntmps112
 go_wp2_with (first | (go_at_call 52; refine (D _).mono ?_; rintro e w1 ⟨rfl, hb⟩; obtain ⟨hx, hy, hz⟩ := two_blocks hb; have HB1 := hZ ((below_alloc (below_alloc (Below.refl w.heap.size w) _) _).trans (hb.mono (by simp; omega))); have a0 := cell_of hx 0; have a1 := cell_of hx 1; have a2 := cell_of hx 2; have a3 := cell_of hx 3; have a4 := cell_of hx 4; have b0 := cell_of hy 0; have b1 := cell_of hy 1; have b2 := cell_of hy 2; have b3 := cell_of hy 3; have b4 := cell_of hy 4; have f0 := frozen_of hy 0; have f1 := frozen_of hy 1; have f2 := frozen_of hy 2; have f3 := frozen_of hy 3; have f4 := frozen_of hy 4; have h2 := frozen_of hx 2; have h3 := frozen_of hx 3; have h4 := frozen_of hx 4; have n0 : w.heap.size < w1.heap.size := (by omega); have n1 := hz; have hy2 := hy; have hx2 := hx; clear hx hy hz hb))
 refine bodyPost_ret (results_ct rfl _ _ (w.heap.size + 1) 54 #[.int .i64 q, .int .i64 p, .int .i64 b, .int .i64 d, .int .i64 0] (0, 0) _ rfl ?_ Tryz.underlying54 rfl (by kernel_rfl)) rfl ⟨rfl, ?_⟩
 ·rw [set_self _ _ (set_self _ _ (set_self _ _ (set_self _ _ (set_self _ _ (x := #[.int .i64 0, .int .i64 0, .int .i64 0, .int .i64 0, .int .i64 0]) (f := (0, 0)) (t := 54) ?_))))]
  ·rfl
  ·repeat rw [set_ne _ _ (by omega)]
   exact hy2
 ·repeat (first | with_reducible exact HB1.out | (with_reducible refine Below.setCell ?_ (by simp) _) | (with_reducible refine Below.alloc ?_ (by simp only [World.size_setCell]; omega) _))
theorem wait_calls (s : S54) (w : World) (h : CbsOk s) (hm : s.f4 = 1) : Calls Tryz.prog 56 #[agg54 s] w fun e w' => e = .returned (.tuple #[agg54 { s with f4 := 2 }, .int .i64 0]) /\ Below w.heap.size w w' := by
 have D := fun w => cgood_calls s w h
 clear h;obtain ⟨q, p, b, d, m⟩ := s;unfold agg54 at *;dsimp only at *;subst hm;go_enter Tryz.func56, Tryz.ntmps56
 go_wp2_with (first | (go_at_call 52; refine (D _).mono ?_; rintro e w1 ⟨rfl, hb⟩; obtain ⟨hx, hy, hz⟩ := two_blocks hb; have HB1 := hZ ((below_alloc (below_alloc (Below.refl w.heap.size w) _) _).trans (hb.mono (by simp; omega))); have a0 := cell_of hx 0; have a1 := cell_of hx 1; have a2 := cell_of hx 2; have a3 := cell_of hx 3; have a4 := cell_of hx 4; have b0 := cell_of hy 0; have b1 := cell_of hy 1; have b2 := cell_of hy 2; have b3 := cell_of hy 3; have b4 := cell_of hy 4; have f0 := frozen_of hy 0; have f1 := frozen_of hy 1; have f2 := frozen_of hy 2; have f3 := frozen_of hy 3; have f4 := frozen_of hy 4; have h2 := frozen_of hx 2; have h3 := frozen_of hx 3; have h4 := frozen_of hx 4; have n0 : w.heap.size < w1.heap.size := (by omega); have n1 := hz; have hy2 := hy; have hx2 := hx; clear hx hy hz hb))
 refine bodyPost_ret (results_ct rfl _ _ (w.heap.size + 1) 54 #[.int .i64 q, .int .i64 p, .int .i64 b, .int .i64 d, .int .i64 2] (0, 0) _ rfl ?_ Tryz.underlying54 rfl (by kernel_rfl)) rfl ⟨rfl, ?_⟩
 ·rw [set_self _ _ (set_self _ _ (set_self _ _ (set_self _ _ (set_self _ _ (x := #[.int .i64 0, .int .i64 0, .int .i64 0, .int .i64 0, .int .i64 0]) (f := (0, 0)) (t := 54) ?_))))]
  ·rfl
  ·repeat rw [set_ne _ _ (by omega)]
   exact hy2
 ·repeat (first | with_reducible exact HB1.out | (with_reducible refine Below.setCell ?_ (by simp) _) | (with_reducible refine Below.alloc ?_ (by simp only [World.size_setCell]; omega) _))
theorem tgood2_calls (t : Int) (w : World) (h1 : 0 <= t) (h2 : t <= 4611686018427387904) : Calls Tryz.prog 82 #[.int .i64 t] w fun e w' => e = .returned (.tuple #[.int .i64 t, .bool true]) /\ w = w' := by
 have D := fun w => tgood_calls t w h1 h2
 go_enter Tryz.func82, Tryz.ntmps82
 go_wp2_with (first | (go_at_call 77; (with_reducible refine (D _).mono ?_); rintro e w1 ⟨rfl, rfl⟩))
 go_ret2;exact ⟨rfl, rfl⟩
theorem tin_calls (n a b : Int) (w : World) (h1 : a <= n) (h2 : n <= b) : Calls Tryz.prog 81 #[.int .i64 n, .int .i64 a, .int .i64 b] w fun e w' => e = .returned (.bool true) /\ w = w' := by
 go_enter Tryz.func81, Tryz.ntmps81;go_wp2;go_ret;exact ⟨rfl, rfl⟩
theorem tadd_calls (a b : Int) (w : World) (h1 : 0 <= a) (h2 : 0 <= b) (h3 : a + b <= 4611686018427387904) : Calls Tryz.prog 78 #[.int .i64 a, .int .i64 b] w fun e w' => e = .returned (.tuple #[.int .i64 (a + b), .bool true]) /\ w = w' := by
 have D1 := fun w => tgood_calls a w h1 (by omega)
 have D2 := fun w => tgood_calls b w h2 (by omega)
 have D3 := fun w => tgood2_calls (a + b) w (by omega) h3
 have hw : IntKind.i64.wrap (a + b) = a + b := by rw [i64_w]; unfold Go.RowKit.wrap64; omega
 go_enter Tryz.func78, Tryz.ntmps78
 go_wp2_with (first
  | (go_at_call 82; (with_reducible refine (D3 _).mono ?_); rintro e w1 ⟨rfl, rfl⟩)
  | (go_at_call 77; (with_reducible refine (D1 _).mono ?_); rintro e w1 ⟨rfl, rfl⟩)
  | (go_at_call 77; (with_reducible refine (D2 _).mono ?_); rintro e w1 ⟨rfl, rfl⟩))
 go_ret2;exact ⟨rfl, rfl⟩
def upT (t d p : Int) : Int := d + ((t - d) / p + 1) * p
theorem upT_gt {t d p : Int} (hp : 1 <= p) : t < upT t d p := by
 unfold upT;have h1 := Int.emod_add_mul_ediv (t - d) p;have h2 := Int.emod_lt_of_pos (t - d) (show 0 < p by omega);rw [Int.add_mul, Int.mul_comm ((t - d) / p) p];omega
theorem upT_le {t d p : Int} (hp : 1 <= p) : upT t d p <= t + p := by
 unfold upT;have h1 := Int.emod_add_mul_ediv (t - d) p;have h2 := Int.emod_nonneg (t - d) (show p ≠ 0 by omega);rw [Int.add_mul, Int.mul_comm ((t - d) / p) p];omega
theorem up_calls (t d p : Int) (w : World) (h1 : 0 <= d) (h2 : d <= t) (h3 : t <= 2305843009213693952) (h4 : 1 <= p) (h5 : p <= 2147483648) : Calls Tryz.prog 53 #[.int .i64 t, .int .i64 d, .int .i64 p] w fun e w' => e = .returned (.tuple #[.int .i64 (upT t d p), .bool true]) /\ w = w' := by
 have hgt := upT_gt (t := t) (d := d) h4;have hle := upT_le (t := t) (d := d) h4;have D1 := fun w => tgood_calls t w (by omega) (by omega)
 have D2 := fun w => tgood_calls d w (by omega) (by omega)
 have D4 := fun w => tin_calls p 1 2147483648 w h4 h5
 have D3 := fun w => tgood2_calls (upT t d p) w (by omega) (by omega)
 have hq0 : 0 <= (t - d) / p := Int.ediv_nonneg (by omega) (by omega);have hq1 : (t - d) / p <= t - d := Int.ediv_le_self _ (by omega);have hm1 : 0 <= ((t - d) / p + 1) * p := Int.mul_nonneg (by omega) (by omega);have hm2 : ((t - d) / p + 1) * p <= t + p := by unfold upT at hle; omega
 have ht : Int.tdiv (t - d) p = (t - d) / p := Int.tdiv_eq_ediv_of_nonneg (by omega);unfold upT at *;have w1 : IntKind.i64.wrap (t - d) = t - d := by rw [i64_w]; unfold Go.RowKit.wrap64; omega
 have w2 : IntKind.i64.wrap (Int.tdiv (t - d) p) = (t - d) / p := by rw [ht, i64_w]; unfold Go.RowKit.wrap64; omega
 have w3 : IntKind.i64.wrap ((t - d) / p + 1) = (t - d) / p + 1 := by rw [i64_w]; unfold Go.RowKit.wrap64; omega
 have w4 : IntKind.i64.wrap (((t - d) / p + 1) * p) = ((t - d) / p + 1) * p := by rw [i64_w]; unfold Go.RowKit.wrap64; omega
 have w5 : IntKind.i64.wrap (d + ((t - d) / p + 1) * p) = d + ((t - d) / p + 1) * p := by rw [i64_w]; unfold Go.RowKit.wrap64; omega
 go_enter Tryz.func53, Tryz.ntmps53
 go_wp2_with (first
  | (go_at_call 82; (with_reducible refine (D3 _).mono ?_); rintro e w1 ⟨rfl, rfl⟩)
  | (go_at_call 81; (with_reducible refine (D4 _).mono ?_); rintro e w1 ⟨rfl, rfl⟩)
  | (go_at_call 77; (with_reducible refine (D1 _).mono ?_); rintro e w1 ⟨rfl, rfl⟩)
  | (go_at_call 77; (with_reducible refine (D2 _).mono ?_); rintro e w1 ⟨rfl, rfl⟩))
 go_ret2;exact ⟨rfl, rfl⟩
theorem share_calls (x q p : Int) (w : World) (h1 : 0 <= x) (h2 : x <= p) (h3 : 0 <= q) (h4 : q <= p) (h5 : 1 <= p) (h6 : p <= 2147483648) : Calls Tryz.prog 79 #[.int .i64 x, .int .i64 q, .int .i64 p] w fun e w' => e = .returned (.tuple #[.int .i64 (x * q / p), .bool true]) /\ w = w' := by
 have D1 := fun w => tin_calls x 0 2147483648 w h1 (by omega)
 have D2 := fun w => tin_calls p 1 2147483648 w h5 h6
 have D3 := fun w => tin_calls q 0 p w h3 h4
 have hm0 : 0 <= x * q := Int.mul_nonneg h1 h3;have hm1 : x * q <= 2147483648 * 2147483648 := Int.mul_le_mul (by omega) (by omega) h3 (by omega);have hd0 : 0 <= x * q / p := Int.ediv_nonneg hm0 (by omega);have hd1 : x * q / p <= x * q := Int.ediv_le_self _ hm0;have ht : Int.tdiv (x * q) p = x * q / p := Int.tdiv_eq_ediv_of_nonneg hm0;have w1 : IntKind.i64.wrap (x * q) = x * q := by rw [i64_w]; unfold Go.RowKit.wrap64; omega
 have w2 : IntKind.i64.wrap (Int.tdiv (x * q) p) = x * q / p := by rw [ht, i64_w]; unfold Go.RowKit.wrap64; omega
 go_enter Tryz.func79, Tryz.ntmps79
 go_wp2_with (first
  | (go_at_call 81; (with_reducible refine (D1 _).mono ?_); rintro e w1 ⟨rfl, rfl⟩)
  | (go_at_call 81; (with_reducible refine (D2 _).mono ?_); rintro e w1 ⟨rfl, rfl⟩)
  | (go_at_call 81; (with_reducible refine (D3 _).mono ?_); rintro e w1 ⟨rfl, rfl⟩))
 go_ret2;exact ⟨rfl, rfl⟩
def readyS (s : S54) : S54 := { s with f4 := if s.f2 = 0 then 2 else 1 }
def useS (s : S54) (n : Int) : S54 := readyS { s with f2 := s.f2 - n }
def turnS (s : S54) (now : Int) : S54 := readyS { s with f2 := s.f0, f3 := upT now s.f3 s.f1 }
def wakeS (s : S54) (now : Int) : S54 :=
 if s.f3 <= now then readyS { s with f2 := s.f0, f3 := now + s.f1 }
 else if min (s.f3 - now) s.f1 * s.f0 < s.f2 * s.f1 then readyS { s with f2 := min (s.f3 - now) s.f1 * s.f0 / s.f1 }
 else readyS s
theorem ready_calls (s : S54) (w : World) : Calls Tryz.prog 54 #[agg54 s] w fun e w' => e = .returned (agg54 (readyS s)) /\ Below w.heap.size w w' := by
 obtain ⟨q, p, b, d, m⟩ := s;unfold readyS agg54 at *;dsimp only at *;by_cases hb : b = 0
 ·subst hb;rw [if_pos rfl];go_enter Tryz.func54, Tryz.ntmps54;go_wp2;refine bodyPost_ret (results_cell_row rfl _ _ (w.heap.size + 1) 54 #[.int .i64 q, .int .i64 p, .int .i64 0, .int .i64 d, .int .i64 2] (0, 0) _ rfl (two_blocks (Below.refl _ _)).2.1 Tryz.underlying54 rfl (by kernel_rfl)) rfl ?_;exact ⟨rfl, below_alloc (below_alloc (Below.refl _ _) _) _⟩
 ·rw [if_neg hb];go_enter Tryz.func54, Tryz.ntmps54;go_wp2;refine bodyPost_ret (results_cell_row rfl _ _ (w.heap.size + 1) 54 #[.int .i64 q, .int .i64 p, .int .i64 b, .int .i64 d, .int .i64 1] (0, 0) _ rfl (two_blocks (Below.refl _ _)).2.1 Tryz.underlying54 rfl (by kernel_rfl)) rfl ?_;exact ⟨rfl, below_alloc (below_alloc (Below.refl _ _) _) _⟩
theorem use_calls (s : S54) (n : Int) (w : World) (h : CbsOk s) (hm : s.f4 = 1) (hn : 1 <= n) (hb : n <= s.f2) : Calls Tryz.prog 87 #[agg54 s, .int .i64 n] w fun e w' => e = .returned (.tuple #[agg54 (useS s n), .int .i64 0]) /\ Below w.heap.size w w' := by
 have D := fun w => cgood_calls s w h
 have D2 := fun w => ready_calls { s with f2 := s.f2 - n } w
 have hwr : IntKind.i64.wrap (s.f2 - n) = s.f2 - n := by
  have h1 := h.b0;have h2 := h.bq;have h3 := h.qp;have h4 := h.pm;rw [i64_w]; unfold Go.RowKit.wrap64; omega
 clear h;unfold useS;generalize hr : readyS { s with f2 := s.f2 - n } = r at *;clear hr;obtain ⟨q, p, b, d, m⟩ := s;obtain ⟨q', p', b', d', m'⟩ := r;unfold agg54 at *;dsimp only at *;subst hm;go_enter Tryz.func87, Tryz.ntmps87
 go_wp2_with (first | (go_at_call 52; (with_reducible refine (D _).mono ?_); rintro e w1 ⟨rfl, hb⟩; obtain ⟨hx, hy, hz⟩ := two_blocks hb; have HB1 := hZ ((below_alloc (below_alloc (Below.refl w.heap.size w) _) _).trans (hb.mono (by simp; omega))); have a0 := cell_of hx 0; have a1 := cell_of hx 1; have a2 := cell_of hx 2; have a3 := cell_of hx 3; have a4 := cell_of hx 4; have b0 := cell_of hy 0; have b1 := cell_of hy 1; have b2 := cell_of hy 2; have b3 := cell_of hy 3; have b4 := cell_of hy 4; have f0 := frozen_of hy 0; have f1 := frozen_of hy 1; have f2 := frozen_of hy 2; have f3 := frozen_of hy 3; have f4 := frozen_of hy 4; have h2 := frozen_of hx 2; have h3 := frozen_of hx 3; have h4 := frozen_of hx 4; have n0 : w.heap.size < w1.heap.size := (by omega); have n1 := hz; have HY := hZ hy; clear hx hy hz hb) | (go_at_call 54; (with_reducible refine (D2 _).mono ?_); rintro e w3 ⟨rfl, hb3⟩; have hy := (hb3.block (w.heap.size + 1) (by (try simp only [World.size_setCell]); omega)).trans ((set_ne _ _ (by omega)).trans HY.out); have HB3 := hZ ((Below.setCell HB1.out (Nat.le_refl _) _).trans (hb3.mono (by (try simp only [World.size_setCell]); omega))); clear a0 a1 a2 a3 a4 b0 b1 b2 b3 b4 f0 f1 f2 f3 f4 h2 h3 h4; have b0 := cell_of hy 0; have b1 := cell_of hy 1; have b2 := cell_of hy 2; have b3 := cell_of hy 3; have b4 := cell_of hy 4; have f0 := frozen_of hy 0; have f1 := frozen_of hy 1; have f2 := frozen_of hy 2; have f3 := frozen_of hy 3; have f4 := frozen_of hy 4; have n3 := blk_lt hy; have HY3 := hZ hy; clear hy hb3))
 ·refine bodyPost_ret (results_ct rfl _ _ (w.heap.size + 1) 54 #[.int .i64 q', .int .i64 p', .int .i64 b', .int .i64 d', .int .i64 m'] (0, 0) _ rfl ?_ Tryz.underlying54 rfl (by kernel_rfl)) rfl ⟨rfl, ?_⟩
  ·rw [set_self _ _ (set_self _ _ (set_self _ _ (set_self _ _ (set_self _ _ (x := #[.int .i64 0, .int .i64 0, .int .i64 0, .int .i64 0, .int .i64 0]) (f := (0, 0)) (t := 54) ?_))))]
   ·rfl
   ·exact HY3.out
  ·repeat (first | with_reducible exact HB3.out | (with_reducible refine Below.setCell ?_ (by simp) _))
theorem turn_no_calls (s : S54) (now : Int) (w : World) (h : CbsOk s) (hno : s.f4 = 0 \/ (s.f4 ≠ 0 /\ now < s.f3)) : Calls Tryz.prog 27 #[agg54 s, .int .i64 now] w fun e w' => e = .returned (.tuple #[agg54 s, .bool false]) /\ Below w.heap.size w w' := by
 have D := fun w => cgood_calls s w h
 clear h;obtain ⟨q, p, b, d, m⟩ := s;unfold agg54 at *;dsimp only at *;rcases hno with rfl | ⟨h1, h2⟩
 ·go_enter Tryz.func27, Tryz.ntmps27
  go_wp2_with (first | (go_at_call 52; (with_reducible refine (D _).mono ?_); rintro e w1 ⟨rfl, hb⟩; obtain ⟨hx, hy, hz⟩ := two_blocks hb; have HB1 := hZ ((below_alloc (below_alloc (Below.refl w.heap.size w) _) _).trans (hb.mono (by simp; omega))); have a0 := cell_of hx 0; have a1 := cell_of hx 1; have a2 := cell_of hx 2; have a3 := cell_of hx 3; have a4 := cell_of hx 4; have b0 := cell_of hy 0; have b1 := cell_of hy 1; have b2 := cell_of hy 2; have b3 := cell_of hy 3; have b4 := cell_of hy 4; have f0 := frozen_of hy 0; have f1 := frozen_of hy 1; have f2 := frozen_of hy 2; have f3 := frozen_of hy 3; have f4 := frozen_of hy 4; have h2 := frozen_of hx 2; have h3 := frozen_of hx 3; have h4 := frozen_of hx 4; have n0 : w.heap.size < w1.heap.size := (by omega); have n1 := hz; have HY := hZ hy; clear hx hy hz hb))
  refine bodyPost_ret (results_ct rfl _ _ (w.heap.size + 1) 54 #[.int .i64 q, .int .i64 p, .int .i64 b, .int .i64 d, .int .i64 0] (0, 0) _ rfl ?_ Tryz.underlying54 rfl (by kernel_rfl)) rfl ⟨rfl, ?_⟩
  ·rw [set_self _ _ (set_self _ _ (set_self _ _ (set_self _ _ (set_self _ _ (x := #[.int .i64 0, .int .i64 0, .int .i64 0, .int .i64 0, .int .i64 0]) (f := (0, 0)) (t := 54) ?_))))]
   ·rfl
   ·exact HY.out
  ·repeat (first | with_reducible exact HB1.out | (with_reducible refine Below.setCell ?_ (by simp) _))
 ·go_enter Tryz.func27, Tryz.ntmps27
  go_wp2_with (first | (go_at_call 52; (with_reducible refine (D _).mono ?_); rintro e w1 ⟨rfl, hb⟩; obtain ⟨hx, hy, hz⟩ := two_blocks hb; have HB1 := hZ ((below_alloc (below_alloc (Below.refl w.heap.size w) _) _).trans (hb.mono (by simp; omega))); have a0 := cell_of hx 0; have a1 := cell_of hx 1; have a2 := cell_of hx 2; have a3 := cell_of hx 3; have a4 := cell_of hx 4; have b0 := cell_of hy 0; have b1 := cell_of hy 1; have b2 := cell_of hy 2; have b3 := cell_of hy 3; have b4 := cell_of hy 4; have f0 := frozen_of hy 0; have f1 := frozen_of hy 1; have f2 := frozen_of hy 2; have f3 := frozen_of hy 3; have f4 := frozen_of hy 4; have h2 := frozen_of hx 2; have h3 := frozen_of hx 3; have h4 := frozen_of hx 4; have n0 : w.heap.size < w1.heap.size := (by omega); have n1 := hz; have HY := hZ hy; clear hx hy hz hb))
  refine bodyPost_ret (results_ct rfl _ _ (w.heap.size + 1) 54 #[.int .i64 q, .int .i64 p, .int .i64 b, .int .i64 d, .int .i64 m] (0, 0) _ rfl ?_ Tryz.underlying54 rfl (by kernel_rfl)) rfl ⟨rfl, ?_⟩
  ·rw [set_self _ _ (set_self _ _ (set_self _ _ (set_self _ _ (set_self _ _ (x := #[.int .i64 0, .int .i64 0, .int .i64 0, .int .i64 0, .int .i64 0]) (f := (0, 0)) (t := 54) ?_))))]
   ·rfl
   ·exact HY.out
  ·repeat (first | with_reducible exact HB1.out | (with_reducible refine Below.setCell ?_ (by simp) _))
theorem turn_calls (s : S54) (now : Int) (w : World) (h : CbsOk s) (h0 : s.f4 ≠ 0) (h1 : s.f3 <= now) (hnow : now <= 2305843009213693952) : Calls Tryz.prog 27 #[agg54 s, .int .i64 now] w fun e w' => e = .returned (.tuple #[agg54 (turnS s now), .bool true]) /\ Below w.heap.size w w' := by
 have D := fun w => cgood_calls s w h
 have D2 := fun w => ready_calls { s with f2 := s.f0, f3 := upT now s.f3 s.f1 } w
 have D3 := fun w => up_calls now s.f3 s.f1 w h.d0 h1 hnow (by have := h.q1; have := h.qp; omega) h.pm
 clear h;unfold turnS;have g1 : decide (now < s.f3) = false := by simp; omega
 generalize hr : readyS { s with f2 := s.f0, f3 := upT now s.f3 s.f1 } = r at *;generalize hu : upT now s.f3 s.f1 = u at *;clear hr hu;obtain ⟨q, p, b, d, m⟩ := s;obtain ⟨q', p', b', d', m'⟩ := r;unfold agg54 at *;dsimp only at *;go_enter Tryz.func27, Tryz.ntmps27
 go_wp2_with (first | (go_at_call 52; (with_reducible refine (D _).mono ?_); rintro e w1 ⟨rfl, hb⟩; obtain ⟨hx, hy, hz⟩ := two_blocks hb; have HB1 := hZ ((below_alloc (below_alloc (Below.refl w.heap.size w) _) _).trans (hb.mono (by simp; omega))); have a0 := cell_of hx 0; have a1 := cell_of hx 1; have a2 := cell_of hx 2; have a3 := cell_of hx 3; have a4 := cell_of hx 4; have b0 := cell_of hy 0; have b1 := cell_of hy 1; have b2 := cell_of hy 2; have b3 := cell_of hy 3; have b4 := cell_of hy 4; have f0 := frozen_of hy 0; have f1 := frozen_of hy 1; have f2 := frozen_of hy 2; have f3 := frozen_of hy 3; have f4 := frozen_of hy 4; have h2 := frozen_of hx 2; have h3 := frozen_of hx 3; have h4 := frozen_of hx 4; have n0 : w.heap.size < w1.heap.size := (by omega); have n1 := hz; have HY := hZ hy; clear hx hy hz hb) | (go_at_call 53; (with_reducible refine (D3 _).mono ?_); rintro e w2 ⟨rfl, rfl⟩) | (go_at_call 54; (with_reducible refine (D2 _).mono ?_); rintro e w3 ⟨rfl, hb3⟩; have hy := (hb3.block (w.heap.size + 1) (by (try simp only [World.size_setCell]); omega)).trans ((set_ne _ _ (by omega)).trans ((set_ne _ _ (by omega)).trans HY.out)); have HB3 := hZ ((Below.setCell (Below.setCell HB1.out (Nat.le_refl _) _) (Nat.le_refl _) _).trans (hb3.mono (by (try simp only [World.size_setCell]); omega))); clear a0 a1 a2 a3 a4 b0 b1 b2 b3 b4 f0 f1 f2 f3 f4 h2 h3 h4; have b0 := cell_of hy 0; have b1 := cell_of hy 1; have b2 := cell_of hy 2; have b3 := cell_of hy 3; have b4 := cell_of hy 4; have f0 := frozen_of hy 0; have f1 := frozen_of hy 1; have f2 := frozen_of hy 2; have f3 := frozen_of hy 3; have f4 := frozen_of hy 4; have n3 := blk_lt hy; have HY3 := hZ hy; clear hy hb3))
 ·refine bodyPost_ret (results_ct rfl _ _ (w.heap.size + 1) 54 #[.int .i64 q', .int .i64 p', .int .i64 b', .int .i64 d', .int .i64 m'] (0, 0) _ rfl ?_ Tryz.underlying54 rfl (by kernel_rfl)) rfl ⟨rfl, ?_⟩
  ·rw [set_self _ _ (set_self _ _ (set_self _ _ (set_self _ _ (set_self _ _ (x := #[.int .i64 0, .int .i64 0, .int .i64 0, .int .i64 0, .int .i64 0]) (f := (0, 0)) (t := 54) ?_))))]
   ·rfl
   ·exact HY3.out
  ·repeat (first | with_reducible exact HB3.out | (with_reducible refine Below.setCell ?_ (by simp) _))
theorem wake1_calls (s : S54) (now : Int) (w : World) (h : CbsOk s) (hm : s.f4 = 0) (hn0 : 0 <= now) (hnow : now <= 2305843009213693952) (h1 : s.f3 <= now) : Calls Tryz.prog 46 #[agg54 s, .int .i64 now] w fun e w' => e = .returned (.tuple #[agg54 (readyS { s with f2 := s.f0, f3 := now + s.f1 }), .int .i64 0]) /\ Below w.heap.size w w' := by
 have D := fun w => cgood_calls s w h
 have DG := fun w => tgood_calls now w hn0 (by omega)
 have D2 := fun w => ready_calls { s with f2 := s.f0, f3 := now + s.f1 } w
 have DA := fun w => tadd_calls now s.f1 w hn0 (by have := h.q1; have := h.qp; omega) (by have := h.pm; omega)
 clear h;generalize hr : readyS { s with f2 := s.f0, f3 := now + s.f1 } = r at *;clear hr;obtain ⟨q, p, b, d, m⟩ := s;obtain ⟨q', p', b', d', m'⟩ := r;unfold agg54 at *;dsimp only at *;subst hm;go_enter Tryz.func46, Tryz.ntmps46
 go_wp2_with (first | (go_at_call 52; (with_reducible refine (D _).mono ?_); rintro e w1 ⟨rfl, hb⟩; obtain ⟨hx, hy, hz⟩ := two_blocks hb; have HB1 := hZ ((below_alloc (below_alloc (Below.refl w.heap.size w) _) _).trans (hb.mono (by simp; omega))); have a0 := cell_of hx 0; have a1 := cell_of hx 1; have a2 := cell_of hx 2; have a3 := cell_of hx 3; have a4 := cell_of hx 4; have b0 := cell_of hy 0; have b1 := cell_of hy 1; have b2 := cell_of hy 2; have b3 := cell_of hy 3; have b4 := cell_of hy 4; have f0 := frozen_of hy 0; have f1 := frozen_of hy 1; have f2 := frozen_of hy 2; have f3 := frozen_of hy 3; have f4 := frozen_of hy 4; have h2 := frozen_of hx 2; have h3 := frozen_of hx 3; have h4 := frozen_of hx 4; have n0 : w.heap.size < w1.heap.size := (by omega); have n1 := hz; have HY := hZ hy; clear hx hy hz hb) | (go_at_call 77; (with_reducible refine (DG _).mono ?_); rintro e w2 ⟨rfl, rfl⟩) | (go_at_call 78; (with_reducible refine (DA _).mono ?_); rintro e w2 ⟨rfl, rfl⟩) | (go_at_call 54; (with_reducible refine (D2 _).mono ?_); rintro e w3 ⟨rfl, hb3⟩; have hy := (hb3.block (w.heap.size + 1) (by (try simp only [World.size_setCell]); omega)).trans ((set_ne _ _ (by omega)).trans ((set_ne _ _ (by omega)).trans HY.out)); have HB3 := hZ ((Below.setCell (Below.setCell HB1.out (Nat.le_refl _) _) (Nat.le_refl _) _).trans (hb3.mono (by (try simp only [World.size_setCell]); omega))); clear a0 a1 a2 a3 a4 b0 b1 b2 b3 b4 f0 f1 f2 f3 f4 h2 h3 h4; have b0 := cell_of hy 0; have b1 := cell_of hy 1; have b2 := cell_of hy 2; have b3 := cell_of hy 3; have b4 := cell_of hy 4; have f0 := frozen_of hy 0; have f1 := frozen_of hy 1; have f2 := frozen_of hy 2; have f3 := frozen_of hy 3; have f4 := frozen_of hy 4; have n3 := blk_lt hy; have HY3 := hZ hy; clear hy hb3))
 ·refine bodyPost_ret (results_ct rfl _ _ (w.heap.size + 1) 54 #[.int .i64 q', .int .i64 p', .int .i64 b', .int .i64 d', .int .i64 m'] (0, 0) _ rfl ?_ Tryz.underlying54 rfl (by kernel_rfl)) rfl ⟨rfl, ?_⟩
  ·rw [set_self _ _ (set_self _ _ (set_self _ _ (set_self _ _ (set_self _ _ (x := #[.int .i64 0, .int .i64 0, .int .i64 0, .int .i64 0, .int .i64 0]) (f := (0, 0)) (t := 54) ?_))))]
   ·rfl
   ·exact HY3.out
  ·repeat (first | with_reducible exact HB3.out | (with_reducible refine Below.setCell ?_ (by simp) _))
theorem wake2a_calls (s : S54) (now : Int) (w : World) (h : CbsOk s) (hm : s.f4 = 0) (hn0 : 0 <= now) (hnow : now <= 2305843009213693952) (h1 : now < s.f3) (x : Int) (hx : s.f3 - now <= s.f1 /\ x = s.f3 - now) (h2 : x * s.f0 < s.f2 * s.f1) : Calls Tryz.prog 46 #[agg54 s, .int .i64 now] w fun e w' => e = .returned (.tuple #[agg54 (readyS { s with f2 := x * s.f0 / s.f1 }), .int .i64 0]) /\ Below w.heap.size w w' := by
 have D := fun w => cgood_calls s w h
 have DG := fun w => tgood_calls now w hn0 (by omega)
 have D2 := fun w => ready_calls { s with f2 := x * s.f0 / s.f1 } w
 have q1 := h.q1;have q2 := h.qp;have q3 := h.pm;have q4 := h.b0;have q5 := h.bq;have q6 := h.d0;have q7 := h.dm;have m0 : 0 <= s.f2 * s.f1 := Int.mul_nonneg h.b0 (by omega);have m1 : s.f2 * s.f1 <= 2147483648 * 2147483648 := Int.mul_le_mul (by omega) (by omega) (by omega) (by omega);have x0 : 0 <= x := by omega
 have x1 : x <= s.f1 := by omega
 have m2 : 0 <= x * s.f0 := Int.mul_nonneg x0 (by omega);have m3 : x * s.f0 <= 2147483648 * 2147483648 := Int.mul_le_mul (by omega) (by omega) (by omega) (by omega);have w1 : IntKind.i64.wrap (s.f2 * s.f1) = s.f2 * s.f1 := by rw [i64_w]; unfold Go.RowKit.wrap64; omega
 have w2 : IntKind.i64.wrap (s.f3 - now) = s.f3 - now := by rw [i64_w]; unfold Go.RowKit.wrap64; omega
 have w3 : IntKind.i64.wrap (x * s.f0) = x * s.f0 := by rw [i64_w]; unfold Go.RowKit.wrap64; omega
 have DS := fun w => share_calls x s.f0 s.f1 w x0 x1 (by omega) h.qp (by omega) h.pm
 clear h;generalize hr : readyS { s with f2 := x * s.f0 / s.f1 } = r at *;clear hr;obtain ⟨q, p, b, d, m⟩ := s;obtain ⟨q', p', b', d', m'⟩ := r;unfold agg54 at *;dsimp only at *;obtain ⟨hx1, rfl⟩ := hx;subst hm;go_enter Tryz.func46, Tryz.ntmps46
 go_wp2_with (first | (go_at_call 52; (with_reducible refine (D _).mono ?_); rintro e w1 ⟨rfl, hb⟩; obtain ⟨hx, hy, hz⟩ := two_blocks hb; have HB1 := hZ ((below_alloc (below_alloc (Below.refl w.heap.size w) _) _).trans (hb.mono (by simp; omega))); have a0 := cell_of hx 0; have a1 := cell_of hx 1; have a2 := cell_of hx 2; have a3 := cell_of hx 3; have a4 := cell_of hx 4; have b0 := cell_of hy 0; have b1 := cell_of hy 1; have b2 := cell_of hy 2; have b3 := cell_of hy 3; have b4 := cell_of hy 4; have f0 := frozen_of hy 0; have f1 := frozen_of hy 1; have f2 := frozen_of hy 2; have f3 := frozen_of hy 3; have f4 := frozen_of hy 4; have h2 := frozen_of hx 2; have h3 := frozen_of hx 3; have h4 := frozen_of hx 4; have n0 : w.heap.size < w1.heap.size := (by omega); have n1 := hz; have HY := hZ hy; clear hx hy hz hb) | (go_at_call 77; (with_reducible refine (DG _).mono ?_); rintro e w2 ⟨rfl, rfl⟩) | (go_at_call 79; (with_reducible refine (DS _).mono ?_); rintro e w2 ⟨rfl, rfl⟩) | (go_at_call 54; (with_reducible refine (D2 _).mono ?_); rintro e w3 ⟨rfl, hb3⟩; have hy := (hb3.block (w.heap.size + 1) (by (try simp only [World.size_setCell]); omega)).trans ((set_ne _ _ (by omega)).trans HY.out); have HB3 := hZ ((Below.setCell HB1.out (Nat.le_refl _) _).trans (hb3.mono (by (try simp only [World.size_setCell]); omega))); clear a0 a1 a2 a3 a4 b0 b1 b2 b3 b4 f0 f1 f2 f3 f4 h2 h3 h4; have b0 := cell_of hy 0; have b1 := cell_of hy 1; have b2 := cell_of hy 2; have b3 := cell_of hy 3; have b4 := cell_of hy 4; have f0 := frozen_of hy 0; have f1 := frozen_of hy 1; have f2 := frozen_of hy 2; have f3 := frozen_of hy 3; have f4 := frozen_of hy 4; have n3 := blk_lt hy; have HY3 := hZ hy; clear hy hb3))
 ·refine bodyPost_ret (results_ct rfl _ _ (w.heap.size + 1) 54 #[.int .i64 q', .int .i64 p', .int .i64 b', .int .i64 d', .int .i64 m'] (0, 0) _ rfl ?_ Tryz.underlying54 rfl (by kernel_rfl)) rfl ⟨rfl, ?_⟩
  ·rw [set_self _ _ (set_self _ _ (set_self _ _ (set_self _ _ (set_self _ _ (x := #[.int .i64 0, .int .i64 0, .int .i64 0, .int .i64 0, .int .i64 0]) (f := (0, 0)) (t := 54) ?_))))]
   ·rfl
   ·exact HY3.out
  ·repeat (first | with_reducible exact HB3.out | (with_reducible refine Below.setCell ?_ (by simp) _))
theorem wake3a_calls (s : S54) (now : Int) (w : World) (h : CbsOk s) (hm : s.f4 = 0) (hn0 : 0 <= now) (hnow : now <= 2305843009213693952) (h1 : now < s.f3) (x : Int) (hx : s.f3 - now <= s.f1 /\ x = s.f3 - now) (h2 : s.f2 * s.f1 <= x * s.f0) : Calls Tryz.prog 46 #[agg54 s, .int .i64 now] w fun e w' => e = .returned (.tuple #[agg54 (readyS s), .int .i64 0]) /\ Below w.heap.size w w' := by
 have D := fun w => cgood_calls s w h
 have DG := fun w => tgood_calls now w hn0 (by omega)
 have D2 := fun w => ready_calls s w
 have q1 := h.q1;have q2 := h.qp;have q3 := h.pm;have q4 := h.b0;have q5 := h.bq;have q6 := h.d0;have q7 := h.dm;have m0 : 0 <= s.f2 * s.f1 := Int.mul_nonneg h.b0 (by omega);have m1 : s.f2 * s.f1 <= 2147483648 * 2147483648 := Int.mul_le_mul (by omega) (by omega) (by omega) (by omega);have x0 : 0 <= x := by omega
 have x1 : x <= s.f1 := by omega
 have m2 : 0 <= x * s.f0 := Int.mul_nonneg x0 (by omega);have m3 : x * s.f0 <= 2147483648 * 2147483648 := Int.mul_le_mul (by omega) (by omega) (by omega) (by omega);have w1 : IntKind.i64.wrap (s.f2 * s.f1) = s.f2 * s.f1 := by rw [i64_w]; unfold Go.RowKit.wrap64; omega
 have w2 : IntKind.i64.wrap (s.f3 - now) = s.f3 - now := by rw [i64_w]; unfold Go.RowKit.wrap64; omega
 have w3 : IntKind.i64.wrap (x * s.f0) = x * s.f0 := by rw [i64_w]; unfold Go.RowKit.wrap64; omega

 clear h;generalize hr : readyS s = r at *;clear hr;obtain ⟨q, p, b, d, m⟩ := s;obtain ⟨q', p', b', d', m'⟩ := r;unfold agg54 at *;dsimp only at *;obtain ⟨hx1, rfl⟩ := hx;subst hm;go_enter Tryz.func46, Tryz.ntmps46
 go_wp2_with (first | (go_at_call 52; (with_reducible refine (D _).mono ?_); rintro e w1 ⟨rfl, hb⟩; obtain ⟨hx, hy, hz⟩ := two_blocks hb; have HB1 := hZ ((below_alloc (below_alloc (Below.refl w.heap.size w) _) _).trans (hb.mono (by simp; omega))); have a0 := cell_of hx 0; have a1 := cell_of hx 1; have a2 := cell_of hx 2; have a3 := cell_of hx 3; have a4 := cell_of hx 4; have b0 := cell_of hy 0; have b1 := cell_of hy 1; have b2 := cell_of hy 2; have b3 := cell_of hy 3; have b4 := cell_of hy 4; have f0 := frozen_of hy 0; have f1 := frozen_of hy 1; have f2 := frozen_of hy 2; have f3 := frozen_of hy 3; have f4 := frozen_of hy 4; have h2 := frozen_of hx 2; have h3 := frozen_of hx 3; have h4 := frozen_of hx 4; have n0 : w.heap.size < w1.heap.size := (by omega); have n1 := hz; have HY := hZ hy; clear hx hy hz hb) | (go_at_call 77; (with_reducible refine (DG _).mono ?_); rintro e w2 ⟨rfl, rfl⟩) | (go_at_call 54; (with_reducible refine (D2 _).mono ?_); rintro e w3 ⟨rfl, hb3⟩; have hy := (hb3.block (w.heap.size + 1) (by (try simp only [World.size_setCell]); omega)).trans HY.out; have HB3 := hZ (HB1.out.trans (hb3.mono (by (try simp only [World.size_setCell]); omega))); clear a0 a1 a2 a3 a4 b0 b1 b2 b3 b4 f0 f1 f2 f3 f4 h2 h3 h4; have b0 := cell_of hy 0; have b1 := cell_of hy 1; have b2 := cell_of hy 2; have b3 := cell_of hy 3; have b4 := cell_of hy 4; have f0 := frozen_of hy 0; have f1 := frozen_of hy 1; have f2 := frozen_of hy 2; have f3 := frozen_of hy 3; have f4 := frozen_of hy 4; have n3 := blk_lt hy; have HY3 := hZ hy; clear hy hb3))
 ·refine bodyPost_ret (results_ct rfl _ _ (w.heap.size + 1) 54 #[.int .i64 q', .int .i64 p', .int .i64 b', .int .i64 d', .int .i64 m'] (0, 0) _ rfl ?_ Tryz.underlying54 rfl (by kernel_rfl)) rfl ⟨rfl, ?_⟩
  ·rw [set_self _ _ (set_self _ _ (set_self _ _ (set_self _ _ (set_self _ _ (x := #[.int .i64 0, .int .i64 0, .int .i64 0, .int .i64 0, .int .i64 0]) (f := (0, 0)) (t := 54) ?_))))]
   ·rfl
   ·exact HY3.out
  ·repeat (first | with_reducible exact HB3.out | (with_reducible refine Below.setCell ?_ (by simp) _))
theorem wake2b_calls (s : S54) (now : Int) (w : World) (h : CbsOk s) (hm : s.f4 = 0) (hn0 : 0 <= now) (hnow : now <= 2305843009213693952) (h1 : now < s.f3) (x : Int) (hx : s.f1 < s.f3 - now /\ x = s.f1) (h2 : x * s.f0 < s.f2 * s.f1) : Calls Tryz.prog 46 #[agg54 s, .int .i64 now] w fun e w' => e = .returned (.tuple #[agg54 (readyS { s with f2 := x * s.f0 / s.f1 }), .int .i64 0]) /\ Below w.heap.size w w' := by
 have D := fun w => cgood_calls s w h
 have DG := fun w => tgood_calls now w hn0 (by omega)
 have D2 := fun w => ready_calls { s with f2 := x * s.f0 / s.f1 } w
 have q1 := h.q1;have q2 := h.qp;have q3 := h.pm;have q4 := h.b0;have q5 := h.bq;have q6 := h.d0;have q7 := h.dm;have m0 : 0 <= s.f2 * s.f1 := Int.mul_nonneg h.b0 (by omega);have m1 : s.f2 * s.f1 <= 2147483648 * 2147483648 := Int.mul_le_mul (by omega) (by omega) (by omega) (by omega);have x0 : 0 <= x := by omega
 have x1 : x <= s.f1 := by omega
 have m2 : 0 <= x * s.f0 := Int.mul_nonneg x0 (by omega);have m3 : x * s.f0 <= 2147483648 * 2147483648 := Int.mul_le_mul (by omega) (by omega) (by omega) (by omega);have w1 : IntKind.i64.wrap (s.f2 * s.f1) = s.f2 * s.f1 := by rw [i64_w]; unfold Go.RowKit.wrap64; omega
 have w2 : IntKind.i64.wrap (s.f3 - now) = s.f3 - now := by rw [i64_w]; unfold Go.RowKit.wrap64; omega
 have w3 : IntKind.i64.wrap (x * s.f0) = x * s.f0 := by rw [i64_w]; unfold Go.RowKit.wrap64; omega
 have DS := fun w => share_calls x s.f0 s.f1 w x0 x1 (by omega) h.qp (by omega) h.pm
 clear h;generalize hr : readyS { s with f2 := x * s.f0 / s.f1 } = r at *;clear hr;obtain ⟨q, p, b, d, m⟩ := s;obtain ⟨q', p', b', d', m'⟩ := r;unfold agg54 at *;dsimp only at *;obtain ⟨hx1, rfl⟩ := hx;subst hm;go_enter Tryz.func46, Tryz.ntmps46
 go_wp2_with (first | (go_at_call 52; (with_reducible refine (D _).mono ?_); rintro e w1 ⟨rfl, hb⟩; obtain ⟨hx, hy, hz⟩ := two_blocks hb; have HB1 := hZ ((below_alloc (below_alloc (Below.refl w.heap.size w) _) _).trans (hb.mono (by simp; omega))); have a0 := cell_of hx 0; have a1 := cell_of hx 1; have a2 := cell_of hx 2; have a3 := cell_of hx 3; have a4 := cell_of hx 4; have b0 := cell_of hy 0; have b1 := cell_of hy 1; have b2 := cell_of hy 2; have b3 := cell_of hy 3; have b4 := cell_of hy 4; have f0 := frozen_of hy 0; have f1 := frozen_of hy 1; have f2 := frozen_of hy 2; have f3 := frozen_of hy 3; have f4 := frozen_of hy 4; have h2 := frozen_of hx 2; have h3 := frozen_of hx 3; have h4 := frozen_of hx 4; have n0 : w.heap.size < w1.heap.size := (by omega); have n1 := hz; have HY := hZ hy; clear hx hy hz hb) | (go_at_call 77; (with_reducible refine (DG _).mono ?_); rintro e w2 ⟨rfl, rfl⟩) | (go_at_call 79; (with_reducible refine (DS _).mono ?_); rintro e w2 ⟨rfl, rfl⟩) | (go_at_call 54; (with_reducible refine (D2 _).mono ?_); rintro e w3 ⟨rfl, hb3⟩; have hy := (hb3.block (w.heap.size + 1) (by (try simp only [World.size_setCell]); omega)).trans ((set_ne _ _ (by omega)).trans HY.out); have HB3 := hZ ((Below.setCell HB1.out (Nat.le_refl _) _).trans (hb3.mono (by (try simp only [World.size_setCell]); omega))); clear a0 a1 a2 a3 a4 b0 b1 b2 b3 b4 f0 f1 f2 f3 f4 h2 h3 h4; have b0 := cell_of hy 0; have b1 := cell_of hy 1; have b2 := cell_of hy 2; have b3 := cell_of hy 3; have b4 := cell_of hy 4; have f0 := frozen_of hy 0; have f1 := frozen_of hy 1; have f2 := frozen_of hy 2; have f3 := frozen_of hy 3; have f4 := frozen_of hy 4; have n3 := blk_lt hy; have HY3 := hZ hy; clear hy hb3))
 ·refine bodyPost_ret (results_ct rfl _ _ (w.heap.size + 1) 54 #[.int .i64 q', .int .i64 p', .int .i64 b', .int .i64 d', .int .i64 m'] (0, 0) _ rfl ?_ Tryz.underlying54 rfl (by kernel_rfl)) rfl ⟨rfl, ?_⟩
  ·rw [set_self _ _ (set_self _ _ (set_self _ _ (set_self _ _ (set_self _ _ (x := #[.int .i64 0, .int .i64 0, .int .i64 0, .int .i64 0, .int .i64 0]) (f := (0, 0)) (t := 54) ?_))))]
   ·rfl
   ·exact HY3.out
  ·repeat (first | with_reducible exact HB3.out | (with_reducible refine Below.setCell ?_ (by simp) _))
theorem wake3b_calls (s : S54) (now : Int) (w : World) (h : CbsOk s) (hm : s.f4 = 0) (hn0 : 0 <= now) (hnow : now <= 2305843009213693952) (h1 : now < s.f3) (x : Int) (hx : s.f1 < s.f3 - now /\ x = s.f1) (h2 : s.f2 * s.f1 <= x * s.f0) : Calls Tryz.prog 46 #[agg54 s, .int .i64 now] w fun e w' => e = .returned (.tuple #[agg54 (readyS s), .int .i64 0]) /\ Below w.heap.size w w' := by
 have D := fun w => cgood_calls s w h
 have DG := fun w => tgood_calls now w hn0 (by omega)
 have D2 := fun w => ready_calls s w
 have q1 := h.q1;have q2 := h.qp;have q3 := h.pm;have q4 := h.b0;have q5 := h.bq;have q6 := h.d0;have q7 := h.dm;have m0 : 0 <= s.f2 * s.f1 := Int.mul_nonneg h.b0 (by omega);have m1 : s.f2 * s.f1 <= 2147483648 * 2147483648 := Int.mul_le_mul (by omega) (by omega) (by omega) (by omega);have x0 : 0 <= x := by omega
 have x1 : x <= s.f1 := by omega
 have m2 : 0 <= x * s.f0 := Int.mul_nonneg x0 (by omega);have m3 : x * s.f0 <= 2147483648 * 2147483648 := Int.mul_le_mul (by omega) (by omega) (by omega) (by omega);have w1 : IntKind.i64.wrap (s.f2 * s.f1) = s.f2 * s.f1 := by rw [i64_w]; unfold Go.RowKit.wrap64; omega
 have w2 : IntKind.i64.wrap (s.f3 - now) = s.f3 - now := by rw [i64_w]; unfold Go.RowKit.wrap64; omega
 have w3 : IntKind.i64.wrap (x * s.f0) = x * s.f0 := by rw [i64_w]; unfold Go.RowKit.wrap64; omega

 clear h;generalize hr : readyS s = r at *;clear hr;obtain ⟨q, p, b, d, m⟩ := s;obtain ⟨q', p', b', d', m'⟩ := r;unfold agg54 at *;dsimp only at *;obtain ⟨hx1, rfl⟩ := hx;subst hm;go_enter Tryz.func46, Tryz.ntmps46
 go_wp2_with (first | (go_at_call 52; (with_reducible refine (D _).mono ?_); rintro e w1 ⟨rfl, hb⟩; obtain ⟨hx, hy, hz⟩ := two_blocks hb; have HB1 := hZ ((below_alloc (below_alloc (Below.refl w.heap.size w) _) _).trans (hb.mono (by simp; omega))); have a0 := cell_of hx 0; have a1 := cell_of hx 1; have a2 := cell_of hx 2; have a3 := cell_of hx 3; have a4 := cell_of hx 4; have b0 := cell_of hy 0; have b1 := cell_of hy 1; have b2 := cell_of hy 2; have b3 := cell_of hy 3; have b4 := cell_of hy 4; have f0 := frozen_of hy 0; have f1 := frozen_of hy 1; have f2 := frozen_of hy 2; have f3 := frozen_of hy 3; have f4 := frozen_of hy 4; have h2 := frozen_of hx 2; have h3 := frozen_of hx 3; have h4 := frozen_of hx 4; have n0 : w.heap.size < w1.heap.size := (by omega); have n1 := hz; have HY := hZ hy; clear hx hy hz hb) | (go_at_call 77; (with_reducible refine (DG _).mono ?_); rintro e w2 ⟨rfl, rfl⟩) | (go_at_call 54; (with_reducible refine (D2 _).mono ?_); rintro e w3 ⟨rfl, hb3⟩; have hy := (hb3.block (w.heap.size + 1) (by (try simp only [World.size_setCell]); omega)).trans HY.out; have HB3 := hZ (HB1.out.trans (hb3.mono (by (try simp only [World.size_setCell]); omega))); clear a0 a1 a2 a3 a4 b0 b1 b2 b3 b4 f0 f1 f2 f3 f4 h2 h3 h4; have b0 := cell_of hy 0; have b1 := cell_of hy 1; have b2 := cell_of hy 2; have b3 := cell_of hy 3; have b4 := cell_of hy 4; have f0 := frozen_of hy 0; have f1 := frozen_of hy 1; have f2 := frozen_of hy 2; have f3 := frozen_of hy 3; have f4 := frozen_of hy 4; have n3 := blk_lt hy; have HY3 := hZ hy; clear hy hb3))
 ·refine bodyPost_ret (results_ct rfl _ _ (w.heap.size + 1) 54 #[.int .i64 q', .int .i64 p', .int .i64 b', .int .i64 d', .int .i64 m'] (0, 0) _ rfl ?_ Tryz.underlying54 rfl (by kernel_rfl)) rfl ⟨rfl, ?_⟩
  ·rw [set_self _ _ (set_self _ _ (set_self _ _ (set_self _ _ (set_self _ _ (x := #[.int .i64 0, .int .i64 0, .int .i64 0, .int .i64 0, .int .i64 0]) (f := (0, 0)) (t := 54) ?_))))]
   ·rfl
   ·exact HY3.out
  ·repeat (first | with_reducible exact HB3.out | (with_reducible refine Below.setCell ?_ (by simp) _))
theorem wake_calls (s : S54) (now : Int) (w : World) (h : CbsOk s) (hm : s.f4 = 0) (hn0 : 0 <= now) (hnow : now <= 2305843009213693952) : Calls Tryz.prog 46 #[agg54 s, .int .i64 now] w fun e w' => e = .returned (.tuple #[agg54 (wakeS s now), .int .i64 0]) /\ Below w.heap.size w w' := by
 unfold wakeS;by_cases h1 : s.f3 <= now
 ·rw [if_pos h1]; exact wake1_calls s now w h hm hn0 hnow h1
 ·rw [if_neg h1];by_cases hx : s.f3 - now <= s.f1
  ·have hx2 : min (s.f3 - now) s.f1 = s.f3 - now := by omega
   rw [hx2];by_cases h2 : (s.f3 - now) * s.f0 < s.f2 * s.f1
   ·rw [if_pos h2]; exact wake2a_calls s now w h hm hn0 hnow (by omega) _ ⟨hx, rfl⟩ h2
   ·rw [if_neg h2]; exact wake3a_calls s now w h hm hn0 hnow (by omega) _ ⟨hx, rfl⟩ (Int.not_lt.1 h2)
  ·have hx2 : min (s.f3 - now) s.f1 = s.f1 := by omega
   rw [hx2];by_cases h2 : s.f1 * s.f0 < s.f2 * s.f1
   ·rw [if_pos h2]; exact wake2b_calls s now w h hm hn0 hnow (by omega) _ ⟨by omega, rfl⟩ h2
   ·rw [if_neg h2]; exact wake3b_calls s now w h hm hn0 hnow (by omega) _ ⟨by omega, rfl⟩ (Int.not_lt.1 h2)
theorem cnew_calls (q p : Int) (w : World) (h1 : 1 <= q) (h2 : q <= p) (h3 : p <= 2147483648) : Calls Tryz.prog 69 #[.int .i64 q, .int .i64 p] w fun e w' => e = .returned (.tuple #[agg54 ⟨q, p, 0, 0, 0⟩, .int .i64 0]) /\ Below w.heap.size w w' := by
 have D := fun w => pair_calls q p w h1 h2 h3
 unfold agg54;go_enter Tryz.func69, Tryz.ntmps69
 go_wp2_with (go_at_call 80; (with_reducible refine (D _).mono ?_); rintro e w1 ⟨rfl, rfl⟩)
 refine bodyPost_ret (results_ct rfl _ _ w.heap.size 54 #[.int .i64 q, .int .i64 p, .int .i64 0, .int .i64 0, .int .i64 0] (0, 0) _ rfl (blk_new _ _) Tryz.underlying54 rfl (by kernel_rfl)) rfl ?_;exact ⟨rfl, below_alloc (Below.refl _ _) _⟩
theorem lim_mul {m x : Int} (h1 : 1 <= m) (h2 : m <= 64) (h3 : 1 <= x) (h4 : x <= 1048576) : 1 <= m * x /\ m * x <= 67108864 /\ 0 <= (m - 1) * x /\ (m - 1) * x <= 67108864 := by
 have a1 : 1 * 1 <= m * x := Int.mul_le_mul h1 h3 (by omega) (by omega);have a2 : m * x <= 64 * 1048576 := Int.mul_le_mul h2 h4 (by omega) (by omega);have a3 : 0 <= (m - 1) * x := Int.mul_nonneg (by omega) (by omega);have a4 : (m - 1) * x <= 64 * 1048576 := Int.mul_le_mul (by omega) h4 (by omega) (by omega);omega
theorem worst_calls (m x : Int) (w : World) (h1 : 1 <= m) (h2 : m <= 64) (h3 : 1 <= x) (h4 : x <= 1048576) : Calls Tryz.prog 83 #[.int .i64 m, .int .i64 x] w fun e w' => e = .returned (.tuple #[.int .i64 ((m - 1) * x), .int .i64 (m * x), .bool true]) /\ w = w' := by
 obtain ⟨a1, a2, a3, a4⟩ := lim_mul h1 h2 h3 h4;have w1 : IntKind.i64.wrap (m - 1) = m - 1 := by rw [i64_w]; unfold Go.RowKit.wrap64; omega
 have w2 : IntKind.i64.wrap ((m - 1) * x) = (m - 1) * x := by rw [i64_w]; unfold Go.RowKit.wrap64; omega
 have w3 : IntKind.i64.wrap (m * x) = m * x := by rw [i64_w]; unfold Go.RowKit.wrap64; omega
 go_enter Tryz.func83, Tryz.ntmps83;go_wp2;go_ret3;exact ⟨rfl, rfl⟩
def enoughB (m x b left : Int) : Bool := decide (m * x <= b) && decide (m * x <= left)
theorem enough_calls (m x b left : Int) (w : World) (h1 : 1 <= m) (h2 : m <= 64) (h3 : 1 <= x) (h4 : x <= 1048576) : Calls Tryz.prog 55 #[.int .i64 m, .int .i64 x, .int .i64 b, .int .i64 left] w fun e w' => e = .returned (.bool (enoughB m x b left)) /\ w = w' := by
 have D := fun w => worst_calls m x w h1 h2 h3 h4
 unfold enoughB;generalize m * x = y at *;generalize (m - 1) * x = z at *;by_cases h5 : y <= b
 ·by_cases h6 : y <= left
  ·rw [decide_eq_true h5, decide_eq_true h6];go_enter Tryz.func55, Tryz.ntmps55
   go_wp2_with (go_at_call 83; (with_reducible refine (D _).mono ?_); rintro e w1 ⟨rfl, rfl⟩)
   go_ret;exact ⟨rfl, rfl⟩
  ·rw [decide_eq_true h5, decide_eq_false h6];have h6' : left < y := Int.not_le.1 h6;have h6b : decide (y <= left) = false := decide_eq_false h6;go_enter Tryz.func55, Tryz.ntmps55
   go_wp2_with (go_at_call 83; (with_reducible refine (D _).mono ?_); rintro e w1 ⟨rfl, rfl⟩)
   go_ret;exact ⟨rfl, rfl⟩
 ·rw [decide_eq_false h5];have h5' : b < y := Int.not_le.1 h5;have h5b : decide (y <= b) = false := decide_eq_false h5;go_enter Tryz.func55, Tryz.ntmps55
  go_wp2_with (go_at_call 83; (with_reducible refine (D _).mono ?_); rintro e w1 ⟨rfl, rfl⟩)
  go_ret;exact ⟨rfl, rfl⟩
theorem int_at {w : World} {A : Option Addr} {l : List Int} (h : (Kd.int .i64).C w A l.length l) {k : Nat} (hk : k < l.length) : ∃ ad, A = some ad /\ w.cell? (ad.add k) = some (.int .i64 l[k]) := by
 obtain ⟨ad, rfl, hc⟩ := h.2.2 (by omega);obtain ⟨cs, hl, hK, hcell⟩ := hc k _ (List.getElem?_eq_getElem hk);have e : cs = [.int .i64 l[k]] := by first | exact hK | exact hK.symm
 subst e;refine ⟨ad, rfl, ?_⟩;have := hcell 0 _ rfl;have e2 : k * (Kd.int .i64).sz + 0 = k := by show k * 1 + 0 = k; omega
 rw [e2] at this;exact this
/-- where a number is first; -1. -/
theorem index_calls (A : Option Addr) (c : Nat) (l : List Int) (x : Int) (w : World) (hr : (Kd.int .i64).C w A l.length l) (hl : l.length <= 100000) :
  Calls Tryz.prog 105 #[.slice A l.length c, .int .i64 x] w fun e w' => ∃ r : Int, e = .returned (.int .i64 r) /\ (0 <= r ↔ x ∈ l) /\ w = w' := by
 have HR := hZ hr;clear hr;go_enter Tryz.func105, Tryz.ntmps105;go_wp2
 go_loopw [8] (fun v8 wr => ∃ k : Nat, v8 = .int .i64 k /\ k <= l.length /\ Hid (∀ j (h : j < l.length), j < k -> l[j] ≠ x) /\ w = wr) (fun v8 _ => l.length - (intOf v8).toNat)
 case atStart => exact ⟨0, rfl, Nat.zero_le _, hZ (fun j _ h => absurd h (by omega)), rfl⟩
 case round =>
  obtain ⟨k, rfl, hk, HN, rfl⟩ := hrel;by_cases hlt : k < l.length
  ·obtain ⟨ad, rfl, e0⟩ := int_at HR.out hlt;have HL := hZ (show l[k] = l[k] from rfl);generalize hy : l[k] = y at e0 HL;by_cases hxy : x = y
   ·subst hxy;have HM := hZ (show x ∈ l from by rw [<- hy]; exact List.getElem_mem hlt);clear hy;go_wp2;go_ret;exact ⟨k, rfl, ⟨fun _ => HM.out, fun _ => by omega⟩, rfl⟩
   ·have HN2 := hZ (show ∀ j (h : j < l.length), j < k + 1 -> l[j] ≠ x from by
     intro j hj hjk;by_cases e : j = k
     ·subst e; rw [hy]; exact fun h => hxy h.symm
     ·exact HN.out j hj (by omega))
    have hxb : (x == y) = false := by simpa using hxy
    clear hy hxy;go_wp2;go_roundw
    case rel => exact ⟨k + 1, by go_num, by omega, HN2, by first | trivial | rfl⟩
    case measure => first | (simp [intOf]; done) | (simp [intOf]; omega)
  ·have HN2 := hZ (show x ∉ l from by
    intro h;obtain ⟨j, hj, e⟩ := List.mem_iff_getElem.1 h;exact HN.out j hj (by omega) e)
   go_wp2;go_ret;exact ⟨-1, rfl, ⟨fun h => absurd h (by omega), fun h => absurd h HN2.out⟩, rfl⟩
theorem contains_calls (A : Option Addr) (c : Nat) (l : List Int) (x : Int) (w : World) (hr : (Kd.int .i64).C w A l.length l) (hl : l.length <= 100000) :
  Calls Tryz.prog 86 #[.slice A l.length c, .int .i64 x] w fun e w' => e = .returned (.bool (decide (x ∈ l))) /\ w = w' := by
 have D := index_calls A c l x w hr hl;clear hr;go_enter Tryz.func86, Tryz.ntmps86
 go_wp2_with (go_at_call 105; (with_reducible refine D.mono ?_); rintro e w1 ⟨r, rfl, hiff, rfl⟩; have HI := hZ hiff; clear hiff)
 go_ret;refine ⟨?_, rfl⟩;have : decide (x ∈ l) = decide (0 <= r) := decide_eq_decide.2 HI.out.symm;rw [this];rfl
def stV (M now : Int) (A : Option Addr) (n c : Nat) (A2 : Option Addr) (n2 c2 : Nat) (A3 : Option Addr) (c3 : Nat) : Value := .agg #[.int .i64 M, .int .i64 now, .slice A n c, .slice A2 n2 c2, .slice A3 0 c3]
def evV (at_ kind who n : Int) : Value := .agg #[.int .i64 at_, .int .i64 kind, .int .i64 who, .int .i64 n]
theorem event_calls (M now : Int) (A : Option Addr) (n c : Nat) (A2 : Option Addr) (n2 c2 : Nat) (A3 : Option Addr) (c3 : Nat) (kind who k : Int) (w : World) :
  Calls Tryz.prog 28 #[stV M now A n c A2 n2 c2 A3 c3, .int .i64 kind, .int .i64 who, .int .i64 k] w fun e w' => e = .returned (evV now kind who k) /\ Below w.heap.size w w' := by
 unfold stV evV;go_enter Tryz.func28, Tryz.ntmps28;go_wp2;refine bodyPost_ret (results_cell_row rfl _ _ (w.heap.size + 1) 67 #[.int .i64 now, .int .i64 kind, .int .i64 who, .int .i64 k] (0, 0) _ rfl (two_blocks (Below.refl _ _)).2.1 Tryz.underlying67 rfl (by kernel_rfl)) rfl ?_;exact ⟨rfl, below_alloc (below_alloc (Below.refl _ _) _) _⟩
theorem cells63 {w : World} {A : Option Addr} {q : List S63} (h : Kd.C k63 w A q.length q) {k : Nat} (hk : k < q.length) : ∃ ad J cJ, A = some ad /\
  w.cell? (ad.add (k * 4)) = some (.int .i64 q[k].f0) /\ w.cell? ⟨(ad.add (k * 4)).block, (ad.add (k * 4)).off + 1, none⟩ = some (.int .i64 q[k].f1) /\ w.cell? ⟨(ad.add (k * 4)).block, (ad.add (k * 4)).off + 2, none⟩ = some (.slice J q[k].f2.length cJ) /\ w.cell? ⟨(ad.add (k * 4)).block, (ad.add (k * 4)).off + 3, none⟩ = some (.bool q[k].f3) /\ q[k].f2.length <= cJ /\ (Kd.int .i64).C w J q[k].f2.length q[k].f2 := by
 obtain ⟨ad, A2, c2, rfl, e0, e1, e2, e3, h1, h2⟩ := at_T63 h (k : Int) (by omega) (by omega);have e : rd_T63 q (k : Int) = q[k] := by simp [rd_T63, hk]
 rw [Int.toNat_natCast] at e0 e1 e2 e3;rw [e] at e0 e1 e2 e3 h1 h2;exact ⟨ad, A2, c2, rfl, e0, e1, e2, e3, h1, h2⟩
theorem mosts_calls (M now : Int) (A : Option Addr) (n c : Nat) (A2 : Option Addr) (q : List S63) (c2 : Nat) (A3 : Option Addr) (c3 : Nat) (w : World) (hr : Kd.C k63 w A2 q.length q) (hq : q.length <= 8) :
  Calls Tryz.prog 44 #[stV M now A n c A2 q.length c2 A3 c3] w fun e w' => ∃ A' c', e = .returned (.slice A' q.length c') /\ Below w.heap.size w w' := by
 have HR := hZ hr;clear hr;have HB0 : Hid (Below w.heap.size w (w.alloc (.cells #[.int .i64 M, .int .i64 now, .slice A n c, .slice A2 q.length c2, .slice A3 0 c3] 47))) := hZ (below_alloc (Below.refl _ _) _);unfold stV;go_enter Tryz.func44, Tryz.ntmps44;go_wp2;generalize hw0 : w.alloc (.cells #[.int .i64 M, .int .i64 now, .slice A n c, .slice A2 q.length c2, .slice A3 0 c3] 47) = w0 at *;clear hw0
 go_loopw [3, 9] (fun v3 v9 wr => ∃ (i : Nat) (xs : List Int), v9 = .int .i64 i /\ i <= q.length /\ xs.length = i /\ Hid ((Kd.int .i64).R 2 wr w0.heap.size (fun _ => True) v3 xs) /\ Hid (Below w0.heap.size w0 wr)) (fun _ v9 _ => q.length - (intOf v9).toNat)
 case atStart => exact ⟨0, [], rfl, Nat.zero_le _, rfl, hZ (Kd.R_nil _ _ _ _ _), hZ (Below.refl _ _)⟩
 case round =>
  obtain ⟨i, xs, rfl, hi, hxs, HO, HB⟩ := hrel;by_cases hlt : i < q.length
  ·obtain ⟨ad, J, cJ, rfl, e0, e1, e2, e3, _, _⟩ := cells63 (Kd.C_below HR.out (HB0.out.trans (HB.out.mono HB0.out.size))) hlt;generalize q[i] = x at *
   go_wp2_with (first
    | ((with_reducible refine gate_builtin (b := .append) (xs := #[.tmp 13, .tmp 16]) rfl ?_); at_builtin; refine Kd.R_append (Kd.int .i64) (w0 := w0) w0.heap.size rfl (.tmp 13) (.tmp 16) 23 2 (.int .i64 0) 8 rfl Tryz.underlying23 info2 rfl (by decide) (by omega) _ xs x.f0 [.int .i64 x.f0] (fun _ => True) (fun _ => False) rfl (by first | (go_simp; done) | (go_simp; rfl)) ?aP (fun _ hk => hk.elim) ?aF ?aO ?aB ?aS ?aL ?_; (case aP => exact rfl); (case aF => exact (fun _ _ => trivial)); (case aO => exact Kd.R_alloc HO.out _); (case aB => exact below_alloc HB.out _); (case aS => exact (below_alloc HB.out _).size); (case aL => omega); intro v5 w5 hR5 hB5 hg5 hat5; have HR5 := hZ hR5; have HB5 := hZ hB5; clear hR5 hB5 hg5 hat5))
   go_roundw
   case rel => exact ⟨i + 1, xs ++ [x.f0], by go_num, by omega, by simp [hxs], HR5, HB5⟩
   case measure => first | (simp [intOf]; done) | (simp [intOf]; omega)
  ·have hie : i = q.length := by omega
   subst hie;obtain ⟨A4, c4, rfl, hc4, hC4⟩ := Kd.R_reads HO.out;go_wp2;go_ret;exact ⟨A4, c4, by rw [<- hxs]; rfl, HB0.out.trans (HB.out.mono HB0.out.size)⟩
def servStep (v : S57) : S72 := stepOf (v.f2.headD z125)
def asksB (v : S57) : Bool := decide (0 < (servStep v).f0) && (v.f3 == 0)
def asksOf (l : List S57) (ids : List Int) : List (Nat × Int) := (ids.map (fun id => ahead l id)).filterMap (fun i => if asksB (l.getD i z57) then some (i, (servStep (l.getD i z57)).f0) else none)
def asksL (M : Int) (l : List S57) : List (Nat × Int) := asksOf l (runsL M l)
def RunOk (l : List S57) : Prop := ∀ k (h : k < l.length), l[k].f1.f4 = 1 -> ∃ j r, l[k].f2 = j :: r /\ JobOk j
theorem runs_mem {M : Int} {l : List S57} {id : Int} (h : id ∈ runsL M l) : ∃ k, ∃ hk : k < l.length, l[k].f0 = id /\ l[k].f1.f4 = 1 := by
 unfold runsL pickL pickE at h;obtain ⟨e, he, rfl⟩ := List.mem_map.1 h;have h1 := (List.mem_filter.1 he).1;unfold readyL at h1;obtain ⟨x, hx, rfl⟩ := List.mem_map.1 h1;obtain ⟨hx1, hx2⟩ := List.mem_filter.1 hx;obtain ⟨k, hk, rfl⟩ := List.mem_iff_getElem.1 hx1;exact ⟨k, hk, rfl, by simpa using hx2⟩
theorem ahead_at {l : List S57} (hs : Sorted l) {k : Nat} (hk : k < l.length) : ahead l l[k].f0 = k := by
 have h1 : ¬ k < ahead l l[k].f0 := fun h => by have := (lt_ahead hs hk).2 h; omega
 by_cases h2 : ahead l l[k].f0 < k
 ·have h3 : ahead l l[k].f0 < l.length := by omega
  have h4 := List.pairwise_iff_getElem.1 hs _ _ h3 hk h2;have h5 := (lt_ahead hs h3).1 h4;omega
 ·omega
theorem isAt_at {l : List S57} {k : Nat} (hk : k < l.length) : isAt l l[k].f0 = true := List.any_eq_true.2 ⟨l[k], List.getElem_mem hk, by simp⟩
theorem asksOf_take {l : List S57} {ids : List Int} {i : Nat} (h : i < ids.length) : asksOf l (ids.take (i + 1)) = asksOf l (ids.take i) ++ (if asksB (l.getD (ahead l ids[i]) z57) then [(ahead l ids[i], (servStep (l.getD (ahead l ids[i]) z57)).f0)] else []) := by
 unfold asksOf;rw [List.take_succ_eq_append_getElem h, List.map_append, List.filterMap_append];congr 1;simp only [List.map_cons, List.map_nil, List.filterMap_cons, List.filterMap_nil];generalize asksB (l.getD (ahead l ids[i]) z57) = b
 cases b <;> rfl
theorem alloc_cell {w : World} {ad : Addr} {v : Value} (h : w.cell? ad = some v) (o : Obj) : (w.alloc o).cell? ad = some v := ((below_alloc (Below.refl _ w) o).cell (World.block_lt_of_cell? w _ h)).trans h
theorem job0 {w : World} {A : Option Addr} {j : S125} {r : List S125} (h : Kd.C k125 w A (j :: r).length (j :: r)) : ∃ ad A1 c1, A = some ad /\ w.cell? ad = some (.int .i64 j.f0) /\ w.cell? ⟨ad.block, ad.off + 1, none⟩ = some (.slice A1 j.f1.length c1) /\ w.cell? ⟨ad.block, ad.off + 2, none⟩ = some (.int .i64 j.f2) /\ w.cell? ⟨ad.block, ad.off + 3, none⟩ = some (.int .i64 j.f3) /\ j.f1.length <= c1 /\ Kd.C k72 w A1 j.f1.length j.f1 := by
 obtain ⟨ad, A1, c1, rfl, s0, s1, s2, s3, h1, h2⟩ := at_T125 h 0 (by omega) (by simp);exact ⟨ad, A1, c1, rfl, s0, s1, s2, s3, h1, h2⟩
theorem apart_keep {v v1 u : Value} {N N' : Nat} (h : ∀ k, v.ownBlock = some k -> some k ≠ u.ownBlock) (hu : ∀ k, u.ownBlock = some k -> k < N) (ha : v1.ownBlock = v.ownBlock \/ ∃ b, v1.ownBlock = some b /\ N' <= b) (hn : N <= N') : ∀ k, v1.ownBlock = some k -> some k ≠ u.ownBlock := by
 intro k hk e;rcases ha with ha | ⟨b, hb, hle⟩
 ·exact h k (by rw [<- ha]; exact hk) e
 ·have := hu k e.symm;rw [hb] at hk;injection hk with hk;omega
theorem apart_keep2 {v u u1 : Value} {N : Nat} (h : ∀ k, v.ownBlock = some k -> some k ≠ u.ownBlock) (hv : ∀ k, v.ownBlock = some k -> k < N) (ha : u1.ownBlock = u.ownBlock \/ ∃ b, u1.ownBlock = some b /\ N <= b) : ∀ k, v.ownBlock = some k -> some k ≠ u1.ownBlock := by
 intro k hk e;rcases ha with ha | ⟨b, hb, hle⟩
 ·exact h k hk (by rw [<- ha]; exact e)
 ·have := hv k hk;rw [hb] at e;injection e with e;omega
theorem asks_calls (M now : Int) (A : Option Addr) (l : List S57) (c : Nat) (A2 : Option Addr) (n2 c2 : Nat) (A3 : Option Addr) (c3 : Nat) (w : World) (hr : Kd.C k57 w A l.length l) (hs : Sane M l) (hok : RunOk l) (hlen : (runsL M l).length <= M.toNat) :
  Calls Tryz.prog 30 #[stV M now A l.length c A2 n2 c2 A3 c3] w fun e w' => ∃ A4 c4 A5 c5, e = .returned (.tuple #[.slice A4 (asksL M l).length c4, .slice A5 (asksL M l).length c5]) /\ (asksL M l).length <= c4 /\ (asksL M l).length <= c5 /\ (Kd.int .i64).C w' A4 (asksL M l).length ((asksL M l).map fun x => (x.1 : Int)) /\ (Kd.int .i64).C w' A5 (asksL M l).length ((asksL M l).map fun x => x.2) /\ (∀ ad, A4 = some ad -> w.heap.size <= ad.block) /\ (∀ ad, A5 = some ad -> w.heap.size <= ad.block) /\ Below w.heap.size w w' := by
 have HR := hZ hr;have HS := hZ hs.sorted;have HOK := hZ hok;have hl12 := hs.len;have D := fun wx (hb : Below w.heap.size w wx) => runs_calls M now A c l (.slice A2 n2 c2) A3 c3 wx (Kd.C_below hr hb) hs ⟨_, _, _, rfl⟩ hlen
 have DA := fun id wx (hb : Below w.heap.size w wx) => at_calls M now A c l (.slice A2 n2 c2) (.slice A3 0 c3) id wx (Kd.C_below hr hb) hs.sorted (by omega) ⟨_, _, _, rfl⟩ ⟨_, _, _, rfl⟩
 have hmem : ∀ id ∈ runsL M l, ∃ k, ∃ hk : k < l.length, l[k].f0 = id /\ l[k].f1.f4 = 1 := fun id h => runs_mem h
 have hpl : (runsL M l).length <= 12 := Nat.le_trans (pickL_le _ _) (Nat.le_trans (readyL_len l) hs.len);have HM := hZ hmem;clear hr hs hok hlen hmem;have HB0 : Hid (Below w.heap.size w (w.alloc (.cells #[.int .i64 M, .int .i64 now, .slice A l.length c, .slice A2 n2 c2, .slice A3 0 c3] 47))) := hZ (below_alloc (Below.refl _ _) _);have HX0 : Hid ((w.alloc (.cells #[.int .i64 M, .int .i64 now, .slice A l.length c, .slice A2 n2 c2, .slice A3 0 c3] 47)).heap[w.heap.size]? = some (.cells #[.int .i64 M, .int .i64 now, .slice A l.length c, .slice A2 n2 c2, .slice A3 0 c3] 47 (0, 0))) := hZ (blk_new _ _);unfold stV asksL;generalize runsL M l = ids at *;go_enter Tryz.func30, Tryz.ntmps30
 go_wp2_with (go_at_call 57; (with_reducible refine (D _ HB0.out).mono ?_); rintro e w1 ⟨A6, c6, rfl, hc6, hC6, _, hB1⟩; have HC6 := hZ hC6; have HX1 := hZ (blk_below HX0.out hB1); have HB1 := hZ (HB0.out.trans (hB1.mono HB0.out.size)); clear hC6 hB1)
 clear HB0 HX0
 go_loopw [2, 3, 20] (fun v2 v3 v20 wr => ∃ (i : Nat), v20 = .int .i64 i /\ i <= ids.length /\ Hid ((Kd.int .i64).R 3 wr w1.heap.size (fun _ => True) v2 ((asksOf l (ids.take i)).map fun x => (x.1 : Int))) /\ Hid ((Kd.int .i64).R 3 wr w1.heap.size (fun _ => True) v3 ((asksOf l (ids.take i)).map fun x => x.2)) /\ Hid (∀ k, v2.ownBlock = some k -> some k ≠ v3.ownBlock) /\ Hid (Below w1.heap.size w1 wr)) (fun _ _ v20 _ => ids.length - (intOf v20).toNat)
 case atStart => exact ⟨0, rfl, Nat.zero_le _, hZ (Kd.R_nil _ _ _ _ _), hZ (Kd.R_nil _ _ _ _ _), hZ (fun k hk => by simp [Value.ownBlock] at hk), hZ (Below.refl _ _)⟩
 case round =>
  obtain ⟨i, rfl, hi, HO2, HO3, HNE, HB⟩ := hrel;by_cases hlt : i < ids.length
  ·obtain ⟨ad6, rfl, b0⟩ := int_at HC6.out hlt;have e0 := (HB.out.cell (World.block_lt_of_cell? w1 _ b0)).trans b0;have hxb := (HB.out.block w.heap.size (by exact (blk_lt HX1.out))).trans HX1.out;have q0 := (blk_cell hxb 0).trans rfl;have q1 := (blk_cell hxb 1).trans rfl;have q2 := (blk_cell hxb 2).trans rfl;have q3 := (blk_cell hxb 3).trans rfl;have q4 := (blk_cell hxb 4).trans rfl;obtain ⟨k, hk, hk1, hk2⟩ := HM.out _ (List.getElem_mem hlt);have HTK := hZ (asksOf_take (l := l) hlt);have hal : ahead l ids[i] = k := by rw [<- hk1]; exact ahead_at HS.out hk
   have hia : isAt l ids[i] = true := by rw [<- hk1]; exact isAt_at hk
   obtain ⟨j, jr, hj1, hj2⟩ := HOK.out k hk hk2;have hgd : l.getD k z57 = l[k] := by simp [hk]
   have HBW := hZ (HB1.out.trans (HB.out.mono HB1.out.size));have DA := fun wx hb => DA ids[i] wx hb
   rw [hal, hgd] at HTK;rw [hal, hia] at DA
   have hsl : (asksOf l (ids.take i)).length <= 12 := by
    unfold asksOf;refine Nat.le_trans (List.length_filterMap_le _ _) ?_;rw [List.length_map, List.length_take];omega
   have DJ := fun A c wx h => jstep_calls j A c wx h hj2
   have HJ : Hid (servStep l[k] = stepOf j) := hZ (by unfold servStep; rw [hj1]; rfl);generalize hid : ids[i] = id at *;have HXB := hZ hxb;have DC := fun wx (hb : Below w.heap.size w wx) => cells57 (Kd.C_below HR.out hb) hk
   generalize hx : l[k] = x at *;clear hx;clear hid b0 hxb hk1 hk2 hal hia hgd hj2;generalize stepOf j = sp at *;obtain ⟨sm, sn⟩ := sp;have HTK2 : Hid (asksOf l (ids.take (i + 1)) = asksOf l (ids.take i) ++ (if (decide (0 < sm) && (x.f3 == 0)) = true then [(k, sm)] else [])) := hZ (by rw [HTK.out]; unfold asksB; rw [HJ.out]);clear HTK HJ;by_cases hsm : 0 < sm
   ·by_cases hf3 : x.f3 = 0
    ·have HTK3 : Hid (asksOf l (ids.take (i + 1)) = asksOf l (ids.take i) ++ [(k, sm)]) := hZ (by rw [HTK2.out, if_pos (by simp [hsm, hf3])]);clear HTK2
     go_wp2_with (first
    | (go_at_call 32; (with_reducible refine (DA _ HBW.out).mono ?_); rintro e w2 ⟨rfl, hB2⟩; have p2 : w2.cell? ⟨w.heap.size, 2, none⟩ = some (.slice A l.length c) := (blk_cell (blk_below HXB.out hB2) 2).trans rfl; have HB2 := hZ (HB.out.trans (hB2.mono HB.out.size)); have HBX := hZ (HBW.out.trans (hB2.mono HBW.out.size)); have HR2 := hZ (Kd.R_below HO2.out hB2); have HR3 := hZ (Kd.R_below HO3.out hB2); obtain ⟨ad, J, cJ, rfl, hC⟩ := DC w2 HBX.out; obtain ⟨r0, r1, r2, r3, r4, r5, r6, r7, r8, r9, r10, hjc, hjobs⟩ := hC; rw [hj1] at r6 hjobs; obtain ⟨ad5, A7, c7, rfl, s0, s1, s2, s3, hpl7, hpr7⟩ := job0 hjobs; have t0 := fun o => alloc_cell s0 o; have t1 := fun o => alloc_cell s1 o; have t2 := fun o => alloc_cell s2 o; have t3 := fun o => alloc_cell s3 o; have HPR := hZ hpr7; clear hB2 q0 q1 q2 q3 q4 hjobs hpr7 hpl7 s0 s1 s2 s3)
    | (go_at_call 58; (with_reducible refine (DJ _ _ _ (Kd.C_below HPR.out (below_alloc (Below.refl _ _) _))).mono ?_); rintro e w3 ⟨rfl, hB3⟩; have hbs := blk_below (blk_new w2 _) hB3; have f7 := fun o => alloc_cell ((blk_cell hbs 7).trans rfl) o; have HB3 := hZ ((below_alloc HB2.out _).trans (hB3.mono (below_alloc HB2.out _).size)); have HR23 := hZ (Kd.R_below (Kd.R_alloc HR2.out _) hB3); have HR33 := hZ (Kd.R_below (Kd.R_alloc HR3.out _) hB3); clear hB3 hbs)
    | ((with_reducible refine gate_builtin (b := .append) (xs := #[.tmp 54, .tmp 56]) rfl ?_); at_builtin; refine Kd.R_append (Kd.int .i64) (w0 := w1) w1.heap.size rfl (.tmp 54) (.tmp 56) 61 3 (.int .i64 0) 8 rfl Tryz.underlying61 info3 rfl (by decide) (by omega) _ ((asksOf l (ids.take i)).map fun x => (x.1 : Int)) (k : Int) [.int .i64 k] (fun _ => True) (fun _ => False) rfl (by first | (go_simp; done) | (go_simp; rfl)) ?aP (fun _ hk => hk.elim) ?aF ?aO ?aB ?aS ?aL ?_; (case aP => exact rfl); (case aF => exact (fun _ _ => trivial)); (case aO => exact Kd.R_alloc HR23.out _); (case aB => exact below_alloc HB3.out _); (case aS => exact (below_alloc HB3.out _).size); (case aL => (simp only [List.length_map]; omega)); intro v5 w5 hR5 hB5 hg5 hat5; have hne2 := HNE.out; have hlt2 := Kd.R_lt HR23.out; have hlt3 := Kd.R_lt HR33.out; have HR5 := hZ hR5; have HB5 := hZ hB5; have HR35 := hZ (Kd.R_grown2 (Kd.R_alloc HR33.out (.cells #[.int .i64 sm, .int .i64 sn] 72)) rfl hg5 hne2); have HNE5 := hZ (apart_keep hne2 hlt3 hat5 (by simp)); have s5 := (blk_cell (blk_grown (blk_new w3 (.cells #[.int .i64 sm, .int .i64 sn] 72 (0, 0))) hg5 (fun e => by have := hlt2 _ e.symm; omega)) 0).trans rfl; clear hR5 hB5 hg5 hat5 hne2 hlt2 hlt3)
    | ((with_reducible refine gate_builtin (b := .append) (xs := #[.tmp 58, .tmp 61]) rfl ?_); at_builtin; refine Kd.R_append (Kd.int .i64) (w0 := w1) w1.heap.size rfl (.tmp 58) (.tmp 61) 61 3 (.int .i64 0) 8 rfl Tryz.underlying61 info3 rfl (by decide) (by omega) _ ((asksOf l (ids.take i)).map fun x => x.2) sm [.int .i64 sm] (fun _ => True) (fun _ => False) rfl (by first | (go_simp; done) | (go_simp; rfl)) ?aP (fun _ hk => hk.elim) ?aF ?aO ?aB ?aS ?aL ?_; (case aP => exact rfl); (case aF => exact (fun _ _ => trivial)); (case aO => exact HR35.out); (case aB => exact HB5.out); (case aS => exact HB5.out.size); (case aL => (simp only [List.length_map]; omega)); intro v6 w6 hR6 hB6 hg6 hat6; have HR6 := hZ hR6; have HB6 := hZ hB6; have HR56 := hZ (Kd.R_grown2 HR5.out rfl hg6 (fun k hk e => HNE5.out k e.symm hk.symm)); have HNE6 := hZ (apart_keep2 HNE5.out (Kd.R_lt HR5.out) hat6); clear hR6 hB6 hg6 hat6))
     go_roundw
     case rel => exact ⟨i + 1, by go_num, by omega, hZ (by rw [HTK3.out, List.map_append]; exact HR56.out), hZ (by rw [HTK3.out, List.map_append]; exact HR6.out), HNE6, HB6⟩
     case measure => first | (simp [intOf]; done) | (simp [intOf]; omega)
    ·have HTK3 : Hid (asksOf l (ids.take (i + 1)) = asksOf l (ids.take i)) := hZ (by rw [HTK2.out, if_neg (by simp [hsm, hf3]), List.append_nil]);have hf3b : (x.f3 == 0) = false := by simpa using hf3
     clear HTK2 hf3
     go_wp2_with (first
    | (go_at_call 32; (with_reducible refine (DA _ HBW.out).mono ?_); rintro e w2 ⟨rfl, hB2⟩; have p2 : w2.cell? ⟨w.heap.size, 2, none⟩ = some (.slice A l.length c) := (blk_cell (blk_below HXB.out hB2) 2).trans rfl; have HB2 := hZ (HB.out.trans (hB2.mono HB.out.size)); have HBX := hZ (HBW.out.trans (hB2.mono HBW.out.size)); have HR2 := hZ (Kd.R_below HO2.out hB2); have HR3 := hZ (Kd.R_below HO3.out hB2); obtain ⟨ad, J, cJ, rfl, hC⟩ := DC w2 HBX.out; obtain ⟨r0, r1, r2, r3, r4, r5, r6, r7, r8, r9, r10, hjc, hjobs⟩ := hC; rw [hj1] at r6 hjobs; obtain ⟨ad5, A7, c7, rfl, s0, s1, s2, s3, hpl7, hpr7⟩ := job0 hjobs; have t0 := fun o => alloc_cell s0 o; have t1 := fun o => alloc_cell s1 o; have t2 := fun o => alloc_cell s2 o; have t3 := fun o => alloc_cell s3 o; have HPR := hZ hpr7; clear hB2 q0 q1 q2 q3 q4 hjobs hpr7 hpl7 s0 s1 s2 s3)
    | (go_at_call 58; (with_reducible refine (DJ _ _ _ (Kd.C_below HPR.out (below_alloc (Below.refl _ _) _))).mono ?_); rintro e w3 ⟨rfl, hB3⟩; have hbs := blk_below (blk_new w2 _) hB3; have f7 := fun o => alloc_cell ((blk_cell hbs 7).trans rfl) o; have HB3 := hZ ((below_alloc HB2.out _).trans (hB3.mono (below_alloc HB2.out _).size)); have HR23 := hZ (Kd.R_below (Kd.R_alloc HR2.out _) hB3); have HR33 := hZ (Kd.R_below (Kd.R_alloc HR3.out _) hB3); clear hB3 hbs))
     go_roundw
     case rel => exact ⟨i + 1, by go_num, by omega, hZ (by rw [HTK3.out]; exact Kd.R_alloc HR23.out _), hZ (by rw [HTK3.out]; exact Kd.R_alloc HR33.out _), HNE, hZ (below_alloc HB3.out _)⟩
     case measure => first | (simp [intOf]; done) | (simp [intOf]; omega)
   ·have HTK3 : Hid (asksOf l (ids.take (i + 1)) = asksOf l (ids.take i)) := hZ (by rw [HTK2.out, if_neg (by simp [hsm]), List.append_nil]);have hsmb : decide (0 < sm) = false := by simpa using hsm
    have hsml : sm <= 0 := by omega
    clear HTK2 hsm
    go_wp2_with (first
    | (go_at_call 32; (with_reducible refine (DA _ HBW.out).mono ?_); rintro e w2 ⟨rfl, hB2⟩; have p2 : w2.cell? ⟨w.heap.size, 2, none⟩ = some (.slice A l.length c) := (blk_cell (blk_below HXB.out hB2) 2).trans rfl; have HB2 := hZ (HB.out.trans (hB2.mono HB.out.size)); have HBX := hZ (HBW.out.trans (hB2.mono HBW.out.size)); have HR2 := hZ (Kd.R_below HO2.out hB2); have HR3 := hZ (Kd.R_below HO3.out hB2); obtain ⟨ad, J, cJ, rfl, hC⟩ := DC w2 HBX.out; obtain ⟨r0, r1, r2, r3, r4, r5, r6, r7, r8, r9, r10, hjc, hjobs⟩ := hC; rw [hj1] at r6 hjobs; obtain ⟨ad5, A7, c7, rfl, s0, s1, s2, s3, hpl7, hpr7⟩ := job0 hjobs; have t0 := fun o => alloc_cell s0 o; have t1 := fun o => alloc_cell s1 o; have t2 := fun o => alloc_cell s2 o; have t3 := fun o => alloc_cell s3 o; have HPR := hZ hpr7; clear hB2 q0 q1 q2 q3 q4 hjobs hpr7 hpl7 s0 s1 s2 s3)
    | (go_at_call 58; (with_reducible refine (DJ _ _ _ (Kd.C_below HPR.out (below_alloc (Below.refl _ _) _))).mono ?_); rintro e w3 ⟨rfl, hB3⟩; have hbs := blk_below (blk_new w2 _) hB3; have f7 := fun o => alloc_cell ((blk_cell hbs 7).trans rfl) o; have HB3 := hZ ((below_alloc HB2.out _).trans (hB3.mono (below_alloc HB2.out _).size)); have HR23 := hZ (Kd.R_below (Kd.R_alloc HR2.out _) hB3); have HR33 := hZ (Kd.R_below (Kd.R_alloc HR3.out _) hB3); clear hB3 hbs))
    go_roundw
    case rel => exact ⟨i + 1, by go_num, by omega, hZ (by rw [HTK3.out]; exact Kd.R_alloc HR23.out _), hZ (by rw [HTK3.out]; exact Kd.R_alloc HR33.out _), HNE, hZ (below_alloc HB3.out _)⟩
    case measure => first | (simp [intOf]; done) | (simp [intOf]; omega)
  ·have hie : i = ids.length := by omega
   subst hie;rw [List.take_length] at HO2 HO3;have hba2 := Kd.R_base HO2.out;have hba3 := Kd.R_base HO3.out;obtain ⟨A8, c8, e8, hc8, hC8⟩ := Kd.R_reads HO2.out;obtain ⟨A9, c9, e9, hc9, hC9⟩ := Kd.R_reads HO3.out;rw [List.length_map] at e8 hc8 hC8 e9 hc9 hC9;subst e8 e9;have HC8 := hZ hC8;have HC9 := hZ hC9;clear hC8 hC9;go_wp2;go_ret2;exact ⟨A8, c8, A9, c9, rfl, hc8, hc9, HC8.out, HC9.out, (fun ad e => by subst e; exact Nat.le_trans HB1.out.size (hba2 ad.block rfl)), (fun ad e => by subst e; exact Nat.le_trans HB1.out.size (hba3 ad.block rfl)), HB1.out.trans (HB.out.mono HB1.out.size)⟩
abbrev Ref := Option Addr × Nat
def ob (p : Ref) : Option Nat := p.1.map (·.block)
def upd (r : Nat -> Ref) (i : Nat) (p : Ref) : Nat -> Ref := fun k => if k = i then p else r k
theorem upd_self (r : Nat -> Ref) (i : Nat) (p : Ref) : upd r i p i = p := by simp [upd]
theorem upd_ne (r : Nat -> Ref) {i k : Nat} (p : Ref) (h : k ≠ i) : upd r i p k = r k := by simp [upd, h]
theorem upd_same (r : Nat -> Ref) (i : Nat) : upd r i (r i) = r := by
 funext k;by_cases h : k = i
 ·subst h; exact upd_self _ _ _
 ·exact upd_ne _ _ h
def servRow (x : S57) (p : Ref) : List Value := [.int .i64 x.f0, .int .i64 x.f1.f0, .int .i64 x.f1.f1, .int .i64 x.f1.f2, .int .i64 x.f1.f3, .int .i64 x.f1.f4, .slice p.1 x.f2.length p.2, .int .i64 x.f3, .int .i64 x.f4, .int .i64 x.f5, .int .i64 x.f6]
def lockRow (x : S63) (p : Ref) : List Value := [.int .i64 x.f0, .int .i64 x.f1, .slice p.1 x.f2.length p.2, .bool x.f3]
def jobRow (j : S125) (p : Ref) : List Value := [.int .i64 j.f0, .slice p.1 j.f1.length p.2, .int .i64 j.f2, .int .i64 j.f3]
def rowsOf {α : Type} (f : α -> Ref -> List Value) (l : List α) (r : Nat -> Ref) : List (List Value) := l.mapIdx fun i x => f x (r i)
theorem rowsOf_len {α : Type} {f : α -> Ref -> List Value} {l : List α} {r : Nat -> Ref} : (rowsOf f l r).length = l.length := by simp [rowsOf]
theorem rowsOf_get {α : Type} {f : α -> Ref -> List Value} {l : List α} {r : Nat -> Ref} {i : Nat} (h : i < l.length) {hh : i < (rowsOf f l r).length} : (rowsOf f l r)[i] = f l[i] (r i) := by simp [rowsOf]
theorem rowsOf_set {α : Type} {f : α -> Ref -> List Value} {l : List α} {r : Nat -> Ref} {i : Nat} {x : α} {p : Ref} : rowsOf f (l.set i x) (upd r i p) = (rowsOf f l r).set i (f x p) := by
 apply List.ext_getElem
 ·simp [rowsOf]
 ·intro k h1 h2;have hk : k < l.length := by simpa [rowsOf] using h1
  rw [rowsOf_get (by simpa using hk), List.getElem_set, List.getElem_set];by_cases e : i = k
  ·subst e; simp [upd_self]
  ·rw [if_neg e, if_neg e, upd_ne _ _ (fun h => e h.symm), rowsOf_get hk]
theorem rowsOf_set_same {α : Type} {f : α -> Ref -> List Value} {l : List α} {r : Nat -> Ref} {i : Nat} {x : α} : rowsOf f (l.set i x) r = (rowsOf f l r).set i (f x (r i)) := by
 conv => lhs; rw [<- upd_same r i]
 exact rowsOf_set
theorem rowsOf_congr {α : Type} {f : α -> Ref -> List Value} {l : List α} {r r' : Nat -> Ref} (h : ∀ i, i < l.length -> r i = r' i) : rowsOf f l r = rowsOf f l r' := by
 apply List.ext_getElem
 ·simp [rowsOf]
 ·intro k h1 h2;have hk : k < l.length := by simpa [rowsOf] using h1
  rw [rowsOf_get hk, rowsOf_get hk, h k hk]
theorem addr_at (g o k : Nat) : (⟨g, o, none⟩ : Addr).add k = ⟨g, o + k, none⟩ := by
 cases k with
 | zero => rfl
 | succ k => simp [Addr.add]
theorem RowAt.kd {α : Type} {d : Kd α} {w : World} {g o : Nat} {T : TypeId} {rows : List (List Value)} {xs : List α} (h : RowAt w g o d.sz T rows) (hl : rows.length = xs.length) (hm : xs.length <= 9223372036854775807) (hK : ∀ i (h1 : i < xs.length) (h2 : i < rows.length), d.K w xs[i] rows[i]) : d.C w (some ⟨g, o, none⟩) xs.length xs := by
 refine ⟨rfl, hm, fun _ => ⟨_, rfl, fun j p hp => ?_⟩⟩;obtain ⟨hj, rfl⟩ := List.getElem?_eq_some_iff.mp hp;have hj2 : j < rows.length := by omega
 have hlen := h.1 _ (List.getElem_mem hj2);refine ⟨rows[j], hlen, hK j hj hj2, fun i u hu => ?_⟩;have hi : i < d.sz := by rw [<- hlen]; exact (List.getElem?_eq_some_iff.mp hu).1
 rw [addr_at, <- Nat.add_assoc];exact h.cell hj2 hi hu
theorem C_nil' {α : Type} (d : Kd α) (w : World) (A : Option Addr) : d.C w A 0 [] := ⟨rfl, by simp, fun h => absurd h (Nat.lt_irrefl 0)⟩
inductive Code where
 | g
 | h
 | j (i : Nat)
 | q (i : Nat)
structure OwnR where
 A : Option Addr
 c : Nat
 A2 : Option Addr
 c2 : Nat
 r : Nat -> Ref
 s : Nat -> Ref
def OwnR.own (o : OwnR) : Code -> Option Nat
 | .g => o.A.map (·.block)
 | .h => o.A2.map (·.block)
 | .j i => ob (o.r i)
 | .q i => ob (o.s i)
structure Bd where
 n : Nat
 G : Nat -> Prop
 lt : ∀ b, G b -> b < n
instance : Coe Bd Nat := ⟨Bd.n⟩
def Progs (w : World) (B : Bd) (x : List S125) (rr : Nat -> Ref) : Prop := ∀ k (h : k < x.length), x[k].f1.length <= (rr k).2 /\ Kd.F k72 w B.G (rr k).1 x[k].f1.length x[k].f1
structure JobsAt (w : World) (B : Bd) (x : List S125) (p : Ref) : Prop where
 cap : x.length <= p.2
 max : x.length <= 100000
 row : x ≠ [] -> ∃ b o rr, p.1 = some ⟨b, o, none⟩ /\ RowAt w b o 4 125 (rowsOf jobRow x rr) /\ Progs w B x rr
structure Own (w : World) (B : Bd) (l : List S57) (q : List S63) (o : OwnR) : Prop where
 max : l.length <= 100000 /\ q.length <= 100000
 cap : l.length <= o.c /\ q.length <= o.c2
 row : l ≠ [] -> ∃ g, o.A = some ⟨g, 0, none⟩ /\ RowAt w g 0 11 57 (rowsOf servRow l o.r)
 lok : q ≠ [] -> ∃ g, o.A2 = some ⟨g, 0, none⟩ /\ RowAt w g 0 4 63 (rowsOf lockRow q o.s)
 jobs : ∀ i (h : i < l.length), JobsAt w B l[i].f2 (o.r i)
 que : ∀ i (h : i < q.length), q[i].f2.length <= (o.s i).2 /\ Kd.F (Kd.int .i64) w (fun b => o.own (.q i) = some b) (o.s i).1 q[i].f2.length q[i].f2
 apart : ∀ c d b, o.own c = some b -> o.own d = some b -> c = d
 bnd : ∀ c b, o.own c = some b -> B <= b /\ b < w.heap.size
 old : B <= w.heap.size
theorem JobsAt.C {w : World} {B : Bd} {x : List S125} {p : Ref} (h : JobsAt w B x p) : Kd.C k125 w p.1 x.length x := by
 by_cases hx : x = []
 ·subst hx; exact C_nil' _ _ _
 ·obtain ⟨b, o, rr, e, hr, hp⟩ := h.row hx;rw [e];refine RowAt.kd (d := k125) hr rowsOf_len (by have := h.max; omega) (fun i h1 h2 => ?_);rw [rowsOf_get h1];obtain ⟨h3, h4⟩ := hp i h1;exact k125_mk w x[i] h3 (h4 w (fun _ _ _ => rfl))
theorem Own.reads {w : World} {B : Bd} {l : List S57} {q : List S63} {o : OwnR} (h : Own w B l q o) : Kd.C k57 w o.A l.length l := by
 by_cases hx : l = []
 ·subst hx; exact C_nil' _ _ _
 ·obtain ⟨g, e, hr⟩ := h.row hx;rw [e];refine RowAt.kd (d := k57) hr rowsOf_len (by have := h.max; omega) (fun i h1 h2 => ?_);rw [rowsOf_get h1];exact k57_mk w l[i] (h.jobs i h1).cap (h.jobs i h1).C
theorem Own.readsL {w : World} {B : Bd} {l : List S57} {q : List S63} {o : OwnR} (h : Own w B l q o) : Kd.C k63 w o.A2 q.length q := by
 by_cases hx : q = []
 ·subst hx; exact C_nil' _ _ _
 ·obtain ⟨g, e, hr⟩ := h.lok hx;rw [e];refine RowAt.kd (d := k63) hr rowsOf_len (by have := h.max; omega) (fun i h1 h2 => ?_);rw [rowsOf_get h1];exact k63_mk w q[i] (h.que i h1).1 ((h.que i h1).2 w (fun _ _ _ => rfl))
theorem JobsAt.keep {w w' : World} {B : Bd} {x : List S125} {p : Ref} {S : Nat -> Prop} (h : JobsAt w B x p) (ht : Turn w w' S) (hB : ∀ b, S b -> B <= b) (hold : B <= w.heap.size) (hp : ∀ b, ob p = some b -> ¬ S b) : JobsAt w' B x p := by
 refine ⟨h.cap, h.max, fun hx => ?_⟩;obtain ⟨b, o, rr, e, hr, hpr⟩ := h.row hx;refine ⟨b, o, rr, e, hr.turn ht (hp b (by rw [ob, e]; rfl)), fun k hk => ⟨(hpr k hk).1, fun W' hW => (hpr k hk).2 W' (fun k2 hk2 hlt => ?_)⟩⟩;rw [hW k2 hk2 (Nat.lt_of_lt_of_le hlt ht.size)];exact ht.block k2 hlt (fun hs => by have := hB k2 hs; have := B.lt k2 hk2; omega)
theorem Own.keep {w w' : World} {B : Bd} {l : List S57} {q : List S63} {o : OwnR} {S : Nat -> Prop} (h : Own w B l q o) (ht : Turn w w' S) (hB : ∀ b, S b -> B <= b) (hS : ∀ c b, o.own c = some b -> ¬ S b) : Own w' B l q o where
 max := h.max
 cap := h.cap
 row := fun hx => by
  obtain ⟨g, e, hr⟩ := h.row hx;exact ⟨g, e, hr.turn ht (hS .g g (by show o.A.map _ = _; rw [e]; rfl))⟩
 lok := fun hx => by
  obtain ⟨g, e, hr⟩ := h.lok hx;exact ⟨g, e, hr.turn ht (hS .h g (by show o.A2.map _ = _; rw [e]; rfl))⟩
 jobs := fun i hi => (h.jobs i hi).keep ht hB h.old (fun b hb => hS (.j i) b hb)
 que := fun i hi => ⟨(h.que i hi).1, fun W' hW => (h.que i hi).2 W' (fun b hb hlt => by rw [hW b hb (Nat.lt_of_lt_of_le hlt ht.size)]; exact ht.block b hlt (hS _ _ hb))⟩
 apart := h.apart
 bnd := fun c b hb => ⟨(h.bnd c b hb).1, Nat.lt_of_lt_of_le (h.bnd c b hb).2 ht.size⟩
 old := Nat.le_trans h.old ht.size
theorem Own.below {w w' : World} {B : Bd} {l : List S57} {q : List S63} {o : OwnR} (h : Own w B l q o) (hb : Below w.heap.size w w') : Own w' B l q o :=
 h.keep (Turn.of_below (fun _ => False) hb) (fun _ h => h.elim) (fun _ _ _ h => h)
theorem mem_set_get {α : Type} {l : List α} {i k : Nat} {x : α} (h : k < (l.set i x).length) : (l.set i x)[k] = if i = k then x else l[k]'(by simpa using h) := by rw [List.getElem_set]
theorem Own.serv {w w' : World} {B : Bd} {l : List S57} {q : List S63} {o : OwnR} {i : Nat} (h : Own w B l q o) (hi : i < l.length) (x : S57) (p : Ref) {g : Nat} (hg : o.A = some ⟨g, 0, none⟩) (ht : Turn w w' (fun b => b = g)) (hr : RowAt w' g 0 11 57 ((rowsOf servRow l o.r).set i (servRow x p))) (hj : JobsAt w' B x.f2 p) (hp : ∀ b, ob p = some b -> ob (o.r i) = some b) : Own w' B (l.set i x) q { o with r := upd o.r i p } := by
 have hgo : o.own .g = some g := by show o.A.map _ = _; rw [hg]; rfl
 have hgB := (h.bnd .g g hgo).1
 have hown : ∀ c b, ({ o with r := upd o.r i p } : OwnR).own c = some b -> o.own c = some b := by
  intro c b hb
  cases c with
  | g => exact hb
  | h => exact hb
  | q k => exact hb
  | j k =>
   change ob (upd o.r i p k) = some b at hb;show ob (o.r k) = some b;by_cases e : k = i
   ·subst e; rw [upd_self] at hb; exact hp b hb
   ·rwa [upd_ne _ _ e] at hb
 have hne : ∀ c b, c ≠ .g -> o.own c = some b -> b ≠ g := fun c b hc hb e => hc (h.apart c .g b hb (by rw [e]; exact hgo))
 refine ⟨by rw [List.length_set]; exact h.max, by rw [List.length_set]; exact h.cap, fun hx => ⟨g, hg, by rw [rowsOf_set]; exact hr⟩, fun hx => ?_, fun k hk => ?_, fun k hk => ?_, fun c d b hc hd => h.apart c d b (hown c b hc) (hown d b hd), fun c b hb => ⟨(h.bnd c b (hown c b hb)).1, Nat.lt_of_lt_of_le (h.bnd c b (hown c b hb)).2 ht.size⟩, Nat.le_trans h.old ht.size⟩
 ·obtain ⟨g2, e, hr2⟩ := h.lok hx;exact ⟨g2, e, hr2.turn ht (hne .h g2 (by simp) (by show o.A2.map _ = _; rw [e]; rfl))⟩
 ·have hk2 : k < l.length := by simpa using hk
  show JobsAt w' B (l.set i x)[k].f2 (upd o.r i p k);rw [mem_set_get];by_cases e : i = k
  ·subst e; rw [if_pos rfl, upd_self]; exact hj
  ·rw [if_neg e, upd_ne _ _ (fun h => e h.symm)];exact (h.jobs k hk2).keep ht (fun b hb => by rw [hb]; exact hgB) h.old (fun b hb => hne (.j k) b (by simp) hb)
 ·exact ⟨(h.que k hk).1, fun W' hW => (h.que k hk).2 W' (fun b hb hlt => by rw [hW b hb (Nat.lt_of_lt_of_le hlt ht.size)]; exact ht.block b hlt (hne _ b (by simp) hb))⟩
theorem Own.job {w w' : World} {B : Bd} {l : List S57} {q : List S63} {o : OwnR} {i : Nat} (h : Own w B l q o) (hi : i < l.length) {j j' : S125} {js : List S125} (hx : l[i].f2 = j :: js) (hf : j'.f1 = j.f1) {b oo : Nat} {rr : Nat -> Ref} (hb : (o.r i).1 = some ⟨b, oo, none⟩) (hp : Progs w B (j :: js) rr) (ht : Turn w w' (fun k => k = b)) (hr : RowAt w' b oo 4 125 ((rowsOf jobRow (j :: js) rr).set 0 (jobRow j' (rr 0)))) : Own w' B (l.set i { l[i] with f2 := j' :: js }) q o := by
 have hbo : o.own (.j i) = some b := by show ob (o.r i) = _; rw [ob, hb]; rfl
 have hbB := (h.bnd _ b hbo).1;have hne : ∀ c b2, c ≠ .j i -> o.own c = some b2 -> b2 ≠ b := fun c b2 hc hb2 e => hc (h.apart c (.j i) b2 hb2 (by rw [e]; exact hbo))
 refine ⟨by rw [List.length_set]; exact h.max, by rw [List.length_set]; exact h.cap, fun hl => ?_, fun hq => ?_, fun k hk => ?_, fun k hk => ?_, h.apart, fun c b hb => ⟨(h.bnd c b hb).1, Nat.lt_of_lt_of_le (h.bnd c b hb).2 ht.size⟩, Nat.le_trans h.old ht.size⟩
 ·obtain ⟨g, e, hr2⟩ := h.row (by intro e; rw [e] at hi; simp at hi);refine ⟨g, e, ?_⟩
  have e2 : rowsOf servRow (l.set i { l[i] with f2 := j' :: js }) o.r = rowsOf servRow l o.r := by
   rw [rowsOf_set_same];apply List.ext_getElem
   ·simp
   ·intro k h1 h2;rw [List.getElem_set];by_cases e : i = k
    ·subst e;rw [if_pos rfl, rowsOf_get hi];unfold servRow;rw [hx];rfl
    ·rw [if_neg e]
  rw [e2];exact hr2.turn ht (hne .g g (by simp) (by show o.A.map _ = _; rw [e]; rfl))
 ·obtain ⟨g2, e, hr2⟩ := h.lok hq;exact ⟨g2, e, hr2.turn ht (hne .h g2 (by simp) (by show o.A2.map _ = _; rw [e]; rfl))⟩
 ·have hk2 : k < l.length := by simpa using hk
  rw [mem_set_get];by_cases e : i = k
  ·subst e;rw [if_pos rfl];have h0 := h.jobs i hi;rw [hx] at h0;refine ⟨by have := h0.cap; simpa using this, by have := h0.max; simpa using this, fun _ => ⟨b, oo, rr, hb, ?_, ?_⟩⟩
   ·have e3 : rowsOf jobRow (j' :: js) rr = (rowsOf jobRow (j :: js) rr).set 0 (jobRow j' (rr 0)) := by
     rw [<- rowsOf_set_same]; rfl
    show RowAt w' b oo 4 125 (rowsOf jobRow (j' :: js) rr);rw [e3]; exact hr
   ·intro k hk;have hk' : k < (j :: js).length := by simpa using hk
    have e4 : ({ l[i] with f2 := j' :: js } : S57).f2[k].f1 = (j :: js)[k].f1 := by
     cases k with
     | zero => exact hf
     | succ k => rfl
    rw [e4];refine ⟨(hp k hk').1, fun W' hW => (hp k hk').2 W' (fun b2 hb2 hlt => ?_)⟩;rw [hW b2 hb2 (Nat.lt_of_lt_of_le hlt ht.size)];exact ht.block b2 hlt (fun e => by have := B.lt b2 hb2; omega)
  ·rw [if_neg e];exact (h.jobs k hk2).keep ht (fun b2 hb2 => by rw [hb2]; exact hbB) h.old (fun b2 hb2 => hne (.j k) b2 (by intro e2; injection e2 with e2; exact e e2.symm) hb2)
 ·exact ⟨(h.que k hk).1, fun W' hW => (h.que k hk).2 W' (fun b2 hb2 hlt => by rw [hW b2 hb2 (Nat.lt_of_lt_of_le hlt ht.size)]; exact ht.block b2 hlt (hne _ b2 (by simp) hb2))⟩
theorem raw_of_C {α : Type} {d : Kd α} {sz : Nat} (hsz : d.sz = sz) (f : α -> Ref -> List Value) {P : α -> Ref -> Prop} {w : World} {A : Option Addr} {xs : List α} (h : d.C w A xs.length xs) (ho : ∀ x cs, d.K w x cs -> ∃ p, cs = f x p /\ P x p) : ∃ r, (Kd.raw sz).C w A xs.length (rowsOf f xs r) /\ ∀ i (hi : i < xs.length), P xs[i] (r i) := by
 subst hsz;by_cases h0 : xs = []
 ·subst h0;exact ⟨fun _ => (none, 0), C_nil' _ _ _, fun i hi => absurd hi (by simp)⟩
 ·have hpos : 0 < xs.length := List.length_pos_iff.2 h0;obtain ⟨ad, rfl, hc⟩ := h.2.2 hpos
  have hall : ∀ i, ∃ p : Ref, ∀ (hi : i < xs.length), ((f xs[i] p).length = d.sz /\ (∀ u ∈ f xs[i] p, u.oneCell' = true) /\ ∀ j u, (f xs[i] p)[j]? = some u -> w.cell? (ad.add (i * d.sz + j)) = some u) /\ P xs[i] p := by
   intro i;by_cases hi : i < xs.length
   ·obtain ⟨cs, hl, hK, hcell⟩ := hc i _ (List.getElem?_eq_getElem hi);obtain ⟨p, rfl, hP⟩ := ho _ _ hK;exact ⟨p, fun _ => ⟨⟨hl, d.K_one hK, hcell⟩, hP⟩⟩
   ·exact ⟨(none, 0), fun h => absurd h hi⟩
  refine ⟨fun i => Classical.choose (hall i), ⟨rowsOf_len, h.2.1, fun _ => ⟨ad, rfl, fun j p hp => ?_⟩⟩, fun i hi => (Classical.choose_spec (hall i) hi).2⟩;obtain ⟨hj, rfl⟩ := List.getElem?_eq_some_iff.mp hp;have hj2 : j < xs.length := by simpa [rowsOf] using hj
  obtain ⟨h1, h2, h3⟩ := (Classical.choose_spec (hall j) hj2).1;rw [rowsOf_get hj2];exact ⟨_, h1, ⟨rfl, h1, h2⟩, h3⟩
theorem raw63 {w : World} {A : Option Addr} {q : List S63} (h : Kd.C k63 w A q.length q) : ∃ r, (Kd.raw 4).C w A q.length (rowsOf lockRow q r) /\ ∀ i (hi : i < q.length), q[i].f2.length <= (r i).2 /\ (Kd.int .i64).C w (r i).1 q[i].f2.length q[i].f2 :=
 raw_of_C (d := k63) rfl lockRow (P := fun x p => x.f2.length <= p.2 /\ (Kd.int .i64).C w p.1 x.f2.length x.f2) h (fun x cs hK => by
  obtain ⟨A6, c6, rfl, h1, h2⟩ := k63_open hK;exact ⟨(A6, c6), rfl, h1, h2⟩)
theorem kd_of_raw {α : Type} {d : Kd α} {sz : Nat} (hsz : d.sz = sz) {f : α -> Ref -> List Value} {w : World} {A : Option Addr} {xs : List α} {r : Nat -> Ref} (h : (Kd.raw sz).C w A xs.length (rowsOf f xs r)) (hK : ∀ i (hi : i < xs.length), d.K w xs[i] (f xs[i] (r i))) : d.C w A xs.length xs := by
 subst hsz;refine ⟨rfl, h.2.1, fun h0 => ?_⟩;obtain ⟨ad, e, hc⟩ := h.2.2 h0;refine ⟨ad, e, fun j p hp => ?_⟩;obtain ⟨hj, rfl⟩ := List.getElem?_eq_some_iff.mp hp;obtain ⟨cs, hl, hK0, hcell⟩ := hc j (f xs[j] (r j)) (by rw [List.getElem?_eq_getElem (by rw [rowsOf_len]; exact hj), rowsOf_get hj]);obtain ⟨e2, _, _⟩ := hK0;subst e2;exact ⟨_, hl, hK j hj, hcell⟩
theorem raw_of_row {w : World} {g o sz : Nat} {T : TypeId} {rows : List (List Value)} (h : RowAt w g o sz T rows) (hm : rows.length <= 9223372036854775807) (h1 : ∀ x ∈ rows, ∀ u ∈ x, u.oneCell' = true) : (Kd.raw sz).C w (some ⟨g, o, none⟩) rows.length rows :=
 RowAt.kd (d := Kd.raw sz) h rfl hm (fun i h2 h3 => ⟨rfl, h.1 _ (List.getElem_mem h3), h1 _ (List.getElem_mem h3)⟩)
theorem mem_rowsOf {α : Type} {f : α -> Ref -> List Value} {xs : List α} {r : Nat -> Ref} {P : List Value -> Prop} (h : ∀ x p, P (f x p)) : ∀ x ∈ rowsOf f xs r, P x := by
 intro x hx;obtain ⟨i, hi, rfl⟩ := List.mem_iff_getElem.1 hx;rw [rowsOf_len] at hi;rw [rowsOf_get hi];exact h _ _
structure Rd (w : World) (B : Bd) (A : Option Addr) (l : List S57) (A2 : Option Addr) (q : List S63) : Prop where
 serv : ∃ r, (Kd.raw 11).C w A l.length (rowsOf servRow l r) /\ ∀ i (hi : i < l.length), l[i].f2.length <= (r i).2 /\ ∃ rr, (Kd.raw 4).C w (r i).1 l[i].f2.length (rowsOf jobRow l[i].f2 rr) /\ Progs w B l[i].f2 rr
 lock : Kd.C k63 w A2 q.length q
theorem Progs.below {w w' : World} {B : Bd} {x : List S125} {rr : Nat -> Ref} (h : Progs w B x rr) (hb : Below w.heap.size w w') : Progs w' B x rr := fun k hk => ⟨(h k hk).1, Kd.F_below (h k hk).2 hb⟩
theorem Rd.below {w w' : World} {B : Bd} {A : Option Addr} {l : List S57} {A2 : Option Addr} {q : List S63} (h : Rd w B A l A2 q) (hb : Below w.heap.size w w') : Rd w' B A l A2 q where
 serv := by
  obtain ⟨r, h1, h2⟩ := h.serv;refine ⟨r, Kd.C_below h1 hb, fun i hi => ?_⟩;obtain ⟨h3, rr, h4, h5⟩ := h2 i hi;exact ⟨h3, rr, Kd.C_below h4 hb, h5.below hb⟩
 lock := Kd.C_below h.lock hb
theorem Rd.reads {w : World} {B : Bd} {A : Option Addr} {l : List S57} {A2 : Option Addr} {q : List S63} (h : Rd w B A l A2 q) : Kd.C k57 w A l.length l := by
 obtain ⟨r, h1, h2⟩ := h.serv;refine kd_of_raw (d := k57) rfl h1 (fun i hi => ?_);obtain ⟨h3, rr, h4, h5⟩ := h2 i hi;exact k57_mk w l[i] h3 (kd_of_raw (d := k125) rfl h4 (fun k hk => k125_mk w _ (h5 k hk).1 ((h5 k hk).2 w (fun _ _ _ => rfl))))
theorem Own.rd {w : World} {B : Bd} {l : List S57} {q : List S63} {o : OwnR} (h : Own w B l q o) : Rd w B o.A l o.A2 q where
 serv := by
  refine ⟨o.r, ?_, fun i hi => ?_⟩
  ·by_cases hx : l = []
   ·subst hx; exact C_nil' _ _ _
   ·obtain ⟨g, e, hr⟩ := h.row hx;rw [e, <- rowsOf_len (f := servRow) (r := o.r)];exact raw_of_row hr (by rw [rowsOf_len]; have := h.max; omega) (mem_rowsOf (fun x p u hu => by simp only [servRow, List.mem_cons, List.not_mem_nil, or_false] at hu; rcases hu with rfl | rfl | rfl | rfl | rfl | rfl | rfl | rfl | rfl | rfl | rfl <;> rfl))
  ·have hj := h.jobs i hi;refine ⟨hj.cap, ?_⟩;by_cases hx : l[i].f2 = []
   ·exact ⟨fun _ => (none, 0), by rw [hx]; exact C_nil' _ _ _, fun k hk => by rw [hx] at hk; simp at hk⟩
   ·obtain ⟨b, oo, rr, e, hr, hp⟩ := hj.row hx;refine ⟨rr, ?_, hp⟩;rw [e, <- rowsOf_len (f := jobRow) (r := rr)];exact raw_of_row hr (by rw [rowsOf_len]; have := hj.max; omega) (mem_rowsOf (fun x p u hu => by simp only [jobRow, List.mem_cons, List.not_mem_nil, or_false] at hu; rcases hu with rfl | rfl | rfl | rfl <;> rfl))
 lock := h.readsL
theorem F_mv {w w' : World} {B : Bd} {A : Option Addr} {n : Nat} {xs : List S72} (h : Kd.F k72 w B.G A n xs) (hb : Below B.n w w') : Kd.F k72 w' B.G A n xs :=
 fun W' hW => h W' (fun k hk hlt => by rw [hW k hk (Nat.lt_of_lt_of_le hlt hb.size)]; exact hb.block k (B.lt k hk))
def mix (i : Nat) (rn r0 : Nat -> Ref) : Nat -> Ref := fun k => if k < i then rn k else r0 k
theorem mix_zero (rn r0 : Nat -> Ref) : mix 0 rn r0 = r0 := by funext k; simp [mix]
theorem mix_succ (i : Nat) (rn r0 : Nat -> Ref) (p : Ref) : mix (i + 1) (upd rn i p) r0 = upd (mix i rn r0) i p := by
 funext k;unfold mix upd;by_cases h : k = i
 ·subst h; simp
 ·by_cases h2 : k < i
  ·simp [h, h2, show k < i + 1 by omega]
  ·simp [h, h2, show ¬ k < i + 1 by omega]
theorem mix_at (i : Nat) (rn r0 : Nat -> Ref) : mix i rn r0 i = r0 i := by simp [mix]
structure JobsCopied (wr : World) (B : Bd) (N : Nat) (l : List S57) (i : Nat) (rn : Nat -> Ref) : Prop where
 none_ : ∀ k, i <= k -> rn k = (none, 0)
 row : ∀ k (hk : k < l.length), k < i -> l[k].f2.length <= (rn k).2 /\ ∃ rr, (Kd.raw 4).R 125 wr N (fun b => ob (rn k) = some b) (.slice (rn k).1 l[k].f2.length (rn k).2) (rowsOf jobRow l[k].f2 rr) /\ Progs wr B l[k].f2 rr
 bnd : ∀ k b, ob (rn k) = some b -> N <= b /\ b < wr.heap.size
 apart : ∀ k k2 b, ob (rn k) = some b -> ob (rn k2) = some b -> k = k2
theorem Progs.mv {w w' : World} {B : Bd} {x : List S125} {rr : Nat -> Ref} (h : Progs w B x rr) (hb : Below B.n w w') : Progs w' B x rr := fun k hk => ⟨(h k hk).1, F_mv (h k hk).2 hb⟩
theorem JobsCopied.start (wr : World) (B : Bd) (N : Nat) (l : List S57) : JobsCopied wr B N l 0 (fun _ => (none, 0)) where
 none_ := fun _ _ => rfl
 row := fun k hk h => absurd h (by omega)
 bnd := fun k b h => by simp [ob] at h
 apart := fun k k2 b h => by simp [ob] at h
theorem JobsCopied.keep {wr w2 : World} {B : Bd} {N : Nat} {l : List S57} {i : Nat} {rn : Nat -> Ref} {S : Nat -> Prop} (h : JobsCopied wr B N l i rn) (ht : Turn wr w2 S) (hS : ∀ b, S b -> B <= b /\ b < N) (hBw : B <= wr.heap.size) : JobsCopied w2 B N l i rn where
 none_ := h.none_
 row := fun k hk hki => by
  obtain ⟨h1, rr, h2, h3⟩ := h.row k hk hki;exact ⟨h1, rr, Kd.R_step h2 (fun b hb hlt => ht.block b hlt (fun hs => by have := (h.bnd k b hb).1; have := (hS b hs).2; omega)), h3.mv ⟨ht.os, ht.tape, ht.output, ht.size, fun b hb => ht.block b (by omega) (fun hs => by have := (hS b hs).1; omega)⟩⟩
 bnd := fun k b hb => ⟨(h.bnd k b hb).1, Nat.lt_of_lt_of_le (h.bnd k b hb).2 ht.size⟩
 apart := h.apart
theorem JobsCopied.step {wr w2 : World} {B : Bd} {N : Nat} {l : List S57} {i : Nat} {rn : Nat -> Ref} (h : JobsCopied wr B N l i rn) (hi : i < l.length) (hb : Below wr.heap.size wr w2) (hN : N <= wr.heap.size) (hBw : B <= wr.heap.size) {A : Option Addr} {c : Nat} {rr : Nat -> Ref} (hR : (Kd.raw 4).R 125 w2 wr.heap.size (fun _ => True) (.slice A l[i].f2.length c) (rowsOf jobRow l[i].f2 rr)) (hc : l[i].f2.length <= c) (hp : Progs w2 B l[i].f2 rr) : JobsCopied w2 B N l (i + 1) (upd rn i (A, c)) := by
 have h0 := h.keep (S := fun _ => False) (Turn.of_below _ hb) (fun _ h => h.elim) hBw
 have hob : ∀ b, ob (A, c) = some b -> (Value.slice A l[i].f2.length c).ownBlock = some b := by
  intro b hb;unfold ob at hb
  cases A with
  | none => simp at hb
  | some ad => simpa [Value.ownBlock] using hb
 have hnew : ∀ b, ob (A, c) = some b -> wr.heap.size <= b /\ b < w2.heap.size := fun b hb => ⟨Kd.R_base hR b (hob b hb), Kd.R_lt hR b (hob b hb)⟩
 have hold : ∀ k b, k ≠ i -> ob (rn k) = some b -> b < wr.heap.size := fun k b _ hb => (h.bnd k b hb).2
 refine ⟨fun k hk => by rw [upd_ne _ _ (by omega)]; exact h.none_ k (by omega), fun k hk hki => ?_, fun k b hb => ?_, fun k k2 b hb1 hb2 => ?_⟩
 ·by_cases e : k = i
  ·subst e;rw [upd_self];refine ⟨hc, rr, Kd.R_mono (Kd.R_lower (Kd.R_tight rfl hR) hN) (fun b hb => ?_), hp⟩;show ob (A, c) = some b;unfold ob
   cases A with
   | none => simp [Value.ownBlock] at hb
   | some ad => simpa [Value.ownBlock] using hb.symm
  ·rw [upd_ne _ _ e];exact h0.row k hk (by omega)
 ·by_cases e : k = i
  ·subst e;rw [upd_self] at hb;have := hnew b hb;omega
  ·rw [upd_ne _ _ e] at hb;exact h0.bnd k b hb
 ·by_cases e : k = i
  ·by_cases e2 : k2 = i
   ·rw [e, e2]
   ·subst e;rw [upd_self] at hb1;rw [upd_ne _ _ e2] at hb2;have := hnew b hb1;have := hold k2 b e2 hb2;omega
  ·by_cases e2 : k2 = i
   ·subst e2;rw [upd_self] at hb2;rw [upd_ne _ _ e] at hb1;have := hnew b hb2;have := hold k b e hb1;omega
   ·rw [upd_ne _ _ e] at hb1;rw [upd_ne _ _ e2] at hb2;exact h.apart k k2 b hb1 hb2
structure QuesCopied (wr : World) (N : Nat) (q : List S63) (i : Nat) (rn : Nat -> Ref) : Prop where
 none_ : ∀ k, i <= k -> rn k = (none, 0)
 row : ∀ k (hk : k < q.length), k < i -> q[k].f2.length <= (rn k).2 /\ (Kd.int .i64).R 3 wr N (fun b => ob (rn k) = some b) (.slice (rn k).1 q[k].f2.length (rn k).2) q[k].f2
 bnd : ∀ k b, ob (rn k) = some b -> N <= b /\ b < wr.heap.size
 apart : ∀ k k2 b, ob (rn k) = some b -> ob (rn k2) = some b -> k = k2
theorem QuesCopied.start (wr : World) (N : Nat) (q : List S63) : QuesCopied wr N q 0 (fun _ => (none, 0)) where
 none_ := fun _ _ => rfl
 row := fun k hk h => absurd h (by omega)
 bnd := fun k b h => by simp [ob] at h
 apart := fun k k2 b h => by simp [ob] at h
theorem QuesCopied.keep {wr w2 : World} {N : Nat} {q : List S63} {i : Nat} {rn : Nat -> Ref} {S : Nat -> Prop} (h : QuesCopied wr N q i rn) (ht : Turn wr w2 S) (hS : ∀ b, S b -> b < N) : QuesCopied w2 N q i rn where
 none_ := h.none_
 row := fun k hk hki => by
  obtain ⟨h1, h2⟩ := h.row k hk hki;exact ⟨h1, Kd.R_step h2 (fun b hb hlt => ht.block b hlt (fun hs => by have := (h.bnd k b hb).1; have := hS b hs; omega))⟩
 bnd := fun k b hb => ⟨(h.bnd k b hb).1, Nat.lt_of_lt_of_le (h.bnd k b hb).2 ht.size⟩
 apart := h.apart
theorem int_of_raw {e : Nat} {w : World} {base : Nat} {ok : Nat -> Prop} {v : Value} {xs : List Int} (h : (Kd.raw 1).R e w base ok v (xs.map fun x => [.int .i64 x])) : (Kd.int .i64).R e w base ok v xs := by
 obtain ⟨h0, inner, hown, hr⟩ := h;refine ⟨h0, inner, by rw [List.length_map] at hown; exact hown, ?_⟩;obtain ⟨h2, h3⟩ := hr;refine ⟨by rw [List.length_map] at h2; exact h2, fun i p hp => ?_⟩;obtain ⟨h4, h5⟩ := h3 i [.int .i64 p] (by rw [List.getElem?_map, hp]; rfl);exact h4
theorem raw_of_int {w : World} {A : Option Addr} {l : List Int} (h : (Kd.int .i64).C w A l.length l) : (Kd.raw 1).C w A l.length (l.map fun x => [.int .i64 x]) := by
 refine ⟨by simp, h.2.1, fun h0 => ?_⟩;obtain ⟨ad, h1, h2⟩ := h.2.2 h0;refine ⟨ad, h1, fun j p hp => ?_⟩;rw [List.getElem?_map] at hp;obtain ⟨x, hx, rfl⟩ := Option.map_eq_some_iff.1 hp;obtain ⟨cs, h3, h4, h5⟩ := h2 j x hx;have e : cs = [.int .i64 x] := by first | exact h4 | exact h4.symm
 subst e;exact ⟨_, rfl, ⟨rfl, rfl, fun u hu => by (rcases List.mem_singleton.1 hu with rfl; rfl)⟩, h5⟩
theorem QuesCopied.step {wr w2 : World} {N : Nat} {q : List S63} {i : Nat} {rn : Nat -> Ref} (h : QuesCopied wr N q i rn) (hi : i < q.length) (hb : Below wr.heap.size wr w2) (hN : N <= wr.heap.size) {A : Option Addr} {c : Nat} (hR : (Kd.int .i64).R 3 w2 wr.heap.size (fun _ => True) (.slice A q[i].f2.length c) q[i].f2) (hc : q[i].f2.length <= c) : QuesCopied w2 N q (i + 1) (upd rn i (A, c)) := by
 have h0 := h.keep (S := fun _ => False) (Turn.of_below _ hb) (fun _ h => h.elim)
 have hob : ∀ b, ob (A, c) = some b -> (Value.slice A q[i].f2.length c).ownBlock = some b := by
  intro b hb;unfold ob at hb
  cases A with
  | none => simp at hb
  | some ad => simpa [Value.ownBlock] using hb
 have hnew : ∀ b, ob (A, c) = some b -> wr.heap.size <= b /\ b < w2.heap.size := fun b hb => ⟨Kd.R_base hR b (hob b hb), Kd.R_lt hR b (hob b hb)⟩
 have hold : ∀ k b, k ≠ i -> ob (rn k) = some b -> b < wr.heap.size := fun k b _ hb => (h.bnd k b hb).2
 refine ⟨fun k hk => by rw [upd_ne _ _ (by omega)]; exact h.none_ k (by omega), fun k hk hki => ?_, fun k b hb => ?_, fun k k2 b hb1 hb2 => ?_⟩
 ·by_cases e : k = i
  ·subst e;rw [upd_self];refine ⟨hc, Kd.R_mono (Kd.R_lower (Kd.R_tight rfl hR) hN) (fun b hb => ?_)⟩;show ob (A, c) = some b;unfold ob
   cases A with
   | none => simp [Value.ownBlock] at hb
   | some ad => simpa [Value.ownBlock] using hb.symm
  ·rw [upd_ne _ _ e];exact h0.row k hk (by omega)
 ·by_cases e : k = i
  ·subst e;rw [upd_self] at hb;have := hnew b hb;omega
  ·rw [upd_ne _ _ e] at hb;exact h0.bnd k b hb
 ·by_cases e : k = i
  ·by_cases e2 : k2 = i
   ·rw [e, e2]
   ·subst e;rw [upd_self] at hb1;rw [upd_ne _ _ e2] at hb2;have := hnew b hb1;have := hold k2 b e2 hb2;omega
  ·by_cases e2 : k2 = i
   ·subst e2;rw [upd_self] at hb2;rw [upd_ne _ _ e] at hb1;have := hnew b hb2;have := hold k b e hb1;omega
   ·rw [upd_ne _ _ e] at hb1;rw [upd_ne _ _ e2] at hb2;exact h.apart k k2 b hb1 hb2
end Go.Proofs.YtfimkmlgnmaopaaGreat.Top
