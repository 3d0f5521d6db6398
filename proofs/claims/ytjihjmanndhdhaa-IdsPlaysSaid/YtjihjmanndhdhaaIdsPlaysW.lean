/- IdsPlays, the walk: the results of any calls are those of the reference's table: for all rows of calls, no condition. -/
import Derived.Test.YtjihjmanndhdhaaIdsD
import Derived.Test.YtjihjmanndhdhaaOpenB
import Derived.Deep.DeepCutAuto
import Derived.Deep.CutRange
namespace Go.Proofs.Ytjihjmanndhdhaa.Ids
open Go.RowKit Go.Proofs.YtjihjmanndhdhaaW.PrintWords Go.Proofs.YtjihjmanndhdhaaW.PrintLast Go.Proofs.YtjihjmanndhdhaaW.PrintMore Go.Proofs.Ytjihjmanndhdhaa.PIdsKnown Go.Proofs.Ytjihjmanndhdhaa.Open

set_option maxHeartbeats 1000000 in
set_option maxRecDepth 100000 in
theorem plays_long (n : Int) (A : Option Addr) (c : Nat) (l : List Act4) (w : World) (hlen : 150 < l.length) (hm : l.length ≤ maxLen) :
    Calls Try.prog 10 #[.int .i64 n, .slice A l.length c] w fun e w' => e = .returned (.bool true) ∧ Below w.heap.size w w' := by
  unfold maxLen at hm
  have AW := awake_calls w
  go_enter Try.func10, Try.ntmps10
  go_wp2_with (go_at_call 18; refine AW.mono ?_; rintro e w1 ⟨rfl, hB⟩)
  go_ret
  exact ⟨rfl, hB⟩

theorem first_free : ∀ (l : List (Int × Bool)), (∀ i, i < l.length → (l.getD i (0, false)).2 = true) ∨ ∃ i, i < l.length ∧ (l.getD i (0, false)).2 = false ∧ ∀ j, j < i → (l.getD j (0, false)).2 = true
  | [] => .inl (fun i h => absurd h (by simp))
  | p :: t => by
    by_cases hp : p.2 = true
    · rcases first_free t with h | ⟨i, h1, h2, h3⟩
      · refine .inl (fun i hi => ?_)
        cases i with
        | zero => exact hp
        | succ i => exact h i (by simpa using hi)
      · refine .inr ⟨i + 1, by simpa using h1, h2, fun j hj => ?_⟩
        cases j with
        | zero => exact hp
        | succ j => exact h3 j (by omega)
    · exact .inr ⟨0, by simp, eq_false_of_ne_true hp, fun j hj => absurd hj (by omega)⟩

/-- the row of names: none of the tables' blocks. -/
def far (t s rt rg rk : Nat) : Nat → Prop := fun k => k ≠ t ∧ k ≠ s ∧ k ≠ rt ∧ k ≠ rg ∧ k ≠ rk

/-- both tables, side by side. -/
structure Both (w : World) (t s rt rg rk : Nat) (l : List (Int × Bool)) : Prop where
  a : Tab w t s l
  b : RTab w rt rg rk l
  ok : GenOk l
  n1 : t ≠ rt
  n2 : t ≠ rg
  n3 : t ≠ rk
  n4 : s ≠ rt
  n5 : s ≠ rg
  n6 : s ≠ rk

/-- the tables' blocks. -/
def ours (t s rt rg rk : Nat) : Nat → Prop := fun k => k = t ∨ k = s ∨ k = rt ∨ k = rg ∨ k = rk

theorem not_ours {t s rt rg rk k : Nat} (h : far t s rt rg rk k) : ¬ ours t s rt rg rk k := by
  obtain ⟨a, b, c, d, e⟩ := h
  rintro (h | h | h | h | h)
  · exact a h
  · exact b h
  · exact c h
  · exact d h
  · exact e h

theorem Chg.imp {w w' : World} {S T : Nat → Prop} (h : Chg w w' S) (hs : ∀ k, S k → T k) : Chg w w' T := ⟨h.os, h.tape, h.output, h.size, fun k hk hn => h.block k hk (fun e => hn (hs k e))⟩
theorem Chg.trans {a b c : World} {S : Nat → Prop} (h : Chg a b S) (k : Chg b c S) : Chg a c S :=
  ⟨k.os.trans h.os, k.tape.trans h.tape, k.output.trans h.output, Nat.le_trans h.size k.size, fun i hi hn => (k.block i (Nat.lt_of_lt_of_le hi h.size) hn).trans (h.block i hi hn)⟩

theorem row_ours {w w1 : World} {base t s rt rg rk : Nat} {v : Value} {xs : List Int} (h : (Kd.int .u32).R 28 w base (far t s rt rg rk) v xs) (hf : Chg w w1 (ours t s rt rg rk)) : (Kd.int .u32).R 28 w1 base (far t s rt rg rk) v xs :=
  Kd.R_step h (fun k hk hl => hf.block k hl (not_ours hk))

theorem below_ours {base : Nat} {a w w1 : World} {t s rt rg rk : Nat} (hb : Below base a w) (hf : Chg w w1 (ours t s rt rg rk)) (h : base ≤ s ∧ base ≤ t ∧ base ≤ rt ∧ base ≤ rg ∧ base ≤ rk) (hB : base ≤ w.heap.size) : Below base a w1 :=
  hf.below hb (fun k hk => by rcases hk with rfl | rfl | rfl | rfl | rfl <;> omega) hB

theorem Both.of_below {w w' : World} {t s rt rg rk : Nat} {l : List (Int × Bool)} (h : Both w t s rt rg rk l) (hb : Below w.heap.size w w') : Both w' t s rt rg rk l :=
  ⟨h.a.of_heap (hb.block _ h.a.lt_t) (hb.block _ h.a.lt_s), h.b.of_heap (hb.block _ h.b.lt_t) (hb.block _ h.b.lt_g) (hb.block _ h.b.lt_k), h.ok, h.n1, h.n2, h.n3, h.n4, h.n5, h.n6⟩

theorem Both.grown {w w' : World} {t s rt rg rk base : Nat} {l : List (Int × Bool)} {v : Value} {xs : List Int} (h : Both w t s rt rg rk l) (hr : (Kd.int .u32).R 28 w base (far t s rt rg rk) v xs) (hg : w.grownBy w' v.ownBlock) : Both w' t s rt rg rk l := by
  have e : ∀ k, ours t s rt rg rk k → some k ≠ v.ownBlock := fun k hk he => not_ours (hr.1 k he.symm) hk
  exact ⟨h.a.of_heap (hg.block _ h.a.lt_t (e _ (.inl rfl))) (hg.block _ h.a.lt_s (e _ (.inr (.inl rfl)))), h.b.of_heap (hg.block _ h.b.lt_t (e _ (.inr (.inr (.inl rfl))))) (hg.block _ h.b.lt_g (e _ (.inr (.inr (.inr (.inl rfl)))))) (hg.block _ h.b.lt_k (e _ (.inr (.inr (.inr (.inr rfl)))))), h.ok, h.n1, h.n2, h.n3, h.n4, h.n5, h.n6⟩

/-- the one table has taken its step, the other one not yet. -/
structure Half (w : World) (t s rt rg rk : Nat) (l l' : List (Int × Bool)) : Prop where
  a : Tab w t s l'
  b : RTab w rt rg rk l
  ok : GenOk l'
  n1 : t ≠ rt
  n2 : t ≠ rg
  n3 : t ≠ rk
  n4 : s ≠ rt
  n5 : s ≠ rg
  n6 : s ≠ rk

theorem Both.half {w w' : World} {t s rt rg rk : Nat} {l l' : List (Int × Bool)} (h : Both w t s rt rg rk l) (ht : Tab w' t s l') (ho : Only w w' s) (hg : GenOk l') : Half w' t s rt rg rk l l' :=
  ⟨ht, h.b.of_heap (ho.block _ h.b.lt_t (Ne.symm h.n4)) (ho.block _ h.b.lt_g (Ne.symm h.n5)) (ho.block _ h.b.lt_k (Ne.symm h.n6)), hg, h.n1, h.n2, h.n3, h.n4, h.n5, h.n6⟩

theorem Half.both {w w' : World} {t s rt rg rk : Nat} {l l' : List (Int × Bool)} (h : Half w t s rt rg rk l l') (hr : RTab w' rt rg rk l') (hc : Chg w w' (fun b => b = rg ∨ b = rk)) : Both w' t s rt rg rk l' :=
  ⟨h.a.of_heap (hc.block _ h.a.lt_t (fun e => by rcases e with e | e; exact h.n2 e; exact h.n3 e)) (hc.block _ h.a.lt_s (fun e => by rcases e with e | e; exact h.n5 e; exact h.n6 e)), hr, h.ok, h.n1, h.n2, h.n3, h.n4, h.n5, h.n6⟩

theorem take_a {w : World} {t s rt rg rk i : Nat} {l : List (Int × Bool)} {g : Int} (h : Both w t s rt rg rk l) (hi : i < l.length) (hg : (l.getD i (0, false)).1 = g) (hfree : (l.getD i (0, false)).2 = false) (hall : ∀ j, j < i → (l.getD j (0, false)).2 = true) :
    Calls Try.prog 35 #[.pointer (some ⟨t, 0, none⟩)] w fun e w' => e = .returned (.tuple #[.int .u32 (g * 256 + i), .int .i64 0]) ∧ Half w' t s rt rg rk l (l.set i (g, true)) ∧ Chg w w' (ours t s rt rg rk) := by
  have hb := h.ok.get hi
  rw [hg] at hb
  exact (take_calls t s l w i g h.a hi hg hfree hall hb.1 hb.2).mono fun e w' ⟨h1, h2, h3, _⟩ => ⟨h1, h.half h3 h2 (h.ok.set _ _ _ hb.1 hb.2), Chg.of_only h2 (.inr (.inl rfl))⟩

theorem take_b {w : World} {t s rt rg rk i : Nat} {l : List (Int × Bool)} {g : Int} (h : Half w t s rt rg rk l (l.set i (g, true))) (hi : i < l.length) (hg : (l.getD i (0, false)).1 = g) (hfree : (l.getD i (0, false)).2 = false) (hall : ∀ j, j < i → (l.getD j (0, false)).2 = true) (h0 : 0 ≤ g) (h1 : g < 16777216) :
    Calls Try.prog 41 #[.pointer (some ⟨rt, 0, none⟩)] w fun e w' => e = .returned (.tuple #[.int .i64 (g * 256 + i), .int .i64 0]) ∧ Both w' t s rt rg rk (l.set i (g, true)) ∧ Chg w w' (ours t s rt rg rk) :=
  (rtake_free rt rg rk l w i g h.b hi hg hfree hall h0 h1).mono fun e w' ⟨a, b, c, _⟩ => ⟨a, h.both c b, b.imp (fun k hk => by rcases hk with rfl | rfl; exact .inr (.inr (.inr (.inl rfl))); exact .inr (.inr (.inr (.inr rfl))))⟩

theorem isOf_zero {l : List (Int × Bool)} {n : Int} (h0 : 0 ≤ n) (h1 : n < 4294967296) (h : isOf l n = 0) : (n % 256).toNat < l.length ∧ (l.getD (n % 256).toNat (0, false)).1 = n / 256 ∧ (l.getD (n % 256).toNat (0, false)).2 = true := by
  unfold isOf at h
  rw [plOf_eq n h0 h1, geOf_eq] at h
  by_cases c1 : (l.length : Int) ≤ n % 256
  · rw [if_pos c1] at h; omega
  · rw [if_neg c1] at h
    by_cases c2 : n / 256 < (l.getD (n % 256).toNat (0, false)).1
    · rw [if_pos c2] at h; omega
    · rw [if_neg c2] at h
      by_cases c3 : (l.getD (n % 256).toNat (0, false)).1 < n / 256
      · rw [if_pos c3] at h; omega
      · rw [if_neg c3] at h
        by_cases c4 : (l.getD (n % 256).toNat (0, false)).2 = true
        · exact ⟨by omega, by omega, c4⟩
        · rw [if_neg c4] at h; omega

/-- Give, of both tables: which row is there behind it. -/
def givenOf (l : List (Int × Bool)) (n : Int) : List (Int × Bool) := if isOf l n = 0 then l.set (n % 256).toNat ((n / 256 + 1) % 16777216, false) else l

theorem give_a {w : World} {t s rt rg rk : Nat} {l : List (Int × Bool)} {n : Int} (h : Both w t s rt rg rk l) (h0 : 0 ≤ n) (h1 : n < 4294967296) :
    Calls Try.prog 37 #[.pointer (some ⟨t, 0, none⟩), .int .u32 n] w fun e w' => e = .returned (.int .i64 (isOf l n)) ∧ Half w' t s rt rg rk l (givenOf l n) ∧ Chg w w' (ours t s rt rg rk) := by
  unfold givenOf
  by_cases hz : isOf l n = 0
  · rw [if_pos hz, hz]
    obtain ⟨a, b, c⟩ := isOf_zero h0 h1 hz
    exact (give_yes t s l n w (n % 256).toNat (n / 256) h.a h0 h1 hz (by rw [plOf_eq n h0 h1]; omega) a rfl (by omega) (by omega)).mono fun e w' ⟨x, y, z⟩ => ⟨x, h.half z y (h.ok.set _ _ _ (by omega) (by omega)), Chg.of_only y (.inr (.inl rfl))⟩
  · rw [if_neg hz]
    exact (give_no t s l n w _ h.a h0 h1 (by rw [plOf_eq n h0 h1]; omega) rfl hz).mono fun e w' ⟨x, y⟩ => ⟨x, (by have := h.of_below y; exact ⟨this.a, this.b, this.ok, this.n1, this.n2, this.n3, this.n4, this.n5, this.n6⟩), Chg.of_below _ y⟩

theorem give_b {w : World} {t s rt rg rk : Nat} {l : List (Int × Bool)} {n : Int} (h : Half w t s rt rg rk l (givenOf l n)) (h0 : 0 ≤ n) (h1 : n < 4294967296) :
    Calls Try.prog 42 #[.pointer (some ⟨rt, 0, none⟩), .int .i64 n] w fun e w' => e = .returned (.int .i64 (isOf l n)) ∧ Both w' t s rt rg rk (givenOf l n) ∧ Chg w w' (ours t s rt rg rk) := by
  unfold givenOf at *
  by_cases hz : isOf l n = 0
  · rw [if_pos hz] at *
    obtain ⟨a, b, c⟩ := isOf_zero h0 h1 hz
    exact (rgive_yes rt rg rk l n w (n % 256).toNat (n / 256) h.b h0 h1 hz (by omega) a b (by omega) (by omega)).mono fun e w' ⟨x, y, z⟩ => ⟨by rw [x, hz], h.both z y, y.imp (fun k hk => by rcases hk with rfl | rfl; exact .inr (.inr (.inr (.inl rfl))); exact .inr (.inr (.inr (.inr rfl))))⟩
  · rw [if_neg hz] at *
    exact (rgive_no rt rg rk l n w _ h.b h0 h1 rfl hz).mono fun e w' ⟨x, y⟩ => ⟨x, by subst y; exact ⟨h.a, h.b, h.ok, h.n1, h.n2, h.n3, h.n4, h.n5, h.n6⟩, by subst y; exact Chg.refl _ _⟩

def Named (hs : List Int) : Prop := ∀ x ∈ hs, 0 ≤ x ∧ x < 4294967296

theorem names_prefix (l : List (Int × Bool)) (p : Nat) (hp : p ≤ l.length) : ∃ r, names l = names (l.take p) ++ r := by
  obtain ⟨d, hd⟩ : ∃ d, d = l.length - p := ⟨_, rfl⟩
  induction d generalizing p with
  | zero =>
    obtain rfl : p = l.length := by omega
    exact ⟨[], by simp⟩
  | succ d ih =>
    obtain ⟨r, hr⟩ := ih (p + 1) (by omega) (by omega)
    have hn := names_snoc (l.take p) (l.getD p (0, false))
    rw [← take_snoc (by omega)] at hn
    rw [hn] at hr
    exact ⟨_, by rw [hr, List.append_assoc]⟩

theorem names_at (l : List (Int × Bool)) (p : Nat) (hp : p < l.length) (ht : (l.getD p (0, false)).2 = true) :
    (names (l.take (p + 1))).length = (names (l.take p)).length + 1 ∧ (names (l.take p)).length < (names l).length ∧ rd (names l) ((names (l.take p)).length : Int) = (l.getD p (0, false)).1 * 256 + p := by
  have hn := names_snoc (l.take p) (l.getD p (0, false))
  rw [← take_snoc hp, ht, if_pos rfl, List.length_take, Nat.min_eq_left (by omega)] at hn
  obtain ⟨r, hr⟩ := names_prefix l (p + 1) (by omega)
  rw [hn] at hr
  refine ⟨by rw [hn]; simp, by rw [hr]; simp, ?_⟩
  unfold rd
  rw [hr]
  simp

theorem names_free (l : List (Int × Bool)) (p : Nat) (hp : p < l.length) (ht : (l.getD p (0, false)).2 = false) : names (l.take (p + 1)) = names (l.take p) := by
  have hn := names_snoc (l.take p) (l.getD p (0, false))
  rw [← take_snoc hp, ht] at hn
  rw [hn]
  simp

theorem name_cell {w : World} {base n c e : Nat} {ok : Nat → Prop} {A : Option Addr} {xs : List Int} (h : (Kd.int .u32).R e w base ok (.slice A n c) xs) {i : Nat} (hi : i < n) : ∃ ad, A = some ad ∧ w.cell? (ad.add i) = some (.int .u32 (rd xs (i : Int))) := by
  have hr := Kd.R_reads' h
  obtain ⟨ad', e, hc⟩ := Kd.at_int hr.2.2 (i : Int) (by omega) (by have := hr.1; omega)
  rw [Int.toNat_natCast] at hc
  exact ⟨ad', e, hc⟩

set_option maxHeartbeats 4000000 in
set_option maxRecDepth 100000 in
theorem plays_short (n : Int) (A : Option Addr) (c : Nat) (l : List Act4) (w : World) (hr : Acts4 w A l) (hlen : l.length ≤ 150) :
    Calls Try.prog 10 #[.int .i64 n, .slice A l.length c] w fun e w' => e = .returned (.bool true) ∧ Below w.heap.size w w' := by
  have AW := awake_calls w
  have HA := Lib.hid hr
  clear hr
  go_enter Try.func10, Try.ntmps10
  go_wp2_with (go_at_call 18; refine AW.mono ?_; rintro e w1 ⟨rfl, hB1⟩)
  clear AW
  have N := new_calls n w1
  have HB1 := Lib.hid hB1
  clear hB1
  go_wp2_with (go_at_call 34; (with_reducible refine N.mono ?_); rintro e w2 ⟨rfl, hT2, hB2, hz2⟩)
  have hsz : w.heap.size ≤ w1.heap.size := HB1.out.size
  have HB2 := Lib.hid (HB1.out.trans (hB2.mono hsz))
  have HT2 := Lib.hid hT2
  have R := rnew_calls n w2
  have hz : w2.heap.size = w1.heap.size + 2 := hz2
  clear hB2 hT2 N HB1 hz2
  go_wp2_with (go_at_call 40; (with_reducible refine R.mono ?_); rintro e w3 ⟨rt, rg, rk, rfl, hR3, hrt, hrg, hrk, hB3⟩)
  have HB3 := Lib.hid (HB2.out.trans (hB3.mono (by omega)))
  have HBO : Hid (Both w3 (w1.heap.size + 1) w1.heap.size rt rg rk (List.replicate (width n) (0, false))) := ⟨HT2.out.of_heap (hB3.block _ (by omega)) (hB3.block _ (by omega)), hR3, genOk_new _, by omega, by omega, by omega, by omega, by omega, by omega⟩
  clear R hR3 hB3 HB2 HT2
  generalize w1.heap.size = s at *
  generalize hbs : w.heap.size = base at *
  have HBS := Lib.hid hbs
  have hge : base ≤ s ∧ base ≤ s + 1 ∧ base ≤ rt ∧ base ≤ rg ∧ base ≤ rk := by omega
  have HGE := Lib.hid hge
  clear hbs hz hrt hrg hrk hsz hge
  go_loopw [7, 8] (fun v7 v8 wr => ∃ (i : Nat) (tl : List (Int × Bool)) (hs : List Int), v8 = .int .i64 i ∧ i ≤ l.length ∧ hs.length ≤ i ∧ Hid (Both wr (s + 1) s rt rg rk tl) ∧ Hid ((Kd.int .u32).R 28 wr base (far (s + 1) s rt rg rk) v7 hs) ∧ Hid (Named hs) ∧ Hid (Below base w wr)) (fun _ v8 _ => l.length - (intOf v8).toNat)
  case atStart => exact ⟨0, _, [], rfl, Nat.zero_le _, Nat.le_refl _, HBO, Kd.R_nil _ _ _ _ _, (fun x h => by cases h), HB3⟩
  case round =>
    clear HBO HB3
    obtain ⟨i, tl, hs, rfl, hi, hhs, HBO, HR, HN, HB⟩ := hrel
    by_cases hlt : i < l.length
    · obtain ⟨hn0, hn1, ad, rfl, d0, d1, d2, d3⟩ := HA.out i hlt
      have k0 := (HB.out.cell (by rw [← HBS.out]; exact World.block_lt_of_cell? w _ d0)).trans d0
      have k1 := (HB.out.cell (by rw [← HBS.out]; exact World.block_lt_of_cell? w _ d1)).trans d1
      have k2 := (HB.out.cell (by rw [← HBS.out]; exact World.block_lt_of_cell? w _ d2)).trans d2
      have k3 := (HB.out.cell (by rw [← HBS.out]; exact World.block_lt_of_cell? w _ d3)).trans d3
      generalize l[i].op = op at *
      generalize l[i].i = ii at *
      generalize l[i].n = nn at *
      generalize l[i].raw = raw at *
      clear d0 d1 d2 d3
      obtain ⟨Ao, co, hv⟩ := Kd.R_slice HR.out
      subst hv
      have hch : 0 ≤ ii → ii < hs.length → ∃ ax, Ao = some ax ∧ wr.cell? (ax.add ii.toNat) = some (.int .u32 (rd hs ii)) ∧ 0 ≤ rd hs ii ∧ rd hs ii < 4294967296 := by
        intro h0 h1
        have hr := Kd.R_reads' HR.out
        obtain ⟨ad', e, hc⟩ := Kd.at_int hr.2.2 ii (by omega) (by omega)
        refine ⟨ad', e, hc, ?_⟩
        obtain ⟨q, rfl⟩ := Int.eq_ofNat_of_zero_le h0
        have hm : rd hs (q : Int) ∈ hs := by simp [rd, show q < hs.length by omega]
        exact HN.out _ hm
      have HCH := Lib.hid hch
      clear hch
      obtain ⟨cd, hcd⟩ : ∃ cd : Bool, cd = (!raw && decide (0 ≤ ii) && decide (ii < hs.length)) := ⟨_, rfl⟩
      have HCD := Lib.hid hcd
      clear hcd
      go_upto_region 13 with fail
      go_cut [64] from 30 to 126 (fun v64 wx => v64 = .bool cd ∧ wx = wr)
      case first =>
        cases raw
        · by_cases h1 : 0 ≤ ii
          · by_cases h2 : ii < hs.length
            · have e : cd = true := by rw [HCD.out]; simp [h1, h2]
              subst e
              go_wp2_with fail
              go_meet
              exact ⟨rfl, rfl⟩
            · have e : cd = false := by rw [HCD.out]; simp [h1, h2]
              subst e
              have h2' : (hs.length : Int) ≤ ii := by omega
              have h2b : decide (ii < (hs.length : Int)) = false := decide_eq_false h2
              clear h2
              go_wp2_with fail
              go_meet
              exact ⟨rfl, rfl⟩
          · have e : cd = false := by rw [HCD.out]; simp [h1]
            subst e
            have h1' : ii < 0 := by omega
            clear h1
            go_wp2_with fail
            go_meet
            exact ⟨rfl, rfl⟩
        · have e : cd = false := by rw [HCD.out]; simp
          subst e
          go_wp2_with fail
          go_meet
          exact ⟨rfl, rfl⟩
      case rest =>
      obtain ⟨rfl, rfl⟩ := hcut
      go_upto_if 64 with fail
      go_cut [9] from 30 to 126 (fun v9 wx => ∃ nm : Int, v9 = .int .u32 nm ∧ 0 ≤ nm ∧ nm < 4294967296 ∧ wx = wc)
      case first =>
        cases cd
        · go_wp2_with fail
          go_meet
          exact ⟨nn, rfl, hn0, hn1, rfl⟩
        · have hh : 0 ≤ ii ∧ ii < hs.length := by
            have := HCD.out
            simp at this
            exact ⟨this.1.2, this.2⟩
          obtain ⟨h1, h2⟩ := hh
          obtain ⟨ax, rfl, hcell, hx0, hx1⟩ := HCH.out h1 h2
          generalize rd hs ii = nx at *
          go_wp2_with fail
          go_meet
          exact ⟨nx, rfl, hx0, hx1, rfl⟩
      case rest =>
        obtain ⟨nm, rfl, hm0, hm1, rfl⟩ := hcut
        clear HCH HCD k1 k2 k3 hn0 hn1
        have hlen2 : hs.length < 2000 := by omega
        by_cases o0 : op = 0
        · subst o0
          rcases first_free tl with hall | ⟨q, hq, hfr, hall⟩
          · have T1 := take_full (s + 1) s tl wc HBO.out.a hall
            have T2 := rtake_full rt rg rk tl wc HBO.out.b hall
            clear hall
            go_wp2_with (first
              | (go_at_call 35; (with_reducible refine T1.mono ?_); rintro e w' ⟨rfl, hw'⟩; subst hw')
              | (go_at_call 41; (with_reducible refine T2.mono ?_); rintro e w' ⟨rfl, rfl⟩))
            go_roundw
            case rel => exact ⟨i + 1, tl, hs, by go_num, by omega, by omega, HBO, HR, HN, HB⟩
            case measure => simp [intOf]; omega
          · have hgb := HBO.out.ok.get hq
            have T1 := take_a HBO.out hq rfl hfr hall
            have T2 := fun w (h : Half w (s + 1) s rt rg rk tl (tl.set q ((tl.getD q (0, false)).1, true))) => take_b h hq rfl hfr hall hgb.1 hgb.2
            have hq6 : q < 256 := by have := HBO.out.a.len; omega
            generalize (tl.getD q (0, false)).1 = g at *
            generalize hz : g * 256 + (q : Int) = z at *
            have hz0 : 0 ≤ z ∧ z < 4294967296 := by omega
            obtain ⟨hz1, hz2⟩ := hz0
            generalize tl.set q (g, true) = tl2 at *
            clear hall hfr hq hgb hz hq6
            go_wp2_with (first
              | (go_at_call 35; (with_reducible refine T1.mono ?_); rintro e w4 ⟨rfl, hH4, hC4⟩; have HH4 := Lib.hid hH4; have HR4 := Lib.hid (row_ours HR.out hC4); have HB4 := Lib.hid (below_ours HB.out hC4 HGE.out (by rw [← HBS.out]; exact HB.out.size)); clear hH4 hC4)
              | (go_at_call 41; (with_reducible refine (T2 _ HH4.out).mono ?_); rintro e w5 ⟨rfl, hH5, hC5⟩; have HH5 := Lib.hid hH5; have HR5 := Lib.hid (row_ours HR4.out hC5); have HB5 := Lib.hid (below_ours HB4.out hC5 HGE.out (by rw [← HBS.out]; exact HB4.out.size)); clear hH5 hC5 HH4 HR4 HB4)
              | ((with_reducible refine gate_builtin (b := .append) (xs := #[.tmp 113, .tmp 115]) rfl ?_); at_builtin; refine Kd.R_append (Kd.int .u32) (w0 := w) base rfl (.tmp 113) (.tmp 115) 58 28 (.int .u32 0) 4 rfl Try.underlying58 info28 rfl (by decide) (by omega) (.slice Ao hs.length co) hs z [.int .u32 z] (far (s + 1) s rt rg rk) (fun _ => False) rfl rfl ?aP (fun _ hk => hk.elim) ?aF HR5.out HB5.out (by rw [← HBS.out]; exact HB5.out.size) ?aL ?_; (case aP => exact rfl); (case aF => (intro k hk; have h1 := HH5.out.a.lt_t; have h2 := HH5.out.a.lt_s; have h3 := HH5.out.b.lt_t; have h4 := HH5.out.b.lt_g; have h5 := HH5.out.b.lt_k; exact ⟨by omega, by omega, by omega, by omega, by omega⟩)); (case aL => omega); intro v1 w6 hR6 hB6 hg6 hat6))
            exact ⟨⟨i + 1, tl2, hs ++ [z], by go_num, by omega, by simp; omega, HH5.out.grown HR5.out hg6, hR6, (fun x hx => by rcases List.mem_append.1 hx with hx | hx; exact HN.out x hx; simp at hx; subst hx; exact ⟨hz1, hz2⟩), hB6⟩, by simp [intOf]; omega⟩
        · have o0b : (op == 0) = false := by simp [o0]
          by_cases o1 : op = 1
          · subst o1
            have T1 := give_a HBO.out hm0 hm1
            have T2 := fun w (h : Half w (s + 1) s rt rg rk tl (givenOf tl nm)) => give_b h hm0 hm1
            generalize isOf tl nm = r at *
            generalize givenOf tl nm = tl2 at *
            clear o0 o0b
            go_wp2_with (first
              | (go_at_call 37; (with_reducible refine T1.mono ?_); rintro e w4 ⟨rfl, hH4, hC4⟩; have HH4 := Lib.hid hH4; have HR4 := Lib.hid (row_ours HR.out hC4); have HB4 := Lib.hid (below_ours HB.out hC4 HGE.out (by rw [← HBS.out]; exact HB.out.size)); clear hH4 hC4)
              | (go_at_call 42; (with_reducible refine (T2 _ HH4.out).mono ?_); rintro e w5 ⟨rfl, hH5, hC5⟩; have HH5 := Lib.hid hH5; have HR5 := Lib.hid (row_ours HR4.out hC5); have HB5 := Lib.hid (below_ours HB4.out hC5 HGE.out (by rw [← HBS.out]; exact HB4.out.size)); clear hH5 hC5 HH4 HR4 HB4))
            go_roundw
            case rel => exact ⟨i + 1, tl2, hs, by go_num, by omega, by omega, HH5, HR5, HN, HB5⟩
            case measure => simp [intOf]; omega
          · have o1b : (op == 1) = false := by simp [o1]
            have T1 := is_calls (s + 1) s tl nm wc HBO.out.a hm0 hm1 (by rw [plOf_eq nm hm0 hm1]; omega)
            have T2 := fun w (h : Both w (s + 1) s rt rg rk tl) => ris_calls rt rg rk tl nm w h.b hm0 hm1
            generalize isOf tl nm = r at *
            clear o0 o1
            go_wp2_with (first
              | (go_at_call 36; (with_reducible refine T1.mono ?_); rintro e w4 ⟨rfl, hB4⟩; have HH4 := Lib.hid (HBO.out.of_below hB4); have HR4 := Lib.hid (Kd.R_below HR.out hB4); have HB4 := Lib.hid (HB.out.trans (hB4.mono (by rw [← HBS.out]; exact HB.out.size))); clear hB4)
              | (go_at_call 43; (with_reducible refine (T2 _ HH4.out).mono ?_); rintro e w' ⟨rfl, rfl⟩))
            go_roundw
            case rel => exact ⟨i + 1, tl, hs, by go_num, by omega, by omega, HH4, HR4, HN, HB4⟩
            case measure => simp [intOf]; omega
    · obtain rfl : i = l.length := by omega
      have L := list_calls (s + 1) s tl wr HBO.out.a HBO.out.ok
      clear HR HN hi hhs hlt
      go_wp2_with (go_at_call 39; (with_reducible refine L.mono ?_); rintro e w4 ⟨va, rfl, hR4, hB4⟩)
      have HH4 := Lib.hid (HBO.out.of_below hB4)
      have HB4 := Lib.hid (HB.out.trans (hB4.mono (by rw [← HBS.out]; exact HB.out.size)))
      obtain ⟨Aa, ca, hv⟩ := Kd.R_slice hR4
      subst hv
      have HR4 := Lib.hid hR4
      have hnl : (names tl).length ≤ 256 := Nat.le_trans (names_len tl) HBO.out.a.len
      clear hB4 hR4 L HBO HB
      generalize wr.heap.size = ba at *
      go_loopw [15, 16] (fun v15 v16 wx => ∃ p : Nat, v16 = .int .i64 p ∧ v15 = .int .i64 (names (tl.take p)).length ∧ p ≤ tl.length ∧ Hid (Both wx (s + 1) s rt rg rk tl) ∧ Hid ((Kd.int .u32).R 28 wx ba (fun _ => True) (.slice Aa (names tl).length ca) (names tl)) ∧ Hid (Below base w wx)) (fun _ v16 _ => tl.length - (intOf v16).toNat)
      case atStart => exact ⟨0, rfl, rfl, Nat.zero_le _, HH4, HR4, HB4⟩
      case round =>
        clear HH4 HR4 HB4
        obtain ⟨p, rfl, rfl, hp, HBO, HR, HB⟩ := hrel
        have hc0 := HBO.out.b.c0
        have hc1 := HBO.out.b.c1
        have hlen := HBO.out.b.len
        by_cases hpl : p < tl.length
        · have hgb := HBO.out.ok.get hpl
          have hk := HBO.out.b.ck hpl
          have hg := HBO.out.b.cg hpl
          cases htk : (tl.getD p (0, false)).2
          · have D := at_free (s + 1) s tl p _ HBO.out.a hpl htk
            have HN := Lib.hid (names_free tl p hpl htk)
            rw [htk] at hk
            clear htk hgb hg
            go_wp2_with (go_at_call 38; (with_reducible refine D.mono ?_); rintro e w' ⟨rfl, rfl⟩)
            go_roundw
            case rel => exact ⟨p + 1, by go_num, by rw [HN.out], by omega, HBO, HR, HB⟩
            case measure => simp [intOf]; omega
          · have D := at_taken (s + 1) s tl p _ _ HBO.out.a hpl htk rfl hgb.1 hgb.2
            obtain ⟨na, nb, nc⟩ := names_at tl p hpl htk
            rw [htk] at hk
            obtain ⟨ad, rfl, hcell⟩ := name_cell HR.out nb
            rw [nc] at hcell
            have HN := Lib.hid na
            generalize (tl.getD p (0, false)).1 = g at *
            obtain ⟨hg0, hg1⟩ := hgb
            have hz0 : 0 ≤ g * 256 + (p : Int) ∧ g * 256 + (p : Int) < 4294967296 := by omega
            obtain ⟨hz1, hz2⟩ := hz0
            have hz3 : (p : Int) + 256 * g = g * 256 + (p : Int) := by omega
            have hzb : ((g * 256 + (p : Int)) == ((p : Int) + 256 * g)) = true := by simp; omega
            have hzb2 : ((g * 256 + (p : Int)) != ((p : Int) + 256 * g)) = false := by simp; omega
            have HZ := Lib.hid hz3
            clear htk na nc hz3
            go_wp2_with (go_at_call 38; (with_reducible refine D.mono ?_); rintro e w' ⟨rfl, ⟨nd, rfl⟩⟩)
            go_roundw
            case rel => exact ⟨p + 1, by go_num, by rw [HN.out]; go_num, by omega, HBO.out.of_below ⟨rfl, rfl, rfl, Nat.le_refl _, fun _ _ => rfl⟩, Kd.R_drewN HR.out nd, pw_below_drewN HB.out nd⟩
            case measure => simp [intOf]; omega
        · obtain rfl : p = tl.length := by omega
          rw [List.take_length]
          go_wp2
          go_ret
          exact ⟨rfl, by rw [HBS.out]; exact HB.out⟩

theorem plays_calls (n : Int) (A : Option Addr) (c : Nat) (l : List Act4) (w : World) (hr : Acts4 w A l) (hm : l.length ≤ maxLen) :
    Calls Try.prog 10 #[.int .i64 n, .slice A l.length c] w fun e w' => e = .returned (.bool true) ∧ Below w.heap.size w w' := by
  by_cases h : l.length ≤ 150
  · exact plays_short n A c l w hr h
  · exact plays_long n A c l w (by omega) hm
end Go.Proofs.Ytjihjmanndhdhaa.Ids
