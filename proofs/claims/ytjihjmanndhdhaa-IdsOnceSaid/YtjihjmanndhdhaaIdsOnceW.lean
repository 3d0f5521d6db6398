/- IdsOnce, the walk: no two names that are taken at once are the same, nor one that was given back earlier: for all rows, no condition. -/
import Derived.Test.YtjihjmanndhdhaaIdsD
import Derived.Test.YtjihjmanndhdhaaIdsE
import Derived.Deep.DeepCutAuto
import Derived.Deep.CutRange
namespace Go.Proofs.Ytjihjmanndhdhaa.Ids
open Go.RowKit Go.Maps Go.Proofs.YtjihjmanndhdhaaW.PrintWords Go.Proofs.YtjihjmanndhdhaaW.PrintLast Go.Proofs.YtjihjmanndhdhaaW.PrintMore Go.Proofs.Ytjihjmanndhdhaa.PIdsKnown
set_option linter.unusedVariables false
set_option linter.unusedSimpArgs false

def once.T14 : Bool × List (List Nat × List Nat) := (true, [([], []), ([], []), ([], []), ([], []), ([2, 3], [2, 3]), ([4], [4]), ([1, 5], [1, 5]), ([0, 6], [0, 6]), ([], []), ([], []), ([], []), ([9, 10], [9, 10]), ([11], [11]), ([12], [12]), ([8, 13], [8, 13]), ([7, 14, 7], [7, 14]), ([15, 15, 0, 1, 2, 3, 4, 5, 6, 7, 8, 9, 10, 11, 12, 13, 14, 15], [1, 8, 15])])
def once.B14 : List Nat := [0, 0, 0, 0, 12, 28, 62, 127, 0, 0, 0, 1536, 3584, 7680, 16128, 32767, 65535]
theorem once.tab14 : rtab .any (opsOf Try.f11 14) = once.T14 := by kernel_rfl
theorem once.bits14 : waitsOk once.T14.2 once.B14 = true := by kernel_rfl

theorem C_at {wd w : World} {A : Option Addr} {xs : List Int} (h : Hid ((Kd.int .u32).C wd A xs.length xs)) (hb : Hid (Below wd.heap.size wd w)) (m : Nat) (hm : xs.length = m) : ReadsRow (fun (x : Int) cs => cs = [Value.int .u32 x]) 1 w A m xs := by
  subst hm
  exact Kd.C_below h.out hb.out

/-- the row of names: none of the table's blocks, nor the map's. -/
def farO (t s m : Nat) : Nat → Prop := fun k => k ≠ t ∧ k ≠ s ∧ k ≠ m

set_option maxHeartbeats 1000000 in
set_option maxRecDepth 100000 in
theorem once_long (n : Int) (A : Option Addr) (c : Nat) (l : List Int) (w : World) (hlen : 100 < l.length) (hm : l.length ≤ maxLen) :
    Calls Try.prog 11 #[.int .i64 n, .slice A l.length c] w fun e w' => e = .returned (.bool true) ∧ Below w.heap.size w w' := by
  unfold maxLen at hm
  have AW := awake_calls w
  go_enter Try.func11, Try.ntmps11
  go_wp2_with (go_at_call 18; refine AW.mono ?_; rintro e w1 ⟨rfl, hB⟩)
  go_ret
  exact ⟨rfl, hB⟩

/-- the tables' blocks, and the map's. -/
def ours3 (t s m : Nat) : Nat → Prop := fun k => k = t ∨ k = s ∨ k = m

theorem not_ours3 {t s m k : Nat} (h : farO t s m k) : ¬ ours3 t s m k := by
  obtain ⟨a, b, c⟩ := h
  rintro (h | h | h)
  · exact a h
  · exact b h
  · exact c h

theorem Chg.turned {w w' w2 : World} {S : Nat → Prop} (h : Chg w w' S) {m : Nat} (hm : S m) (ht : w'.mapTurned w2 m) : Chg w w2 S := by
  obtain ⟨es, clock, es', clock', hb, rfl⟩ := ht
  refine ⟨h.os, h.tape, h.output, by simpa [ChangeMaps.setBlock] using h.size, fun k hk hne => ?_⟩
  have e : (ChangeMaps.setBlock w' m (.map es' clock')).heap[k]? = w'.heap[k]? := by
    simp only [ChangeMaps.setBlock, Array.getElem?_setIfInBounds]
    rw [if_neg (fun e => hne (by rw [← e]; exact hm))]
  exact e.trans (h.block k hk hne)

theorem row_ours3 {w w1 : World} {base t s m : Nat} {v : Value} {xs : List Int} (h : (Kd.int .u32).R 28 w base (farO t s m) v xs) (hf : Chg w w1 (ours3 t s m)) : (Kd.int .u32).R 28 w1 base (farO t s m) v xs :=
  Kd.R_step h (fun k hk hl => hf.block k hl (not_ours3 hk))

theorem below_ours3 {base : Nat} {a w w1 : World} {t s m : Nat} (hb : Below base a w) (hf : Chg w w1 (ours3 t s m)) (h : base ≤ s ∧ base ≤ t ∧ base ≤ m) (hB : base ≤ w.heap.size) : Below base a w1 :=
  hf.below hb (fun k hk => by rcases hk with rfl | rfl | rfl <;> omega) hB

theorem owns_same {w w1 : World} {m n : Nat} {D : DataW Unit} (h : w.ownsMap Try.prog 28 (plainElem Try.prog 4) m n D) (hb : w1.heap[m]? = w.heap[m]?) : w1.ownsMap Try.prog 28 (plainElem Try.prog 4) m n D := by
  obtain ⟨es, clock, h1, rest⟩ := h
  exact ⟨es, clock, by rw [hb]; exact h1, rest⟩

theorem name_cellO {w : World} {base n c e : Nat} {ok : Nat → Prop} {A : Option Addr} {xs : List Int} (h : (Kd.int .u32).R e w base ok (.slice A n c) xs) {i : Nat} (hi : i < n) : ∃ ad, A = some ad ∧ w.cell? (ad.add i) = some (.int .u32 (rd xs (i : Int))) := by
  have hr := Kd.R_reads' h
  obtain ⟨ad', e, hc⟩ := Kd.at_int hr.2.2 (i : Int) (by omega) (by have := hr.1; omega)
  rw [Int.toNat_natCast] at hc
  exact ⟨ad', e, hc⟩

/-- what may be: the table, the set of all names, the row of those that are taken. -/
structure Once (w : World) (t s m i : Nat) (tl : List (Int × Bool)) (q hs : List Int) : Prop where
  a : Tab w t s tl
  map : ∃ D, SetIs D q ∧ w.ownsMap Try.prog 28 (plainElem Try.prog 4) m q.length D
  le : GenLe tl i
  seen : Seen tl q
  perm : hs.Perm (names tl)
  n1 : m ≠ t
  n2 : m ≠ s

set_option maxHeartbeats 4000000 in
set_option maxRecDepth 100000 in
theorem once_short (n : Int) (A0 : Option Addr) (c0 : Nat) (l : List Int) (w : World) (hr0 : (Kd.int .i64).C w A0 l.length l) (hlen : l.length ≤ 100) :
    Calls Try.prog 11 #[.int .i64 n, .slice A0 l.length c0] w fun e w' => e = .returned (.bool true) ∧ Below w.heap.size w w' := by
  have hmm := @run_makeMap Try.prog
  have AW := awake_calls w
  have HR0 := Lib.hid hr0
  clear hr0
  go_enter Try.func11, Try.ntmps11
  go_wp2_with (go_at_call 18; refine AW.mono ?_; rintro e w1 ⟨rfl, hB1⟩)
  clear AW
  have NW := new_calls n w1
  have HB1 := Lib.hid hB1
  clear hB1
  go_wp2_with (go_at_call 34; (with_reducible refine NW.mono ?_); rintro e w2 ⟨rfl, hT2, hB2, hz3⟩; have hz2 : w1.heap.size + 2 ≤ w2.heap.size := (by omega); clear hz3)
  have hsz : w.heap.size ≤ w1.heap.size := HB1.out.size
  have hz : w1.heap.size + 2 ≤ w2.heap.size := hz2
  clear hz2
  have HB2 := Lib.hid ((HB1.out.trans (hB2.mono hsz)).alloc (by omega) (.map #[] 0))
  have HO2 : Hid (Once (w2.alloc (.map #[] 0)) (w1.heap.size + 1) w1.heap.size w2.heap.size 0 (List.replicate (width n) (0, false)) [] []) := by
    refine ⟨hT2.of_heap ?_ ?_, ⟨_, SetIs.nil, World.ownsMap_made _ _ _ _⟩, genLe_new _ _, (fun x h => by cases h), ?_, by omega, by omega⟩
    · exact (Below.refl w2.heap.size w2 |>.alloc (Nat.le_refl _) _).block _ (by omega)
    · exact (Below.refl w2.heap.size w2 |>.alloc (Nat.le_refl _) _).block _ (by omega)
    · have : names (List.replicate (width n) (0, false)) = [] := by
        rw [List.eq_nil_iff_forall_not_mem]
        intro x hx
        obtain ⟨p, h1, h2, _⟩ := mem_names hx
        simp at h1
        simp [List.getD_eq_getElem?_getD, h1] at h2
      rw [this]
  clear hB2 hT2 NW HB1 hmm
  generalize w1.heap.size = s at *
  generalize w2.heap.size = m at *
  generalize hbs : w.heap.size = base at *
  have HBS := Lib.hid hbs
  have hge : base ≤ s ∧ base ≤ s + 1 ∧ base ≤ m := by omega
  have HGE := Lib.hid hge
  clear hbs hz hsz hge
  go_loopw [7, 8] (fun v7 v8 wr => ∃ (i : Nat) (tl : List (Int × Bool)) (q hs : List Int), v8 = .int .i64 i ∧ i ≤ l.length ∧ hs.length ≤ i ∧ q.length ≤ i ∧ Hid (Once wr (s + 1) s m i tl q hs) ∧ Hid ((Kd.int .u32).R 28 wr base (farO (s + 1) s m) v7 hs) ∧ Hid (Below base w wr)) (fun _ v8 _ => l.length - (intOf v8).toNat)
  case atStart => exact ⟨0, _, [], [], rfl, Nat.zero_le _, Nat.le_refl _, Nat.le_refl _, HO2, Kd.R_nil _ _ _ _ _, HB2⟩
  case round =>
    clear HO2 HB2
    obtain ⟨i, tl, q, hs, rfl, hi, hhs, hq, HO, HR, HB⟩ := hrel
    by_cases hlt : i < l.length
    · obtain ⟨ad, rfl, hcell0⟩ := Kd.at_int HR0.out (i : Int) (by omega) (by omega)
      rw [Int.toNat_natCast] at hcell0
      have hadw : (ad.add i).block < base := by rw [← HBS.out]; exact World.block_lt_of_cell? w (ad.add i) hcell0
      have hcell : wr.cell? (ad.add i) = some (.int .i64 (rd l (i : Int))) := by
        rw [HB.out.cell hadw]; exact hcell0
      generalize rd l (i : Int) = x at *
      clear hcell0
      obtain ⟨A, c, hv⟩ := Kd.R_slice HR.out
      subst hv
      obtain ⟨cd, hcd⟩ : ∃ cd : Bool, cd = (decide (0 ≤ x) && decide (x < hs.length)) := ⟨_, rfl⟩
      have HCD := Lib.hid hcd
      clear hcd
      go_upto_region 11 with fail
      go_cut [38] from 19 to 86 (fun v38 wx => v38 = .bool cd ∧ wx = wr)
      case first =>
        by_cases h1 : 0 ≤ x
        · by_cases h2 : x < hs.length
          · have e : cd = true := by rw [HCD.out]; simp [h1, h2]
            subst e
            go_wp2_with fail
            go_meet
            exact ⟨rfl, rfl⟩
          · have e : cd = false := by rw [HCD.out]; simp [h1, h2]
            subst e
            have h2' : (hs.length : Int) ≤ x := by omega
            have h2b : decide (x < (hs.length : Int)) = false := decide_eq_false h2
            clear h2
            go_wp2_with fail
            go_meet
            exact ⟨rfl, rfl⟩
        · have e : cd = false := by rw [HCD.out]; simp [h1]
          subst e
          have h1' : x < 0 := by omega
          clear h1
          go_wp2_with fail
          go_meet
          exact ⟨rfl, rfl⟩
      case rest =>
      obtain ⟨rfl, rfl⟩ := hcut
      cases cd
      · have hok := HO.out.le.ok (by omega)
        clear HCD
        rcases first_freeO tl with hall | ⟨p, hp, hfr, hall⟩
        · have T1 := take_full (s + 1) s tl wc HO.out.a hall
          clear hall hok
          go_wp2_with (go_at_call 35; (with_reducible refine T1.mono ?_); rintro e w' ⟨rfl, hw'⟩; subst hw')
          go_roundw
          case rel => exact ⟨i + 1, tl, q, hs, by go_num, by omega, by omega, by omega, ⟨HO.out.a, HO.out.map, (fun p hp => by have := HO.out.le p hp; exact ⟨this.1, by omega⟩), HO.out.seen, HO.out.perm, HO.out.n1, HO.out.n2⟩, HR, HB⟩
          case measure => simp [intOf]; omega
        · have hgb := HO.out.le p hp
          have hln := HO.out.a.len
          obtain ⟨D, hD, hown⟩ := HO.out.map
          have hfresh := HO.out.seen.fresh hln hp hfr
          have HSE := Lib.hid (HO.out.seen.take hp hfr)
          have HPE := Lib.hid (perm_take HO.out.perm hp hfr)
          have hI := is_taken (l := tl.set p ((tl.getD p (0, false)).1, true)) (by simpa using hln) (p := p) (by simpa using hp) (by rw [getD_set hp, if_pos rfl]) (by rw [getD_set hp, if_pos rfl]) hgb.1 (by omega)
          have T1 := take_calls (s + 1) s tl wc p _ HO.out.a hp rfl hfr hall hgb.1 (by omega)
          have HLE := Lib.hid (HO.out.le.set (m' := i + 1) (by omega) hp (tl.getD p (0, false)).1 true hgb.1 (by omega))
          generalize (tl.getD p (0, false)).1 = g at *
          generalize hz : g * 256 + (p : Int) = z at *
          have hz1 : 0 ≤ z := by omega
          have hz2 : z < 4294967296 := by omega
          generalize tl.set p (g, true) = tl2 at *
          have T2 := fun w (h : Tab w (s + 1) s tl2) => is_calls (s + 1) s tl2 z w h hz1 hz2 (by rw [plOf_eq z hz1 hz2]; omega)
          rw [hI] at T2
          have hwf : (Lit.int .u32 z).wf = true := by simp [Lit.wf, IntKind.min, IntKind.max, IntKind.signed, IntKind.bits]; omega
          have hkey := keyOf_int_mk (P := Try.prog) Try.underlying28 hwf
          have HOWN := Lib.hid hown
          have HD := Lib.hid hD
          have HFR := Lib.hid hfresh
          clear hall hok hfr hown hD hfresh hI hz hgb
          go_wp2_with (first
            | (go_at_call 35; (with_reducible refine T1.mono ?_); rintro e w4 ⟨rfl, hO4, hT4, _⟩; have hC4 := Chg.of_only (S := ours3 (s + 1) s m) hO4 (.inr (.inl rfl)); have HT4 := Lib.hid hT4; have HR4 := Lib.hid (row_ours3 HR.out hC4); have HB4 := Lib.hid (below_ours3 HB.out hC4 HGE.out (by rw [← HBS.out]; exact HB.out.size)); have HM4 := Lib.hid (owns_same HOWN.out (hO4.block m HOWN.out.lt HO.out.n2)); have hlook := look_new HM4.out HD.out HFR.out hwf; clear hO4 hT4 hC4)
            | (go_at_call 36; (with_reducible refine (T2 _ HT4.out).mono ?_); rintro e w5 ⟨rfl, hB5⟩; have hC5 := Chg.of_below (ours3 (s + 1) s m) hB5; have HT5 := Lib.hid (HT4.out.of_heap (hB5.block _ HT4.out.lt_t) (hB5.block _ HT4.out.lt_s)); have HR5 := Lib.hid (row_ours3 HR4.out hC5); have HB5 := Lib.hid (below_ours3 HB4.out hC5 HGE.out (by rw [← HBS.out]; exact HB4.out.size)); have hM5 := owns_same HM4.out (hB5.block m HM4.out.lt); clear hB5 hC5 HT4 HR4 HB4 HM4 hlook)
            | (at_mapUpdate; refine wpList_mapUpdate_in _ rfl _ _ _ 71 rfl 28 4 law28 Try.underlying71 _ m q.length D rfl hM5 (by unfold maxLen; omega) _ _ _ rfl rfl hkey _ [] (plainElem_bool Try.underlying4 true) ?_; intro w6 hown6 hturn6; have hC6 := (Chg.refl _ (ours3 (s + 1) s m)).turned (.inr (.inr rfl)) hturn6; have HT6 := Lib.hid (HT5.out.of_heap ((Chg.refl _ (fun k => k = m)).turned rfl hturn6 |>.block _ HT5.out.lt_t (fun e => HO.out.n1 e.symm)) ((Chg.refl _ (fun k => k = m)).turned rfl hturn6 |>.block _ HT5.out.lt_s (fun e => HO.out.n2 e.symm))); have HR6 := Lib.hid (row_ours3 HR5.out hC6); have HB6 := Lib.hid (below_ours3 HB5.out hC6 HGE.out (by rw [← HBS.out]; exact HB5.out.size)); have HM6 := Lib.hid hown6; clear hC6 hturn6 hown6 hM5 HT5 HR5 HB5)
            | ((with_reducible refine gate_builtin (b := .append) (xs := #[.tmp 83, .tmp 85]) rfl ?_); at_builtin; refine Kd.R_append (Kd.int .u32) (w0 := w) base rfl (.tmp 83) (.tmp 85) 58 28 (.int .u32 0) 4 rfl Try.underlying58 info28 rfl (by decide) (by omega) (.slice A hs.length c) hs z [.int .u32 z] (farO (s + 1) s m) (fun _ => False) rfl rfl ?aP (fun _ hk => hk.elim) ?aF HR6.out HB6.out (by rw [← HBS.out]; exact HB6.out.size) ?aL ?_; (case aP => exact rfl); (case aF => (intro k hk; have h1 := HT6.out.lt_t; have h2 := HT6.out.lt_s; have h3 := HM6.out.lt; exact ⟨by omega, by omega, by omega⟩)); (case aL => omega); intro v1 w7 hR7 hB7 hg7 hat7))
          have hnb : ∀ k, ours3 (s + 1) s m k → some k ≠ (Value.slice A hs.length c).ownBlock := fun k hk he => not_ours3 (HR6.out.1 k he.symm) hk
          exact ⟨⟨i + 1, tl2, q ++ [z], hs ++ [z], by go_num, by omega, by simp; omega, by simp; omega, ⟨HT6.out.of_heap (hg7.block _ HT6.out.lt_t (hnb _ (.inl rfl))) (hg7.block _ HT6.out.lt_s (hnb _ (.inr (.inl rfl)))), ⟨_, HD.out.put z, by rw [List.length_append]; exact owns_same HM6.out (hg7.block _ HM6.out.lt (hnb _ (.inr (.inr rfl))))⟩, HLE.out, HSE.out, HPE.out, HO.out.n1, HO.out.n2⟩, hR7, hB7⟩, by simp [intOf]; omega⟩
      · have hx : 0 ≤ x ∧ x < hs.length := by
          have := HCD.out
          simp at this
          exact this
        obtain ⟨k, rfl⟩ := Int.eq_ofNat_of_zero_le hx.1
        have hk : k < hs.length := by omega
        have hmem : hs[k] ∈ names tl := HO.out.perm.mem_iff.1 (List.getElem_mem hk)
        obtain ⟨p, hp, htk, hnm⟩ := mem_names hmem
        have hgb := HO.out.le p hp
        have hln := HO.out.a.len
        obtain ⟨ax, rfl, hnc⟩ := name_cellO HR.out hk
        have hrd : rd hs (k : Int) = hs[k] := by simp [rd, hk]
        rw [hrd] at hnc
        have HPE := fun g => perm_give HO.out.perm hk hp htk hnm g
        have HSE := HO.out.seen.give hp false
        have hI := is_taken hln hp htk rfl hgb.1 (by omega)
        have HLE := HO.out.le.set (m' := i + 1) (by omega) hp ((tl.getD p (0, false)).1 + 1) false (by omega) (by omega)
        rw [hnm] at hnc
        generalize hgen : (tl.getD p (0, false)).1 = g at *
        obtain ⟨z, hz⟩ : ∃ z, z = g * 256 + (p : Int) := ⟨_, rfl⟩
        rw [← hz] at hI hnc
        have T1 := give_yes (s + 1) s tl z wc p g HO.out.a (by omega) (by omega) hI (by rw [plOf_eq z (by omega) (by omega)]; omega) hp (by rw [geOf_eq]; omega) hgb.1 (by omega)
        rw [show (g + 1) % 16777216 = g + 1 by omega] at T1
        have HPE2 := Lib.hid (HPE (g + 1))
        have HSE2 := Lib.hid HSE
        have HLE2 := Lib.hid HLE
        generalize tl.set p (g + 1, false) = tl2 at *
        have hkb : (0 : Int) ≤ (k : Int) := by omega
        have hkl : (k : Int) < (hs.length : Int) := by omega
        clear HPE HSE HLE hI hz hgen hgb hnm hmem hrd htk HCD hx
        go_wp2_with (go_at_call 37; (with_reducible refine T1.mono ?_); rintro e w4 ⟨rfl, hO4, hT4⟩)
        have hC4 := Chg.of_only (S := ours3 (s + 1) s m) hO4 (.inr (.inl rfl))
        have HT4 := Lib.hid hT4
        have hR4 := row_ours3 HR.out hC4
        have HB4 := Lib.hid (below_ours3 HB.out hC4 HGE.out (by rw [← HBS.out]; exact HB.out.size))
        obtain ⟨D, hD, hown⟩ := HO.out.map
        have HD := Lib.hid hD
        have HM4 := Lib.hid (owns_same hown (hO4.block m hown.lt HO.out.n2))
        have hrr := Kd.R_reads' hR4
        have hcap : hs.length ≤ c := hrr.2.1
        have hC0 : (Kd.int .u32).C w4.drew (some ax) hs.length hs := Kd.C_below hrr.2.2 ⟨rfl, rfl, rfl, Nat.le_refl _, fun _ _ => rfl⟩
        have HCa := Lib.hid (Kd.C_take hC0 (m := k) (by omega))
        have HCb := Lib.hid (Kd.C_drop hC0 (m := k + 1) (c := c) (by omega) hcap)
        have hcd : w4.drew.cell? (ad.add i) = some (.int .i64 (k : Int)) := (HB4.out.cell hadw).trans ((HB.out.cell hadw).symm.trans hcell)
        have hadd : (ad.add i).block < w4.drew.heap.size := Nat.lt_of_lt_of_le hadw (by rw [← HBS.out]; exact HB4.out.size)
        obtain ⟨i28, hi28, _, hz28, _⟩ := info_parts info28
        have hc1 := cut_to (P := Try.prog) 58 28 .i64 Try.underlying58 hi28 (some ax) hs.length c (k : Int) hkb (by omega) hcap
        have hc2 := cut_from (P := Try.prog) 58 28 .i64 Try.underlying58 hi28 1 hz28 (some ax) hs.length c ((k : Int) + 1) (by omega) (by omega)
        rw [Int.toNat_natCast] at hc1
        rw [show ((k : Int) + 1).toNat = k + 1 by omega] at hc2
        obtain ⟨A', hA'⟩ : ∃ A', A' = (if c = k + 1 then some ax else (some ax : Option Addr).map (·.add ((k + 1) * 1))) := ⟨_, rfl⟩
        rw [← hA'] at hc2
        have HCb2 : Hid ((Kd.int .u32).C w4.drew A' (hs.drop (k + 1)).length (hs.drop (k + 1))) := by rw [hA']; exact HCb.out
        clear HCb hA' hi28 hz28 hC0 hrr hD hown hnc hcell
        have HTd : Hid (Tab w4.drew (s + 1) s tl2) := Lib.hid (HT4.out.of_heap rfl rfl)
        have HMd : Hid (w4.drew.ownsMap Try.prog 28 (plainElem Try.prog 4) m q.length D) := Lib.hid (owns_same HM4.out rfl)
        have HBd : Hid (Below base w w4.drew) := ⟨HB4.out.os, HB4.out.tape, HB4.out.output, HB4.out.size, HB4.out.block⟩
        clear HT4 HM4 HB4 hR4 hC4 hO4 hT4
        have hw1 : IntKind.i64.wrap ((k : Int) + 1) = (k : Int) + 1 := by rw [IntKind.wrap_i64]; omega
        go_upto_region 14 with fail
        refine start_ (n := 17) (S := fun w' => w'.cell? (ad.add i) = some (.int .i64 (k : Int)) ∧ Hid (Below w4.drew.heap.size w4.drew w')) (ds := []) #[false, false, false, false, false, false, false, false, false, false, false, false, false, false, false, false, false] (by kernel_rfl) rfl rfl ⟨hcd, (Lib.hid (Below.refl w4.drew.heap.size w4.drew))⟩ (fun hHeld => ?_)
        refine with_tabW once.tab14 once.bits14 (fun HT_ HW_ => ?_)
        generalize hwd : w4.drew = wd at *
        clear hwd
        refine pure_ (i := 1) (N := some 50) (v := ?_) (a' := ?_) #[false, true, false, false, false, false, false, false, false, false, false, false, false, false, false, false, false] rfl rfl (any_of HT_.out (by kernel_rfl)) (fun _ _ _ h => h) (Or.inl ⟨by rfl, ?_⟩) ?_ ?_
        rotate_left
        · intro w'
          go_simp
          with_reducible rfl
        rotate_left
        · simp only [Act.put, List.setIfInBounds_toArray, List.set_cons_zero, List.set_cons_succ, i64_w, i32_w]
          rfl
        refine pure_ (i := 2) (N := some 51) (v := ?_) (a' := ?_) #[false, true, true, false, false, false, false, false, false, false, false, false, false, false, false, false, false] rfl rfl (any_of HT_.out (by kernel_rfl)) (fun _ _ _ h => h) (Or.inl ⟨by rfl, ?_⟩) ?_ ?_
        rotate_left
        · intro w'
          go_simp
          with_reducible rfl
        rotate_left
        · simp only [Act.put, List.setIfInBounds_toArray, List.set_cons_zero, List.set_cons_succ, i64_w, i32_w]
          rfl
        refine pure_ (i := 3) (N := some 52) (v := ?_) (a' := ?_) #[false, true, true, true, false, false, false, false, false, false, false, false, false, false, false, false, false] rfl rfl (any_of HT_.out (by kernel_rfl)) (fun _ _ _ h => h) (Or.inl ⟨by rfl, ?_⟩) ?_ ?_
        rotate_left
        · intro w'
          go_simp
          with_reducible rfl
        rotate_left
        · simp only [Act.put, List.setIfInBounds_toArray, List.set_cons_zero, List.set_cons_succ, i64_w, i32_w]
          rfl
        refine pure_ (i := 4) (N := some 53) (v := ?_) (a' := ?_) #[false, true, true, true, true, false, false, false, false, false, false, false, false, false, false, false, false] rfl rfl (any_of HT_.out (by kernel_rfl)) (fun _ _ _ h => h) (Or.inl ⟨by rfl, ?_⟩) ?_ ?_
        rotate_left
        · intro w'
          go_simp
          with_reducible rfl
        rotate_left
        · simp only [Act.put, List.setIfInBounds_toArray, List.set_cons_zero, List.set_cons_succ, i64_w, i32_w]
          rfl
        refine pure_ (i := 8) (N := some 57) (v := ?_) (a' := ?_) #[false, true, true, true, true, false, false, false, true, false, false, false, false, false, false, false, false] rfl rfl (any_of HT_.out (by kernel_rfl)) (fun _ _ _ h => h) (Or.inl ⟨by rfl, ?_⟩) ?_ ?_
        rotate_left
        · intro w'
          go_simp
          with_reducible rfl
        rotate_left
        · simp only [Act.put, List.setIfInBounds_toArray, List.set_cons_zero, List.set_cons_succ, i64_w, i32_w]
          rfl
        refine pure_ (i := 9) (N := some 58) (v := ?_) (a' := ?_) #[false, true, true, true, true, false, false, false, true, true, false, false, false, false, false, false, false] rfl rfl (any_of HT_.out (by kernel_rfl)) (fun _ _ _ h => h) (Or.inl ⟨by rfl, ?_⟩) ?_ ?_
        rotate_left
        · intro w'
          go_simp
          with_reducible rfl
        rotate_left
        · simp only [Act.put, List.setIfInBounds_toArray, List.set_cons_zero, List.set_cons_succ, i64_w, i32_w]
          rfl
        refine pure_ (i := 10) (N := some 59) (v := ?_) (a' := ?_) #[false, true, true, true, true, false, false, false, true, true, true, false, false, false, false, false, false] rfl rfl (any_of HT_.out (by kernel_rfl)) (fun _ _ _ h => h) (Or.inl ⟨by rfl, ?_⟩) ?_ ?_
        rotate_left
        · intro w'
          go_simp
          with_reducible rfl
        rotate_left
        · simp only [Act.put, List.setIfInBounds_toArray, List.set_cons_zero, List.set_cons_succ, i64_w, i32_w]
          rfl
        refine pure_ (i := 11) (N := some 60) (v := ?_) (a' := ?_) #[false, true, true, true, true, false, false, false, true, true, true, true, false, false, false, false, false] rfl rfl (any_of HT_.out (by kernel_rfl)) (fun _ _ _ h => h) (Or.inl ⟨by rfl, ?_⟩) ?_ ?_
        rotate_left
        · intro w'
          go_simp
          with_reducible rfl
        rotate_left
        · simp only [Act.put, List.setIfInBounds_toArray, List.set_cons_zero, List.set_cons_succ, i64_w, i32_w]
          rfl
        refine take_ (i := 5) (N := some 54) (v := ?_) (a' := ?_) #[false, true, true, true, true, true, false, false, true, true, true, true, false, false, false, false, false] rfl rfl (take_ofW HT_.out HW_.out (by kernel_rfl)) (fun _ _ _ h => h) (Or.inl ⟨by rfl, ?_⟩) hHeld ?_ ?_
        rotate_left
        · rintro w' ⟨s0, s1⟩
          go_simp
          with_reducible rfl
        rotate_left
        · simp only [Act.put, List.setIfInBounds_toArray, List.set_cons_zero, List.set_cons_succ, i64_w, i32_w]
          rfl
        refine pure_ (i := 6) (N := some 55) (v := ?_) (a' := ?_) #[false, true, true, true, true, true, true, false, true, true, true, true, false, false, false, false, false] rfl rfl (any_of HT_.out (by kernel_rfl)) (fun _ _ _ h => h) (Or.inl ⟨by rfl, ?_⟩) ?_ ?_
        rotate_left
        · intro w'
          go_simp
          with_reducible rfl
        rotate_left
        · simp only [Act.put, List.setIfInBounds_toArray, List.set_cons_zero, List.set_cons_succ, i64_w, i32_w]
          rfl
        refine take_ (i := 12) (N := some 61) (v := ?_) (a' := ?_) #[false, true, true, true, true, true, true, false, true, true, true, true, true, false, false, false, false] rfl rfl (take_ofW HT_.out HW_.out (by kernel_rfl)) (fun _ _ _ h => h) (Or.inl ⟨by rfl, ?_⟩) hHeld ?_ ?_
        rotate_left
        · rintro w' ⟨s0, s1⟩
          go_simp
          with_reducible rfl
        rotate_left
        · simp only [Act.put, List.setIfInBounds_toArray, List.set_cons_zero, List.set_cons_succ, i64_w, i32_w]
          rfl
        refine pure_ (i := 13) (N := some 62) (v := ?_) (a' := ?_) #[false, true, true, true, true, true, true, false, true, true, true, true, true, true, false, false, false] rfl rfl (any_of HT_.out (by kernel_rfl)) (fun _ _ _ h => h) (Or.inl ⟨by rfl, ?_⟩) ?_ ?_
        rotate_left
        · intro w'
          go_simp
          with_reducible rfl
        rotate_left
        · simp only [Act.put, List.setIfInBounds_toArray, List.set_cons_zero, List.set_cons_succ, i64_w, i32_w]
          rfl
        refine pure_ (i := 14) (N := some 63) (v := ?_) (a' := ?_) #[false, true, true, true, true, true, true, false, true, true, true, true, true, true, true, false, false] rfl rfl (any_of HT_.out (by kernel_rfl)) (fun _ _ _ h => h) (Or.inl ⟨by rfl, ?_⟩) ?_ ?_
        rotate_left
        · intro w'
          go_simp
          with_reducible rfl
        rotate_left
        · simp only [Act.put, List.setIfInBounds_toArray, List.set_cons_zero, List.set_cons_succ, i64_w, i32_w]
          rfl
        refine one_ (i := 0) (N := some 49) #[true, true, true, true, true, true, true, false, true, true, true, true, true, true, true, false, false] rfl rfl (one_of HT_.out (by kernel_rfl)) (by decide) (fun K hK => ?_)
        refine Kd.R_lit_step (Kd.int .u32) (w0 := wd) wd.heap.size 28 (by rfl) (N := 49) rfl (xs := ([] : List Int)) (inner := []) (ok := fun k => wd.heap.size ≤ k) (okp := fun _ => False) ?hr (Reps.none _ _) (fun _ h => h.elim) (Nat.le_refl _) hHeld.2.out (Nat.le_refl _) (by simp) ?_
        (case hr => first | (go_simp; done) | (go_simp; rfl))
        intro v49 we hR49 hB49 _ _
        have HBx := Lib.hid hB49
        have HR49 := Lib.hid hR49
        clear hB49 hR49
        refine hK.out _ _ ⟨((HBx.out.cell hadd).trans hcd), HBx⟩ (fun hHeld => ?_)
        clear hK K
        refine norm_ (a' := ?_) ?_ ?_
        rotate_left
        · show Act.put _ (some 49) _ = _
          simp only [Act.put, List.setIfInBounds_toArray, List.set_cons_zero, List.set_cons_succ, i64_w, i32_w]
          rfl
        refine one_ (i := 7) (N := some 56) #[true, true, true, true, true, true, true, true, true, true, true, true, true, true, true, false, false] rfl rfl (one_of HT_.out (by kernel_rfl)) (by decide) (fun K hK => ?_)
        refine Kd.R_append_rows_step (Kd.int .u32) (Rr := fun (x : Int) cs => cs = [.int .u32 x]) (w0 := wd) wd.heap.size (by rfl) (.tmp 49) (.tmp 55) 58 28 (.int .u32 0) 4 rfl Try.underlying58 info28 rfl (by decide) (by omega) v49 [] (hs.take k) (some ax) k c (fun k => wd.heap.size ≤ k) (fun _ => False) (by rfl) (by rfl) HR49.out (C_at HCa HBx k (by rw [List.length_take]; omega)) (fun _ _ h => h) (fun _ h => h.elim) (fun k hk => Nat.le_trans hHeld.2.out.size hk) hHeld.2.out hHeld.2.out.size (by first | (simp; done) | (simp; omega) | omega) ?_
        intro v56 wf hR56 hB56 _ _
        have HBx := Lib.hid hB56
        have HR56 := Lib.hid hR56
        clear hB56 hR56
        refine hK.out _ _ ⟨((HBx.out.cell hadd).trans hcd), HBx⟩ (fun hHeld => ?_)
        clear hK K
        refine norm_ (a' := ?_) ?_ ?_
        rotate_left
        · show Act.put _ (some 56) _ = _
          simp only [Act.put, List.setIfInBounds_toArray, List.set_cons_zero, List.set_cons_succ, i64_w, i32_w]
          rfl
        refine one_ (i := 15) (N := some 64) #[true, true, true, true, true, true, true, true, true, true, true, true, true, true, true, true, false] rfl rfl (one_of HT_.out (by kernel_rfl)) (by decide) (fun K hK => ?_)
        refine Kd.R_append_rows_step (Kd.int .u32) (Rr := fun (x : Int) cs => cs = [.int .u32 x]) (w0 := wd) wd.heap.size (by rfl) (.tmp 56) (.tmp 63) 58 28 (.int .u32 0) 4 rfl Try.underlying58 info28 rfl (by decide) (by omega) v56 ([] ++ hs.take k) (hs.drop (k + 1)) A' (hs.length - (k + 1)) (c - (k + 1)) (fun k => wd.heap.size ≤ k) (fun _ => False) (by rfl) (by rfl) HR56.out (C_at HCb2 HBx _ List.length_drop) (fun _ _ h => h) (fun _ h => h.elim) (fun k hk => Nat.le_trans hHeld.2.out.size hk) hHeld.2.out hHeld.2.out.size (by first | (simp; done) | (simp; omega) | omega) ?_
        intro v64 wg hR64 hB64 _ _
        have HBx := Lib.hid hB64
        have HR64 := Lib.hid hR64
        clear hB64 hR64
        refine hK.out _ _ ⟨((HBx.out.cell hadd).trans hcd), HBx⟩ (fun hHeld => ?_)
        clear hK K
        refine norm_ (a' := ?_) ?_ ?_
        rotate_left
        · show Act.put _ (some 64) _ = _
          simp only [Act.put, List.setIfInBounds_toArray, List.set_cons_zero, List.set_cons_succ, i64_w, i32_w]
          rfl
        refine pure_ (i := 16) (N := some 7) (v := ?_) (a' := ?_) #[true, true, true, true, true, true, true, true, true, true, true, true, true, true, true, true, true] rfl rfl (any_of HT_.out (by kernel_rfl)) (fun _ _ _ h => h) (Or.inl ⟨by rfl, ?_⟩) ?_ ?_
        rotate_left
        · intro w'
          go_simp
          with_reducible rfl
        rotate_left
        · simp only [Act.put, List.setIfInBounds_toArray, List.set_cons_zero, List.set_cons_succ, i64_w, i32_w]
          rfl
        refine done_ (done_of HT_.out (by kernel_rfl)) ?_
        have hlt1 := HTd.out.lt_t
        have hlt2 := HTd.out.lt_s
        have hlt3 := HMd.out.lt
        have hbd := HBd.out.size
        rw [HBS.out] at hbd
        have HRN := Lib.hid (Kd.R_mono (Kd.R_lower HR64.out hbd) (ok' := farO (s + 1) s m) (fun j hj => ⟨by omega, by omega, by omega⟩))
        have HBN := Lib.hid (HBd.out.trans (HBx.out.mono hbd))
        have HON : Hid (Once wg (s + 1) s m (i + 1) tl2 q (hs.take k ++ hs.drop (k + 1))) := Lib.hid ⟨HTd.out.of_heap (HBx.out.block _ hlt1) (HBx.out.block _ hlt2), ⟨D, HD.out, owns_same HMd.out (HBx.out.block _ hlt3)⟩, HLE2.out, HSE2.out, HPE2.out, HO.out.n1, HO.out.n2⟩
        clear HR64 HBx HTd HMd HBd HCa HCb2 hcd hadd hc1 hc2 hHeld HD HLE2 HSE2 HPE2 hlt1 hlt2 hlt3 hbd
        go_wp2
        go_roundw
        case rel => exact ⟨i + 1, tl2, q, hs.take k ++ hs.drop (k + 1), by go_num, by omega, by simp only [List.length_append, List.length_take, List.length_drop]; omega, by omega, HON, HRN, HBN⟩
        case measure => simp [intOf]; omega
    · obtain rfl : i = l.length := by omega
      have LC := list_calls (s + 1) s tl wr HO.out.a (HO.out.le.ok (by omega))
      have hpl : (names tl).length = hs.length := HO.out.perm.length_eq.symm
      obtain ⟨A, c, hv⟩ := Kd.R_slice HR.out
      subst hv
      have HPL := Lib.hid hpl
      clear hpl
      go_wp2_with (go_at_call 39; (with_reducible refine LC.mono ?_); rintro e w4 ⟨va, rfl, hR4, hB4⟩; obtain ⟨Aa, ca, hv⟩ := Kd.R_slice hR4; subst hv; rw [HPL.out]; have HB4 := Lib.hid (HB.out.trans (hB4.mono (by rw [← HBS.out]; exact HB.out.size))); clear hR4 hB4)
      go_ret
      exact ⟨rfl, by rw [HBS.out]; exact HB4.out⟩

theorem once_calls (n : Int) (A : Option Addr) (c : Nat) (l : List Int) (w : World) (hr : (Kd.int .i64).C w A l.length l) (hm : l.length ≤ maxLen) :
    Calls Try.prog 11 #[.int .i64 n, .slice A l.length c] w fun e w' => e = .returned (.bool true) ∧ Below w.heap.size w w' := by
  by_cases h : l.length ≤ 100
  · exact once_short n A c l w hr h
  · exact once_long n A c l w (by omega) hm
end Go.Proofs.Ytjihjmanndhdhaa.Ids
