/- TurnLeaves, the walk: who leaves is passed over; all others are served in their order: for all numbers and rows, no condition. -/
import Derived.Test.YtjihjmanndhdhaaTurnAllW
namespace Go.Proofs.Ytjihjmanndhdhaa.Turn
open Go.RowKit Go.Maps Go.Proofs.YtjihjmanndhdhaaW.PrintWords Go.Proofs.YtjihjmanndhdhaaW.PrintLast

/-- who j is, with ticket j. -/
def pr (j : Nat) : Int × Nat := ((j : Int), j)

theorem pr_any {L : List Nat} {i : Nat} (h : i ∉ L) : (L.map pr).any (fun p => p.1 == (i : Int)) = false := by
  rw [List.any_eq_false]
  intro p hp
  obtain ⟨j, hj, rfl⟩ := List.mem_map.1 hp
  have : j ≠ i := fun e => h (e ▸ hj)
  simp [pr]; omega

theorem pr_in {L : List Nat} {i : Nat} (h : i ∈ L) : (L.map pr).any (fun p => p.1 == (i : Int)) = true :=
  List.any_eq_true.2 ⟨pr i, List.mem_map_of_mem h, by simp [pr]⟩

theorem out_pr (L : List Nat) (i : Nat) : out (L.map pr) (i : Int) = (L.filter (fun j => j != i)).map pr := by
  unfold out
  rw [List.filter_map]
  congr 1
  apply List.filter_congr
  intro j _
  show (!((j : Int) == (i : Int))) = (j != i)
  rw [Bool.eq_iff_iff]; simp; omega

theorem keep_pr {K : List Nat} {i m : Nat} (hK : ∀ j ∈ K, j < i) : (K ++ List.range' i (m + 1)).filter (fun j => j != i) = K ++ List.range' (i + 1) m := by
  rw [List.filter_append, List.range'_succ, List.filter_cons_of_neg (by simp)]
  congr 1
  · rw [List.filter_eq_self]; intro j hj; have := hK j hj; simp; omega
  · rw [List.filter_eq_self]; intro j hj; have := (List.mem_range'_1.1 hj).1; simp; omega

theorem range_one {n : Nat} (h : 1 ≤ n) : List.range n = [0] ++ List.range' 1 (n - 1) := by
  obtain ⟨k, rfl⟩ : ∃ k, n = k + 1 := ⟨n - 1, by omega⟩
  rw [List.range_eq_range', List.range'_succ]
  rfl

theorem draw_next {w : World} {t m i : Nat} (h : Lk w t m i ((List.range i).map pr)) (hi : i < 64) :
    Calls Try.prog 29 #[.pointer (some ⟨t, 0, none⟩), .int .i64 i] w fun e w' => e = .returned (.tuple #[.int .u32 i, .int .i64 0]) ∧ Lk w' t m (i + 1) ((List.range (i + 1)).map pr) ∧ Frm w w' (fun k => k = t ∨ k = m) :=
  (draw_ok t m i _ (i : Int) w h (wf_small (by omega) (by omega)) (pr_any (by simp)) (by omega) (by omega) (by simpa using hi) (by omega)).mono fun e w' ⟨h1, h2, h3⟩ =>
    ⟨h1, by rw [List.range_succ, List.map_append]; exact h2, h3⟩

theorem leave_next {w : World} {t m next i k : Nat} {K : List Nat} (hK : ∀ j ∈ K, j < i) (h0 : ∃ K', K = 0 :: K') (hi : i < 64) (h : Lk w t m next ((K ++ List.range' i (k + 1)).map pr)) :
    Calls Try.prog 44 #[.pointer (some ⟨t, 0, none⟩), .int .i64 i] w fun e w' => e = .returned (.int .i64 0) ∧ Lk w' t m next ((K ++ List.range' (i + 1) k).map pr) ∧ Frm w w' (fun k => k = t ∨ k = m) := by
  obtain ⟨K', rfl⟩ := h0
  have hi0 := hK 0 (by simp)
  refine (leave_ok t m next _ (i : Int) w h (wf_small (by omega) (by omega)) (pr_in (by simp [List.mem_range'_1])) ?_).mono fun e w' ⟨h1, h2, h3⟩ => ⟨h1, by rw [out_pr, keep_pr hK] at h2; exact h2, h3⟩
  show ((0 : Int) == (i : Int)) = false
  simp; omega

theorem drop_pr {K : List Nat} {j : Nat} (h : j < K.length) : ∃ a : Nat, (K.drop j).map pr = (((a : Nat) : Int), a) :: (K.drop (j + 1)).map pr ∧ rd (K.map (fun (j : Nat) => (j : Int))) (j : Int) = a :=
  ⟨K[j], by rw [List.drop_eq_getElem_cons h]; rfl, by simp [rd, h]⟩

set_option maxHeartbeats 1000000 in
set_option maxRecDepth 100000 in
theorem leaves_out (n : Int) (v : Value) (w : World) (hn : n < 1 ∨ 64 < n) :
    Calls Try.prog 14 #[.int .i64 n, v] w fun e w' => e = .returned (.bool true) ∧ Below w.heap.size w w' := by
  have A := awake_calls w
  have hn' : n < 1 ∨ (1 ≤ n ∧ 64 < n) := by omega
  clear hn
  rcases hn' with h | ⟨h1, h2⟩
  all_goals
    go_enter Try.func14, Try.ntmps14
    go_wp2_with (go_at_call 27; refine A.mono ?_; rintro e w1 ⟨rfl, hB⟩)
    go_ret
    exact ⟨rfl, hB⟩

set_option maxHeartbeats 4000000 in
set_option maxRecDepth 100000 in
theorem leaves_in (n : Nat) (A1 : Option Addr) (c1 : Nat) (l1 : List Bool) (w : World) (hr1 : Kd.bool.C w A1 l1.length l1) (hm1 : l1.length ≤ maxLen) (h1 : 1 ≤ n) (h64 : n ≤ 64) :
    Calls Try.prog 14 #[.int .i64 n, .slice A1 l1.length c1] w fun e w' => e = .returned (.bool true) ∧ Below w.heap.size w w' := by
  unfold maxLen at hm1
  have A := awake_calls w
  have HR1 := Lib.hid hr1
  clear hr1
  go_enter Try.func14, Try.ntmps14
  go_wp2_with (go_at_call 27; refine A.mono ?_; rintro e w1 ⟨rfl, hB1⟩)
  clear A
  have N := new_calls w1
  have HB1 := Lib.hid hB1
  clear hB1
  go_wp2_with (go_at_call 28; (with_reducible refine N.mono ?_); rintro e w2 ⟨rfl, hL2, hB2⟩)
  have HB2 := Lib.hid (below_then HB1.out HB1.out.size hB2)
  have HL2 := Lib.hid hL2
  have hmb : w.heap.size ≤ w1.heap.size := HB1.out.size
  clear hB2 hL2 N HB1
  generalize w1.heap.size = m at *
  generalize hbs : w.heap.size = base at *
  have HBS := Lib.hid hbs
  clear hbs
  have hmt : base ≤ m + 1 := by omega
  go_loopw [6] (fun v6 wr => ∃ i : Nat, v6 = .int .i64 i ∧ i ≤ n ∧ Hid (Lk wr (m + 1) m i ((List.range i).map pr)) ∧ Hid (Below base w wr)) (fun v6 _ => n - (intOf v6).toNat)
  case atStart => exact ⟨0, rfl, Nat.zero_le _, HL2, HB2⟩
  case round =>
    clear HL2 HB2
    obtain ⟨i, rfl, hi, HL, HB⟩ := hrel
    by_cases hlt : i < n
    · have D := draw_next HL.out (by omega)
      go_wp2_with (go_at_call 29; (with_reducible refine D.mono ?_); rintro e w3 ⟨rfl, hL3, hF3⟩; have HB3 := Lib.hid (frm_below HB.out hF3 hmt hmb (by rw [← HBS.out]; exact HB.out.size)); have HL3 := Lib.hid hL3; clear hL3 hF3)
      go_roundw
      case rel => exact ⟨i + 1, by go_num, by omega, HL3, HB3⟩
      case measure => simp [intOf]; omega
    · obtain hin : i = n := by omega
      subst i
      clear hlt hi
      have hfr : off (m + 1) m wr.heap.size := by
        have a := HL.out.lt_t
        have b := HL.out.lt_m
        exact ⟨by omega, by omega⟩
      go_wp2_with (((with_reducible refine gate_dst (N := 34) rfl ?_); (try (refine gate_guard (by rfl) ?_; dsimp only)); refine Kd.R_lit (Kd.int .i64) (w0 := w) base 3 ?hg (N := 34) ?hd (xs := ([0] : List Int)) (inner := [.int .i64 0]) (ok := off (m + 1) m) (okp := fun _ => False) ?hr ?hp (fun _ hk => hk.elim) hfr HB.out (by rw [← HBS.out]; exact HB.out.size) (by simp) ?_; (case hd => rfl); (case hg => rfl); (case hr => first | (go_simp; done) | (go_simp; rfl)); (case hp => exact (Reps.one (show Kd.M (Kd.int .i64) _ _ _ 0 [.int .i64 0] from rfl) (Reps.none _ _))); intro v9 w4 hR4 hB4 hg4 hnew4))
      have HL4 := Lib.hid (HL.out.of_frm ((Frm.refl wr (fun _ => False)).grown hg4 (fun k hk => by cases hk)) (fun h => h) (fun h => h))
      have HR4 := Lib.hid hR4
      have HB4 := Lib.hid hB4
      clear hR4 hB4 hg4 hnew4 HL HB hfr
      go_loopw [9, 10] (fun v9 v10 wr => ∃ (i : Nat) (K : List Nat), v10 = .int .i64 i ∧ i ≤ n ∧ 1 ≤ i ∧ Hid (∃ K', K = 0 :: K') ∧ Hid (∀ j ∈ K, j < i) ∧ K.length ≤ i ∧ Hid (Lk wr (m + 1) m n ((K ++ List.range' i (n - i)).map pr)) ∧ Hid ((Kd.int .i64).R 3 wr base (off (m + 1) m) v9 (K.map (fun (j : Nat) => (j : Int)))) ∧ Hid (Below base w wr)) (fun _ v10 _ => n - (intOf v10).toNat)
      case atStart => exact ⟨1, [0], rfl, h1, Nat.le_refl _, ⟨[], rfl⟩, (fun j hj => by simp at hj; omega), Nat.le_refl _, (by
        have := HL4.out
        rw [range_one h1] at this
        exact this), HR4, HB4⟩
      case round =>
        clear HL4 HR4 HB4
        obtain ⟨i, K, rfl, hi, hi1, HK0, HK, hKl, HL, HR, HB⟩ := hrel
        by_cases hlt : i < n
        · rw [show n - i = (n - (i + 1)) + 1 by omega] at HL
          have hcases : (i < l1.length ∧ rdOf false l1 (i : Int) = true) ∨ (i < l1.length ∧ rdOf false l1 (i : Int) = false) ∨ l1.length ≤ i := by
            by_cases h : i < l1.length
            · cases hb : rdOf false l1 (i : Int)
              · exact .inr (.inl ⟨h, rfl⟩)
              · exact .inl ⟨h, rfl⟩
            · exact .inr (.inr (by omega))
          rcases hcases with ⟨hg, hb⟩ | hcases
          · obtain ⟨ad, rfl, hc0⟩ := Kd.at_bool HR1.out (i : Int) (by omega) (by omega)
            rw [Int.toNat_natCast, hb] at hc0
            have hadw : (ad.add i).block < w.heap.size := World.block_lt_of_cell? w (ad.add i) hc0
            have hc : wr.cell? (ad.add i) = some (.bool true) := by rw [HB.out.cell (by rw [← HBS.out]; exact hadw)]; exact hc0
            have D := leave_next HK.out HK0.out (by omega) HL.out
            clear hc0 hadw hb
            go_wp2_with (go_at_call 44; (with_reducible refine D.mono ?_); rintro e w5 ⟨rfl, hL5, hF5⟩; have HB5 := Lib.hid (frm_below HB.out hF5 hmt hmb (by rw [← HBS.out]; exact HB.out.size)); have HL5 := Lib.hid hL5; have HR5 := Lib.hid (row_frm HR.out hF5); clear hL5 hF5)
            go_roundw
            case rel => exact ⟨i + 1, K, by go_num, by omega, by omega, HK0, (fun j hj => Nat.lt_succ_of_lt (HK.out j hj)), by omega, HL5, HR5, HB5⟩
            case measure => simp [intOf]; omega
          · have hl : Lk wr (m + 1) m n (((K ++ [i]) ++ List.range' (i + 1) (n - (i + 1))).map pr) := by
              have := HL.out
              rw [List.range'_succ] at this
              simpa using this
            have HLA := Lib.hid hl
            have HKA : Hid (∀ j ∈ K ++ [i], j < i + 1) := fun j hj => by
              rcases List.mem_append.1 hj with h | h
              · exact Nat.lt_succ_of_lt (HK.out j h)
              · simp at h; omega
            have HKB : Hid (∃ K', K ++ [i] = 0 :: K') := by
              obtain ⟨K', e⟩ := HK0.out
              exact ⟨K' ++ [i], by rw [e]; rfl⟩
            have hfr : ∀ k, wr.heap.size ≤ k → off (m + 1) m k := by
              have a := HL.out.lt_t
              have b := HL.out.lt_m
              exact fun k hk => ⟨by omega, by omega⟩
            have HFR := Lib.hid hfr
            clear hl hfr HL
            rcases hcases with ⟨hg, hb⟩ | hg
            · obtain ⟨ad, rfl, hc0⟩ := Kd.at_bool HR1.out (i : Int) (by omega) (by omega)
              rw [Int.toNat_natCast, hb] at hc0
              have hadw : (ad.add i).block < w.heap.size := World.block_lt_of_cell? w (ad.add i) hc0
              have hc : wr.cell? (ad.add i) = some (.bool false) := by rw [HB.out.cell (by rw [← HBS.out]; exact hadw)]; exact hc0
              clear hc0 hadw hb
              go_wp2_with (((with_reducible refine gate_builtin (b := .append) (xs := #[.tmp 54, .tmp 56]) rfl ?_); at_builtin; refine Kd.R_append (Kd.int .i64) (w0 := w) base rfl (.tmp 54) (.tmp 56) 39 3 (.int .i64 0) 8 rfl Try.underlying39 info3 rfl (by decide) (by omega) u9 (K.map (fun (j : Nat) => (j : Int))) (i : Int) [.int .i64 i] (off (m + 1) m) (fun _ => False) rfl rfl ?aP (fun _ hk => hk.elim) HFR.out HR.out HB.out (by rw [← HBS.out]; exact HB.out.size) ?aL ?_; (case aP => exact rfl); (case aL => simp; omega); intro v1 w5 hR5 hB5 hg5 hat5))
              refine ⟨⟨i + 1, K ++ [i], by go_num, by omega, by omega, HKB, HKA, by simp; omega, lk_grown HLA.out HR.out hg5, by rw [List.map_append]; exact hR5, hB5⟩, by simp [intOf]; omega⟩
            · go_wp2_with (((with_reducible refine gate_builtin (b := .append) (xs := #[.tmp 54, .tmp 56]) rfl ?_); at_builtin; refine Kd.R_append (Kd.int .i64) (w0 := w) base rfl (.tmp 54) (.tmp 56) 39 3 (.int .i64 0) 8 rfl Try.underlying39 info3 rfl (by decide) (by omega) u9 (K.map (fun (j : Nat) => (j : Int))) (i : Int) [.int .i64 i] (off (m + 1) m) (fun _ => False) rfl rfl ?aP (fun _ hk => hk.elim) HFR.out HR.out HB.out (by rw [← HBS.out]; exact HB.out.size) ?aL ?_; (case aP => exact rfl); (case aL => simp; omega); intro v1 w5 hR5 hB5 hg5 hat5))
              refine ⟨⟨i + 1, K ++ [i], by go_num, by omega, by omega, HKB, HKA, by simp; omega, lk_grown HLA.out HR.out hg5, by rw [List.map_append]; exact hR5, hB5⟩, by simp [intOf]; omega⟩
        · obtain hin : i = n := by omega
          subst i
          rw [Nat.sub_self, List.range'_zero, List.append_nil] at HL
          obtain ⟨Ao, co, hv⟩ := Kd.R_slice HR.out
          rw [List.length_map] at hv
          subst hv
          have hK64 : K.length ≤ 64 := by omega
          clear hlt hi
          go_wp2
          go_loopw [11] (fun v11 wx => ∃ j : Nat, v11 = .int .i64 j ∧ j ≤ K.length ∧ Hid (Lk wx (m + 1) m n ((K.drop j).map pr)) ∧ Hid ((Kd.int .i64).R 3 wx base (off (m + 1) m) (.slice Ao K.length co) (K.map (fun (j : Nat) => (j : Int)))) ∧ Hid (Below base w wx)) (fun v11 _ => K.length - (intOf v11).toNat)
          case atStart => exact ⟨0, rfl, Nat.zero_le _, HL, HR, HB⟩
          case round =>
            clear HL HR HB
            obtain ⟨j, rfl, hj, HL, HR, HB⟩ := hrel
            by_cases hjl : j < K.length
            · obtain ⟨a, hdrop, hrd⟩ := drop_pr hjl
              obtain ⟨ad, rfl⟩ := row_some HR.out (by omega)
              have hc0 := row_cell HR.out hjl
              rw [hrd] at hc0
              have hlen : ((K.drop j).map pr).length = K.length - j := by simp
              rw [hdrop] at HL hlen
              have HRD := Lib.hid hrd
              have S := step_len HL.out
              rw [hlen] at S
              have esub : ((K.length - j : Nat) : Int) = (K.length : Int) - (j : Int) := by omega
              rw [esub] at S
              clear hdrop hrd hlen esub
              go_wp2_with (first
                | (go_at_call 33; (with_reducible refine S.mono ?_); rintro e w5 ⟨rfl, rfl⟩)
                | (go_at_call 32; (with_reducible refine (step_free HL.out).mono ?_); rintro e w6 ⟨rfl, hL6, hF6⟩; have HL6 := Lib.hid hL6; have HR6 := Lib.hid (row_frm HR.out hF6); have HB6 := Lib.hid (frm_below HB.out hF6 hmt hmb (by rw [← HBS.out]; exact HB.out.size)); clear hL6 hF6)
                | (go_at_call 30; (with_reducible refine (step_has HL.out).mono ?_); rintro e w4 ⟨rfl, rfl⟩))
              go_roundw
              case rel => exact ⟨j + 1, by go_num, by omega, HL6, HR6, HB6⟩
              case measure => simp [intOf]; omega
            · obtain hjk : j = K.length := by omega
              subst j
              rw [List.drop_length, List.map_nil] at HL
              have S := step_len HL.out
              go_wp2_with (go_at_call 33; (with_reducible refine S.mono ?_); rintro e w5 ⟨rfl, rfl⟩)
              go_ret
              exact ⟨rfl, by rw [HBS.out]; exact HB.out⟩

theorem leaves_calls (n : Int) (A1 : Option Addr) (c1 : Nat) (l1 : List Bool) (w : World) (hr1 : Kd.bool.C w A1 l1.length l1) (hm1 : l1.length ≤ maxLen) :
    Calls Try.prog 14 #[.int .i64 n, .slice A1 l1.length c1] w fun e w' => e = .returned (.bool true) ∧ Below w.heap.size w w' := by
  by_cases h : n < 1 ∨ 64 < n
  · exact leaves_out n _ w h
  · obtain ⟨k, rfl⟩ := Int.eq_ofNat_of_zero_le (show 0 ≤ n by omega)
    exact leaves_in k A1 c1 l1 w hr1 hm1 (by omega) (by omega)
end Go.Proofs.Ytjihjmanndhdhaa.Turn
