/- TurnPlays, the walk: any calls: tickets are served in the order in which they were drawn: for all rows of calls, no condition. -/
import Derived.Test.YtjihjmanndhdhaaTurnD
import Derived.Test.YtjihjmanndhdhaaOpenB
import Derived.Deep.DeepCutAuto
import Derived.Deep.CutRange
import Derived.Deep.CutBlock
namespace Go.Proofs.Ytjihjmanndhdhaa.Turn
open Go.RowKit Go.Maps Go.Proofs.YtjihjmanndhdhaaW.PrintWords Go.Proofs.YtjihjmanndhdhaaW.PrintLast Go.Proofs.YtjihjmanndhdhaaW.PrintMore Go.Proofs.Ytjihjmanndhdhaa.Open
set_option linter.unusedVariables false
set_option linter.unusedSimpArgs false

def tplays.T24 : Bool × List (List Nat × List Nat) := (true, [([], []), ([], []), ([], []), ([1, 2], [1, 2]), ([0, 3], [0, 3]), ([], []), ([], []), ([6], [6]), ([5, 7], [5, 7]), ([4, 8, 4], [4, 8]), ([], []), ([], []), ([], []), ([11, 12], [11, 12]), ([10, 13, 9], [10, 13]), ([], []), ([], []), ([16], [16]), ([15, 17], [15, 17]), ([14, 18, 14], [14, 18]), ([9, 19, 0, 1, 2, 3, 4, 5, 6, 7, 8, 9], [1, 5, 9]), ([19, 20, 0, 1, 2, 3, 4, 5, 6, 7, 8, 9, 10, 11, 12, 13, 14, 15, 16, 17, 18, 19, 20], [11, 15, 19])])
def tplays.B24 : List Nat := [0, 0, 0, 6, 15, 0, 0, 64, 224, 511, 0, 0, 0, 6144, 16383, 0, 0, 65536, 229376, 524287, 1048575, 2097151]
theorem tplays.tab24 : rtab .any (opsOf Try.f13 24) = tplays.T24 := by kernel_rfl
theorem tplays.bits24 : waitsOk tplays.T24.2 tplays.B24 = true := by kernel_rfl

theorem info27 : (Try.prog.info? 27).map (fun i => (i.zero, i.size, i.bytes)) = some (some (.int .u32 0), 1, 4) := by kernel_rfl

theorem CW_at {wd w : World} {kd : IntKind} {A : Option Addr} {xs : List Int} (h : Hid ((Kd.int kd).C wd A xs.length xs)) (hb : Hid (Below wd.heap.size wd w)) (m : Nat) (hm : xs.length = m) : ReadsRow (fun (x : Int) cs => cs = [Value.int kd x]) 1 w A m xs := by
  subst hm
  exact Kd.C_below h.out hb.out

theorem apart_rows {w : World} {k1 k2 : IntKind} {e1 e2 b1 b2 : Nat} {ok1 ok2 : Nat → Prop} {v1 v2 : Value} {xs ys : List Int} (h1 : (Kd.int k1).R e1 w b1 ok1 v1 xs) (h2 : (Kd.int k2).R e2 w b2 ok2 v2 ys) (hne : e1 ≠ e2) : ∀ k, v2.ownBlock = some k → some k ≠ v1.ownBlock := by
  intro k hk he
  obtain ⟨c1, h3⟩ := Kd.R_typed h1 k he.symm
  obtain ⟨c2, h4⟩ := Kd.R_typed h2 k hk
  rw [h3] at h4
  injection h4 with h4
  injection h4 with _ h5 _
  exact hne h5

set_option maxHeartbeats 1000000 in
set_option maxRecDepth 100000 in
theorem tplays_long (A : Option Addr) (c : Nat) (l : List Act2) (w : World) (hlen : 200 < l.length) (hm : l.length ≤ maxLen) :
    Calls Try.prog 13 #[.slice A l.length c] w fun e w' => e = .returned (.bool true) ∧ Below w.heap.size w w' := by
  unfold maxLen at hm
  have AW := awake_calls w
  go_enter Try.func13, Try.ntmps13
  go_wp2_with (go_at_call 27; refine AW.mono ?_; rintro e w1 ⟨rfl, hB⟩)
  go_ret
  exact ⟨rfl, hB⟩

theorem VW.of_R {w : World} {t m N b : Nat} {v : Value} {q : List (Int × Nat)} {xs : List Int} (h : (Kd.int .i64).R 3 w b (fun k => N ≤ k) v xs) (hx : xs = q.map (·.1)) (ht : t < N) (hm : m < N) : VW w t m v q := by
  subst hx
  exact Kd.V_mono (Kd.R_V h) (fun k hk => ⟨by omega, by omega⟩)
theorem VT.of_R {w : World} {t m N b : Nat} {v : Value} {q : List (Int × Nat)} {xs : List Int} (h : (Kd.int .u32).R 27 w b (fun k => N ≤ k) v xs) (hx : xs = q.map (fun p => (p.2 : Int))) (ht : t < N) (hm : m < N) : VT w t m v q := by
  subst hx
  exact Kd.V_mono (Kd.R_V h) (fun k hk => ⟨by omega, by omega⟩)

set_option maxHeartbeats 8000000 in
set_option maxRecDepth 100000 in
theorem tplays_short (A : Option Addr) (c : Nat) (l : List Act2) (w : World) (hr : Acts2 w A l) (hlen : l.length ≤ 200) :
    Calls Try.prog 13 #[.slice A l.length c] w fun e w' => e = .returned (.bool true) ∧ Below w.heap.size w w' := by
  have AW := awake_calls w
  have HA := Lib.hid hr
  clear hr
  go_enter Try.func13, Try.ntmps13
  go_wp2_with (go_at_call 27; refine AW.mono ?_; rintro e w1 ⟨rfl, hB1⟩)
  clear AW
  have NN := new_calls w1
  have HB1 := Lib.hid hB1
  clear hB1
  go_wp2_with (go_at_call 28; (with_reducible refine NN.mono ?_); rintro e w2 ⟨rfl, hL2, hB2⟩)
  have HB2 := Lib.hid (below_then HB1.out HB1.out.size hB2)
  have HL2 := Lib.hid hL2
  have hmb : w.heap.size ≤ w1.heap.size := HB1.out.size
  clear hB2 hL2 NN HB1
  generalize w1.heap.size = m at *
  generalize hbs : w.heap.size = base at *
  have HBS := Lib.hid hbs
  clear hbs
  have hmt : base ≤ m + 1 := by omega
  go_loopw [4, 5, 6, 7] (fun v4 v5 v6 v7 wr => ∃ (i next : Nat) (q : List (Int × Nat)), v7 = .int .i64 i ∧ v6 = .int .u32 next ∧ i ≤ l.length ∧ next ≤ i ∧ Hid (Lk wr (m + 1) m next q) ∧ Hid (VW wr (m + 1) m v4 q) ∧ Hid (VT wr (m + 1) m v5 q) ∧ Hid (Below base w wr)) (fun _ _ _ v7 _ => l.length - (intOf v7).toNat)
  case atStart => exact ⟨0, 0, [], rfl, rfl, Nat.zero_le _, Nat.le_refl _, HL2, Lib.hid (Kd.V_nil _ _ _ _ _), Lib.hid (Kd.V_nil _ _ _ _ _), HB2⟩
  case round =>
    clear HL2 HB2
    obtain ⟨i, next, q, rfl, rfl, hi, hni, HL, HV4, HV5, HB⟩ := hrel
    by_cases hlt : i < l.length
    · obtain ⟨hwf, ad, rfl, d0, d1⟩ := HA.out i hlt
      have k0 := (HB.out.cell (by rw [← HBS.out]; exact World.block_lt_of_cell? w _ d0)).trans d0
      have k1 := (HB.out.cell (by rw [← HBS.out]; exact World.block_lt_of_cell? w _ d1)).trans d1
      generalize l[i].op = op at *
      generalize l[i].who = x at *
      clear d0 d1
      obtain ⟨A4, c4, h4, hc4⟩ := HV4.out.form
      obtain ⟨A5, c5, h5, hc5⟩ := HV5.out.form
      subst h4 h5
      have hqn : q.length ≤ 64 := HL.out.good.few
      go_wp2
      go_loop [9, 10] (fun v9 v10 => ∃ (k : Nat) (a : Int), v10 = .int .i64 k ∧ v9 = .int .i64 a ∧ k ≤ q.length ∧ Hid (PosOk q x k a)) (fun _ v10 => q.length - (intOf v10).toNat)
      case atStart => exact ⟨0, -1, rfl, rfl, Nat.zero_le _, Lib.hid (PosOk.start q x)⟩
      case round =>
        obtain ⟨k, a, rfl, rfl, hk, HP⟩ := hrel
        by_cases hkl : k < q.length
        · obtain ⟨ax, rfl, hcell⟩ := HV4.out.cell hkl
          have hrd := rd_at hkl
          generalize q[k].1 = y at *
          by_cases hy : y = x
          · subst hy
            have HP2 := Lib.hid (PosOk.hit hrd)
            clear hrd
            go_wp2
            go_round
            case rel => exact ⟨k + 1, k, by go_num, rfl, by omega, HP2⟩
            case measure => simp [intOf]; omega
          · have HP2 := Lib.hid (HP.out.miss (by rw [hrd]; exact hy))
            have hyb : (y == x) = false := by simp [hy]
            clear hrd hy
            go_wp2
            go_round
            case rel => exact ⟨k + 1, a, by go_num, rfl, by omega, HP2⟩
            case measure => simp [intOf]; omega
        · obtain rfl : k = q.length := by omega
          have hpos := HP.out.done
          have HPO := Lib.hid hpos
          clear HP hk hkl hpos
          go_upto_block 4 with fail
          go_cut [4, 5, 6, 11, 12, 13, 14] from 23 to 231 (fun v4 v5 v6 v11 v12 v13 v14 wx => ∃ (next2 : Nat) (q2 : List (Int × Nat)), v6 = .int .u32 next2 ∧ next2 ≤ i + 1 ∧ Hid (Lk wx (m + 1) m next2 q2) ∧ Hid (VW wx (m + 1) m v4 q2) ∧ Hid (VT wx (m + 1) m v5 q2) ∧ Hid (Below base w wx))
          case first =>
            by_cases o0 : op = 0
            · subst o0
              rcases HPO.out with ⟨rfl, hany⟩ | ⟨j, hj, rfl, hx⟩
              · by_cases c2 : x < 0 ∨ 256 ≤ x
                · as_aux_lemma =>
                  have D := (draw_arg (m + 1) m next q x wr HL.out hwf hany c2).mono (fun _ _ ⟨a, b⟩ => (⟨a, b.symm⟩ : _ ∧ wr = _))
                  have c2' : x < 0 ∨ (0 ≤ x ∧ 255 < x) := by omega
                  clear c2 hany
                  rcases c2' with h | ⟨h, h'⟩
                  all_goals
                    go_wp2_with (go_at_call 29; (with_reducible refine D.mono ?_); rintro e w' ⟨rfl, rfl⟩)
                    go_meet
                    exact ⟨next, q, rfl, by omega, HL, HV4, HV5, HB⟩
                · have hx0 : 0 ≤ x := by omega
                  have hx1 : x ≤ 255 := by omega
                  by_cases c3 : q.length = 64
                  · as_aux_lemma =>
                    have D := (draw_full (m + 1) m next q x wr HL.out hwf hany hx0 (by omega) c3).mono (fun _ _ ⟨a, b⟩ => (⟨a, b.symm⟩ : _ ∧ wr = _))
                    have c3' : 64 ≤ q.length := by omega
                    clear c2 c3 hany
                    go_wp2_with (go_at_call 29; (with_reducible refine D.mono ?_); rintro e w' ⟨rfl, rfl⟩)
                    go_meet
                    exact ⟨next, q, rfl, by omega, HL, HV4, HV5, HB⟩
                  · have c3' : q.length < 64 := by omega
                    as_aux_lemma =>
                    have D := draw_ok (m + 1) m next q x wr HL.out hwf hany hx0 (by omega) c3' (by omega)
                    have hnx : (next : Int) ≤ 1000 := by omega
                    obtain ⟨ws, hws⟩ : ∃ ws, ws = q.map (·.1) := ⟨_, rfl⟩
                    obtain ⟨ts, hts⟩ : ∃ ts, ts = q.map (fun p => (p.2 : Int)) := ⟨_, rfl⟩
                    have hwlen : ws.length = q.length := by rw [hws]; simp
                    have htlen : ts.length = q.length := by rw [hts]; simp
                    have hwn1 : q.length ≤ ws.length := by omega
                    have hwn2 : ws.length ≤ q.length := by omega
                    have htn1 : q.length ≤ ts.length := by omega
                    have htn2 : ts.length ≤ q.length := by omega
                    have HWE := Lib.hid hws
                    have HTE := Lib.hid hts
                    clear c2 c3 hany hws hts hwlen htlen
                    go_wp2_with (first
                      | (go_at_call 29; (with_reducible refine D.mono ?_); rintro e w3 ⟨rfl, hL3, hF3⟩; have HV43 := Lib.hid (HV4.out.frm hF3); have HV53 := Lib.hid (HV5.out.frm hF3); have HB3 := Lib.hid (frm_below HB.out hF3 hmt hmb (by rw [← HBS.out]; exact HB.out.size)); have HL3 := Lib.hid hL3; have HWS : Hid ((Kd.int .i64).C w3 A4 ws.length ws) := (by rw [HWE.out]; exact Lib.hid HV43.out.reads); have HTS : Hid ((Kd.int .u32).C w3 A5 ts.length ts) := (by rw [HTE.out]; exact Lib.hid HV53.out.reads); have HW3 : Hid (Below w3.heap.size w3 w3) := Lib.hid (Below.refl _ _); clear hL3 hF3 HV43 HV53 D)
                      | ((with_reducible refine gate_dst (N := 113) rfl ?_); (try (refine gate_guard (by rfl) ?_; dsimp only)); refine Kd.R_lit (Kd.int .i64) (w0 := w3) w3.heap.size 3 ?hg (N := 113) ?hd (xs := ([] : List Int)) (inner := []) (ok := fun k => w3.heap.size ≤ k) (okp := fun _ => False) ?hr ?hp (fun _ hk => hk.elim) HW3.out.size HW3.out HW3.out.size (by simp) ?_; (case hd => rfl); (case hg => rfl); (case hr => first | (go_simp; done) | (go_simp; rfl)); (case hp => exact Reps.none _ _); intro v113 w4 hR hBl hg _; have HA4 := Lib.hid hR; have HW4 := Lib.hid hBl; clear hR hBl hg)
                      | ((with_reducible refine gate_builtin (b := .append) (xs := #[.tmp 113, .tmp 114]) rfl ?_); at_builtin; refine Kd.R_append_rows (Kd.int .i64) (Rr := fun (y : Int) cs => cs = [.int .i64 y]) (w0 := w3) w3.heap.size rfl (.tmp 113) (.tmp 114) 39 3 (.int .i64 0) 8 rfl Try.underlying39 info3 rfl (by decide) (by omega) v113 [] ws A4 q.length c4 (fun k => w3.heap.size ≤ k) (fun _ => False) rfl rfl HA4.out (CW_at HWS HW4 q.length (by omega)) (fun _ _ h => h) (fun _ h => h.elim) (fun k hk => Nat.le_trans HW4.out.size hk) HW4.out HW4.out.size (by first | (simp; done) | (simp; omega) | omega) ?_; intro v115 w5 hR hBl hg _; have HA5 := Lib.hid hR; have HW5 := Lib.hid hBl; clear hR hBl hg HA4 HW4)
                      | ((with_reducible refine gate_builtin (b := .append) (xs := #[.tmp 115, .tmp 117]) rfl ?_); at_builtin; refine Kd.R_append (Kd.int .i64) (w0 := w3) w3.heap.size rfl (.tmp 115) (.tmp 117) 39 3 (.int .i64 0) 8 rfl Try.underlying39 info3 rfl (by decide) (by omega) v115 ([] ++ ws) x [.int .i64 x] (fun k => w3.heap.size ≤ k) (fun _ => False) rfl rfl ?aP (fun _ hk => hk.elim) (fun k hk => Nat.le_trans HW5.out.size hk) HA5.out HW5.out HW5.out.size ?aL ?_; (case aP => exact rfl); (case aL => (first | (simp; done) | (simp; omega) | omega)); intro v118 w6 hR hBl hg _; have HA6 := Lib.hid hR; have HW6 := Lib.hid hBl; clear hR hBl hg HA5 HW5)
                      | ((with_reducible refine gate_dst (N := 119) rfl ?_); (try (refine gate_guard (by rfl) ?_; dsimp only)); refine Kd.R_lit (Kd.int .u32) (w0 := w3) w3.heap.size 27 ?hg (N := 119) ?hd (xs := ([] : List Int)) (inner := []) (ok := fun k => w3.heap.size ≤ k) (okp := fun _ => False) ?hr ?hp (fun _ hk => hk.elim) HW6.out.size HW6.out HW6.out.size (by simp) ?_; (case hd => rfl); (case hg => rfl); (case hr => first | (go_simp; done) | (go_simp; rfl)); (case hp => exact Reps.none _ _); intro v119 w7 hR hBl hg _; have HA7 := Lib.hid (Kd.R_grown2 HA6.out rfl hg (fun _ h => by cases h)); have HT7 := Lib.hid hR; have HW7 := Lib.hid hBl; clear hR hBl hg HA6 HW6)
                      | ((with_reducible refine gate_builtin (b := .append) (xs := #[.tmp 119, .tmp 120]) rfl ?_); at_builtin; refine Kd.R_append_rows (Kd.int .u32) (Rr := fun (y : Int) cs => cs = [.int .u32 y]) (w0 := w3) w3.heap.size rfl (.tmp 119) (.tmp 120) 74 27 (.int .u32 0) 4 rfl Try.underlying74 info27 rfl (by decide) (by omega) v119 [] ts A5 q.length c5 (fun k => w3.heap.size ≤ k) (fun _ => False) rfl rfl HT7.out (CW_at HTS HW7 q.length (by omega)) (fun _ _ h => h) (fun _ h => h.elim) (fun k hk => Nat.le_trans HW7.out.size hk) HW7.out HW7.out.size (by first | (simp; done) | (simp; omega) | omega) ?_; intro v121 w8 hR hBl hg _; have HA8 := Lib.hid (Kd.R_grown2 HA7.out rfl hg (apart_rows HA7.out HT7.out (by decide))); have HT8 := Lib.hid hR; have HW8 := Lib.hid hBl; clear hR hBl hg HA7 HT7 HW7)
                      | ((with_reducible refine gate_builtin (b := .append) (xs := #[.tmp 121, .tmp 123]) rfl ?_); at_builtin; refine Kd.R_append (Kd.int .u32) (w0 := w3) w3.heap.size rfl (.tmp 121) (.tmp 123) 74 27 (.int .u32 0) 4 rfl Try.underlying74 info27 rfl (by decide) (by omega) v121 ([] ++ ts) (next : Int) [.int .u32 (next : Int)] (fun k => w3.heap.size ≤ k) (fun _ => False) rfl rfl ?aP (fun _ hk => hk.elim) (fun k hk => Nat.le_trans HW8.out.size hk) HT8.out HW8.out HW8.out.size ?aL ?_; (case aP => exact rfl); (case aL => (first | (simp; done) | (simp; omega) | omega)); intro v124 w9 hR hBl hg _; have HA9 := Lib.hid (Kd.R_grown2 HA8.out rfl hg (apart_rows HA8.out HT8.out (by decide))); have HT9 := Lib.hid hR; have HW9 := Lib.hid hBl; clear hR hBl hg HA8 HT8 HW8))
                    have hl1 := HL3.out.lt_t
                    have hl2 := HL3.out.lt_m
                    have HV46 := Lib.hid (VW.of_R HA9.out (q := q ++ [(x, next)]) (by rw [HWE.out]; simp) hl1 hl2)
                    have HV56 := Lib.hid (VT.of_R HT9.out (q := q ++ [(x, next)]) (by rw [HTE.out]; simp) hl1 hl2)
                    have HL6 := Lib.hid (HL3.out.of_frm (Frm.of_below (fun _ => False) HW9.out) (fun h => h) (fun h => h))
                    have HB6 := Lib.hid (HB3.out.trans (HW9.out.mono (by rw [← HBS.out]; exact HB3.out.size)))
                    go_meet
                    exact ⟨next + 1, q ++ [(x, next)], by go_num, by omega, HL6, HV46, HV56, HB6⟩
              · as_aux_lemma =>
                have D := (draw_busy (m + 1) m next q x wr HL.out hwf (by rw [← hx]; exact any_at hj)).mono (fun _ _ ⟨a, b⟩ => (⟨a, b.symm⟩ : _ ∧ wr = _))
                clear hx HPO
                go_wp2_with (go_at_call 29; (with_reducible refine D.mono ?_); rintro e w' ⟨rfl, rfl⟩)
                go_meet
                exact ⟨next, q, rfl, by omega, HL, HV4, HV5, HB⟩
            · have o0b : (op == 0) = false := by simp [o0]
              by_cases o1 : op = 1
              · subst o1
                clear o0 o0b
                rcases HPO.out with ⟨rfl, hany⟩ | ⟨j, hj, rfl, hx⟩
                · as_aux_lemma =>
                  have D := (free_none (m + 1) m next q x wr HL.out hwf hany).mono (fun _ _ ⟨a, b⟩ => (⟨a, b.symm⟩ : _ ∧ wr = _))
                  clear hany
                  go_wp2_with (go_at_call 32; (with_reducible refine D.mono ?_); rintro e w' ⟨rfl, rfl⟩)
                  go_meet
                  exact ⟨next, q, rfl, by omega, HL, HV4, HV5, HB⟩
                · have hfa := first_at HL.out.good hj
                  have hin := any_at hj
                  rw [hx] at hfa hin
                  by_cases hj0 : j = 0
                  · subst hj0
                    as_aux_lemma =>
                    have D := free_ok (m + 1) m next q x wr HL.out hwf hin (by rw [hfa]; simp)
                    have ho := out_at HL.out.good hj
                    rw [hx, List.take_zero, List.nil_append, Nat.zero_add] at ho
                    obtain ⟨p, r, rfl⟩ : ∃ p r, q = p :: r := by
                      cases q with
                      | nil => exact absurd hj (by simp)
                      | cons p r => exact ⟨p, r, rfl⟩
                    rw [show (p :: r).drop 1 = r by simp] at ho
                    rw [ho] at D
                    obtain ⟨i3, hi3, _, hz3, _⟩ := info_parts info3
                    obtain ⟨i27, hi27, _, hz27, _⟩ := info_parts info27
                    rw [List.length_cons] at HV4 HV5
                    have hu1 := cut_from (P := Try.prog) 39 3 .i64 Try.underlying39 hi3 1 hz3 A4 (r.length + 1) c4 1 (by omega) (by omega)
                    have hu2 := cut_from (P := Try.prog) 74 27 .i64 Try.underlying74 hi27 1 hz27 A5 (r.length + 1) c5 1 (by omega) (by omega)
                    rw [show (1 : Int).toNat = 1 from rfl, Nat.add_sub_cancel] at hu1 hu2
                    have HVT4 := Lib.hid HV4.out.tail
                    have HVT5 := Lib.hid HV5.out.tail
                    obtain ⟨A4', hA4⟩ : ∃ A', A' = (if c4 = 1 then A4 else A4.map (·.add (1 * 1))) := ⟨_, rfl⟩
                    obtain ⟨A5', hA5⟩ : ∃ A', A' = (if c5 = 1 then A5 else A5.map (·.add (1 * 1))) := ⟨_, rfl⟩
                    rw [← hA4] at hu1 HVT4
                    rw [← hA5] at hu2 HVT5
                    clear hA4 hA5 ho hfa hin hx HPO hi3 hz3 hi27 hz27
                    go_wp2_with (go_at_call 32; (with_reducible refine D.mono ?_); rintro e w3 ⟨rfl, hL3, hF3⟩; have HV43 := Lib.hid (HVT4.out.frm hF3); have HV53 := Lib.hid (HVT5.out.frm hF3); have HB3 := Lib.hid (frm_below HB.out hF3 hmt hmb (by rw [← HBS.out]; exact HB.out.size)); have HL3 := Lib.hid hL3; clear hL3 hF3 D)
                    refine start_ (n := 6) (S := fun w' => True) (ds := []) #[false, false, false, false, false, false] (by kernel_rfl) rfl rfl trivial (fun hHeld => ?_)
                    refine pure_ (i := 0) (N := some 175) (v := ?_) (a' := ?_) #[true, false, false, false, false, false] rfl rfl (by kernel_rfl) (fun _ _ _ h => h) (Or.inl ⟨by rfl, ?_⟩) ?_ ?_
                    rotate_left
                    · intro w'
                      go_simp
                      with_reducible rfl
                    rotate_left
                    · simp only [Act.put, List.setIfInBounds_toArray, List.set_cons_zero, List.set_cons_succ, i64_w, i32_w]
                      rfl
                    refine pure_ (i := 1) (N := some 176) (v := ?_) (a' := ?_) #[true, true, false, false, false, false] rfl rfl (by kernel_rfl) (fun _ _ _ h => h) (Or.inl ⟨by rfl, ?_⟩) ?_ ?_
                    rotate_left
                    · intro w'
                      go_simp
                      with_reducible rfl
                    rotate_left
                    · simp only [Act.put, List.setIfInBounds_toArray, List.set_cons_zero, List.set_cons_succ, i64_w, i32_w]
                      rfl
                    refine pure_ (i := 2) (N := some 177) (v := ?_) (a' := ?_) #[true, true, true, false, false, false] rfl rfl (by kernel_rfl) (fun _ _ _ h => h) (Or.inl ⟨by rfl, ?_⟩) ?_ ?_
                    rotate_left
                    · intro w'
                      go_simp
                      with_reducible rfl
                    rotate_left
                    · simp only [Act.put, List.setIfInBounds_toArray, List.set_cons_zero, List.set_cons_succ, i64_w, i32_w]
                      rfl
                    refine pure_ (i := 3) (N := some 178) (v := ?_) (a' := ?_) #[true, true, true, true, false, false] rfl rfl (by kernel_rfl) (fun _ _ _ h => h) (Or.inl ⟨by rfl, ?_⟩) ?_ ?_
                    rotate_left
                    · intro w'
                      go_simp
                      with_reducible rfl
                    rotate_left
                    · simp only [Act.put, List.setIfInBounds_toArray, List.set_cons_zero, List.set_cons_succ, i64_w, i32_w]
                      rfl
                    refine pure_ (i := 4) (N := some 4) (v := ?_) (a' := ?_) #[true, true, true, true, true, false] rfl rfl (by kernel_rfl) (fun _ _ _ h => h) (Or.inl ⟨by rfl, ?_⟩) ?_ ?_
                    rotate_left
                    · intro w'
                      go_simp
                      with_reducible rfl
                    rotate_left
                    · simp only [Act.put, List.setIfInBounds_toArray, List.set_cons_zero, List.set_cons_succ, i64_w, i32_w]
                      rfl
                    refine pure_ (i := 5) (N := some 5) (v := ?_) (a' := ?_) #[true, true, true, true, true, true] rfl rfl (by kernel_rfl) (fun _ _ _ h => h) (Or.inl ⟨by rfl, ?_⟩) ?_ ?_
                    rotate_left
                    · intro w'
                      go_simp
                      with_reducible rfl
                    rotate_left
                    · simp only [Act.put, List.setIfInBounds_toArray, List.set_cons_zero, List.set_cons_succ, i64_w, i32_w]
                      rfl
                    refine done_ (by kernel_rfl) ?_
                    go_wp2
                    go_meet
                    exact ⟨next, r, rfl, by omega, HL3.out.of_frm (Frm.refl _ (fun _ => False)).drew (fun h => h) (fun h => h), HV43.out.frm (Frm.refl _ _).drew, HV53.out.frm (Frm.refl _ _).drew, Below.drew HB3.out⟩
                  · as_aux_lemma =>
                    have D := (free_busy (m + 1) m next q x wr HL.out hwf hin (by rw [hfa]; simp [hj0])).mono (fun _ _ ⟨a, b⟩ => (⟨a, b.symm⟩ : _ ∧ wr = _))
                    have hjp : 0 < j := by omega
                    clear hfa hin hx HPO hj0
                    go_wp2_with (go_at_call 32; (with_reducible refine D.mono ?_); rintro e w' ⟨rfl, rfl⟩)
                    go_meet
                    exact ⟨next, q, rfl, by omega, HL, HV4, HV5, HB⟩
              · have o1b : (op == 1) = false := by simp [o1]
                clear o0 o1
                rcases HPO.out with ⟨rfl, hany⟩ | ⟨j, hj, rfl, hx⟩
                · as_aux_lemma =>
                  have D := (leave_none (m + 1) m next q x wr HL.out hwf hany).mono (fun _ _ ⟨a, b⟩ => (⟨a, b.symm⟩ : _ ∧ wr = _))
                  clear hany
                  go_wp2_with (go_at_call 44; (with_reducible refine D.mono ?_); rintro e w' ⟨rfl, rfl⟩)
                  go_meet
                  exact ⟨next, q, rfl, by omega, HL, HV4, HV5, HB⟩
                · have hfa := first_at HL.out.good hj
                  have hin := any_at hj
                  rw [hx] at hfa hin
                  by_cases hj0 : j = 0
                  · subst hj0
                    as_aux_lemma =>
                    have D := (leave_first (m + 1) m next q x wr HL.out hwf hin (by rw [hfa]; simp)).mono (fun _ _ ⟨a, b⟩ => (⟨a, b.symm⟩ : _ ∧ wr = _))
                    clear hfa hin hx HPO
                    go_wp2_with (go_at_call 44; (with_reducible refine D.mono ?_); rintro e w' ⟨rfl, rfl⟩)
                    go_meet
                    exact ⟨next, q, rfl, by omega, HL, HV4, HV5, HB⟩
                  · as_aux_lemma =>
                    have D := leave_ok (m + 1) m next q x wr HL.out hwf hin (by rw [hfa]; simp [hj0])
                    have ho := out_at HL.out.good hj
                    rw [hx] at ho
                    rw [ho] at D
                    obtain ⟨b, rfl⟩ : ∃ b, b = j := ⟨_, rfl⟩
                    have hbp : 0 < b := by omega
                    have hb0 : (0 : Int) ≤ (b : Int) := by omega
                    have hbl : (b : Int) ≤ (q.length : Int) := by omega
                    obtain ⟨i3, hi3, _, hz3, _⟩ := info_parts info3
                    obtain ⟨i27, hi27, _, hz27, _⟩ := info_parts info27
                    have hu1 := cut_to (P := Try.prog) 39 3 .i64 Try.underlying39 hi3 A4 q.length c4 (b : Int) hb0 (by omega) hc4
                    have hu2 := cut_from (P := Try.prog) 39 3 .i64 Try.underlying39 hi3 1 hz3 A4 q.length c4 ((b : Int) + 1) (by omega) (by omega)
                    have hu3 := cut_to (P := Try.prog) 74 27 .i64 Try.underlying74 hi27 A5 q.length c5 (b : Int) hb0 (by omega) hc5
                    have hu4 := cut_from (P := Try.prog) 74 27 .i64 Try.underlying74 hi27 1 hz27 A5 q.length c5 ((b : Int) + 1) (by omega) (by omega)
                    rw [Int.toNat_natCast] at hu1 hu3
                    rw [show ((b : Int) + 1).toNat = b + 1 by omega] at hu2 hu4
                    obtain ⟨A4', hA4⟩ : ∃ A', A' = (if c4 = b + 1 then A4 else A4.map (·.add ((b + 1) * 1))) := ⟨_, rfl⟩
                    obtain ⟨A5', hA5⟩ : ∃ A', A' = (if c5 = b + 1 then A5 else A5.map (·.add ((b + 1) * 1))) := ⟨_, rfl⟩
                    rw [← hA4] at hu2
                    rw [← hA5] at hu4
                    have hw1 : IntKind.i64.wrap ((b : Int) + 1) = (b : Int) + 1 := by rw [IntKind.wrap_i64]; omega
                    have HX4 := Lib.hid hA4
                    have HX5 := Lib.hid hA5
                    clear hA4 hA5 ho hfa hin hx HPO hi3 hz3 hi27 hz27 hj0
                    go_wp2_with (go_at_call 44; (with_reducible refine D.mono ?_); rintro e w3 ⟨rfl, hL3, hF3⟩; have HV43 := Lib.hid (HV4.out.frm hF3); have HV53 := Lib.hid (HV5.out.frm hF3); have HB3 := Lib.hid (frm_below HB.out hF3 hmt hmb (by rw [← HBS.out]; exact HB.out.size)); have HL3 := Lib.hid hL3; clear hL3 hF3 D)
                    have hdr : Below w3.heap.size w3 w3.drew := ⟨rfl, rfl, rfl, Nat.le_refl _, fun _ _ => rfl⟩
                    have hrd4 := (HV43.out.below hdr).reads
                    have hrd5 := (HV53.out.below hdr).reads
                    have hwlen : (q.map (·.1)).length = q.length := by simp
                    have htlen : (q.map (fun p => (p.2 : Int))).length = q.length := by simp
                    obtain ⟨ws, hws⟩ : ∃ ws, ws = q.map (·.1) := ⟨_, rfl⟩
                    obtain ⟨ts, hts⟩ : ∃ ts, ts = q.map (fun p => (p.2 : Int)) := ⟨_, rfl⟩
                    rw [← hws] at hrd4 hwlen
                    rw [← hts] at hrd5 htlen
                    have hwn1 : q.length ≤ ws.length := by omega
                    have hwn2 : ws.length ≤ q.length := by omega
                    have htn1 : q.length ≤ ts.length := by omega
                    have htn2 : ts.length ≤ q.length := by omega
                    have HW1 := Lib.hid (Kd.C_take hrd4 (m := b) (by omega))
                    have HT1 := Lib.hid (Kd.C_take hrd5 (m := b) (by omega))
                    have HW2 : Hid ((Kd.int .i64).C w3.drew A4' (ws.drop (b + 1)).length (ws.drop (b + 1))) := by rw [HX4.out]; exact Kd.C_drop hrd4 (m := b + 1) (c := c4) (by omega) (by omega)
                    have HT2 : Hid ((Kd.int .u32).C w3.drew A5' (ts.drop (b + 1)).length (ts.drop (b + 1))) := by rw [HX5.out]; exact Kd.C_drop hrd5 (m := b + 1) (c := c5) (by omega) (by omega)
                    have HLd : Hid (Lk w3.drew (m + 1) m next (q.take b ++ q.drop (b + 1))) := Lib.hid (HL3.out.of_frm (Frm.refl _ (fun _ => False)).drew (fun h => h) (fun h => h))
                    have HBd : Hid (Below base w w3.drew) := Lib.hid (Below.drew HB3.out)
                    have HWE := Lib.hid hws
                    have HTE := Lib.hid hts
                    clear hrd4 hrd5 hwlen htlen hws hts HV43 HV53 HB3 HL3 HX4 HX5 hdr
                    refine start_ (n := 22) (S := fun w' => True) (ds := []) #[false, false, false, false, false, false, false, false, false, false, false, false, false, false, false, false, false, false, false, false, false, false] (by kernel_rfl) rfl rfl trivial (fun hHeld => ?_)
                    refine with_tabW tplays.tab24 tplays.bits24 (fun HT_ HW_ => ?_)
                    generalize hwd : w3.drew = wd at *
                    clear hwd
                    have hW : Hid (Below wd.heap.size wd wd) := Lib.hid (Below.refl _ _)
                    refine pure_ (i := 1) (N := some 79) (v := ?_) (a' := ?_) #[false, true, false, false, false, false, false, false, false, false, false, false, false, false, false, false, false, false, false, false, false, false] rfl rfl (any_of HT_.out (by kernel_rfl)) (fun _ _ _ h => h) (Or.inl ⟨by rfl, ?_⟩) ?_ ?_
                    rotate_left
                    · intro w'
                      go_simp
                      with_reducible rfl
                    rotate_left
                    · simp only [Act.put, List.setIfInBounds_toArray, List.set_cons_zero, List.set_cons_succ, i64_w, i32_w]
                      rfl
                    refine pure_ (i := 2) (N := some 80) (v := ?_) (a' := ?_) #[false, true, true, false, false, false, false, false, false, false, false, false, false, false, false, false, false, false, false, false, false, false] rfl rfl (any_of HT_.out (by kernel_rfl)) (fun _ _ _ h => h) (Or.inl ⟨by rfl, ?_⟩) ?_ ?_
                    rotate_left
                    · intro w'
                      go_simp
                      with_reducible rfl
                    rotate_left
                    · simp only [Act.put, List.setIfInBounds_toArray, List.set_cons_zero, List.set_cons_succ, i64_w, i32_w]
                      rfl
                    refine pure_ (i := 3) (N := some 81) (v := ?_) (a' := ?_) #[false, true, true, true, false, false, false, false, false, false, false, false, false, false, false, false, false, false, false, false, false, false] rfl rfl (any_of HT_.out (by kernel_rfl)) (fun _ _ _ h => h) (Or.inl ⟨by rfl, ?_⟩) ?_ ?_
                    rotate_left
                    · intro w'
                      go_simp
                      with_reducible rfl
                    rotate_left
                    · simp only [Act.put, List.setIfInBounds_toArray, List.set_cons_zero, List.set_cons_succ, i64_w, i32_w]
                      rfl
                    refine pure_ (i := 5) (N := some 83) (v := ?_) (a' := ?_) #[false, true, true, true, false, true, false, false, false, false, false, false, false, false, false, false, false, false, false, false, false, false] rfl rfl (any_of HT_.out (by kernel_rfl)) (fun _ _ _ h => h) (Or.inl ⟨by rfl, ?_⟩) ?_ ?_
                    rotate_left
                    · intro w'
                      go_simp
                      with_reducible rfl
                    rotate_left
                    · simp only [Act.put, List.setIfInBounds_toArray, List.set_cons_zero, List.set_cons_succ, i64_w, i32_w]
                      rfl
                    refine pure_ (i := 6) (N := some 84) (v := ?_) (a' := ?_) #[false, true, true, true, false, true, true, false, false, false, false, false, false, false, false, false, false, false, false, false, false, false] rfl rfl (any_of HT_.out (by kernel_rfl)) (fun _ _ _ h => h) (Or.inl ⟨by rfl, ?_⟩) ?_ ?_
                    rotate_left
                    · intro w'
                      go_simp
                      with_reducible rfl
                    rotate_left
                    · simp only [Act.put, List.setIfInBounds_toArray, List.set_cons_zero, List.set_cons_succ, i64_w, i32_w]
                      rfl
                    refine pure_ (i := 7) (N := some 85) (v := ?_) (a' := ?_) #[false, true, true, true, false, true, true, true, false, false, false, false, false, false, false, false, false, false, false, false, false, false] rfl rfl (any_of HT_.out (by kernel_rfl)) (fun _ _ _ h => h) (Or.inl ⟨by rfl, ?_⟩) ?_ ?_
                    rotate_left
                    · intro w'
                      go_simp
                      with_reducible rfl
                    rotate_left
                    · simp only [Act.put, List.setIfInBounds_toArray, List.set_cons_zero, List.set_cons_succ, i64_w, i32_w]
                      rfl
                    refine pure_ (i := 8) (N := some 86) (v := ?_) (a' := ?_) #[false, true, true, true, false, true, true, true, true, false, false, false, false, false, false, false, false, false, false, false, false, false] rfl rfl (any_of HT_.out (by kernel_rfl)) (fun _ _ _ h => h) (Or.inl ⟨by rfl, ?_⟩) ?_ ?_
                    rotate_left
                    · intro w'
                      go_simp
                      with_reducible rfl
                    rotate_left
                    · simp only [Act.put, List.setIfInBounds_toArray, List.set_cons_zero, List.set_cons_succ, i64_w, i32_w]
                      rfl
                    refine pure_ (i := 11) (N := some 89) (v := ?_) (a' := ?_) #[false, true, true, true, false, true, true, true, true, false, false, true, false, false, false, false, false, false, false, false, false, false] rfl rfl (any_of HT_.out (by kernel_rfl)) (fun _ _ _ h => h) (Or.inl ⟨by rfl, ?_⟩) ?_ ?_
                    rotate_left
                    · intro w'
                      go_simp
                      with_reducible rfl
                    rotate_left
                    · simp only [Act.put, List.setIfInBounds_toArray, List.set_cons_zero, List.set_cons_succ, i64_w, i32_w]
                      rfl
                    refine pure_ (i := 12) (N := some 90) (v := ?_) (a' := ?_) #[false, true, true, true, false, true, true, true, true, false, false, true, true, false, false, false, false, false, false, false, false, false] rfl rfl (any_of HT_.out (by kernel_rfl)) (fun _ _ _ h => h) (Or.inl ⟨by rfl, ?_⟩) ?_ ?_
                    rotate_left
                    · intro w'
                      go_simp
                      with_reducible rfl
                    rotate_left
                    · simp only [Act.put, List.setIfInBounds_toArray, List.set_cons_zero, List.set_cons_succ, i64_w, i32_w]
                      rfl
                    refine pure_ (i := 13) (N := some 91) (v := ?_) (a' := ?_) #[false, true, true, true, false, true, true, true, true, false, false, true, true, true, false, false, false, false, false, false, false, false] rfl rfl (any_of HT_.out (by kernel_rfl)) (fun _ _ _ h => h) (Or.inl ⟨by rfl, ?_⟩) ?_ ?_
                    rotate_left
                    · intro w'
                      go_simp
                      with_reducible rfl
                    rotate_left
                    · simp only [Act.put, List.setIfInBounds_toArray, List.set_cons_zero, List.set_cons_succ, i64_w, i32_w]
                      rfl
                    refine pure_ (i := 15) (N := some 93) (v := ?_) (a' := ?_) #[false, true, true, true, false, true, true, true, true, false, false, true, true, true, false, true, false, false, false, false, false, false] rfl rfl (any_of HT_.out (by kernel_rfl)) (fun _ _ _ h => h) (Or.inl ⟨by rfl, ?_⟩) ?_ ?_
                    rotate_left
                    · intro w'
                      go_simp
                      with_reducible rfl
                    rotate_left
                    · simp only [Act.put, List.setIfInBounds_toArray, List.set_cons_zero, List.set_cons_succ, i64_w, i32_w]
                      rfl
                    refine pure_ (i := 16) (N := some 94) (v := ?_) (a' := ?_) #[false, true, true, true, false, true, true, true, true, false, false, true, true, true, false, true, true, false, false, false, false, false] rfl rfl (any_of HT_.out (by kernel_rfl)) (fun _ _ _ h => h) (Or.inl ⟨by rfl, ?_⟩) ?_ ?_
                    rotate_left
                    · intro w'
                      go_simp
                      with_reducible rfl
                    rotate_left
                    · simp only [Act.put, List.setIfInBounds_toArray, List.set_cons_zero, List.set_cons_succ, i64_w, i32_w]
                      rfl
                    refine pure_ (i := 17) (N := some 95) (v := ?_) (a' := ?_) #[false, true, true, true, false, true, true, true, true, false, false, true, true, true, false, true, true, true, false, false, false, false] rfl rfl (any_of HT_.out (by kernel_rfl)) (fun _ _ _ h => h) (Or.inl ⟨by rfl, ?_⟩) ?_ ?_
                    rotate_left
                    · intro w'
                      go_simp
                      with_reducible rfl
                    rotate_left
                    · simp only [Act.put, List.setIfInBounds_toArray, List.set_cons_zero, List.set_cons_succ, i64_w, i32_w]
                      rfl
                    refine pure_ (i := 18) (N := some 96) (v := ?_) (a' := ?_) #[false, true, true, true, false, true, true, true, true, false, false, true, true, true, false, true, true, true, true, false, false, false] rfl rfl (any_of HT_.out (by kernel_rfl)) (fun _ _ _ h => h) (Or.inl ⟨by rfl, ?_⟩) ?_ ?_
                    rotate_left
                    · intro w'
                      go_simp
                      with_reducible rfl
                    rotate_left
                    · simp only [Act.put, List.setIfInBounds_toArray, List.set_cons_zero, List.set_cons_succ, i64_w, i32_w]
                      rfl
                    refine join_ (σ := Value × Value × Value × Value) 4 #[true, true, true, true, true, true, true, true, true, true, true, true, true, true, false, true, true, true, true, false, false, false] (fun s => [(78, s.1), (82, s.2.1), (87, s.2.2.1), (88, s.2.2.2)]) (fun s w' => Hid ((Kd.int .i64).R 3 w' wd.heap.size (fun k => wd.heap.size ≤ k) s.2.2.1 (([] : List Int) ++ ws.take b ++ ws.drop (b + 1))) ∧ Hid ((Kd.int .u32).R 27 w' wd.heap.size (fun k => wd.heap.size ≤ k) s.2.2.2 ([] : List Int)) ∧ Hid (Below wd.heap.size wd w')) ?_ ?_
                    rotate_left
                    · intro hJ0_4_9_10
                      refine join_ (σ := Value × Value × Value) 5 #[true, true, true, true, true, true, true, true, true, true, false, true, true, true, false, true, true, true, true, false, false, false] (fun s => [(78, s.1), (82, s.2.1), (87, s.2.2)]) (fun s w' => Hid ((Kd.int .i64).R 3 w' wd.heap.size (fun k => wd.heap.size ≤ k) s.2.2 (([] : List Int) ++ ws.take b ++ ws.drop (b + 1))) ∧ Hid (Below wd.heap.size wd w')) ?_ ?_
                      rotate_left
                      · intro hJ0_4_9
                        refine join_ (σ := Value × Value × Value) 5 #[true, true, true, true, true, true, true, true, true, false, true, true, true, true, false, true, true, true, true, false, false, false] (fun s => [(78, s.1), (82, s.2.1), (88, s.2.2)]) (fun s w' => Hid ((Kd.int .i64).R 3 w' wd.heap.size (fun k => wd.heap.size ≤ k) s.2.1 (([] : List Int) ++ ws.take b)) ∧ Hid ((Kd.int .u32).R 27 w' wd.heap.size (fun k => wd.heap.size ≤ k) s.2.2 ([] : List Int)) ∧ Hid (Below wd.heap.size wd w')) ?_ ?_
                        rotate_left
                        · intro hJ0_4_10
                          refine join_ (σ := Value × Value) 6 #[true, true, true, true, true, true, true, true, true, false, false, true, true, true, false, true, true, true, true, false, false, false] (fun s => [(78, s.1), (82, s.2)]) (fun s w' => Hid ((Kd.int .i64).R 3 w' wd.heap.size (fun k => wd.heap.size ≤ k) s.2 (([] : List Int) ++ ws.take b)) ∧ Hid (Below wd.heap.size wd w')) ?_ ?_
                          rotate_left
                          · intro hJ0_4
                            refine join_ (σ := Value × Value) 6 #[true, true, true, true, false, true, true, true, true, false, true, true, true, true, false, true, true, true, true, false, false, false] (fun s => [(78, s.1), (88, s.2)]) (fun s w' => Hid ((Kd.int .i64).R 3 w' wd.heap.size (fun k => wd.heap.size ≤ k) s.1 ([] : List Int)) ∧ Hid ((Kd.int .u32).R 27 w' wd.heap.size (fun k => wd.heap.size ≤ k) s.2 ([] : List Int)) ∧ Hid (Below wd.heap.size wd w')) ?_ ?_
                            rotate_left
                            · intro hJ0_10
                              refine join_ (σ := Value) 7 #[true, true, true, true, false, true, true, true, true, false, false, true, true, true, false, true, true, true, true, false, false, false] (fun s => [(78, s)]) (fun s w' => Hid ((Kd.int .i64).R 3 w' wd.heap.size (fun k => wd.heap.size ≤ k) s ([] : List Int)) ∧ Hid (Below wd.heap.size wd w')) ?_ ?_
                              rotate_left
                              · intro hJ0
                                refine join_ (σ := Value) 7 #[false, true, true, true, false, true, true, true, true, false, true, true, true, true, false, true, true, true, true, false, false, false] (fun s => [(88, s)]) (fun s w' => Hid ((Kd.int .u32).R 27 w' wd.heap.size (fun k => wd.heap.size ≤ k) s ([] : List Int)) ∧ Hid (Below wd.heap.size wd w')) ?_ ?_
                                rotate_left
                                · intro hJ10
                                  refine two_ (i := 0) (j := 10) (Ni := some 78) (Nj := some 88) #[true, true, true, true, false, true, true, true, true, false, false, true, true, true, false, true, true, true, true, false, false, false] #[false, true, true, true, false, true, true, true, true, false, true, true, true, true, false, true, true, true, true, false, false, false] rfl rfl rfl rfl (two_of HT_.out (by kernel_rfl)) (by decide) (by decide) (fun K hK => ?_) (fun K hK => ?_)
                                  · skip
                                    refine Kd.R_lit_step (Kd.int .i64) (w0 := wd) wd.heap.size 3 (by rfl) (N := 78) rfl (xs := ([] : List Int)) (inner := []) (ok := (fun k => wd.heap.size ≤ k)) (okp := fun _ => False) ?_ (Reps.none _ _) (fun _ h => h.elim) hW.out.size hW.out hW.out.size (by simp) ?_
                                    · first | (go_simp; done) | (go_simp; rfl)
                                    intro v78 wz hR hBl hg _
                                    have nA := Lib.hid hR
                                    have nW := Lib.hid hBl
                                    clear hR hBl hg
                                    refine hK.out _ _ trivial (fun hHeld => ?_)
                                    clear hK K
                                    refine norm_ (a' := ?_) ?_ ?_
                                    rotate_left
                                    · show Act.put _ (some 78) _ = _
                                      simp only [Act.put, List.setIfInBounds_toArray, List.set_cons_zero, List.set_cons_succ, i64_w, i32_w]
                                      rfl
                                    exact norm_ (by first | (simp only [putAll, Act.put, List.setIfInBounds_toArray, List.set_cons_zero, List.set_cons_succ]; done) | (simp only [putAll, Act.put, List.setIfInBounds_toArray, List.set_cons_zero, List.set_cons_succ]; rfl)) (hJ0 v78 _ ⟨nA, nW⟩)
                                  · skip
                                    refine Kd.R_lit_step (Kd.int .u32) (w0 := wd) wd.heap.size 27 (by rfl) (N := 88) rfl (xs := ([] : List Int)) (inner := []) (ok := (fun k => wd.heap.size ≤ k)) (okp := fun _ => False) ?_ (Reps.none _ _) (fun _ h => h.elim) hW.out.size hW.out hW.out.size (by simp) ?_
                                    · first | (go_simp; done) | (go_simp; rfl)
                                    intro v88 wz hR hBl hg _
                                    have nB := Lib.hid hR
                                    have nW := Lib.hid hBl
                                    clear hR hBl hg
                                    refine hK.out _ _ trivial (fun hHeld => ?_)
                                    clear hK K
                                    refine norm_ (a' := ?_) ?_ ?_
                                    rotate_left
                                    · show Act.put _ (some 88) _ = _
                                      simp only [Act.put, List.setIfInBounds_toArray, List.set_cons_zero, List.set_cons_succ, i64_w, i32_w]
                                      rfl
                                    exact norm_ (by first | (simp only [putAll, Act.put, List.setIfInBounds_toArray, List.set_cons_zero, List.set_cons_succ]; done) | (simp only [putAll, Act.put, List.setIfInBounds_toArray, List.set_cons_zero, List.set_cons_succ]; rfl)) (hJ10 v88 _ ⟨nB, nW⟩)
                                · skip
                                  rintro x88 w' ⟨hB, hW⟩
                                  have hHeld : True := trivial
                                  refine norm_ (a' := ?_) ?_ ?_
                                  rotate_left
                                  · simp only [putAll, Act.put, List.setIfInBounds_toArray, List.set_cons_zero, List.set_cons_succ]
                                    rfl
                                  refine one_ (i := 0) (N := some 78) #[true, true, true, true, false, true, true, true, true, false, true, true, true, true, false, true, true, true, true, false, false, false] rfl rfl (one_of HT_.out (by kernel_rfl)) (by decide) (fun K hK => ?_)
                                  refine Kd.R_lit_step (Kd.int .i64) (w0 := wd) wd.heap.size 3 (by rfl) (N := 78) rfl (xs := ([] : List Int)) (inner := []) (ok := (fun k => wd.heap.size ≤ k)) (okp := fun _ => False) ?_ (Reps.none _ _) (fun _ h => h.elim) hW.out.size hW.out hW.out.size (by simp) ?_
                                  · first | (go_simp; done) | (go_simp; rfl)
                                  intro v78 wz hR hBl hg _
                                  have nA := Lib.hid hR
                                  have nB := Lib.hid (Kd.R_grown2 hB.out rfl hg (fun _ h => by cases h))
                                  have nW := Lib.hid hBl
                                  clear hR hBl hg
                                  refine hK.out _ _ trivial (fun hHeld => ?_)
                                  clear hK K
                                  refine norm_ (a' := ?_) ?_ ?_
                                  rotate_left
                                  · show Act.put _ (some 78) _ = _
                                    simp only [Act.put, List.setIfInBounds_toArray, List.set_cons_zero, List.set_cons_succ, i64_w, i32_w]
                                    rfl
                                  exact norm_ (by first | (simp only [putAll, Act.put, List.setIfInBounds_toArray, List.set_cons_zero, List.set_cons_succ]; done) | (simp only [putAll, Act.put, List.setIfInBounds_toArray, List.set_cons_zero, List.set_cons_succ]; rfl)) (hJ0_10 (v78, x88) _ ⟨nA, nB, nW⟩)
                              · skip
                                rintro x78 w' ⟨hA, hW⟩
                                have hHeld : True := trivial
                                refine norm_ (a' := ?_) ?_ ?_
                                rotate_left
                                · simp only [putAll, Act.put, List.setIfInBounds_toArray, List.set_cons_zero, List.set_cons_succ]
                                  rfl
                                refine two_ (i := 4) (j := 10) (Ni := some 82) (Nj := some 88) #[true, true, true, true, true, true, true, true, true, false, false, true, true, true, false, true, true, true, true, false, false, false] #[true, true, true, true, false, true, true, true, true, false, true, true, true, true, false, true, true, true, true, false, false, false] rfl rfl rfl rfl (two_of HT_.out (by kernel_rfl)) (by decide) (by decide) (fun K hK => ?_) (fun K hK => ?_)
                                · skip
                                  refine Kd.R_append_rows_step (Kd.int .i64) (Rr := fun (x : Int) cs => cs = [.int .i64 x]) (w0 := wd) wd.heap.size (by rfl) (.tmp 78) (.tmp 81) 39 3 (.int .i64 0) 8 rfl Try.underlying39 info3 rfl (by decide) (by omega) x78 ([] : List Int) (ws.take b) A4 b c4 (fun k => wd.heap.size ≤ k) (fun _ => False) (by rfl) (by rfl) hA.out (CW_at HW1 hW b (by rw [List.length_take]; omega)) (fun _ _ h => h) (fun _ h => h.elim) (fun k hk => Nat.le_trans hW.out.size hk) hW.out hW.out.size (by first | (simp; done) | (simp; omega) | omega) ?_
                                  intro v82 wz hR hBl hg _
                                  have nA := Lib.hid hR
                                  have nW := Lib.hid hBl
                                  clear hR hBl hg
                                  refine hK.out _ _ trivial (fun hHeld => ?_)
                                  clear hK K
                                  refine norm_ (a' := ?_) ?_ ?_
                                  rotate_left
                                  · show Act.put _ (some 82) _ = _
                                    simp only [Act.put, List.setIfInBounds_toArray, List.set_cons_zero, List.set_cons_succ, i64_w, i32_w]
                                    rfl
                                  exact norm_ (by first | (simp only [putAll, Act.put, List.setIfInBounds_toArray, List.set_cons_zero, List.set_cons_succ]; done) | (simp only [putAll, Act.put, List.setIfInBounds_toArray, List.set_cons_zero, List.set_cons_succ]; rfl)) (hJ0_4 (x78, v82) _ ⟨nA, nW⟩)
                                · skip
                                  refine Kd.R_lit_step (Kd.int .u32) (w0 := wd) wd.heap.size 27 (by rfl) (N := 88) rfl (xs := ([] : List Int)) (inner := []) (ok := (fun k => wd.heap.size ≤ k)) (okp := fun _ => False) ?_ (Reps.none _ _) (fun _ h => h.elim) hW.out.size hW.out hW.out.size (by simp) ?_
                                  · first | (go_simp; done) | (go_simp; rfl)
                                  intro v88 wz hR hBl hg _
                                  have nB := Lib.hid hR
                                  have nA := Lib.hid (Kd.R_grown2 hA.out rfl hg (fun _ h => by cases h))
                                  have nW := Lib.hid hBl
                                  clear hR hBl hg
                                  refine hK.out _ _ trivial (fun hHeld => ?_)
                                  clear hK K
                                  refine norm_ (a' := ?_) ?_ ?_
                                  rotate_left
                                  · show Act.put _ (some 88) _ = _
                                    simp only [Act.put, List.setIfInBounds_toArray, List.set_cons_zero, List.set_cons_succ, i64_w, i32_w]
                                    rfl
                                  exact norm_ (by first | (simp only [putAll, Act.put, List.setIfInBounds_toArray, List.set_cons_zero, List.set_cons_succ]; done) | (simp only [putAll, Act.put, List.setIfInBounds_toArray, List.set_cons_zero, List.set_cons_succ]; rfl)) (hJ0_10 (x78, v88) _ ⟨nA, nB, nW⟩)
                            · skip
                              rintro ⟨x78, x88⟩ w' ⟨hA, hB, hW⟩
                              have hHeld : True := trivial
                              refine norm_ (a' := ?_) ?_ ?_
                              rotate_left
                              · simp only [putAll, Act.put, List.setIfInBounds_toArray, List.set_cons_zero, List.set_cons_succ]
                                rfl
                              refine one_ (i := 4) (N := some 82) #[true, true, true, true, true, true, true, true, true, false, true, true, true, true, false, true, true, true, true, false, false, false] rfl rfl (one_of HT_.out (by kernel_rfl)) (by decide) (fun K hK => ?_)
                              refine Kd.R_append_rows_step (Kd.int .i64) (Rr := fun (x : Int) cs => cs = [.int .i64 x]) (w0 := wd) wd.heap.size (by rfl) (.tmp 78) (.tmp 81) 39 3 (.int .i64 0) 8 rfl Try.underlying39 info3 rfl (by decide) (by omega) x78 ([] : List Int) (ws.take b) A4 b c4 (fun k => wd.heap.size ≤ k) (fun _ => False) (by rfl) (by rfl) hA.out (CW_at HW1 hW b (by rw [List.length_take]; omega)) (fun _ _ h => h) (fun _ h => h.elim) (fun k hk => Nat.le_trans hW.out.size hk) hW.out hW.out.size (by first | (simp; done) | (simp; omega) | omega) ?_
                              intro v82 wz hR hBl hg _
                              have nA := Lib.hid hR
                              have nB := Lib.hid (Kd.R_grown2 hB.out rfl hg (apart_rows hB.out hA.out (by decide)))
                              have nW := Lib.hid hBl
                              clear hR hBl hg
                              refine hK.out _ _ trivial (fun hHeld => ?_)
                              clear hK K
                              refine norm_ (a' := ?_) ?_ ?_
                              rotate_left
                              · show Act.put _ (some 82) _ = _
                                simp only [Act.put, List.setIfInBounds_toArray, List.set_cons_zero, List.set_cons_succ, i64_w, i32_w]
                                rfl
                              exact norm_ (by first | (simp only [putAll, Act.put, List.setIfInBounds_toArray, List.set_cons_zero, List.set_cons_succ]; done) | (simp only [putAll, Act.put, List.setIfInBounds_toArray, List.set_cons_zero, List.set_cons_succ]; rfl)) (hJ0_4_10 (x78, v82, x88) _ ⟨nA, nB, nW⟩)
                          · skip
                            rintro ⟨x78, x82⟩ w' ⟨hA, hW⟩
                            have hHeld : True := trivial
                            refine norm_ (a' := ?_) ?_ ?_
                            rotate_left
                            · simp only [putAll, Act.put, List.setIfInBounds_toArray, List.set_cons_zero, List.set_cons_succ]
                              rfl
                            refine two_ (i := 9) (j := 10) (Ni := some 87) (Nj := some 88) #[true, true, true, true, true, true, true, true, true, true, false, true, true, true, false, true, true, true, true, false, false, false] #[true, true, true, true, true, true, true, true, true, false, true, true, true, true, false, true, true, true, true, false, false, false] rfl rfl rfl rfl (two_of HT_.out (by kernel_rfl)) (by decide) (by decide) (fun K hK => ?_) (fun K hK => ?_)
                            · skip
                              refine Kd.R_append_rows_step (Kd.int .i64) (Rr := fun (x : Int) cs => cs = [.int .i64 x]) (w0 := wd) wd.heap.size (by rfl) (.tmp 82) (.tmp 86) 39 3 (.int .i64 0) 8 rfl Try.underlying39 info3 rfl (by decide) (by omega) x82 (([] : List Int) ++ ws.take b) (ws.drop (b + 1)) A4' (q.length - (b + 1)) (c4 - (b + 1)) (fun k => wd.heap.size ≤ k) (fun _ => False) (by rfl) (by rfl) hA.out (CW_at HW2 hW (q.length - (b + 1)) (by rw [List.length_drop]; omega)) (fun _ _ h => h) (fun _ h => h.elim) (fun k hk => Nat.le_trans hW.out.size hk) hW.out hW.out.size (by first | (simp; done) | (simp; omega) | omega) ?_
                              intro v87 wz hR hBl hg _
                              have nA := Lib.hid hR
                              have nW := Lib.hid hBl
                              clear hR hBl hg
                              refine hK.out _ _ trivial (fun hHeld => ?_)
                              clear hK K
                              refine norm_ (a' := ?_) ?_ ?_
                              rotate_left
                              · show Act.put _ (some 87) _ = _
                                simp only [Act.put, List.setIfInBounds_toArray, List.set_cons_zero, List.set_cons_succ, i64_w, i32_w]
                                rfl
                              exact norm_ (by first | (simp only [putAll, Act.put, List.setIfInBounds_toArray, List.set_cons_zero, List.set_cons_succ]; done) | (simp only [putAll, Act.put, List.setIfInBounds_toArray, List.set_cons_zero, List.set_cons_succ]; rfl)) (hJ0_4_9 (x78, x82, v87) _ ⟨nA, nW⟩)
                            · skip
                              refine Kd.R_lit_step (Kd.int .u32) (w0 := wd) wd.heap.size 27 (by rfl) (N := 88) rfl (xs := ([] : List Int)) (inner := []) (ok := (fun k => wd.heap.size ≤ k)) (okp := fun _ => False) ?_ (Reps.none _ _) (fun _ h => h.elim) hW.out.size hW.out hW.out.size (by simp) ?_
                              · first | (go_simp; done) | (go_simp; rfl)
                              intro v88 wz hR hBl hg _
                              have nB := Lib.hid hR
                              have nA := Lib.hid (Kd.R_grown2 hA.out rfl hg (fun _ h => by cases h))
                              have nW := Lib.hid hBl
                              clear hR hBl hg
                              refine hK.out _ _ trivial (fun hHeld => ?_)
                              clear hK K
                              refine norm_ (a' := ?_) ?_ ?_
                              rotate_left
                              · show Act.put _ (some 88) _ = _
                                simp only [Act.put, List.setIfInBounds_toArray, List.set_cons_zero, List.set_cons_succ, i64_w, i32_w]
                                rfl
                              exact norm_ (by first | (simp only [putAll, Act.put, List.setIfInBounds_toArray, List.set_cons_zero, List.set_cons_succ]; done) | (simp only [putAll, Act.put, List.setIfInBounds_toArray, List.set_cons_zero, List.set_cons_succ]; rfl)) (hJ0_4_10 (x78, x82, v88) _ ⟨nA, nB, nW⟩)
                        · skip
                          rintro ⟨x78, x82, x88⟩ w' ⟨hA, hB, hW⟩
                          have hHeld : True := trivial
                          refine norm_ (a' := ?_) ?_ ?_
                          rotate_left
                          · simp only [putAll, Act.put, List.setIfInBounds_toArray, List.set_cons_zero, List.set_cons_succ]
                            rfl
                          refine one_ (i := 9) (N := some 87) #[true, true, true, true, true, true, true, true, true, true, true, true, true, true, false, true, true, true, true, false, false, false] rfl rfl (one_of HT_.out (by kernel_rfl)) (by decide) (fun K hK => ?_)
                          refine Kd.R_append_rows_step (Kd.int .i64) (Rr := fun (x : Int) cs => cs = [.int .i64 x]) (w0 := wd) wd.heap.size (by rfl) (.tmp 82) (.tmp 86) 39 3 (.int .i64 0) 8 rfl Try.underlying39 info3 rfl (by decide) (by omega) x82 (([] : List Int) ++ ws.take b) (ws.drop (b + 1)) A4' (q.length - (b + 1)) (c4 - (b + 1)) (fun k => wd.heap.size ≤ k) (fun _ => False) (by rfl) (by rfl) hA.out (CW_at HW2 hW (q.length - (b + 1)) (by rw [List.length_drop]; omega)) (fun _ _ h => h) (fun _ h => h.elim) (fun k hk => Nat.le_trans hW.out.size hk) hW.out hW.out.size (by first | (simp; done) | (simp; omega) | omega) ?_
                          intro v87 wz hR hBl hg _
                          have nA := Lib.hid hR
                          have nB := Lib.hid (Kd.R_grown2 hB.out rfl hg (apart_rows hB.out hA.out (by decide)))
                          have nW := Lib.hid hBl
                          clear hR hBl hg
                          refine hK.out _ _ trivial (fun hHeld => ?_)
                          clear hK K
                          refine norm_ (a' := ?_) ?_ ?_
                          rotate_left
                          · show Act.put _ (some 87) _ = _
                            simp only [Act.put, List.setIfInBounds_toArray, List.set_cons_zero, List.set_cons_succ, i64_w, i32_w]
                            rfl
                          exact norm_ (by first | (simp only [putAll, Act.put, List.setIfInBounds_toArray, List.set_cons_zero, List.set_cons_succ]; done) | (simp only [putAll, Act.put, List.setIfInBounds_toArray, List.set_cons_zero, List.set_cons_succ]; rfl)) (hJ0_4_9_10 (x78, x82, v87, x88) _ ⟨nA, nB, nW⟩)
                      · skip
                        rintro ⟨x78, x82, x87⟩ w' ⟨hA, hW⟩
                        have hHeld : True := trivial
                        refine norm_ (a' := ?_) ?_ ?_
                        rotate_left
                        · simp only [putAll, Act.put, List.setIfInBounds_toArray, List.set_cons_zero, List.set_cons_succ]
                          rfl
                        refine one_ (i := 10) (N := some 88) #[true, true, true, true, true, true, true, true, true, true, true, true, true, true, false, true, true, true, true, false, false, false] rfl rfl (one_of HT_.out (by kernel_rfl)) (by decide) (fun K hK => ?_)
                        refine Kd.R_lit_step (Kd.int .u32) (w0 := wd) wd.heap.size 27 (by rfl) (N := 88) rfl (xs := ([] : List Int)) (inner := []) (ok := (fun k => wd.heap.size ≤ k)) (okp := fun _ => False) ?_ (Reps.none _ _) (fun _ h => h.elim) hW.out.size hW.out hW.out.size (by simp) ?_
                        · first | (go_simp; done) | (go_simp; rfl)
                        intro v88 wz hR hBl hg _
                        have nB := Lib.hid hR
                        have nA := Lib.hid (Kd.R_grown2 hA.out rfl hg (fun _ h => by cases h))
                        have nW := Lib.hid hBl
                        clear hR hBl hg
                        refine hK.out _ _ trivial (fun hHeld => ?_)
                        clear hK K
                        refine norm_ (a' := ?_) ?_ ?_
                        rotate_left
                        · show Act.put _ (some 88) _ = _
                          simp only [Act.put, List.setIfInBounds_toArray, List.set_cons_zero, List.set_cons_succ, i64_w, i32_w]
                          rfl
                        exact norm_ (by first | (simp only [putAll, Act.put, List.setIfInBounds_toArray, List.set_cons_zero, List.set_cons_succ]; done) | (simp only [putAll, Act.put, List.setIfInBounds_toArray, List.set_cons_zero, List.set_cons_succ]; rfl)) (hJ0_4_9_10 (x78, x82, x87, v88) _ ⟨nA, nB, nW⟩)
                    rintro ⟨x78, x82, x87, x88⟩ w' ⟨hA, hB, hW⟩
                    have hHeld : True := trivial
                    refine norm_ (a' := ?_) ?_ ?_
                    rotate_left
                    · simp only [putAll, Act.put, List.setIfInBounds_toArray, List.set_cons_zero, List.set_cons_succ]
                      rfl
                    refine one_ (i := 14) (N := some 92) #[true, true, true, true, true, true, true, true, true, true, true, true, true, true, true, true, true, true, true, false, false, false] rfl rfl (one_of HT_.out (by kernel_rfl)) (by decide) (fun K hK => ?_)
                    refine Kd.R_append_rows_step (Kd.int .u32) (Rr := fun (x : Int) cs => cs = [.int .u32 x]) (w0 := wd) wd.heap.size (by rfl) (.tmp 88) (.tmp 91) 74 27 (.int .u32 0) 4 rfl Try.underlying74 info27 rfl (by decide) (by omega) x88 ([] : List Int) (ts.take b) A5 b c5 (fun k => wd.heap.size ≤ k) (fun _ => False) (by rfl) (by rfl) hB.out (CW_at HT1 hW b (by rw [List.length_take]; omega)) (fun _ _ h => h) (fun _ h => h.elim) (fun k hk => Nat.le_trans hW.out.size hk) hW.out hW.out.size (by first | (simp; done) | (simp; omega) | omega) ?_
                    intro v92 wz hR hBl hg _
                    have nA := Lib.hid (Kd.R_grown2 hA.out rfl hg (apart_rows hA.out hB.out (by decide)))
                    have nB := Lib.hid hR
                    have nW := Lib.hid hBl
                    clear hR hBl hg hA hB hW
                    refine hK.out _ _ trivial (fun hHeld => ?_)
                    clear hK K
                    refine norm_ (a' := ?_) ?_ ?_
                    rotate_left
                    · show Act.put _ (some 92) _ = _
                      simp only [Act.put, List.setIfInBounds_toArray, List.set_cons_zero, List.set_cons_succ, i64_w, i32_w]
                      rfl
                    refine one_ (i := 19) (N := some 97) #[true, true, true, true, true, true, true, true, true, true, true, true, true, true, true, true, true, true, true, true, false, false] rfl rfl (one_of HT_.out (by kernel_rfl)) (by decide) (fun K hK => ?_)
                    refine Kd.R_append_rows_step (Kd.int .u32) (Rr := fun (x : Int) cs => cs = [.int .u32 x]) (w0 := wd) wd.heap.size (by rfl) (.tmp 92) (.tmp 96) 74 27 (.int .u32 0) 4 rfl Try.underlying74 info27 rfl (by decide) (by omega) v92 (([] : List Int) ++ ts.take b) (ts.drop (b + 1)) A5' (q.length - (b + 1)) (c5 - (b + 1)) (fun k => wd.heap.size ≤ k) (fun _ => False) (by rfl) (by rfl) nB.out (CW_at HT2 nW (q.length - (b + 1)) (by rw [List.length_drop]; omega)) (fun _ _ h => h) (fun _ h => h.elim) (fun k hk => Nat.le_trans nW.out.size hk) nW.out nW.out.size (by first | (simp; done) | (simp; omega) | omega) ?_
                    intro v97 w4 hR hBl hg _
                    have mA := Lib.hid (Kd.R_grown2 nA.out rfl hg (apart_rows nA.out nB.out (by decide)))
                    have mB := Lib.hid hR
                    have mW := Lib.hid hBl
                    clear hR hBl hg nA nB nW
                    refine hK.out _ _ trivial (fun hHeld => ?_)
                    clear hK K
                    refine norm_ (a' := ?_) ?_ ?_
                    rotate_left
                    · show Act.put _ (some 97) _ = _
                      simp only [Act.put, List.setIfInBounds_toArray, List.set_cons_zero, List.set_cons_succ, i64_w, i32_w]
                      rfl
                    refine pure_ (i := 20) (N := some 4) (v := ?_) (a' := ?_) #[true, true, true, true, true, true, true, true, true, true, true, true, true, true, true, true, true, true, true, true, true, false] rfl rfl (any_of HT_.out (by kernel_rfl)) (fun _ _ _ h => h) (Or.inl ⟨by rfl, ?_⟩) ?_ ?_
                    rotate_left
                    · intro w'
                      go_simp
                      with_reducible rfl
                    rotate_left
                    · simp only [Act.put, List.setIfInBounds_toArray, List.set_cons_zero, List.set_cons_succ, i64_w, i32_w]
                      rfl
                    refine pure_ (i := 21) (N := some 5) (v := ?_) (a' := ?_) #[true, true, true, true, true, true, true, true, true, true, true, true, true, true, true, true, true, true, true, true, true, true] rfl rfl (any_of HT_.out (by kernel_rfl)) (fun _ _ _ h => h) (Or.inl ⟨by rfl, ?_⟩) ?_ ?_
                    rotate_left
                    · intro w'
                      go_simp
                      with_reducible rfl
                    rotate_left
                    · simp only [Act.put, List.setIfInBounds_toArray, List.set_cons_zero, List.set_cons_succ, i64_w, i32_w]
                      rfl
                    refine done_ (done_of HT_.out (by kernel_rfl)) ?_
                    have hl1 := HLd.out.lt_t
                    have hl2 := HLd.out.lt_m
                    have HV46 := Lib.hid (VW.of_R mA.out (q := q.take b ++ q.drop (b + 1)) (by rw [HWE.out]; simp [List.map_take, List.map_drop]) hl1 hl2)
                    have HV56 := Lib.hid (VT.of_R mB.out (q := q.take b ++ q.drop (b + 1)) (by rw [HTE.out]; simp [List.map_take, List.map_drop]) hl1 hl2)
                    have HL6 := Lib.hid (HLd.out.of_frm (Frm.of_below (fun _ => False) mW.out) (fun h => h) (fun h => h))
                    have HB6 := Lib.hid (HBd.out.trans (mW.out.mono (by rw [← HBS.out]; exact HBd.out.size)))
                    clear mA mB mW HW1 HW2 HT1 HT2 hu1 hu2 hu3 hu4 hHeld
                    go_wp2
                    go_meet
                    exact ⟨next, q.take b ++ q.drop (b + 1), rfl, by omega, HL6, HV46, HV56, HB6⟩
          case rest =>
            as_aux_lemma =>
            obtain ⟨next2, q2, rfl, hn2, HL2, HV42, HV52, HB2⟩ := hcut
            obtain ⟨A6, c6, h6, hc6⟩ := HV42.out.form
            obtain ⟨A7, c7, h7, hc7⟩ := HV52.out.form
            subst h6 h7
            have hqn2 : q2.length ≤ 64 := HL2.out.good.few
            clear HPO HL HV4 HV5 HB k0 k1 hwf hc4 hc5 hqn hni
            go_upto_if 182 with fail
            go_cut [15] from 23 to 231 (fun v15 wx => v15 = .int .u32 (serves next2 q2) ∧ wx = wc)
            case first =>
              cases q2 with
              | nil =>
                go_wp2_with fail
                go_meet
                exact ⟨rfl, rfl⟩
              | cons p r =>
                obtain ⟨ax, rfl, hcell⟩ := HV52.out.cell (k := 0) (by simp)
                have hcell0 : wc.cell? ax = some (.int .u32 p.2) := hcell
                have hlp : 0 < (p :: r).length := by simp
                rw [List.length_cons] at *
                go_wp2_with fail
                go_meet
                exact ⟨rfl, rfl⟩
            case rest =>
              obtain ⟨rfl, rfl⟩ := hcut
              have S := step_len HL2.out
              have hs0 := HL2.out.c0
              have hs1 := HL2.out.c1
              go_wp2_with (go_at_call 33; (with_reducible refine S.mono ?_); rintro e w5 ⟨rfl, rfl⟩)
              clear S hs0 hs1
              go_loopw [16] (fun v16 wx => ∃ k : Nat, v16 = .int .i64 k ∧ k ≤ q2.length ∧ Hid (Lk wx (m + 1) m next2 q2) ∧ Hid (VW wx (m + 1) m (.slice A6 q2.length c6) q2) ∧ Hid (VT wx (m + 1) m (.slice A7 q2.length c7) q2) ∧ Hid (Below base w wx)) (fun v16 _ => q2.length - (intOf v16).toNat)
              case atStart => exact ⟨0, rfl, Nat.zero_le _, HL2, HV42, HV52, HB2⟩
              case round =>
                clear HL2 HV42 HV52 HB2
                obtain ⟨k, rfl, hk, HL, HV4, HV5, HB⟩ := hrel
                by_cases hkl : k < q2.length
                · obtain ⟨ax, rfl, hcell⟩ := HV4.out.cell hkl
                  have hmem : (q2[k].1, q2[k].2) ∈ q2 := List.getElem_mem hkl
                  have hw := HL.out.good.who _ hmem
                  have hwf : (Lit.int .i64 q2[k].1).wf = true := wf_small (by omega) (by omega)
                  have D1 := ahead_some (m + 1) m next2 q2 q2[k].1 q2[k].2 wr HL.out hwf hmem
                  rw [ahead_at HL.out.good hkl] at D1
                  have D2 := fun w (h : Lk w (m + 1) m next2 q2) => has_calls (m + 1) m next2 q2 q2[k].1 w h hwf
                  rw [first_at HL.out.good hkl] at D2
                  have hadl : (ax.add k).block < wr.heap.size := World.block_lt_of_cell? wr _ hcell
                  generalize q2[k].1 = y at *
                  have HC := Lib.hid hcell
                  clear hw hmem
                  by_cases hk0 : k = 0
                  · have hkb : ((k : Int) == 0) = true := by simp [hk0]
                    have hkd : decide (k = 0) = true := by simp [hk0]
                    rw [hkd] at D2
                    clear hk0 hkd
                    go_wp2_with (first
                      | (go_at_call 31; (with_reducible refine D1.mono ?_); rintro e w5 ⟨rfl, hB5⟩; have HL5 := Lib.hid (HL.out.of_frm (Frm.of_below (fun _ => False) hB5) (fun h => h) (fun h => h)); have HV45 := Lib.hid (HV4.out.below hB5); have HV55 := Lib.hid (HV5.out.below hB5); have HB5 := Lib.hid (HB.out.trans (hB5.mono (by rw [← HBS.out]; exact HB.out.size))); have hcell5 := (hB5.cell hadl).trans HC.out; clear hB5)
                      | (go_at_call 30; (with_reducible refine (D2 _ HL5.out).mono ?_); rintro e w' ⟨rfl, hw'⟩; subst hw'))
                    go_roundw
                    case rel => exact ⟨k + 1, by go_num, by omega, HL5, HV45, HV55, HB5⟩
                    case measure => simp [intOf]; omega
                  · have hkp : 0 < k := by omega
                    have hkb : ((k : Int) == 0) = false := by simp [hk0]
                    simp only [hk0, decide_false] at D2
                    clear hk0
                    go_wp2_with (first
                      | (go_at_call 31; (with_reducible refine D1.mono ?_); rintro e w5 ⟨rfl, hB5⟩; have HL5 := Lib.hid (HL.out.of_frm (Frm.of_below (fun _ => False) hB5) (fun h => h) (fun h => h)); have HV45 := Lib.hid (HV4.out.below hB5); have HV55 := Lib.hid (HV5.out.below hB5); have HB5 := Lib.hid (HB.out.trans (hB5.mono (by rw [← HBS.out]; exact HB.out.size))); have hcell5 := (hB5.cell hadl).trans HC.out; clear hB5)
                      | (go_at_call 30; (with_reducible refine (D2 _ HL5.out).mono ?_); rintro e w' ⟨rfl, hw'⟩; subst hw'))
                    go_roundw
                    case rel => exact ⟨k + 1, by go_num, by omega, HL5, HV45, HV55, HB5⟩
                    case measure => simp [intOf]; omega
                · obtain rfl : k = q2.length := by omega
                  go_wp2
                  go_roundw
                  case rel => exact ⟨i + 1, next2, q2, by go_num, rfl, by omega, hn2, HL, HV4, HV5, HB⟩
                  case measure => simp [intOf]; omega
    · obtain rfl : i = l.length := by omega
      go_wp2
      go_ret
      exact ⟨rfl, by rw [HBS.out]; exact HB.out⟩

theorem tplays_calls (A : Option Addr) (c : Nat) (l : List Act2) (w : World) (hr : Acts2 w A l) (hm : l.length ≤ maxLen) :
    Calls Try.prog 13 #[.slice A l.length c] w fun e w' => e = .returned (.bool true) ∧ Below w.heap.size w w' := by
  by_cases h : l.length ≤ 200
  · exact tplays_short A c l w hr h
  · exact tplays_long A c l w (by omega) hm
end Go.Proofs.Ytjihjmanndhdhaa.Turn
