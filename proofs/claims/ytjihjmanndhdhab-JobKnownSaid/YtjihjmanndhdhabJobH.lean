/- job: JobKnown, the walk: what chapter 11 says of a run: in whatever memory. -/
import Derived.Test.YtjihjmanndhdhabJobG
import Derived.Deep.DrawnRows
namespace Go.Proofs.Ytjihjmanndhdhab.Job
open Go.RowKit Go.Proofs.YtjihjmanndhdhabW.PrintWords Go.Proofs.YtjihjmanndhdhabW.PrintLast Go.Proofs.YtjihjmanndhdhabW.PrintMore Go.Proofs.Ytjihjmanndhdhab.PJob
set_option linter.unusedVariables false
set_option linter.unusedSimpArgs false
attribute [local go_sem ↓] Go.wp_at_zero Go.wp_at_succ

theorem new_block2 (w : World) (x y : Obj) : ((w.alloc x).alloc y).heap[w.heap.size + 1]? = some y := by
  have := new_block (w.alloc x) y
  rwa [World.size_alloc] at this

abbrev C4 (w : World) (b : Nat) (x0 x1 x2 x3 : Value) : Prop := w.cell? ⟨b, 0, none⟩ = some x0 ∧ w.cell? ⟨b, 1, none⟩ = some x1 ∧ w.cell? ⟨b, 2, none⟩ = some x2 ∧ w.cell? ⟨b, 3, none⟩ = some x3
abbrev C2 (w : World) (b : Nat) (x0 x1 : Value) : Prop := w.cell? ⟨b, 0, none⟩ = some x0 ∧ w.cell? ⟨b, 1, none⟩ = some x1

/-- what the loads of the answer read. -/
abbrev SK (b10 b12 b15 b24 b26 b27 : Nat) (J0 J1 J2 J3 K0 K1 K2 K3 : Value) (W w : World) : Prop :=
  C4 w b10 J0 J1 J2 J3 ∧ C2 w b12 (.int .i64 0) (.int .i64 3) ∧ C2 w b15 (.int .i64 1) (.int .i64 2) ∧ C4 w b24 J0 J1 J2 J3 ∧ C4 w b26 K0 K1 K2 K3 ∧ C4 w b27 K0 K1 K2 K3 ∧ (b10 < w.heap.size ∧ b12 < w.heap.size ∧ b15 < w.heap.size ∧ b24 < w.heap.size ∧ b26 < w.heap.size ∧ b27 < w.heap.size) ∧ Below W.heap.size W w

theorem keepK {b10 b12 b15 b24 b26 b27 : Nat} {J0 J1 J2 J3 K0 K1 K2 K3 : Value} {W w v : World} (h : SK b10 b12 b15 b24 b26 b27 J0 J1 J2 J3 K0 K1 K2 K3 W w) (hb : Below w.heap.size w v) : SK b10 b12 b15 b24 b26 b27 J0 J1 J2 J3 K0 K1 K2 K3 W v := by
  obtain ⟨⟨h1, h2, h3, h4⟩, ⟨h5, h6⟩, ⟨h7, h8⟩, ⟨h9, h10, h11, h12⟩, ⟨h13, h14, h15, h16⟩, ⟨h17, h18, h19, h20⟩, ⟨z1, z2, z3, z4, z5, z6⟩, hB⟩ := h
  have hs := hb.size
  have hc := (bcell hb).1
  exact ⟨⟨(hc _ _ z1).trans h1, (hc _ _ z1).trans h2, (hc _ _ z1).trans h3, (hc _ _ z1).trans h4⟩, ⟨(hc _ _ z2).trans h5, (hc _ _ z2).trans h6⟩, ⟨(hc _ _ z3).trans h7, (hc _ _ z3).trans h8⟩, ⟨(hc _ _ z4).trans h9, (hc _ _ z4).trans h10, (hc _ _ z4).trans h11, (hc _ _ z4).trans h12⟩, ⟨(hc _ _ z5).trans h13, (hc _ _ z5).trans h14, (hc _ _ z5).trans h15, (hc _ _ z5).trans h16⟩, ⟨(hc _ _ z6).trans h17, (hc _ _ z6).trans h18, (hc _ _ z6).trans h19, (hc _ _ z6).trans h20⟩, ⟨by omega, by omega, by omega, by omega, by omega, by omega⟩, hB.trans (hb.mono hB.size)⟩

def known.T20 : Bool × List (List Nat × List Nat) := (true, [([], []), ([0], [0]), ([1], [1]), ([2], [2]), ([3, 2], [2, 3]), ([2, 4], [2, 4]), ([5, 2], [5]), ([6], [6]), ([7, 6], [6, 7]), ([6, 8], [6, 8]), ([9, 6], [9]), ([10], [10]), ([11, 10], [10, 11]), ([10, 12], [10, 12]), ([13, 10], [13]), ([14], [14]), ([14, 15], [14, 15]), ([16, 14], [16]), ([17], [17]), ([17], [17]), ([18, 19, 17], [17, 18, 19]), ([17, 20], [17, 20]), ([21, 17], [21]), ([22], [22]), ([22, 23], [22, 23]), ([24, 22], [24]), ([25], [25]), ([25, 26], [25, 26]), ([27, 25], [27]), ([28], [28]), ([28], [28]), ([29, 30, 28], [28, 29, 30]), ([28, 31], [28, 31]), ([32, 28], [32]), ([33], [33]), ([34, 33], [33, 34]), ([33, 35], [33, 35]), ([36, 33], [36]), ([37], [37]), ([38, 37], [37, 38]), ([37, 39], [37, 39]), ([40, 37], [40]), ([41], [41]), ([41, 42], [41, 42]), ([43, 41], [43]), ([44], [44]), ([45, 44], [44, 45]), ([46, 44], [44, 46]), ([44, 47], [44, 47]), ([48, 44], [48]), ([49], [49]), ([50, 49], [49, 50]), ([51, 49], [49, 51]), ([49, 52], [49, 52]), ([53, 49], [53]), ([54], [54]), ([55, 54, 54], [54, 55]), ([54, 56], [54, 56]), ([57, 56], [57]), ([58], [58]), ([59, 58], [58, 59]), ([58, 60], [58, 60]), ([61, 58], [61]), ([62], [62]), ([63, 62], [62, 63]), ([62, 64], [62, 64]), ([65, 62], [65]), ([66], [66]), ([67, 66], [66, 67]), ([66, 68], [66, 68]), ([69, 66], [69]), ([70], [70]), ([71, 70, 70], [70, 71]), ([70], [70]), ([73, 72, 70], [70, 73]), ([72, 74, 74, 70], [70, 72, 74]), ([70, 75], [70, 75]), ([76, 75], [76]), ([77], [77]), ([78, 77, 77], [77, 78]), ([79, 77], [77, 79]), ([77, 80], [77, 80]), ([81, 79], [81]), ([82], [82]), ([83, 82, 82], [82, 83]), ([84, 82], [82, 84]), ([82, 85], [82, 85]), ([86, 84], [86]), ([87], [87]), ([88, 87], [87, 88]), ([87, 89], [87, 89]), ([90, 87], [90]), ([91], [91]), ([92, 91], [91, 92]), ([93, 91], [91, 93]), ([91, 94], [91, 94]), ([95, 91], [95]), ([96], [96]), ([97, 96, 96], [96, 97]), ([98, 96], [96, 98]), ([96, 99], [96, 99]), ([100, 98, 0, 1, 2, 3, 4, 5, 6, 7, 8, 9, 10, 11, 12, 13, 14, 15, 16, 17, 18, 19, 20, 21, 22, 23, 24, 25, 26, 27, 28, 29, 30, 31, 32, 33, 34, 35, 36, 37, 38, 39, 40, 41, 42, 43, 44, 45, 46, 47, 48, 49, 50, 51, 52, 53, 54, 55, 56, 57, 58, 59, 60, 61, 62, 63, 64, 65, 66, 67, 68, 69, 70, 71, 72, 73, 74, 75, 76, 77, 78, 79, 80, 81, 82, 83, 84, 85, 86, 87, 88, 89, 90, 91, 92, 93, 94, 95, 96, 97, 98, 99, 100], [100])])
def known.B20 : List Nat := [0, 1, 3, 7, 15, 31, 63, 127, 255, 511, 1023, 2047, 4095, 8191, 16383, 32767, 65535, 131071, 262143, 262143, 1048575, 2097151, 4194303, 8388607, 16777215, 33554431, 67108863, 134217727, 268435455, 536870911, 536870911, 2147483647, 4294967295, 8589934591, 17179869183, 34359738367, 68719476735, 137438953471, 274877906943, 549755813887, 1099511627775, 2199023255551, 4398046511103, 8796093022207, 17592186044415, 35184372088831, 70368744177663, 140737488355327, 281474976710655, 562949953421311, 1125899906842623, 2251799813685247, 4503599627370495, 9007199254740991, 18014398509481983, 36028797018963967, 72057594037927935, 144115188075855871, 288230376151711743, 576460752303423487, 1152921504606846975, 2305843009213693951, 4611686018427387903, 9223372036854775807, 18446744073709551615, 36893488147419103231, 73786976294838206463, 147573952589676412927, 295147905179352825855, 590295810358705651711, 1180591620717411303423, 2361183241434822606847, 4722366482869645213695, 2361183241434822606847, 18889465931478580854783, 37778931862957161709567, 75557863725914323419135, 151115727451828646838271, 302231454903657293676543, 604462909807314587353087, 1208925819614629174706175, 2417851639229258349412351, 4835703278458516698824703, 9671406556917033397649407, 19342813113834066795298815, 38685626227668133590597631, 77371252455336267181195263, 154742504910672534362390527, 309485009821345068724781055, 618970019642690137449562111, 1237940039285380274899124223, 2475880078570760549798248447, 4951760157141521099596496895, 9903520314283042199192993791, 19807040628566084398385987583, 39614081257132168796771975167, 79228162514264337593543950335, 158456325028528675187087900671, 316912650057057350374175801343, 633825300114114700748351602687, 1267650600228229401496703205375, 2535301200456458802993406410751]
theorem known.tab20 : rtab .any (opsOf Try.f3 20) = known.T20 := by kernel_rfl
theorem known.bits20 : waitsOk known.T20.2 known.B20 = true := by kernel_rfl
set_option maxRecDepth 100000 in
set_option maxHeartbeats 8000000 in
theorem known_calls (w : World) : Calls Try.prog 3 #[] w fun e w' => e = .returned (.bool true) ∧ Below w.heap.size w w' := by
  go_enter Try.func3, Try.ntmps3
  go_wp2_with (go_at_call 6; (with_reducible refine (awake_calls _).mono ?_); rintro e w1 ⟨rfl, hb1⟩)
  have HB1 := Lib.hid hb1
  have C0 := pw_reads w1
  have KP : ∀ W, Below (w1.heap.size + 1) (w1.alloc (.cells #[.int .i64 0, .int .i64 3, .int .i64 1, .int .i64 2] 24)) W → Kd.C k24 W (some ⟨w1.heap.size, 0, none⟩) 2 pw := fun W hb => Kd.C_below C0 (hb.mono (by simp))
  clear C0 hb1
  have N0 : ∀ W, Below (w1.heap.size + 1) (w1.alloc (.cells #[.int .i64 0, .int .i64 3, .int .i64 1, .int .i64 2] 24)) W → Calls Try.prog 7 #[.int .i64 0, .slice (some ⟨w1.heap.size, 0, none⟩) 2 2] W fun e w' => ∃ A' c', e = .returned (.tuple #[.agg #[.int .i64 0, .slice A' 0 c', .int .i64 0, .int .i64 0], .bool false]) ∧ Below W.heap.size W w' := fun W hb => new_bad (l := pw) (KP W hb) (by decide) (.inr (by omega))
  have N1 : ∀ W, Calls Try.prog 7 #[.int .i64 1, .slice none 0 0] W fun e w' => ∃ A' c', e = .returned (.tuple #[.agg #[.int .i64 0, .slice A' 0 c', .int .i64 0, .int .i64 0], .bool false]) ∧ Below W.heap.size W w' := fun W => new_bad (l := []) (A := none) (c := 0) ⟨rfl, by simp, fun h => absurd h (by simp)⟩ (by simp) (.inl (by decide))
  have N7 : ∀ W, Below (w1.heap.size + 1) (w1.alloc (.cells #[.int .i64 0, .int .i64 3, .int .i64 1, .int .i64 2] 24)) W → Calls Try.prog 7 #[.int .i64 7, .slice (some ⟨w1.heap.size, 0, none⟩) 2 2] W fun e w' => ∃ A' c', e = .returned (.tuple #[.agg #[.int .i64 7, .slice A' 2 c', .int .i64 0, .int .i64 0], .bool true]) ∧ Kd.C k24 w' A' 2 pw ∧ 2 ≤ c' ∧ Below W.heap.size W w' := fun W hb => new_good (l := pw) (KP W hb) (by decide) (by decide) (by omega)
  have P1 := Lib.hid (Below.refl (w1.heap.size + 1) (w1.alloc (.cells #[.int .i64 0, .int .i64 3, .int .i64 1, .int .i64 2] 24)))
  go_wp2_with (go_at_call 7; (with_reducible refine (N0 _ P1.out).mono ?_); rintro e w2 ⟨A2, c2, rfl, hb2⟩)
  have P2 := Lib.hid (P1.out.trans (hb2.mono (by simp)))
  have z2 : w1.heap.size + 1 ≤ w2.heap.size := by have := hb2.size; simp at this; omega
  clear hb2 N0
  go_wp2_with (go_at_call 7; (with_reducible refine (N1 _).mono ?_); rintro e w3 ⟨A3, c3, rfl, hb3⟩)
  have P3 := Lib.hid ((P2.out.alloc z2 (.cells #[.int .i64 0, .slice A2 0 c2, .int .i64 0, .int .i64 0] 28)).trans (hb3.mono (by simp; omega)))
  have z3 : w2.heap.size < w3.heap.size := by have := hb3.size; simp at this; omega
  clear hb3 N1 P1
  go_wp2_with (go_at_call 7; (with_reducible refine (N7 _ (P3.out.alloc (by omega) _)).mono ?_); rintro e w4 ⟨A', c', rfl, hC4, hc4, hb4⟩)
  have P4 := Lib.hid ((P3.out.alloc (by omega) (.cells #[.int .i64 0, .slice A3 0 c3, .int .i64 0, .int .i64 0] 28)).trans (hb4.mono (by simp; omega)))
  have z4 : w3.heap.size < w4.heap.size := by have := hb4.size; simp at this; omega
  have HC := Lib.hid hC4
  have HX := Lib.hid ((HB1.out.alloc HB1.out.size (.cells #[.int .i64 0, .int .i64 3, .int .i64 1, .int .i64 2] 24)).trans (P4.out.mono (by have := HB1.out.size; omega)))
  have ZP : ∀ W, Below w4.heap.size w4 W → Kd.C k24 W (some ⟨w1.heap.size, 0, none⟩) 2 pw := fun W hb => KP W (P4.out.trans (hb.mono (by omega)))
  clear hb4 N7 KP P2 P3 P4 hC4
  have B4 := Lib.hid (Below.refl w4.heap.size w4)
  have Z : ∀ W, Below w4.heap.size w4 W → Kd.C k24 W A' 2 pw := fun W hb => Kd.C_below HC.out hb

  have S5 : ∀ W, Below w4.heap.size w4 W → Calls Try.prog 8 #[.agg #[.int .i64 7, .slice A' 2 c', .int .i64 0, .int .i64 0]] W fun e wz => e = .returned (.tuple #[.agg #[.int .i64 7, .slice A' 2 c', .int .i64 0, .int .i64 0], .bool false]) ∧ Below W.heap.size W wz := fun W hb => next_not 7 A' c' pw 0 0 ⟨0, 3⟩ W (Z W hb) hc4 (stepJ_some (by decide) (by decide)) (by decide)
  go_wp2_with (go_at_call 8; (with_reducible refine (S5 _ ((B4.out).alloc (by first | omega | (simp only [size4, World.size_alloc]; omega)) (.cells #[.int .i64 7, .slice A' 2 c', .int .i64 0, .int .i64 0] 28))).mono ?_); rintro e w5 ⟨rfl, hb⟩; have h6 := keeps (new_block w4 (.cells #[.int .i64 7, .slice A' 2 c', .int .i64 0, .int .i64 0] 28)) hb; have z6_5 := older h6; have c6_0 := cell_of h6 0; have c6_1 := cell_of h6 1; have c6_2 := cell_of h6 2; have c6_3 := cell_of h6 3; have H6_5 := Lib.hid h6; have B5 := Lib.hid (((B4.out).alloc (by first | omega | (simp only [size4, World.size_alloc]; omega)) (.cells #[.int .i64 7, .slice A' 2 c', .int .i64 0, .int .i64 0] 28)).trans (hb.mono (by first | omega | (simp only [size4, World.size_alloc]; omega)))); have y5 := B5.out.size; clear hb h6)
  clear S5
  have S6 : ∀ W, Below w4.heap.size w4 W → Calls Try.prog 9 #[.agg #[.int .i64 7, .slice A' 2 c', .int .i64 0, .int .i64 0], .int .i64 (99)] W fun e wz => e = .returned (.tuple #[.agg #[.int .i64 7, .slice A' 2 c', .int .i64 0, .int .i64 3], .int .i64 3]) ∧ Below W.heap.size W wz := fun W hb => run_yes 7 A' c' pw 0 0 (99) ⟨0, 3⟩ W (Z W hb) hc4 (stepJ_some (by decide) (by decide)) (by decide) (by decide) (by decide)
  go_wp2_with (go_at_call 9; (with_reducible refine (S6 _ ((B5.out).alloc (by first | omega | (simp only [size4, World.size_alloc]; omega)) (.cells #[.int .i64 7, .slice A' 2 c', .int .i64 0, .int .i64 0] 28))).mono ?_); rintro e w6 ⟨rfl, hb⟩; have h6 := keeps (alloc_keeps (H6_5.out) (.cells #[.int .i64 7, .slice A' 2 c', .int .i64 0, .int .i64 0] 28)) hb; have z6_6 := older h6; have H6_6 := Lib.hid h6; have B6 := Lib.hid (((B5.out).alloc (by first | omega | (simp only [size4, World.size_alloc]; omega)) (.cells #[.int .i64 7, .slice A' 2 c', .int .i64 0, .int .i64 0] 28)).trans (hb.mono (by first | omega | (simp only [size4, World.size_alloc]; omega)))); have y6 := B6.out.size; clear hb h6)
  clear S6
  have S7 : ∀ W, Below w4.heap.size w4 W → Calls Try.prog 10 #[.agg #[.int .i64 7, .slice A' 2 c', .int .i64 0, .int .i64 3]] W fun e wz => e = .returned (.tuple #[.agg #[.int .i64 0, .int .i64 3], .bool true]) ∧ Below W.heap.size W wz := fun W hb => step_calls 7 A' c' pw 0 3 W (Z W hb) hc4 (0, 3, true) (by decide)
  go_wp2_with (go_at_call 10; (with_reducible refine (S7 _ ((B6.out).alloc (by first | omega | (simp only [size4, World.size_alloc]; omega)) (.cells #[.int .i64 7, .slice A' 2 c', .int .i64 0, .int .i64 3] 28))).mono ?_); rintro e w7 ⟨rfl, hb⟩; have h6 := keeps (alloc_keeps (H6_6.out) (.cells #[.int .i64 7, .slice A' 2 c', .int .i64 0, .int .i64 3] 28)) hb; have z6_7 := older h6; have H6_7 := Lib.hid h6; have h10 := keeps (new_block w6 (.cells #[.int .i64 7, .slice A' 2 c', .int .i64 0, .int .i64 3] 28)) hb; have z10_7 := older h10; have c10_0 := cell_of h10 0; have c10_1 := cell_of h10 1; have c10_2 := cell_of h10 2; have c10_3 := cell_of h10 3; have H10_7 := Lib.hid h10; have B7 := Lib.hid (((B6.out).alloc (by first | omega | (simp only [size4, World.size_alloc]; omega)) (.cells #[.int .i64 7, .slice A' 2 c', .int .i64 0, .int .i64 3] 28)).trans (hb.mono (by first | omega | (simp only [size4, World.size_alloc]; omega)))); have y7 := B7.out.size; clear hb h6 h10)
  clear S7
  have S8 : ∀ W, Below w4.heap.size w4 W → Calls Try.prog 8 #[.agg #[.int .i64 7, .slice A' 2 c', .int .i64 0, .int .i64 3]] W fun e wz => e = .returned (.tuple #[.agg #[.int .i64 7, .slice A' 2 c', .int .i64 1, .int .i64 0], .bool true]) ∧ Below W.heap.size W wz := fun W hb => next_yes 7 A' c' pw 0 3 ⟨0, 3⟩ W (Z W hb) hc4 (stepJ_some (by decide) (by decide)) (by decide) (by decide) (by decide)
  go_wp2_with (go_at_call 8; (with_reducible refine (S8 _ ((B7.out).alloc (by first | omega | (simp only [size4, World.size_alloc]; omega)) (.cells #[.int .i64 0, .int .i64 3] 24))).mono ?_); rintro e w8 ⟨rfl, hb⟩; have h6 := keeps (alloc_keeps (H6_7.out) (.cells #[.int .i64 0, .int .i64 3] 24)) hb; have z6_8 := older h6; have H6_8 := Lib.hid h6; have h10 := keeps (alloc_keeps (H10_7.out) (.cells #[.int .i64 0, .int .i64 3] 24)) hb; have z10_8 := older h10; have c10_0 := cell_of h10 0; have c10_1 := cell_of h10 1; have c10_2 := cell_of h10 2; have c10_3 := cell_of h10 3; have f10_0 := frozen_of h10 0; have f10_1 := frozen_of h10 1; have f10_2 := frozen_of h10 2; have f10_3 := frozen_of h10 3; have H10_8 := Lib.hid h10; have h12 := keeps (new_block w7 (.cells #[.int .i64 0, .int .i64 3] 24)) hb; have z12_8 := older h12; have H12_8 := Lib.hid h12; have B8 := Lib.hid (((B7.out).alloc (by first | omega | (simp only [size4, World.size_alloc]; omega)) (.cells #[.int .i64 0, .int .i64 3] 24)).trans (hb.mono (by first | omega | (simp only [size4, World.size_alloc]; omega)))); have y8 := B8.out.size; clear hb h6 h10 h12)
  clear S8
  have S9 : ∀ W, Below w4.heap.size w4 W → Calls Try.prog 10 #[.agg #[.int .i64 7, .slice A' 2 c', .int .i64 1, .int .i64 0]] W fun e wz => e = .returned (.tuple #[.agg #[.int .i64 1, .int .i64 2], .bool true]) ∧ Below W.heap.size W wz := fun W hb => step_calls 7 A' c' pw 1 0 W (Z W hb) hc4 (1, 2, true) (by decide)
  go_wp2_with (go_at_call 10; (with_reducible refine (S9 _ (below4 (b := w6.heap.size) (B8.out) (by omega) (.int .i64 7) (.slice A' 2 c') (.int .i64 1) (.int .i64 0))).mono ?_); rintro e w9 ⟨rfl, hb⟩; have h6 := keeps (ne4 (b := w6.heap.size) (H6_8.out) (by omega) (.int .i64 7) (.slice A' 2 c') (.int .i64 1) (.int .i64 0)) hb; have z6_9 := older h6; have H6_9 := Lib.hid h6; have h10 := keeps (set4 (H10_8.out) (.int .i64 7) (.slice A' 2 c') (.int .i64 1) (.int .i64 0)) hb; have z10_9 := older h10; have c10_0 := cell_of h10 0; have c10_1 := cell_of h10 1; have c10_2 := cell_of h10 2; have c10_3 := cell_of h10 3; have H10_9 := Lib.hid h10; have h12 := keeps (ne4 (b := w6.heap.size) (H12_8.out) (by omega) (.int .i64 7) (.slice A' 2 c') (.int .i64 1) (.int .i64 0)) hb; have z12_9 := older h12; have H12_9 := Lib.hid h12; have B9 := Lib.hid ((below4 (b := w6.heap.size) (B8.out) (by omega) (.int .i64 7) (.slice A' 2 c') (.int .i64 1) (.int .i64 0)).trans (hb.mono (by first | omega | (simp only [size4, World.size_alloc]; omega)))); have y9 := B9.out.size; clear hb h6 h10 h12)
  clear S9
  have S10 : ∀ W, Below w4.heap.size w4 W → Calls Try.prog 9 #[.agg #[.int .i64 7, .slice A' 2 c', .int .i64 1, .int .i64 0], .int .i64 (-5)] W fun e wz => e = .returned (.tuple #[.agg #[.int .i64 7, .slice A' 2 c', .int .i64 1, .int .i64 0], .int .i64 0]) ∧ Below W.heap.size W wz := fun W hb => run_yes 7 A' c' pw 1 0 (-5) ⟨1, 2⟩ W (Z W hb) hc4 (stepJ_some (by decide) (by decide)) (by decide) (by decide) (by decide)
  go_wp2_with (go_at_call 9; (with_reducible refine (S10 _ ((B9.out).alloc (by first | omega | (simp only [size4, World.size_alloc]; omega)) (.cells #[.int .i64 1, .int .i64 2] 24))).mono ?_); rintro e w10 ⟨rfl, hb⟩; have h6 := keeps (alloc_keeps (H6_9.out) (.cells #[.int .i64 1, .int .i64 2] 24)) hb; have z6_10 := older h6; have H6_10 := Lib.hid h6; have h10 := keeps (alloc_keeps (H10_9.out) (.cells #[.int .i64 1, .int .i64 2] 24)) hb; have z10_10 := older h10; have c10_0 := cell_of h10 0; have c10_1 := cell_of h10 1; have c10_2 := cell_of h10 2; have c10_3 := cell_of h10 3; have f10_0 := frozen_of h10 0; have f10_1 := frozen_of h10 1; have f10_2 := frozen_of h10 2; have f10_3 := frozen_of h10 3; have H10_10 := Lib.hid h10; have h12 := keeps (alloc_keeps (H12_9.out) (.cells #[.int .i64 1, .int .i64 2] 24)) hb; have z12_10 := older h12; have H12_10 := Lib.hid h12; have h15 := keeps (new_block w9 (.cells #[.int .i64 1, .int .i64 2] 24)) hb; have z15_10 := older h15; have H15_10 := Lib.hid h15; have B10 := Lib.hid (((B9.out).alloc (by first | omega | (simp only [size4, World.size_alloc]; omega)) (.cells #[.int .i64 1, .int .i64 2] 24)).trans (hb.mono (by first | omega | (simp only [size4, World.size_alloc]; omega)))); have y10 := B10.out.size; clear hb h6 h10 h12 h15)
  clear S10
  have S11 : ∀ W, Below w4.heap.size w4 W → Calls Try.prog 9 #[.agg #[.int .i64 7, .slice A' 2 c', .int .i64 1, .int .i64 0], .int .i64 (2)] W fun e wz => e = .returned (.tuple #[.agg #[.int .i64 7, .slice A' 2 c', .int .i64 1, .int .i64 2], .int .i64 2]) ∧ Below W.heap.size W wz := fun W hb => run_yes 7 A' c' pw 1 0 (2) ⟨1, 2⟩ W (Z W hb) hc4 (stepJ_some (by decide) (by decide)) (by decide) (by decide) (by decide)
  go_wp2_with (go_at_call 9; (with_reducible refine (S11 _ (below4 (b := w6.heap.size) (B10.out) (by omega) (.int .i64 7) (.slice A' 2 c') (.int .i64 1) (.int .i64 0))).mono ?_); rintro e w11 ⟨rfl, hb⟩; have h6 := keeps (ne4 (b := w6.heap.size) (H6_10.out) (by omega) (.int .i64 7) (.slice A' 2 c') (.int .i64 1) (.int .i64 0)) hb; have z6_11 := older h6; have H6_11 := Lib.hid h6; have h10 := keeps (set4 (H10_10.out) (.int .i64 7) (.slice A' 2 c') (.int .i64 1) (.int .i64 0)) hb; have z10_11 := older h10; have c10_0 := cell_of h10 0; have c10_1 := cell_of h10 1; have c10_2 := cell_of h10 2; have c10_3 := cell_of h10 3; have f10_0 := frozen_of h10 0; have f10_1 := frozen_of h10 1; have f10_2 := frozen_of h10 2; have f10_3 := frozen_of h10 3; have H10_11 := Lib.hid h10; have h12 := keeps (ne4 (b := w6.heap.size) (H12_10.out) (by omega) (.int .i64 7) (.slice A' 2 c') (.int .i64 1) (.int .i64 0)) hb; have z12_11 := older h12; have H12_11 := Lib.hid h12; have h15 := keeps (ne4 (b := w6.heap.size) (H15_10.out) (by omega) (.int .i64 7) (.slice A' 2 c') (.int .i64 1) (.int .i64 0)) hb; have z15_11 := older h15; have H15_11 := Lib.hid h15; have B11 := Lib.hid ((below4 (b := w6.heap.size) (B10.out) (by omega) (.int .i64 7) (.slice A' 2 c') (.int .i64 1) (.int .i64 0)).trans (hb.mono (by first | omega | (simp only [size4, World.size_alloc]; omega)))); have y11 := B11.out.size; clear hb h6 h10 h12 h15)
  clear S11
  have S12 : ∀ W, Below w4.heap.size w4 W → Calls Try.prog 8 #[.agg #[.int .i64 7, .slice A' 2 c', .int .i64 1, .int .i64 2]] W fun e wz => e = .returned (.tuple #[.agg #[.int .i64 7, .slice A' 2 c', .int .i64 2, .int .i64 0], .bool true]) ∧ Below W.heap.size W wz := fun W hb => next_yes 7 A' c' pw 1 2 ⟨1, 2⟩ W (Z W hb) hc4 (stepJ_some (by decide) (by decide)) (by decide) (by decide) (by decide)
  go_wp2_with (go_at_call 8; (with_reducible refine (S12 _ (below4 (b := w6.heap.size) (B11.out) (by omega) (.int .i64 7) (.slice A' 2 c') (.int .i64 1) (.int .i64 2))).mono ?_); rintro e w12 ⟨rfl, hb⟩; have h6 := keeps (ne4 (b := w6.heap.size) (H6_11.out) (by omega) (.int .i64 7) (.slice A' 2 c') (.int .i64 1) (.int .i64 2)) hb; have z6_12 := older h6; have H6_12 := Lib.hid h6; have h10 := keeps (set4 (H10_11.out) (.int .i64 7) (.slice A' 2 c') (.int .i64 1) (.int .i64 2)) hb; have z10_12 := older h10; have c10_0 := cell_of h10 0; have c10_1 := cell_of h10 1; have c10_2 := cell_of h10 2; have c10_3 := cell_of h10 3; have f10_0 := frozen_of h10 0; have f10_1 := frozen_of h10 1; have f10_2 := frozen_of h10 2; have f10_3 := frozen_of h10 3; have H10_12 := Lib.hid h10; have h12 := keeps (ne4 (b := w6.heap.size) (H12_11.out) (by omega) (.int .i64 7) (.slice A' 2 c') (.int .i64 1) (.int .i64 2)) hb; have z12_12 := older h12; have H12_12 := Lib.hid h12; have h15 := keeps (ne4 (b := w6.heap.size) (H15_11.out) (by omega) (.int .i64 7) (.slice A' 2 c') (.int .i64 1) (.int .i64 2)) hb; have z15_12 := older h15; have H15_12 := Lib.hid h15; have B12 := Lib.hid ((below4 (b := w6.heap.size) (B11.out) (by omega) (.int .i64 7) (.slice A' 2 c') (.int .i64 1) (.int .i64 2)).trans (hb.mono (by first | omega | (simp only [size4, World.size_alloc]; omega)))); have y12 := B12.out.size; clear hb h6 h10 h12 h15)
  clear S12
  have S13 : ∀ W, Below w4.heap.size w4 W → Calls Try.prog 10 #[.agg #[.int .i64 7, .slice A' 2 c', .int .i64 2, .int .i64 0]] W fun e wz => e = .returned (.tuple #[.agg #[.int .i64 0, .int .i64 0], .bool false]) ∧ Below W.heap.size W wz := fun W hb => step_calls 7 A' c' pw 2 0 W (Z W hb) hc4 (0, 0, false) (by decide)
  go_wp2_with (go_at_call 10; (with_reducible refine (S13 _ (below4 (b := w6.heap.size) (B12.out) (by omega) (.int .i64 7) (.slice A' 2 c') (.int .i64 2) (.int .i64 0))).mono ?_); rintro e w13 ⟨rfl, hb⟩; have h6 := keeps (ne4 (b := w6.heap.size) (H6_12.out) (by omega) (.int .i64 7) (.slice A' 2 c') (.int .i64 2) (.int .i64 0)) hb; have z6_13 := older h6; have H6_13 := Lib.hid h6; have h10 := keeps (set4 (H10_12.out) (.int .i64 7) (.slice A' 2 c') (.int .i64 2) (.int .i64 0)) hb; have z10_13 := older h10; have c10_0 := cell_of h10 0; have c10_1 := cell_of h10 1; have c10_2 := cell_of h10 2; have c10_3 := cell_of h10 3; have H10_13 := Lib.hid h10; have h12 := keeps (ne4 (b := w6.heap.size) (H12_12.out) (by omega) (.int .i64 7) (.slice A' 2 c') (.int .i64 2) (.int .i64 0)) hb; have z12_13 := older h12; have H12_13 := Lib.hid h12; have h15 := keeps (ne4 (b := w6.heap.size) (H15_12.out) (by omega) (.int .i64 7) (.slice A' 2 c') (.int .i64 2) (.int .i64 0)) hb; have z15_13 := older h15; have H15_13 := Lib.hid h15; have B13 := Lib.hid ((below4 (b := w6.heap.size) (B12.out) (by omega) (.int .i64 7) (.slice A' 2 c') (.int .i64 2) (.int .i64 0)).trans (hb.mono (by first | omega | (simp only [size4, World.size_alloc]; omega)))); have y13 := B13.out.size; clear hb h6 h10 h12 h15)
  clear S13
  have S14 : ∀ W, Below w4.heap.size w4 W → Calls Try.prog 8 #[.agg #[.int .i64 7, .slice A' 2 c', .int .i64 2, .int .i64 0]] W fun e wz => e = .returned (.tuple #[.agg #[.int .i64 7, .slice A' 2 c', .int .i64 2, .int .i64 0], .bool false]) ∧ Below W.heap.size W wz := fun W hb => next_none 7 A' c' pw 2 0 W (Z W hb) hc4 (stepJ_end rfl)
  go_wp2_with (go_at_call 8; (with_reducible refine (S14 _ ((B13.out).alloc (by first | omega | (simp only [size4, World.size_alloc]; omega)) (.cells #[.int .i64 0, .int .i64 0] 24))).mono ?_); rintro e w14 ⟨rfl, hb⟩; have h6 := keeps (alloc_keeps (H6_13.out) (.cells #[.int .i64 0, .int .i64 0] 24)) hb; have z6_14 := older h6; have H6_14 := Lib.hid h6; have h10 := keeps (alloc_keeps (H10_13.out) (.cells #[.int .i64 0, .int .i64 0] 24)) hb; have z10_14 := older h10; have c10_0 := cell_of h10 0; have c10_1 := cell_of h10 1; have c10_2 := cell_of h10 2; have c10_3 := cell_of h10 3; have H10_14 := Lib.hid h10; have h12 := keeps (alloc_keeps (H12_13.out) (.cells #[.int .i64 0, .int .i64 0] 24)) hb; have z12_14 := older h12; have H12_14 := Lib.hid h12; have h15 := keeps (alloc_keeps (H15_13.out) (.cells #[.int .i64 0, .int .i64 0] 24)) hb; have z15_14 := older h15; have H15_14 := Lib.hid h15; have B14 := Lib.hid (((B13.out).alloc (by first | omega | (simp only [size4, World.size_alloc]; omega)) (.cells #[.int .i64 0, .int .i64 0] 24)).trans (hb.mono (by first | omega | (simp only [size4, World.size_alloc]; omega)))); have y14 := B14.out.size; clear hb h6 h10 h12 h15)
  clear S14
  have S15 : ∀ W, Below w4.heap.size w4 W → Calls Try.prog 9 #[.agg #[.int .i64 7, .slice A' 2 c', .int .i64 2, .int .i64 0], .int .i64 1] W fun e wz => e = .returned (.tuple #[.agg #[.int .i64 7, .slice A' 2 c', .int .i64 2, .int .i64 0], .int .i64 0]) ∧ Below W.heap.size W wz := fun W hb => run_no 7 A' c' pw 2 0 1 W (Z W hb) hc4 (stepJ_end rfl)
  go_wp2_with (go_at_call 9; (with_reducible refine (S15 _ ((B14.out).alloc (by first | omega | (simp only [size4, World.size_alloc]; omega)) (.cells #[.int .i64 7, .slice A' 2 c', .int .i64 2, .int .i64 0] 28))).mono ?_); rintro e w15 ⟨rfl, hb⟩; have h6 := keeps (alloc_keeps (H6_14.out) (.cells #[.int .i64 7, .slice A' 2 c', .int .i64 2, .int .i64 0] 28)) hb; have z6_15 := older h6; have H6_15 := Lib.hid h6; have h10 := keeps (alloc_keeps (H10_14.out) (.cells #[.int .i64 7, .slice A' 2 c', .int .i64 2, .int .i64 0] 28)) hb; have z10_15 := older h10; have c10_0 := cell_of h10 0; have c10_1 := cell_of h10 1; have c10_2 := cell_of h10 2; have c10_3 := cell_of h10 3; have H10_15 := Lib.hid h10; have h12 := keeps (alloc_keeps (H12_14.out) (.cells #[.int .i64 7, .slice A' 2 c', .int .i64 2, .int .i64 0] 28)) hb; have z12_15 := older h12; have H12_15 := Lib.hid h12; have h15 := keeps (alloc_keeps (H15_14.out) (.cells #[.int .i64 7, .slice A' 2 c', .int .i64 2, .int .i64 0] 28)) hb; have z15_15 := older h15; have H15_15 := Lib.hid h15; have B15 := Lib.hid (((B14.out).alloc (by first | omega | (simp only [size4, World.size_alloc]; omega)) (.cells #[.int .i64 7, .slice A' 2 c', .int .i64 2, .int .i64 0] 28)).trans (hb.mono (by first | omega | (simp only [size4, World.size_alloc]; omega)))); have y15 := B15.out.size; clear hb h6 h10 h12 h15)
  clear S15
  have S16 : ∀ W, Below w4.heap.size w4 W → Calls Try.prog 9 #[.agg #[.int .i64 1, .slice (some ⟨w1.heap.size, 0, none⟩) 2 2, .int .i64 0, .int .i64 4], .int .i64 1] W fun e wz => e = .returned (.tuple #[.agg #[.int .i64 1, .slice (some ⟨w1.heap.size, 0, none⟩) 2 2, .int .i64 0, .int .i64 4], .int .i64 0]) ∧ Below W.heap.size W wz := fun W hb => run_no 1 _ 2 pw 0 4 1 W (ZP W hb) (by decide) (by unfold stepJ; rw [if_neg (by decide)])
  go_wp2_with (go_at_call 9; (with_reducible refine (S16 _ (((B15.out).alloc (by first | omega | (simp only [size4, World.size_alloc]; omega)) (.cells #[.int .i64 7, .slice A' 2 c', .int .i64 2, .int .i64 0] 28)).alloc (by first | omega | (simp only [size4, World.size_alloc]; omega)) (.cells #[.int .i64 1, .slice (some ⟨w1.heap.size, 0, none⟩) 2 2, .int .i64 0, .int .i64 4] 28))).mono ?_); rintro e w16 ⟨rfl, hb⟩; have h6 := keeps (alloc_keeps (alloc_keeps (H6_15.out) (.cells #[.int .i64 7, .slice A' 2 c', .int .i64 2, .int .i64 0] 28)) (.cells #[.int .i64 1, .slice (some ⟨w1.heap.size, 0, none⟩) 2 2, .int .i64 0, .int .i64 4] 28)) hb; have z6_16 := older h6; have H6_16 := Lib.hid h6; have h10 := keeps (alloc_keeps (alloc_keeps (H10_15.out) (.cells #[.int .i64 7, .slice A' 2 c', .int .i64 2, .int .i64 0] 28)) (.cells #[.int .i64 1, .slice (some ⟨w1.heap.size, 0, none⟩) 2 2, .int .i64 0, .int .i64 4] 28)) hb; have z10_16 := older h10; have c10_0 := cell_of h10 0; have c10_1 := cell_of h10 1; have c10_2 := cell_of h10 2; have c10_3 := cell_of h10 3; have H10_16 := Lib.hid h10; have h12 := keeps (alloc_keeps (alloc_keeps (H12_15.out) (.cells #[.int .i64 7, .slice A' 2 c', .int .i64 2, .int .i64 0] 28)) (.cells #[.int .i64 1, .slice (some ⟨w1.heap.size, 0, none⟩) 2 2, .int .i64 0, .int .i64 4] 28)) hb; have z12_16 := older h12; have c12_0 := cell_of h12 0; have c12_1 := cell_of h12 1; have H12_16 := Lib.hid h12; have h15 := keeps (alloc_keeps (alloc_keeps (H15_15.out) (.cells #[.int .i64 7, .slice A' 2 c', .int .i64 2, .int .i64 0] 28)) (.cells #[.int .i64 1, .slice (some ⟨w1.heap.size, 0, none⟩) 2 2, .int .i64 0, .int .i64 4] 28)) hb; have z15_16 := older h15; have c15_0 := cell_of h15 0; have c15_1 := cell_of h15 1; have H15_16 := Lib.hid h15; have h24 := keeps (alloc_keeps (new_block w15 (.cells #[.int .i64 7, .slice A' 2 c', .int .i64 2, .int .i64 0] 28)) (.cells #[.int .i64 1, .slice (some ⟨w1.heap.size, 0, none⟩) 2 2, .int .i64 0, .int .i64 4] 28)) hb; have z24_16 := older h24; have c24_0 := cell_of h24 0; have c24_1 := cell_of h24 1; have c24_2 := cell_of h24 2; have c24_3 := cell_of h24 3; have H24_16 := Lib.hid h24; have h26 := keeps (new_block2 w15 (.cells #[.int .i64 7, .slice A' 2 c', .int .i64 2, .int .i64 0] 28) (.cells #[.int .i64 1, .slice (some ⟨w1.heap.size, 0, none⟩) 2 2, .int .i64 0, .int .i64 4] 28)) hb; have z26_16 := older h26; have c26_0 := cell_of h26 0; have c26_1 := cell_of h26 1; have c26_2 := cell_of h26 2; have c26_3 := cell_of h26 3; have H26_16 := Lib.hid h26; have B16 := Lib.hid ((((B15.out).alloc (by first | omega | (simp only [size4, World.size_alloc]; omega)) (.cells #[.int .i64 7, .slice A' 2 c', .int .i64 2, .int .i64 0] 28)).alloc (by first | omega | (simp only [size4, World.size_alloc]; omega)) (.cells #[.int .i64 1, .slice (some ⟨w1.heap.size, 0, none⟩) 2 2, .int .i64 0, .int .i64 4] 28)).trans (hb.mono (by first | omega | (simp only [size4, World.size_alloc]; omega)))); have y16 := B16.out.size; clear hb h6 h10 h12 h15 h24 h26)
  clear S16
  have g6 := alloc_keeps (H6_16.out) (.cells #[.int .i64 1, .slice (some ⟨w1.heap.size, 0, none⟩) 2 2, .int .i64 0, .int .i64 4] 28)
  have g10 := alloc_keeps (H10_16.out) (.cells #[.int .i64 1, .slice (some ⟨w1.heap.size, 0, none⟩) 2 2, .int .i64 0, .int .i64 4] 28)
  have g12 := alloc_keeps (H12_16.out) (.cells #[.int .i64 1, .slice (some ⟨w1.heap.size, 0, none⟩) 2 2, .int .i64 0, .int .i64 4] 28)
  have g15 := alloc_keeps (H15_16.out) (.cells #[.int .i64 1, .slice (some ⟨w1.heap.size, 0, none⟩) 2 2, .int .i64 0, .int .i64 4] 28)
  have g24 := alloc_keeps (H24_16.out) (.cells #[.int .i64 1, .slice (some ⟨w1.heap.size, 0, none⟩) 2 2, .int .i64 0, .int .i64 4] 28)
  have g26 := alloc_keeps (H26_16.out) (.cells #[.int .i64 1, .slice (some ⟨w1.heap.size, 0, none⟩) 2 2, .int .i64 0, .int .i64 4] 28)
  have g27 := new_block w16 (.cells #[.int .i64 1, .slice (some ⟨w1.heap.size, 0, none⟩) 2 2, .int .i64 0, .int .i64 4] 28)
  have BX := (B16.out).alloc (by first | omega | (simp only [size4, World.size_alloc]; omega)) (.cells #[.int .i64 1, .slice (some ⟨w1.heap.size, 0, none⟩) 2 2, .int .i64 0, .int .i64 4] 28)
  have hS : SK w6.heap.size w7.heap.size w9.heap.size w15.heap.size (w15.heap.size + 1) w16.heap.size (.int .i64 7) (.slice A' 2 c') (.int .i64 2) (.int .i64 0) (.int .i64 1) (.slice (some ⟨w1.heap.size, 0, none⟩) 2 2) (.int .i64 0) (.int .i64 4) w4 (w16.alloc (.cells #[.int .i64 1, .slice (some ⟨w1.heap.size, 0, none⟩) 2 2, .int .i64 0, .int .i64 4] 28)) := ⟨⟨cell_of g10 0, cell_of g10 1, cell_of g10 2, cell_of g10 3⟩, ⟨cell_of g12 0, cell_of g12 1⟩, ⟨cell_of g15 0, cell_of g15 1⟩, ⟨cell_of g24 0, cell_of g24 1, cell_of g24 2, cell_of g24 3⟩, ⟨cell_of g26 0, cell_of g26 1, cell_of g26 2, cell_of g26 3⟩, ⟨cell_of g27 0, cell_of g27 1, cell_of g27 2, cell_of g27 3⟩, ⟨older g10, older g12, older g15, older g24, older g26, older g27⟩, BX⟩
  have OJ : ∀ W, SK w6.heap.size w7.heap.size w9.heap.size w15.heap.size (w15.heap.size + 1) w16.heap.size (.int .i64 7) (.slice A' 2 c') (.int .i64 2) (.int .i64 0) (.int .i64 1) (.slice (some ⟨w1.heap.size, 0, none⟩) 2 2) (.int .i64 0) (.int .i64 4) w4 W → Calls Try.prog 13 #[.agg #[.int .i64 7, .slice A' 2 c', .int .i64 2, .int .i64 0]] W fun e wz => ∃ A1 c1, e = .returned (.agg #[.int .i64 7, .slice A1 2 c1, .int .i64 2, .int .i64 0]) ∧ Kd.C k49 wz A1 2 (ownL pw) ∧ 2 ≤ c1 ∧ Below W.heap.size W wz := fun W h => own_calls 7 A' c' pw 2 0 W (Z W h.2.2.2.2.2.2.2) hc4 (by decide)
  have SM : ∀ A1 c1 A2 c2 W, Kd.C k49 W A1 2 (ownL pw) → 2 ≤ c1 → Kd.C k49 W A2 2 (ownL pw) → 2 ≤ c2 → Calls Try.prog 12 #[.agg #[.int .i64 7, .slice A1 2 c1, .int .i64 2, .int .i64 0], .agg #[.int .i64 7, .slice A2 2 c2, .int .i64 2, .int .i64 0]] W fun e wz => e = .returned (.bool true) ∧ Below W.heap.size W wz := fun A1 c1 A2 c2 W r1 q1 r2 q2 => same_calls 7 2 0 A1 A2 c1 c2 2 pw rfl W r1 q1 r2 q2 (by decide)
  have LG : ∀ W, SK w6.heap.size w7.heap.size w9.heap.size w15.heap.size (w15.heap.size + 1) w16.heap.size (.int .i64 7) (.slice A' 2 c') (.int .i64 2) (.int .i64 0) (.int .i64 1) (.slice (some ⟨w1.heap.size, 0, none⟩) 2 2) (.int .i64 0) (.int .i64 4) w4 W → Calls Try.prog 14 #[.agg #[.int .i64 7, .slice A' 2 c', .int .i64 2, .int .i64 0]] W fun e wz => e = .returned (.int .i64 0) ∧ Below W.heap.size W wz := fun W h => left_calls (l := pw) (Z W h.2.2.2.2.2.2.2) hc4 (by decide)
  have GB : ∀ W, SK w6.heap.size w7.heap.size w9.heap.size w15.heap.size (w15.heap.size + 1) w16.heap.size (.int .i64 7) (.slice A' 2 c') (.int .i64 2) (.int .i64 0) (.int .i64 1) (.slice (some ⟨w1.heap.size, 0, none⟩) 2 2) (.int .i64 0) (.int .i64 4) w4 W → Calls Try.prog 11 #[.agg #[.int .i64 1, .slice (some ⟨w1.heap.size, 0, none⟩) 2 2, .int .i64 0, .int .i64 4]] W fun e wz => e = .returned (.bool false) ∧ Below W.heap.size W wz := fun W h => job_Good.calls 1 1 _ 2 pw 0 4 false W (ZP W h.2.2.2.2.2.2.2) (by decide) (by rw [good_f 0]; decide)
  have GK : ∀ W, SK w6.heap.size w7.heap.size w9.heap.size w15.heap.size (w15.heap.size + 1) w16.heap.size (.int .i64 7) (.slice A' 2 c') (.int .i64 2) (.int .i64 0) (.int .i64 1) (.slice (some ⟨w1.heap.size, 0, none⟩) 2 2) (.int .i64 0) (.int .i64 4) w4 W → Calls Try.prog 11 #[.agg #[.int .i64 7, .slice A' 2 c', .int .i64 2, .int .i64 0]] W fun e wz => e = .returned (.bool true) ∧ Below W.heap.size W wz := fun W h => job_Good.calls 1 7 A' c' pw 2 0 true W (Z W h.2.2.2.2.2.2.2) hc4 (by rw [good_f 0]; decide)
  have LB : ∀ W, SK w6.heap.size w7.heap.size w9.heap.size w15.heap.size (w15.heap.size + 1) w16.heap.size (.int .i64 7) (.slice A' 2 c') (.int .i64 2) (.int .i64 0) (.int .i64 1) (.slice (some ⟨w1.heap.size, 0, none⟩) 2 2) (.int .i64 0) (.int .i64 4) w4 W → Calls Try.prog 14 #[.agg #[.int .i64 1, .slice (some ⟨w1.heap.size, 0, none⟩) 2 2, .int .i64 0, .int .i64 4]] W fun e wz => e = .returned (.int .i64 0) ∧ Below W.heap.size W wz := fun W h => job_Left.calls 20 1 _ 2 pw 0 4 0 W (ZP W h.2.2.2.2.2.2.2) (by decide) (by unfold job_Left.f; rw [good_f 19, show goodJ 1 pw 0 4 = false by decide]; rfl)
  have hz16 : w4.heap.size ≤ w16.heap.size := y16
  clear g6 g10 g12 g15 g24 g26 g27 BX H6_16 H10_16 H12_16 H15_16 H24_16 H26_16
  generalize hw17 : World.alloc w16 _ = w17 at *
  clear hw17
  clear c10_0 c10_1 c10_2 c10_3 c12_0 c12_1 c15_0 c15_1 c24_0 c24_1 c24_2 c24_3 c26_0 c26_1 c26_2 c26_3
  have hS0 := Lib.hid (keepK hS (v := w17.drew) ⟨rfl, rfl, rfl, Nat.le_refl _, fun _ _ => rfl⟩)
  as_aux_lemma =>
  simp only [List.append_eq, List.cons_append, List.nil_append]
  refine start_ (n := 102) (S := fun w' => Hid (SK w6.heap.size w7.heap.size w9.heap.size w15.heap.size (w15.heap.size + 1) w16.heap.size (.int .i64 7) (.slice A' 2 c') (.int .i64 2) (.int .i64 0) (.int .i64 1) (.slice (some ⟨w1.heap.size, 0, none⟩) 2 2) (.int .i64 0) (.int .i64 4) w4 w')) (ds := []) #[false, false, false, false, false, false, false, false, false, false, false, false, false, false, false, false, false, false, false, false, false, false, false, false, false, false, false, false, false, false, false, false, false, false, false, false, false, false, false, false, false, false, false, false, false, false, false, false, false, false, false, false, false, false, false, false, false, false, false, false, false, false, false, false, false, false, false, false, false, false, false, false, false, false, false, false, false, false, false, false, false, false, false, false, false, false, false, false, false, false, false, false, false, false, false, false, false, false, false, false, false, false] (by kernel_rfl) rfl rfl (hS0) (fun hHeld => ?_)
  refine with_tabW known.tab20 known.bits20 (fun HT_ HW_ => ?_)
  refine pure_ (i := 0) (N := some 110) (v := ?_) (a' := ?_) #[true, false, false, false, false, false, false, false, false, false, false, false, false, false, false, false, false, false, false, false, false, false, false, false, false, false, false, false, false, false, false, false, false, false, false, false, false, false, false, false, false, false, false, false, false, false, false, false, false, false, false, false, false, false, false, false, false, false, false, false, false, false, false, false, false, false, false, false, false, false, false, false, false, false, false, false, false, false, false, false, false, false, false, false, false, false, false, false, false, false, false, false, false, false, false, false, false, false, false, false, false, false] rfl rfl (any_of HT_.out (by kernel_rfl)) (fun _ _ _ h => h) (Or.inl ⟨by rfl, ?_⟩) ?_ ?_
  rotate_left
  · intro w'
    go_simp
    with_reducible rfl
  rotate_left
  · simp only [Act.put, List.setIfInBounds_toArray, List.set_cons_zero, List.set_cons_succ, i64_w, i32_w]
    rfl
  refine pure_ (i := 1) (N := some 111) (v := ?_) (a' := ?_) #[true, true, false, false, false, false, false, false, false, false, false, false, false, false, false, false, false, false, false, false, false, false, false, false, false, false, false, false, false, false, false, false, false, false, false, false, false, false, false, false, false, false, false, false, false, false, false, false, false, false, false, false, false, false, false, false, false, false, false, false, false, false, false, false, false, false, false, false, false, false, false, false, false, false, false, false, false, false, false, false, false, false, false, false, false, false, false, false, false, false, false, false, false, false, false, false, false, false, false, false, false, false] rfl rfl (any_of HT_.out (by kernel_rfl)) (fun _ _ _ h => h) (Or.inl ⟨by rfl, ?_⟩) ?_ ?_
  rotate_left
  · intro w'
    go_simp
    with_reducible rfl
  rotate_left
  · simp only [Act.put, List.setIfInBounds_toArray, List.set_cons_zero, List.set_cons_succ, i64_w, i32_w]
    rfl
  refine pure_ (i := 2) (N := some 112) (v := ?_) (a' := ?_) #[true, true, true, false, false, false, false, false, false, false, false, false, false, false, false, false, false, false, false, false, false, false, false, false, false, false, false, false, false, false, false, false, false, false, false, false, false, false, false, false, false, false, false, false, false, false, false, false, false, false, false, false, false, false, false, false, false, false, false, false, false, false, false, false, false, false, false, false, false, false, false, false, false, false, false, false, false, false, false, false, false, false, false, false, false, false, false, false, false, false, false, false, false, false, false, false, false, false, false, false, false, false] rfl rfl (any_of HT_.out (by kernel_rfl)) (fun _ _ _ h => h) (Or.inl ⟨by rfl, ?_⟩) ?_ ?_
  rotate_left
  · intro w'
    go_simp
    with_reducible rfl
  rotate_left
  · simp only [Act.put, List.setIfInBounds_toArray, List.set_cons_zero, List.set_cons_succ, i64_w, i32_w]
    rfl
  refine pure_ (i := 3) (N := some 113) (v := ?_) (a' := ?_) #[true, true, true, true, false, false, false, false, false, false, false, false, false, false, false, false, false, false, false, false, false, false, false, false, false, false, false, false, false, false, false, false, false, false, false, false, false, false, false, false, false, false, false, false, false, false, false, false, false, false, false, false, false, false, false, false, false, false, false, false, false, false, false, false, false, false, false, false, false, false, false, false, false, false, false, false, false, false, false, false, false, false, false, false, false, false, false, false, false, false, false, false, false, false, false, false, false, false, false, false, false, false] rfl rfl (any_of HT_.out (by kernel_rfl)) (fun _ _ _ h => h) (Or.inl ⟨by rfl, ?_⟩) ?_ ?_
  rotate_left
  · intro w'
    go_simp
    with_reducible rfl
  rotate_left
  · simp only [Act.put, List.setIfInBounds_toArray, List.set_cons_zero, List.set_cons_succ, i64_w, i32_w]
    rfl
  refine pure_ (i := 4) (N := some 114) (v := ?_) (a' := ?_) #[true, true, true, true, true, false, false, false, false, false, false, false, false, false, false, false, false, false, false, false, false, false, false, false, false, false, false, false, false, false, false, false, false, false, false, false, false, false, false, false, false, false, false, false, false, false, false, false, false, false, false, false, false, false, false, false, false, false, false, false, false, false, false, false, false, false, false, false, false, false, false, false, false, false, false, false, false, false, false, false, false, false, false, false, false, false, false, false, false, false, false, false, false, false, false, false, false, false, false, false, false, false] rfl rfl (any_of HT_.out (by kernel_rfl)) (fun _ _ _ h => h) (Or.inl ⟨by rfl, ?_⟩) ?_ ?_
  rotate_left
  · intro w'
    go_simp
    with_reducible rfl
  rotate_left
  · simp only [Act.put, List.setIfInBounds_toArray, List.set_cons_zero, List.set_cons_succ, i64_w, i32_w]
    rfl
  refine pure_ (i := 5) (N := some 115) (v := ?_) (a' := ?_) #[true, true, true, true, true, true, false, false, false, false, false, false, false, false, false, false, false, false, false, false, false, false, false, false, false, false, false, false, false, false, false, false, false, false, false, false, false, false, false, false, false, false, false, false, false, false, false, false, false, false, false, false, false, false, false, false, false, false, false, false, false, false, false, false, false, false, false, false, false, false, false, false, false, false, false, false, false, false, false, false, false, false, false, false, false, false, false, false, false, false, false, false, false, false, false, false, false, false, false, false, false, false] rfl rfl (any_of HT_.out (by kernel_rfl)) (fun _ _ _ h => h) (Or.inl ⟨by rfl, ?_⟩) ?_ ?_
  rotate_left
  · intro w'
    go_simp
    with_reducible rfl
  rotate_left
  · simp only [Act.put, List.setIfInBounds_toArray, List.set_cons_zero, List.set_cons_succ, i64_w, i32_w]
    rfl
  refine pure_ (i := 6) (N := some 116) (v := ?_) (a' := ?_) #[true, true, true, true, true, true, true, false, false, false, false, false, false, false, false, false, false, false, false, false, false, false, false, false, false, false, false, false, false, false, false, false, false, false, false, false, false, false, false, false, false, false, false, false, false, false, false, false, false, false, false, false, false, false, false, false, false, false, false, false, false, false, false, false, false, false, false, false, false, false, false, false, false, false, false, false, false, false, false, false, false, false, false, false, false, false, false, false, false, false, false, false, false, false, false, false, false, false, false, false, false, false] rfl rfl (any_of HT_.out (by kernel_rfl)) (fun _ _ _ h => h) (Or.inl ⟨by rfl, ?_⟩) ?_ ?_
  rotate_left
  · intro w'
    go_simp
    with_reducible rfl
  rotate_left
  · simp only [Act.put, List.setIfInBounds_toArray, List.set_cons_zero, List.set_cons_succ, i64_w, i32_w]
    rfl
  refine pure_ (i := 7) (N := some 117) (v := ?_) (a' := ?_) #[true, true, true, true, true, true, true, true, false, false, false, false, false, false, false, false, false, false, false, false, false, false, false, false, false, false, false, false, false, false, false, false, false, false, false, false, false, false, false, false, false, false, false, false, false, false, false, false, false, false, false, false, false, false, false, false, false, false, false, false, false, false, false, false, false, false, false, false, false, false, false, false, false, false, false, false, false, false, false, false, false, false, false, false, false, false, false, false, false, false, false, false, false, false, false, false, false, false, false, false, false, false] rfl rfl (any_of HT_.out (by kernel_rfl)) (fun _ _ _ h => h) (Or.inl ⟨by rfl, ?_⟩) ?_ ?_
  rotate_left
  · intro w'
    go_simp
    with_reducible rfl
  rotate_left
  · simp only [Act.put, List.setIfInBounds_toArray, List.set_cons_zero, List.set_cons_succ, i64_w, i32_w]
    rfl
  refine pure_ (i := 8) (N := some 118) (v := ?_) (a' := ?_) #[true, true, true, true, true, true, true, true, true, false, false, false, false, false, false, false, false, false, false, false, false, false, false, false, false, false, false, false, false, false, false, false, false, false, false, false, false, false, false, false, false, false, false, false, false, false, false, false, false, false, false, false, false, false, false, false, false, false, false, false, false, false, false, false, false, false, false, false, false, false, false, false, false, false, false, false, false, false, false, false, false, false, false, false, false, false, false, false, false, false, false, false, false, false, false, false, false, false, false, false, false, false] rfl rfl (any_of HT_.out (by kernel_rfl)) (fun _ _ _ h => h) (Or.inl ⟨by rfl, ?_⟩) ?_ ?_
  rotate_left
  · intro w'
    go_simp
    with_reducible rfl
  rotate_left
  · simp only [Act.put, List.setIfInBounds_toArray, List.set_cons_zero, List.set_cons_succ, i64_w, i32_w]
    rfl
  refine pure_ (i := 9) (N := some 119) (v := ?_) (a' := ?_) #[true, true, true, true, true, true, true, true, true, true, false, false, false, false, false, false, false, false, false, false, false, false, false, false, false, false, false, false, false, false, false, false, false, false, false, false, false, false, false, false, false, false, false, false, false, false, false, false, false, false, false, false, false, false, false, false, false, false, false, false, false, false, false, false, false, false, false, false, false, false, false, false, false, false, false, false, false, false, false, false, false, false, false, false, false, false, false, false, false, false, false, false, false, false, false, false, false, false, false, false, false, false] rfl rfl (any_of HT_.out (by kernel_rfl)) (fun _ _ _ h => h) (Or.inl ⟨by rfl, ?_⟩) ?_ ?_
  rotate_left
  · intro w'
    go_simp
    with_reducible rfl
  rotate_left
  · simp only [Act.put, List.setIfInBounds_toArray, List.set_cons_zero, List.set_cons_succ, i64_w, i32_w]
    rfl
  refine pure_ (i := 10) (N := some 120) (v := ?_) (a' := ?_) #[true, true, true, true, true, true, true, true, true, true, true, false, false, false, false, false, false, false, false, false, false, false, false, false, false, false, false, false, false, false, false, false, false, false, false, false, false, false, false, false, false, false, false, false, false, false, false, false, false, false, false, false, false, false, false, false, false, false, false, false, false, false, false, false, false, false, false, false, false, false, false, false, false, false, false, false, false, false, false, false, false, false, false, false, false, false, false, false, false, false, false, false, false, false, false, false, false, false, false, false, false, false] rfl rfl (any_of HT_.out (by kernel_rfl)) (fun _ _ _ h => h) (Or.inl ⟨by rfl, ?_⟩) ?_ ?_
  rotate_left
  · intro w'
    go_simp
    with_reducible rfl
  rotate_left
  · simp only [Act.put, List.setIfInBounds_toArray, List.set_cons_zero, List.set_cons_succ, i64_w, i32_w]
    rfl
  refine pure_ (i := 11) (N := some 121) (v := ?_) (a' := ?_) #[true, true, true, true, true, true, true, true, true, true, true, true, false, false, false, false, false, false, false, false, false, false, false, false, false, false, false, false, false, false, false, false, false, false, false, false, false, false, false, false, false, false, false, false, false, false, false, false, false, false, false, false, false, false, false, false, false, false, false, false, false, false, false, false, false, false, false, false, false, false, false, false, false, false, false, false, false, false, false, false, false, false, false, false, false, false, false, false, false, false, false, false, false, false, false, false, false, false, false, false, false, false] rfl rfl (any_of HT_.out (by kernel_rfl)) (fun _ _ _ h => h) (Or.inl ⟨by rfl, ?_⟩) ?_ ?_
  rotate_left
  · intro w'
    go_simp
    with_reducible rfl
  rotate_left
  · simp only [Act.put, List.setIfInBounds_toArray, List.set_cons_zero, List.set_cons_succ, i64_w, i32_w]
    rfl
  refine pure_ (i := 12) (N := some 122) (v := ?_) (a' := ?_) #[true, true, true, true, true, true, true, true, true, true, true, true, true, false, false, false, false, false, false, false, false, false, false, false, false, false, false, false, false, false, false, false, false, false, false, false, false, false, false, false, false, false, false, false, false, false, false, false, false, false, false, false, false, false, false, false, false, false, false, false, false, false, false, false, false, false, false, false, false, false, false, false, false, false, false, false, false, false, false, false, false, false, false, false, false, false, false, false, false, false, false, false, false, false, false, false, false, false, false, false, false, false] rfl rfl (any_of HT_.out (by kernel_rfl)) (fun _ _ _ h => h) (Or.inl ⟨by rfl, ?_⟩) ?_ ?_
  rotate_left
  · intro w'
    go_simp
    with_reducible rfl
  rotate_left
  · simp only [Act.put, List.setIfInBounds_toArray, List.set_cons_zero, List.set_cons_succ, i64_w, i32_w]
    rfl
  refine pure_ (i := 13) (N := some 123) (v := ?_) (a' := ?_) #[true, true, true, true, true, true, true, true, true, true, true, true, true, true, false, false, false, false, false, false, false, false, false, false, false, false, false, false, false, false, false, false, false, false, false, false, false, false, false, false, false, false, false, false, false, false, false, false, false, false, false, false, false, false, false, false, false, false, false, false, false, false, false, false, false, false, false, false, false, false, false, false, false, false, false, false, false, false, false, false, false, false, false, false, false, false, false, false, false, false, false, false, false, false, false, false, false, false, false, false, false, false] rfl rfl (any_of HT_.out (by kernel_rfl)) (fun _ _ _ h => h) (Or.inl ⟨by rfl, ?_⟩) ?_ ?_
  rotate_left
  · intro w'
    go_simp
    with_reducible rfl
  rotate_left
  · simp only [Act.put, List.setIfInBounds_toArray, List.set_cons_zero, List.set_cons_succ, i64_w, i32_w]
    rfl
  refine pure_ (i := 14) (N := some 124) (v := ?_) (a' := ?_) #[true, true, true, true, true, true, true, true, true, true, true, true, true, true, true, false, false, false, false, false, false, false, false, false, false, false, false, false, false, false, false, false, false, false, false, false, false, false, false, false, false, false, false, false, false, false, false, false, false, false, false, false, false, false, false, false, false, false, false, false, false, false, false, false, false, false, false, false, false, false, false, false, false, false, false, false, false, false, false, false, false, false, false, false, false, false, false, false, false, false, false, false, false, false, false, false, false, false, false, false, false, false] rfl rfl (any_of HT_.out (by kernel_rfl)) (fun _ _ _ h => h) (Or.inl ⟨by rfl, ?_⟩) ?_ ?_
  rotate_left
  · intro w'
    go_simp
    with_reducible rfl
  rotate_left
  · simp only [Act.put, List.setIfInBounds_toArray, List.set_cons_zero, List.set_cons_succ, i64_w, i32_w]
    rfl
  refine pure_ (i := 15) (N := some 125) (v := ?_) (a' := ?_) #[true, true, true, true, true, true, true, true, true, true, true, true, true, true, true, true, false, false, false, false, false, false, false, false, false, false, false, false, false, false, false, false, false, false, false, false, false, false, false, false, false, false, false, false, false, false, false, false, false, false, false, false, false, false, false, false, false, false, false, false, false, false, false, false, false, false, false, false, false, false, false, false, false, false, false, false, false, false, false, false, false, false, false, false, false, false, false, false, false, false, false, false, false, false, false, false, false, false, false, false, false, false] rfl rfl (any_of HT_.out (by kernel_rfl)) (fun _ _ _ h => h) (Or.inl ⟨by rfl, ?_⟩) ?_ ?_
  rotate_left
  · intro w'
    go_simp
    with_reducible rfl
  rotate_left
  · simp only [Act.put, List.setIfInBounds_toArray, List.set_cons_zero, List.set_cons_succ, i64_w, i32_w]
    rfl
  refine pure_ (i := 16) (N := some 126) (v := ?_) (a' := ?_) #[true, true, true, true, true, true, true, true, true, true, true, true, true, true, true, true, true, false, false, false, false, false, false, false, false, false, false, false, false, false, false, false, false, false, false, false, false, false, false, false, false, false, false, false, false, false, false, false, false, false, false, false, false, false, false, false, false, false, false, false, false, false, false, false, false, false, false, false, false, false, false, false, false, false, false, false, false, false, false, false, false, false, false, false, false, false, false, false, false, false, false, false, false, false, false, false, false, false, false, false, false, false] rfl rfl (any_of HT_.out (by kernel_rfl)) (fun _ _ _ h => h) (Or.inl ⟨by rfl, ?_⟩) ?_ ?_
  rotate_left
  · intro w'
    go_simp
    with_reducible rfl
  rotate_left
  · simp only [Act.put, List.setIfInBounds_toArray, List.set_cons_zero, List.set_cons_succ, i64_w, i32_w]
    rfl
  refine pure_ (i := 17) (N := some 127) (v := ?_) (a' := ?_) #[true, true, true, true, true, true, true, true, true, true, true, true, true, true, true, true, true, true, false, false, false, false, false, false, false, false, false, false, false, false, false, false, false, false, false, false, false, false, false, false, false, false, false, false, false, false, false, false, false, false, false, false, false, false, false, false, false, false, false, false, false, false, false, false, false, false, false, false, false, false, false, false, false, false, false, false, false, false, false, false, false, false, false, false, false, false, false, false, false, false, false, false, false, false, false, false, false, false, false, false, false, false] rfl rfl (any_of HT_.out (by kernel_rfl)) (fun _ _ _ h => h) (Or.inl ⟨by rfl, ?_⟩) ?_ ?_
  rotate_left
  · intro w'
    go_simp
    with_reducible rfl
  rotate_left
  · simp only [Act.put, List.setIfInBounds_toArray, List.set_cons_zero, List.set_cons_succ, i64_w, i32_w]
    rfl
  refine pure_ (i := 19) (N := some 129) (v := ?_) (a' := ?_) #[true, true, true, true, true, true, true, true, true, true, true, true, true, true, true, true, true, true, false, true, false, false, false, false, false, false, false, false, false, false, false, false, false, false, false, false, false, false, false, false, false, false, false, false, false, false, false, false, false, false, false, false, false, false, false, false, false, false, false, false, false, false, false, false, false, false, false, false, false, false, false, false, false, false, false, false, false, false, false, false, false, false, false, false, false, false, false, false, false, false, false, false, false, false, false, false, false, false, false, false, false, false] rfl rfl (any_of HT_.out (by kernel_rfl)) (fun _ _ _ h => h) (Or.inl ⟨by rfl, ?_⟩) ?_ ?_
  rotate_left
  · intro w'
    go_simp
    with_reducible rfl
  rotate_left
  · simp only [Act.put, List.setIfInBounds_toArray, List.set_cons_zero, List.set_cons_succ, i64_w, i32_w]
    rfl
  refine take_ (i := 18) (N := some 128) (v := ?_) (a' := ?_) #[true, true, true, true, true, true, true, true, true, true, true, true, true, true, true, true, true, true, true, true, false, false, false, false, false, false, false, false, false, false, false, false, false, false, false, false, false, false, false, false, false, false, false, false, false, false, false, false, false, false, false, false, false, false, false, false, false, false, false, false, false, false, false, false, false, false, false, false, false, false, false, false, false, false, false, false, false, false, false, false, false, false, false, false, false, false, false, false, false, false, false, false, false, false, false, false, false, false, false, false, false, false] rfl rfl (take_ofW HT_.out HW_.out (by kernel_rfl)) (fun _ _ _ h => h) (Or.inl ⟨by rfl, ?_⟩) hHeld ?_ ?_
  rotate_left
  · (intro w' s0; obtain ⟨⟨s1, s2, s3, s4⟩, ⟨s5, s6⟩, ⟨s7, s8⟩, ⟨s9, s10, s11, s12⟩, ⟨s13, s14, s15, s16⟩, ⟨s17, s18, s19, s20⟩, _, _⟩ := s0.out; clear s0)
    go_simp
    with_reducible rfl
  rotate_left
  · simp only [Act.put, List.setIfInBounds_toArray, List.set_cons_zero, List.set_cons_succ, i64_w, i32_w]
    rfl
  refine pure_ (i := 20) (N := some 130) (v := ?_) (a' := ?_) #[true, true, true, true, true, true, true, true, true, true, true, true, true, true, true, true, true, true, true, true, true, false, false, false, false, false, false, false, false, false, false, false, false, false, false, false, false, false, false, false, false, false, false, false, false, false, false, false, false, false, false, false, false, false, false, false, false, false, false, false, false, false, false, false, false, false, false, false, false, false, false, false, false, false, false, false, false, false, false, false, false, false, false, false, false, false, false, false, false, false, false, false, false, false, false, false, false, false, false, false, false, false] rfl rfl (any_of HT_.out (by kernel_rfl)) (fun _ _ _ h => h) (Or.inl ⟨by rfl, ?_⟩) ?_ ?_
  rotate_left
  · intro w'
    go_simp
    with_reducible rfl
  rotate_left
  · simp only [Act.put, List.setIfInBounds_toArray, List.set_cons_zero, List.set_cons_succ, i64_w, i32_w]
    rfl
  refine pure_ (i := 21) (N := some 131) (v := ?_) (a' := ?_) #[true, true, true, true, true, true, true, true, true, true, true, true, true, true, true, true, true, true, true, true, true, true, false, false, false, false, false, false, false, false, false, false, false, false, false, false, false, false, false, false, false, false, false, false, false, false, false, false, false, false, false, false, false, false, false, false, false, false, false, false, false, false, false, false, false, false, false, false, false, false, false, false, false, false, false, false, false, false, false, false, false, false, false, false, false, false, false, false, false, false, false, false, false, false, false, false, false, false, false, false, false, false] rfl rfl (any_of HT_.out (by kernel_rfl)) (fun _ _ _ h => h) (Or.inl ⟨by rfl, ?_⟩) ?_ ?_
  rotate_left
  · intro w'
    go_simp
    with_reducible rfl
  rotate_left
  · simp only [Act.put, List.setIfInBounds_toArray, List.set_cons_zero, List.set_cons_succ, i64_w, i32_w]
    rfl
  refine pure_ (i := 22) (N := some 132) (v := ?_) (a' := ?_) #[true, true, true, true, true, true, true, true, true, true, true, true, true, true, true, true, true, true, true, true, true, true, true, false, false, false, false, false, false, false, false, false, false, false, false, false, false, false, false, false, false, false, false, false, false, false, false, false, false, false, false, false, false, false, false, false, false, false, false, false, false, false, false, false, false, false, false, false, false, false, false, false, false, false, false, false, false, false, false, false, false, false, false, false, false, false, false, false, false, false, false, false, false, false, false, false, false, false, false, false, false, false] rfl rfl (any_of HT_.out (by kernel_rfl)) (fun _ _ _ h => h) (Or.inl ⟨by rfl, ?_⟩) ?_ ?_
  rotate_left
  · intro w'
    go_simp
    with_reducible rfl
  rotate_left
  · simp only [Act.put, List.setIfInBounds_toArray, List.set_cons_zero, List.set_cons_succ, i64_w, i32_w]
    rfl
  refine pure_ (i := 23) (N := some 133) (v := ?_) (a' := ?_) #[true, true, true, true, true, true, true, true, true, true, true, true, true, true, true, true, true, true, true, true, true, true, true, true, false, false, false, false, false, false, false, false, false, false, false, false, false, false, false, false, false, false, false, false, false, false, false, false, false, false, false, false, false, false, false, false, false, false, false, false, false, false, false, false, false, false, false, false, false, false, false, false, false, false, false, false, false, false, false, false, false, false, false, false, false, false, false, false, false, false, false, false, false, false, false, false, false, false, false, false, false, false] rfl rfl (any_of HT_.out (by kernel_rfl)) (fun _ _ _ h => h) (Or.inl ⟨by rfl, ?_⟩) ?_ ?_
  rotate_left
  · intro w'
    go_simp
    with_reducible rfl
  rotate_left
  · simp only [Act.put, List.setIfInBounds_toArray, List.set_cons_zero, List.set_cons_succ, i64_w, i32_w]
    rfl
  refine pure_ (i := 24) (N := some 134) (v := ?_) (a' := ?_) #[true, true, true, true, true, true, true, true, true, true, true, true, true, true, true, true, true, true, true, true, true, true, true, true, true, false, false, false, false, false, false, false, false, false, false, false, false, false, false, false, false, false, false, false, false, false, false, false, false, false, false, false, false, false, false, false, false, false, false, false, false, false, false, false, false, false, false, false, false, false, false, false, false, false, false, false, false, false, false, false, false, false, false, false, false, false, false, false, false, false, false, false, false, false, false, false, false, false, false, false, false, false] rfl rfl (any_of HT_.out (by kernel_rfl)) (fun _ _ _ h => h) (Or.inl ⟨by rfl, ?_⟩) ?_ ?_
  rotate_left
  · intro w'
    go_simp
    with_reducible rfl
  rotate_left
  · simp only [Act.put, List.setIfInBounds_toArray, List.set_cons_zero, List.set_cons_succ, i64_w, i32_w]
    rfl
  refine pure_ (i := 25) (N := some 135) (v := ?_) (a' := ?_) #[true, true, true, true, true, true, true, true, true, true, true, true, true, true, true, true, true, true, true, true, true, true, true, true, true, true, false, false, false, false, false, false, false, false, false, false, false, false, false, false, false, false, false, false, false, false, false, false, false, false, false, false, false, false, false, false, false, false, false, false, false, false, false, false, false, false, false, false, false, false, false, false, false, false, false, false, false, false, false, false, false, false, false, false, false, false, false, false, false, false, false, false, false, false, false, false, false, false, false, false, false, false] rfl rfl (any_of HT_.out (by kernel_rfl)) (fun _ _ _ h => h) (Or.inl ⟨by rfl, ?_⟩) ?_ ?_
  rotate_left
  · intro w'
    go_simp
    with_reducible rfl
  rotate_left
  · simp only [Act.put, List.setIfInBounds_toArray, List.set_cons_zero, List.set_cons_succ, i64_w, i32_w]
    rfl
  refine pure_ (i := 26) (N := some 136) (v := ?_) (a' := ?_) #[true, true, true, true, true, true, true, true, true, true, true, true, true, true, true, true, true, true, true, true, true, true, true, true, true, true, true, false, false, false, false, false, false, false, false, false, false, false, false, false, false, false, false, false, false, false, false, false, false, false, false, false, false, false, false, false, false, false, false, false, false, false, false, false, false, false, false, false, false, false, false, false, false, false, false, false, false, false, false, false, false, false, false, false, false, false, false, false, false, false, false, false, false, false, false, false, false, false, false, false, false, false] rfl rfl (any_of HT_.out (by kernel_rfl)) (fun _ _ _ h => h) (Or.inl ⟨by rfl, ?_⟩) ?_ ?_
  rotate_left
  · intro w'
    go_simp
    with_reducible rfl
  rotate_left
  · simp only [Act.put, List.setIfInBounds_toArray, List.set_cons_zero, List.set_cons_succ, i64_w, i32_w]
    rfl
  refine pure_ (i := 27) (N := some 137) (v := ?_) (a' := ?_) #[true, true, true, true, true, true, true, true, true, true, true, true, true, true, true, true, true, true, true, true, true, true, true, true, true, true, true, true, false, false, false, false, false, false, false, false, false, false, false, false, false, false, false, false, false, false, false, false, false, false, false, false, false, false, false, false, false, false, false, false, false, false, false, false, false, false, false, false, false, false, false, false, false, false, false, false, false, false, false, false, false, false, false, false, false, false, false, false, false, false, false, false, false, false, false, false, false, false, false, false, false, false] rfl rfl (any_of HT_.out (by kernel_rfl)) (fun _ _ _ h => h) (Or.inl ⟨by rfl, ?_⟩) ?_ ?_
  rotate_left
  · intro w'
    go_simp
    with_reducible rfl
  rotate_left
  · simp only [Act.put, List.setIfInBounds_toArray, List.set_cons_zero, List.set_cons_succ, i64_w, i32_w]
    rfl
  refine pure_ (i := 28) (N := some 138) (v := ?_) (a' := ?_) #[true, true, true, true, true, true, true, true, true, true, true, true, true, true, true, true, true, true, true, true, true, true, true, true, true, true, true, true, true, false, false, false, false, false, false, false, false, false, false, false, false, false, false, false, false, false, false, false, false, false, false, false, false, false, false, false, false, false, false, false, false, false, false, false, false, false, false, false, false, false, false, false, false, false, false, false, false, false, false, false, false, false, false, false, false, false, false, false, false, false, false, false, false, false, false, false, false, false, false, false, false, false] rfl rfl (any_of HT_.out (by kernel_rfl)) (fun _ _ _ h => h) (Or.inl ⟨by rfl, ?_⟩) ?_ ?_
  rotate_left
  · intro w'
    go_simp
    with_reducible rfl
  rotate_left
  · simp only [Act.put, List.setIfInBounds_toArray, List.set_cons_zero, List.set_cons_succ, i64_w, i32_w]
    rfl
  refine pure_ (i := 30) (N := some 140) (v := ?_) (a' := ?_) #[true, true, true, true, true, true, true, true, true, true, true, true, true, true, true, true, true, true, true, true, true, true, true, true, true, true, true, true, true, false, true, false, false, false, false, false, false, false, false, false, false, false, false, false, false, false, false, false, false, false, false, false, false, false, false, false, false, false, false, false, false, false, false, false, false, false, false, false, false, false, false, false, false, false, false, false, false, false, false, false, false, false, false, false, false, false, false, false, false, false, false, false, false, false, false, false, false, false, false, false, false, false] rfl rfl (any_of HT_.out (by kernel_rfl)) (fun _ _ _ h => h) (Or.inl ⟨by rfl, ?_⟩) ?_ ?_
  rotate_left
  · intro w'
    go_simp
    with_reducible rfl
  rotate_left
  · simp only [Act.put, List.setIfInBounds_toArray, List.set_cons_zero, List.set_cons_succ, i64_w, i32_w]
    rfl
  refine take_ (i := 29) (N := some 139) (v := ?_) (a' := ?_) #[true, true, true, true, true, true, true, true, true, true, true, true, true, true, true, true, true, true, true, true, true, true, true, true, true, true, true, true, true, true, true, false, false, false, false, false, false, false, false, false, false, false, false, false, false, false, false, false, false, false, false, false, false, false, false, false, false, false, false, false, false, false, false, false, false, false, false, false, false, false, false, false, false, false, false, false, false, false, false, false, false, false, false, false, false, false, false, false, false, false, false, false, false, false, false, false, false, false, false, false, false, false] rfl rfl (take_ofW HT_.out HW_.out (by kernel_rfl)) (fun _ _ _ h => h) (Or.inl ⟨by rfl, ?_⟩) hHeld ?_ ?_
  rotate_left
  · (intro w' s0; obtain ⟨⟨s1, s2, s3, s4⟩, ⟨s5, s6⟩, ⟨s7, s8⟩, ⟨s9, s10, s11, s12⟩, ⟨s13, s14, s15, s16⟩, ⟨s17, s18, s19, s20⟩, _, _⟩ := s0.out; clear s0)
    go_simp
    with_reducible rfl
  rotate_left
  · simp only [Act.put, List.setIfInBounds_toArray, List.set_cons_zero, List.set_cons_succ, i64_w, i32_w]
    rfl
  refine pure_ (i := 31) (N := some 141) (v := ?_) (a' := ?_) #[true, true, true, true, true, true, true, true, true, true, true, true, true, true, true, true, true, true, true, true, true, true, true, true, true, true, true, true, true, true, true, true, false, false, false, false, false, false, false, false, false, false, false, false, false, false, false, false, false, false, false, false, false, false, false, false, false, false, false, false, false, false, false, false, false, false, false, false, false, false, false, false, false, false, false, false, false, false, false, false, false, false, false, false, false, false, false, false, false, false, false, false, false, false, false, false, false, false, false, false, false, false] rfl rfl (any_of HT_.out (by kernel_rfl)) (fun _ _ _ h => h) (Or.inl ⟨by rfl, ?_⟩) ?_ ?_
  rotate_left
  · intro w'
    go_simp
    with_reducible rfl
  rotate_left
  · simp only [Act.put, List.setIfInBounds_toArray, List.set_cons_zero, List.set_cons_succ, i64_w, i32_w]
    rfl
  refine pure_ (i := 32) (N := some 142) (v := ?_) (a' := ?_) #[true, true, true, true, true, true, true, true, true, true, true, true, true, true, true, true, true, true, true, true, true, true, true, true, true, true, true, true, true, true, true, true, true, false, false, false, false, false, false, false, false, false, false, false, false, false, false, false, false, false, false, false, false, false, false, false, false, false, false, false, false, false, false, false, false, false, false, false, false, false, false, false, false, false, false, false, false, false, false, false, false, false, false, false, false, false, false, false, false, false, false, false, false, false, false, false, false, false, false, false, false, false] rfl rfl (any_of HT_.out (by kernel_rfl)) (fun _ _ _ h => h) (Or.inl ⟨by rfl, ?_⟩) ?_ ?_
  rotate_left
  · intro w'
    go_simp
    with_reducible rfl
  rotate_left
  · simp only [Act.put, List.setIfInBounds_toArray, List.set_cons_zero, List.set_cons_succ, i64_w, i32_w]
    rfl
  refine pure_ (i := 33) (N := some 143) (v := ?_) (a' := ?_) #[true, true, true, true, true, true, true, true, true, true, true, true, true, true, true, true, true, true, true, true, true, true, true, true, true, true, true, true, true, true, true, true, true, true, false, false, false, false, false, false, false, false, false, false, false, false, false, false, false, false, false, false, false, false, false, false, false, false, false, false, false, false, false, false, false, false, false, false, false, false, false, false, false, false, false, false, false, false, false, false, false, false, false, false, false, false, false, false, false, false, false, false, false, false, false, false, false, false, false, false, false, false] rfl rfl (any_of HT_.out (by kernel_rfl)) (fun _ _ _ h => h) (Or.inl ⟨by rfl, ?_⟩) ?_ ?_
  rotate_left
  · intro w'
    go_simp
    with_reducible rfl
  rotate_left
  · simp only [Act.put, List.setIfInBounds_toArray, List.set_cons_zero, List.set_cons_succ, i64_w, i32_w]
    rfl
  refine pure_ (i := 34) (N := some 144) (v := ?_) (a' := ?_) #[true, true, true, true, true, true, true, true, true, true, true, true, true, true, true, true, true, true, true, true, true, true, true, true, true, true, true, true, true, true, true, true, true, true, true, false, false, false, false, false, false, false, false, false, false, false, false, false, false, false, false, false, false, false, false, false, false, false, false, false, false, false, false, false, false, false, false, false, false, false, false, false, false, false, false, false, false, false, false, false, false, false, false, false, false, false, false, false, false, false, false, false, false, false, false, false, false, false, false, false, false, false] rfl rfl (any_of HT_.out (by kernel_rfl)) (fun _ _ _ h => h) (Or.inl ⟨by rfl, ?_⟩) ?_ ?_
  rotate_left
  · intro w'
    go_simp
    with_reducible rfl
  rotate_left
  · simp only [Act.put, List.setIfInBounds_toArray, List.set_cons_zero, List.set_cons_succ, i64_w, i32_w]
    rfl
  refine pure_ (i := 35) (N := some 145) (v := ?_) (a' := ?_) #[true, true, true, true, true, true, true, true, true, true, true, true, true, true, true, true, true, true, true, true, true, true, true, true, true, true, true, true, true, true, true, true, true, true, true, true, false, false, false, false, false, false, false, false, false, false, false, false, false, false, false, false, false, false, false, false, false, false, false, false, false, false, false, false, false, false, false, false, false, false, false, false, false, false, false, false, false, false, false, false, false, false, false, false, false, false, false, false, false, false, false, false, false, false, false, false, false, false, false, false, false, false] rfl rfl (any_of HT_.out (by kernel_rfl)) (fun _ _ _ h => h) (Or.inl ⟨by rfl, ?_⟩) ?_ ?_
  rotate_left
  · intro w'
    go_simp
    with_reducible rfl
  rotate_left
  · simp only [Act.put, List.setIfInBounds_toArray, List.set_cons_zero, List.set_cons_succ, i64_w, i32_w]
    rfl
  refine pure_ (i := 36) (N := some 146) (v := ?_) (a' := ?_) #[true, true, true, true, true, true, true, true, true, true, true, true, true, true, true, true, true, true, true, true, true, true, true, true, true, true, true, true, true, true, true, true, true, true, true, true, true, false, false, false, false, false, false, false, false, false, false, false, false, false, false, false, false, false, false, false, false, false, false, false, false, false, false, false, false, false, false, false, false, false, false, false, false, false, false, false, false, false, false, false, false, false, false, false, false, false, false, false, false, false, false, false, false, false, false, false, false, false, false, false, false, false] rfl rfl (any_of HT_.out (by kernel_rfl)) (fun _ _ _ h => h) (Or.inl ⟨by rfl, ?_⟩) ?_ ?_
  rotate_left
  · intro w'
    go_simp
    with_reducible rfl
  rotate_left
  · simp only [Act.put, List.setIfInBounds_toArray, List.set_cons_zero, List.set_cons_succ, i64_w, i32_w]
    rfl
  refine pure_ (i := 37) (N := some 147) (v := ?_) (a' := ?_) #[true, true, true, true, true, true, true, true, true, true, true, true, true, true, true, true, true, true, true, true, true, true, true, true, true, true, true, true, true, true, true, true, true, true, true, true, true, true, false, false, false, false, false, false, false, false, false, false, false, false, false, false, false, false, false, false, false, false, false, false, false, false, false, false, false, false, false, false, false, false, false, false, false, false, false, false, false, false, false, false, false, false, false, false, false, false, false, false, false, false, false, false, false, false, false, false, false, false, false, false, false, false] rfl rfl (any_of HT_.out (by kernel_rfl)) (fun _ _ _ h => h) (Or.inl ⟨by rfl, ?_⟩) ?_ ?_
  rotate_left
  · intro w'
    go_simp
    with_reducible rfl
  rotate_left
  · simp only [Act.put, List.setIfInBounds_toArray, List.set_cons_zero, List.set_cons_succ, i64_w, i32_w]
    rfl
  refine pure_ (i := 38) (N := some 148) (v := ?_) (a' := ?_) #[true, true, true, true, true, true, true, true, true, true, true, true, true, true, true, true, true, true, true, true, true, true, true, true, true, true, true, true, true, true, true, true, true, true, true, true, true, true, true, false, false, false, false, false, false, false, false, false, false, false, false, false, false, false, false, false, false, false, false, false, false, false, false, false, false, false, false, false, false, false, false, false, false, false, false, false, false, false, false, false, false, false, false, false, false, false, false, false, false, false, false, false, false, false, false, false, false, false, false, false, false, false] rfl rfl (any_of HT_.out (by kernel_rfl)) (fun _ _ _ h => h) (Or.inl ⟨by rfl, ?_⟩) ?_ ?_
  rotate_left
  · intro w'
    go_simp
    with_reducible rfl
  rotate_left
  · simp only [Act.put, List.setIfInBounds_toArray, List.set_cons_zero, List.set_cons_succ, i64_w, i32_w]
    rfl
  refine pure_ (i := 39) (N := some 149) (v := ?_) (a' := ?_) #[true, true, true, true, true, true, true, true, true, true, true, true, true, true, true, true, true, true, true, true, true, true, true, true, true, true, true, true, true, true, true, true, true, true, true, true, true, true, true, true, false, false, false, false, false, false, false, false, false, false, false, false, false, false, false, false, false, false, false, false, false, false, false, false, false, false, false, false, false, false, false, false, false, false, false, false, false, false, false, false, false, false, false, false, false, false, false, false, false, false, false, false, false, false, false, false, false, false, false, false, false, false] rfl rfl (any_of HT_.out (by kernel_rfl)) (fun _ _ _ h => h) (Or.inl ⟨by rfl, ?_⟩) ?_ ?_
  rotate_left
  · intro w'
    go_simp
    with_reducible rfl
  rotate_left
  · simp only [Act.put, List.setIfInBounds_toArray, List.set_cons_zero, List.set_cons_succ, i64_w, i32_w]
    rfl
  refine pure_ (i := 40) (N := some 150) (v := ?_) (a' := ?_) #[true, true, true, true, true, true, true, true, true, true, true, true, true, true, true, true, true, true, true, true, true, true, true, true, true, true, true, true, true, true, true, true, true, true, true, true, true, true, true, true, true, false, false, false, false, false, false, false, false, false, false, false, false, false, false, false, false, false, false, false, false, false, false, false, false, false, false, false, false, false, false, false, false, false, false, false, false, false, false, false, false, false, false, false, false, false, false, false, false, false, false, false, false, false, false, false, false, false, false, false, false, false] rfl rfl (any_of HT_.out (by kernel_rfl)) (fun _ _ _ h => h) (Or.inl ⟨by rfl, ?_⟩) ?_ ?_
  rotate_left
  · intro w'
    go_simp
    with_reducible rfl
  rotate_left
  · simp only [Act.put, List.setIfInBounds_toArray, List.set_cons_zero, List.set_cons_succ, i64_w, i32_w]
    rfl
  refine pure_ (i := 41) (N := some 151) (v := ?_) (a' := ?_) #[true, true, true, true, true, true, true, true, true, true, true, true, true, true, true, true, true, true, true, true, true, true, true, true, true, true, true, true, true, true, true, true, true, true, true, true, true, true, true, true, true, true, false, false, false, false, false, false, false, false, false, false, false, false, false, false, false, false, false, false, false, false, false, false, false, false, false, false, false, false, false, false, false, false, false, false, false, false, false, false, false, false, false, false, false, false, false, false, false, false, false, false, false, false, false, false, false, false, false, false, false, false] rfl rfl (any_of HT_.out (by kernel_rfl)) (fun _ _ _ h => h) (Or.inl ⟨by rfl, ?_⟩) ?_ ?_
  rotate_left
  · intro w'
    go_simp
    with_reducible rfl
  rotate_left
  · simp only [Act.put, List.setIfInBounds_toArray, List.set_cons_zero, List.set_cons_succ, i64_w, i32_w]
    rfl
  refine pure_ (i := 42) (N := some 152) (v := ?_) (a' := ?_) #[true, true, true, true, true, true, true, true, true, true, true, true, true, true, true, true, true, true, true, true, true, true, true, true, true, true, true, true, true, true, true, true, true, true, true, true, true, true, true, true, true, true, true, false, false, false, false, false, false, false, false, false, false, false, false, false, false, false, false, false, false, false, false, false, false, false, false, false, false, false, false, false, false, false, false, false, false, false, false, false, false, false, false, false, false, false, false, false, false, false, false, false, false, false, false, false, false, false, false, false, false, false] rfl rfl (any_of HT_.out (by kernel_rfl)) (fun _ _ _ h => h) (Or.inl ⟨by rfl, ?_⟩) ?_ ?_
  rotate_left
  · intro w'
    go_simp
    with_reducible rfl
  rotate_left
  · simp only [Act.put, List.setIfInBounds_toArray, List.set_cons_zero, List.set_cons_succ, i64_w, i32_w]
    rfl
  refine pure_ (i := 43) (N := some 153) (v := ?_) (a' := ?_) #[true, true, true, true, true, true, true, true, true, true, true, true, true, true, true, true, true, true, true, true, true, true, true, true, true, true, true, true, true, true, true, true, true, true, true, true, true, true, true, true, true, true, true, true, false, false, false, false, false, false, false, false, false, false, false, false, false, false, false, false, false, false, false, false, false, false, false, false, false, false, false, false, false, false, false, false, false, false, false, false, false, false, false, false, false, false, false, false, false, false, false, false, false, false, false, false, false, false, false, false, false, false] rfl rfl (any_of HT_.out (by kernel_rfl)) (fun _ _ _ h => h) (Or.inl ⟨by rfl, ?_⟩) ?_ ?_
  rotate_left
  · intro w'
    go_simp
    with_reducible rfl
  rotate_left
  · simp only [Act.put, List.setIfInBounds_toArray, List.set_cons_zero, List.set_cons_succ, i64_w, i32_w]
    rfl
  refine pure_ (i := 44) (N := some 154) (v := ?_) (a' := ?_) #[true, true, true, true, true, true, true, true, true, true, true, true, true, true, true, true, true, true, true, true, true, true, true, true, true, true, true, true, true, true, true, true, true, true, true, true, true, true, true, true, true, true, true, true, true, false, false, false, false, false, false, false, false, false, false, false, false, false, false, false, false, false, false, false, false, false, false, false, false, false, false, false, false, false, false, false, false, false, false, false, false, false, false, false, false, false, false, false, false, false, false, false, false, false, false, false, false, false, false, false, false, false] rfl rfl (any_of HT_.out (by kernel_rfl)) (fun _ _ _ h => h) (Or.inl ⟨by rfl, ?_⟩) ?_ ?_
  rotate_left
  · intro w'
    go_simp
    with_reducible rfl
  rotate_left
  · simp only [Act.put, List.setIfInBounds_toArray, List.set_cons_zero, List.set_cons_succ, i64_w, i32_w]
    rfl
  refine pure_ (i := 45) (N := some 155) (v := ?_) (a' := ?_) #[true, true, true, true, true, true, true, true, true, true, true, true, true, true, true, true, true, true, true, true, true, true, true, true, true, true, true, true, true, true, true, true, true, true, true, true, true, true, true, true, true, true, true, true, true, true, false, false, false, false, false, false, false, false, false, false, false, false, false, false, false, false, false, false, false, false, false, false, false, false, false, false, false, false, false, false, false, false, false, false, false, false, false, false, false, false, false, false, false, false, false, false, false, false, false, false, false, false, false, false, false, false] rfl rfl (any_of HT_.out (by kernel_rfl)) (fun _ _ _ h => h) (Or.inl ⟨by rfl, ?_⟩) ?_ ?_
  rotate_left
  · intro w'
    go_simp
    with_reducible rfl
  rotate_left
  · simp only [Act.put, List.setIfInBounds_toArray, List.set_cons_zero, List.set_cons_succ, i64_w, i32_w]
    rfl
  refine take_ (i := 46) (N := some 156) (v := ?_) (a' := ?_) #[true, true, true, true, true, true, true, true, true, true, true, true, true, true, true, true, true, true, true, true, true, true, true, true, true, true, true, true, true, true, true, true, true, true, true, true, true, true, true, true, true, true, true, true, true, true, true, false, false, false, false, false, false, false, false, false, false, false, false, false, false, false, false, false, false, false, false, false, false, false, false, false, false, false, false, false, false, false, false, false, false, false, false, false, false, false, false, false, false, false, false, false, false, false, false, false, false, false, false, false, false, false] rfl rfl (take_ofW HT_.out HW_.out (by kernel_rfl)) (fun _ _ _ h => h) (Or.inl ⟨by rfl, ?_⟩) hHeld ?_ ?_
  rotate_left
  · (intro w' s0; obtain ⟨⟨s1, s2, s3, s4⟩, ⟨s5, s6⟩, ⟨s7, s8⟩, ⟨s9, s10, s11, s12⟩, ⟨s13, s14, s15, s16⟩, ⟨s17, s18, s19, s20⟩, _, _⟩ := s0.out; clear s0)
    go_simp
    with_reducible rfl
  rotate_left
  · simp only [Act.put, List.setIfInBounds_toArray, List.set_cons_zero, List.set_cons_succ, i64_w, i32_w]
    rfl
  refine pure_ (i := 47) (N := some 157) (v := ?_) (a' := ?_) #[true, true, true, true, true, true, true, true, true, true, true, true, true, true, true, true, true, true, true, true, true, true, true, true, true, true, true, true, true, true, true, true, true, true, true, true, true, true, true, true, true, true, true, true, true, true, true, true, false, false, false, false, false, false, false, false, false, false, false, false, false, false, false, false, false, false, false, false, false, false, false, false, false, false, false, false, false, false, false, false, false, false, false, false, false, false, false, false, false, false, false, false, false, false, false, false, false, false, false, false, false, false] rfl rfl (any_of HT_.out (by kernel_rfl)) (fun _ _ _ h => h) (Or.inl ⟨by rfl, ?_⟩) ?_ ?_
  rotate_left
  · intro w'
    go_simp
    with_reducible rfl
  rotate_left
  · simp only [Act.put, List.setIfInBounds_toArray, List.set_cons_zero, List.set_cons_succ, i64_w, i32_w]
    rfl
  refine pure_ (i := 48) (N := some 158) (v := ?_) (a' := ?_) #[true, true, true, true, true, true, true, true, true, true, true, true, true, true, true, true, true, true, true, true, true, true, true, true, true, true, true, true, true, true, true, true, true, true, true, true, true, true, true, true, true, true, true, true, true, true, true, true, true, false, false, false, false, false, false, false, false, false, false, false, false, false, false, false, false, false, false, false, false, false, false, false, false, false, false, false, false, false, false, false, false, false, false, false, false, false, false, false, false, false, false, false, false, false, false, false, false, false, false, false, false, false] rfl rfl (any_of HT_.out (by kernel_rfl)) (fun _ _ _ h => h) (Or.inl ⟨by rfl, ?_⟩) ?_ ?_
  rotate_left
  · intro w'
    go_simp
    with_reducible rfl
  rotate_left
  · simp only [Act.put, List.setIfInBounds_toArray, List.set_cons_zero, List.set_cons_succ, i64_w, i32_w]
    rfl
  refine pure_ (i := 49) (N := some 159) (v := ?_) (a' := ?_) #[true, true, true, true, true, true, true, true, true, true, true, true, true, true, true, true, true, true, true, true, true, true, true, true, true, true, true, true, true, true, true, true, true, true, true, true, true, true, true, true, true, true, true, true, true, true, true, true, true, true, false, false, false, false, false, false, false, false, false, false, false, false, false, false, false, false, false, false, false, false, false, false, false, false, false, false, false, false, false, false, false, false, false, false, false, false, false, false, false, false, false, false, false, false, false, false, false, false, false, false, false, false] rfl rfl (any_of HT_.out (by kernel_rfl)) (fun _ _ _ h => h) (Or.inl ⟨by rfl, ?_⟩) ?_ ?_
  rotate_left
  · intro w'
    go_simp
    with_reducible rfl
  rotate_left
  · simp only [Act.put, List.setIfInBounds_toArray, List.set_cons_zero, List.set_cons_succ, i64_w, i32_w]
    rfl
  refine pure_ (i := 50) (N := some 160) (v := ?_) (a' := ?_) #[true, true, true, true, true, true, true, true, true, true, true, true, true, true, true, true, true, true, true, true, true, true, true, true, true, true, true, true, true, true, true, true, true, true, true, true, true, true, true, true, true, true, true, true, true, true, true, true, true, true, true, false, false, false, false, false, false, false, false, false, false, false, false, false, false, false, false, false, false, false, false, false, false, false, false, false, false, false, false, false, false, false, false, false, false, false, false, false, false, false, false, false, false, false, false, false, false, false, false, false, false, false] rfl rfl (any_of HT_.out (by kernel_rfl)) (fun _ _ _ h => h) (Or.inl ⟨by rfl, ?_⟩) ?_ ?_
  rotate_left
  · intro w'
    go_simp
    with_reducible rfl
  rotate_left
  · simp only [Act.put, List.setIfInBounds_toArray, List.set_cons_zero, List.set_cons_succ, i64_w, i32_w]
    rfl
  refine take_ (i := 51) (N := some 161) (v := ?_) (a' := ?_) #[true, true, true, true, true, true, true, true, true, true, true, true, true, true, true, true, true, true, true, true, true, true, true, true, true, true, true, true, true, true, true, true, true, true, true, true, true, true, true, true, true, true, true, true, true, true, true, true, true, true, true, true, false, false, false, false, false, false, false, false, false, false, false, false, false, false, false, false, false, false, false, false, false, false, false, false, false, false, false, false, false, false, false, false, false, false, false, false, false, false, false, false, false, false, false, false, false, false, false, false, false, false] rfl rfl (take_ofW HT_.out HW_.out (by kernel_rfl)) (fun _ _ _ h => h) (Or.inl ⟨by rfl, ?_⟩) hHeld ?_ ?_
  rotate_left
  · (intro w' s0; obtain ⟨⟨s1, s2, s3, s4⟩, ⟨s5, s6⟩, ⟨s7, s8⟩, ⟨s9, s10, s11, s12⟩, ⟨s13, s14, s15, s16⟩, ⟨s17, s18, s19, s20⟩, _, _⟩ := s0.out; clear s0)
    go_simp
    with_reducible rfl
  rotate_left
  · simp only [Act.put, List.setIfInBounds_toArray, List.set_cons_zero, List.set_cons_succ, i64_w, i32_w]
    rfl
  refine pure_ (i := 52) (N := some 162) (v := ?_) (a' := ?_) #[true, true, true, true, true, true, true, true, true, true, true, true, true, true, true, true, true, true, true, true, true, true, true, true, true, true, true, true, true, true, true, true, true, true, true, true, true, true, true, true, true, true, true, true, true, true, true, true, true, true, true, true, true, false, false, false, false, false, false, false, false, false, false, false, false, false, false, false, false, false, false, false, false, false, false, false, false, false, false, false, false, false, false, false, false, false, false, false, false, false, false, false, false, false, false, false, false, false, false, false, false, false] rfl rfl (any_of HT_.out (by kernel_rfl)) (fun _ _ _ h => h) (Or.inl ⟨by rfl, ?_⟩) ?_ ?_
  rotate_left
  · intro w'
    go_simp
    with_reducible rfl
  rotate_left
  · simp only [Act.put, List.setIfInBounds_toArray, List.set_cons_zero, List.set_cons_succ, i64_w, i32_w]
    rfl
  refine pure_ (i := 53) (N := some 163) (v := ?_) (a' := ?_) #[true, true, true, true, true, true, true, true, true, true, true, true, true, true, true, true, true, true, true, true, true, true, true, true, true, true, true, true, true, true, true, true, true, true, true, true, true, true, true, true, true, true, true, true, true, true, true, true, true, true, true, true, true, true, false, false, false, false, false, false, false, false, false, false, false, false, false, false, false, false, false, false, false, false, false, false, false, false, false, false, false, false, false, false, false, false, false, false, false, false, false, false, false, false, false, false, false, false, false, false, false, false] rfl rfl (any_of HT_.out (by kernel_rfl)) (fun _ _ _ h => h) (Or.inl ⟨by rfl, ?_⟩) ?_ ?_
  rotate_left
  · intro w'
    go_simp
    with_reducible rfl
  rotate_left
  · simp only [Act.put, List.setIfInBounds_toArray, List.set_cons_zero, List.set_cons_succ, i64_w, i32_w]
    rfl
  refine pure_ (i := 54) (N := some 164) (v := ?_) (a' := ?_) #[true, true, true, true, true, true, true, true, true, true, true, true, true, true, true, true, true, true, true, true, true, true, true, true, true, true, true, true, true, true, true, true, true, true, true, true, true, true, true, true, true, true, true, true, true, true, true, true, true, true, true, true, true, true, true, false, false, false, false, false, false, false, false, false, false, false, false, false, false, false, false, false, false, false, false, false, false, false, false, false, false, false, false, false, false, false, false, false, false, false, false, false, false, false, false, false, false, false, false, false, false, false] rfl rfl (any_of HT_.out (by kernel_rfl)) (fun _ _ _ h => h) (Or.inl ⟨by rfl, ?_⟩) ?_ ?_
  rotate_left
  · intro w'
    go_simp
    with_reducible rfl
  rotate_left
  · simp only [Act.put, List.setIfInBounds_toArray, List.set_cons_zero, List.set_cons_succ, i64_w, i32_w]
    rfl
  refine take_ (i := 55) (N := some 165) (v := ?_) (a' := ?_) #[true, true, true, true, true, true, true, true, true, true, true, true, true, true, true, true, true, true, true, true, true, true, true, true, true, true, true, true, true, true, true, true, true, true, true, true, true, true, true, true, true, true, true, true, true, true, true, true, true, true, true, true, true, true, true, true, false, false, false, false, false, false, false, false, false, false, false, false, false, false, false, false, false, false, false, false, false, false, false, false, false, false, false, false, false, false, false, false, false, false, false, false, false, false, false, false, false, false, false, false, false, false] rfl rfl (take_ofW HT_.out HW_.out (by kernel_rfl)) (fun _ _ _ h => h) (Or.inl ⟨by rfl, ?_⟩) hHeld ?_ ?_
  rotate_left
  · (intro w' s0; obtain ⟨⟨s1, s2, s3, s4⟩, ⟨s5, s6⟩, ⟨s7, s8⟩, ⟨s9, s10, s11, s12⟩, ⟨s13, s14, s15, s16⟩, ⟨s17, s18, s19, s20⟩, _, _⟩ := s0.out; clear s0)
    go_simp
    with_reducible rfl
  rotate_left
  · simp only [Act.put, List.setIfInBounds_toArray, List.set_cons_zero, List.set_cons_succ, i64_w, i32_w]
    rfl
  refine one_ (i := 56) (N := some 166) #[true, true, true, true, true, true, true, true, true, true, true, true, true, true, true, true, true, true, true, true, true, true, true, true, true, true, true, true, true, true, true, true, true, true, true, true, true, true, true, true, true, true, true, true, true, true, true, true, true, true, true, true, true, true, true, true, true, false, false, false, false, false, false, false, false, false, false, false, false, false, false, false, false, false, false, false, false, false, false, false, false, false, false, false, false, false, false, false, false, false, false, false, false, false, false, false, false, false, false, false, false, false] rfl rfl (one_of HT_.out (by kernel_rfl)) (by decide) (fun K hK => ?_)
  refine goes_ Try.func11 (by kernel_rfl) rfl #[.agg #[.int .i64 7, .slice A' 2 c', .int .i64 2, .int .i64 0]] (by rfl) rfl rfl (by simp only [List.map_toArray, List.map_cons, List.map_nil]; rfl) ?_
  with_reducible refine (GK _ hHeld.out).mono ?_
  rintro e w3 ⟨rfl, hb⟩
  refine ⟨_, rfl, ?_⟩
  refine hK.out _ _ ((Lib.hid (keepK hHeld.out hb))) (fun hHeld => ?_)
  clear hK K
  refine norm_ (a' := ?_) ?_ ?_
  rotate_left
  · show Act.put _ (some 166) _ = _
    simp only [Act.put, List.setIfInBounds_toArray, List.set_cons_zero, List.set_cons_succ, i64_w, i32_w]
    rfl
  refine pure_ (i := 57) (N := some 167) (v := ?_) (a' := ?_) #[true, true, true, true, true, true, true, true, true, true, true, true, true, true, true, true, true, true, true, true, true, true, true, true, true, true, true, true, true, true, true, true, true, true, true, true, true, true, true, true, true, true, true, true, true, true, true, true, true, true, true, true, true, true, true, true, true, true, false, false, false, false, false, false, false, false, false, false, false, false, false, false, false, false, false, false, false, false, false, false, false, false, false, false, false, false, false, false, false, false, false, false, false, false, false, false, false, false, false, false, false, false] rfl rfl (any_of HT_.out (by kernel_rfl)) (fun _ _ _ h => h) (Or.inl ⟨by rfl, ?_⟩) ?_ ?_
  rotate_left
  · intro w'
    go_simp
    with_reducible rfl
  rotate_left
  · simp only [Act.put, List.setIfInBounds_toArray, List.set_cons_zero, List.set_cons_succ, i64_w, i32_w]
    rfl
  refine pure_ (i := 58) (N := some 168) (v := ?_) (a' := ?_) #[true, true, true, true, true, true, true, true, true, true, true, true, true, true, true, true, true, true, true, true, true, true, true, true, true, true, true, true, true, true, true, true, true, true, true, true, true, true, true, true, true, true, true, true, true, true, true, true, true, true, true, true, true, true, true, true, true, true, true, false, false, false, false, false, false, false, false, false, false, false, false, false, false, false, false, false, false, false, false, false, false, false, false, false, false, false, false, false, false, false, false, false, false, false, false, false, false, false, false, false, false, false] rfl rfl (any_of HT_.out (by kernel_rfl)) (fun _ _ _ h => h) (Or.inl ⟨by rfl, ?_⟩) ?_ ?_
  rotate_left
  · intro w'
    go_simp
    with_reducible rfl
  rotate_left
  · simp only [Act.put, List.setIfInBounds_toArray, List.set_cons_zero, List.set_cons_succ, i64_w, i32_w]
    rfl
  refine pure_ (i := 59) (N := some 169) (v := ?_) (a' := ?_) #[true, true, true, true, true, true, true, true, true, true, true, true, true, true, true, true, true, true, true, true, true, true, true, true, true, true, true, true, true, true, true, true, true, true, true, true, true, true, true, true, true, true, true, true, true, true, true, true, true, true, true, true, true, true, true, true, true, true, true, true, false, false, false, false, false, false, false, false, false, false, false, false, false, false, false, false, false, false, false, false, false, false, false, false, false, false, false, false, false, false, false, false, false, false, false, false, false, false, false, false, false, false] rfl rfl (any_of HT_.out (by kernel_rfl)) (fun _ _ _ h => h) (Or.inl ⟨by rfl, ?_⟩) ?_ ?_
  rotate_left
  · intro w'
    go_simp
    with_reducible rfl
  rotate_left
  · simp only [Act.put, List.setIfInBounds_toArray, List.set_cons_zero, List.set_cons_succ, i64_w, i32_w]
    rfl
  refine pure_ (i := 60) (N := some 170) (v := ?_) (a' := ?_) #[true, true, true, true, true, true, true, true, true, true, true, true, true, true, true, true, true, true, true, true, true, true, true, true, true, true, true, true, true, true, true, true, true, true, true, true, true, true, true, true, true, true, true, true, true, true, true, true, true, true, true, true, true, true, true, true, true, true, true, true, true, false, false, false, false, false, false, false, false, false, false, false, false, false, false, false, false, false, false, false, false, false, false, false, false, false, false, false, false, false, false, false, false, false, false, false, false, false, false, false, false, false] rfl rfl (any_of HT_.out (by kernel_rfl)) (fun _ _ _ h => h) (Or.inl ⟨by rfl, ?_⟩) ?_ ?_
  rotate_left
  · intro w'
    go_simp
    with_reducible rfl
  rotate_left
  · simp only [Act.put, List.setIfInBounds_toArray, List.set_cons_zero, List.set_cons_succ, i64_w, i32_w]
    rfl
  refine pure_ (i := 61) (N := some 171) (v := ?_) (a' := ?_) #[true, true, true, true, true, true, true, true, true, true, true, true, true, true, true, true, true, true, true, true, true, true, true, true, true, true, true, true, true, true, true, true, true, true, true, true, true, true, true, true, true, true, true, true, true, true, true, true, true, true, true, true, true, true, true, true, true, true, true, true, true, true, false, false, false, false, false, false, false, false, false, false, false, false, false, false, false, false, false, false, false, false, false, false, false, false, false, false, false, false, false, false, false, false, false, false, false, false, false, false, false, false] rfl rfl (any_of HT_.out (by kernel_rfl)) (fun _ _ _ h => h) (Or.inl ⟨by rfl, ?_⟩) ?_ ?_
  rotate_left
  · intro w'
    go_simp
    with_reducible rfl
  rotate_left
  · simp only [Act.put, List.setIfInBounds_toArray, List.set_cons_zero, List.set_cons_succ, i64_w, i32_w]
    rfl
  refine pure_ (i := 62) (N := some 172) (v := ?_) (a' := ?_) #[true, true, true, true, true, true, true, true, true, true, true, true, true, true, true, true, true, true, true, true, true, true, true, true, true, true, true, true, true, true, true, true, true, true, true, true, true, true, true, true, true, true, true, true, true, true, true, true, true, true, true, true, true, true, true, true, true, true, true, true, true, true, true, false, false, false, false, false, false, false, false, false, false, false, false, false, false, false, false, false, false, false, false, false, false, false, false, false, false, false, false, false, false, false, false, false, false, false, false, false, false, false] rfl rfl (any_of HT_.out (by kernel_rfl)) (fun _ _ _ h => h) (Or.inl ⟨by rfl, ?_⟩) ?_ ?_
  rotate_left
  · intro w'
    go_simp
    with_reducible rfl
  rotate_left
  · simp only [Act.put, List.setIfInBounds_toArray, List.set_cons_zero, List.set_cons_succ, i64_w, i32_w]
    rfl
  refine pure_ (i := 63) (N := some 173) (v := ?_) (a' := ?_) #[true, true, true, true, true, true, true, true, true, true, true, true, true, true, true, true, true, true, true, true, true, true, true, true, true, true, true, true, true, true, true, true, true, true, true, true, true, true, true, true, true, true, true, true, true, true, true, true, true, true, true, true, true, true, true, true, true, true, true, true, true, true, true, true, false, false, false, false, false, false, false, false, false, false, false, false, false, false, false, false, false, false, false, false, false, false, false, false, false, false, false, false, false, false, false, false, false, false, false, false, false, false] rfl rfl (any_of HT_.out (by kernel_rfl)) (fun _ _ _ h => h) (Or.inl ⟨by rfl, ?_⟩) ?_ ?_
  rotate_left
  · intro w'
    go_simp
    with_reducible rfl
  rotate_left
  · simp only [Act.put, List.setIfInBounds_toArray, List.set_cons_zero, List.set_cons_succ, i64_w, i32_w]
    rfl
  refine pure_ (i := 64) (N := some 174) (v := ?_) (a' := ?_) #[true, true, true, true, true, true, true, true, true, true, true, true, true, true, true, true, true, true, true, true, true, true, true, true, true, true, true, true, true, true, true, true, true, true, true, true, true, true, true, true, true, true, true, true, true, true, true, true, true, true, true, true, true, true, true, true, true, true, true, true, true, true, true, true, true, false, false, false, false, false, false, false, false, false, false, false, false, false, false, false, false, false, false, false, false, false, false, false, false, false, false, false, false, false, false, false, false, false, false, false, false, false] rfl rfl (any_of HT_.out (by kernel_rfl)) (fun _ _ _ h => h) (Or.inl ⟨by rfl, ?_⟩) ?_ ?_
  rotate_left
  · intro w'
    go_simp
    with_reducible rfl
  rotate_left
  · simp only [Act.put, List.setIfInBounds_toArray, List.set_cons_zero, List.set_cons_succ, i64_w, i32_w]
    rfl
  refine pure_ (i := 65) (N := some 175) (v := ?_) (a' := ?_) #[true, true, true, true, true, true, true, true, true, true, true, true, true, true, true, true, true, true, true, true, true, true, true, true, true, true, true, true, true, true, true, true, true, true, true, true, true, true, true, true, true, true, true, true, true, true, true, true, true, true, true, true, true, true, true, true, true, true, true, true, true, true, true, true, true, true, false, false, false, false, false, false, false, false, false, false, false, false, false, false, false, false, false, false, false, false, false, false, false, false, false, false, false, false, false, false, false, false, false, false, false, false] rfl rfl (any_of HT_.out (by kernel_rfl)) (fun _ _ _ h => h) (Or.inl ⟨by rfl, ?_⟩) ?_ ?_
  rotate_left
  · intro w'
    go_simp
    with_reducible rfl
  rotate_left
  · simp only [Act.put, List.setIfInBounds_toArray, List.set_cons_zero, List.set_cons_succ, i64_w, i32_w]
    rfl
  refine pure_ (i := 66) (N := some 176) (v := ?_) (a' := ?_) #[true, true, true, true, true, true, true, true, true, true, true, true, true, true, true, true, true, true, true, true, true, true, true, true, true, true, true, true, true, true, true, true, true, true, true, true, true, true, true, true, true, true, true, true, true, true, true, true, true, true, true, true, true, true, true, true, true, true, true, true, true, true, true, true, true, true, true, false, false, false, false, false, false, false, false, false, false, false, false, false, false, false, false, false, false, false, false, false, false, false, false, false, false, false, false, false, false, false, false, false, false, false] rfl rfl (any_of HT_.out (by kernel_rfl)) (fun _ _ _ h => h) (Or.inl ⟨by rfl, ?_⟩) ?_ ?_
  rotate_left
  · intro w'
    go_simp
    with_reducible rfl
  rotate_left
  · simp only [Act.put, List.setIfInBounds_toArray, List.set_cons_zero, List.set_cons_succ, i64_w, i32_w]
    rfl
  refine pure_ (i := 67) (N := some 177) (v := ?_) (a' := ?_) #[true, true, true, true, true, true, true, true, true, true, true, true, true, true, true, true, true, true, true, true, true, true, true, true, true, true, true, true, true, true, true, true, true, true, true, true, true, true, true, true, true, true, true, true, true, true, true, true, true, true, true, true, true, true, true, true, true, true, true, true, true, true, true, true, true, true, true, true, false, false, false, false, false, false, false, false, false, false, false, false, false, false, false, false, false, false, false, false, false, false, false, false, false, false, false, false, false, false, false, false, false, false] rfl rfl (any_of HT_.out (by kernel_rfl)) (fun _ _ _ h => h) (Or.inl ⟨by rfl, ?_⟩) ?_ ?_
  rotate_left
  · intro w'
    go_simp
    with_reducible rfl
  rotate_left
  · simp only [Act.put, List.setIfInBounds_toArray, List.set_cons_zero, List.set_cons_succ, i64_w, i32_w]
    rfl
  refine pure_ (i := 68) (N := some 178) (v := ?_) (a' := ?_) #[true, true, true, true, true, true, true, true, true, true, true, true, true, true, true, true, true, true, true, true, true, true, true, true, true, true, true, true, true, true, true, true, true, true, true, true, true, true, true, true, true, true, true, true, true, true, true, true, true, true, true, true, true, true, true, true, true, true, true, true, true, true, true, true, true, true, true, true, true, false, false, false, false, false, false, false, false, false, false, false, false, false, false, false, false, false, false, false, false, false, false, false, false, false, false, false, false, false, false, false, false, false] rfl rfl (any_of HT_.out (by kernel_rfl)) (fun _ _ _ h => h) (Or.inl ⟨by rfl, ?_⟩) ?_ ?_
  rotate_left
  · intro w'
    go_simp
    with_reducible rfl
  rotate_left
  · simp only [Act.put, List.setIfInBounds_toArray, List.set_cons_zero, List.set_cons_succ, i64_w, i32_w]
    rfl
  refine pure_ (i := 69) (N := some 179) (v := ?_) (a' := ?_) #[true, true, true, true, true, true, true, true, true, true, true, true, true, true, true, true, true, true, true, true, true, true, true, true, true, true, true, true, true, true, true, true, true, true, true, true, true, true, true, true, true, true, true, true, true, true, true, true, true, true, true, true, true, true, true, true, true, true, true, true, true, true, true, true, true, true, true, true, true, true, false, false, false, false, false, false, false, false, false, false, false, false, false, false, false, false, false, false, false, false, false, false, false, false, false, false, false, false, false, false, false, false] rfl rfl (any_of HT_.out (by kernel_rfl)) (fun _ _ _ h => h) (Or.inl ⟨by rfl, ?_⟩) ?_ ?_
  rotate_left
  · intro w'
    go_simp
    with_reducible rfl
  rotate_left
  · simp only [Act.put, List.setIfInBounds_toArray, List.set_cons_zero, List.set_cons_succ, i64_w, i32_w]
    rfl
  refine pure_ (i := 70) (N := some 180) (v := ?_) (a' := ?_) #[true, true, true, true, true, true, true, true, true, true, true, true, true, true, true, true, true, true, true, true, true, true, true, true, true, true, true, true, true, true, true, true, true, true, true, true, true, true, true, true, true, true, true, true, true, true, true, true, true, true, true, true, true, true, true, true, true, true, true, true, true, true, true, true, true, true, true, true, true, true, true, false, false, false, false, false, false, false, false, false, false, false, false, false, false, false, false, false, false, false, false, false, false, false, false, false, false, false, false, false, false, false] rfl rfl (any_of HT_.out (by kernel_rfl)) (fun _ _ _ h => h) (Or.inl ⟨by rfl, ?_⟩) ?_ ?_
  rotate_left
  · intro w'
    go_simp
    with_reducible rfl
  rotate_left
  · simp only [Act.put, List.setIfInBounds_toArray, List.set_cons_zero, List.set_cons_succ, i64_w, i32_w]
    rfl
  refine take_ (i := 71) (N := some 181) (v := ?_) (a' := ?_) #[true, true, true, true, true, true, true, true, true, true, true, true, true, true, true, true, true, true, true, true, true, true, true, true, true, true, true, true, true, true, true, true, true, true, true, true, true, true, true, true, true, true, true, true, true, true, true, true, true, true, true, true, true, true, true, true, true, true, true, true, true, true, true, true, true, true, true, true, true, true, true, true, false, false, false, false, false, false, false, false, false, false, false, false, false, false, false, false, false, false, false, false, false, false, false, false, false, false, false, false, false, false] rfl rfl (take_ofW HT_.out HW_.out (by kernel_rfl)) (fun _ _ _ h => h) (Or.inl ⟨by rfl, ?_⟩) hHeld ?_ ?_
  rotate_left
  · (intro w' s0; obtain ⟨⟨s1, s2, s3, s4⟩, ⟨s5, s6⟩, ⟨s7, s8⟩, ⟨s9, s10, s11, s12⟩, ⟨s13, s14, s15, s16⟩, ⟨s17, s18, s19, s20⟩, _, _⟩ := s0.out; clear s0)
    go_simp
    with_reducible rfl
  rotate_left
  · simp only [Act.put, List.setIfInBounds_toArray, List.set_cons_zero, List.set_cons_succ, i64_w, i32_w]
    rfl
  refine take_ (i := 73) (N := some 183) (v := ?_) (a' := ?_) #[true, true, true, true, true, true, true, true, true, true, true, true, true, true, true, true, true, true, true, true, true, true, true, true, true, true, true, true, true, true, true, true, true, true, true, true, true, true, true, true, true, true, true, true, true, true, true, true, true, true, true, true, true, true, true, true, true, true, true, true, true, true, true, true, true, true, true, true, true, true, true, true, false, true, false, false, false, false, false, false, false, false, false, false, false, false, false, false, false, false, false, false, false, false, false, false, false, false, false, false, false, false] rfl rfl (take_ofW HT_.out HW_.out (by kernel_rfl)) (fun _ _ _ h => h) (Or.inl ⟨by rfl, ?_⟩) hHeld ?_ ?_
  rotate_left
  · (intro w' s0; obtain ⟨⟨s1, s2, s3, s4⟩, ⟨s5, s6⟩, ⟨s7, s8⟩, ⟨s9, s10, s11, s12⟩, ⟨s13, s14, s15, s16⟩, ⟨s17, s18, s19, s20⟩, _, _⟩ := s0.out; clear s0)
    go_simp
    with_reducible rfl
  rotate_left
  · simp only [Act.put, List.setIfInBounds_toArray, List.set_cons_zero, List.set_cons_succ, i64_w, i32_w]
    rfl
  refine one_ (i := 72) (N := some 182) #[true, true, true, true, true, true, true, true, true, true, true, true, true, true, true, true, true, true, true, true, true, true, true, true, true, true, true, true, true, true, true, true, true, true, true, true, true, true, true, true, true, true, true, true, true, true, true, true, true, true, true, true, true, true, true, true, true, true, true, true, true, true, true, true, true, true, true, true, true, true, true, true, true, true, false, false, false, false, false, false, false, false, false, false, false, false, false, false, false, false, false, false, false, false, false, false, false, false, false, false, false, false] rfl rfl (one_of HT_.out (by kernel_rfl)) (by decide) (fun K hK => ?_)
  refine goes_ Try.func13 (by kernel_rfl) rfl #[.agg #[.int .i64 7, .slice A' 2 c', .int .i64 2, .int .i64 0]] (by rfl) rfl rfl (by simp only [List.map_toArray, List.map_cons, List.map_nil]; rfl) ?_
  with_reducible refine (OJ _ hHeld.out).mono ?_
  rintro e w3 ⟨Aa, ca, rfl, hCa, hca, hb⟩
  refine ⟨_, rfl, ?_⟩
  refine hK.out _ _ ((Lib.hid (keepK hHeld.out hb))) (fun hHeld => ?_)
  clear hK K
  refine norm_ (a' := ?_) ?_ ?_
  rotate_left
  · show Act.put _ (some 182) _ = _
    simp only [Act.put, List.setIfInBounds_toArray, List.set_cons_zero, List.set_cons_succ, i64_w, i32_w]
    rfl
  refine one_ (i := 74) (N := some 184) #[true, true, true, true, true, true, true, true, true, true, true, true, true, true, true, true, true, true, true, true, true, true, true, true, true, true, true, true, true, true, true, true, true, true, true, true, true, true, true, true, true, true, true, true, true, true, true, true, true, true, true, true, true, true, true, true, true, true, true, true, true, true, true, true, true, true, true, true, true, true, true, true, true, true, true, false, false, false, false, false, false, false, false, false, false, false, false, false, false, false, false, false, false, false, false, false, false, false, false, false, false, false] rfl rfl (one_of HT_.out (by kernel_rfl)) (by decide) (fun K hK => ?_)
  refine goes_ Try.func13 (by kernel_rfl) rfl #[.agg #[.int .i64 7, .slice A' 2 c', .int .i64 2, .int .i64 0]] (by rfl) rfl rfl (by simp only [List.map_toArray, List.map_cons, List.map_nil]; rfl) ?_
  with_reducible refine (OJ _ hHeld.out).mono ?_
  rintro e w4b ⟨Ab, cb, rfl, hCb, hcb, hb⟩
  refine ⟨_, rfl, ?_⟩
  have hCa2 := Kd.C_below hCa hb
  refine hK.out _ _ ((Lib.hid (keepK hHeld.out hb))) (fun hHeld => ?_)
  clear hK K
  refine norm_ (a' := ?_) ?_ ?_
  rotate_left
  · show Act.put _ (some 184) _ = _
    simp only [Act.put, List.setIfInBounds_toArray, List.set_cons_zero, List.set_cons_succ, i64_w, i32_w]
    rfl
  refine one_ (i := 75) (N := some 185) #[true, true, true, true, true, true, true, true, true, true, true, true, true, true, true, true, true, true, true, true, true, true, true, true, true, true, true, true, true, true, true, true, true, true, true, true, true, true, true, true, true, true, true, true, true, true, true, true, true, true, true, true, true, true, true, true, true, true, true, true, true, true, true, true, true, true, true, true, true, true, true, true, true, true, true, true, false, false, false, false, false, false, false, false, false, false, false, false, false, false, false, false, false, false, false, false, false, false, false, false, false, false] rfl rfl (one_of HT_.out (by kernel_rfl)) (by decide) (fun K hK => ?_)
  refine goes_ Try.func12 (by kernel_rfl) rfl #[.agg #[.int .i64 7, .slice Aa 2 ca, .int .i64 2, .int .i64 0], .agg #[.int .i64 7, .slice Ab 2 cb, .int .i64 2, .int .i64 0]] (by rfl) rfl rfl (by simp only [List.map_toArray, List.map_cons, List.map_nil]; rfl) ?_
  with_reducible refine (SM _ _ _ _ _ hCa2 hca hCb hcb).mono ?_
  rintro e w3 ⟨rfl, hb⟩
  refine ⟨_, rfl, ?_⟩
  refine hK.out _ _ ((Lib.hid (keepK hHeld.out hb))) (fun hHeld => ?_)
  clear hK K
  refine norm_ (a' := ?_) ?_ ?_
  rotate_left
  · show Act.put _ (some 185) _ = _
    simp only [Act.put, List.setIfInBounds_toArray, List.set_cons_zero, List.set_cons_succ, i64_w, i32_w]
    rfl
  refine pure_ (i := 76) (N := some 186) (v := ?_) (a' := ?_) #[true, true, true, true, true, true, true, true, true, true, true, true, true, true, true, true, true, true, true, true, true, true, true, true, true, true, true, true, true, true, true, true, true, true, true, true, true, true, true, true, true, true, true, true, true, true, true, true, true, true, true, true, true, true, true, true, true, true, true, true, true, true, true, true, true, true, true, true, true, true, true, true, true, true, true, true, true, false, false, false, false, false, false, false, false, false, false, false, false, false, false, false, false, false, false, false, false, false, false, false, false, false] rfl rfl (any_of HT_.out (by kernel_rfl)) (fun _ _ _ h => h) (Or.inl ⟨by rfl, ?_⟩) ?_ ?_
  rotate_left
  · intro w'
    go_simp
    with_reducible rfl
  rotate_left
  · simp only [Act.put, List.setIfInBounds_toArray, List.set_cons_zero, List.set_cons_succ, i64_w, i32_w]
    rfl
  refine pure_ (i := 77) (N := some 187) (v := ?_) (a' := ?_) #[true, true, true, true, true, true, true, true, true, true, true, true, true, true, true, true, true, true, true, true, true, true, true, true, true, true, true, true, true, true, true, true, true, true, true, true, true, true, true, true, true, true, true, true, true, true, true, true, true, true, true, true, true, true, true, true, true, true, true, true, true, true, true, true, true, true, true, true, true, true, true, true, true, true, true, true, true, true, false, false, false, false, false, false, false, false, false, false, false, false, false, false, false, false, false, false, false, false, false, false, false, false] rfl rfl (any_of HT_.out (by kernel_rfl)) (fun _ _ _ h => h) (Or.inl ⟨by rfl, ?_⟩) ?_ ?_
  rotate_left
  · intro w'
    go_simp
    with_reducible rfl
  rotate_left
  · simp only [Act.put, List.setIfInBounds_toArray, List.set_cons_zero, List.set_cons_succ, i64_w, i32_w]
    rfl
  refine take_ (i := 78) (N := some 188) (v := ?_) (a' := ?_) #[true, true, true, true, true, true, true, true, true, true, true, true, true, true, true, true, true, true, true, true, true, true, true, true, true, true, true, true, true, true, true, true, true, true, true, true, true, true, true, true, true, true, true, true, true, true, true, true, true, true, true, true, true, true, true, true, true, true, true, true, true, true, true, true, true, true, true, true, true, true, true, true, true, true, true, true, true, true, true, false, false, false, false, false, false, false, false, false, false, false, false, false, false, false, false, false, false, false, false, false, false, false] rfl rfl (take_ofW HT_.out HW_.out (by kernel_rfl)) (fun _ _ _ h => h) (Or.inl ⟨by rfl, ?_⟩) hHeld ?_ ?_
  rotate_left
  · (intro w' s0; obtain ⟨⟨s1, s2, s3, s4⟩, ⟨s5, s6⟩, ⟨s7, s8⟩, ⟨s9, s10, s11, s12⟩, ⟨s13, s14, s15, s16⟩, ⟨s17, s18, s19, s20⟩, _, _⟩ := s0.out; clear s0)
    go_simp
    with_reducible rfl
  rotate_left
  · simp only [Act.put, List.setIfInBounds_toArray, List.set_cons_zero, List.set_cons_succ, i64_w, i32_w]
    rfl
  refine one_ (i := 79) (N := some 189) #[true, true, true, true, true, true, true, true, true, true, true, true, true, true, true, true, true, true, true, true, true, true, true, true, true, true, true, true, true, true, true, true, true, true, true, true, true, true, true, true, true, true, true, true, true, true, true, true, true, true, true, true, true, true, true, true, true, true, true, true, true, true, true, true, true, true, true, true, true, true, true, true, true, true, true, true, true, true, true, true, false, false, false, false, false, false, false, false, false, false, false, false, false, false, false, false, false, false, false, false, false, false] rfl rfl (one_of HT_.out (by kernel_rfl)) (by decide) (fun K hK => ?_)
  refine goes_ Try.func14 (by kernel_rfl) rfl #[.agg #[.int .i64 7, .slice A' 2 c', .int .i64 2, .int .i64 0]] (by rfl) rfl rfl (by simp only [List.map_toArray, List.map_cons, List.map_nil]; rfl) ?_
  with_reducible refine (LG _ hHeld.out).mono ?_
  rintro e w3 ⟨rfl, hb⟩
  refine ⟨_, rfl, ?_⟩
  refine hK.out _ _ ((Lib.hid (keepK hHeld.out hb))) (fun hHeld => ?_)
  clear hK K
  refine norm_ (a' := ?_) ?_ ?_
  rotate_left
  · show Act.put _ (some 189) _ = _
    simp only [Act.put, List.setIfInBounds_toArray, List.set_cons_zero, List.set_cons_succ, i64_w, i32_w]
    rfl
  refine pure_ (i := 80) (N := some 190) (v := ?_) (a' := ?_) #[true, true, true, true, true, true, true, true, true, true, true, true, true, true, true, true, true, true, true, true, true, true, true, true, true, true, true, true, true, true, true, true, true, true, true, true, true, true, true, true, true, true, true, true, true, true, true, true, true, true, true, true, true, true, true, true, true, true, true, true, true, true, true, true, true, true, true, true, true, true, true, true, true, true, true, true, true, true, true, true, true, false, false, false, false, false, false, false, false, false, false, false, false, false, false, false, false, false, false, false, false, false] rfl rfl (any_of HT_.out (by kernel_rfl)) (fun _ _ _ h => h) (Or.inl ⟨by rfl, ?_⟩) ?_ ?_
  rotate_left
  · intro w'
    go_simp
    with_reducible rfl
  rotate_left
  · simp only [Act.put, List.setIfInBounds_toArray, List.set_cons_zero, List.set_cons_succ, i64_w, i32_w]
    rfl
  refine pure_ (i := 81) (N := some 191) (v := ?_) (a' := ?_) #[true, true, true, true, true, true, true, true, true, true, true, true, true, true, true, true, true, true, true, true, true, true, true, true, true, true, true, true, true, true, true, true, true, true, true, true, true, true, true, true, true, true, true, true, true, true, true, true, true, true, true, true, true, true, true, true, true, true, true, true, true, true, true, true, true, true, true, true, true, true, true, true, true, true, true, true, true, true, true, true, true, true, false, false, false, false, false, false, false, false, false, false, false, false, false, false, false, false, false, false, false, false] rfl rfl (any_of HT_.out (by kernel_rfl)) (fun _ _ _ h => h) (Or.inl ⟨by rfl, ?_⟩) ?_ ?_
  rotate_left
  · intro w'
    go_simp
    with_reducible rfl
  rotate_left
  · simp only [Act.put, List.setIfInBounds_toArray, List.set_cons_zero, List.set_cons_succ, i64_w, i32_w]
    rfl
  refine pure_ (i := 82) (N := some 192) (v := ?_) (a' := ?_) #[true, true, true, true, true, true, true, true, true, true, true, true, true, true, true, true, true, true, true, true, true, true, true, true, true, true, true, true, true, true, true, true, true, true, true, true, true, true, true, true, true, true, true, true, true, true, true, true, true, true, true, true, true, true, true, true, true, true, true, true, true, true, true, true, true, true, true, true, true, true, true, true, true, true, true, true, true, true, true, true, true, true, true, false, false, false, false, false, false, false, false, false, false, false, false, false, false, false, false, false, false, false] rfl rfl (any_of HT_.out (by kernel_rfl)) (fun _ _ _ h => h) (Or.inl ⟨by rfl, ?_⟩) ?_ ?_
  rotate_left
  · intro w'
    go_simp
    with_reducible rfl
  rotate_left
  · simp only [Act.put, List.setIfInBounds_toArray, List.set_cons_zero, List.set_cons_succ, i64_w, i32_w]
    rfl
  refine take_ (i := 83) (N := some 193) (v := ?_) (a' := ?_) #[true, true, true, true, true, true, true, true, true, true, true, true, true, true, true, true, true, true, true, true, true, true, true, true, true, true, true, true, true, true, true, true, true, true, true, true, true, true, true, true, true, true, true, true, true, true, true, true, true, true, true, true, true, true, true, true, true, true, true, true, true, true, true, true, true, true, true, true, true, true, true, true, true, true, true, true, true, true, true, true, true, true, true, true, false, false, false, false, false, false, false, false, false, false, false, false, false, false, false, false, false, false] rfl rfl (take_ofW HT_.out HW_.out (by kernel_rfl)) (fun _ _ _ h => h) (Or.inl ⟨by rfl, ?_⟩) hHeld ?_ ?_
  rotate_left
  · (intro w' s0; obtain ⟨⟨s1, s2, s3, s4⟩, ⟨s5, s6⟩, ⟨s7, s8⟩, ⟨s9, s10, s11, s12⟩, ⟨s13, s14, s15, s16⟩, ⟨s17, s18, s19, s20⟩, _, _⟩ := s0.out; clear s0)
    go_simp
    with_reducible rfl
  rotate_left
  · simp only [Act.put, List.setIfInBounds_toArray, List.set_cons_zero, List.set_cons_succ, i64_w, i32_w]
    rfl
  refine one_ (i := 84) (N := some 194) #[true, true, true, true, true, true, true, true, true, true, true, true, true, true, true, true, true, true, true, true, true, true, true, true, true, true, true, true, true, true, true, true, true, true, true, true, true, true, true, true, true, true, true, true, true, true, true, true, true, true, true, true, true, true, true, true, true, true, true, true, true, true, true, true, true, true, true, true, true, true, true, true, true, true, true, true, true, true, true, true, true, true, true, true, true, false, false, false, false, false, false, false, false, false, false, false, false, false, false, false, false, false] rfl rfl (one_of HT_.out (by kernel_rfl)) (by decide) (fun K hK => ?_)
  refine goes_ Try.func11 (by kernel_rfl) rfl #[.agg #[.int .i64 1, .slice (some ⟨w1.heap.size, 0, none⟩) 2 2, .int .i64 0, .int .i64 4]] (by rfl) rfl rfl (by simp only [List.map_toArray, List.map_cons, List.map_nil]; rfl) ?_
  with_reducible refine (GB _ hHeld.out).mono ?_
  rintro e w3 ⟨rfl, hb⟩
  refine ⟨_, rfl, ?_⟩
  refine hK.out _ _ ((Lib.hid (keepK hHeld.out hb))) (fun hHeld => ?_)
  clear hK K
  refine norm_ (a' := ?_) ?_ ?_
  rotate_left
  · show Act.put _ (some 194) _ = _
    simp only [Act.put, List.setIfInBounds_toArray, List.set_cons_zero, List.set_cons_succ, i64_w, i32_w]
    rfl
  refine pure_ (i := 85) (N := some 195) (v := ?_) (a' := ?_) #[true, true, true, true, true, true, true, true, true, true, true, true, true, true, true, true, true, true, true, true, true, true, true, true, true, true, true, true, true, true, true, true, true, true, true, true, true, true, true, true, true, true, true, true, true, true, true, true, true, true, true, true, true, true, true, true, true, true, true, true, true, true, true, true, true, true, true, true, true, true, true, true, true, true, true, true, true, true, true, true, true, true, true, true, true, true, false, false, false, false, false, false, false, false, false, false, false, false, false, false, false, false] rfl rfl (any_of HT_.out (by kernel_rfl)) (fun _ _ _ h => h) (Or.inl ⟨by rfl, ?_⟩) ?_ ?_
  rotate_left
  · intro w'
    go_simp
    with_reducible rfl
  rotate_left
  · simp only [Act.put, List.setIfInBounds_toArray, List.set_cons_zero, List.set_cons_succ, i64_w, i32_w]
    rfl
  refine pure_ (i := 86) (N := some 196) (v := ?_) (a' := ?_) #[true, true, true, true, true, true, true, true, true, true, true, true, true, true, true, true, true, true, true, true, true, true, true, true, true, true, true, true, true, true, true, true, true, true, true, true, true, true, true, true, true, true, true, true, true, true, true, true, true, true, true, true, true, true, true, true, true, true, true, true, true, true, true, true, true, true, true, true, true, true, true, true, true, true, true, true, true, true, true, true, true, true, true, true, true, true, true, false, false, false, false, false, false, false, false, false, false, false, false, false, false, false] rfl rfl (any_of HT_.out (by kernel_rfl)) (fun _ _ _ h => h) (Or.inl ⟨by rfl, ?_⟩) ?_ ?_
  rotate_left
  · intro w'
    go_simp
    with_reducible rfl
  rotate_left
  · simp only [Act.put, List.setIfInBounds_toArray, List.set_cons_zero, List.set_cons_succ, i64_w, i32_w]
    rfl
  refine pure_ (i := 87) (N := some 197) (v := ?_) (a' := ?_) #[true, true, true, true, true, true, true, true, true, true, true, true, true, true, true, true, true, true, true, true, true, true, true, true, true, true, true, true, true, true, true, true, true, true, true, true, true, true, true, true, true, true, true, true, true, true, true, true, true, true, true, true, true, true, true, true, true, true, true, true, true, true, true, true, true, true, true, true, true, true, true, true, true, true, true, true, true, true, true, true, true, true, true, true, true, true, true, true, false, false, false, false, false, false, false, false, false, false, false, false, false, false] rfl rfl (any_of HT_.out (by kernel_rfl)) (fun _ _ _ h => h) (Or.inl ⟨by rfl, ?_⟩) ?_ ?_
  rotate_left
  · intro w'
    go_simp
    with_reducible rfl
  rotate_left
  · simp only [Act.put, List.setIfInBounds_toArray, List.set_cons_zero, List.set_cons_succ, i64_w, i32_w]
    rfl
  refine pure_ (i := 88) (N := some 198) (v := ?_) (a' := ?_) #[true, true, true, true, true, true, true, true, true, true, true, true, true, true, true, true, true, true, true, true, true, true, true, true, true, true, true, true, true, true, true, true, true, true, true, true, true, true, true, true, true, true, true, true, true, true, true, true, true, true, true, true, true, true, true, true, true, true, true, true, true, true, true, true, true, true, true, true, true, true, true, true, true, true, true, true, true, true, true, true, true, true, true, true, true, true, true, true, true, false, false, false, false, false, false, false, false, false, false, false, false, false] rfl rfl (any_of HT_.out (by kernel_rfl)) (fun _ _ _ h => h) (Or.inl ⟨by rfl, ?_⟩) ?_ ?_
  rotate_left
  · intro w'
    go_simp
    with_reducible rfl
  rotate_left
  · simp only [Act.put, List.setIfInBounds_toArray, List.set_cons_zero, List.set_cons_succ, i64_w, i32_w]
    rfl
  refine pure_ (i := 89) (N := some 199) (v := ?_) (a' := ?_) #[true, true, true, true, true, true, true, true, true, true, true, true, true, true, true, true, true, true, true, true, true, true, true, true, true, true, true, true, true, true, true, true, true, true, true, true, true, true, true, true, true, true, true, true, true, true, true, true, true, true, true, true, true, true, true, true, true, true, true, true, true, true, true, true, true, true, true, true, true, true, true, true, true, true, true, true, true, true, true, true, true, true, true, true, true, true, true, true, true, true, false, false, false, false, false, false, false, false, false, false, false, false] rfl rfl (any_of HT_.out (by kernel_rfl)) (fun _ _ _ h => h) (Or.inl ⟨by rfl, ?_⟩) ?_ ?_
  rotate_left
  · intro w'
    go_simp
    with_reducible rfl
  rotate_left
  · simp only [Act.put, List.setIfInBounds_toArray, List.set_cons_zero, List.set_cons_succ, i64_w, i32_w]
    rfl
  refine pure_ (i := 90) (N := some 200) (v := ?_) (a' := ?_) #[true, true, true, true, true, true, true, true, true, true, true, true, true, true, true, true, true, true, true, true, true, true, true, true, true, true, true, true, true, true, true, true, true, true, true, true, true, true, true, true, true, true, true, true, true, true, true, true, true, true, true, true, true, true, true, true, true, true, true, true, true, true, true, true, true, true, true, true, true, true, true, true, true, true, true, true, true, true, true, true, true, true, true, true, true, true, true, true, true, true, true, false, false, false, false, false, false, false, false, false, false, false] rfl rfl (any_of HT_.out (by kernel_rfl)) (fun _ _ _ h => h) (Or.inl ⟨by rfl, ?_⟩) ?_ ?_
  rotate_left
  · intro w'
    go_simp
    with_reducible rfl
  rotate_left
  · simp only [Act.put, List.setIfInBounds_toArray, List.set_cons_zero, List.set_cons_succ, i64_w, i32_w]
    rfl
  refine pure_ (i := 91) (N := some 201) (v := ?_) (a' := ?_) #[true, true, true, true, true, true, true, true, true, true, true, true, true, true, true, true, true, true, true, true, true, true, true, true, true, true, true, true, true, true, true, true, true, true, true, true, true, true, true, true, true, true, true, true, true, true, true, true, true, true, true, true, true, true, true, true, true, true, true, true, true, true, true, true, true, true, true, true, true, true, true, true, true, true, true, true, true, true, true, true, true, true, true, true, true, true, true, true, true, true, true, true, false, false, false, false, false, false, false, false, false, false] rfl rfl (any_of HT_.out (by kernel_rfl)) (fun _ _ _ h => h) (Or.inl ⟨by rfl, ?_⟩) ?_ ?_
  rotate_left
  · intro w'
    go_simp
    with_reducible rfl
  rotate_left
  · simp only [Act.put, List.setIfInBounds_toArray, List.set_cons_zero, List.set_cons_succ, i64_w, i32_w]
    rfl
  refine pure_ (i := 92) (N := some 202) (v := ?_) (a' := ?_) #[true, true, true, true, true, true, true, true, true, true, true, true, true, true, true, true, true, true, true, true, true, true, true, true, true, true, true, true, true, true, true, true, true, true, true, true, true, true, true, true, true, true, true, true, true, true, true, true, true, true, true, true, true, true, true, true, true, true, true, true, true, true, true, true, true, true, true, true, true, true, true, true, true, true, true, true, true, true, true, true, true, true, true, true, true, true, true, true, true, true, true, true, true, false, false, false, false, false, false, false, false, false] rfl rfl (any_of HT_.out (by kernel_rfl)) (fun _ _ _ h => h) (Or.inl ⟨by rfl, ?_⟩) ?_ ?_
  rotate_left
  · intro w'
    go_simp
    with_reducible rfl
  rotate_left
  · simp only [Act.put, List.setIfInBounds_toArray, List.set_cons_zero, List.set_cons_succ, i64_w, i32_w]
    rfl
  refine take_ (i := 93) (N := some 203) (v := ?_) (a' := ?_) #[true, true, true, true, true, true, true, true, true, true, true, true, true, true, true, true, true, true, true, true, true, true, true, true, true, true, true, true, true, true, true, true, true, true, true, true, true, true, true, true, true, true, true, true, true, true, true, true, true, true, true, true, true, true, true, true, true, true, true, true, true, true, true, true, true, true, true, true, true, true, true, true, true, true, true, true, true, true, true, true, true, true, true, true, true, true, true, true, true, true, true, true, true, true, false, false, false, false, false, false, false, false] rfl rfl (take_ofW HT_.out HW_.out (by kernel_rfl)) (fun _ _ _ h => h) (Or.inl ⟨by rfl, ?_⟩) hHeld ?_ ?_
  rotate_left
  · (intro w' s0; obtain ⟨⟨s1, s2, s3, s4⟩, ⟨s5, s6⟩, ⟨s7, s8⟩, ⟨s9, s10, s11, s12⟩, ⟨s13, s14, s15, s16⟩, ⟨s17, s18, s19, s20⟩, _, _⟩ := s0.out; clear s0)
    go_simp
    with_reducible rfl
  rotate_left
  · simp only [Act.put, List.setIfInBounds_toArray, List.set_cons_zero, List.set_cons_succ, i64_w, i32_w]
    rfl
  refine pure_ (i := 94) (N := some 204) (v := ?_) (a' := ?_) #[true, true, true, true, true, true, true, true, true, true, true, true, true, true, true, true, true, true, true, true, true, true, true, true, true, true, true, true, true, true, true, true, true, true, true, true, true, true, true, true, true, true, true, true, true, true, true, true, true, true, true, true, true, true, true, true, true, true, true, true, true, true, true, true, true, true, true, true, true, true, true, true, true, true, true, true, true, true, true, true, true, true, true, true, true, true, true, true, true, true, true, true, true, true, true, false, false, false, false, false, false, false] rfl rfl (any_of HT_.out (by kernel_rfl)) (fun _ _ _ h => h) (Or.inl ⟨by rfl, ?_⟩) ?_ ?_
  rotate_left
  · intro w'
    go_simp
    with_reducible rfl
  rotate_left
  · simp only [Act.put, List.setIfInBounds_toArray, List.set_cons_zero, List.set_cons_succ, i64_w, i32_w]
    rfl
  refine pure_ (i := 95) (N := some 205) (v := ?_) (a' := ?_) #[true, true, true, true, true, true, true, true, true, true, true, true, true, true, true, true, true, true, true, true, true, true, true, true, true, true, true, true, true, true, true, true, true, true, true, true, true, true, true, true, true, true, true, true, true, true, true, true, true, true, true, true, true, true, true, true, true, true, true, true, true, true, true, true, true, true, true, true, true, true, true, true, true, true, true, true, true, true, true, true, true, true, true, true, true, true, true, true, true, true, true, true, true, true, true, true, false, false, false, false, false, false] rfl rfl (any_of HT_.out (by kernel_rfl)) (fun _ _ _ h => h) (Or.inl ⟨by rfl, ?_⟩) ?_ ?_
  rotate_left
  · intro w'
    go_simp
    with_reducible rfl
  rotate_left
  · simp only [Act.put, List.setIfInBounds_toArray, List.set_cons_zero, List.set_cons_succ, i64_w, i32_w]
    rfl
  refine pure_ (i := 96) (N := some 206) (v := ?_) (a' := ?_) #[true, true, true, true, true, true, true, true, true, true, true, true, true, true, true, true, true, true, true, true, true, true, true, true, true, true, true, true, true, true, true, true, true, true, true, true, true, true, true, true, true, true, true, true, true, true, true, true, true, true, true, true, true, true, true, true, true, true, true, true, true, true, true, true, true, true, true, true, true, true, true, true, true, true, true, true, true, true, true, true, true, true, true, true, true, true, true, true, true, true, true, true, true, true, true, true, true, false, false, false, false, false] rfl rfl (any_of HT_.out (by kernel_rfl)) (fun _ _ _ h => h) (Or.inl ⟨by rfl, ?_⟩) ?_ ?_
  rotate_left
  · intro w'
    go_simp
    with_reducible rfl
  rotate_left
  · simp only [Act.put, List.setIfInBounds_toArray, List.set_cons_zero, List.set_cons_succ, i64_w, i32_w]
    rfl
  refine take_ (i := 97) (N := some 207) (v := ?_) (a' := ?_) #[true, true, true, true, true, true, true, true, true, true, true, true, true, true, true, true, true, true, true, true, true, true, true, true, true, true, true, true, true, true, true, true, true, true, true, true, true, true, true, true, true, true, true, true, true, true, true, true, true, true, true, true, true, true, true, true, true, true, true, true, true, true, true, true, true, true, true, true, true, true, true, true, true, true, true, true, true, true, true, true, true, true, true, true, true, true, true, true, true, true, true, true, true, true, true, true, true, true, false, false, false, false] rfl rfl (take_ofW HT_.out HW_.out (by kernel_rfl)) (fun _ _ _ h => h) (Or.inl ⟨by rfl, ?_⟩) hHeld ?_ ?_
  rotate_left
  · (intro w' s0; obtain ⟨⟨s1, s2, s3, s4⟩, ⟨s5, s6⟩, ⟨s7, s8⟩, ⟨s9, s10, s11, s12⟩, ⟨s13, s14, s15, s16⟩, ⟨s17, s18, s19, s20⟩, _, _⟩ := s0.out; clear s0)
    go_simp
    with_reducible rfl
  rotate_left
  · simp only [Act.put, List.setIfInBounds_toArray, List.set_cons_zero, List.set_cons_succ, i64_w, i32_w]
    rfl
  refine one_ (i := 98) (N := some 208) #[true, true, true, true, true, true, true, true, true, true, true, true, true, true, true, true, true, true, true, true, true, true, true, true, true, true, true, true, true, true, true, true, true, true, true, true, true, true, true, true, true, true, true, true, true, true, true, true, true, true, true, true, true, true, true, true, true, true, true, true, true, true, true, true, true, true, true, true, true, true, true, true, true, true, true, true, true, true, true, true, true, true, true, true, true, true, true, true, true, true, true, true, true, true, true, true, true, true, true, false, false, false] rfl rfl (one_of HT_.out (by kernel_rfl)) (by decide) (fun K hK => ?_)
  refine goes_ Try.func14 (by kernel_rfl) rfl #[.agg #[.int .i64 1, .slice (some ⟨w1.heap.size, 0, none⟩) 2 2, .int .i64 0, .int .i64 4]] (by rfl) rfl rfl (by simp only [List.map_toArray, List.map_cons, List.map_nil]; rfl) ?_
  with_reducible refine (LB _ hHeld.out).mono ?_
  rintro e w3 ⟨rfl, hb⟩
  refine ⟨_, rfl, ?_⟩
  refine hK.out _ _ ((Lib.hid (keepK hHeld.out hb))) (fun hHeld => ?_)
  clear hK K
  refine norm_ (a' := ?_) ?_ ?_
  rotate_left
  · show Act.put _ (some 208) _ = _
    simp only [Act.put, List.setIfInBounds_toArray, List.set_cons_zero, List.set_cons_succ, i64_w, i32_w]
    rfl
  refine pure_ (i := 99) (N := some 209) (v := ?_) (a' := ?_) #[true, true, true, true, true, true, true, true, true, true, true, true, true, true, true, true, true, true, true, true, true, true, true, true, true, true, true, true, true, true, true, true, true, true, true, true, true, true, true, true, true, true, true, true, true, true, true, true, true, true, true, true, true, true, true, true, true, true, true, true, true, true, true, true, true, true, true, true, true, true, true, true, true, true, true, true, true, true, true, true, true, true, true, true, true, true, true, true, true, true, true, true, true, true, true, true, true, true, true, true, false, false] rfl rfl (any_of HT_.out (by kernel_rfl)) (fun _ _ _ h => h) (Or.inl ⟨by rfl, ?_⟩) ?_ ?_
  rotate_left
  · intro w'
    go_simp
    with_reducible rfl
  rotate_left
  · simp only [Act.put, List.setIfInBounds_toArray, List.set_cons_zero, List.set_cons_succ, i64_w, i32_w]
    rfl
  refine pure_ (i := 100) (N := some 210) (v := ?_) (a' := ?_) #[true, true, true, true, true, true, true, true, true, true, true, true, true, true, true, true, true, true, true, true, true, true, true, true, true, true, true, true, true, true, true, true, true, true, true, true, true, true, true, true, true, true, true, true, true, true, true, true, true, true, true, true, true, true, true, true, true, true, true, true, true, true, true, true, true, true, true, true, true, true, true, true, true, true, true, true, true, true, true, true, true, true, true, true, true, true, true, true, true, true, true, true, true, true, true, true, true, true, true, true, true, false] rfl rfl (any_of HT_.out (by kernel_rfl)) (fun _ _ _ h => h) (Or.inl ⟨by rfl, ?_⟩) ?_ ?_
  rotate_left
  · intro w'
    go_simp
    with_reducible rfl
  rotate_left
  · simp only [Act.put, List.setIfInBounds_toArray, List.set_cons_zero, List.set_cons_succ, i64_w, i32_w]
    rfl
  refine pure_ (i := 101) (N := some 0) (v := ?_) (a' := ?_) #[true, true, true, true, true, true, true, true, true, true, true, true, true, true, true, true, true, true, true, true, true, true, true, true, true, true, true, true, true, true, true, true, true, true, true, true, true, true, true, true, true, true, true, true, true, true, true, true, true, true, true, true, true, true, true, true, true, true, true, true, true, true, true, true, true, true, true, true, true, true, true, true, true, true, true, true, true, true, true, true, true, true, true, true, true, true, true, true, true, true, true, true, true, true, true, true, true, true, true, true, true, true] rfl rfl (any_of HT_.out (by kernel_rfl)) (fun _ _ _ h => h) (Or.inl ⟨by rfl, ?_⟩) ?_ ?_
  rotate_left
  · intro w'
    go_simp
    with_reducible rfl
  rotate_left
  · simp only [Act.put, List.setIfInBounds_toArray, List.set_cons_zero, List.set_cons_succ, i64_w, i32_w]
    rfl
  refine done_ (done_of HT_.out (by kernel_rfl)) ?_
  have hh := hHeld.out
  have hB := hh.2.2.2.2.2.2.2
  have HF := Lib.hid (HX.out.trans (hB.mono HX.out.size))
  clear hh hB OJ SM LG GB GK LB hS hHeld
  go_wp2
  go_ret
  exact ⟨rfl, HF.out⟩
end Go.Proofs.Ytjihjmanndhdhab.Job
