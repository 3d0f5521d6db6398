/- The reference's table of names (package beadleref1) in memory, and what NewIds, Take, Is, Give do to it: for all tables of at most 256 places. -/
import Derived.Test.YtjihjmanndhdhaaIdsC
namespace Go.Proofs.Ytjihjmanndhdhaa.Ids
open Go.RowKit Go.Proofs.YtjihjmanndhdhaaW.PrintWords Go.Proofs.YtjihjmanndhdhaaW.PrintLast Go.Proofs.YtjihjmanndhdhaaW.PrintMore Go.Proofs.Ytjihjmanndhdhaa.PIdsKnown

/-- of what was there only blocks of S may have turned. -/
structure Chg (w w' : World) (S : Nat → Prop) : Prop where
  os : w'.os = w.os
  tape : w'.tape = w.tape
  output : w'.output = w.output
  size : w.heap.size ≤ w'.heap.size
  block : ∀ k, k < w.heap.size → ¬ S k → w'.heap[k]? = w.heap[k]?

theorem Chg.refl (w : World) (S : Nat → Prop) : Chg w w S := ⟨rfl, rfl, rfl, Nat.le_refl _, fun _ _ _ => rfl⟩
theorem Chg.of_below {w w' : World} (S : Nat → Prop) (h : Below w.heap.size w w') : Chg w w' S := ⟨h.os, h.tape, h.output, h.size, fun k hk _ => h.block k hk⟩
theorem Chg.of_only {w w' : World} {s : Nat} {S : Nat → Prop} (h : Only w w' s) (hs : S s) : Chg w w' S := ⟨h.os, h.tape, h.output, h.size, fun k hk hn => h.block k hk (fun e => hn (e ▸ hs))⟩
theorem Chg.drew {a b : World} {S : Nat → Prop} (h : Chg a b S) : Chg a b.drew S := ⟨h.os, h.tape, h.output, h.size, h.block⟩
theorem Chg.set {w w' : World} {S : Nat → Prop} (h : Chg w w' S) {s : Nat} (hs : S s) (o : Nat) (v : Value) : Chg w (w'.setCell ⟨s, o, none⟩ v) S :=
  ⟨h.os, h.tape, h.output, by simpa using h.size, fun k hk hne => by rw [heap_set_ne _ _ (fun e => hne (by rw [e]; exact hs))]; exact h.block k hk hne⟩
/-- what is older than S has not turned. -/
theorem Chg.below {B : Nat} {a w w' : World} {S : Nat → Prop} (hb : Below B a w) (h : Chg w w' S) (hs : ∀ k, S k → B ≤ k) (hB : B ≤ w.heap.size) : Below B a w' :=
  ⟨h.os.trans hb.os, h.tape.trans hb.tape, h.output.trans hb.output, Nat.le_trans hb.size h.size, fun k hk => (h.block k (by omega) (fun e => by have := hs k e; omega)).trans (hb.block k hk)⟩

def genCells (l : List (Int × Bool)) : List Value := l.map fun p => .int .i64 p.1
def takenCells (l : List (Int × Bool)) : List Value := l.map fun p => .bool p.2

/-- the reference's table in memory: block t the two slices, block g the gens, block k who is taken. -/
structure RTab (w : World) (t g k : Nat) (l : List (Int × Bool)) : Prop where
  tg : t ≠ g
  tk : t ≠ k
  gk : g ≠ k
  ht : w.heap[t]? = some (.cells #[.slice (some ⟨g, 0, none⟩) l.length l.length, .slice (some ⟨k, 0, none⟩) l.length l.length] 69 (0, 0))
  hg : w.heap[g]? = some (.cells (genCells l).toArray 3 (0, 0))
  hk : w.heap[k]? = some (.cells (takenCells l).toArray 4 (0, 0))
  pos : 1 ≤ l.length
  len : l.length ≤ 256

theorem RTab.of_heap {w w' : World} {t g k : Nat} {l : List (Int × Bool)} (h : RTab w t g k l) (ht : w'.heap[t]? = w.heap[t]?) (hg : w'.heap[g]? = w.heap[g]?) (hk : w'.heap[k]? = w.heap[k]?) : RTab w' t g k l :=
  ⟨h.tg, h.tk, h.gk, by rw [ht]; exact h.ht, by rw [hg]; exact h.hg, by rw [hk]; exact h.hk, h.pos, h.len⟩

theorem RTab.lt_t {w : World} {t g k : Nat} {l : List (Int × Bool)} (h : RTab w t g k l) : t < w.heap.size := (Array.getElem?_eq_some_iff.1 h.ht).1
theorem RTab.lt_g {w : World} {t g k : Nat} {l : List (Int × Bool)} (h : RTab w t g k l) : g < w.heap.size := (Array.getElem?_eq_some_iff.1 h.hg).1
theorem RTab.lt_k {w : World} {t g k : Nat} {l : List (Int × Bool)} (h : RTab w t g k l) : k < w.heap.size := (Array.getElem?_eq_some_iff.1 h.hk).1

theorem RTab.of_chg {w w' : World} {t g k : Nat} {l : List (Int × Bool)} {S : Nat → Prop} (h : RTab w t g k l) (hc : Chg w w' S) (ht : ¬ S t) (hg : ¬ S g) (hk : ¬ S k) : RTab w' t g k l :=
  h.of_heap (hc.block _ h.lt_t ht) (hc.block _ h.lt_g hg) (hc.block _ h.lt_k hk)

theorem RTab.c0 {w : World} {t g k : Nat} {l : List (Int × Bool)} (h : RTab w t g k l) : w.cell? ⟨t, 0, none⟩ = some (.slice (some ⟨g, 0, none⟩) l.length l.length) := by simp [World.cell?, h.ht]
theorem RTab.c1 {w : World} {t g k : Nat} {l : List (Int × Bool)} (h : RTab w t g k l) : w.cell? ⟨t, 1, none⟩ = some (.slice (some ⟨k, 0, none⟩) l.length l.length) := by simp [World.cell?, h.ht]
theorem RTab.cg {w : World} {t g k : Nat} {l : List (Int × Bool)} (h : RTab w t g k l) {i : Nat} (hi : i < l.length) : w.cell? ⟨g, i, none⟩ = some (.int .i64 (l.getD i (0, false)).1) := by
  simp [World.cell?, h.hg, genCells, hi]
theorem RTab.ck {w : World} {t g k : Nat} {l : List (Int × Bool)} (h : RTab w t g k l) {i : Nat} (hi : i < l.length) : w.cell? ⟨k, i, none⟩ = some (.bool (l.getD i (0, false)).2) := by
  simp [World.cell?, h.hk, takenCells, hi]
theorem RTab.fg {w : World} {t g k : Nat} {l : List (Int × Bool)} (h : RTab w t g k l) (o : Nat) : w.frozen? ⟨g, o, none⟩ = false := by simp [World.frozen?, h.hg]
theorem RTab.fk {w : World} {t g k : Nat} {l : List (Int × Bool)} (h : RTab w t g k l) (o : Nat) : w.frozen? ⟨k, o, none⟩ = false := by simp [World.frozen?, h.hk]

theorem RTab.mark {w : World} {t g k : Nat} {l : List (Int × Bool)} (h : RTab w t g k l) {p : Nat} (hp : p < l.length) (b : Bool) :
    RTab (w.setCell ⟨k, p, none⟩ (.bool b)) t g k (l.set p ((l.getD p (0, false)).1, b)) := by
  refine ⟨h.tg, h.tk, h.gk, ?_, ?_, ?_, by simpa using h.pos, by simpa using h.len⟩
  · rw [heap_set_ne _ _ h.tk, h.ht, List.length_set]
  · rw [heap_set_ne _ _ h.gk, h.hg]
    congr 2
    unfold genCells
    rw [List.map_set]
    congr 1
    apply List.ext_getElem (by simp)
    intro i h1 h2
    rw [List.getElem_set]
    split
    · rename_i e
      subst e
      simp [hp]
    · rfl
  · rw [heap_set _ _ h.hk]
    simp [takenCells, List.map_set]

theorem RTab.put {w : World} {t g k : Nat} {l : List (Int × Bool)} (h : RTab w t g k l) {p : Nat} (x : Int) (b : Bool) :
    RTab ((w.setCell ⟨k, p, none⟩ (.bool b)).setCell ⟨g, p, none⟩ (.int .i64 x)) t g k (l.set p (x, b)) := by
  refine ⟨h.tg, h.tk, h.gk, ?_, ?_, ?_, by simpa using h.pos, by simpa using h.len⟩
  · rw [heap_set_ne _ _ h.tg, heap_set_ne _ _ h.tk, h.ht, List.length_set]
  · rw [heap_set _ _ ((heap_set_ne _ _ h.gk).trans h.hg)]
    simp [genCells, List.map_set]
  · rw [heap_set_ne _ _ (Ne.symm h.gk), heap_set _ _ h.hk]
    simp [takenCells, List.map_set]

theorem info3' : (Try.prog.info? 3).map (fun i => (i.zero, i.size, i.bytes)) = some (some (.int .i64 0), 1, 8) := by kernel_rfl
theorem info4' : (Try.prog.info? 4).map (fun i => (i.zero, i.size, i.bytes)) = some (some (.bool false), 1, 1) := by kernel_rfl

theorem genCells_new (n : Nat) : madeCells #[.int .i64 0] (n * 1) = (genCells (List.replicate n (0, false))).toArray := by
  unfold madeCells genCells
  apply Array.ext
  · simp
  · intro i h1 h2
    simp [Nat.mod_one]
theorem takenCells_new (n : Nat) : madeCells #[.bool false] (n * 1) = (takenCells (List.replicate n (0, false))).toArray := by
  unfold madeCells takenCells
  apply Array.ext
  · simp
  · intro i h1 h2
    simp [Nat.mod_one]

theorem made3 (n : Int) (h0 : 0 ≤ n) (hn : n ≤ 256) (w : World) : (Instr.makeSlice 39 (.int .i64 n) (.int .i64 n)).run Try.prog w = .ok (.slice (some ⟨w.heap.size, 0, none⟩) n.toNat n.toNat) (w.alloc (.cells (genCells (List.replicate n.toNat (0, false))).toArray 3)) := by
  obtain ⟨i0, hi, hz0, hz1, hz2⟩ := info_parts info3'
  have := run_make (P := Try.prog) w 39 3 i0 (.int .i64 0) Try.underlying39 hi hz0 .i64 .i64 n n h0 (Int.le_refl _) (by rw [hz2]; omega) (by omega)
  rw [this, hz1, ← genCells_new]
  rfl
theorem made4 (n : Int) (h0 : 0 ≤ n) (hn : n ≤ 256) (w : World) : (Instr.makeSlice 67 (.int .i64 n) (.int .i64 n)).run Try.prog w = .ok (.slice (some ⟨w.heap.size, 0, none⟩) n.toNat n.toNat) (w.alloc (.cells (takenCells (List.replicate n.toNat (0, false))).toArray 4)) := by
  obtain ⟨i0, hi, hz0, hz1, hz2⟩ := info_parts info4'
  have := run_make (P := Try.prog) w 67 4 i0 (.bool false) Try.underlying67 hi hz0 .i64 .i64 n n h0 (Int.le_refl _) (by rw [hz2]; omega) (by omega)
  rw [this, hz1, ← takenCells_new]
  rfl

set_option maxHeartbeats 400000 in
theorem held_calls (n : Int) (w : World) : Calls Try.prog 46 #[.int .i64 n, .int .i64 1, .int .i64 256] w fun e w' => e = .returned (.int .i64 (width n)) ∧ w = w' := by
  unfold width
  by_cases h1 : n < 1
  · rw [if_pos h1]
    go_enter Try.func46, Try.ntmps46
    go_wp2
    go_ret
    exact ⟨rfl, rfl⟩
  · rw [if_neg h1]
    by_cases h2 : 256 < n
    · rw [if_pos h2]
      go_enter Try.func46, Try.ntmps46
      go_wp2
      go_ret
      exact ⟨rfl, rfl⟩
    · rw [if_neg h2, show ((n.toNat : Nat) : Int) = n by omega]
      go_enter Try.func46, Try.ntmps46
      go_wp2
      go_ret
      exact ⟨rfl, rfl⟩

theorem width_lo (n : Int) : 1 ≤ width n ∧ width n ≤ 256 := by unfold width; split <;> (try split) <;> omega

theorem heap_at3 (w : World) (x y z : Obj) : (((w.alloc x).alloc y).alloc z).heap[w.heap.size]? = some x ∧ (((w.alloc x).alloc y).alloc z).heap[w.heap.size + 1]? = some y ∧ (((w.alloc x).alloc y).alloc z).heap[w.heap.size + 1 + 1]? = some z := by
  show (((w.heap.push _).push _).push _)[_]? = _ ∧ (((w.heap.push _).push _).push _)[_]? = _ ∧ (((w.heap.push _).push _).push _)[_]? = _
  simp only [Array.getElem?_push, Array.size_push]
  refine ⟨?_, ?_, ?_⟩
  · rw [if_neg (by omega), if_neg (by omega), if_pos trivial]
  · rw [if_neg (by omega), if_pos trivial]
  · rw [if_pos trivial]

set_option maxHeartbeats 2000000 in
theorem rnew_calls (n : Int) (w : World) : Calls Try.prog 40 #[.int .i64 n] w fun e w' => ∃ t g k, e = .returned (.pointer (some ⟨t, 0, none⟩)) ∧
    RTab w' t g k (List.replicate (width n) (0, false)) ∧ w.heap.size ≤ t ∧ w.heap.size ≤ g ∧ w.heap.size ≤ k ∧ Below w.heap.size w w' := by
  have hw := width_lo n
  have H := held_calls n w
  generalize width n = m at *
  have h3 := fun w => made3 m (by omega) (by omega) w
  have h4 := fun w => made4 m (by omega) (by omega) w
  rw [Int.toNat_natCast] at h3 h4
  generalize hG : (genCells (List.replicate m (0, false))).toArray = G at *
  generalize hK : (takenCells (List.replicate m (0, false))).toArray = K at *
  have HG := Lib.hid hG
  have HK := Lib.hid hK
  clear hG hK
  go_enter Try.func40, Try.ntmps40
  go_wp2_with (go_at_call 46; (with_reducible refine H.mono ?_); rintro e w' ⟨rfl, rfl⟩)
  go_region
  all_goals
    go_wp2
    go_ret
  · obtain ⟨e1, e2, e3⟩ := heap_at3 w (.cells G 3 (0, 0)) (.cells K 4 (0, 0)) (.cells #[.slice (some ⟨w.heap.size, 0, none⟩) m m, .slice (some ⟨w.heap.size + 1, 0, none⟩) m m] 69 (0, 0))
    exact ⟨w.heap.size + 1 + 1, w.heap.size, w.heap.size + 1, rfl, ⟨by omega, by omega, by omega, by rw [List.length_replicate]; exact e3, by rw [HG.out]; exact e1, by rw [HK.out]; exact e2, by simpa using hw.1, by simpa using hw.2⟩, by omega, by omega, by omega, ⟨rfl, rfl, rfl, by show _ ≤ (((w.heap.push _).push _).push _).size; simp; omega, fun k hk => (((Below.refl _ _).alloc (Nat.le_refl _) _).alloc (by simp) _ |>.alloc (by simp; omega) _).block k hk⟩⟩
  · obtain ⟨e1, e2, e3⟩ := heap_at3 w (.cells K 4 (0, 0)) (.cells G 3 (0, 0)) (.cells #[.slice (some ⟨w.heap.size + 1, 0, none⟩) m m, .slice (some ⟨w.heap.size, 0, none⟩) m m] 69 (0, 0))
    exact ⟨w.heap.size + 1 + 1, w.heap.size + 1, w.heap.size, rfl, ⟨by omega, by omega, by omega, by rw [List.length_replicate]; exact e3, by rw [HG.out]; exact e2, by rw [HK.out]; exact e1, by simpa using hw.1, by simpa using hw.2⟩, by omega, by omega, by omega, ⟨rfl, rfl, rfl, by show _ ≤ (((w.heap.push _).push _).push _).size; simp; omega, fun k hk => (((Below.refl _ _).alloc (Nat.le_refl _) _).alloc (by simp) _ |>.alloc (by simp; omega) _).block k hk⟩⟩

set_option maxHeartbeats 1000000 in
theorem rtake_full (t g k : Nat) (l : List (Int × Bool)) (w : World) (h : RTab w t g k l) (hall : ∀ i, i < l.length → (l.getD i (0, false)).2 = true) :
    Calls Try.prog 41 #[.pointer (some ⟨t, 0, none⟩)] w fun e w' => e = .returned (.tuple #[.int .i64 0, .int .i64 3]) ∧ w = w' := by
  have hc0 := h.c0
  have hc1 := h.c1
  have hlen := h.len
  have H := Lib.hid h
  have HA := Lib.hid hall
  clear h hall
  go_enter Try.func41, Try.ntmps41
  go_wp2
  go_loop [4] (fun v => ∃ i : Nat, i ≤ l.length ∧ v = .int .i64 i) (fun v => l.length - (intOf v).toNat)
  case atStart => exact ⟨0, Nat.zero_le _, rfl⟩
  case round =>
    obtain ⟨i, hi, rfl⟩ := hrel
    by_cases hlt : i < l.length
    · have ht := H.out.ck hlt
      rw [HA.out i hlt] at ht
      go_wp2
      go_round
      case rel => exact ⟨i + 1, by omega, by go_num⟩
      case measure => simp [intOf]; omega
    · obtain rfl : i = l.length := by omega
      go_wp2
      go_ret2
      exact ⟨rfl, rfl⟩

set_option maxHeartbeats 1000000 in
theorem rtake_free (t g k : Nat) (l : List (Int × Bool)) (w : World) (i : Nat) (gen : Int) (h : RTab w t g k l) (hi : i < l.length) (hg : (l.getD i (0, false)).1 = gen) (hfree : (l.getD i (0, false)).2 = false) (hall : ∀ j, j < i → (l.getD j (0, false)).2 = true)
    (h2 : 0 ≤ gen) (h3 : gen < 16777216) :
    Calls Try.prog 41 #[.pointer (some ⟨t, 0, none⟩)] w fun e w' => e = .returned (.tuple #[.int .i64 (gen * 256 + i), .int .i64 0]) ∧ Chg w w' (fun b => b = g ∨ b = k) ∧ RTab w' t g k (l.set i (gen, true)) ∧ w'.heap.size = w.heap.size := by
  have hc0 := h.c0
  have hc1 := h.c1
  have hlen := h.len
  have H := Lib.hid h
  have HA := Lib.hid hall
  have HF := Lib.hid hfree
  have HG := Lib.hid hg
  clear h hall hfree hg
  go_enter Try.func41, Try.ntmps41
  go_wp2
  go_loop [4] (fun v => ∃ j : Nat, j ≤ i ∧ v = .int .i64 j) (fun v => l.length - (intOf v).toNat)
  case atStart => exact ⟨0, Nat.zero_le _, rfl⟩
  case round =>
    obtain ⟨j, hj, rfl⟩ := hrel
    have hlt : j < l.length := by omega
    by_cases hji : j < i
    · have ht := H.out.ck hlt
      rw [HA.out j hji] at ht
      go_wp2
      go_round
      case rel => exact ⟨j + 1, by omega, by go_num⟩
      case measure => simp [intOf]; omega
    · obtain rfl : j = i := by omega
      have ht := H.out.ck hlt
      rw [HF.out] at ht
      have hgen := H.out.cg hlt
      rw [HG.out] at hgen
      have hz := H.out.fk j
      have h1 : t ≠ k := H.out.tk
      have h4 : g ≠ k := H.out.gk
      go_wp2
      go_ret2
      refine ⟨?_, (Chg.refl w (fun b => b = g ∨ b = k)).set (.inr rfl) _ _, ?_, by simp⟩
      · rw [show gen * 256 + (j : Int) = (j : Int) + 256 * gen by omega]
        rfl
      · have := H.out.mark hlt true
        rw [HG.out] at this
        exact this

set_option maxHeartbeats 1000000 in
theorem ris_calls (t g k : Nat) (l : List (Int × Bool)) (n : Int) (w : World) (h : RTab w t g k l) (h0 : 0 ≤ n) (h1 : n < 4294967296) :
    Calls Try.prog 43 #[.pointer (some ⟨t, 0, none⟩), .int .i64 n] w fun e w' => e = .returned (.int .i64 (isOf l n)) ∧ w = w' := by
  have hc0 := h.c0
  have hc1 := h.c1
  have hlen := h.len
  unfold isOf
  rw [plOf_eq n h0 h1, geOf_eq]
  by_cases hp : (l.length : Int) ≤ n % 256
  · rw [if_pos hp]
    clear h
    go_enter Try.func43, Try.ntmps43
    go_wp2
    go_ret
    exact ⟨rfl, rfl⟩
  · rw [if_neg hp]
    have hpl : (n % 256).toNat < l.length := by omega
    have ht := h.ck hpl
    have hg := h.cg hpl
    generalize (l.getD (n % 256).toNat (0, false)).1 = gen at *
    generalize (l.getD (n % 256).toNat (0, false)).2 = tk at *
    clear h
    by_cases c1 : n / 256 < gen
    · rw [if_pos c1]
      have e1 : ((n / 256) == gen) = false := by simp; omega
      cases tk
      all_goals
        go_enter Try.func43, Try.ntmps43
        go_wp2
        go_ret
        exact ⟨rfl, rfl⟩
    · rw [if_neg c1]
      by_cases c2 : gen < n / 256
      · rw [if_pos c2]
        have e1 : ((n / 256) == gen) = false := by simp; omega
        cases tk
        all_goals
          go_enter Try.func43, Try.ntmps43
          go_wp2
          go_ret
          exact ⟨rfl, rfl⟩
      · rw [if_neg c2]
        have e1 : ((n / 256) == gen) = true := by simp; omega
        cases tk
        all_goals
          go_enter Try.func43, Try.ntmps43
          go_wp2
          go_ret
          exact ⟨rfl, rfl⟩

set_option maxHeartbeats 1000000 in
theorem rgive_no (t g k : Nat) (l : List (Int × Bool)) (n : Int) (w : World) (r : Int) (h : RTab w t g k l) (h0 : 0 ≤ n) (h1 : n < 4294967296) (hr : isOf l n = r) (hne : r ≠ 0) :
    Calls Try.prog 42 #[.pointer (some ⟨t, 0, none⟩), .int .i64 n] w fun e w' => e = .returned (.int .i64 r) ∧ w = w' := by
  have I := ris_calls t g k l n w h h0 h1
  rw [hr] at I
  clear h hr
  have hb : (r == 0) = false := beq_eq_false_iff_ne.2 hne
  go_enter Try.func42, Try.ntmps42
  go_wp2_with (go_at_call 43; (with_reducible refine I.mono ?_); rintro e w' ⟨rfl, rfl⟩)
  go_ret
  exact ⟨rfl, rfl⟩

set_option maxHeartbeats 1000000 in
theorem rgive_yes (t g k : Nat) (l : List (Int × Bool)) (n : Int) (w : World) (p : Nat) (gen : Int) (h : RTab w t g k l) (h0 : 0 ≤ n) (h1 : n < 4294967296) (hr : isOf l n = 0) (hpl : n % 256 = p) (hp : p < l.length) (hge : (l.getD p (0, false)).1 = gen) (hg0 : 0 ≤ gen) (hg1 : gen < 16777216) :
    Calls Try.prog 42 #[.pointer (some ⟨t, 0, none⟩), .int .i64 n] w fun e w' => e = .returned (.int .i64 0) ∧ Chg w w' (fun b => b = g ∨ b = k) ∧ RTab w' t g k (l.set p ((gen + 1) % 16777216, false)) := by
  have I := ris_calls t g k l n w h h0 h1
  rw [hr] at I
  have hc0 := h.c0
  have hc1 := h.c1
  have hlen := h.len
  have ht := h.ck hp
  have hg := h.cg hp
  rw [hge] at hg
  have fk := h.fk p
  have fg := h.fg p
  have n1 : t ≠ k := h.tk
  have n2 : t ≠ g := h.tg
  have n3 : g ≠ k := h.gk
  have hg0' : 0 ≤ gen + 1 := by omega
  have HT := Lib.hid (h.put (p := p) ((gen + 1) % 16777216) false)
  clear h hr hge
  go_enter Try.func42, Try.ntmps42
  go_wp2_with (go_at_call 43; (with_reducible refine I.mono ?_); rintro e w' ⟨rfl, rfl⟩)
  obtain ⟨w1, hw1⟩ : ∃ w1, w1 = w.setCell ⟨k, p, none⟩ (.bool false) := ⟨_, rfl⟩
  rw [← hw1] at HT ⊢
  have hc0' : w1.cell? ⟨t, 0, none⟩ = some (.slice (some ⟨g, 0, none⟩) l.length l.length) := by rw [hw1, World.cell?_of_block (w := w) (heap_set_ne _ _ n1)]; exact hc0
  have hg' : w1.cell? ⟨g, p, none⟩ = some (.int .i64 gen) := by rw [hw1, World.cell?_of_block (w := w) (heap_set_ne _ _ n3)]; exact hg
  have fg' : w1.frozen? ⟨g, p, none⟩ = false := by rw [hw1, World.frozen?_of_block (w := w) (heap_set_ne _ _ n3)]; exact fg
  have HC := Lib.hid (show Chg w w1 (fun b => b = g ∨ b = k) by rw [hw1]; exact (Chg.refl w _).set (.inr rfl) _ _)
  clear hw1 hc0 hc1 ht hg fk fg I
  go_still_tail 15, (by kernel_rfl)
  change wpList _ _ _ _ _ w1.drew
  have hc2 : w1.drew.cell? ⟨t, 0, none⟩ = some (.slice (some ⟨g, 0, none⟩) l.length l.length) := hc0'
  have hg2 : w1.drew.cell? ⟨g, p, none⟩ = some (.int .i64 gen) := hg'
  have fg2 : w1.drew.frozen? ⟨g, p, none⟩ = false := fg'
  go_wp2
  go_ret
  exact ⟨rfl, (HC.out.set (.inl rfl) _ _).drew, HT.out.of_heap rfl rfl rfl⟩
end Go.Proofs.Ytjihjmanndhdhaa.Ids
