/- The table of names (package ids) in memory, and what New, Take, Is, Give do to it: for all tables of at most 256 places. -/
import Derived.Test.YtjihjmanndhdhaaPIdsKnownx1
import Derived.StillTailTactics
namespace Go.Proofs.Ytjihjmanndhdhaa.Ids
open Go.RowKit Go.Proofs.YtjihjmanndhdhaaW.PrintWords Go.Proofs.YtjihjmanndhdhaaW.PrintLast Go.Proofs.YtjihjmanndhdhaaW.PrintMore Go.Proofs.Ytjihjmanndhdhaa.PIdsKnown
attribute [local go_sem] max2_int min2_int max_two min_two

/-- the cells of the places. -/
def spotCells : List (Int × Bool) → List Value
  | [] => []
  | (g, b) :: t => .int .i64 g :: .bool b :: spotCells t

theorem spotCells_len (l : List (Int × Bool)) : (spotCells l).length = l.length * 2 := by
  induction l with
  | nil => rfl
  | cons p t ih => simp only [spotCells, List.length_cons, ih]; omega

theorem spotCells_gen (l : List (Int × Bool)) : ∀ i, i < l.length → (spotCells l)[i * 2]? = some (.int .i64 (l.getD i (0, false)).1) := by
  induction l with
  | nil => intro i h; exact absurd h (by simp)
  | cons p t ih =>
    intro i h
    cases i with
    | zero => rfl
    | succ i =>
      have := ih i (by simpa using h)
      rw [show (i + 1) * 2 = i * 2 + 1 + 1 by omega]
      simpa [spotCells] using this

theorem spotCells_taken (l : List (Int × Bool)) : ∀ i, i < l.length → (spotCells l)[i * 2 + 1]? = some (.bool (l.getD i (0, false)).2) := by
  induction l with
  | nil => intro i h; exact absurd h (by simp)
  | cons p t ih =>
    intro i h
    cases i with
    | zero => rfl
    | succ i =>
      have := ih i (by simpa using h)
      rw [show (i + 1) * 2 + 1 = i * 2 + 1 + 1 + 1 by omega]
      simpa [spotCells] using this

theorem spotCells_setTaken (l : List (Int × Bool)) (b : Bool) : ∀ i, i < l.length → spotCells (l.set i ((l.getD i (0, false)).1, b)) = (spotCells l).set (i * 2 + 1) (.bool b) := by
  induction l with
  | nil => intro i h; exact absurd h (by simp)
  | cons p t ih =>
    intro i h
    cases i with
    | zero => rfl
    | succ i =>
      have := ih i (by simpa using h)
      rw [show (i + 1) * 2 + 1 = i * 2 + 1 + 1 + 1 by omega]
      simp only [List.set_cons_succ, List.getD_cons_succ, spotCells, this]

theorem spotCells_set (l : List (Int × Bool)) (g : Int) (b : Bool) : ∀ i, i < l.length → spotCells (l.set i (g, b)) = ((spotCells l).set (i * 2) (.int .i64 g)).set (i * 2 + 1) (.bool b) := by
  induction l with
  | nil => intro i h; exact absurd h (by simp)
  | cons p t ih =>
    intro i h
    cases i with
    | zero => rfl
    | succ i =>
      have := ih i (by simpa using h)
      rw [show (i + 1) * 2 + 1 = i * 2 + 1 + 1 + 1 by omega, show (i + 1) * 2 = i * 2 + 1 + 1 by omega]
      simp only [List.set_cons_succ, spotCells, this]

theorem spotCells_append (l : List (Int × Bool)) (g : Int) (b : Bool) : spotCells (l ++ [(g, b)]) = spotCells l ++ [.int .i64 g, .bool b] := by
  induction l with
  | nil => rfl
  | cons p t ih => simp only [List.cons_append, spotCells, ih]

theorem spotCells_new (n : Nat) : madeCells #[.int .i64 0, .bool false] (n * 2) = (spotCells (List.replicate n (0, false))).toArray := by
  induction n with
  | zero => simp [madeCells, spotCells]
  | succ n ih =>
    have e : (spotCells (List.replicate (n + 1) (0, false))).toArray = ((spotCells (List.replicate n (0, false))).toArray.push (Value.int IntKind.i64 0)).push (Value.bool false) := by
      rw [List.replicate_succ', spotCells_append]; simp
    rw [e, ← ih]
    unfold madeCells
    rw [show (n + 1) * 2 = n * 2 + 1 + 1 by omega, Array.range_succ, Array.range_succ]
    have a : (n * 2) % 2 = 0 := by omega
    have b : (n * 2 + 1) % 2 = 1 := by omega
    simp [a, b]

/-- a table in memory: block t holds the slice, block s the places. -/
structure Tab (w : World) (t s : Nat) (l : List (Int × Bool)) : Prop where
  ne : t ≠ s
  ht : w.heap[t]? = some (.cells #[.slice (some ⟨s, 0, none⟩) l.length l.length] 84 (0, 0))
  hs : w.heap[s]? = some (.cells (spotCells l).toArray 86 (0, 0))
  pos : 1 ≤ l.length
  len : l.length ≤ 256

theorem Tab.of_heap {w w' : World} {t s : Nat} {l : List (Int × Bool)} (h : Tab w t s l) (ht : w'.heap[t]? = w.heap[t]?) (hs : w'.heap[s]? = w.heap[s]?) : Tab w' t s l :=
  ⟨h.ne, by rw [ht]; exact h.ht, by rw [hs]; exact h.hs, h.pos, h.len⟩

theorem Tab.lt_t {w : World} {t s : Nat} {l : List (Int × Bool)} (h : Tab w t s l) : t < w.heap.size := by
  have := h.ht
  rw [Array.getElem?_eq_some_iff] at this
  exact this.1

theorem Tab.lt_s {w : World} {t s : Nat} {l : List (Int × Bool)} (h : Tab w t s l) : s < w.heap.size := by
  have := h.hs
  rw [Array.getElem?_eq_some_iff] at this
  exact this.1

theorem Tab.cell_t {w : World} {t s : Nat} {l : List (Int × Bool)} (h : Tab w t s l) : w.cell? ⟨t, 0, none⟩ = some (.slice (some ⟨s, 0, none⟩) l.length l.length) := by
  simp [World.cell?, h.ht]

theorem Tab.cell_gen {w : World} {t s : Nat} {l : List (Int × Bool)} (h : Tab w t s l) {i : Nat} (hi : i < l.length) : w.cell? ⟨s, i * 2, none⟩ = some (.int .i64 (l.getD i (0, false)).1) := by
  simp only [World.cell?, h.hs]
  simpa using spotCells_gen l i hi

theorem Tab.cell_taken {w : World} {t s : Nat} {l : List (Int × Bool)} (h : Tab w t s l) {i : Nat} (hi : i < l.length) : w.cell? ⟨s, i * 2 + 1, none⟩ = some (.bool (l.getD i (0, false)).2) := by
  simp only [World.cell?, h.hs]
  simpa using spotCells_taken l i hi

theorem Tab.unfrozen {w : World} {t s : Nat} {l : List (Int × Bool)} (h : Tab w t s l) (o : Nat) : w.frozen? ⟨s, o, none⟩ = false := by
  simp [World.frozen?, h.hs]

theorem heap_set {w : World} {s : Nat} {c : Array Value} {e : TypeId} {fz : Nat × Nat} (o : Nat) (v : Value) (h : w.heap[s]? = some (.cells c e fz)) : (w.setCell ⟨s, o, none⟩ v).heap[s]? = some (.cells (c.setIfInBounds o v) e fz) := by
  simp only [World.setCell, Array.getElem?_modify, if_true, h]
  rfl

theorem heap_set_ne {w : World} {s k : Nat} (o : Nat) (v : Value) (h : k ≠ s) : (w.setCell ⟨s, o, none⟩ v).heap[k]? = w.heap[k]? := Below.heap_setCell _ _ _ _ h

theorem Tab.put {w : World} {t s : Nat} {l : List (Int × Bool)} (h : Tab w t s l) {p : Nat} (hp : p < l.length) (g : Int) (b : Bool) :
    Tab ((w.setCell ⟨s, p * 2, none⟩ (.int .i64 g)).setCell ⟨s, p * 2 + 1, none⟩ (.bool b)) t s (l.set p (g, b)) := by
  refine ⟨h.ne, ?_, ?_, by simpa using h.pos, by simpa using h.len⟩
  · rw [heap_set_ne _ _ h.ne, heap_set_ne _ _ h.ne, h.ht, List.length_set]
  · rw [heap_set _ _ (heap_set _ _ h.hs), spotCells_set l g b p hp]
    simp

theorem Tab.mark {w : World} {t s : Nat} {l : List (Int × Bool)} (h : Tab w t s l) {p : Nat} (hp : p < l.length) (b : Bool) :
    Tab (w.setCell ⟨s, p * 2 + 1, none⟩ (.bool b)) t s (l.set p ((l.getD p (0, false)).1, b)) := by
  refine ⟨h.ne, ?_, ?_, by simpa using h.pos, by simpa using h.len⟩
  · rw [heap_set_ne _ _ h.ne, h.ht, List.length_set]
  · rw [heap_set _ _ h.hs, spotCells_setTaken l b p hp]
    simp

/-- of what was there only block s may have turned. -/
structure Only (w w' : World) (s : Nat) : Prop where
  os : w'.os = w.os
  tape : w'.tape = w.tape
  output : w'.output = w.output
  size : w.heap.size ≤ w'.heap.size
  block : ∀ k, k < w.heap.size → k ≠ s → w'.heap[k]? = w.heap[k]?

theorem Only.of_below {w w' : World} (s : Nat) (h : Below w.heap.size w w') : Only w w' s := ⟨h.os, h.tape, h.output, h.size, fun k hk _ => h.block k hk⟩
theorem Only.set {w w' : World} {s : Nat} (h : Only w w' s) (o : Nat) (v : Value) : Only w (w'.setCell ⟨s, o, none⟩ v) s :=
  ⟨h.os, h.tape, h.output, by simpa using h.size, fun k hk hne => by rw [heap_set_ne _ _ hne]; exact h.block k hk hne⟩
theorem Only.drew {w w' : World} {s : Nat} (h : Only w w' s) : Only w w'.drew s := ⟨h.os, h.tape, h.output, h.size, h.block⟩
theorem Only.drewN {w w' : World} {s : Nat} (h : Only w w' s) (n : Nat) : Only w (w'.drewN n) s := ⟨h.os, h.tape, h.output, h.size, h.block⟩
theorem Only.refl (w : World) (s : Nat) : Only w w s := ⟨rfl, rfl, rfl, Nat.le_refl _, fun _ _ _ => rfl⟩
theorem Only.trans {a b c : World} {s : Nat} (h : Only a b s) (k : Only b c s) : Only a c s :=
  ⟨k.os.trans h.os, k.tape.trans h.tape, k.output.trans h.output, Nat.le_trans h.size k.size, fun i hi hn => (k.block i (Nat.lt_of_lt_of_le hi h.size) hn).trans (h.block i hi hn)⟩
/-- what is older than the table has not turned. -/
theorem Only.below {B : Nat} {a w w' : World} {s : Nat} (hb : Below B a w) (h : Only w w' s) (hs : B ≤ s) (hB : B ≤ w.heap.size) : Below B a w' :=
  ⟨h.os.trans hb.os, h.tape.trans hb.tape, h.output.trans hb.output, Nat.le_trans hb.size h.size, fun k hk => (h.block k (by omega) (by omega)).trans (hb.block k hk)⟩

theorem info86 : (Try.prog.info? 86).map (fun i => (i.zero, i.size, i.bytes)) = some (some (.agg #[.int .i64 0, .bool false]), 2, 16) := by kernel_rfl

theorem made86 (n : Int) (h0 : 0 ≤ n) (hn : n ≤ 256) (w : World) : (Instr.makeSlice 82 (.int .i64 n) (.int .i64 n)).run Try.prog w = .ok (.slice (some ⟨w.heap.size, 0, none⟩) n.toNat n.toNat) (w.alloc (.cells (madeCells #[.int .i64 0, .bool false] (n.toNat * 2)) 86)) := by
  obtain ⟨i0, hi, hz0, hz1, hz2⟩ := info_parts info86
  have := run_make (P := Try.prog) w 82 86 i0 (.agg #[.int .i64 0, .bool false]) Try.underlying82 hi hz0 .i64 .i64 n n h0 (Int.le_refl _) (by rw [hz2]; omega) (by omega)
  rw [this, hz1]
  rfl

/-- how many places New makes. -/
def width (n : Int) : Nat := if n < 1 then 1 else if 256 < n then 256 else n.toNat

theorem new_tab (n : Int) (w : World) : Tab ((w.alloc (.cells (madeCells #[.int .i64 0, .bool false] (width n * 2)) 86)).alloc (.cells #[.slice (some ⟨w.heap.size, 0, none⟩) (width n) (width n)] 84)) (w.heap.size + 1) w.heap.size (List.replicate (width n) (0, false)) := by
  refine ⟨by omega, ?_, ?_, ?_, ?_⟩
  · show ((w.heap.push _).push _)[_]? = _
    rw [show w.heap.size + 1 = (w.heap.push (.cells (madeCells #[.int .i64 0, .bool false] (width n * 2)) 86)).size by simp, Array.getElem?_push_size, List.length_replicate]
  · show ((w.heap.push _).push _)[_]? = _
    rw [Array.getElem?_push, if_neg (by simp), Array.getElem?_push_size, spotCells_new]
  · unfold width; simp only [List.length_replicate]; split <;> (try split) <;> omega
  · unfold width; simp only [List.length_replicate]; split <;> (try split) <;> omega

set_option maxHeartbeats 1000000 in
theorem new_walk (n : Int) (w : World) : Calls Try.prog 34 #[.int .i64 n] w fun e w' => e = .returned (.pointer (some ⟨w.heap.size + 1, 0, none⟩)) ∧
    w' = (w.alloc (.cells (madeCells #[.int .i64 0, .bool false] (width n * 2)) 86)).alloc (.cells #[.slice (some ⟨w.heap.size, 0, none⟩) (width n) (width n)] 84) := by
  by_cases h1 : n < 1
  · have hw : width n = 1 := by unfold width; rw [if_pos h1]
    have hm := fun w => made86 1 (by omega) (by omega) w
    have h1' : ¬ 1 ≤ n := by omega
    rw [hw]
    clear hw
    go_enter Try.func34, Try.ntmps34
    go_wp2
    go_ret
    exact ⟨rfl, rfl⟩
  · have h1' : 1 ≤ n := by omega
    by_cases h2 : 256 < n
    · have hw : width n = 256 := by unfold width; rw [if_neg h1, if_pos h2]
      have hm := fun w => made86 256 (by omega) (by omega) w
      have h2' : ¬ n < 256 := by omega
      rw [hw]
      clear hw
      go_enter Try.func34, Try.ntmps34
      go_wp2
      go_ret
      exact ⟨rfl, rfl⟩
    · have hw : width n = n.toNat := by unfold width; rw [if_neg h1, if_neg h2]
      have hm := fun w => made86 n (by omega) (by omega) w
      rw [hw]
      clear hw
      go_enter Try.func34, Try.ntmps34
      go_wp2
      go_ret
      exact ⟨rfl, rfl⟩

theorem new_calls (n : Int) (w : World) : Calls Try.prog 34 #[.int .i64 n] w fun e w' => e = .returned (.pointer (some ⟨w.heap.size + 1, 0, none⟩)) ∧
    Tab w' (w.heap.size + 1) w.heap.size (List.replicate (width n) (0, false)) ∧ Below w.heap.size w w' ∧ w'.heap.size = w.heap.size + 2 := by
  refine (new_walk n w).mono ?_
  rintro e w' ⟨rfl, rfl⟩
  exact ⟨rfl, new_tab n w, ((Below.refl _ _).alloc (Nat.le_refl _) _).alloc (by simp) _, by simp⟩

set_option maxHeartbeats 1000000 in
theorem take_full (t s : Nat) (l : List (Int × Bool)) (w : World) (h : Tab w t s l) (hall : ∀ i, i < l.length → (l.getD i (0, false)).2 = true) :
    Calls Try.prog 35 #[.pointer (some ⟨t, 0, none⟩)] w fun e w' => e = .returned (.tuple #[.int .u32 0, .int .i64 3]) ∧ w' = w := by
  have hc := h.cell_t
  have hlen := h.len
  have H := Aside0.mk h
  have HA := Aside0.mk hall
  clear h hall
  go_enter Try.func35, Try.ntmps35
  go_wp2
  go_loop [12] (fun v => ∃ k : Nat, k ≤ l.length ∧ v = .int .i64 k) (fun v => l.length - (intOf v).toNat)
  case atStart => exact ⟨0, Nat.zero_le _, rfl⟩
  case round =>
    obtain ⟨k, hk, rfl⟩ := hrel
    by_cases hlt : k < l.length
    · have ht := H.out.cell_taken hlt
      rw [HA.out k hlt] at ht
      go_wp2
      go_round
      case rel => exact ⟨k + 1, by omega, by go_num⟩
      case measure => simp [intOf]; omega
    · obtain rfl : k = l.length := by omega
      go_wp2
      go_ret2
      exact ⟨rfl, rfl⟩

set_option maxHeartbeats 1000000 in
theorem take_free (t s : Nat) (l : List (Int × Bool)) (w : World) (i : Nat) (r1 : Int) (r2 : Bool) (h : Tab w t s l) (hi : i < l.length) (hfree : (l.getD i (0, false)).2 = false) (hall : ∀ j, j < i → (l.getD j (0, false)).2 = true)
    (hm : ids_Make.f i (l.getD i (0, false)).1 = some (r1, r2)) :
    Calls Try.prog 35 #[.pointer (some ⟨t, 0, none⟩)] w fun e w' => e = .returned (.tuple #[.int .u32 r1, .int .i64 0]) ∧ Drawn0 (w.setCell ⟨s, i * 2 + 1, none⟩ (.bool true)) w' := by
  have hc := h.cell_t
  have hlen := h.len
  have H := Aside0.mk h
  have HA := Aside0.mk hall
  have HF := Aside0.mk hfree
  have HM := Aside0.mk hm
  clear h hall hfree hm
  go_enter Try.func35, Try.ntmps35
  go_wp2
  go_loop [12] (fun v => ∃ k : Nat, k ≤ i ∧ v = .int .i64 k) (fun v => l.length - (intOf v).toNat)
  case atStart => exact ⟨0, Nat.zero_le _, rfl⟩
  case round =>
    obtain ⟨k, hk, rfl⟩ := hrel
    have hlt : k < l.length := by omega
    by_cases hki : k < i
    · have ht := H.out.cell_taken hlt
      rw [HA.out k hki] at ht
      go_wp2
      go_round
      case rel => exact ⟨k + 1, by omega, by go_num⟩
      case measure => simp [intOf]; omega
    · obtain rfl : k = i := by omega
      have ht := H.out.cell_taken hlt
      rw [HF.out] at ht
      have hg := H.out.cell_gen hlt
      have hz := H.out.unfrozen (k * 2 + 1)
      have hne : t ≠ s := H.out.ne
      generalize hgen : (l.getD k (0, false)).1 = gen at *
      clear hgen
      go_wp2_with (go_at_call 19; (with_reducible refine (ids_Make.calls _ _ r1 r2 _ HM.out).mono ?_); rintro e w' ⟨rfl, ⟨nd, rfl⟩⟩)
      go_ret2
      exact ⟨rfl, ⟨nd, rfl⟩⟩

/-- a name's place and gen. -/
def plOf (n : Int) : Int := Go.bits .and .i64 n 255
def geOf (n : Int) : Int := n / 256

set_option maxHeartbeats 400000 in
theorem place_calls (n : Int) (w : World) (h0 : 0 ≤ n) (h1 : n < 4294967296) : Calls Try.prog 20 #[.int .u32 n] w fun e w' => e = .returned (.int .i64 (plOf n)) ∧ w' = w := by
  go_enter Try.func20, Try.ntmps20
  go_wp2
  go_ret
  exact ⟨rfl, rfl⟩

set_option maxHeartbeats 400000 in
theorem gen_calls (n : Int) (w : World) (h0 : 0 ≤ n) (h1 : n < 4294967296) : Calls Try.prog 21 #[.int .u32 n] w fun e w' => e = .returned (.int .i64 (geOf n)) ∧ w' = w := by
  go_enter Try.func21, Try.ntmps21
  go_wp2
  go_ret
  exact ⟨rfl, rfl⟩

/-- what Is tells. -/
def isOf (l : List (Int × Bool)) (n : Int) : Int :=
  if (l.length : Int) ≤ plOf n then 2
  else if geOf n < (l.getD (plOf n).toNat (0, false)).1 then 10
  else if (l.getD (plOf n).toNat (0, false)).1 < geOf n then 2
  else if (l.getD (plOf n).toNat (0, false)).2 = true then 0 else 2

set_option maxHeartbeats 1000000 in
theorem is_far (t s : Nat) (l : List (Int × Bool)) (n : Int) (w : World) (h : Tab w t s l) (h0 : 0 ≤ n) (h1 : n < 4294967296) (hp : (l.length : Int) ≤ plOf n) :
    Calls Try.prog 36 #[.pointer (some ⟨t, 0, none⟩), .int .u32 n] w fun e w' => e = .returned (.int .i64 2) ∧ Drawn0 w w' := by
  have hc := h.cell_t
  have hlen := h.len
  clear h
  have P := fun w => place_calls n w h0 h1
  generalize hpl : plOf n = p at *
  clear hpl
  have hpb : decide ((l.length : Int) ≤ p) = true := decide_eq_true hp
  go_enter Try.func36, Try.ntmps36
  go_wp2
  go_quiet ((go_at_call 20; exact Calls.quiet_of_same (P _)))
  all_goals
    go_wp2
    go_ret
    exact ⟨rfl, ⟨_, rfl⟩⟩

set_option maxHeartbeats 1000000 in
theorem is_near (t s : Nat) (l : List (Int × Bool)) (n : Int) (w : World) (p : Nat) (g : Int) (gen : Int) (tk : Bool) (h : Tab w t s l) (h0 : 0 ≤ n) (h1 : n < 4294967296) (hpl : plOf n = p) (hp : p < l.length) (hge : geOf n = g)
    (hgen : (l.getD p (0, false)).1 = gen) (htk : (l.getD p (0, false)).2 = tk) :
    Calls Try.prog 36 #[.pointer (some ⟨t, 0, none⟩), .int .u32 n] w fun e w' => e = .returned (.int .i64 (isOf l n)) ∧ Below w.heap.size w w' := by
  have hfin : isOf l n = if g < gen then 10 else if gen < g then 2 else if tk = true then 0 else 2 := by
    unfold isOf
    rw [hpl, hge, Int.toNat_natCast, hgen, htk, if_neg (by omega)]
  generalize isOf l n = r at *
  have HR := Aside0.mk hfin
  clear hfin
  have hc := h.cell_t
  have hlen := h.len
  have hcg := h.cell_gen hp
  have hct := h.cell_taken hp
  have hts := h.lt_t
  have hss := h.lt_s
  rw [hgen] at hcg
  rw [htk] at hct
  clear hgen htk h
  have P := fun w => place_calls n w h0 h1
  have G := fun w => gen_calls n w h0 h1
  rw [hpl] at P
  rw [hge] at G
  clear hpl hge
  have hpb : decide ((l.length : Int) ≤ (p : Int)) = false := by simp; omega
  have hpb2 : decide (l.length ≤ p) = false := by simp; omega
  go_enter Try.func36, Try.ntmps36
  go_wp2
  go_quiet ((go_at_call 20; exact Calls.quiet_of_same (P _)))
  go_wp2
  obtain ⟨w2, hw2⟩ : ∃ w2, w2 = w.drewN nq := ⟨_, rfl⟩
  rw [← hw2]
  have hc2 : w2.cell? ⟨t, 0, none⟩ = some (.slice (some ⟨s, 0, none⟩) l.length l.length) := by rw [hw2]; exact hc
  have hcg2 : w2.cell? ⟨s, p * 2, none⟩ = some (.int .i64 gen) := by rw [hw2]; exact hcg
  have hct2 : w2.cell? ⟨s, p * 2 + 1, none⟩ = some (.bool tk) := by rw [hw2]; exact hct
  have n1 : w2.heap.size ≠ t := by rw [hw2]; simp; omega
  have n2 : w2.heap.size ≠ s := by rw [hw2]; simp; omega
  have B2 := Aside0.mk (show Below w.heap.size w w2 from by rw [hw2]; exact ⟨rfl, rfl, rfl, Nat.le_refl _, fun _ _ => rfl⟩)
  have Z2 := Aside0.mk (show w2.heap.size = w.heap.size from by rw [hw2]; rfl)
  clear hw2 hts hss hc hcg hct
  go_region_held3 (fun w' => w'.cell? ⟨t, 0, none⟩ = some (.slice (some ⟨s, 0, none⟩) l.length l.length) ∧ w'.cell? ⟨s, p * 2, none⟩ = some (.int .i64 gen) ∧ w'.cell? ⟨s, p * 2 + 1, none⟩ = some (.bool tk)) (go_keep) ((first | (go_at_call 20; refine (P _).mono ?_; rintro e w' ⟨rfl, rfl⟩)))
  all_goals
    go_wp2
    generalize hw3 : World.drew _ = w3
    have hg3 : w3.cell? ⟨w2.heap.size, 0, none⟩ = some (.int .i64 gen) := by rw [← hw3]; simp
    have ht3 : w3.cell? ⟨w2.heap.size, 1, none⟩ = some (.bool tk) := by rw [← hw3]; simp
    have B3 := Aside0.mk (show Below w.heap.size w w3 from by rw [← hw3]; exact (B2.out.alloc (by rw [Z2.out]; exact Nat.le_refl _) _).trans ⟨rfl, rfl, rfl, Nat.le_refl _, fun _ _ => rfl⟩)
    clear hw3 hc2 hcg2 hct2
    by_cases c1 : g < gen
    · have c1b : decide (g < gen) = true := decide_eq_true c1
      have hr : Aside0 (r = 10) := ⟨by rw [HR.out, if_pos c1]⟩
      clear c1
      go_quiet ((go_at_call 21; exact Calls.quiet_of_same (G _)))
      go_wp2
      go_ret
      exact ⟨by rw [hr.out]; rfl, B3.out.trans ⟨rfl, rfl, rfl, Nat.le_refl _, fun _ _ => rfl⟩⟩
    · have c1b : decide (g < gen) = false := decide_eq_false c1
      by_cases c2 : gen < g
      · have c2b : decide (gen < g) = true := decide_eq_true c2
        have hr : Aside0 (r = 2) := ⟨by rw [HR.out, if_neg c1, if_pos c2]⟩
        clear c1 c2
        go_quiet ((go_at_call 21; exact Calls.quiet_of_same (G _)))
        go_wp2
        obtain ⟨w4, hw4⟩ : ∃ w4, w4 = w3.drewN nq := ⟨_, rfl⟩
        rw [← hw4]
        have hg4 : w4.cell? ⟨w2.heap.size, 0, none⟩ = some (.int .i64 gen) := by rw [hw4]; exact hg3
        have ht4 : w4.cell? ⟨w2.heap.size, 1, none⟩ = some (.bool tk) := by rw [hw4]; exact ht3
        have B4 := Aside0.mk (show Below w.heap.size w w4 from by rw [hw4]; exact B3.out.trans ⟨rfl, rfl, rfl, Nat.le_refl _, fun _ _ => rfl⟩)
        clear hw4 hg3 ht3 B3
        go_quiet ((go_at_call 21; exact Calls.quiet_of_same (G _)))
        go_wp2
        go_ret
        exact ⟨by rw [hr.out]; rfl, B4.out.trans ⟨rfl, rfl, rfl, Nat.le_refl _, fun _ _ => rfl⟩⟩
      · have c2b : decide (gen < g) = false := decide_eq_false c2
        have hr : Aside0 (r = if tk = true then 0 else 2) := ⟨by rw [HR.out, if_neg c1, if_neg c2]⟩
        clear c1 c2
        go_quiet ((go_at_call 21; exact Calls.quiet_of_same (G _)))
        go_wp2
        obtain ⟨w4, hw4⟩ : ∃ w4, w4 = w3.drewN nq := ⟨_, rfl⟩
        rw [← hw4]
        have hg4 : w4.cell? ⟨w2.heap.size, 0, none⟩ = some (.int .i64 gen) := by rw [hw4]; exact hg3
        have ht4 : w4.cell? ⟨w2.heap.size, 1, none⟩ = some (.bool tk) := by rw [hw4]; exact ht3
        have B4 := Aside0.mk (show Below w.heap.size w w4 from by rw [hw4]; exact B3.out.trans ⟨rfl, rfl, rfl, Nat.le_refl _, fun _ _ => rfl⟩)
        clear hw4 hg3 ht3 B3
        cases tk
        all_goals
          go_quiet ((go_at_call 21; exact Calls.quiet_of_same (G _)))
          go_wp2
          go_ret
          exact ⟨by rw [hr.out]; rfl, B4.out.trans ⟨rfl, rfl, rfl, Nat.le_refl _, fun _ _ => rfl⟩⟩

/-- what Is tells, in one contract. -/
theorem is_calls (t s : Nat) (l : List (Int × Bool)) (n : Int) (w : World) (h : Tab w t s l) (h0 : 0 ≤ n) (h1 : n < 4294967296) (hp0 : 0 ≤ plOf n) :
    Calls Try.prog 36 #[.pointer (some ⟨t, 0, none⟩), .int .u32 n] w fun e w' => e = .returned (.int .i64 (isOf l n)) ∧ Below w.heap.size w w' := by
  by_cases hp : (l.length : Int) ≤ plOf n
  · refine (is_far t s l n w h h0 h1 hp).mono ?_
    rintro e w' ⟨rfl, ⟨m, rfl⟩⟩
    exact ⟨by unfold isOf; rw [if_pos hp], ⟨rfl, rfl, rfl, Nat.le_refl _, fun _ _ => rfl⟩⟩
  · exact is_near t s l n w (plOf n).toNat (geOf n) _ _ h h0 h1 (by omega) (by omega) rfl rfl rfl

set_option maxHeartbeats 1000000 in
theorem give_no (t s : Nat) (l : List (Int × Bool)) (n : Int) (w : World) (r : Int) (h : Tab w t s l) (h0 : 0 ≤ n) (h1 : n < 4294967296) (hp0 : 0 ≤ plOf n) (hr : isOf l n = r) (hne : r ≠ 0) :
    Calls Try.prog 37 #[.pointer (some ⟨t, 0, none⟩), .int .u32 n] w fun e w' => e = .returned (.int .i64 r) ∧ Below w.heap.size w w' := by
  have I := is_calls t s l n w h h0 h1 hp0
  rw [hr] at I
  clear h hr
  have hb : (r != 0) = true := bne_iff_ne.2 hne
  have hb' : (r == 0) = false := beq_eq_false_iff_ne.2 hne
  go_enter Try.func37, Try.ntmps37
  go_wp2_with (go_at_call 36; refine I.mono ?_; rintro e w' ⟨rfl, hB⟩)
  go_ret
  exact ⟨rfl, hB⟩

set_option maxHeartbeats 1000000 in
theorem give_yes (t s : Nat) (l : List (Int × Bool)) (n : Int) (w : World) (p : Nat) (g : Int) (h : Tab w t s l) (h0 : 0 ≤ n) (h1 : n < 4294967296) (hr : isOf l n = 0) (hpl : plOf n = p) (hp : p < l.length) (hge : geOf n = g) (hg0 : 0 ≤ g) (hg1 : g < 16777216) :
    Calls Try.prog 37 #[.pointer (some ⟨t, 0, none⟩), .int .u32 n] w fun e w' => e = .returned (.int .i64 0) ∧ Only w w' s ∧ Tab w' t s (l.set p ((g + 1) % 16777216, false)) := by
  have I := is_calls t s l n w h h0 h1 (by omega)
  rw [hr] at I
  have P := fun w => place_calls n w h0 h1
  have G := fun w => gen_calls n w h0 h1
  rw [hpl] at P
  rw [hge] at G
  clear hr hpl hge
  go_enter Try.func37, Try.ntmps37
  go_wp2_with (go_at_call 36; refine I.mono ?_; rintro e w' ⟨rfl, hB⟩)
  have ht2 : Tab w' t s l := h.of_heap (hB.block _ h.lt_t) (hB.block _ h.lt_s)
  have hc := ht2.cell_t
  have hlen := ht2.len
  have hcg := ht2.cell_gen hp
  have hct := ht2.cell_taken hp
  have hz1 := ht2.unfrozen (p * 2)
  have hz2 := ht2.unfrozen (p * 2 + 1)
  have hg0' : 0 ≤ g + 1 := by omega
  go_still_tail 12, (by kernel_rfl)
  still_call (P _)
  repeat still_step
  still_call (G _)
  repeat still_step
  refine wpStill_nil ?_
  change wpList _ _ _ _ _ w'.drew
  have hc' : w'.drew.cell? ⟨t, 0, none⟩ = some (.slice (some ⟨s, 0, none⟩) l.length l.length) := hc
  have hcg' : w'.drew.cell? ⟨s, p * 2, none⟩ = some (.int .i64 (l.getD p (0, false)).1) := hcg
  have hct' : w'.drew.cell? ⟨s, p * 2 + 1, none⟩ = some (.bool (l.getD p (0, false)).2) := hct
  have HO := Aside0.mk (Only.of_below s hB)
  have HT := Aside0.mk (ht2.put hp ((g + 1) % 16777216) false)
  clear hB ht2 I h
  go_wp2
  go_ret
  exact ⟨rfl, ((HO.out.set _ _).set _ _).drew, HT.out.of_heap rfl rfl⟩
end Go.Proofs.Ytjihjmanndhdhaa.Ids
