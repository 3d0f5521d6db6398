/- The lock by tickets (package turn) in memory, and what New, Draw, Has, Free, Leave, Ahead, Len do to it: for all locks of fewer than 1000 tickets. -/
import Derived.Test.YtjihjmanndhdhaaRows
import Derived.Maps.OwnSet
import Derived.Maps.RangeWalk
import Derived.WalkKit
import Derived.Below
import Derived.KernelRfl
import Derived.Deep.QuietTactic
import Derived.BigQuiet
namespace Go.Proofs.Ytjihjmanndhdhaa.Turn
open Go.RowKit Go.Maps

theorem law3 : Keyed Try.prog 3 := int_keyed Try.underlying3
theorem zero27 (w : World) : (zeroValue 27).run Try.prog w = .ok (.int .u32 0) w := by kernel_rfl

/-- the map that is read as D holds just q. -/
structure MapIs (D : DataW Unit) (q : List (Int × Nat)) : Prop where
  tidy : Tidy D
  size : Maps.size D = q.length
  has : ∀ x : Int, Maps.has D (.int .i64 x) = q.any (fun p => p.1 == x)
  at_ : ∀ (x : Int) (c : Nat), (x, c) ∈ q → ∀ z, D.atKey (.int .i64 x) z = .lit (.int .u32 c)

theorem MapIs.nil : MapIs (.map []) [] := ⟨tidy_empty, rfl, fun _ => rfl, fun _ _ h => by cases h⟩

theorem key_ne {x y : Int} (h : x ≠ y) : Lit.int .i64 x ≠ Lit.int .i64 y := fun e => h (by injection e)

theorem MapIs.put {D : DataW Unit} {q : List (Int × Nat)} (h : MapIs D q) {x : Int} (c : Nat) (hn : q.any (fun p => p.1 == x) = false) : MapIs (D.put (.int .i64 x) (.lit (.int .u32 c))) (q ++ [(x, c)]) := by
  have hk : WideAt.IsKeyLit (.int .i64 x) := trivial
  refine ⟨h.tidy.put hk _, ?_, ?_, ?_⟩
  · rw [size_put h.tidy, h.has, hn, h.size]; simp
  · intro y
    by_cases e : y = x
    · subst e; rw [has_put_same h.tidy.isMap hk]; simp
    · rw [has_put_other (key_ne e), h.has, List.any_append]
      simp [Ne.symm e]
  · intro y d hy z
    rcases List.mem_append.1 hy with hy1 | hy1
    · have : y ≠ x := by
        intro e
        subst e
        have h1 := List.any_eq_false.1 hn _ hy1
        simp at h1
      rw [atKey_put_other (key_ne this)]
      exact h.at_ y d hy1 z
    · simp only [List.mem_singleton, Prod.mk.injEq] at hy1
      obtain ⟨rfl, rfl⟩ := hy1
      exact atKey_put_same h.tidy.isMap hk _ z

theorem len_drop : ∀ (q : List (Int × Nat)) (x : Int), (q.map (·.1)).Nodup → q.any (fun p => p.1 == x) = true → (q.filter (fun p => !(p.1 == x))).length + 1 = q.length
  | [], x, _, hx => by simp at hx
  | p :: t, x, hnd, hx => by
    have hnd' : p.1 ∉ t.map (·.1) ∧ (t.map (·.1)).Nodup := by simpa using hnd
    by_cases e : p.1 = x
    · subst e
      have : t.filter (fun r => !(r.1 == p.1)) = t := by
        rw [List.filter_eq_self]
        intro r hr
        have : r.1 ≠ p.1 := fun e => hnd'.1 (e ▸ List.mem_map_of_mem hr)
        simp [this]
      simp [this]
    · have hx' : t.any (fun p => p.1 == x) = true := by simpa [e] using hx
      have := len_drop t x hnd'.2 hx'
      simp [e]
      omega

theorem MapIs.del {D : DataW Unit} {q : List (Int × Nat)} (h : MapIs D q) (x : Int) (hnd : (q.map (·.1)).Nodup) (hx : q.any (fun p => p.1 == x) = true) : MapIs (D.del (.int .i64 x)) (q.filter (fun p => !(p.1 == x))) := by
  refine ⟨h.tidy.del _, ?_, ?_, ?_⟩
  · have := size_del (k := .int .i64 x) h.tidy
    rw [h.has, hx, h.size] at this
    have := len_drop q x hnd hx
    simp at *
    omega
  · intro y
    by_cases e : y = x
    · subst e
      rw [has_del_same]
      symm
      rw [List.any_eq_false]
      intro p hp
      have := (List.mem_filter.1 hp).2
      simpa using this
    · rw [has_del_other (key_ne e), h.has]
      apply Bool.eq_iff_iff.2
      simp only [List.any_eq_true, List.mem_filter]
      constructor
      · rintro ⟨p, hp, h1⟩
        refine ⟨p, ⟨hp, ?_⟩, h1⟩
        have : p.1 = y := by simpa using h1
        simp [this, e]
      · rintro ⟨p, ⟨hp, _⟩, h1⟩
        exact ⟨p, hp, h1⟩
  · intro y d hy z
    obtain ⟨hy, hne⟩ := List.mem_filter.1 hy
    have : y ≠ x := by simpa using hne
    rw [atKey_del_other (key_ne this)]
    exact h.at_ y d hy z

/-- of what was there only blocks of S may have turned. -/
structure Frm (w w' : World) (S : Nat → Prop) : Prop where
  os : w'.os = w.os
  tape : w'.tape = w.tape
  output : w'.output = w.output
  size : w.heap.size ≤ w'.heap.size
  block : ∀ k, k < w.heap.size → ¬ S k → w'.heap[k]? = w.heap[k]?

theorem Frm.refl (w : World) (S : Nat → Prop) : Frm w w S := ⟨rfl, rfl, rfl, Nat.le_refl _, fun _ _ _ => rfl⟩
theorem Frm.of_below {w w' : World} (S : Nat → Prop) (h : Below w.heap.size w w') : Frm w w' S := ⟨h.os, h.tape, h.output, h.size, fun k hk _ => h.block k hk⟩
theorem Frm.trans {a b c : World} {S : Nat → Prop} (h : Frm a b S) (k : Frm b c S) : Frm a c S :=
  ⟨k.os.trans h.os, k.tape.trans h.tape, k.output.trans h.output, Nat.le_trans h.size k.size, fun i hi hn => (k.block i (Nat.lt_of_lt_of_le hi h.size) hn).trans (h.block i hi hn)⟩
theorem Frm.drew {a b : World} {S : Nat → Prop} (h : Frm a b S) : Frm a b.drew S := ⟨h.os, h.tape, h.output, h.size, h.block⟩
theorem Frm.drewN {a b : World} {S : Nat → Prop} (h : Frm a b S) (n : Nat) : Frm a (b.drewN n) S := ⟨h.os, h.tape, h.output, h.size, h.block⟩
theorem Frm.set {w w' : World} {S : Nat → Prop} (h : Frm w w' S) {s : Nat} (hs : S s) (o : Nat) (v : Value) : Frm w (w'.setCell ⟨s, o, none⟩ v) S :=
  ⟨h.os, h.tape, h.output, by simpa using h.size, fun k hk hne => by rw [Below.heap_setCell _ _ _ _ (fun e => hne (by rw [e]; exact hs))]; exact h.block k hk hne⟩
theorem Frm.turned {w w' w2 : World} {S : Nat → Prop} (h : Frm w w' S) {m : Nat} (hm : S m) (ht : w'.mapTurned w2 m) : Frm w w2 S := by
  obtain ⟨es, clock, es', clock', hb, rfl⟩ := ht
  refine ⟨h.os, h.tape, h.output, by simpa [ChangeMaps.setBlock] using h.size, fun k hk hne => ?_⟩
  have e : (ChangeMaps.setBlock w' m (.map es' clock')).heap[k]? = w'.heap[k]? := by
    simp only [ChangeMaps.setBlock, Array.getElem?_setIfInBounds]
    rw [if_neg (fun e => hne (by rw [← e]; exact hm))]
  exact e.trans (h.block k hk hne)
theorem Frm.grown {w w' w2 : World} {S : Nat → Prop} {row : Option Nat} (h : Frm w w' S) (hg : w'.grownBy w2 row) (hr : ∀ k, row = some k → w.heap.size ≤ k ∨ S k) : Frm w w2 S :=
  ⟨hg.os.trans h.os, hg.tape.trans h.tape, hg.output.trans h.output, Nat.le_trans h.size hg.size, fun k hk hne => by
    rw [hg.block k (Nat.lt_of_lt_of_le hk h.size) (fun e => by rcases hr k e.symm with h1 | h1; omega; exact hne h1)]
    exact h.block k hk hne⟩
/-- what is older than S has not turned. -/
theorem Frm.below {B : Nat} {a w w' : World} {S : Nat → Prop} (hb : Below B a w) (h : Frm w w' S) (hs : ∀ k, S k → B ≤ k) (hB : B ≤ w.heap.size) : Below B a w' :=
  ⟨h.os.trans hb.os, h.tape.trans hb.tape, h.output.trans hb.output, Nat.le_trans hb.size h.size, fun k hk => (h.block k (by omega) (fun e => by have := hs k e; omega)).trans (hb.block k hk)⟩

/-- the ticket that is served. -/
def serves (next : Nat) (q : List (Int × Nat)) : Nat := (q.head?.map (·.2)).getD next

/-- what may be in a lock. -/
structure Good (next : Nat) (q : List (Int × Nat)) : Prop where
  nodup : (q.map (·.1)).Nodup
  sorted : q.Pairwise (fun a b => a.2 < b.2)
  lt : ∀ p ∈ q, p.2 < next
  few : q.length ≤ 64
  who : ∀ p ∈ q, 0 ≤ p.1 ∧ p.1 < 256
  bound : next ≤ 1000

/-- a lock in memory: block t the three fields, block m the map. -/
structure Lk (w : World) (t m : Nat) (next : Nat) (q : List (Int × Nat)) : Prop where
  ne : t ≠ m
  ht : w.heap[t]? = some (.cells #[.int .u32 next, .int .u32 (serves next q), .map (some m)] 50 (0, 0))
  map : ∃ D, MapIs D q ∧ w.ownsMap Try.prog 3 (plainElem Try.prog 27) m next D
  good : Good next q

theorem Lk.c0 {w : World} {t m next : Nat} {q : List (Int × Nat)} (h : Lk w t m next q) : w.cell? ⟨t, 0, none⟩ = some (.int .u32 next) := by simp [World.cell?, h.ht]
theorem Lk.c1 {w : World} {t m next : Nat} {q : List (Int × Nat)} (h : Lk w t m next q) : w.cell? ⟨t, 1, none⟩ = some (.int .u32 (serves next q)) := by simp [World.cell?, h.ht]
theorem Lk.c2 {w : World} {t m next : Nat} {q : List (Int × Nat)} (h : Lk w t m next q) : w.cell? ⟨t, 2, none⟩ = some (.map (some m)) := by simp [World.cell?, h.ht]
theorem Lk.fz {w : World} {t m next : Nat} {q : List (Int × Nat)} (h : Lk w t m next q) (o : Nat) : w.frozen? ⟨t, o, none⟩ = false := by simp [World.frozen?, h.ht]
theorem Lk.lt_t {w : World} {t m next : Nat} {q : List (Int × Nat)} (h : Lk w t m next q) : t < w.heap.size := (Array.getElem?_eq_some_iff.1 h.ht).1
theorem Lk.lt_m {w : World} {t m next : Nat} {q : List (Int × Nat)} (h : Lk w t m next q) : m < w.heap.size := by obtain ⟨D, _, hD⟩ := h.map; exact hD.lt

theorem Lk.of_frm {w w' : World} {t m next : Nat} {q : List (Int × Nat)} {S : Nat → Prop} (h : Lk w t m next q) (hf : Frm w w' S) (ht : ¬ S t) (hm : ¬ S m) : Lk w' t m next q := by
  refine ⟨h.ne, by rw [hf.block t h.lt_t ht]; exact h.ht, ?_, h.good⟩
  obtain ⟨D, h1, es, clock, hb, rest⟩ := h.map
  exact ⟨D, h1, es, clock, by rw [hf.block m h.lt_m hm]; exact hb, rest⟩

set_option maxHeartbeats 400000 in
theorem new_calls (w : World) : Calls Try.prog 28 #[] w fun e w' => e = .returned (.pointer (some ⟨w.heap.size + 1, 0, none⟩)) ∧ Lk w' (w.heap.size + 1) w.heap.size 0 [] ∧ Below w.heap.size w w' := by
  have hmm := @run_makeMap Try.prog
  go_enter Try.func28, Try.ntmps28
  go_wp2
  go_ret
  refine ⟨rfl, ⟨by omega, ?_, ⟨_, MapIs.nil, (World.ownsMap_made w _ _ _).kept (World.grownBy_alloc _ _ none) (by simp)⟩, ⟨by simp, by simp, by simp, by simp, by simp, by omega⟩⟩, ((Below.refl _ _).alloc (Nat.le_refl _) _).alloc (by simp) _⟩
  show ((w.heap.push _).push _)[_]? = _
  rw [show w.heap.size + 1 = (w.heap.push (Obj.map #[] 0)).size by simp, Array.getElem?_push_size]
  rfl

set_option maxHeartbeats 400000 in
theorem len_calls (t m next : Nat) (q : List (Int × Nat)) (w : World) (h : Lk w t m next q) : Calls Try.prog 33 #[.pointer (some ⟨t, 0, none⟩)] w fun e w' => e = .returned (.int .i64 q.length) ∧ w' = w := by
  have c2 := h.c2
  obtain ⟨D, hD, hown⟩ := h.map
  go_enter Try.func33, Try.ntmps33
  go_wp2_with (at_len; refine wpList_len_own _ rfl _ _ rfl 3 27 Try.underlying48 _ m next D rfl hown ?_)
  go_ret
  exact ⟨by rw [hD.size]; rfl, rfl⟩

theorem atKey_inj {x : Int} {c : Int} {c' : Nat} {D : DataW Unit} {z : DataW Unit} (h1 : D.atKey (.int .i64 x) z = .lit (.int .u32 c')) (h2 : D.atKey (.int .i64 x) z = .lit (.int .u32 c)) : c = c' := by
  rw [h1] at h2
  injection h2 with e
  injection e with _ e2
  exact e2.symm

/-- is it somebody's turn? -/
def first (q : List (Int × Nat)) (x : Int) : Bool := match q with
  | [] => false
  | p :: _ => p.1 == x

theorem first_in {next : Nat} {q : List (Int × Nat)} (g : Good next q) {x : Int} {c : Nat} (h : (x, c) ∈ q) : first q x = ((c : Int) == (serves next q : Int)) := by
  cases q with
  | nil => cases h
  | cons p t =>
    have hs : ∀ r ∈ t, p.2 < r.2 := (List.pairwise_cons.1 g.sorted).1
    have hn : ∀ r ∈ t, p.1 ≠ r.1 := by
      have := (List.nodup_cons.1 (by simpa using g.nodup : (p.1 :: t.map (·.1)).Nodup)).1
      intro r hr e
      exact this (e ▸ List.mem_map_of_mem hr)
    rcases List.mem_cons.1 h with rfl | h1
    · simp [first, serves]
    · have a := hs _ h1
      have b := hn _ h1
      have e1 : (p.1 == x) = false := by simpa using b
      have e2 : ((c : Int) == (p.2 : Int)) = false := by
        have : (c : Int) ≠ (p.2 : Int) := by simp at a; omega
        simpa using this
      simp [first, serves, e1, e2]

theorem first_out {q : List (Int × Nat)} {x : Int} (h : q.any (fun p => p.1 == x) = false) : first q x = false := by
  cases q with
  | nil => rfl
  | cons p t =>
    have := List.any_eq_false.1 h p (by simp)
    simpa [first] using this

theorem in_or_out (q : List (Int × Nat)) (x : Int) : (∃ c, (x, c) ∈ q) ∨ q.any (fun p => p.1 == x) = false := by
  by_cases h : q.any (fun p => p.1 == x) = true
  · obtain ⟨p, hp, e⟩ := List.any_eq_true.1 h
    have : p.1 = x := by simpa using e
    subst this
    exact .inl ⟨p.2, hp⟩
  · exact .inr (eq_false_of_ne_true h)

theorem any_in {q : List (Int × Nat)} {x : Int} {c : Nat} (h : (x, c) ∈ q) : q.any (fun p => p.1 == x) = true :=
  List.any_eq_true.2 ⟨(x, c), h, by simp⟩

set_option maxHeartbeats 400000 in
theorem has_in (t m next : Nat) (q : List (Int × Nat)) (x : Int) (c : Nat) (w : World) (h : Lk w t m next q) (hx : (Lit.int .i64 x).wf = true) (hm : (x, c) ∈ q) :
    Calls Try.prog 30 #[.pointer (some ⟨t, 0, none⟩), .int .i64 x] w fun e w' => e = .returned (.bool (first q x)) ∧ w' = w := by
  rw [first_in h.good hm]
  have c1 := h.c1
  have c2 := h.c2
  have hlt : c < next := h.good.lt _ hm
  have hb := h.good.bound
  obtain ⟨D, hD, hown⟩ := h.map
  have hH : Maps.has D (.int .i64 x) = true := by rw [hD.has]; exact any_in hm
  have HA : Hid (∀ z, D.atKey (.int .i64 x) z = .lit (.int .u32 c)) := hD.at_ x c hm
  have hkey := keyOf_int_mk (P := Try.prog) Try.underlying3 hx
  clear h hD
  generalize serves next q = sv at *
  go_enter Try.func30, Try.ntmps30
  go_wp2_with (at_lookup; refine wpList_lookup_own_ok_int _ rfl _ _ 48 rfl 3 27 .u32 law3 Try.underlying48 Try.underlying27 (zero27 _) m next D rfl hown _ _ rfl hkey ?_; intro d hat hwd; obtain rfl : d = (c : Int) := atKey_inj (HA.out _) hat; clear hat)
  go_ret
  exact ⟨rfl, rfl⟩

set_option maxHeartbeats 400000 in
theorem has_out (t m next : Nat) (q : List (Int × Nat)) (x : Int) (w : World) (h : Lk w t m next q) (hx : (Lit.int .i64 x).wf = true) (hm : q.any (fun p => p.1 == x) = false) :
    Calls Try.prog 30 #[.pointer (some ⟨t, 0, none⟩), .int .i64 x] w fun e w' => e = .returned (.bool (first q x)) ∧ w' = w := by
  rw [first_out hm]
  have c1 := h.c1
  have c2 := h.c2
  obtain ⟨D, hD, hown⟩ := h.map
  have hH : Maps.has D (.int .i64 x) = false := by rw [hD.has]; exact hm
  have hkey := keyOf_int_mk (P := Try.prog) Try.underlying3 hx
  clear h hD
  generalize serves next q = sv at *
  go_enter Try.func30, Try.ntmps30
  go_wp2_with (at_lookup; refine wpList_lookup_own_ok_int _ rfl _ _ 48 rfl 3 27 .u32 law3 Try.underlying48 Try.underlying27 (zero27 _) m next D rfl hown _ _ rfl hkey ?_; intro d hat hwd; clear hat)
  go_ret
  exact ⟨rfl, rfl⟩

theorem has_calls (t m next : Nat) (q : List (Int × Nat)) (x : Int) (w : World) (h : Lk w t m next q) (hx : (Lit.int .i64 x).wf = true) :
    Calls Try.prog 30 #[.pointer (some ⟨t, 0, none⟩), .int .i64 x] w fun e w' => e = .returned (.bool (first q x)) ∧ w' = w := by
  rcases in_or_out q x with ⟨c, hc⟩ | hc
  · exact has_in t m next q x c w h hx hc
  · exact has_out t m next q x w h hx hc

theorem owns_block {w w1 : World} {m n : Nat} {D : DataW Unit} (h : w.ownsMap Try.prog 3 (plainElem Try.prog 27) m n D) (hb : w1.heap[m]? = w.heap[m]?) : w1.ownsMap Try.prog 3 (plainElem Try.prog 27) m n D := by
  obtain ⟨es, clock, h1, rest⟩ := h
  exact ⟨es, clock, by rw [hb]; exact h1, rest⟩

theorem heap_set {w : World} {s : Nat} {c : Array Value} {e : TypeId} {fz : Nat × Nat} (o : Nat) (v : Value) (h : w.heap[s]? = some (.cells c e fz)) : (w.setCell ⟨s, o, none⟩ v).heap[s]? = some (.cells (c.setIfInBounds o v) e fz) := by
  simp only [World.setCell, Array.getElem?_modify, if_true, h]
  rfl

theorem heap_set_ne {w : World} {s k : Nat} (o : Nat) (v : Value) (h : k ≠ s) : (w.setCell ⟨s, o, none⟩ v).heap[k]? = w.heap[k]? := Below.heap_setCell _ _ _ _ h

theorem turned_block {w w1 : World} {m : Nat} (h : w.mapTurned w1 m) {k : Nat} (hk : k ≠ m) : w1.heap[k]? = w.heap[k]? := by
  obtain ⟨es, clock, es', clock', hb, rfl⟩ := h
  simp only [ChangeMaps.setBlock, Array.getElem?_setIfInBounds]
  rw [if_neg (Ne.symm hk)]

theorem turned_cell {w w1 : World} {m : Nat} (h : w.mapTurned w1 m) {a : Addr} (ha : a.block ≠ m) : w1.cell? a = w.cell? a := World.cell?_of_block (w := w) (turned_block h ha)
theorem turned_frozen {w w1 : World} {m : Nat} (h : w.mapTurned w1 m) {a : Addr} (ha : a.block ≠ m) : w1.frozen? a = w.frozen? a := World.frozen?_of_block (w := w) (turned_block h ha)

set_option maxHeartbeats 400000 in
theorem draw_busy (t m next : Nat) (q : List (Int × Nat)) (x : Int) (w : World) (h : Lk w t m next q) (hx : (Lit.int .i64 x).wf = true) (hm : q.any (fun p => p.1 == x) = true) :
    Calls Try.prog 29 #[.pointer (some ⟨t, 0, none⟩), .int .i64 x] w fun e w' => e = .returned (.tuple #[.int .u32 0, .int .i64 5]) ∧ w' = w := by
  have c2 := h.c2
  obtain ⟨D, hD, hown⟩ := h.map
  have hH : Maps.has D (.int .i64 x) = true := by rw [hD.has]; exact hm
  have hkey := keyOf_int_mk (P := Try.prog) Try.underlying3 hx
  clear h hD
  go_enter Try.func29, Try.ntmps29
  go_wp2_with (at_lookup; refine wpList_lookup_own_ok_int _ rfl _ _ 48 rfl 3 27 .u32 law3 Try.underlying48 Try.underlying27 (zero27 _) m next D rfl hown _ _ rfl hkey ?_; intro d hat hwd; clear hat)
  go_ret2
  exact ⟨rfl, rfl⟩

set_option maxHeartbeats 400000 in
theorem draw_arg (t m next : Nat) (q : List (Int × Nat)) (x : Int) (w : World) (h : Lk w t m next q) (hx : (Lit.int .i64 x).wf = true) (hm : q.any (fun p => p.1 == x) = false) (hr : x < 0 ∨ 256 ≤ x) :
    Calls Try.prog 29 #[.pointer (some ⟨t, 0, none⟩), .int .i64 x] w fun e w' => e = .returned (.tuple #[.int .u32 0, .int .i64 1]) ∧ w' = w := by
  have c2 := h.c2
  obtain ⟨D, hD, hown⟩ := h.map
  have hH : Maps.has D (.int .i64 x) = false := by rw [hD.has]; exact hm
  have hkey := keyOf_int_mk (P := Try.prog) Try.underlying3 hx
  clear h hD
  have hr' : x < 0 ∨ (0 ≤ x ∧ 256 ≤ x) := by omega
  clear hr
  rcases hr' with hr | ⟨hr0, hr1⟩
  all_goals
    go_enter Try.func29, Try.ntmps29
    go_wp2_with (at_lookup; refine wpList_lookup_own_ok_int _ rfl _ _ 48 rfl 3 27 .u32 law3 Try.underlying48 Try.underlying27 (zero27 _) m next D rfl hown _ _ rfl hkey ?_; intro d hat hwd; clear hat)
    go_ret2
    exact ⟨rfl, rfl⟩

set_option maxHeartbeats 400000 in
theorem draw_full (t m next : Nat) (q : List (Int × Nat)) (x : Int) (w : World) (h : Lk w t m next q) (hx : (Lit.int .i64 x).wf = true) (hm : q.any (fun p => p.1 == x) = false) (h0 : 0 ≤ x) (h1 : x < 256) (hf : q.length = 64) :
    Calls Try.prog 29 #[.pointer (some ⟨t, 0, none⟩), .int .i64 x] w fun e w' => e = .returned (.tuple #[.int .u32 0, .int .i64 3]) ∧ w' = w := by
  have c2 := h.c2
  obtain ⟨D, hD, hown⟩ := h.map
  have hH : Maps.has D (.int .i64 x) = false := by rw [hD.has]; exact hm
  have hS : Maps.size D = 64 := by rw [hD.size]; exact hf
  have hkey := keyOf_int_mk (P := Try.prog) Try.underlying3 hx
  clear h hD hf
  go_enter Try.func29, Try.ntmps29
  go_wp2_with (first
    | (at_lookup; refine wpList_lookup_own_ok_int _ rfl _ _ 48 rfl 3 27 .u32 law3 Try.underlying48 Try.underlying27 (zero27 _) m next D rfl hown _ _ rfl hkey ?_; intro d hat hwd; clear hat)
    | (at_len; refine wpList_len_own _ rfl _ _ rfl 3 27 Try.underlying48 _ m next D rfl hown ?_; rw [hS]))
  go_ret2
  exact ⟨rfl, rfl⟩

theorem Good.push {next : Nat} {q : List (Int × Nat)} (g : Good next q) {x : Int} (hm : q.any (fun p => p.1 == x) = false) (h0 : 0 ≤ x) (h1 : x < 256) (hf : q.length < 64) (hb : next < 1000) : Good (next + 1) (q ++ [(x, next)]) := by
  refine ⟨?_, ?_, ?_, by simp; omega, ?_, by omega⟩
  · rw [List.map_append, List.nodup_append]
    refine ⟨g.nodup, by simp, ?_⟩
    intro a ha b hb
    simp only [List.map_cons, List.map_nil, List.mem_singleton] at hb
    subst hb
    obtain ⟨p, hp, rfl⟩ := List.mem_map.1 ha
    have := List.any_eq_false.1 hm p hp
    simpa using this
  · rw [List.pairwise_append]
    refine ⟨g.sorted, by simp, ?_⟩
    intro a ha b hb
    simp only [List.mem_singleton] at hb
    subst hb
    exact g.lt a ha
  · intro p hp
    rcases List.mem_append.1 hp with hp | hp
    · have := g.lt p hp; omega
    · simp only [List.mem_singleton] at hp; subst hp; simp
  · intro p hp
    rcases List.mem_append.1 hp with hp | hp
    · exact g.who p hp
    · simp only [List.mem_singleton] at hp; subst hp; exact ⟨h0, h1⟩

theorem serves_push (next : Nat) (q : List (Int × Nat)) (x : Int) : serves (next + 1) (q ++ [(x, next)]) = serves next q := by
  cases q <;> simp [serves]

set_option maxHeartbeats 400000 in
theorem draw_ok (t m next : Nat) (q : List (Int × Nat)) (x : Int) (w : World) (h : Lk w t m next q) (hx : (Lit.int .i64 x).wf = true) (hm : q.any (fun p => p.1 == x) = false) (h0 : 0 ≤ x) (h1 : x < 256) (hf : q.length < 64) (hb : next < 1000) :
    Calls Try.prog 29 #[.pointer (some ⟨t, 0, none⟩), .int .i64 x] w fun e w' => e = .returned (.tuple #[.int .u32 next, .int .i64 0]) ∧ Lk w' t m (next + 1) (q ++ [(x, next)]) ∧ Frm w w' (fun k => k = t ∨ k = m) := by
  have c0 := h.c0
  have c2 := h.c2
  have f0 := h.fz 0
  have hne := h.ne
  have hbk := h.ht
  have hg := h.good
  obtain ⟨D, hD, hown⟩ := h.map
  have hH : Maps.has D (.int .i64 x) = false := by rw [hD.has]; exact hm
  obtain ⟨sz, hsz⟩ : ∃ sz : Nat, Maps.size D = sz ∧ sz < 64 := ⟨q.length, hD.size, hf⟩
  obtain ⟨hS, hS1⟩ := hsz
  have hkey := keyOf_int_mk (P := Try.prog) Try.underlying3 hx
  have hwv : (Lit.int .u32 (next : Int)).wf = true := by simp [Lit.wf, IntKind.min, IntKind.max, IntKind.signed, IntKind.bits]; omega
  have HD : Hid (MapIs D q) := hD
  have HG : Hid (Good next q) := hg
  have HK : Hid (w.heap[t]? = some (.cells #[.int .u32 next, .int .u32 (serves next q), .map (some m)] 50 (0, 0))) := hbk
  have HM : Hid (q.any (fun p => p.1 == x) = false) := hm
  clear h hD hg hbk hm
  go_enter Try.func29, Try.ntmps29
  go_wp2_with (first
    | (at_lookup; refine wpList_lookup_own_ok_int _ rfl _ _ 48 rfl 3 27 .u32 law3 Try.underlying48 Try.underlying27 (zero27 _) m next D rfl hown _ _ rfl hkey ?_; intro d hat hwd; clear hat)
    | (at_len; refine wpList_len_own _ rfl _ _ rfl 3 27 Try.underlying48 _ m next D rfl hown ?_; rw [hS])
    | (at_mapUpdate; refine wpList_mapUpdate_in _ rfl _ _ _ 48 rfl 3 27 law3 Try.underlying48 _ m next D rfl hown (by unfold maxLen; omega) _ _ _ rfl rfl hkey _ [] (plainElem_int Try.underlying27 hwv) ?_; intro w1 hown1 hturn1; have c0' := (turned_cell hturn1 (a := ⟨t, 0, none⟩) hne).trans c0; have f0' := (turned_frozen hturn1 (a := ⟨t, 0, none⟩) hne).trans f0))
  go_ret2
  refine ⟨rfl, ⟨hne, ?_, ⟨_, HD.out.put next HM.out, ?_⟩, HG.out.push HM.out h0 h1 hf hb⟩, ?_⟩
  · rw [heap_set _ _ ((turned_block hturn1 hne).trans HK.out), serves_push]
    simp
  · exact owns_block hown1 (heap_set_ne _ _ (Ne.symm hne))
  · exact ((Frm.refl w (fun k => k = t ∨ k = m)).turned (.inr rfl) hturn1).set (.inl rfl) _ _

/-- Draw, in one contract: what it answers, and the row behind it. -/
def drawOf (next : Nat) (q : List (Int × Nat)) (x : Int) : (Nat × Int) × Nat × List (Int × Nat) :=
  if q.any (fun p => p.1 == x) then ((0, 5), next, q)
  else if x < 0 ∨ 256 ≤ x then ((0, 1), next, q)
  else if q.length = 64 then ((0, 3), next, q)
  else ((next, 0), next + 1, q ++ [(x, next)])

theorem draw_calls (t m next : Nat) (q : List (Int × Nat)) (x : Int) (w : World) (h : Lk w t m next q) (hx : (Lit.int .i64 x).wf = true) (hb : next < 1000) :
    Calls Try.prog 29 #[.pointer (some ⟨t, 0, none⟩), .int .i64 x] w fun e w' => e = .returned (.tuple #[.int .u32 (drawOf next q x).1.1, .int .i64 (drawOf next q x).1.2]) ∧ Lk w' t m (drawOf next q x).2.1 (drawOf next q x).2.2 ∧ Frm w w' (fun k => k = t ∨ k = m) := by
  unfold drawOf
  by_cases c1 : q.any (fun p => p.1 == x) = true
  · rw [if_pos c1]
    refine (draw_busy t m next q x w h hx c1).mono ?_
    rintro e w' ⟨rfl, rfl⟩
    exact ⟨rfl, h, Frm.refl _ _⟩
  rw [if_neg c1]
  replace c1 := eq_false_of_ne_true c1
  by_cases c2 : x < 0 ∨ 256 ≤ x
  · rw [if_pos c2]
    refine (draw_arg t m next q x w h hx c1 c2).mono ?_
    rintro e w' ⟨rfl, rfl⟩
    exact ⟨rfl, h, Frm.refl _ _⟩
  rw [if_neg c2]
  by_cases c3 : q.length = 64
  · rw [if_pos c3]
    refine (draw_full t m next q x w h hx c1 (by omega) (by omega) c3).mono ?_
    rintro e w' ⟨rfl, rfl⟩
    exact ⟨rfl, h, Frm.refl _ _⟩
  rw [if_neg c3]
  have := h.good.few
  exact draw_ok t m next q x w h hx c1 (by omega) (by omega) (by omega) hb

set_option maxHeartbeats 400000 in
theorem leave_none (t m next : Nat) (q : List (Int × Nat)) (x : Int) (w : World) (h : Lk w t m next q) (hx : (Lit.int .i64 x).wf = true) (hm : q.any (fun p => p.1 == x) = false) :
    Calls Try.prog 44 #[.pointer (some ⟨t, 0, none⟩), .int .i64 x] w fun e w' => e = .returned (.int .i64 4) ∧ w' = w := by
  have c2 := h.c2
  obtain ⟨D, hD, hown⟩ := h.map
  have hH : Maps.has D (.int .i64 x) = false := by rw [hD.has]; exact hm
  have hkey := keyOf_int_mk (P := Try.prog) Try.underlying3 hx
  clear h hD
  go_enter Try.func44, Try.ntmps44
  go_wp2_with (at_lookup; refine wpList_lookup_own_ok_int _ rfl _ _ 48 rfl 3 27 .u32 law3 Try.underlying48 Try.underlying27 (zero27 _) m next D rfl hown _ _ rfl hkey ?_; intro d hat hwd; clear hat)
  go_ret
  exact ⟨rfl, rfl⟩

set_option maxHeartbeats 400000 in
theorem leave_first (t m next : Nat) (q : List (Int × Nat)) (x : Int) (w : World) (h : Lk w t m next q) (hx : (Lit.int .i64 x).wf = true) (hm : q.any (fun p => p.1 == x) = true) (hf : first q x = true) :
    Calls Try.prog 44 #[.pointer (some ⟨t, 0, none⟩), .int .i64 x] w fun e w' => e = .returned (.int .i64 5) ∧ w' = w := by
  have c2 := h.c2
  have C := has_calls t m next q x w h hx
  rw [hf] at C
  obtain ⟨D, hD, hown⟩ := h.map
  have hH : Maps.has D (.int .i64 x) = true := by rw [hD.has]; exact hm
  have hkey := keyOf_int_mk (P := Try.prog) Try.underlying3 hx
  clear h hD hf
  go_enter Try.func44, Try.ntmps44
  go_wp2_with (first
    | (at_lookup; refine wpList_lookup_own_ok_int _ rfl _ _ 48 rfl 3 27 .u32 law3 Try.underlying48 Try.underlying27 (zero27 _) m next D rfl hown _ _ rfl hkey ?_; intro d hat hwd; clear hat)
    | (go_at_call 30; refine C.mono ?_; rintro e w' ⟨rfl, rfl⟩))
  go_ret
  exact ⟨rfl, rfl⟩

/-- x goes out of the row. -/
def out (q : List (Int × Nat)) (x : Int) : List (Int × Nat) := q.filter (fun p => !(p.1 == x))

theorem Good.out {next : Nat} {q : List (Int × Nat)} (g : Good next q) (x : Int) : Good next (out q x) :=
  ⟨(g.nodup.sublist ((List.filter_sublist).map _)), g.sorted.sublist List.filter_sublist, fun p hp => g.lt p (List.mem_filter.1 hp).1, Nat.le_trans (List.length_filter_le _ _) g.few, fun p hp => g.who p (List.mem_filter.1 hp).1, g.bound⟩

theorem serves_out {next : Nat} {q : List (Int × Nat)} {x : Int} (hf : first q x = false) : serves next (out q x) = serves next q := by
  cases q with
  | nil => rfl
  | cons p t =>
    have : (p.1 == x) = false := hf
    simp [out, serves, this]

set_option maxHeartbeats 400000 in
theorem leave_ok (t m next : Nat) (q : List (Int × Nat)) (x : Int) (w : World) (h : Lk w t m next q) (hx : (Lit.int .i64 x).wf = true) (hm : q.any (fun p => p.1 == x) = true) (hf : first q x = false) :
    Calls Try.prog 44 #[.pointer (some ⟨t, 0, none⟩), .int .i64 x] w fun e w' => e = .returned (.int .i64 0) ∧ Lk w' t m next (out q x) ∧ Frm w w' (fun k => k = t ∨ k = m) := by
  have c2 := h.c2
  have C := has_calls t m next q x w h hx
  rw [hf] at C
  have hne := h.ne
  obtain ⟨D, hD, hown⟩ := h.map
  have hH : Maps.has D (.int .i64 x) = true := by rw [hD.has]; exact hm
  have hkey := keyOf_int_mk (P := Try.prog) Try.underlying3 hx
  have HD : Hid (MapIs D q) := hD
  have HL : Hid (Lk w t m next q) := h
  have HM : Hid (q.any (fun p => p.1 == x) = true) := hm
  have HF : Hid (first q x = false) := hf
  clear h hD hf hm
  go_enter Try.func44, Try.ntmps44
  go_wp2_with (first
    | (at_lookup; refine wpList_lookup_own_ok_int _ rfl _ _ 48 rfl 3 27 .u32 law3 Try.underlying48 Try.underlying27 (zero27 _) m next D rfl hown _ _ rfl hkey ?_; intro d hat hwd; clear hat)
    | (go_at_call 30; refine C.mono ?_; rintro e w' ⟨rfl, rfl⟩)
    | (at_delete; refine wpList_delete_own _ rfl _ _ 48 3 rfl 27 law3 Try.underlying48 _ m next D rfl hown _ _ rfl hkey ?_; intro w1 hown1 hturn1))
  go_ret
  refine ⟨rfl, ⟨hne, ?_, ⟨_, HD.out.del x HL.out.good.nodup HM.out, hown1⟩, HL.out.good.out x⟩, (Frm.refl _ (fun k => k = t ∨ k = m)).turned (.inr rfl) hturn1⟩
  rw [turned_block hturn1 hne, serves_out HF.out]
  exact HL.out.ht

/-- how many are served ahead. -/
def aheadOf (q : List (Int × Nat)) (c : Nat) : Nat := (q.filter (fun p => decide (p.2 < c))).length

/-- those counted so far: no longer to come. -/
def counted (q : List (Int × Nat)) (c : Nat) (left : Lit → Bool) : Nat := (q.filter (fun p => !left (.int .i64 p.1) && decide (p.2 < c))).length

theorem counted_none (q : List (Int × Nat)) (c : Nat) (left : Lit → Bool) (h : ∀ p ∈ q, left (.int .i64 p.1) = true) : counted q c left = 0 := by
  unfold counted
  rw [List.length_eq_zero_iff, List.filter_eq_nil_iff]
  intro p hp
  simp [h p hp]

theorem counted_all (q : List (Int × Nat)) (c : Nat) (left : Lit → Bool) (h : ∀ kl, left kl = false) : counted q c left = aheadOf q c := by
  unfold counted aheadOf
  congr 1
  apply List.filter_congr
  intro p _
  simp [h]

theorem same_int {x y : Int} : (Lit.int .i64 y).sameKey (.int .i64 x) = (y == x) := by
  by_cases e : y = x
  · subst e; simp [WideAt.sameKey_self (a := Lit.int .i64 y) trivial]
  · rw [sameKey_ne (key_ne e)]; simp [e]

theorem filter_step {α : Type} (f g : α → Bool) (a : α) (hf : f a = false) : ∀ l : List α, l.Nodup → a ∈ l → (∀ b ∈ l, b ≠ a → g b = f b) → (l.filter g).length = (l.filter f).length + if g a = true then 1 else 0
  | [], _, h, _ => by cases h
  | b :: t, hnd, h, hg => by
    have hnd' := List.nodup_cons.1 hnd
    by_cases e : b = a
    · subst e
      have ht : t.filter g = t.filter f := List.filter_congr fun r hr => hg r (List.mem_cons_of_mem _ hr) (fun e => hnd'.1 (e ▸ hr))
      by_cases hga : g b = true
      · rw [List.filter_cons_of_pos hga, List.filter_cons_of_neg (by simp [hf]), ht, if_pos hga, List.length_cons]
      · rw [List.filter_cons_of_neg hga, List.filter_cons_of_neg (by simp [hf]), ht, if_neg hga]; rfl
    · have hb := hg b (by simp) e
      have := filter_step f g a hf t hnd'.2 (by rcases List.mem_cons.1 h with h1 | h1; exact absurd h1.symm e; exact h1) (fun r hr => hg r (List.mem_cons_of_mem _ hr))
      by_cases hfb : f b = true
      · rw [List.filter_cons_of_pos (by rw [hb]; exact hfb), List.filter_cons_of_pos hfb, List.length_cons, List.length_cons, this]; omega
      · rw [List.filter_cons_of_neg (by rw [hb]; exact hfb), List.filter_cons_of_neg hfb, this]

theorem once : ∀ {q : List (Int × Nat)}, (q.map (·.1)).Nodup → ∀ {a b : Int × Nat}, a ∈ q → b ∈ q → a.1 = b.1 → a = b
  | [], _, _, _, h, _, _ => by cases h
  | p :: t, hnd, a, b, ha, hb, e => by
    have hnd' : p.1 ∉ t.map (·.1) ∧ (t.map (·.1)).Nodup := List.nodup_cons.1 hnd
    rcases List.mem_cons.1 ha with ha | ha <;> rcases List.mem_cons.1 hb with hb | hb
    · rw [ha, hb]
    · exact absurd (List.mem_map_of_mem (f := (·.1)) hb) (by rw [← e, ha]; exact hnd'.1)
    · exact absurd (List.mem_map_of_mem (f := (·.1)) ha) (by rw [e, hb]; exact hnd'.1)
    · exact once hnd'.2 ha hb e

theorem nodup_of_map {q : List (Int × Nat)} (h : (q.map (·.1)).Nodup) : q.Nodup := by
  induction q with
  | nil => exact List.nodup_nil
  | cons p t ih =>
    have h' : p.1 ∉ t.map (·.1) ∧ (t.map (·.1)).Nodup := List.nodup_cons.1 h
    exact List.nodup_cons.2 ⟨fun hp => h'.1 (List.mem_map_of_mem hp), ih h'.2⟩

theorem counted_step (c : Nat) (left : Lit → Bool) (x : Int) (d : Nat) (hl : left (.int .i64 x) = true) (q : List (Int × Nat)) (hnd : (q.map (·.1)).Nodup) (h : (x, d) ∈ q) :
    counted q c (fun z => left z && !z.sameKey (.int .i64 x)) = counted q c left + (if d < c then 1 else 0) := by
  unfold counted
  rw [filter_step (fun p : Int × Nat => !left (.int .i64 p.1) && decide (p.2 < c)) (fun p : Int × Nat => !(left (.int .i64 p.1) && !(Lit.int .i64 p.1).sameKey (.int .i64 x)) && decide (p.2 < c)) (x, d) (by simp [hl]) q (nodup_of_map hnd) h]
  · simp [same_int]
  · intro b hb hne
    have : b.1 ≠ x := fun e => hne (once hnd hb h e)
    have e : (b.1 == x) = false := by simpa using this
    simp only [same_int, e]
    simp

theorem counted_le (q : List (Int × Nat)) (c : Nat) (left : Lit → Bool) : counted q c left ≤ q.length := List.length_filter_le _ _

theorem serves_le {next : Nat} {q : List (Int × Nat)} (g : Good next q) {x : Int} {c : Nat} (h : (x, c) ∈ q) : serves next q ≤ c := by
  cases q with
  | nil => cases h
  | cons p t =>
    show p.2 ≤ c
    rcases List.mem_cons.1 h with rfl | h1
    · exact Nat.le_refl _
    · exact Nat.le_of_lt ((List.pairwise_cons.1 g.sorted).1 _ h1)

theorem serves_next {next : Nat} {q : List (Int × Nat)} (g : Good next q) : serves next q ≤ next := by
  cases q with
  | nil => exact Nat.le_refl _
  | cons p t => exact Nat.le_of_lt (g.lt p (by simp))

theorem at_mem {D : DataW Unit} {q : List (Int × Nat)} (h : MapIs D q) {x c : Int} (ha : ∀ z, D.atKey (.int .i64 x) z = .lit (.int .u32 c)) : ∃ d : Nat, c = d ∧ (x, d) ∈ q := by
  have hh : Maps.has D (.int .i64 x) = true := has_true_of_atKey ha
  rw [h.has] at hh
  obtain ⟨p, hp, e⟩ := List.any_eq_true.1 hh
  have e' : p.1 = x := by simpa using e
  subst e'
  exact ⟨p.2, atKey_inj (h.at_ p.1 p.2 hp (.lit (.bool true))) (ha _), hp⟩

set_option maxHeartbeats 400000 in
theorem ahead_none (t m next : Nat) (q : List (Int × Nat)) (x : Int) (w : World) (h : Lk w t m next q) (hx : (Lit.int .i64 x).wf = true) (hm : q.any (fun p => p.1 == x) = false) :
    Calls Try.prog 31 #[.pointer (some ⟨t, 0, none⟩), .int .i64 x] w fun e w' => e = .returned (.int .i64 (-1)) ∧ w' = w := by
  have c2 := h.c2
  obtain ⟨D, hD, hown⟩ := h.map
  have hH : Maps.has D (.int .i64 x) = false := by rw [hD.has]; exact hm
  have hkey := keyOf_int_mk (P := Try.prog) Try.underlying3 hx
  clear h hD
  go_enter Try.func31, Try.ntmps31
  go_wp2_with (at_lookup; refine wpList_lookup_own_ok_int _ rfl _ _ 48 rfl 3 27 .u32 law3 Try.underlying48 Try.underlying27 (zero27 _) m next D rfl hown _ _ rfl hkey ?_; intro d hat hwd; clear hat)
  go_ret
  exact ⟨rfl, rfl⟩

theorem ranges_drewN {w : World} {m r n : Nat} {D : DataW Unit} {left : Lit → Bool} {cnt : Nat} (h : Hid (w.ranges Try.prog 3 (plainElem Try.prog 27) m r n D left cnt)) (k : Nat) : Hid ((w.drewN k).ranges Try.prog 3 (plainElem Try.prog 27) m r n D left cnt) := by
  obtain ⟨es, clock, since, seen, c0, hb, F, hs, hD, hr, rest⟩ := h.out
  exact ⟨es, clock, since, seen, c0, hb, F, hs, hD, hr, rest⟩

theorem below_drewN' {B : Nat} {a w : World} (h : Hid (Below B a w)) (n : Nat) : Hid (Below B a (w.drewN n)) := ⟨h.out.os, h.out.tape, h.out.output, h.out.size, h.out.block⟩

set_option maxHeartbeats 800000 in
theorem ahead_some (t m next : Nat) (q : List (Int × Nat)) (x : Int) (c : Nat) (w : World) (h : Lk w t m next q) (hx : (Lit.int .i64 x).wf = true) (hm : (x, c) ∈ q) :
    Calls Try.prog 31 #[.pointer (some ⟨t, 0, none⟩), .int .i64 x] w fun e w' => e = .returned (.int .i64 (aheadOf q c)) ∧ Below w.heap.size w w' := by
  have c1 := h.c1
  have c2 := h.c2
  have hlt : c < next := h.good.lt _ hm
  have hb := h.good.bound
  have hsv := serves_le h.good hm
  have hsn := serves_next h.good
  have hne := h.ne
  have htl := h.lt_t
  obtain ⟨D, hD, hown⟩ := h.map
  have hH : Maps.has D (.int .i64 x) = true := by rw [hD.has]; exact any_in hm
  have HA : Hid (∀ z, D.atKey (.int .i64 x) z = .lit (.int .u32 c)) := hD.at_ x c hm
  have hkey := keyOf_int_mk (P := Try.prog) Try.underlying3 hx
  have HD : Hid (MapIs D q) := hD
  have HG : Hid (Good next q) := h.good
  have HS : Hid (∀ x d, (x, d) ∈ q → serves next q ≤ d) := fun x d hd => serves_le h.good hd
  clear h hD
  generalize serves next q = sv at *
  go_enter Try.func31, Try.ntmps31
  go_wp2_with (first
    | (at_lookup; refine wpList_lookup_own_ok_int _ rfl _ _ 48 rfl 3 27 .u32 law3 Try.underlying48 Try.underlying27 (zero27 _) m next D rfl hown _ _ rfl hkey ?_; intro d hat hwd; obtain rfl : d = (c : Int) := atKey_inj (HA.out _) hat; clear hat)
    | (at_range; refine wpList_range_own _ rfl _ 48 rfl 3 27 law3 Try.underlying48 _ m next D rfl hown ?_; intro w0 hrg0 hg0 hs0))
  go_frame
  go_loopw [7] (fun v wr => ∃ (left : Lit → Bool) (cnt : Nat), v = .int .i64 (counted q c left) ∧ Hid (wr.ranges Try.prog 3 (plainElem Try.prog 27) m w.heap.size next D left cnt) ∧ Hid (Below w.heap.size w wr)) (fun _ wr => wr.rangeLeft m w.heap.size)
  case atStart => exact ⟨Maps.has D, _, by rw [counted_none q c _ (fun p hp => by rw [HD.out.has]; exact any_in (x := p.1) (c := p.2) hp)]; rfl, hrg0, (Frm.below (Below.refl w.heap.size w) ((Frm.refl w (fun _ => False)).grown hg0 (fun k hk => by cases hk)) (fun k hk => hk.elim) (Nat.le_refl _))⟩
  case round =>
    obtain ⟨left, cnt, rfl, hrg, hB⟩ := hrel
    have c1' : wr.cell? ⟨t, 1, none⟩ = some (.int .u32 sv) := by rw [hB.out.cell (by exact htl)]; exact c1
    go_wp2_with (at_next; refine wpList_next_ranges_ii _ rfl _ rfl 3 27 .i64 .u32 law3 Try.underlying3 Try.underlying27 m w.heap.size next _ _ _ rfl hrg.out ?_ ?_)
    · intro _ hl0
      have HZ : Hid (counted q c left = aheadOf q c) := counted_all q c left hl0
      clear hl0
      go_wp2
      go_ret
      exact ⟨by rw [HZ.out]; rfl, hB.out⟩
    · intro y d w1 cnt1 hwy hwd hly hat hrg1 hlt1 hg1 hs1 hen
      obtain ⟨d0, rfl, hd0⟩ := at_mem HD.out hat
      have hs0' := HS.out y d0 hd0
      have hn0 := HG.out.lt _ hd0
      have s1 : (0 : Int) ≤ (d0 : Int) - (sv : Int) := by omega
      have s2 : (d0 : Int) - (sv : Int) < 4294967296 := by simp at hn0; omega
      have s3 : (0 : Int) ≤ (c : Int) - (sv : Int) := by omega
      have s4 : (c : Int) - (sv : Int) < 4294967296 := by omega
      have hB1 : Hid (Below w.heap.size w w1) := Frm.below hB.out ((Frm.refl wr (fun k => k = w.heap.size)).grown hg1 (fun k hk => by cases hk; exact .inr rfl)) (fun k hk => by omega) hB.out.size
      have c1'' : w1.cell? ⟨t, 1, none⟩ = some (.int .u32 sv) := by rw [hB1.out.cell (by exact htl)]; exact c1
      have hcs := counted_step c left y d0 hly q HG.out.nodup hd0
      have hle := counted_le q c left
      have hfew := HG.out.few
      have HR : Hid (w1.ranges Try.prog 3 (plainElem Try.prog 27) m w.heap.size next D (fun z => left z && !z.sameKey (.int .i64 y)) cnt1) := hrg1
      clear hrg1 hly hat hg1 hs1 hn0 hwy hwd hs0' hd0
      by_cases hdc : d0 < c
      · rw [if_pos hdc] at hcs
        have HC : Hid (counted q c (fun z => left z && !z.sameKey (.int .i64 y)) = counted q c left + 1) := hcs
        clear hcs
        go_wp2
        go_quiet (fail)
        go_wp2
        go_roundw
        case rel => exact ⟨_, cnt1, by rw [HC.out]; go_num, ranges_drewN HR _, below_drewN' hB1 _⟩
        case measure =>
          rw [(ranges_drewN HR nq).out.left_eq, hrg.out.left_eq]
          exact hlt1
      · rw [if_neg hdc] at hcs
        have HC : Hid (counted q c (fun z => left z && !z.sameKey (.int .i64 y)) = counted q c left + 0) := hcs
        have hdc' : c ≤ d0 := by omega
        clear hcs hdc
        go_wp2
        go_quiet (fail)
        go_wp2
        go_roundw
        case rel => exact ⟨_, cnt1, by rw [HC.out]; rfl, ranges_drewN HR _, below_drewN' hB1 _⟩
        case measure =>
          rw [(ranges_drewN HR nq).out.left_eq, hrg.out.left_eq]
          exact hlt1
end Go.Proofs.Ytjihjmanndhdhaa.Turn
