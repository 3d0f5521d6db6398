/- The lock by tickets, Free: whose turn it is gives it back, and the next ticket that is there is served. -/
import Derived.Test.YtjihjmanndhdhaaTurnA
namespace Go.Proofs.Ytjihjmanndhdhaa.Turn
open Go.RowKit Go.Maps

set_option maxHeartbeats 400000 in
theorem free_none (t m next : Nat) (q : List (Int × Nat)) (x : Int) (w : World) (h : Lk w t m next q) (hx : (Lit.int .i64 x).wf = true) (hm : q.any (fun p => p.1 == x) = false) :
    Calls Try.prog 32 #[.pointer (some ⟨t, 0, none⟩), .int .i64 x] w fun e w' => e = .returned (.int .i64 4) ∧ w' = w := by
  have c2 := h.c2
  obtain ⟨D, hD, hown⟩ := h.map
  have hH : Maps.has D (.int .i64 x) = false := by rw [hD.has]; exact hm
  have hkey := keyOf_int_mk (P := Try.prog) Try.underlying3 hx
  clear h hD
  go_enter Try.func32, Try.ntmps32
  go_wp2_with (at_lookup; refine wpList_lookup_own_ok_int _ rfl _ _ 48 rfl 3 27 .u32 law3 Try.underlying48 Try.underlying27 (zero27 _) m next D rfl hown _ _ rfl hkey ?_; intro d hat hwd; clear hat)
  go_ret
  exact ⟨rfl, rfl⟩

set_option maxHeartbeats 400000 in
theorem free_busy (t m next : Nat) (q : List (Int × Nat)) (x : Int) (w : World) (h : Lk w t m next q) (hx : (Lit.int .i64 x).wf = true) (hm : q.any (fun p => p.1 == x) = true) (hf : first q x = false) :
    Calls Try.prog 32 #[.pointer (some ⟨t, 0, none⟩), .int .i64 x] w fun e w' => e = .returned (.int .i64 5) ∧ w' = w := by
  have c2 := h.c2
  have C := has_calls t m next q x w h hx
  rw [hf] at C
  obtain ⟨D, hD, hown⟩ := h.map
  have hH : Maps.has D (.int .i64 x) = true := by rw [hD.has]; exact hm
  have hkey := keyOf_int_mk (P := Try.prog) Try.underlying3 hx
  clear h hD hf
  go_enter Try.func32, Try.ntmps32
  go_wp2_with (first
    | (at_lookup; refine wpList_lookup_own_ok_int _ rfl _ _ 48 rfl 3 27 .u32 law3 Try.underlying48 Try.underlying27 (zero27 _) m next D rfl hown _ _ rfl hkey ?_; intro d hat hwd; clear hat)
    | (go_at_call 30; refine C.mono ?_; rintro e w' ⟨rfl, rfl⟩))
  go_ret
  exact ⟨rfl, rfl⟩

/-- how far the loop has come: the least distance of those that are no longer to come. -/
def FarOk (q : List (Int × Nat)) (next sv : Nat) (left : Lit → Bool) (far : Nat) : Prop :=
  far ≤ next - sv ∧ (far = next - sv ∨ ∃ p ∈ q, far = p.2 - sv) ∧ ∀ p ∈ q, left (.int .i64 p.1) = false → far ≤ p.2 - sv

theorem FarOk.start {q : List (Int × Nat)} {next sv : Nat} {left : Lit → Bool} (h : ∀ p ∈ q, left (.int .i64 p.1) = true) : FarOk q next sv left (next - sv) :=
  ⟨Nat.le_refl _, .inl rfl, fun p hp h' => by rw [h p hp] at h'; cases h'⟩

theorem FarOk.step {q : List (Int × Nat)} {next sv : Nat} {left : Lit → Bool} {far : Nat} (h : FarOk q next sv left far) (hnd : (q.map (·.1)).Nodup) {y : Int} {d : Nat} (hy : (y, d) ∈ q) :
    FarOk q next sv (fun z => left z && !z.sameKey (.int .i64 y)) (min far (d - sv)) := by
  refine ⟨by have := h.1; omega, ?_, ?_⟩
  · by_cases e : far ≤ d - sv
    · rw [Nat.min_eq_left e]; exact h.2.1
    · rw [Nat.min_eq_right (by omega)]; exact .inr ⟨_, hy, rfl⟩
  · intro p hp hl
    by_cases e : p.1 = y
    · have := once hnd hp hy e
      subst this
      exact Nat.min_le_right _ _
    · have e' : (p.1 == y) = false := by simpa using e
      simp only [same_int, e'] at hl
      have := h.2.2 p hp (by simpa using hl)
      exact Nat.le_trans (Nat.min_le_left _ _) this

theorem FarOk.done {q : List (Int × Nat)} {next sv : Nat} {left : Lit → Bool} {far : Nat} (h : FarOk q next sv left far) (hl : ∀ kl, left kl = false) (hs : q.Pairwise (fun a b => a.2 < b.2)) (hlt : ∀ p ∈ q, p.2 < next) (hge : ∀ p ∈ q, sv ≤ p.2) (hn : sv ≤ next) :
    sv + far = serves next q := by
  cases q with
  | nil =>
    rcases h.2.1 with e | ⟨p, hp, _⟩
    · show sv + far = next; omega
    · cases hp
  | cons p t =>
    show sv + far = p.2
    have h1 := h.2.2 p (by simp) (hl _)
    have h2 := hge p (by simp)
    rcases h.2.1 with e | ⟨r, hr, e⟩
    · have := hlt p (by simp); omega
    · rcases List.mem_cons.1 hr with hr | hr
      · subst hr; omega
      · have := (List.pairwise_cons.1 hs).1 r hr; omega

set_option maxHeartbeats 1000000 in
theorem free_ok (t m next : Nat) (q : List (Int × Nat)) (x : Int) (w : World) (h : Lk w t m next q) (hx : (Lit.int .i64 x).wf = true) (hm : q.any (fun p => p.1 == x) = true) (hf : first q x = true) :
    Calls Try.prog 32 #[.pointer (some ⟨t, 0, none⟩), .int .i64 x] w fun e w' => e = .returned (.int .i64 0) ∧ Lk w' t m next (out q x) ∧ Frm w w' (fun k => k = t ∨ k = m) := by
  have c2 := h.c2
  have c1 := h.c1
  have c0 := h.c0
  have hne := h.ne
  have htl := h.lt_t
  have C := has_calls t m next q x w h hx
  rw [hf] at C
  have hb := h.good.bound
  have hsn := serves_next h.good
  have HG : Hid (Good next (out q x)) := h.good.out x
  have HS : Hid (∀ p ∈ out q x, serves next q ≤ p.2) := fun p hp => serves_le (x := p.1) (c := p.2) h.good (List.mem_filter.1 hp).1
  obtain ⟨D, hD, hown⟩ := h.map
  have hH : Maps.has D (.int .i64 x) = true := by rw [hD.has]; exact hm
  have HD : Hid (MapIs (D.del (.int .i64 x)) (out q x)) := hD.del x h.good.nodup hm
  have HT : Hid (w.heap[t]? = some (.cells #[.int .u32 next, .int .u32 (serves next q), .map (some m)] 50 (0, 0))) := h.ht
  have hkey := keyOf_int_mk (P := Try.prog) Try.underlying3 hx
  clear h hD hf hm
  generalize out q x = q' at *
  generalize serves next q = sv at *
  have s1 : (0 : Int) ≤ (next : Int) - (sv : Int) := by omega
  have s2 : (next : Int) - (sv : Int) < 4294967296 := by omega
  go_enter Try.func32, Try.ntmps32
  go_wp2_with (first
    | (at_lookup; refine wpList_lookup_own_ok_int _ rfl _ _ 48 rfl 3 27 .u32 law3 Try.underlying48 Try.underlying27 (zero27 _) m next D rfl hown _ _ rfl hkey ?_; intro d hat hwd; clear hat)
    | (go_at_call 30; refine C.mono ?_; rintro e w' ⟨rfl, hw'⟩; subst hw')
    | (at_delete; refine wpList_delete_own _ rfl _ _ 48 3 rfl 27 law3 Try.underlying48 _ m next D rfl hown _ _ rfl hkey ?_; intro w1 hown1 hturn1))
  have c0' := (turned_cell hturn1 (a := ⟨t, 0, none⟩) hne).trans c0
  have c1' := (turned_cell hturn1 (a := ⟨t, 1, none⟩) hne).trans c1
  have c2' := (turned_cell hturn1 (a := ⟨t, 2, none⟩) hne).trans c2
  have HT1 : Hid (w1.heap[t]? = some (.cells #[.int .u32 next, .int .u32 sv, .map (some m)] 50 (0, 0))) := (turned_block hturn1 hne).trans HT.out
  have e7 : IntKind.u32.wrap ((next : Int) - (sv : Int)) = (next : Int) - (sv : Int) := by rw [IntKind.wrap_u32]; omega
  have HF1 : Hid (Frm w' w1 (fun k => k = m)) := (Frm.refl _ (fun k => k = m)).turned rfl hturn1
  have HO1 : Hid (w1.ownsMap Try.prog 3 (plainElem Try.prog 27) m next (D.del (.int .i64 x))) := hown1
  clear hturn1 hown1 hown hH c0 c1 c2 C HT
  generalize D.del (.int .i64 x) = D1 at *
  have htl1 : t < w1.heap.size := Nat.lt_of_lt_of_le htl HF1.out.size
  go_quiet (fail)
  have hown2 : (w1.drewN nq).ownsMap Try.prog 3 (plainElem Try.prog 27) m next D1 := owns_block HO1.out rfl
  go_wp2_with (at_range; refine wpList_range_own _ rfl _ 48 rfl 3 27 law3 Try.underlying48 _ m next D1 rfl hown2 ?_; intro w0 hrg0 hg0 hs0)
  go_frame
  have HF2 : Hid (Frm w1 w0 (fun _ => False)) := ((Frm.refl w1 (fun _ => False)).drewN nq).grown hg0 (fun k hk => by cases hk)
  clear hg0 hs0 hown2
  go_loopw [7] (fun v wr => ∃ (left : Lit → Bool) (cnt far : Nat), v = .int .u32 far ∧ Hid (FarOk q' next sv left far) ∧ Hid (wr.ranges Try.prog 3 (plainElem Try.prog 27) m w1.heap.size next D1 left cnt) ∧ Hid (Frm w1 wr (fun _ => False))) (fun _ wr => wr.rangeLeft m w1.heap.size)
  case atStart => exact ⟨Maps.has D1, _, next - sv, by rw [show ((next - sv : Nat) : Int) = (next : Int) - (sv : Int) by omega], FarOk.start (fun p hp => by rw [HD.out.has]; exact any_in (x := p.1) (c := p.2) hp), hrg0, HF2⟩
  case round =>
    obtain ⟨left, cnt, far, rfl, hfar, hrg, hF⟩ := hrel
    have c1'' : wr.cell? ⟨t, 1, none⟩ = some (.int .u32 sv) := by rw [World.cell?_of_block (w := w1) (hF.out.block t htl1 (fun h => h))]; exact c1'
    have hfl : far ≤ next - sv := hfar.out.1
    go_wp2_with (at_next; refine wpList_next_ranges_ii _ rfl _ rfl 3 27 .i64 .u32 law3 Try.underlying3 Try.underlying27 m w1.heap.size next _ _ _ rfl hrg.out ?_ ?_)
    · intro _ hl0
      have HZ : Hid (sv + far = serves next q') := hfar.out.done hl0 HG.out.sorted HG.out.lt HS.out hsn
      clear hl0
      have hbt : wr.heap[t]? = some (.cells #[.int .u32 next, .int .u32 sv, .map (some m)] 50 (0, 0)) := (hF.out.block t htl1 (fun h => h)).trans HT1.out
      have f1 : wr.frozen? ⟨t, 1, none⟩ = false := by simp [World.frozen?, hbt]
      have HBT : Hid (wr.heap[t]? = some (.cells #[.int .u32 next, .int .u32 sv, .map (some m)] 50 (0, 0))) := hbt
      clear hbt
      go_wp2
      go_ret
      refine ⟨rfl, ⟨hne, ?_, ⟨D1, HD.out, owns_block hrg.out.owns (heap_set_ne _ _ (Ne.symm hne))⟩, HG.out⟩, ?_⟩
      · rw [heap_set _ _ HBT.out, ← HZ.out]
        simp
      · exact ((Frm.trans (S := fun k => k = t ∨ k = m) ⟨HF1.out.os, HF1.out.tape, HF1.out.output, HF1.out.size, fun k hk hn => HF1.out.block k hk (fun e => hn (.inr e))⟩ ⟨hF.out.os, hF.out.tape, hF.out.output, hF.out.size, fun k hk _ => hF.out.block k hk (fun h => h)⟩)).set (.inl rfl) _ _
    · intro y d w2 cnt1 hwy hwd hly hat hrg1 hlt1 hg1 hs1 hen
      obtain ⟨d0, rfl, hd0⟩ := at_mem HD.out hat
      have hs0' : sv ≤ d0 := HS.out _ hd0
      have hn0 : d0 < next := HG.out.lt _ hd0
      have s3 : (0 : Int) ≤ (d0 : Int) - (sv : Int) := by omega
      have s4 : (d0 : Int) - (sv : Int) < 4294967296 := by omega
      have hF1 : Hid (Frm w1 w2 (fun _ => False)) := hF.out.grown hg1 (fun k hk => by cases hk; exact .inl (Nat.le_refl _))
      have c13 : w2.cell? ⟨t, 1, none⟩ = some (.int .u32 sv) := by rw [World.cell?_of_block (w := w1) (hF1.out.block t htl1 (fun h => h))]; exact c1'
      have HN : Hid (FarOk q' next sv (fun z => left z && !z.sameKey (.int .i64 y)) (min far (d0 - sv))) := hfar.out.step HG.out.nodup hd0
      have HR : Hid (w2.ranges Try.prog 3 (plainElem Try.prog 27) m w1.heap.size next D1 (fun z => left z && !z.sameKey (.int .i64 y)) cnt1) := hrg1
      clear hrg1 hly hat hg1 hs1 hwy hwd hd0
      go_wp2
      all_goals
        refine ⟨⟨_, cnt1, _, ?_, HN, HR⟩, ?_⟩
        · first
            | (rename_i h; rw [Nat.min_eq_left (by omega)])
            | (rename_i h; rw [Nat.min_eq_right (by omega)]; omega)
        · rw [HR.out.left_eq, hrg.out.left_eq]
          exact hlt1
end Go.Proofs.Ytjihjmanndhdhaa.Turn
