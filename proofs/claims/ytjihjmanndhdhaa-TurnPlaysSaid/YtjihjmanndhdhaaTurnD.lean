/- The lock by tickets: plain laws of its row, for TurnPlays. -/
import Derived.Test.YtjihjmanndhdhaaTurnAllW
namespace Go.Proofs.Ytjihjmanndhdhaa.Turn
open Go.RowKit Go.Maps Go.Proofs.YtjihjmanndhdhaaW.PrintWords Go.Proofs.YtjihjmanndhdhaaW.PrintLast Go.Proofs.YtjihjmanndhdhaaW.PrintMore

theorem filter_at : ∀ (q : List (Int × Nat)), q.Pairwise (fun a b => a.2 < b.2) → ∀ (k : Nat) (h : k < q.length), (q.filter (fun p => decide (p.2 < q[k].2))).length = k
  | [], _, k, h => absurd h (by simp)
  | p :: t, hs, 0, _ => by
    have h := (List.pairwise_cons.1 hs).1
    rw [List.length_eq_zero_iff, List.filter_eq_nil_iff]
    intro r hr
    rcases List.mem_cons.1 hr with rfl | hr
    · simp
    · have := h r hr
      simp
      omega
  | p :: t, hs, k + 1, hk => by
    have h := List.pairwise_cons.1 hs
    have hk' : k < t.length := by simpa using hk
    have h1 := h.1 t[k] (List.getElem_mem hk')
    have := filter_at t h.2 k hk'
    simp only [List.getElem_cons_succ]
    rw [List.filter_cons_of_pos (by simpa using h1), List.length_cons, this]

theorem ahead_at {next : Nat} {q : List (Int × Nat)} (g : Good next q) {k : Nat} (h : k < q.length) : aheadOf q q[k].2 = k := filter_at q g.sorted k h

theorem first_at {next : Nat} {q : List (Int × Nat)} (g : Good next q) {k : Nat} (h : k < q.length) : first q q[k].1 = decide (k = 0) := by
  cases q with
  | nil => exact absurd h (by simp)
  | cons p t =>
    cases k with
    | zero => simp [first]
    | succ k =>
      have hnd : p.1 ∉ t.map (·.1) := (List.nodup_cons.1 (by simpa using g.nodup : (p.1 :: t.map (·.1)).Nodup)).1
      have hk : k < t.length := by simpa using h
      have hne : p.1 ≠ t[k].1 := fun e => hnd (e ▸ List.mem_map_of_mem (List.getElem_mem hk))
      simp [first, hne]

theorem filter_out : ∀ (q : List (Int × Nat)), (q.map (·.1)).Nodup → ∀ (k : Nat) (h : k < q.length), q.filter (fun p => !(p.1 == q[k].1)) = q.take k ++ q.drop (k + 1)
  | [], _, k, h => absurd h (by simp)
  | p :: t, hn, 0, _ => by
    have hnd : p.1 ∉ t.map (·.1) := (List.nodup_cons.1 (by simpa using hn : (p.1 :: t.map (·.1)).Nodup)).1
    simp only [List.getElem_cons_zero, List.take_zero, List.nil_append, Nat.zero_add, List.drop_one, List.tail_cons]
    rw [List.filter_cons_of_neg (by simp), List.filter_eq_self]
    intro r hr
    have : r.1 ≠ p.1 := fun e => hnd (e ▸ List.mem_map_of_mem hr)
    simpa using this
  | p :: t, hn, k + 1, hk => by
    have hnd := List.nodup_cons.1 (by simpa using hn : (p.1 :: t.map (·.1)).Nodup)
    have hk' : k < t.length := by simpa using hk
    have hne : p.1 ≠ t[k].1 := fun e => hnd.1 (e ▸ List.mem_map_of_mem (List.getElem_mem hk'))
    have := filter_out t hnd.2 k hk'
    simp only [List.getElem_cons_succ, List.take_succ_cons, List.drop_succ_cons, List.cons_append]
    rw [List.filter_cons_of_pos (by simpa using hne), this]

theorem out_at {next : Nat} {q : List (Int × Nat)} (g : Good next q) {k : Nat} (h : k < q.length) : out q q[k].1 = q.take k ++ q.drop (k + 1) := filter_out q g.nodup k h

theorem any_at {q : List (Int × Nat)} {k : Nat} (h : k < q.length) : q.any (fun p => p.1 == q[k].1) = true := List.any_eq_true.2 ⟨q[k], List.getElem_mem h, by simp⟩

/-- the search so far. -/
def PosOk (q : List (Int × Nat)) (x : Int) (k : Nat) (a : Int) : Prop :=
  (a = -1 ∧ ∀ j : Nat, j < k → rd (q.map (·.1)) (j : Int) ≠ x) ∨ ∃ j : Nat, j < k ∧ a = j ∧ rd (q.map (·.1)) (j : Int) = x

theorem rd_at {q : List (Int × Nat)} {k : Nat} (h : k < q.length) : rd (q.map (·.1)) (k : Int) = q[k].1 := by simp [rd, h]
theorem rdt_at {q : List (Int × Nat)} {k : Nat} (h : k < q.length) : rd (q.map (fun p => (p.2 : Int))) (k : Int) = (q[k].2 : Int) := by simp [rd, h]

theorem PosOk.start (q : List (Int × Nat)) (x : Int) : PosOk q x 0 (-1) := .inl ⟨rfl, fun j h => absurd h (by omega)⟩
theorem PosOk.hit {q : List (Int × Nat)} {x : Int} {k : Nat} (hx : rd (q.map (·.1)) (k : Int) = x) : PosOk q x (k + 1) k := .inr ⟨k, by omega, rfl, hx⟩
theorem PosOk.miss {q : List (Int × Nat)} {x : Int} {k : Nat} {a : Int} (h : PosOk q x k a) (hx : rd (q.map (·.1)) (k : Int) ≠ x) : PosOk q x (k + 1) a := by
  rcases h with ⟨h1, h2⟩ | ⟨j, h1, h2⟩
  · refine .inl ⟨h1, fun j hj => ?_⟩
    by_cases e : j = k
    · subst e; exact hx
    · exact h2 j (by omega)
  · exact .inr ⟨j, by omega, h2⟩
theorem PosOk.done {q : List (Int × Nat)} {x : Int} {a : Int} (h : PosOk q x q.length a) : (a = -1 ∧ q.any (fun p => p.1 == x) = false) ∨ ∃ (j : Nat) (hj : j < q.length), a = j ∧ q[j].1 = x := by
  rcases h with ⟨h1, h2⟩ | ⟨j, h1, h2, h3⟩
  · refine .inl ⟨h1, ?_⟩
    rw [List.any_eq_false]
    intro p hp
    obtain ⟨j, hj, rfl⟩ := List.mem_iff_getElem.1 hp
    have := h2 j hj
    rw [rd_at hj] at this
    simpa using this
  · exact .inr ⟨j, h1, h2, by rw [rd_at h1] at h3; exact h3⟩

/-- the rows of the law: they are only read, and are none of the lock's blocks. -/
def VW (w : World) (t m : Nat) (v : Value) (q : List (Int × Nat)) : Prop := Kd.V (Kd.int .i64) 3 w 0 (off t m) v (q.map (·.1))
def VT (w : World) (t m : Nat) (v : Value) (q : List (Int × Nat)) : Prop := Kd.V (Kd.int .u32) 27 w 0 (off t m) v (q.map (fun p => (p.2 : Int)))

theorem not_off {t m k : Nat} (h : off t m k) : ¬ (k = t ∨ k = m) := fun e => by rcases e with e | e; exact h.1 e; exact h.2 e

theorem VW.frm {w w1 : World} {t m : Nat} {v : Value} {q : List (Int × Nat)} (h : VW w t m v q) (hf : Frm w w1 (fun k => k = t ∨ k = m)) : VW w1 t m v q := Kd.V_step h (fun k hk hl => hf.block k hl (not_off hk))
theorem VT.frm {w w1 : World} {t m : Nat} {v : Value} {q : List (Int × Nat)} (h : VT w t m v q) (hf : Frm w w1 (fun k => k = t ∨ k = m)) : VT w1 t m v q := Kd.V_step h (fun k hk hl => hf.block k hl (not_off hk))
theorem VW.below {w w1 : World} {t m : Nat} {v : Value} {q : List (Int × Nat)} (h : VW w t m v q) (hb : Below w.heap.size w w1) : VW w1 t m v q := Kd.V_below h hb
theorem VT.below {w w1 : World} {t m : Nat} {v : Value} {q : List (Int × Nat)} (h : VT w t m v q) (hb : Below w.heap.size w w1) : VT w1 t m v q := Kd.V_below h hb
theorem VW.form {w : World} {t m : Nat} {v : Value} {q : List (Int × Nat)} (h : VW w t m v q) : ∃ A c, v = .slice A q.length c ∧ q.length ≤ c := by
  obtain ⟨A, c, h1, h2, _⟩ := h
  rw [List.length_map] at h1 h2
  exact ⟨A, c, h1, h2⟩
theorem VT.form {w : World} {t m : Nat} {v : Value} {q : List (Int × Nat)} (h : VT w t m v q) : ∃ A c, v = .slice A q.length c ∧ q.length ≤ c := by
  obtain ⟨A, c, h1, h2, _⟩ := h
  rw [List.length_map] at h1 h2
  exact ⟨A, c, h1, h2⟩
theorem VW.cell {w : World} {t m c : Nat} {A : Option Addr} {q : List (Int × Nat)} (h : VW w t m (.slice A q.length c) q) {k : Nat} (hk : k < q.length) : ∃ ad, A = some ad ∧ w.cell? (ad.add k) = some (.int .i64 q[k].1) := by
  obtain ⟨h1, h2, h3⟩ := Kd.V_reads' h
  obtain ⟨ad, e, hc⟩ := Kd.at_int h3 (k : Int) (by omega) (by simp; omega)
  rw [Int.toNat_natCast, rd_at hk] at hc
  exact ⟨ad, e, hc⟩
theorem VT.cell {w : World} {t m c : Nat} {A : Option Addr} {q : List (Int × Nat)} (h : VT w t m (.slice A q.length c) q) {k : Nat} (hk : k < q.length) : ∃ ad, A = some ad ∧ w.cell? (ad.add k) = some (.int .u32 q[k].2) := by
  obtain ⟨h1, h2, h3⟩ := Kd.V_reads' h
  obtain ⟨ad, e, hc⟩ := Kd.at_int h3 (k : Int) (by omega) (by simp; omega)
  rw [Int.toNat_natCast, rdt_at hk] at hc
  exact ⟨ad, e, hc⟩
theorem VW.reads {w : World} {t m c : Nat} {A : Option Addr} {q : List (Int × Nat)} (h : VW w t m (.slice A q.length c) q) : (Kd.int .i64).C w A (q.map (·.1)).length (q.map (·.1)) := (Kd.V_reads' h).2.2
theorem VT.reads {w : World} {t m c : Nat} {A : Option Addr} {q : List (Int × Nat)} (h : VT w t m (.slice A q.length c) q) : (Kd.int .u32).C w A (q.map (fun p => (p.2 : Int))).length (q.map (fun p => (p.2 : Int))) := (Kd.V_reads' h).2.2
theorem VW.tail {w : World} {t m c : Nat} {A : Option Addr} {p : Int × Nat} {r : List (Int × Nat)} (h : VW w t m (.slice A (r.length + 1) c) (p :: r)) : VW w t m (.slice (if c = 1 then A else A.map (·.add (1 * 1))) r.length (c - 1)) r := by
  obtain ⟨h1, h2, h3⟩ := Kd.V_at h
  have := Kd.F_cut (m := 1) (c := c) h3 (by simp) (by simpa using h2)
  have e : r.length = (r.map (·.1)).length := by simp
  unfold VW
  rw [e]
  exact Kd.V_mk (by simp; omega) (by simpa [show (Kd.int .i64).sz = 1 from rfl] using this)
theorem VT.tail {w : World} {t m c : Nat} {A : Option Addr} {p : Int × Nat} {r : List (Int × Nat)} (h : VT w t m (.slice A (r.length + 1) c) (p :: r)) : VT w t m (.slice (if c = 1 then A else A.map (·.add (1 * 1))) r.length (c - 1)) r := by
  obtain ⟨h1, h2, h3⟩ := Kd.V_at h
  have := Kd.F_cut (m := 1) (c := c) h3 (by simp) (by simpa using h2)
  have e : r.length = (r.map (fun p : Int × Nat => (p.2 : Int))).length := by simp
  unfold VT
  rw [e]
  exact Kd.V_mk (by simp; omega) (by simpa [show (Kd.int .u32).sz = 1 from rfl] using this)
end Go.Proofs.Ytjihjmanndhdhaa.Turn
