/- Arguments that are slices, opened: a slice whose elements read as K reads as a row of them. -/
import Derived.Test.YtjihjmanndhdhaaRows
import Derived.ChangeSlices
import Derived.ChangeArms
import Derived.WideShapes
import Derived.Test.YtjihjmanndhdhaaWWords
namespace Go.Proofs.Ytjihjmanndhdhaa.Open
open Go.RowKit Go.ChangeShapes Go.WideShapes Go.Proofs.YtjihjmanndhdhaaW.PrintWords

theorem add_add (a : Addr) (m n : Nat) : (a.add m).add n = a.add (m + n) := by
  unfold Addr.add
  by_cases hm : m = 0
  · subst hm; simp
  · by_cases hn : n = 0
    · subst hn; simp
    · simp [hm, hn, Nat.add_assoc]

theorem open_rows {H α : Type} {enc : TypeId × Value → H} {P : Program} {w : World} {base : Nat} {spare : Nat → Bool} {held : Bool} {t e : TypeId} {fuel : Nat} {A : Option Addr} {len cap : Nat} {x : DataW H × List MemPlace}
    (K : α → List Value → Prop) (sz : Nat) (hu : P.underlying t = some (.slice e)) (hc : P.cellsOf e = sz)
    (hel : ∀ fuel cs x, DataW.trod enc P w base spare held fuel e cs = some x → ∃ a, K a cs)
    (h : DataW.trod enc P w base spare held fuel t [.slice A len cap] = some x) :
    ∃ l : List α, l.length = len ∧ ReadsRow K sz w A len l ∧ len ≤ cap ∧ len ≤ maxLen := by
  rcases DataW.trod_slice hu h with ⟨h0, _⟩ | ⟨a, len', cap', elems, rest, n, _, hcs, _, hb, hl, hm, hlen, hget, _, _⟩
  · injection h0 with h0 _
    injection h0 with h1 h2 h3
    subst h1 h2 h3
    exact ⟨[], rfl, ⟨rfl, by omega, fun h => absurd h (by omega)⟩, Nat.le_refl _, by unfold maxLen; omega⟩
  · injection hcs with h0 _
    injection h0 with h1 h2 h3
    subst h1 h2 h3
    have each : ∀ i, i < len → ∃ a0 : α, ∃ cs, cs.length = sz ∧ K a0 cs ∧ ∀ j u, cs[j]? = some u → w.cell? (a.add (i * sz + j)) = some u := by
      intro i hi
      have h1 := hget i hi
      rw [List.getElem?_eq_getElem (by omega), hc, Option.bind_eq_some_iff] at h1
      obtain ⟨cs, h2, h3⟩ := h1
      obtain ⟨a0, ha0⟩ := hel _ _ _ h3
      obtain ⟨c1, c2, c3⟩ := World.cells?_some h2
      refine ⟨a0, cs, c2, ha0, fun j u hj => ?_⟩
      have hjl : j < sz := by rw [← c2]; exact (List.getElem?_eq_some_iff.1 hj).1
      have := c3 j hjl
      rw [hj] at this
      rw [← this, add_add]
    have build : ∀ m, m ≤ len → ∃ l : List α, l.length = m ∧ ∀ j p, l[j]? = some p → ∃ c, c.length = sz ∧ K p c ∧ ∀ i u, c[i]? = some u → w.cell? (a.add (j * sz + i)) = some u := by
      intro m
      induction m with
      | zero => intro _; exact ⟨[], rfl, fun j p h => by simp at h⟩
      | succ m ih =>
        intro hm'
        obtain ⟨l, h1, h2⟩ := ih (by omega)
        obtain ⟨a0, cs, h3, h4, h5⟩ := each m (by omega)
        refine ⟨l ++ [a0], by simp [h1], fun j p hj => ?_⟩
        by_cases hjm : j < m
        · rw [List.getElem?_append_left (by omega)] at hj
          exact h2 j p hj
        · have hjl := (List.getElem?_eq_some_iff.1 hj).1
          simp only [List.length_append, List.length_singleton] at hjl
          obtain rfl : j = m := by omega
          rw [← h1, List.getElem?_append_right (Nat.le_refl _), Nat.sub_self] at hj
          have : a0 = p := by simpa using hj
          subst this
          exact ⟨cs, h3, h4, h5⟩
    obtain ⟨l, h1, h2⟩ := build len (Nat.le_refl _)
    exact ⟨l, h1, ⟨h1, by have := Nat.le_trans hl hm; unfold maxLen at this; omega, fun _ => ⟨a, rfl, h2⟩⟩, hl, Nat.le_trans hl hm⟩

/-- a slice of bools. -/
theorem open_bools {H : Type} {enc : TypeId × Value → H} {P : Program} {w : World} {base : Nat} {spare : Nat → Bool} {held : Bool} {t e : TypeId} {A : Option Addr} {len cap : Nat} {d : DataW H} {ps : List MemPlace}
    (hu : P.underlying t = some (.slice e)) (he : P.underlying e = some .bool) (hc : P.cellsOf e = 1)
    (h : DataW.Trod enc P w base spare held t (.slice A len cap) d ps) :
    ∃ l : List Bool, l.length = len ∧ Kd.bool.C w A len l ∧ len ≤ cap ∧ len ≤ maxLen := by
  obtain ⟨fuel, hf⟩ := h
  exact open_rows (fun (b : Bool) cs => cs = [.bool b]) 1 hu hc (fun _ _ _ h => by obtain ⟨b, h1, _⟩ := DataW.trod_bool he h; exact ⟨b, h1⟩) hf
end Go.Proofs.Ytjihjmanndhdhaa.Open
