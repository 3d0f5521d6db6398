/- Arguments that are slices of calls, opened: a slice of structs of four fields, of two, of whole numbers. -/
import Derived.Test.YtjihjmanndhdhaaOpen
import Derived.Deep.Strs
namespace Go.Proofs.Ytjihjmanndhdhaa.Open
open Go.RowKit Go.ChangeShapes Go.WideShapes Go.Proofs.YtjihjmanndhdhaaW.PrintWords

/-- one call of the names' law. -/
structure Act4 where
  op : Int
  i : Int
  n : Int
  raw : Bool

/-- one call of the lock's law. -/
structure Act2 where
  op : Int
  who : Int

def Act4.cells (a : Act4) : List Value := [.int .i64 a.op, .int .i64 a.i, .int .u32 a.n, .bool a.raw]
def Act2.cells (a : Act2) : List Value := [.int .i64 a.op, .int .i64 a.who]

theorem add_field (a : Addr) (m n : Nat) (hn : n ≠ 0) : a.add (m + n) = ⟨(a.add m).block, (a.add m).off + n, none⟩ := by
  unfold Addr.add
  by_cases hm : m = 0
  · subst hm; simp [hn]
  · simp [hm, Nat.add_assoc]

/-- the calls in memory. -/
def Acts4 (w : World) (A : Option Addr) (l : List Act4) : Prop :=
  ∀ k, (h : k < l.length) → 0 ≤ l[k].n ∧ l[k].n < 4294967296 ∧ ∃ ad, A = some ad ∧ w.cell? (ad.add (k * 4)) = some (.int .i64 l[k].op) ∧ w.cell? ⟨(ad.add (k * 4)).block, (ad.add (k * 4)).off + 1, none⟩ = some (.int .i64 l[k].i) ∧ w.cell? ⟨(ad.add (k * 4)).block, (ad.add (k * 4)).off + 2, none⟩ = some (.int .u32 l[k].n) ∧ w.cell? ⟨(ad.add (k * 4)).block, (ad.add (k * 4)).off + 3, none⟩ = some (.bool l[k].raw)
def Acts2 (w : World) (A : Option Addr) (l : List Act2) : Prop :=
  ∀ k, (h : k < l.length) → (Lit.int .i64 l[k].who).wf = true ∧ ∃ ad, A = some ad ∧ w.cell? (ad.add (k * 2)) = some (.int .i64 l[k].op) ∧ w.cell? ⟨(ad.add (k * 2)).block, (ad.add (k * 2)).off + 1, none⟩ = some (.int .i64 l[k].who)

theorem open_acts4 {H : Type} {enc : TypeId × Value → H} {w : World} {base : Nat} {spare : Nat → Bool} {held : Bool} {A : Option Addr} {len cap : Nat} {d : DataW H} {ps : List MemPlace}
    (h : DataW.Trod enc Try.prog w base spare held 60 (.slice A len cap) d ps) :
    ∃ l : List Act4, l.length = len ∧ Acts4 w A l ∧ len ≤ cap ∧ len ≤ maxLen := by
  obtain ⟨fuel, hf⟩ := h
  obtain ⟨l, h1, h2, h3, h4⟩ := open_rows (fun (b : Act4) cs => cs = b.cells ∧ 0 ≤ b.n ∧ b.n < 4294967296) 4 Try.underlying60 (by kernel_rfl) (fun fuel cs x h => by
    obtain ⟨xs, n, _, rfl, hl, hlen, hf⟩ := DataW.trod_struct Try.underlying64 h
    have hl4 : cs.length = 4 := by rw [hl]; kernel_rfl
    have e0 := hf 0 _ rfl
    have e1 := hf 1 _ rfl
    have e2 := hf 2 _ rfl
    have e3 := hf 3 _ rfl
    match xs, hlen, cs, hl4 with
    | [y0, y1, y2, y3], _, [u0, u1, u2, u3], _ =>
      simp only [List.getElem?_cons_zero, List.getElem?_cons_succ] at e0 e1 e2 e3
      obtain ⟨n0, c0, _, _⟩ := DataW.trod_int (k := .i64) (by kernel_rfl) e0
      obtain ⟨n1, c1, _, _⟩ := DataW.trod_int (k := .i64) (by kernel_rfl) e1
      obtain ⟨n2, c2, _, w2⟩ := DataW.trod_int (k := .u32) (by kernel_rfl) e2
      obtain ⟨n3, c3, _⟩ := DataW.trod_bool (by kernel_rfl) e3
      rw [show Try.prog.cellsOf _ = 1 by kernel_rfl] at c0 c1 c2 c3
      simp at c0 c1 c2 c3
      subst c0 c1 c2 c3
      have h3 : 0 ≤ n2 ∧ n2 < 4294967296 := by
        simp [Lit.wf, IntKind.min, IntKind.max, IntKind.signed, IntKind.bits] at w2
        omega
      exact ⟨⟨n0, n1, n2, n3⟩, rfl, h3⟩) hf
  refine ⟨l, h1, fun k hk => ?_, h3, h4⟩
  obtain ⟨a, ha, hb⟩ := h2.2.2 (by omega)
  obtain ⟨c, c1, ⟨rfl, c2, c3⟩, c4⟩ := hb k l[k] (List.getElem?_eq_getElem hk)
  exact ⟨c2, c3, a, ha, c4 0 _ rfl, by rw [← add_field _ _ 1 (by omega)]; exact c4 1 _ rfl, by rw [← add_field _ _ 2 (by omega)]; exact c4 2 _ rfl, by rw [← add_field _ _ 3 (by omega)]; exact c4 3 _ rfl⟩

theorem open_acts2 {H : Type} {enc : TypeId × Value → H} {w : World} {base : Nat} {spare : Nat → Bool} {held : Bool} {A : Option Addr} {len cap : Nat} {d : DataW H} {ps : List MemPlace}
    (h : DataW.Trod enc Try.prog w base spare held 73 (.slice A len cap) d ps) :
    ∃ l : List Act2, l.length = len ∧ Acts2 w A l ∧ len ≤ cap ∧ len ≤ maxLen := by
  obtain ⟨fuel, hf⟩ := h
  obtain ⟨l, h1, h2, h3, h4⟩ := open_rows (fun (b : Act2) cs => cs = b.cells ∧ (Lit.int .i64 b.who).wf = true) 2 Try.underlying73 (by kernel_rfl) (fun fuel cs x h => by
    obtain ⟨xs, n, _, rfl, hl, hlen, hf⟩ := DataW.trod_struct Try.underlying76 h
    have hl4 : cs.length = 2 := by rw [hl]; kernel_rfl
    have e0 := hf 0 _ rfl
    have e1 := hf 1 _ rfl
    match xs, hlen, cs, hl4 with
    | [y0, y1], _, [u0, u1], _ =>
      simp only [List.getElem?_cons_zero, List.getElem?_cons_succ] at e0 e1
      obtain ⟨n0, c0, _, _⟩ := DataW.trod_int (k := .i64) (by kernel_rfl) e0
      obtain ⟨n1, c1, _, w1⟩ := DataW.trod_int (k := .i64) (by kernel_rfl) e1
      rw [show Try.prog.cellsOf _ = 1 by kernel_rfl] at c0 c1
      simp at c0 c1
      subst c0 c1
      exact ⟨⟨n0, n1⟩, rfl, w1⟩) hf
  refine ⟨l, h1, fun k hk => ?_, h3, h4⟩
  obtain ⟨a, ha, hb⟩ := h2.2.2 (by omega)
  obtain ⟨c, c1, ⟨rfl, c2⟩, c4⟩ := hb k l[k] (List.getElem?_eq_getElem hk)
  exact ⟨c2, a, ha, c4 0 _ rfl, by rw [← add_field _ _ 1 (by omega)]; exact c4 1 _ rfl⟩

/-- a slice of whole numbers. -/
theorem open_numbers {H : Type} {enc : TypeId × Value → H} {w : World} {base : Nat} {spare : Nat → Bool} {held : Bool} {A : Option Addr} {len cap : Nat} {d : DataW H} {ps : List MemPlace}
    (h : DataW.Trod enc Try.prog w base spare held 39 (.slice A len cap) d ps) :
    ∃ l : List Int, l.length = len ∧ (Kd.int .i64).C w A len l ∧ len ≤ cap ∧ len ≤ maxLen := by
  obtain ⟨fuel, hf⟩ := h
  exact open_rows (fun (b : Int) cs => cs = [.int .i64 b]) 1 Try.underlying39 (by kernel_rfl) (fun _ _ _ h => by obtain ⟨b, h1, _, _⟩ := DataW.trod_int (k := .i64) (by kernel_rfl) h; exact ⟨b, h1⟩) hf
end Go.Proofs.Ytjihjmanndhdhaa.Open
