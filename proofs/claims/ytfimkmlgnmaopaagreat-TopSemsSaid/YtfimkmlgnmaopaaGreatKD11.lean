/- Part 11 of what is proved of the functions that the law reaches (contracts of functions, plain laws): no condition but those that each theorem names. -/
import Derived.Test.YtfimkmlgnmaopaaGreatKD10
import Derived.ChangeSlices
import Derived.ChangeArms
import Derived.ChangeSame
import Derived.WideShapes
set_option maxHeartbeats 40000000
set_option maxRecDepth 100000
namespace Go.Proofs.YtfimkmlgnmaopaaGreat.Open
open Go.RowKit Go.ChangeShapes Go.WideShapes Go.Proofs.YtfimkmlgnmaopaaGreatW.PrintWords Go.Proofs.YtfimkmlgnmaopaaGreat.PTopNames Go.Proofs.YtfimkmlgnmaopaaGreat.Top
theorem add_add (a : Addr) (m n : Nat) : (a.add m).add n = a.add (m + n) := by
 unfold Addr.add;by_cases hm : m = 0
 ·subst hm; simp
 ·by_cases hn : n = 0
  ·subst hn; simp
  ·simp [hm, hn, Nat.add_assoc]
theorem add_field2 (a : Addr) (m n : Nat) (hn : n ≠ 0) : a.add (m + n) = ⟨(a.add m).block, (a.add m).off + n, none⟩ := by
 unfold Addr.add;by_cases hm : m = 0
 ·subst hm; simp [hn]
 ·simp [hm, Nat.add_assoc]
theorem open_rows {H α : Type} {enc : TypeId × Value -> H} {P : Program} {w : World} {base : Nat} {spare : Nat -> Bool} {held : Bool} {t e : TypeId} {fuel : Nat} {A : Option Addr} {len cap : Nat} {x : DataW H × List MemPlace}
  (K : α -> List Value -> Prop) (sz : Nat) (hu : P.underlying t = some (.slice e)) (hc : P.cellsOf e = sz)
  (hel : ∀ fuel cs x, DataW.trod enc P w base spare held fuel e cs = some x -> ∃ a, K a cs)
  (h : DataW.trod enc P w base spare held fuel t [.slice A len cap] = some x) :
  ∃ l : List α, l.length = len /\ ReadsRow K sz w A len l /\ len <= cap /\ len <= maxLen := by
 rcases DataW.trod_slice hu h with ⟨h0, _⟩ | ⟨a, len', cap', elems, rest, n, _, hcs, _, hb, hl, hm, hlen, hget, _, _⟩
 ·injection h0 with h0 _;injection h0 with h1 h2 h3;subst h1 h2 h3;exact ⟨[], rfl, ⟨rfl, by omega, fun h => absurd h (by omega)⟩, Nat.le_refl _, by unfold maxLen; omega⟩
 ·injection hcs with h0 _;injection h0 with h1 h2 h3;subst h1 h2 h3
  have each : ∀ i, i < len -> ∃ a0 : α, ∃ cs, cs.length = sz /\ K a0 cs /\ ∀ j u, cs[j]? = some u -> w.cell? (a.add (i * sz + j)) = some u := by
   intro i hi;have h1 := hget i hi;rw [List.getElem?_eq_getElem (by omega), hc, Option.bind_eq_some_iff] at h1;obtain ⟨cs, h2, h3⟩ := h1;obtain ⟨a0, ha0⟩ := hel _ _ _ h3;obtain ⟨c1, c2, c3⟩ := World.cells?_some h2;refine ⟨a0, cs, c2, ha0, fun j u hj => ?_⟩;have hjl : j < sz := by rw [<- c2]; exact (List.getElem?_eq_some_iff.1 hj).1
   have := c3 j hjl;rw [hj] at this;rw [<- this, add_add]
  have build : ∀ m, m <= len -> ∃ l : List α, l.length = m /\ ∀ j p, l[j]? = some p -> ∃ c, c.length = sz /\ K p c /\ ∀ i u, c[i]? = some u -> w.cell? (a.add (j * sz + i)) = some u := by
   intro m
   induction m with
   | zero => intro _; exact ⟨[], rfl, fun j p h => by simp at h⟩
   | succ m ih =>
    intro hm';obtain ⟨l, h1, h2⟩ := ih (by omega);obtain ⟨a0, cs, h3, h4, h5⟩ := each m (by omega);refine ⟨l ++ [a0], by simp [h1], fun j p hj => ?_⟩;by_cases hjm : j < m
    ·rw [List.getElem?_append_left (by omega)] at hj;exact h2 j p hj
    ·have hjl := (List.getElem?_eq_some_iff.1 hj).1;simp only [List.length_append, List.length_singleton] at hjl;obtain rfl : j = m := by omega
     rw [<- h1, List.getElem?_append_right (Nat.le_refl _), Nat.sub_self] at hj;have : a0 = p := by simpa using hj
     subst this;exact ⟨cs, h3, h4, h5⟩
  obtain ⟨l, h1, h2⟩ := build len (Nat.le_refl _);exact ⟨l, h1, ⟨h1, by have := Nat.le_trans hl hm; unfold maxLen at this; omega, fun _ => ⟨a, rfl, h2⟩⟩, hl, Nat.le_trans hl hm⟩
theorem open_longs {H : Type} {enc : TypeId × Value -> H} {w : World} {base : Nat} {spare : Nat -> Bool} {held : Bool} {A : Option Addr} {len cap : Nat} {d : DataW H} {ps : List MemPlace}
  (h : DataW.Trod enc Tryz.prog w base spare held 23 (.slice A len cap) d ps) :
  ∃ l : List Int, l.length = len /\ (Kd.int .i64).C w A len l /\ len <= cap /\ len <= maxLen := by
 obtain ⟨fuel, hf⟩ := h;exact open_rows (fun (b : Int) cs => cs = [.int .i64 b]) 1 Tryz.underlying23 (by kernel_rfl) (fun _ _ _ h => by obtain ⟨b, h1, _, _⟩ := DataW.trod_int (k := .i64) (by kernel_rfl) h; exact ⟨b, h1⟩) hf
/-- a slice of pairs. -/
theorem open_pairs {H : Type} {enc : TypeId × Value -> H} {w : World} {base : Nat} {spare : Nat -> Bool} {held : Bool} {A : Option Addr} {len cap : Nat} {d : DataW H} {ps : List MemPlace}
  (h : DataW.Trod enc Tryz.prog w base spare held 24 (.slice A len cap) d ps) :
  ∃ l : List S85, l.length = len /\ Kd.C k85 w A len l /\ len <= cap /\ len <= maxLen := by
 obtain ⟨fuel, hf⟩ := h
 obtain ⟨l, h1, h2, h3, h4⟩ := open_rows (fun (b : S85) cs => cs = [.int .i64 b.f0, .int .i64 b.f1]) 2 Tryz.underlying24 (by kernel_rfl) (fun fuel cs x h => by
  obtain ⟨y0, y1, n, rfl, hl, e0, e1⟩ := trod_struct2 Tryz.underlying85 h;obtain ⟨n0, c0, _, _⟩ := DataW.trod_int (k := .i64) (by kernel_rfl) e0;obtain ⟨n1, c1, _, _⟩ := DataW.trod_int (k := .i64) (by kernel_rfl) e1;have hl2 : cs.length = 2 := by rw [hl]; kernel_rfl
  refine ⟨⟨n0, n1⟩, ?_⟩
  match cs, hl2 with
  | [u0, u1], _ =>
   rw [show Tryz.prog.cellsOf _ = 1 by kernel_rfl] at c0 c1;simp at c0 c1;rw [c0, c1]) hf
 refine ⟨l, h1, ⟨h2.1, h2.2.1, fun hp => ?_⟩, h3, h4⟩;obtain ⟨a, ha, hb⟩ := h2.2.2 hp;refine ⟨a, ha, fun j p hj => ?_⟩;obtain ⟨c, c1, c2, c3⟩ := hb j p hj;exact ⟨c, c1, c2 ▸ k85_mk w p, c3⟩
/-- a slice of steps. -/
theorem open_steps {H : Type} {enc : TypeId × Value -> H} {w : World} {base : Nat} {spare : Nat -> Bool} {held : Bool} {A : Option Addr} {len cap fuel : Nat} {x : DataW H × List MemPlace}
  (hf : DataW.trod enc Tryz.prog w base spare held fuel 35 [.slice A len cap] = some x) :
  ∃ l : List S72, l.length = len /\ Kd.C k72 w A len l := by
 obtain ⟨l, h1, h2, h3, h4⟩ := open_rows (fun (b : S72) cs => cs = [.int .i64 b.f0, .int .i64 b.f1]) 2 Tryz.underlying35 (by kernel_rfl) (fun fuel cs x h => by
  obtain ⟨y0, y1, n, rfl, hl, e0, e1⟩ := trod_struct2 Tryz.underlying72 h;obtain ⟨n0, c0, _, _⟩ := DataW.trod_int (k := .i64) (by kernel_rfl) e0;obtain ⟨n1, c1, _, _⟩ := DataW.trod_int (k := .i64) (by kernel_rfl) e1;have hl2 : cs.length = 2 := by rw [hl]; kernel_rfl
  refine ⟨⟨n0, n1⟩, ?_⟩
  match cs, hl2 with
  | [u0, u1], _ =>
   rw [show Tryz.prog.cellsOf _ = 1 by kernel_rfl] at c0 c1;simp at c0 c1;rw [c0, c1]) hf
 refine ⟨l, h1, ⟨h2.1, h2.2.1, fun hp => ?_⟩⟩;obtain ⟨a, ha, hb⟩ := h2.2.2 hp;refine ⟨a, ha, fun j p hj => ?_⟩;obtain ⟨c, c1, c2, c3⟩ := hb j p hj;exact ⟨c, c1, c2 ▸ k72_mk w p, c3⟩
/-- a slice of what is to be done. -/
theorem open_dos {H : Type} {enc : TypeId × Value -> H} {w : World} {base : Nat} {spare : Nat -> Bool} {held : Bool} {A : Option Addr} {len cap : Nat} {d : DataW H} {ps : List MemPlace}
  (h : DataW.Trod enc Tryz.prog w base spare held 25 (.slice A len cap) d ps) :
  ∃ l : List Do3, l.length = len /\ DoAt w A l /\ len <= maxLen := by
 obtain ⟨fuel, hf⟩ := h
 obtain ⟨l, h1, h2, h3, h4⟩ := open_rows (fun (b : Do3) cs => ∃ A1 c1, cs = [.int .i64 b.who, .int .i64 b.n, .slice A1 b.steps.length c1] /\ Kd.C k72 w A1 b.steps.length b.steps) 3 Tryz.underlying25 (by kernel_rfl) (fun fuel cs x h => by
  obtain ⟨xs, n, _, rfl, hl, hlen, hf⟩ := DataW.trod_struct Tryz.underlying37 h;have hl2 : cs.length = 3 := by rw [hl]; kernel_rfl
  have e0 := hf 0 _ rfl;have e1 := hf 1 _ rfl;have e2 := hf 2 _ rfl
  match xs, hlen, cs, hl2 with
  | [y0, y1, y2], _, [u0, u1, u2], _ =>
   simp only [List.getElem?_cons_zero, List.getElem?_cons_succ] at e0 e1 e2;obtain ⟨n0, c0, _, _⟩ := DataW.trod_int (k := .i64) (by kernel_rfl) e0;obtain ⟨n1, c1, _, _⟩ := DataW.trod_int (k := .i64) (by kernel_rfl) e1;rw [show Tryz.prog.cellsOf _ = 1 by kernel_rfl] at c0 c1;simp at c0 c1;subst c0 c1;rw [show Tryz.prog.cellsOf _ = 1 by kernel_rfl] at e2;simp at e2
   have hs : ∃ A1 n1 c1, u2 = .slice A1 n1 c1 := by
    rcases DataW.trod_slice Tryz.underlying35 e2 with ⟨h0, _⟩ | ⟨a, len', cap', elems, rest, n, _, hcs, _⟩
    ·injection h0 with h0 _;exact ⟨_, _, _, h0⟩
    ·injection hcs with h0 _;exact ⟨_, _, _, h0⟩
   obtain ⟨A1, m1, c1, rfl⟩ := hs;obtain ⟨st, hst, hC⟩ := open_steps e2;subst hst;exact ⟨⟨n0, n1, st⟩, A1, c1, rfl, hC⟩) hf
 refine ⟨l, h1, fun k hk => ?_, h4⟩;obtain ⟨a, ha, hb⟩ := h2.2.2 (by omega);obtain ⟨c, c1, ⟨A1, cc, rfl, c2⟩, c4⟩ := hb k l[k] (List.getElem?_eq_getElem hk);exact ⟨a, A1, cc, ha, c4 0 _ rfl, by rw [<- add_field2 _ _ 1 (by omega)]; exact c4 1 _ rfl, by rw [<- add_field2 _ _ 2 (by omega)]; exact c4 2 _ rfl, c2⟩
end Go.Proofs.YtfimkmlgnmaopaaGreat.Open
