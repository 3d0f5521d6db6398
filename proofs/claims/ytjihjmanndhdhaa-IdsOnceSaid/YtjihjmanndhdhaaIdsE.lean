/- Names that are given once: the plain law of IdsOnce, and a set of names in a map of one's own. -/
import Derived.Test.YtjihjmanndhdhaaIdsC
import Derived.Maps.OwnSet
namespace Go.Proofs.Ytjihjmanndhdhaa.Ids
open Go.RowKit Go.Maps Go.Proofs.YtjihjmanndhdhaaW.PrintWords Go.Proofs.YtjihjmanndhdhaaW.PrintLast Go.Proofs.YtjihjmanndhdhaaW.PrintMore Go.Proofs.Ytjihjmanndhdhaa.PIdsKnown

theorem law28 : Keyed Try.prog 28 := int_keyed Try.underlying28
theorem zero4 (w : World) : (zeroValue 4).run Try.prog w = .ok (.bool false) w := by kernel_rfl

/-- the map that is read as D holds just q. -/
structure SetIs (D : DataW Unit) (q : List Int) : Prop where
  tidy : Tidy D
  has : ∀ x : Int, Maps.has D (.int .u32 x) = decide (x ∈ q)

theorem SetIs.nil : SetIs (.map []) [] := ⟨tidy_empty, fun _ => by simp [Maps.has]⟩

theorem key32_ne {x y : Int} (h : x ≠ y) : Lit.int .u32 x ≠ Lit.int .u32 y := fun e => h (by injection e)

theorem SetIs.put {D : DataW Unit} {q : List Int} (h : SetIs D q) (x : Int) : SetIs (D.put (.int .u32 x) (.lit (.bool true))) (q ++ [x]) := by
  have hk : WideAt.IsKeyLit (.int .u32 x) := trivial
  refine ⟨h.tidy.put hk _, fun y => ?_⟩
  by_cases e : y = x
  · subst e; rw [has_put_same h.tidy.isMap hk]; simp
  · rw [has_put_other (key32_ne e), h.has]; simp [e]

theorem plainElem_bool_inv {v : Value} {b : Bool} {ps : List MemPlace} (h : plainElem Try.prog 4 v = some ((.lit (.bool b) : DataW Unit), ps)) : v = .bool b := by
  unfold plainElem at h
  rw [Try.underlying4] at h
  cases v <;> simp at h
  rw [h.1]

theorem look_new {w : World} {m n : Nat} {D : DataW Unit} {q : List Int} (h : w.ownsMap Try.prog 28 (plainElem Try.prog 4) m n D) (hD : SetIs D q) {x : Int} (hx : x ∉ q) (hw : (Lit.int .u32 x).wf = true) :
    (Instr.lookup 71 (.map (some m)) (.int .u32 x) false).run Try.prog w = .ok (.bool false) w := by
  obtain ⟨v, ps, hrun, hv⟩ := h.lookup law28 Try.underlying71 (zero4 w) (plainElem_bool Try.underlying4 false) (keyOf_int_mk Try.underlying28 hw)
  rw [atKey_of_not_has (by rw [hD.has]; simp [hx])] at hv
  rw [hrun, plainElem_bool_inv hv]

/-! ### the names of a table -/
def namesFrom (k : Nat) (l : List (Int × Bool)) : List Int := (l.zipIdx k).filterMap fun q => if q.1.2 then some (q.1.1 * 256 + q.2) else none

theorem names_from (l : List (Int × Bool)) : names l = namesFrom 0 l := rfl

theorem namesFrom_append (k : Nat) (a b : List (Int × Bool)) : namesFrom k (a ++ b) = namesFrom k a ++ namesFrom (k + a.length) b := by
  unfold namesFrom
  rw [List.zipIdx_append, List.filterMap_append]

theorem namesFrom_cons (k : Nat) (p : Int × Bool) (l : List (Int × Bool)) : namesFrom k (p :: l) = (if p.2 then [p.1 * 256 + k] else []) ++ namesFrom (k + 1) l := by
  unfold namesFrom
  cases h : p.2 <;> simp [h]

theorem split_at {l : List (Int × Bool)} {i : Nat} (h : i < l.length) : l = l.take i ++ l.getD i (0, false) :: l.drop (i + 1) := by
  have : l.getD i (0, false) = l[i] := by rw [List.getD_eq_getElem?_getD, List.getElem?_eq_getElem h]; rfl
  rw [this, ← List.drop_eq_getElem_cons h, List.take_append_drop]

theorem names_split {l : List (Int × Bool)} {i : Nat} (h : i < l.length) : names l = namesFrom 0 (l.take i) ++ ((if (l.getD i (0, false)).2 then [(l.getD i (0, false)).1 * 256 + i] else []) ++ namesFrom (i + 1) (l.drop (i + 1))) := by
  have e : (l.take i).length = i := by rw [List.length_take]; omega
  rw [names_from]
  conv => lhs; rw [split_at h]
  rw [namesFrom_append, namesFrom_cons, e, Nat.zero_add]

theorem names_set {l : List (Int × Bool)} {i : Nat} (h : i < l.length) (p : Int × Bool) : names (l.set i p) = namesFrom 0 (l.take i) ++ ((if p.2 then [p.1 * 256 + i] else []) ++ namesFrom (i + 1) (l.drop (i + 1))) := by
  have e : (l.take i).length = i := by rw [List.length_take]; omega
  rw [names_from, List.set_eq_take_append_cons_drop, if_pos h, namesFrom_append, namesFrom_cons, e, Nat.zero_add]

theorem mem_names {l : List (Int × Bool)} {x : Int} (h : x ∈ names l) : ∃ p, p < l.length ∧ (l.getD p (0, false)).2 = true ∧ x = (l.getD p (0, false)).1 * 256 + p := by
  unfold names at h
  obtain ⟨⟨a, p⟩, ha, hx⟩ := List.mem_filterMap.1 h
  have hp := List.mem_zipIdx ha
  simp only [Nat.sub_zero, Nat.zero_add] at hp
  obtain ⟨_, h1, h2⟩ := hp
  have e : l.getD p (0, false) = a := by rw [List.getD_eq_getElem?_getD, List.getElem?_eq_getElem h1, h2]; rfl
  simp only at hx
  split at hx
  · rename_i ht
    refine ⟨p, h1, by rw [e]; exact ht, ?_⟩
    rw [e]
    injection hx with hx
    exact hx.symm
  · cases hx

theorem getD_set {l : List (Int × Bool)} {i j : Nat} (h : i < l.length) (p : Int × Bool) : (l.set i p).getD j (0, false) = if j = i then p else l.getD j (0, false) := by
  rw [List.getD_eq_getElem?_getD, List.getElem?_set]
  split
  · rename_i e
    subst e
    rw [if_pos rfl]
    rfl
  · rename_i e
    rw [if_neg (Ne.symm e), List.getD_eq_getElem?_getD]

/-- gens are at most so many. -/
def GenLe (l : List (Int × Bool)) (m : Nat) : Prop := ∀ p, p < l.length → 0 ≤ (l.getD p (0, false)).1 ∧ (l.getD p (0, false)).1 ≤ m

theorem GenLe.ok {l : List (Int × Bool)} {m : Nat} (h : GenLe l m) (hm : m ≤ 1000) : GenOk l := by
  intro p hp
  obtain ⟨i, hi, rfl⟩ := List.mem_iff_getElem.1 hp
  have := h i hi
  have e : l.getD i (0, false) = l[i] := by rw [List.getD_eq_getElem?_getD, List.getElem?_eq_getElem hi]; rfl
  rw [e] at this
  exact ⟨this.1, by omega⟩

theorem GenLe.set {l : List (Int × Bool)} {m m' i : Nat} (h : GenLe l m) (hm : m ≤ m') (hi : i < l.length) (g : Int) (b : Bool) (h0 : 0 ≤ g) (h1 : g ≤ m') : GenLe (l.set i (g, b)) m' := by
  intro p hp
  rw [getD_set hi]
  split
  · exact ⟨h0, h1⟩
  · have := h p (by simpa using hp)
    exact ⟨this.1, by omega⟩

theorem genLe_new (n m : Nat) : GenLe (List.replicate n (0, false)) m := by
  intro p hp
  simp at hp
  simp [List.getD_eq_getElem?_getD, hp]

/-- each name that was given: is taken still, or its place's gen has gone up. -/
def Seen (l : List (Int × Bool)) (q : List Int) : Prop :=
  ∀ x ∈ q, ∃ p g, p < l.length ∧ x = g * 256 + (p : Int) ∧ (g < (l.getD p (0, false)).1 ∨ (g = (l.getD p (0, false)).1 ∧ (l.getD p (0, false)).2 = true))

theorem Seen.fresh {l : List (Int × Bool)} {q : List Int} (h : Seen l q) (hl : l.length ≤ 256) {i : Nat} (hi : i < l.length) (hf : (l.getD i (0, false)).2 = false) : (l.getD i (0, false)).1 * 256 + i ∉ q := by
  intro hx
  obtain ⟨p, g, h1, h2, h3⟩ := h _ hx
  have e : p = i := by omega
  subst e
  have e2 : g = (l.getD p (0, false)).1 := by omega
  rcases h3 with h3 | ⟨_, h3⟩
  · omega
  · rw [hf] at h3; cases h3

theorem Seen.take {l : List (Int × Bool)} {q : List Int} (h : Seen l q) {i : Nat} (hi : i < l.length) (hf : (l.getD i (0, false)).2 = false) : Seen (l.set i ((l.getD i (0, false)).1, true)) (q ++ [(l.getD i (0, false)).1 * 256 + i]) := by
  intro x hx
  rcases List.mem_append.1 hx with hx | hx
  · obtain ⟨p, g, h1, h2, h3⟩ := h x hx
    refine ⟨p, g, by simpa using h1, h2, ?_⟩
    rw [getD_set hi]
    split
    · rename_i e
      subst e
      rcases h3 with h3 | ⟨h3, _⟩
      · exact .inl h3
      · exact .inr ⟨h3, rfl⟩
    · exact h3
  · simp only [List.mem_singleton] at hx
    refine ⟨i, _, by simpa using hi, hx, .inr ?_⟩
    rw [getD_set hi, if_pos rfl]
    exact ⟨rfl, rfl⟩

theorem Seen.give {l : List (Int × Bool)} {q : List Int} (h : Seen l q) {i : Nat} (hi : i < l.length) (b : Bool) : Seen (l.set i ((l.getD i (0, false)).1 + 1, b)) q := by
  intro x hx
  obtain ⟨p, g, h1, h2, h3⟩ := h x hx
  refine ⟨p, g, by simpa using h1, h2, ?_⟩
  rw [getD_set hi]
  split
  · rename_i e
    subst e
    left
    show g < _ + 1
    rcases h3 with h3 | ⟨h3, _⟩ <;> omega
  · exact h3

theorem is_taken {l : List (Int × Bool)} (hl : l.length ≤ 256) {p : Nat} (hp : p < l.length) (ht : (l.getD p (0, false)).2 = true) {g : Int} (hg : (l.getD p (0, false)).1 = g) (h0 : 0 ≤ g) (h1 : g < 16777216) :
    isOf l (g * 256 + p) = 0 := by
  unfold isOf
  rw [plOf_eq _ (by omega) (by omega), geOf_eq]
  have e1 : (g * 256 + (p : Int)) % 256 = p := by omega
  have e2 : (g * 256 + (p : Int)) / 256 = g := by omega
  rw [e1, e2, Int.toNat_natCast, hg, ht, if_neg (by omega), if_neg (by omega), if_neg (by omega), if_pos rfl]

theorem perm_take {l : List (Int × Bool)} {hs : List Int} (h : hs.Perm (names l)) {i : Nat} (hi : i < l.length) (hf : (l.getD i (0, false)).2 = false) : (hs ++ [(l.getD i (0, false)).1 * 256 + i]).Perm (names (l.set i ((l.getD i (0, false)).1, true))) := by
  rw [names_split hi, hf] at h
  rw [names_set hi]
  simp only [Bool.false_eq_true, if_false, List.nil_append, if_true] at *
  refine (List.Perm.append_right _ h).trans ?_
  rw [List.append_assoc]
  exact List.Perm.append_left _ List.perm_append_comm

theorem perm_give {l : List (Int × Bool)} {hs : List Int} (h : hs.Perm (names l)) {k p : Nat} (hk : k < hs.length) (hp : p < l.length) (ht : (l.getD p (0, false)).2 = true) (hx : hs[k] = (l.getD p (0, false)).1 * 256 + p) (g : Int) :
    (hs.take k ++ hs.drop (k + 1)).Perm (names (l.set p (g, false))) := by
  rw [names_split hp, ht] at h
  rw [names_set hp]
  simp only [Bool.false_eq_true, if_false, List.nil_append, if_true] at *
  have e : hs = hs.take k ++ hs[k] :: hs.drop (k + 1) := by rw [← List.drop_eq_getElem_cons hk, List.take_append_drop]
  rw [e, hx] at h
  have h2 := (List.perm_middle.symm.trans h).trans (List.perm_middle (a := (l.getD p (0, false)).1 * 256 + p) (l₁ := namesFrom 0 (l.take p)) (l₂ := namesFrom (p + 1) (l.drop (p + 1))))
  exact List.Perm.cons_inv h2
theorem first_freeO : ∀ (l : List (Int × Bool)), (∀ i, i < l.length → (l.getD i (0, false)).2 = true) ∨ ∃ i, i < l.length ∧ (l.getD i (0, false)).2 = false ∧ ∀ j, j < i → (l.getD j (0, false)).2 = true
  | [] => .inl (fun i h => absurd h (by simp))
  | p :: t => by
    by_cases hp : p.2 = true
    · rcases first_freeO t with h | ⟨i, h1, h2, h3⟩
      · refine .inl (fun i hi => ?_)
        cases i with
        | zero => exact hp
        | succ i => exact h i (by simpa using hi)
      · refine .inr ⟨i + 1, by simpa using h1, h2, fun j hj => ?_⟩
        cases j with
        | zero => exact hp
        | succ j => exact h3 j (by omega)
    · exact .inr ⟨0, by simp, eq_false_of_ne_true hp, fun j hj => absurd hj (by omega)⟩

end Go.Proofs.Ytjihjmanndhdhaa.Ids
