/- The table of names: At and List: for all tables of at most 256 places. -/
import Derived.Test.YtjihjmanndhdhaaIdsB
import Derived.Lib.Hide
namespace Go.Proofs.Ytjihjmanndhdhaa.Ids
open Go.RowKit Go.Proofs.YtjihjmanndhdhaaW.PrintWords Go.Proofs.YtjihjmanndhdhaaW.PrintLast Go.Proofs.YtjihjmanndhdhaaW.PrintMore Go.Proofs.Ytjihjmanndhdhaa.PIdsKnown

/-- gens are gens. -/
def GenOk (l : List (Int × Bool)) : Prop := ∀ p ∈ l, 0 ≤ p.1 ∧ p.1 < 16777216

theorem GenOk.get {l : List (Int × Bool)} (h : GenOk l) {i : Nat} (hi : i < l.length) : 0 ≤ (l.getD i (0, false)).1 ∧ (l.getD i (0, false)).1 < 16777216 := by
  have : l.getD i (0, false) ∈ l := by
    rw [List.getD_eq_getElem?_getD, List.getElem?_eq_getElem hi]
    exact List.getElem_mem hi
  exact h _ this

theorem GenOk.set {l : List (Int × Bool)} (h : GenOk l) (i : Nat) (g : Int) (b : Bool) (h0 : 0 ≤ g) (h1 : g < 16777216) : GenOk (l.set i (g, b)) := by
  intro p hp
  rcases List.mem_or_eq_of_mem_set hp with hp | rfl
  · exact h p hp
  · exact ⟨h0, h1⟩

theorem genOk_new (n : Nat) : GenOk (List.replicate n (0, false)) := by
  intro p hp
  have := (List.mem_replicate.1 hp).2
  subst this
  exact ⟨by omega, by omega⟩

set_option maxHeartbeats 1000000 in
theorem at_no (t s : Nat) (l : List (Int × Bool)) (p : Int) (w : World) (h : Tab w t s l) (hp : p < 0 ∨ (l.length : Int) ≤ p) :
    Calls Try.prog 38 #[.pointer (some ⟨t, 0, none⟩), .int .i64 p] w fun e w' => e = .returned (.tuple #[.int .u32 0, .bool false]) ∧ w = w' := by
  have hc := h.cell_t
  have hlen := h.len
  clear h
  have hp' : p < 0 ∨ (0 ≤ p ∧ (l.length : Int) ≤ p) := by omega
  clear hp
  rcases hp' with hp | ⟨hp, hq⟩
  all_goals
    go_enter Try.func38, Try.ntmps38
    go_wp2
    go_ret2
    exact ⟨rfl, rfl⟩

set_option maxHeartbeats 1000000 in
theorem at_free (t s : Nat) (l : List (Int × Bool)) (p : Nat) (w : World) (h : Tab w t s l) (hp : p < l.length) (hf : (l.getD p (0, false)).2 = false) :
    Calls Try.prog 38 #[.pointer (some ⟨t, 0, none⟩), .int .i64 p] w fun e w' => e = .returned (.tuple #[.int .u32 0, .bool false]) ∧ w = w' := by
  have hc := h.cell_t
  have hlen := h.len
  have hct := h.cell_taken hp
  rw [hf] at hct
  clear h hf
  go_enter Try.func38, Try.ntmps38
  go_wp2
  go_ret2
  exact ⟨rfl, rfl⟩

set_option maxHeartbeats 1000000 in
theorem at_taken (t s : Nat) (l : List (Int × Bool)) (p : Nat) (g : Int) (w : World) (h : Tab w t s l) (hp : p < l.length) (hf : (l.getD p (0, false)).2 = true) (hg : (l.getD p (0, false)).1 = g) (h0 : 0 ≤ g) (h1 : g < 16777216) :
    Calls Try.prog 38 #[.pointer (some ⟨t, 0, none⟩), .int .i64 p] w fun e w' => e = .returned (.tuple #[.int .u32 (g * 256 + p), .bool true]) ∧ ∃ n, w' = w.drewN n := by
  have hc := h.cell_t
  have hlen := h.len
  have hct := h.cell_taken hp
  have hcg := h.cell_gen hp
  rw [hf] at hct
  rw [hg] at hcg
  have M : ∀ w, Calls Try.prog 19 #[.int .i64 p, .int .i64 g] w fun e w' => e = .returned (.tuple #[.int .u32 (g * 256 + p), .bool true]) ∧ Drawn0 w w' :=
    fun w => ids_Make.calls p g _ _ w (make_eq p g (by omega) (by omega) h0 h1)
  have H0 := Lib.hid h0
  have H1 := Lib.hid h1
  obtain ⟨z, hz⟩ : ∃ z, z = g * 256 + (p : Int) := ⟨_, rfl⟩
  rw [← hz] at M ⊢
  clear h hf hg h0 h1 hz
  go_enter Try.func38, Try.ntmps38
  go_wp2_with (go_at_call 19; (with_reducible refine (M _).mono ?_); rintro e w' ⟨rfl, ⟨nd, rfl⟩⟩)
  go_ret2
  exact ⟨rfl, ⟨nd, rfl⟩⟩

/-- all names that are taken, place by place. -/
def names (l : List (Int × Bool)) : List Int := l.zipIdx.filterMap fun q => if q.1.2 then some (q.1.1 * 256 + q.2) else none

theorem names_snoc (l : List (Int × Bool)) (p : Int × Bool) : names (l ++ [p]) = names l ++ (if p.2 then [p.1 * 256 + l.length] else []) := by
  unfold names
  rw [List.zipIdx_append, List.filterMap_append]
  congr 1
  cases h : p.2 <;> simp [h]

theorem take_snoc {l : List (Int × Bool)} {k : Nat} (h : k < l.length) : l.take (k + 1) = l.take k ++ [l.getD k (0, false)] := by
  rw [List.take_succ_eq_append_getElem h, List.getD_eq_getElem?_getD, List.getElem?_eq_getElem h]
  rfl

theorem names_len (l : List (Int × Bool)) : (names l).length ≤ l.length := by
  unfold names
  exact Nat.le_trans (List.length_filterMap_le _ _) (by simp)

theorem info28 : (Try.prog.info? 28).map (fun i => (i.zero, i.size, i.bytes)) = some (some (.int .u32 0), 1, 4) := by kernel_rfl

set_option maxHeartbeats 2000000 in
theorem list_calls (t s : Nat) (l : List (Int × Bool)) (w : World) (h : Tab w t s l) (hg : GenOk l) :
    Calls Try.prog 39 #[.pointer (some ⟨t, 0, none⟩)] w fun e w' => ∃ v, e = .returned v ∧ (Kd.int .u32).R 28 w' w.heap.size (fun _ => True) v (names l) ∧ Below w.heap.size w w' := by
  have hc := h.cell_t
  have hlen := h.len
  have H := Lib.hid h
  have HG := Lib.hid hg
  clear h hg
  go_enter Try.func39, Try.ntmps39
  go_wp2
  go_loopw [3, 12] (fun v3 v12 wr => ∃ k : Nat, v12 = .int .i64 k ∧ k ≤ l.length ∧ Hid ((Kd.int .u32).R 28 wr w.heap.size (fun _ => True) v3 (names (l.take k))) ∧ Hid (Below w.heap.size w wr)) (fun _ v12 _ => l.length - (intOf v12).toNat)
  case atStart => exact ⟨0, rfl, Nat.zero_le _, Kd.R_nil _ _ _ _ _, Below.refl _ _⟩
  case round =>
    obtain ⟨k, rfl, hk, HR, HB⟩ := hrel
    by_cases hlt : k < l.length
    · have HT : Hid (Tab wr t s l) := H.out.of_heap (HB.out.block _ H.out.lt_t) (HB.out.block _ H.out.lt_s)
      have hn := names_snoc (l.take k) (l.getD k (0, false))
      rw [← take_snoc hlt, List.length_take, Nat.min_eq_left hk] at hn
      have HLn : (names (l.take k)).length ≤ 256 := Nat.le_trans (names_len _) (by rw [List.length_take]; omega)
      cases htk : (l.getD k (0, false)).2
      · have D := at_free t s l k wr HT.out hlt htk
        rw [htk] at hn
        have hn2 : names (l.take (k + 1)) = names (l.take k) := by rw [hn]; simp
        have HN := Lib.hid hn2
        clear hn hn2 htk
        go_wp2_with (go_at_call 38; (with_reducible refine D.mono ?_); rintro e w' ⟨rfl, rfl⟩)
        go_roundw
        case rel => exact ⟨k + 1, by go_num, by omega, by rw [HN.out]; exact HR, HB⟩
        case measure => simp [intOf]; omega
      · have hgb := HG.out.get hlt
        have D := at_taken t s l k _ wr HT.out hlt htk rfl hgb.1 hgb.2
        rw [htk] at hn
        obtain ⟨z, hz⟩ : ∃ z, z = (l.getD k (0, false)).1 * 256 + (k : Int) := ⟨_, rfl⟩
        rw [← hz] at D hn
        have hn2 : names (l.take (k + 1)) = names (l.take k) ++ [z] := by rw [hn]; simp
        have HN := Lib.hid hn2
        clear hn hn2 htk hgb hz
        go_wp2_with (first
          | (go_at_call 38; (with_reducible refine D.mono ?_); rintro e w' ⟨rfl, ⟨nd, rfl⟩⟩; have HR' := Lib.hid (Kd.R_drewN HR.out nd); have HB' := Lib.hid (pw_below_drewN HB.out nd))
          | ((with_reducible refine gate_builtin (b := .append) (xs := #[.tmp 22, .tmp 24]) rfl ?_); at_builtin; refine Kd.R_append (Kd.int .u32) (w0 := w) w.heap.size rfl (.tmp 22) (.tmp 24) 58 28 (.int .u32 0) 4 rfl Try.underlying58 info28 rfl (by decide) (by omega) u3 (names (l.take k)) z [.int .u32 z] (fun _ => True) (fun _ => False) rfl rfl ?aP (fun _ hk => hk.elim) (fun _ _ => trivial) HR'.out HB'.out HB'.out.size ?aL ?_; (case aP => exact rfl); (case aL => omega); intro v1 w4 hR4 hB4 hg4 hat4))
        exact ⟨⟨k + 1, by go_num, by omega, by rw [HN.out]; exact hR4, hB4⟩, by simp [intOf]; omega⟩
    · obtain rfl : k = l.length := by omega
      rw [List.take_length] at HR
      go_wp2
      go_ret
      exact ⟨_, rfl, HR.out, HB.out⟩
end Go.Proofs.Ytjihjmanndhdhaa.Ids
