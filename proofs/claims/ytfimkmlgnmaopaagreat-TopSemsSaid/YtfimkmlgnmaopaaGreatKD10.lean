/- Part 10 of what is proved of the functions that the law reaches (contracts of functions, plain laws): no condition but those that each theorem names. -/
import Derived.Test.YtfimkmlgnmaopaaGreatKD9
namespace Go.Proofs.YtfimkmlgnmaopaaGreat.Top
set_option maxHeartbeats 40000000
set_option maxRecDepth 100000
open Go.RowKit Go.Proofs.YtfimkmlgnmaopaaGreatW.PrintWords Go.Proofs.YtfimkmlgnmaopaaGreatW.PrintLast Go.Proofs.YtfimkmlgnmaopaaGreatW.PrintMore Go.Proofs.YtfimkmlgnmaopaaGreat.PTopNames
def xJ (b d m dn r : Int) : S57 := ⟨1, ⟨2, 5, b, d, m⟩, [⟨1, [⟨0, 3⟩], 0, dn⟩], 0, 0, 1, r⟩
theorem aw_set0 : settleL 1 0 [xJ 2 5 1 0 0] [] = ([xJ 2 5 1 0 0], [], []) := by kernel_rfl
theorem aw_set1 : settleL 1 1 [xJ 1 5 1 1 1] [] = ([xJ 1 5 1 1 1], [], []) := by kernel_rfl
theorem aw_set2 : settleL 1 2 [xJ 0 5 2 2 2] [] = ([xJ 0 5 2 2 2], [], []) := by kernel_rfl
theorem aw_set5 : settleL 1 5 [xJ 0 5 2 2 2] [] = ([xJ 2 10 1 2 2], [], [⟨5, 5, 1, 0⟩]) := by kernel_rfl
theorem aw_set5b : settleL 1 5 [xJ 2 10 1 2 2] [] = ([xJ 2 10 1 2 2], [], []) := by kernel_rfl
theorem aw_st0 : stillL 1 0 6 [xJ 2 5 1 0 0] [] = 1 := by kernel_rfl
theorem aw_st1 : stillL 1 1 5 [xJ 1 5 1 1 1] [] = 0 := by kernel_rfl
theorem aw_st2 : stillL 1 2 4 [xJ 0 5 2 2 2] [] = 3 := by kernel_rfl
theorem aw_st5 : stillL 1 5 1 [xJ 2 10 1 2 2] [] = 0 := by kernel_rfl
theorem aw_sk0 : skipL 1 1 [xJ 2 5 1 0 0] = [xJ 1 5 1 1 1] := by kernel_rfl
theorem aw_sk2 : skipL 1 3 [xJ 0 5 2 2 2] = [xJ 0 5 2 2 2] := by kernel_rfl
theorem aw_tk1 : tickL 1 1 [xJ 1 5 1 1 1] [] = ([xJ 0 5 2 2 2], [], [⟨2, 4, 1, 0⟩]) := by kernel_rfl
theorem aw_tk5 : tickL 1 5 [xJ 2 10 1 2 2] [] = ([⟨1, ⟨2, 5, 1, 10, 0⟩, [], 0, 0, 1, 3⟩], [], [⟨6, 2, 1, 1⟩, ⟨6, 10, 1, 0⟩]) := by kernel_rfl
theorem aw_pl1 : placesOf 1 [xJ 1 5 1 1 1] = [0] := by kernel_rfl
theorem aw_pl5 : placesOf 1 [xJ 2 10 1 2 2] = [0] := by kernel_rfl
theorem aw_go : goL 6 1 0 6 [xJ 2 5 1 0 0] [] = ([⟨1, ⟨2, 5, 1, 10, 0⟩, [], 0, 0, 1, 3⟩], [], [⟨2, 4, 1, 0⟩, ⟨5, 5, 1, 0⟩, ⟨6, 2, 1, 1⟩, ⟨6, 10, 1, 0⟩]) := by kernel_rfl
def awI (now : Int) (l : List S57) (q : List S63) : Prop := q = [] /\ ((now = 0 /\ l = [xJ 2 5 1 0 0]) \/ (now = 1 /\ l = [xJ 1 5 1 1 1]) \/ (now = 2 /\ l = [xJ 0 5 2 2 2]) \/ (now = 5 /\ l = [xJ 0 5 2 2 2]) \/ (now = 6 /\ l = [⟨1, ⟨2, 5, 1, 10, 0⟩, [], 0, 0, 1, 3⟩]))
theorem aw_job {d : Int} (h0 : 0 <= d) (h1 : d <= 3) : JobOk ⟨1, [⟨0, 3⟩], 0, d⟩ := ⟨by show (1 : Int) <= 1; decide, by show pgoodB [⟨0, 3⟩] = true; decide, by show (0 : Int) <= 0; decide, by show (0 : Int) < ((1 : Nat) : Int); decide, h0, h1⟩
theorem aw_cbs {b d m : Int} (h0 : 0 <= b) (h1 : b <= 2) (h2 : 0 <= d) (h3 : d <= 10) (h4 : 0 <= m) (h5 : m <= 2) (h6 : m = 1 -> 0 < b) : CbsOk ⟨2, 5, b, d, m⟩ := ⟨by show (1 : Int) <= 2; decide, by show (2 : Int) <= 5; decide, by show (5 : Int) <= 2147483648; decide, h0, h1, h2, by show d <= _; omega, h4, h5, h6⟩
theorem aw_sane (x : S57) (h : x.f0 = 1) : Sane 1 [x] := ⟨by decide, by decide, by simp, by simp [Sorted], fun k hk => by
 obtain rfl : k = 0 := by simp at hk; omega
 simp [h], by
 have h1 : fixes (readyL [x]) <= 1 := by
  rw [fixes_count];have := List.countP_le_length (p := fixd) (l := [x]);simpa using this
 omega⟩
theorem aw_mok {now b d m dn r : Int} (n0 : 0 <= now) (n1 : now <= 6) (hc : CbsOk ⟨2, 5, b, d, m⟩) (hd0 : 0 <= dn) (hd1 : dn <= 3) : MOk 1 now [xJ b d m dn r] [] where
 sane := aw_sane _ rfl
 now0 := n0
 now1 := by omega
 cbs := fun k hk => by
  obtain rfl : k = 0 := by simp at hk; omega
  exact hc
 job := fun k hk => by
  obtain rfl : k = 0 := by simp at hk; omega
  intro j hj;obtain rfl : j = ⟨1, [⟨0, 3⟩], 0, dn⟩ := by simpa [xJ] using hj
  exact ⟨aw_job hd0 hd1, fun s hs => by
   obtain rfl : s = ⟨0, 3⟩ := by simpa using hs
   decide⟩
 jlen := fun k hk => by
  obtain rfl : k = 0 := by simp at hk; omega
  show 1 <= 8;decide
 mode := fun k hk h => by
  obtain rfl : k = 0 := by simp at hk; omega
  simp [xJ]
 qlen := by simp
 most := fun k hk => by simp at hk
 room := fun k hk => by simp at hk
theorem aw_still {now b d m dn r : Int} (n0 : 0 <= now) (n1 : now <= 6) (hc : CbsOk ⟨2, 5, b, d, m⟩) (hd0 : 0 <= dn) (hd1 : dn <= 3) : StillOk 1 now [xJ b d m dn r] [] where
 sane := aw_sane _ rfl
 now0 := n0
 now1 := by omega
 cbs := fun k hk => by
  obtain rfl : k = 0 := by simp at hk; omega
  exact hc
 run := (aw_mok n0 n1 hc hd0 hd1).run
 held := fun k hk => by
  obtain rfl : k = 0 := by simp at hk; omega
  exact ⟨by show (0 : Int) <= 0; decide, by show (0 : Int) <= _; decide⟩
 lock := fun k hk _ h => by
  obtain rfl : k = 0 := by simp at hk; omega
  exact absurd h (by show ¬ (0 : Int) = 2; decide)
 most := fun k hk => by simp at hk
theorem aw_tick {now b d dn r : Int} (n0 : 0 <= now) (n1 : now <= 6) (hc : CbsOk ⟨2, 5, b, d, 1⟩) (hd0 : 0 <= dn) (hd1 : dn <= 2) (hr : 0 <= r /\ r <= 6) (hs : settleL 1 now [xJ b d 1 dn r] [] = ([xJ b d 1 dn r], [], [])) (hp : placesOf 1 [xJ b d 1 dn r] = [0]) (he : EndOk (runAll [xJ b d 1 dn r] [0]) [] 0) : TickOk 1 now [xJ b d 1 dn r] [] where
 ok := aw_mok n0 n1 hc hd0 (by omega)
 sane := by rw [hs]; exact aw_sane _ rfl
 run := by
  rw [hs, hp];intro p hp2;obtain rfl : p = 0 := by simpa using hp2
  refine ⟨by simp, hc, rfl, ⟨_, [], rfl, aw_job hd0 (by omega), fun _ => by show dn + 1 <= 3; omega⟩, ⟨hr.1, ?_⟩, ?_⟩
  ·show r <= _; omega
  ·exact ⟨by show (0 : Int) <= 0; decide, by show (0 : Int) <= _; decide⟩
 ends := by
  rw [hs];dsimp only;rw [hp];intro k hk;obtain rfl : k = 0 := by simp at hk; omega
  exact he
theorem aw_skip {n b d dn r m : Int} (hn : 1 <= n) (hn2 : n <= 6) (hc : CbsOk ⟨2, 5, b, d, 1⟩) (hb : n <= b) (hd0 : 0 <= dn) (hd1 : dn + n <= 3) (hr : 0 <= r /\ r <= 6) (hm : m = 1) : SkipOk 1 n [xJ b d m dn r] where
 sane := aw_sane _ rfl
 n1 := hn
 nm := by omega
 run := fun k hk _ => by
  subst hm;obtain rfl : k = 0 := by simp at hk; omega
  exact ⟨hc, rfl, hb, ⟨_, [], rfl, aw_job hd0 (by omega), fun _ => by show dn + n <= 3; omega⟩, ⟨hr.1, by show r <= _; omega⟩, by show (0 : Int) <= 0; decide, by show (0 : Int) <= _; decide⟩
theorem aw_skip2 : SkipOk 1 3 [xJ 0 5 2 2 2] where
 sane := aw_sane _ rfl
 n1 := by decide
 nm := by decide
 run := fun k hk h => by
  obtain rfl : k = 0 := by simp at hk; omega
  have h2 : runsL 1 [xJ 0 5 2 2 2] = [] := by kernel_rfl
  rw [h2] at h;exact absurd h (by simp)
theorem aw_ends {b d m dn r : Int} (hc : CbsOk ⟨2, 5, b, d, m⟩) (hm : m ≠ 0) (hd0 : 0 <= dn) (hd1 : dn <= 3) : EndOk [xJ b d m dn r] [] 0 where
 sorted := by simp [Sorted]
 len := by simp
 qlen := by simp
 que := fun k hk => by simp at hk
 at_ := ⟨by simp, hc, hm, _, [], rfl, aw_job hd0 hd1, by show (0 : Int) <= 0; decide, fun h => absurd h (by show ¬ (0 : Int) = 2; decide)⟩
theorem aw_end1 : EndOk (runAll [xJ 1 5 1 1 1] [0]) [] 0 := by
 have e : runAll [xJ 1 5 1 1 1] [0] = [xJ 0 5 2 2 2] := by kernel_rfl
 rw [e];exact aw_ends (aw_cbs (by decide) (by decide) (by decide) (by decide) (by decide) (by decide) (by decide)) (by decide) (by decide) (by decide)
theorem aw_end5 : EndOk (runAll [xJ 2 10 1 2 2] [0]) [] 0 := by
 have e : runAll [xJ 2 10 1 2 2] [0] = [xJ 1 10 1 3 3] := by kernel_rfl
 rw [e];exact aw_ends (aw_cbs (by decide) (by decide) (by decide) (by decide) (by decide) (by decide) (by decide)) (by decide) (by decide) (by decide)
theorem aw_inv : GoInv 1 6 awI where
 ok := fun now l q ⟨hq, h⟩ hlt => by
  subst hq;rcases h with ⟨rfl, rfl⟩ | ⟨rfl, rfl⟩ | ⟨rfl, rfl⟩ | ⟨rfl, rfl⟩ | ⟨rfl, rfl⟩
  ·rw [aw_set0]; exact ⟨aw_mok (by decide) (by decide) (aw_cbs (by decide) (by decide) (by decide) (by decide) (by decide) (by decide) (by decide)) (by decide) (by decide), aw_still (by decide) (by decide) (aw_cbs (by decide) (by decide) (by decide) (by decide) (by decide) (by decide) (by decide)) (by decide) (by decide)⟩
  ·rw [aw_set1]; exact ⟨aw_mok (by decide) (by decide) (aw_cbs (by decide) (by decide) (by decide) (by decide) (by decide) (by decide) (by decide)) (by decide) (by decide), aw_still (by decide) (by decide) (aw_cbs (by decide) (by decide) (by decide) (by decide) (by decide) (by decide) (by decide)) (by decide) (by decide)⟩
  ·rw [aw_set2]; exact ⟨aw_mok (by decide) (by decide) (aw_cbs (by decide) (by decide) (by decide) (by decide) (by decide) (by decide) (by decide)) (by decide) (by decide), aw_still (by decide) (by decide) (aw_cbs (by decide) (by decide) (by decide) (by decide) (by decide) (by decide) (by decide)) (by decide) (by decide)⟩
  ·rw [aw_set5]; exact ⟨aw_mok (by decide) (by decide) (aw_cbs (by decide) (by decide) (by decide) (by decide) (by decide) (by decide) (by decide)) (by decide) (by decide), aw_still (by decide) (by decide) (aw_cbs (by decide) (by decide) (by decide) (by decide) (by decide) (by decide) (by decide)) (by decide) (by decide)⟩
  ·omega
 skip := fun now l q ⟨hq, h⟩ hlt => by
  subst hq;rcases h with ⟨rfl, rfl⟩ | ⟨rfl, rfl⟩ | ⟨rfl, rfl⟩ | ⟨rfl, rfl⟩ | ⟨rfl, rfl⟩
  ·rw [aw_set0];dsimp only;rw [show (6 : Int) - 0 = 6 from rfl, aw_st0, aw_sk0];exact fun _ => ⟨aw_skip (m := 1) (by decide) (by decide) (aw_cbs (by decide) (by decide) (by decide) (by decide) (by decide) (by decide) (by decide)) (by decide) (by decide) (by decide) (by decide) (by decide), by decide, rfl, .inr (.inl ⟨rfl, rfl⟩)⟩
  ·rw [aw_set1];dsimp only;rw [show (6 : Int) - 1 = 5 from rfl, aw_st1];exact fun h => absurd h (by decide)
  ·rw [aw_set2];dsimp only;rw [show (6 : Int) - 2 = 4 from rfl, aw_st2, aw_sk2];exact fun _ => ⟨aw_skip2, by decide, rfl, .inr (.inr (.inr (.inl ⟨rfl, rfl⟩)))⟩
  ·rw [aw_set5];dsimp only;rw [show (6 : Int) - 5 = 1 from rfl, aw_st5];exact fun h => absurd h (by decide)
  ·omega
 tick := fun now l q ⟨hq, h⟩ hlt => by
  subst hq;rcases h with ⟨rfl, rfl⟩ | ⟨rfl, rfl⟩ | ⟨rfl, rfl⟩ | ⟨rfl, rfl⟩ | ⟨rfl, rfl⟩
  ·rw [aw_set0];dsimp only;rw [show (6 : Int) - 0 = 6 from rfl, aw_st0];exact fun h => absurd h (by decide)
  ·rw [aw_set1];dsimp only;rw [aw_tk1];exact fun _ => ⟨aw_tick (by decide) (by decide) (aw_cbs (by decide) (by decide) (by decide) (by decide) (by decide) (by decide) (by decide)) (by decide) (by decide) (by decide) aw_set1 aw_pl1 aw_end1, rfl, .inr (.inr (.inl ⟨rfl, rfl⟩))⟩
  ·rw [aw_set2];dsimp only;rw [show (6 : Int) - 2 = 4 from rfl, aw_st2];exact fun h => absurd h (by decide)
  ·rw [aw_set5];dsimp only;rw [aw_tk5];exact fun _ => ⟨aw_tick (by decide) (by decide) (aw_cbs (by decide) (by decide) (by decide) (by decide) (by decide) (by decide) (by decide)) (by decide) (by decide) (by decide) aw_set5b aw_pl5 aw_end5, rfl, .inr (.inr (.inr (.inr ⟨rfl, rfl⟩)))⟩
  ·omega
end Go.Proofs.YtfimkmlgnmaopaaGreat.Top
namespace Go.Proofs.YtfimkmlgnmaopaaGreat.Top
set_option maxHeartbeats 40000000
set_option maxRecDepth 100000
open Go.RowKit Go.Proofs.YtfimkmlgnmaopaaGreatW.PrintWords Go.Proofs.YtfimkmlgnmaopaaGreatW.PrintLast Go.Proofs.YtfimkmlgnmaopaaGreatW.PrintMore Go.Proofs.YtfimkmlgnmaopaaGreat.PTopNames
set_option linter.unusedVariables false
set_option linter.unusedSimpArgs false
def awX : S57 := ⟨1, ⟨2, 5, 1, 10, 0⟩, [], 0, 0, 1, 3⟩
def awE (t k n : Int) : List Value := [.int .i64 t, .int .i64 k, .int .i64 1, .int .i64 n]
def awEs : List (List Value) := [awE 0 1 1, awE 0 9 0, awE 2 4 0, awE 5 5 0, awE 6 2 1, awE 6 10 0]
theorem aw_new (w : World) : Calls Tryz.prog 9 #[.int .i64 1, .slice none 0 0] w fun e w' => ∃ N lab, e = .returned (.tuple #[.pointer (some ⟨N, 0, none⟩), .nilIface]) /\ SysAt w' lab N 1 0 [] [] 0 [] [] /\ Below w.heap.size w w' /\ ∀ b, lab b ≠ 0 -> w.heap.size <= b :=
 (snew_calls 1 none 0 [] w (C_nil' _ _ _) (by decide) (by decide) (by decide)).mono fun e w' h => h.1 (by kernel_rfl)
theorem aw_open (N : Nat) (lab : Nat -> Nat) (w : World) (h : SysAt w lab N 1 0 [] [] 0 [] []) : Calls Tryz.prog 18 #[.pointer (some ⟨N, 0, none⟩), .int .i64 2, .int .i64 5] w fun e w' => e = .returned (.tuple #[.int .u32 0, .nilIface]) /\ (∃ lab', SysAt w' lab' N 1 0 [newServ 1 2 5] [] 1 [⟨1, ⟨2, 5⟩, -1⟩] [] /\ Grew w lab lab') /\ Turn w w' (fun b => lab b ≠ 0) :=
 (sopen_calls N lab 1 0 [] [] 0 [] [] w h ⟨by simp [Sorted], by decide, by decide, by decide, by simp, by simp, by simp, by decide, by simp, by simp⟩ 2 5 (by decide) (by decide) (by decide)).mono fun e w' h => h.2 (by kernel_rfl)
theorem aw_rel (N : Nat) (lab : Nat -> Nat) (bk : List S157) (w : World) (h : SysAt w lab N 1 0 [newServ 1 2 5] [] 1 bk []) (Ap : Option Addr) (cp : Nat) (hP : Kd.C k72 w Ap 1 [⟨0, 3⟩]) : Calls Tryz.prog 11 #[.pointer (some ⟨N, 0, none⟩), .int .u32 0, .slice Ap 1 cp] w fun e w' => e = .returned (.tuple #[.int .i64 1, .nilIface]) /\ (∃ lab', SysAt w' lab' N 1 0 [xJ 2 5 1 0 0] [] 1 bk [awE 0 1 1, awE 0 9 0] /\ Grew w lab lab') /\ Turn w w' (fun b => lab b ≠ 0) :=
 (srel_calls N lab 1 0 [newServ 1 2 5] [] 1 bk [] w h 0 (by decide) (by decide) rfl ⟨by simp [Sorted], by decide, by decide, fun k hk => by
  obtain rfl : k = 0 := by simp at hk; omega
  show 0 <= 8;decide, by simp, by decide, by decide, ⟨by decide, by decide, by decide, by decide, by decide, by decide, by decide, by decide, by decide, by decide⟩, by decide, by decide⟩ (by decide) (by simp) Ap cp [⟨0, 3⟩] hP).mono fun e w' h => h.2 (by kernel_rfl)
theorem aw_goes (N : Nat) (lab : Nat -> Nat) (bk : List S157) (w : World) (h : SysAt w lab N 1 0 [xJ 2 5 1 0 0] [] 1 bk [awE 0 1 1, awE 0 9 0]) : Calls Tryz.prog 14 #[.pointer (some ⟨N, 0, none⟩), .int .i64 6] w fun e w' => e = .returned .nilIface /\ (∃ lab', SysAt w' lab' N 1 6 [awX] [] 1 bk awEs /\ Grew w lab lab') /\ Turn w w' (fun b => lab b ≠ 0) :=
 (gos_calls N lab 1 0 6 [xJ 2 5 1 0 0] [] 1 bk [awE 0 1 1, awE 0 9 0] w h (by decide) awI aw_inv ⟨rfl, .inl ⟨rfl, rfl⟩⟩ (by decide) (by decide) (by decide) (by decide)).mono fun e w' h => by
  have h2 := h.2.2;have e6 : goL (6 : Int).toNat 1 0 (0 + 6) [xJ 2 5 1 0 0] [] = ([awX], [], [⟨2, 4, 1, 0⟩, ⟨5, 5, 1, 0⟩, ⟨6, 2, 1, 1⟩, ⟨6, 10, 1, 0⟩]) := aw_go;rw [e6] at h2;exact ⟨h.1, h2⟩
theorem aw_events (N : Nat) (lab : Nat -> Nat) (bk : List S157) (w : World) (h : SysAt w lab N 1 6 [awX] [] 1 bk awEs) : Calls Tryz.prog 17 #[.pointer (some ⟨N, 0, none⟩)] w fun e w' => ∃ ad c, e = .returned (.slice (some ad) 6 c) /\ (Kd.raw 4).C w' (some ad) 6 awEs /\ Turn w w' (fun b => lab b ≠ 0) :=
 (eventss_calls N lab 1 6 [awX] [] 1 bk awEs w h (by decide)).mono fun e w' ⟨v, e1, hR, _, hT⟩ => by
  obtain ⟨A, c, rfl, hc, hC⟩ := Kd.R_reads hR;obtain ⟨ad, rfl, _⟩ := hC.2.2 (by decide);exact ⟨ad, c, e1, hC, hT⟩
theorem lit72 (w : World) (x : S72) : Kd.C k72 (w.alloc (.cells #[.int .i64 x.f0, .int .i64 x.f1] 72)) (some ⟨w.heap.size, 0, none⟩) 1 [x] := by
 refine ⟨rfl, by simp, fun _ => ⟨_, rfl, fun j y hy => ?_⟩⟩;have hb := blk_new w (.cells #[.int .i64 x.f0, .int .i64 x.f1] 72)
 cases j with
 | zero =>
  simp only [List.getElem?_cons_zero, Option.some.injEq] at hy;subst hy;refine ⟨_, rfl, k72_mk _ _, fun i u hu => ?_⟩;rw [Nat.zero_mul, Nat.zero_add, addr_at, Nat.zero_add, blk_cell hb]
  match i, hu with
  | 0, h => exact h
  | 1, h => exact h
  | i + 2, h => simp at h
 | succ j => simp at hy
theorem ev_at {w : World} {ad : Addr} {n : Nat} {xs : List (List Value)} (h : (Kd.raw 4).C w (some ad) n xs) {k : Nat} (hk : k < xs.length) (x0 x1 x2 x3 : Value) (hx : xs[k] = [x0, x1, x2, x3]) :
  w.cell? (ad.add (k * 4)) = some x0 /\ w.cell? ⟨(ad.add (k * 4)).block, (ad.add (k * 4)).off + 1, none⟩ = some x1 /\ w.cell? ⟨(ad.add (k * 4)).block, (ad.add (k * 4)).off + 2, none⟩ = some x2 /\ w.cell? ⟨(ad.add (k * 4)).block, (ad.add (k * 4)).off + 3, none⟩ = some x3 := by
 obtain ⟨ad2, e2, hc⟩ := h.2.2 (by have := h.1; omega);injection e2 with e2;subst e2;obtain ⟨cs, hl, hK, hcell⟩ := hc k [x0, x1, x2, x3] (by rw [List.getElem?_eq_getElem hk, hx]);have e : cs = [x0, x1, x2, x3] := by first | exact hK.1 | exact hK.1.symm
 subst e;refine ⟨?_, ?_, ?_, ?_⟩
 ·exact hcell 0 _ rfl
 ·rw [<- addr_next ad (k * 4) 0]; exact hcell 1 _ rfl
 ·rw [<- addr_next ad (k * 4) 1]; exact hcell 2 _ rfl
 ·rw [<- addr_next ad (k * 4) 2]; exact hcell 3 _ rfl
theorem awake_calls (w : World) : Calls Tryz.prog 7 #[] w fun e w' => e = .returned (.bool true) /\ Below w.heap.size w w' := by
 have D1 := aw_new w;go_enter Tryz.func7, Tryz.ntmps7
 go_upto_region 4 with (go_at_call 9; (with_reducible refine D1.mono ?_); rintro e w1 ⟨N, lab, rfl, h1, hB1, hl1⟩; have H1 := hZ h1; have HB1 := hZ hB1; have HL1 := hZ hl1; clear h1 hB1 hl1)
 clear D1;have D2 := aw_open N lab w1 H1.out
 go_upto_region 5 with (go_at_call 18; (with_reducible refine D2.mono ?_); rintro e w2 ⟨rfl, ⟨lab2, h2, hg2⟩, hT2⟩; have H2 := hZ h2; have HG2 := hZ hg2; have HT2 := hZ hT2; clear h2 hg2 hT2)
 clear D2;have HP3 := hZ (lit72 w2 ⟨0, 3⟩);have HB23 := hZ (below_alloc (Below.refl w2.heap.size w2) (.cells #[.int .i64 0, .int .i64 3] 72));have DR := fun wx (hb : Below w2.heap.size w2 wx) Ap cp hP => aw_rel N lab2 _ wx (H2.out.below hb) Ap cp hP
 go_upto_region 6 with (go_at_call 11; (with_reducible refine (DR _ HB23.out _ _ HP3.out).mono ?_); rintro e w4 ⟨rfl, ⟨lab4, h4, hg4⟩, hT4⟩; have H4 := hZ h4; have HG4 := hZ hg4; have HT4 := hZ hT4; clear h4 hg4 hT4)
 clear DR;have D6 := aw_goes N lab4 _ w4 H4.out
 go_upto_region 7 with (go_at_call 14; (with_reducible refine D6.mono ?_); rintro e w5 ⟨rfl, ⟨lab5, h5, hg5⟩, hT5⟩; have H5 := hZ h5; have HG5 := hZ hg5; have HT5 := hZ hT5; clear h5 hg5 hT5)
 clear D6;have D7 := aw_events N lab5 _ w5 H5.out
 go_upto_region 8 with (go_at_call 17; (with_reducible refine D7.mono ?_); rintro e w6 ⟨ad, c6, rfl, hC6, hT6⟩; have HC6 := hZ hC6; have HT6 := hZ hT6; clear hC6 hT6)
 clear D7;obtain ⟨e0, e1, e2, e3⟩ := ev_at HC6.out (k := 4) (by decide) (.int .i64 6) (.int .i64 2) (.int .i64 1) (.int .i64 1) rfl;replace e0 : w6.cell? ⟨ad.block, ad.off + 16, none⟩ = some (.int .i64 6) := e0;replace e1 : w6.cell? ⟨ad.block, ad.off + 16 + 1, none⟩ = some (.int .i64 2) := e1;replace e2 : w6.cell? ⟨ad.block, ad.off + 16 + 2, none⟩ = some (.int .i64 1) := e2;replace e3 : w6.cell? ⟨ad.block, ad.off + 16 + 3, none⟩ = some (.int .i64 1) := e3;go_wp2;go_ret;have s1 := HB1.out.size;have s2 := HT2.out.size;have s3 := HB23.out.size;have s4 := HT4.out.size;have s5 := HT5.out.size;have l2 : ∀ b, lab2 b ≠ 0 -> w.heap.size <= b := fun b hb => (HG2.out b hb).elim (HL1.out b) (fun h => by omega)
 have l4 : ∀ b, lab4 b ≠ 0 -> w.heap.size <= b := fun b hb => (HG4.out b hb).elim (l2 b) (fun h => by omega)
 have l5 : ∀ b, lab5 b ≠ 0 -> w.heap.size <= b := fun b hb => (HG5.out b hb).elim (l4 b) (fun h => by omega)
 exact ⟨rfl, Turn.below (Turn.below (Turn.below ((Turn.below HB1.out HT2.out HL1.out s1).trans (HB23.out.mono (by omega))) HT4.out l2 (by omega)) HT5.out l4 (by omega)) HT6.out l5 (by omega)⟩
structure Law (w : World) (lab : Nat -> Nat) (N : Nat) (M now c : Int) (wt : Nat -> Int) (l : List S57) (q : List S63) (R : Nat -> List Nat) (bk : List S157) (E : List (List Value)) (eb : Nat) : Prop where
  sys : SysAt w lab N M now l q l.length bk E
  inv : Inv M now c wt noD l q R
  ids : ∀ k, k < l.length -> (at_ l k).f0 = (k : Int) + 1
  ev : E.length <= eb
section
variable {w w' : World} {lab : Nat -> Nat} {N : Nat} {M now c : Int} {wt : Nat -> Int} {l : List S57} {q : List S63} {R : Nat -> List Nat} {bk : List S157} {E : List (List Value)} {eb : Nat}
theorem Law.turn (h : Law w lab N M now c wt l q R bk E eb) {S : Nat -> Prop} (ht : Turn w w' S) (hS : ∀ b, S b -> lab b = 0) : Law w' lab N M now c wt l q R bk E eb := ⟨h.sys.turn ht hS, h.inv, h.ids, h.ev⟩
theorem Law.below (h : Law w lab N M now c wt l q R bk E eb) (hb : Below w.heap.size w w') : Law w' lab N M now c wt l q R bk E eb := ⟨h.sys.below hb, h.inv, h.ids, h.ev⟩
theorem Law.more (h : Law w lab N M now c wt l q R bk E eb) {c' : Int} (hc : c <= c') {wt' : Nat -> Int} (hw : ∀ k, wt' k <= wt k \/ ∀ n, k ∉ (R n).tail) {eb' : Nat} (he : eb <= eb') : Law w lab N M now c' wt' l q R bk E eb' := ⟨h.sys, h.inv.more hc hw, h.ids, Nat.le_trans h.ev he⟩
theorem goL_few (M now : Int) (l : List S57) (q : List S63) (hl : l.length <= 12) (h2 : (settleL M now l q).1.length <= 12) (h3 : (settleL M now (settleL M now l q).1 (settleL M now l q).2.1).1.length <= 12) : (goL 1 M now (now + 1) l q).2.2.length <= 1000 := by
  have h1 := settleL_few M now l q hl;have h4 := tickL_few M now (settleL M now l q).1 (settleL M now l q).2.1 h2 h3;rw [goL_one];split
  · exact Nat.le_trans h1 (by omega)
  · dsimp only;rw [List.length_append];omega
theorem Law.go (h : Law w lab N M now c wt l q R bk E eb) (hn : now < 1000000000) (hw : ∀ k, k < l.length -> (at_ l k).f3 = 0 -> wt k <= 0) (heb : eb <= 9000000) :
    Calls Tryz.prog 14 #[.pointer (some ⟨N, 0, none⟩), .int .i64 1] w fun e w' => e = .returned .nilIface /\ (∃ lab' R', Law w' lab' N M (now + 1) c (fun k => wt k + 1) (goL 1 M now (now + 1) l q).1 (goL 1 M now (now + 1) l q).2.1 R' bk (E ++ (goL 1 M now (now + 1) l q).2.2.map Ev.cells) (eb + 1000) /\ StepR R R' /\ (goL 1 M now (now + 1) l q).1.length = l.length /\ (goL 1 M now (now + 1) l q).2.1.length = q.length /\ (∀ n, ((goL 1 M now (now + 1) l q).2.1.getD n z63).f0 = (q.getD n z63).f0) /\ Grew w lab lab') /\ Turn w w' (fun b => lab b ≠ 0) := by
  obtain ⟨hI, R1, hinv, hstep, hl1, hq1, hm1, hf1⟩ := h.inv.go1 hn hw;obtain ⟨R', hS, _, e1, e2, _, _⟩ := h.inv.settle hw;have hag := hS.again;have hfew := goL_few M now l q h.inv.sane.len (by rw [e1]; exact h.inv.sane.len) (by rw [hag]; show (settleL M now l q).1.length <= 12; rw [e1]; exact h.inv.sane.len);refine (gos_calls N lab M now 1 l q l.length bk E w h.sys (by have := h.ev; omega) (goI M now l q) hI (.inl ⟨rfl, rfl, rfl⟩) (by decide) (by decide) h.inv.now0 h.inv.now1).mono ?_;rintro e w' ⟨rfl, _, ⟨lab', hsys, hgr⟩, hT⟩;have e1 : (1 : Int).toNat = 1 := rfl;rw [e1] at hsys;refine ⟨rfl, ⟨lab', R1, ⟨?_, hinv, fun k hk => ?_, ?_⟩, hstep, hl1, hq1, hm1, hgr⟩, hT⟩
  · rw [hl1]; exact hsys
  · rw [hl1] at hk;rw [hf1];exact h.ids k hk
  · rw [List.length_append, List.length_map];have := h.ev;omega
theorem Law.relOk (h : Law w lab N M now c wt l q R bk E eb) {i : Nat} (hi : i < l.length) (hc : c <= 1000000) : RelOk now l q i hi := by
  have hn1 := h.inv.now1;have hs := h.inv.serv i hi;rw [at_lt hi] at hs
  exact ⟨h.inv.sane.sorted, h.inv.sane.len, h.inv.qlen, fun k hk => by have := (h.inv.serv k hk).jlen; rwa [at_lt hk] at this, fun n hn => by
    have := (h.inv.mok (fun n _ => h.inv.row_len n)).room n hn;omega, h.inv.now0, by omega, hs.cbs, hs.num.1, by have := hs.num; omega⟩
theorem Law.rel (h : Law w lab N M now c wt l q R bk E eb) {i : Nat} (hi : i < l.length) (hc : c <= 1000000) (heb : eb <= 9000000) (Ap : Option Addr) (cp : Nat) (P : List S72) (hP : Kd.C k72 w Ap P.length P) :
    Calls Tryz.prog 11 #[.pointer (some ⟨N, 0, none⟩), .int .u32 i, .slice Ap P.length cp] w fun e w' => (∃ a b, e = .returned (.tuple #[a, b])) /\ (∃ lab' l' E', Law w' lab' N M now (c + 1) wt l' q R bk E' (eb + 2) /\ l'.length = l.length /\ Grew w lab lab' /\ ((l' = l /\ E' = E) \/ (l' = l.set i (relX now P l[i]) /\ E' = E ++ (relE now l[i]).map Ev.cells))) /\ Turn w w' (fun b => lab b ≠ 0) := by
  have hk := h.relOk hi hc;refine (srel_calls N lab M now l q l.length bk E w h.sys i hi hi (by rw [<- at_lt hi]; exact h.ids i hi) hk (by have := h.ev; omega) hk.que Ap cp P hP).mono ?_;intro e w' ⟨h1, h2⟩;by_cases hC : relC q.length P l[i] = 0
  · obtain ⟨rfl, ⟨lab', hsys, hgr⟩, hT⟩ := h2 hC;refine ⟨⟨_, _, rfl⟩, ⟨lab', _, _, ⟨?_, h.inv.release hi hC, fun k hk => ?_, ?_⟩, List.length_set .., hgr, .inr ⟨rfl, rfl⟩⟩, hT⟩
    · rw [List.length_set]; exact hsys
    · rw [List.length_set] at hk;rw [at_set];split
      · rename_i e; rw [e.1, <- at_lt hi]; exact h.ids i hi
      · exact h.ids k hk
    · rw [List.length_append, List.length_map];have := h.ev;have := relE_few now l[i];omega
  · obtain ⟨⟨p, rfl⟩, hB⟩ := h1 hC;exact ⟨⟨_, _, rfl⟩, ⟨lab, l, E, (h.below hB).more (by omega) (fun k => .inl (Int.le_refl _)) (by omega), rfl, fun b hb => .inl hb, .inl ⟨rfl, rfl⟩⟩, Turn.of_below _ hB⟩
theorem Law.state (h : Law w lab N M now c wt l q R bk E eb) :
    Calls Tryz.prog 13 #[.pointer (some ⟨N, 0, none⟩)] w fun e w' => ∃ B o A4 c4, e = .returned (stV M now o.A l.length o.c o.A2 q.length o.c2 A4 c4) /\ Own w' B l q o /\ (∀ b, B.G b -> lab b ≠ 0) /\ (∀ cc b, o.own cc = some b -> w.heap.size < b) /\ Below w.heap.size w w' := by
  have h12 := h.inv.sane.len;have h8 := h.inv.qlen
  exact states_calls N lab M now l q l.length bk E w h.sys (by omega) (by omega) (fun k hk => by have := (h.inv.serv k hk).jlen; rw [at_lt hk] at this; omega) (fun n hn => by
    have := (h.inv.mok (fun n _ => h.inv.row_len n)).room n hn;omega)
theorem at_app (l : List S57) (x : S57) (k : Nat) : (k < l.length -> at_ (l ++ [x]) k = at_ l k) /\ at_ (l ++ [x]) l.length = x := by
  constructor
  · intro hk;unfold at_;rw [List.getD_eq_getElem?_getD, List.getD_eq_getElem?_getD, List.getElem?_append_left hk]
  · unfold at_;rw [List.getD_eq_getElem?_getD, List.getElem?_append_right (Nat.le_refl _), Nat.sub_self];rfl
theorem Inv.opens (h : Inv M now c wt noD l q R) (hids : ∀ k, k < l.length -> (at_ l k).f0 = (k : Int) + 1) (hl : l.length <= 11) (hc : 0 <= c) {q0 p0 : Int} (hx : WOk ⟨q0, p0⟩) : Inv M now c wt noD (l ++ [newServ ((l.length : Int) + 1) q0 p0]) q R := by
  obtain ⟨x1, x2, x3, x4⟩ := hx;dsimp only at x1 x2 x3 x4;have ha := fun k (hk : k < l.length) => (at_app l (newServ ((l.length : Int) + 1) q0 p0) k).1 hk
  have hz := (at_app l (newServ ((l.length : Int) + 1) q0 p0) 0).2;have hlen : (l ++ [newServ ((l.length : Int) + 1) q0 p0]).length = l.length + 1 := by simp
  have hn0 := h.now0;have hrow : ∀ n k, k ∈ R n -> k < l.length := fun n k hk => ((h.rows.mem n k).1 hk).1
  refine ⟨⟨h.sane.m1, h.sane.m2, by omega, ?_, fun k hk => ?_, ?_⟩, h.now0, h.now1, h.qlen, h.qmost, fun k hk => ?_, ?_⟩
  · rw [sorted_at];intro a b hab hb
    have e : ∀ k, k < l.length + 1 -> (at_ (l ++ [newServ ((l.length : Int) + 1) q0 p0]) k).f0 = (k : Int) + 1 := fun k hk => by
      by_cases e : k < l.length
      · rw [ha k e]; exact hids k e
      · obtain rfl : k = l.length := by omega
        rw [hz]; rfl
    rw [e a (by omega), e b (by omega)];omega
  · rw [<- at_lt hk];by_cases e : k < l.length
    · rw [ha k e, at_lt e]; exact h.sane.id k e
    · obtain rfl : k = l.length := by omega
      rw [hz];show 1 <= (l.length : Int) + 1 /\ (l.length : Int) + 1 <= 255;omega
  · rw [fixes_count, List.countP_append];have := h.sane.fix;rw [fixes_count] at this
    have e : List.countP fixd [newServ ((l.length : Int) + 1) q0 p0] = 0 := by
      simp [fixd, newServ]
    omega
  · by_cases e : k < l.length
    · rw [ha k e]; exact h.serv k e
    · obtain rfl : k = l.length := by omega
      rw [hz]
      exact { cbs := ⟨x3, x4, x2, by show (0 : Int) <= 0; decide, by show (0 : Int) <= q0; omega, by show (0 : Int) <= 0; decide, by show (0 : Int) <= 4611686018427387904; decide, by show (0 : Int) <= 0; decide, by show (0 : Int) <= 2; decide, fun e => absurd e (by show ¬ (0 : Int) = 1; decide)⟩
              due := by show (0 : Int) <= _; omega
              ahead := fun e => absurd rfl e
              idle := fun _ => ⟨rfl, rfl⟩
              busy := fun e => absurd rfl e
              jlen := by show 0 <= 8; decide
              jobs := fun j hj => by
                have : j ∈ ([] : List S125) := hj;simp at this
              rest := fun j hj => by
                have : j ∈ ([] : List S125) := hj;simp at this
              sec := by show (0 : Int) <= 0 /\ (0 : Int) <= 2; decide
              spin := fun _ _ => rfl
              sem := fun e => absurd rfl e
              secm := fun e => absurd rfl e
              part := fun e => absurd rfl e
              held := by show (0 : Int) <= 0 /\ (0 : Int) <= 1048576; decide
              ran := by show (0 : Int) <= 0 /\ (0 : Int) <= now; omega
              num := by show (0 : Int) <= 0 /\ (0 : Int) <= c; omega }
  · have hh : ∀ n (p k : Nat), (R n)[p]? = some k -> at_ (l ++ [newServ ((l.length : Int) + 1) q0 p0]) ((R n).headD 0) = at_ l ((R n).headD 0) := fun n p k hp => by
      cases hr : R n with
      | nil => rw [hr] at hp; simp at hp
      | cons a r => exact ha a (hrow n a (by rw [hr]; simp))
    refine ⟨h.rows.hold0, fun n hn => ?_, h.rows.nodup, fun n k => ?_, fun n k r e => ?_, fun n hn k r e => ?_, fun n hn p k hp => ?_, fun n hn p k hp => ?_⟩
    · rw [h.rows.ids n hn];exact List.map_congr_left (fun k hk => by rw [ha k (hrow n k hk)])
    · rw [h.rows.mem n k];by_cases e : k < l.length
      · rw [ha k e, hlen];exact ⟨fun a => ⟨by omega, a.2⟩, fun a => ⟨e, a.2⟩⟩
      · constructor
        · intro a; exact absurd a.1 e
        · rintro ⟨a1, a2, _⟩;obtain rfl : k = l.length := by omega
          rw [hz] at a2;exact absurd rfl a2
    · have h1 := h.rows.first n k r e;rw [ha k (hrow n k (by rw [e]; simp))];exact ⟨h1.1, fun k' hk' => by rw [ha k' (hrow n k' (by rw [e]; exact List.mem_cons_of_mem _ hk'))]; exact h1.2 k' hk'⟩
    · rw [ha k (hrow n k (by rw [e]; simp))];exact h.rows.most n hn k r e
    · rw [hh n p k hp, ha k (hrow n k (List.mem_of_getElem? hp))];exact h.rows.time n hn p k hp
    · rw [hh n _ k hp];exact h.rows.wait n hn p k hp
theorem Inv.new {ms : List Int} (hM : newB_ok M ms = true) (wt : Nat -> Int) : Inv M 0 0 wt noD [] (ms.map lockOf) (fun _ => []) := by
  unfold newB_ok at hM;simp only [Bool.not_eq_true', Bool.or_eq_false_iff, decide_eq_false_iff_not] at hM;obtain ⟨⟨⟨a1, a2⟩, a3⟩, a4⟩ := hM;refine ⟨⟨by omega, by omega, by simp, by simp [Sorted], fun k hk => by simp at hk, by show (0 : Int) <= M; omega⟩, by decide, by decide, by rw [List.length_map]; omega, fun n hn => ?_, fun k hk => by simp at hk, ?_⟩
  · rw [List.length_map] at hn;rw [List.getElem_map];rw [List.any_eq_false] at a4;have := a4 ms[n] (List.getElem_mem hn);unfold moddB at this;simp at this;show 1 <= ms[n] /\ ms[n] <= 1048576;omega
  · refine ⟨fun n hn _ => ?_, fun n hn => ?_, fun n => by simp, fun n k => ?_, fun n k r e => by simp at e, fun n hn k r e => by simp at e, fun n hn p k hp => by simp at hp, fun n hn p k hp => by simp at hp⟩
    · rw [List.getElem_map]; rfl
    · rw [List.getElem_map]; rfl
    · simp
structure Booked (l : List S57) (bk : List S157) : Prop where
  len : bk.length = l.length
  id : ∀ k (h : k < bk.length), bk[k].f0 = (k : Int) + 1
  ok : ∀ k (h : k < bk.length), WOk bk[k].f1
theorem Law.opens (h : Law w lab N M now c wt l q R bk E eb) (hb : Booked l bk) (hl : l.length <= 11) (hc : 0 <= c) (q0 p0 : Int) :
    Calls Tryz.prog 18 #[.pointer (some ⟨N, 0, none⟩), .int .i64 q0, .int .i64 p0] w fun e w' =>
      (askC M bk ⟨q0, p0⟩ ≠ 0 /\ (∃ p, e = .returned (.tuple #[.int .u32 0, .iface 111 p])) /\ Law w' lab N M now c wt l q R bk E eb /\ Below w.heap.size w w') \/
      (askC M bk ⟨q0, p0⟩ = 0 /\ e = .returned (.tuple #[.int .u32 l.length, .nilIface]) /\ (∃ lab', Law w' lab' N M now c wt (l ++ [newServ ((l.length : Int) + 1) q0 p0]) q R (bk ++ [⟨(l.length : Int) + 1, ⟨q0, p0⟩, -1⟩]) E eb /\ Booked (l ++ [newServ ((l.length : Int) + 1) q0 p0]) (bk ++ [⟨(l.length : Int) + 1, ⟨q0, p0⟩, -1⟩]) /\ Grew w lab lab') /\ Turn w w' (fun b => lab b ≠ 0)) := by
  have hm1 := h.inv.sane.m1;have hm2 := h.inv.sane.m2
  have hk : OpenOk l q l.length bk := ⟨h.inv.sane.sorted, by omega, Nat.le_refl _, by rw [hb.len]; exact Nat.le_refl _, fun k hk => by
      rw [<- at_lt hk, h.ids k hk]; omega, fun k hk => by
      rw [hb.id k hk];have := hb.len;omega, hb.ok, h.inv.qlen, fun k hk => by have := (h.inv.serv k hk).jlen; rw [at_lt hk] at this; omega, fun n hn => by
      have := (h.inv.mok (fun n _ => h.inv.row_len n)).room n hn;omega⟩
  refine (sopen_calls N lab M now l q l.length bk E w h.sys hk q0 p0 hm1 hm2 h.inv.now0).mono ?_;intro e w' ⟨h1, h2⟩;by_cases hC : askC M bk ⟨q0, p0⟩ = 0
  · right;obtain ⟨rfl, ⟨lab', hsys, hgr⟩, hT⟩ := h2 hC;have hx := askC_ok hC;refine ⟨hC, rfl, ⟨lab', ⟨?_, h.inv.opens h.ids hl hc hx, fun k hk => ?_, h.ev⟩, ⟨?_, fun k hk => ?_, fun k hk => ?_⟩, hgr⟩, hT⟩
    · rw [List.length_append]; exact hsys
    · rw [List.length_append, List.length_singleton] at hk;by_cases e : k < l.length
      · rw [(at_app _ _ k).1 e]; exact h.ids k e
      · obtain rfl : k = l.length := by omega
        rw [(at_app _ _ 0).2]; rfl
    · rw [List.length_append, List.length_append, hb.len]; rfl
    · rw [List.length_append, List.length_singleton] at hk;by_cases e : k < bk.length
      · rw [List.getElem_append_left e]; exact hb.id k e
      · obtain rfl : k = bk.length := by omega
        rw [List.getElem_append_right (Nat.le_refl _)];simp [hb.len]
    · rw [List.length_append, List.length_singleton] at hk;by_cases e : k < bk.length
      · rw [List.getElem_append_left e]; exact hb.ok k e
      · obtain rfl : k = bk.length := by omega
        rw [List.getElem_append_right (Nat.le_refl _)];simpa using hx
  · left;obtain ⟨h3, hB⟩ := h1 hC;exact ⟨hC, h3, h.below hB, hB⟩
end
structure Paired (l : List Ev) : Prop where
 out : ∀ i (h : i < l.length), l[i].kind = 7 -> ∃ h2 : i + 1 < l.length, l[i + 1].kind = 6 /\ l[i + 1].who = l[i].who
theorem paired_nil : Paired [] := ⟨fun i h => by simp at h⟩
theorem paired_none {l : List Ev} (h : ∀ e ∈ l, e.kind ≠ 7) : Paired l := ⟨fun i hi e => absurd e (h _ (List.getElem_mem hi))⟩
theorem Paired.app {a b : List Ev} (ha : Paired a) (hb : Paired b) : Paired (a ++ b) := by
 refine ⟨fun i hi e => ?_⟩;by_cases h : i < a.length
 ·rw [List.getElem_append_left h] at e;obtain ⟨h2, h3, h4⟩ := ha.out i h e;refine ⟨by rw [List.length_append]; omega, ?_, ?_⟩
  ·rw [List.getElem_append_left h2]; exact h3
  ·rw [List.getElem_append_left h2, List.getElem_append_left h]; exact h4
 ·have hi2 : i - a.length < b.length := by rw [List.length_append] at hi; omega
  rw [List.getElem_append_right (by omega)] at e;obtain ⟨h2, h3, h4⟩   := hb.out _ hi2 e;refine ⟨by rw [List.length_append]; omega, ?_, ?_⟩
  ·rw [List.getElem_append_right (by omega)];simp only [show i + 1 - a.length = i - a.length + 1 by omega];exact h3
  ·rw [List.getElem_append_right (by omega), List.getElem_append_right (by omega)];simp only [show i + 1 - a.length = i - a.length + 1 by omega];exact h4
theorem paired_one {e : Ev} (h : e.kind ≠ 7) : Paired [e] := paired_none (fun x hx => by
 obtain rfl : x = e := by simpa using hx
 exact h)
theorem paired_two (now id s : Int) (b : Bool) : Paired ((if b then [⟨now, 7, id, 0⟩] else []) ++ [⟨now, 6, id, s⟩]) := by
 cases b with
 | false => exact paired_one (by simp)
 | true =>
  refine ⟨fun i hi e => ?_⟩
  match i, hi with
  | 0, _ => exact ⟨by simp, rfl, rfl⟩
  | 1, _ =>
   have e2 : (6 : Int) = 7 := e;exact absurd e2 (by decide)
  | i + 2, h =>
   simp only [if_true, List.length_append, List.length_cons, List.length_nil] at h;omega
section
variable {M now : Int}
theorem grant1_paired (st : List S57 × List S63 × List Ev) (p : Nat × Int) (h : Paired st.2.2) : Paired (grant1 now st p).2.2 := by
 unfold grant1;dsimp only;split
 ·exact h
 ·dsimp only;rw [List.append_assoc];exact h.app (paired_two ..)
theorem grants_paired : ∀ (ps : List (Nat × Int)) (st : List S57 × List S63 × List Ev), Paired st.2.2 -> Paired (ps.foldl (grant1 now) st).2.2 := by
 intro ps
 induction ps with
 | nil => intro st h; exact h
 | cons p ps ih => intro st h; exact ih _ (grant1_paired st p h)
theorem refAll_paired : ∀ (n : Nat) (l : List S57) (q : List S63), Paired (refAll n M now l q).2 := by
 intro n
 induction n with
 | zero => intro l q; exact paired_nil
 | succ n ih =>
  intro l q;unfold refAll
  cases refuseL M now l q with
  | none => exact paired_nil
  | some p =>
   dsimp only;exact Paired.app (a := [_]) (paired_one (by simp)) (ih _ _)
theorem turnE_paired (l : List S57) : Paired (turnE now l) := paired_none (fun e he => by
 unfold turnE at he;obtain ⟨x, _, rfl⟩ := List.mem_map.1 he;simp)
theorem settle_paired (l : List S57) (q : List S63) : Paired (settleL M now l q).2.2 := by
 unfold settleL;exact grants_paired _ _ ((turnE_paired l).app (refAll_paired _ _ _))
theorem freeL_paired (l : List S57) (q : List S63) (n : Nat) (t : Bool) : Paired (freeL now l q n t).2.2 := by
 unfold freeL;split
 ·exact paired_nil
 ·exact paired_two ..
theorem endA_paired (l : List S57) (q : List S63) (i : Nat) : Paired (endA now l q i).2.2 := by
 unfold endA;split
 ·exact paired_nil
 ·rename_i j js _;split
  ·by_cases h1 : (l.getD i z57).f3 = 2
   ·by_cases h2 : j.f2 + 1 = (j.f1.length : Int)
    ·simp only [if_pos h1, if_pos h2];exact (freeL_paired ..).app (paired_one (by simp))
    ·simp only [if_pos h1, if_neg h2];exact freeL_paired ..
   ·by_cases h2 : j.f2 + 1 = (j.f1.length : Int)
    ·simp only [if_neg h1, if_pos h2];exact Paired.app paired_nil (paired_one (by simp))
    ·simp only [if_neg h1, if_neg h2];exact paired_nil
  ·split
   ·exact Paired.app (a := [_]) (paired_one (by simp)) (freeL_paired ..)
   ·exact paired_nil
theorem endB_paired (l : List S57) (i : Nat) : Paired (endB now l i).2 := by
 unfold endB;split
 ·exact paired_one (by simp)
 ·split
  ·exact paired_one (by simp)
  ·exact paired_nil
theorem endL_paired (l : List S57) (q : List S63) (i : Nat) : Paired (endL now l q i).2.2 := by
 unfold endL;exact (endA_paired l q i).app (endB_paired _ i)
theorem endAll_paired (ps : List Nat) : ∀ (l : List S57) (q : List S63), Paired (endAll now l q ps).2.2 := by
 have h : ∀ (ps : List Nat) (st : List S57 × List S63 × List Ev), Paired st.2.2 -> Paired (ps.foldl (endStep now) st).2.2 := by
  intro ps
  induction ps with
  | nil => intro st h; exact h
  | cons p ps ih => intro st h; exact ih _ (h.app (endL_paired _ _ p))
 exact fun l q => h ps _ paired_nil
theorem tick_paired (l : List S57) (q : List S63) : Paired (tickL M now l q).2.2 := by
 unfold tickL;exact (settle_paired l q).app (endAll_paired _ _ _)
theorem goL_paired (l : List S57) (q : List S63) : Paired (goL 1 M now (now + 1) l q).2.2 := by
 rw [goL_one];split
 ·exact settle_paired l q
 ·exact (settle_paired l q).app (tick_paired _ _)
theorem relE_paired (x : S57) : Paired (relE now x) := by
 unfold relE;by_cases h : x.f1.f4 = 0
 ·rw [if_pos h];exact Paired.app (a := [_]) (b := [_]) (paired_one (by simp)) (paired_one (by simp))
 ·rw [if_neg h];exact paired_one (by simp)
end
def begn.T6 : Bool × List (List Nat × List Nat) := (true, [([], []), ([], []), ([0, 1], [0, 1]), ([2], [2]), ([], []), ([], []), ([4, 5], [4, 5]), ([6], [6]), ([3, 7], [3, 7])])
def begn.B6 : List Nat := [0, 0, 3, 7, 0, 0, 48, 112, 255]
theorem begn.tab6 : rtab .any (opsOf Tryz.f16 6) = begn.T6 := by kernel_rfl
theorem begn.bits6 : waitsOk begn.T6.2 begn.B6 = true := by kernel_rfl
theorem prefix_all {l m : List Int} (h : m.length <= l.length) (hj : ∀ j (h1 : j < m.length) (h2 : j < l.length), l[j] = m[j]) : m.isPrefixOf l = true := by
 rw [List.isPrefixOf_iff_prefix, List.prefix_iff_eq_take];apply List.ext_getElem
 ·rw [List.length_take]; omega
 ·intro j h1 h2;rw [List.getElem_take];exact (hj j h1 (by omega)).symm
theorem prefix_not {l m : List Int} {j : Nat} (h1 : j < m.length) (h2 : j < l.length) (hne : l[j] ≠ m[j]) : m.isPrefixOf l = false := by
 rw [Bool.eq_false_iff];intro h;rw [List.isPrefixOf_iff_prefix, List.prefix_iff_eq_take] at h;apply hne
 have : m[j] = (l.take m.length)[j]'(by rw [List.length_take]; omega) := by
  simp only [<- h]
 rw [this, List.getElem_take]
theorem prefix_short {l m : List Int} (h : l.length < m.length) : m.isPrefixOf l = false := by
 rw [Bool.eq_false_iff];intro h2;rw [List.isPrefixOf_iff_prefix] at h2;have := h2.length_le;omega
theorem begins_calls (A : Option Addr) (c : Nat) (l : List Int) (A2 : Option Addr) (c2 : Nat) (m : List Int) (w : World) (hl : (Kd.int .i64).C w A l.length l) (hm : (Kd.int .i64).C w A2 m.length m) (h1 : l.length <= 1000) (h2 : m.length <= 1000) :
  Calls Tryz.prog 16 #[.slice A l.length c, .slice A2 m.length c2] w fun e w' => e = .returned (.bool (m.isPrefixOf l)) /\ Below w.heap.size w w' := by
 have HL := hZ hl;have HM := hZ hm;clear hl hm;by_cases hlt : l.length < m.length
 ·have g1 : decide ((l.length : Int) < (m.length : Int)) = true := by simpa using hlt
  rw [prefix_short hlt];go_enter Tryz.func16, Tryz.ntmps16;go_wp2;go_ret;exact ⟨by first | trivial | rfl, Below.refl _ _⟩
 ·have g1 : decide ((l.length : Int) < (m.length : Int)) = false := by simpa using hlt
  have HF : Hid (∀ j (h1 : j < m.length) (h2 : j < l.length), l[j] ≠ m[j] -> m.isPrefixOf l = false) := hZ (fun j h1 h2 h => prefix_not h1 h2 h);have HT : Hid ((∀ j (h1 : j < m.length) (h2 : j < l.length), l[j] = m[j]) -> m.isPrefixOf l = true) := hZ (fun h => prefix_all (by omega) h);generalize m.isPrefixOf l = res at *;go_enter Tryz.func16, Tryz.ntmps16;go_wp2
  go_loopw [5] (fun v5 wx => ∃ i : Nat, v5 = .int .i64 i /\ i <= m.length /\ Hid (∀ j (h1 : j < m.length) (h2 : j < l.length), j < i -> l[j] = m[j]) /\ Hid (Below w.heap.size w wx)) (fun v5 _ => m.length - (intOf v5).toNat)
  case atStart => exact ⟨0, rfl, Nat.zero_le _, hZ (fun j _ _ h => by omega), hZ (Below.refl _ _)⟩
  case round =>
   obtain ⟨i, rfl, hi, HE, HB⟩ := hrel;by_cases him : i < m.length
   ·obtain ⟨a1, rfl, b1⟩ := int_at (Kd.C_below HL.out HB.out) (show i < l.length by omega);obtain ⟨a2, rfl, b2⟩ := int_at (Kd.C_below HM.out HB.out) him;have k0 : (0 : Int) <= (i : Int) := Int.natCast_nonneg i;have k1 : (i : Int) < (m.length : Int) := by omega
    have k2 : (i : Int) < (l.length : Int) := by omega
    have hw1 : IntKind.i64.wrap ((i : Int) + 1) = (i : Int) + 1 := by rw [i64_w]; unfold Go.RowKit.wrap64; omega
    go_upto_region 6 with fail
    refine start_ (n := 9) (S := fun w' => Hid (Below wr.heap.size wr w')) (ds := []) #[false, false, false, false, false, false, false, false, false] (by kernel_rfl) rfl rfl ((hZ (below_drew (Below.refl _ _)))) (fun hHeld => ?_);refine with_tabW begn.tab6 begn.bits6 (fun HT_ HW_ => ?_);have hbd : Hid (Below wr.heap.size wr wr.drew) := hZ ⟨rfl, rfl, rfl, Nat.le_refl _, fun _ _ => rfl⟩;have hsd : wr.heap.size = wr.drew.heap.size := rfl;generalize hwd : wr.drew = wd at *;clear hwd;refine pst 0 (some 17) HT_ ?_;refine pst 1 (some 18) HT_ ?_;refine pst 2 (some 19) HT_ ?_;refine pst 4 (some 21) HT_ ?_;refine pst 5 (some 22) HT_ ?_;refine pst 6 (some 23) HT_ ?_;refine tst 3 (some 20) HT_ HW_ hHeld ?_ (hy := by (intro w' s0; have f1 := (s0.out.cell (World.block_lt_of_cell? _ _ b1)).trans b1; have f2 := (s0.out.cell (World.block_lt_of_cell? _ _ b2)).trans b2); go_simp; with_reducible rfl);refine tst 7 (some 24) HT_ HW_ hHeld ?_ (hy := by (intro w' s0; have f1 := (s0.out.cell (World.block_lt_of_cell? _ _ b1)).trans b1; have f2 := (s0.out.cell (World.block_lt_of_cell? _ _ b2)).trans b2); go_simp; with_reducible rfl);refine pst 8 (some 25) HT_ ?_;refine done_ (done_of HT_.out (by kernel_rfl)) ?_;clear HT_ HW_ hHeld;have HBd : Hid (Below w.heap.size w wd) := hZ (HB.out.trans (hbd.out.mono HB.out.size));by_cases hne : l[i] = m[i]
    ·have g2 : (l[i] != m[i]) = false := by simpa using hne
     have HEn : Hid (∀ j (h1 : j < m.length) (h2 : j < l.length), j < i + 1 -> l[j] = m[j]) := hZ (fun j h1 h2 h => by
      by_cases e : j < i
      ·exact HE.out j h1 h2 e
      ·obtain rfl : j = i := by omega
       exact hne)
     clear hne;go_wp2;go_roundw
     case rel => exact ⟨i + 1, by go_num, by omega, HEn, HBd⟩
     case measure => simp [intOf]; omega
    ·have g2 : (l[i] != m[i]) = true := by simpa using hne
     obtain rfl : res = false := HF.out i him (by omega) hne;go_wp2;go_ret;exact ⟨by first | trivial | rfl, HBd.out⟩
   ·obtain rfl : i = m.length := by omega
    obtain rfl : res = true := HT.out (fun j h1 h2 => HE.out j h1 h2 h1);go_wp2;go_ret;exact ⟨by first | trivial | rfl, HB.out⟩
theorem clone67w (A : Option Addr) (n c : Nat) (xs : List (List Value)) (w : World) (hr : (Kd.raw 4).C w A n xs) (hl : n <= 10000000) :
    Calls Tryz.prog 33 #[.slice A n c] w fun e w' => ∃ v, e = .returned v /\ (Kd.raw 4).R 67 w' w.heap.size (fun _ => True) v xs /\ Below w.heap.size w w' := by
  cases A with
  | none =>
    obtain ⟨rfl, rfl⟩ := C_none hr;have hn := fun (w : World) => Lib.run_eql_slice_nil (P := Tryz.prog) w 48 67 none 0 c 0 0 Tryz.underlying48
    go_enter Tryz.func33, Tryz.ntmps33;go_wp2;go_ret;exact ⟨_, rfl, Kd.R_nil _ _ _ _ _, Below.refl _ _⟩
  | some ad =>
    have hn := fun (w : World) => Lib.run_eql_slice_nil (P := Tryz.prog) w 48 67 (some ad) n c 0 0 Tryz.underlying48
    have HR := hZ hr;clear hr;go_enter Tryz.func33, Tryz.ntmps33
    go_wp2_with (first
      | ((with_reducible refine gate_dst (N := 5) rfl ?_); (try (refine gate_guard (by rfl) ?_; dsimp only)); refine Kd.R_lit (Kd.raw 4) (w0 := w) w.heap.size 67 ?hg (N := 5) ?hd (xs := ([] : List (List Value))) (inner := []) (ok := fun _ => True) (okp := fun _ => False) ?hr ?hp (fun _ hk => hk.elim) trivial (Below.refl _ _) (Nat.le_refl _) (by simp) ?_; (case hd => rfl); (case hg => rfl); (case hr => first | (go_simp; done) | (go_simp; rfl)); (case hp => exact Reps.none _ _); intro v5 w4 hR4 hB4 hg4 _; have HR4 := hZ hR4; have HB4 := hZ hB4; clear hR4 hB4 hg4)
      | ((with_reducible refine gate_builtin (b := .append) (xs := #[.tmp 5, .tmp 6]) rfl ?_); at_builtin; refine Kd.R_append_rows (Kd.raw 4) (Rr := (Kd.raw 4).K w) (okp := fun _ => False) (w0 := w) w.heap.size rfl (.tmp 5) (.tmp 6) 48 67 (.agg #[.int .i64 0, .int .i64 0, .int .i64 0, .int .i64 0]) 32 rfl Tryz.underlying48 info67 rfl (by decide) (by omega) v5 [] xs (some ad) n c (fun _ => True) rfl rfl HR4.out ?hC (fun _ _ h => h) (fun _ h => h.elim) (fun _ _ => trivial) HB4.out HB4.out.size ?aL ?_; (case hC => exact ReadsRow.imp_ HR.out HB4.out (fun _ _ h => h)); (case aL => (simp; omega)); intro v1 w5 hR5 hB5 _ _; have HR5 := hZ hR5; have HB5 := hZ hB5; clear hR5 hB5))
    go_ret;exact ⟨_, rfl, HR5.out, HB5.out⟩
theorem eventsw_calls (N : Nat) (M now : Int) (A : Option Addr) (n c : Nat) (A2 : Option Addr) (n2 c2 : Nat) (A4 : Option Addr) (c4 : Nat) (a5 a6 a7 : Value) (A8 : Option Addr) (n8 c8 : Nat) (xs : List (List Value)) (w : World) (hN : w.heap[N]? = some (.cells (sysC M now A n c A2 n2 c2 A4 c4 a5 a6 a7 (.slice A8 n8 c8)) 83 (0, 0))) (hr : (Kd.raw 4).C w A8 n8 xs) (hl : n8 <= 10000000) :
    Calls Tryz.prog 17 #[.pointer (some ⟨N, 0, none⟩)] w fun e w' => ∃ v, e = .returned v /\ (Kd.raw 4).R 67 w' w.heap.size (fun _ => True) v xs /\ w'.heap[N]? = some (.cells (sysC M now A n c A2 n2 c2 A4 c4 a5 a6 a7 (.slice none 0 0)) 83 (0, 0)) /\ Turn w w' (fun b => b = N) := by
  have HN := hZ hN;have HR := hZ hr;have hlt := blk_lt hN;have x8 : w.cell? ⟨N, 8, none⟩ = some (.slice A8 n8 c8) := (blk_cell hN 8).trans rfl;clear hN hr;go_enter Tryz.func17, Tryz.ntmps17
  go_upto_region 2 with (go_at_call 33; (with_reducible refine (clone67w A8 n8 c8 xs _ HR.out hl).mono ?_); rintro e w2 ⟨v, rfl, hR2, hB2⟩; have HR2 := hZ hR2; have HB2 := hZ hB2; have HN2 := hZ (blk_below HN.out hB2); have y8 : w2.cell? ⟨N, 8, none⟩ = some (.slice A8 n8 c8) := (blk_cell HN2.out 8).trans rfl; have f8 := blk_frozen HN2.out 8; clear hR2 hB2 x8)
  have HN3 := hZ (blk_put (cs' := sysC M now A n c A2 n2 c2 A4 c4 a5 a6 a7 (.slice none 0 0)) HN2.out 8 (.slice none 0 0) rfl);have HT3 := hZ ((Turn.refl w2 (fun b => b = N)).set rfl 8 (.slice none 0 0));go_wp2;generalize hws : World.setCell _ _ _ = w3 at *;clear hws y8 f8;go_ret;exact ⟨v, rfl, Kd.R_reok rfl (Kd.R_step (Kd.R_tight rfl HR2.out) (fun b hb hlt2 => HT3.out.block b hlt2 (fun e => by have := Kd.R_base HR2.out b hb.symm; omega))) (fun _ _ => trivial), HN3.out, (Turn.of_below _ HB2.out).trans HT3.out⟩
theorem eventssw_calls (N : Nat) (lab : Nat -> Nat) (M now : Int) (l : List S57) (q : List S63) (nn : Nat) (bk : List S157) (E : List (List Value)) (w : World) (h : SysAt w lab N M now l q nn bk E) (hEl : E.length <= 10000000) :
    Calls Tryz.prog 17 #[.pointer (some ⟨N, 0, none⟩)] w fun e w' => ∃ v, e = .returned v /\ (Kd.raw 4).R 67 w' w.heap.size (fun _ => True) v E /\ SysAt w' lab N M now l q nn bk [] /\ Turn w w' (fun b => lab b ≠ 0) := by
  obtain ⟨r, h⟩ := h;have n1 := h.l1;have n2 := h.l2;have n3 := h.l3;have n4 := h.l4;obtain ⟨AE, cE, e, hcE, hCE⟩ := Kd.R_reads h.ev;injection e with e1 e2 e3;subst e1 e3;have hblk := h.blk;rw [e2] at hblk;refine (eventsw_calls N M now r.A l.length r.c r.A2 q.length r.c2 r.A4 r.c4 (.pointer (some ⟨r.Nb, 0, none⟩)) (.pointer (some ⟨r.Nn, 0, none⟩)) r.a7 r.AE E.length r.cE E w hblk hCE hEl).mono ?_;rintro e w' ⟨v, rfl, hR, hN, hT⟩;have hs := hT.size;have hS : ∀ b, b = N -> lab b = 1 := fun b e => by rw [e]; exact n1
  refine ⟨v, rfl, hR, ⟨{ r with AE := none, nE := 0, cE := 0 }, ?_⟩, hT.imp (fun b e => by have := hS b e; omega)⟩
  exact { blk := hN
          book := (hT.block _ (blk_lt h.book) (fun e => by have := hS _ e; omega)).trans h.book
          ent := ent_turn h.ent hT (fun b hb e => by have := hS b e; have := h.l5 b hb; omega)
          tab := h.tab.turn hT (fun e => by have := hS _ e; omega) (fun e => by have := hS _ e; omega)
          ev := Kd.R_nil _ _ _ _ _
          mach := h.mach.keep hT (fun b e => ⟨fun hf => by have := hS b e; have := h.l7 b hf; omega, fun hf => by have := hS b e; have := h.l8 b hf; omega⟩)
          l1 := n1, l2 := n2, l3 := n3, l4 := n4, l5 := h.l5
          l6 := fun b hb => by simp [Value.ownBlock] at hb
          l7 := h.l7, l8 := h.l8
          lt := fun b hb => Nat.lt_of_lt_of_le (h.lt b hb) hs
          bn := Nat.le_trans h.bn hs
          bb := Nat.le_trans h.bb hs
          be := Nat.le_trans h.be hs }
structure Do3 where
 who : Int
 n : Int
 steps : List S72
def DoAt (w : World) (A : Option Addr) (l : List Do3) : Prop := ∀ k (h : k < l.length), ∃ ad A1 c1, A = some ad /\ w.cell? (ad.add (k * 3)) = some (.int .i64 l[k].who) /\ w.cell? ⟨(ad.add (k * 3)).block, (ad.add (k * 3)).off + 1, none⟩ = some (.int .i64 l[k].n) /\ w.cell? ⟨(ad.add (k * 3)).block, (ad.add (k * 3)).off + 2, none⟩ = some (.slice A1 l[k].steps.length c1) /\ Kd.C k72 w A1 l[k].steps.length l[k].steps
theorem DoAt.below {w w' : World} {A : Option Addr} {l : List Do3} (h : DoAt w A l) (hb : Below w.heap.size w w') : DoAt w' A l := fun k hk => by
 obtain ⟨ad, A1, c1, rfl, h0, h1, h2, h3⟩ := h k hk;exact ⟨ad, A1, c1, rfl, (hb.cell (World.block_lt_of_cell? _ _ h0)).trans h0, (hb.cell (World.block_lt_of_cell? _ _ h1)).trans h1, (hb.cell (World.block_lt_of_cell? _ _ h2)).trans h2, Kd.C_below h3 hb⟩
structure Light (m : Int) (nm nl : Nat) (l : List Do3) : Prop where
 m1 : 1 <= m
 m2 : m <= 12
 nm8 : nm <= 8
 nl12 : nl <= 12
 do40 : l.length <= 40
 each : ∀ k (h : k < l.length), l[k].steps.length <= 12 /\ l[k].n <= 200
theorem heavy_calls (m : Int) (Am : Option Addr) (nm cm : Nat) (Al : Option Addr) (nl cl : Nat) (A : Option Addr) (c : Nat) (l : List Do3) (w : World) (hd : DoAt w A l) (hmax : l.length <= 9223372036854775807) :
  Calls Tryz.prog 8 #[.int .i64 m, .slice Am nm cm, .slice Al nl cl, .slice A l.length c] w fun e w' => (e = .returned (.bool true) \/ (e = .returned (.bool false) /\ Light m nm nl l)) /\ Below w.heap.size w w' := by
 have HT : Hid (∀ (e : Ending) (w' : World), e = .returned (.bool true) -> Below w.heap.size w w' -> (e = .returned (.bool true) \/ (e = .returned (.bool false) /\ Light m nm nl l)) /\ Below w.heap.size w w') := hZ (fun e w' h1 h2 => ⟨.inl h1, h2⟩);by_cases h1 : m < 1
 ·have g1 : decide (m < 1) = true := by simpa using h1
  go_enter Tryz.func8, Tryz.ntmps8;go_wp2;go_ret;exact ⟨.inl rfl, Below.refl _ _⟩
 have g1 : decide (m < 1) = false := by simpa using h1
 by_cases h2 : m > 12
 ·have g2 : decide (m > 12) = true := by simpa using h2
  go_enter Tryz.func8, Tryz.ntmps8;go_wp2;go_ret;exact ⟨.inl rfl, Below.refl _ _⟩
 have g2 : decide (m > 12) = false := by simpa using h2
 by_cases h3 : (nm : Int) > 8
 ·have g3 : decide ((nm : Int) > 8) = true := by simpa using h3
  go_enter Tryz.func8, Tryz.ntmps8;go_wp2;go_ret;exact ⟨.inl rfl, Below.refl _ _⟩
 have g3 : decide ((nm : Int) > 8) = false := by simpa using h3
 by_cases h4 : (nl : Int) > 12
 ·have g4 : decide ((nl : Int) > 12) = true := by simpa using h4
  go_enter Tryz.func8, Tryz.ntmps8;go_wp2;go_ret;exact ⟨.inl rfl, Below.refl _ _⟩
 have g4 : decide ((nl : Int) > 12) = false := by simpa using h4
 by_cases h5 : (l.length : Int) > 40
 ·have g5 : decide ((l.length : Int) > 40) = true := by simpa using h5
  go_enter Tryz.func8, Tryz.ntmps8;go_wp2;go_ret;exact ⟨.inl rfl, Below.refl _ _⟩
 have g5 : decide ((l.length : Int) > 40) = false := by simpa using h5
 go_enter Tryz.func8, Tryz.ntmps8;go_wp2
 go_loopw [9] (fun v9 wr => ∃ k : Nat, v9 = .int .i64 k /\ k <= l.length /\ wr = w /\ Hid (∀ j (h : j < l.length), j < k -> l[j].steps.length <= 12 /\ l[j].n <= 200)) (fun v9 _ => l.length - (intOf v9).toNat)
 case atStart => exact ⟨0, rfl, Nat.zero_le _, rfl, hZ (fun j _ h => by omega)⟩
 case round =>
  obtain ⟨k, rfl, hk, rfl, hpre⟩ := hrel;by_cases hlt : k < l.length
  ·obtain ⟨ad, A1, c1, rfl, e0, e1, e2, hC⟩ := hd k hlt;have k0 : (0 : Int) <= (k : Int) := Int.natCast_nonneg k;have k1 : (k : Int) < (l.length : Int) := by omega
   have hw1 : IntKind.i64.wrap ((k : Int) + 1) = (k : Int) + 1 := by rw [i64_w]; unfold Go.RowKit.wrap64; omega
   by_cases h6 : (l[k].steps.length : Int) > 12
   ·have g6 : decide ((l[k].steps.length : Int) > 12) = true := by simpa using h6
    go_wp2;go_ret;exact ⟨.inl rfl, Below.refl _ _⟩
   ·have g6 : decide ((l[k].steps.length : Int) > 12) = false := by simpa using h6
    by_cases h7 : l[k].n > 200
    ·have g7 : decide (l[k].n > 200) = true := by simpa using h7
     go_wp2;go_ret;exact ⟨.inl rfl, Below.refl _ _⟩
    ·have g7 : decide (l[k].n > 200) = false := by simpa using h7
     have HN : Hid (∀ j (h : j < l.length), j < k + 1 -> l[j].steps.length <= 12 /\ l[j].n <= 200) := hZ (fun j h hj => by
      by_cases e : j < k
      ·exact hpre.out j h e
      ·obtain rfl : j = k := by omega
       omega)
     go_wp2;go_roundw
     case rel => exact ⟨k + 1, by go_num, by omega, by first | trivial | rfl, HN⟩
     case measure => simp [intOf]; omega
  ·obtain rfl : k = l.length := by omega
   have HL : Hid (Light m nm nl l) := hZ ⟨by omega, by omega, by omega, by omega, by omega, fun j h => hpre.out j h h⟩;go_wp2;go_ret;exact ⟨.inr ⟨by first | trivial | rfl, HL.out⟩, Below.refl _ _⟩
def opnd.T5 : Bool × List (List Nat × List Nat) := (true, [([], []), ([], []), ([], []), ([1, 2], [1, 2]), ([3], [3]), ([4], [4]), ([], []), ([], []), ([6, 7], [6, 7]), ([8], [8]), ([9], [9]), ([0, 5, 10], [0, 5, 10]), ([11], [11]), ([12], [12]), ([12], [12]), ([13, 11, 0, 1, 2, 3, 4, 5, 6, 7, 8, 9, 10, 11, 12, 13], [13]), ([14, 15, 0, 1, 2, 3, 4, 5, 6, 7, 8, 9, 10, 11, 12, 13, 14, 15], [14])])
def opnd.B5 : List Nat := [0, 0, 0, 6, 14, 30, 0, 0, 192, 448, 960, 2047, 4095, 8191, 8191, 16383, 65535]
theorem opnd.tab5 : rtab .any (opsOf Tryz.f10 5) = opnd.T5 := by kernel_rfl
theorem opnd.bits5 : waitsOk opnd.T5.2 opnd.B5 = true := by kernel_rfl
theorem info41 : (Tryz.prog.info? 41).map (fun i => (i.zero, i.size, i.bytes)) = some (some (.int .u32 0), 1, 4) := by kernel_rfl
def nameRows (n : Nat) : List (List Value) := (List.range n).map fun (i : Nat) => [.int .u32 (i : Int)]
theorem nameRows_len (n : Nat) : (nameRows n).length = n := by simp [nameRows]
theorem nameRows_succ (n : Nat) : nameRows (n + 1) = nameRows n ++ [[.int .u32 (n : Int)]] := by simp [nameRows, List.range_succ]
def openL (M : Int) : List S85 -> List S157 -> List S157
 | [], bk => bk
 | x :: xs, bk => openL M xs (if askC M bk x = 0 then bk ++ [⟨(bk.length : Int) + 1, x, -1⟩] else bk)
def servsOf (bk : List S157) : List S57 := bk.map fun e => newServ e.f0 e.f1.f0 e.f1.f1
theorem openL_take {M : Int} : ∀ {ps : List S85} {bk : List S157} {k : Nat} (h : k < ps.length), openL M (ps.take (k + 1)) bk = if askC M (openL M (ps.take k) bk) ps[k] = 0 then openL M (ps.take k) bk ++ [⟨((openL M (ps.take k) bk).length : Int) + 1, ps[k], -1⟩] else openL M (ps.take k) bk := by
 intro ps
 induction ps with
 | nil => intro bk k h; simp at h
 | cons x xs ih =>
  intro bk k h
  cases k with
  | zero => simp [openL]
  | succ k =>
   have h2 : k < xs.length := by simpa using h
   have := ih (bk := if askC M bk x = 0 then bk ++ [⟨(bk.length : Int) + 1, x, -1⟩] else bk) h2;simpa [openL] using this
theorem openL_len {M : Int} : ∀ (ps : List S85) (bk : List S157), (openL M ps bk).length <= bk.length + ps.length := by
 intro ps
 induction ps with
 | nil => intro bk; simp [openL]
 | cons x xs ih =>
  intro bk;unfold openL;have := ih (if askC M bk x = 0 then bk ++ [⟨(bk.length : Int) + 1, x, -1⟩] else bk);split at this
  ·rw [List.length_append, List.length_singleton] at this;rename_i h;rw [if_pos h];simp only [List.length_cons];omega
  ·rename_i h;rw [if_neg h];simp only [List.length_cons];omega
theorem Law.lt {w : World} {lab : Nat -> Nat} {N : Nat} {M now c : Int} {wt : Nat -> Int} {l : List S57} {q : List S63} {R : Nat -> List Nat} {bk : List S157} {E : List (List Value)} {eb : Nat} (h : Law w lab N M now c wt l q R bk E eb) : ∀ b, lab b ≠ 0 -> b < w.heap.size := by
 obtain ⟨r, hr⟩ := h.sys;exact hr.lt
theorem Turn.onto {w w1 w2 : World} {S S' : Nat -> Prop} (h : Turn w w1 S) (k : Turn w1 w2 S') (hS : ∀ b, S' b -> S b \/ w.heap.size <= b) : Turn w w2 S :=
 ⟨k.os.trans h.os, k.tape.trans h.tape, k.output.trans h.output, Nat.le_trans h.size k.size, fun b hb hn => (k.block b (Nat.lt_of_lt_of_le hb h.size) (fun e => (hS b e).elim hn (fun e => by omega))).trans (h.block b hb hn)⟩
theorem opened_calls (N : Nat) (lab : Nat -> Nat) (M c : Int) (wt : Nat -> Int) (q : List S63) (R : Nat -> List Nat) (E : List (List Value)) (eb : Nat) (A : Option Addr) (cA : Nat) (ps : List S85) (w : World) (h : Law w lab N M 0 c wt [] q R [] E eb) (hc : 0 <= c) (W : World) (hp : Kd.C k85 W A ps.length ps) (hW : Below W.heap.size W w) (hlab : ∀ b, lab b ≠ 0 -> W.heap.size <= b) (hl : ps.length <= 12) :
  Calls Tryz.prog 10 #[.pointer (some ⟨N, 0, none⟩), .slice A ps.length cA] w fun e w' => ∃ v lab', e = .returned v /\ (Kd.raw 1).R 41 w' w.heap.size (fun _ => True) v (nameRows (openL M ps []).length) /\ (∀ b, v.ownBlock = some b -> lab' b = 0) /\ Law w' lab' N M 0 c wt (servsOf (openL M ps [])) q R (openL M ps []) E eb /\ Booked (servsOf (openL M ps [])) (openL M ps []) /\ Grew w lab lab' /\ Turn w w' (fun b => lab b ≠ 0) := by
 have HL0 := hZ h;have HP := hZ hp
 have hNw : N < w.heap.size := by
  obtain ⟨r, hr⟩ := h.sys;exact blk_lt hr.blk
 have HW := hZ hW;have HLAB := hZ hlab;have hWs := hW.size;clear h hp hW hlab;go_enter Tryz.func10, Tryz.ntmps10;go_wp2
 go_loopw [5, 6] (fun v5 v6 wr => ∃ (k : Nat) (bk : List S157) (lab' : Nat -> Nat), v6 = .int .i64 k /\ k <= ps.length /\ Hid (bk = openL M (ps.take k) []) /\ Hid ((Kd.raw 1).R 41 wr w.heap.size (fun _ => True) v5 (nameRows bk.length)) /\ Hid (∀ b, v5.ownBlock = some b -> lab' b = 0) /\ Hid (Law wr lab' N M 0 c wt (servsOf bk) q R bk E eb) /\ Hid (Booked (servsOf bk) bk) /\ Hid (Grew w lab lab') /\ Hid (Turn w wr (fun b => lab b ≠ 0))) (fun _ v6 _ => ps.length - (intOf v6).toNat)
 case atStart => exact ⟨0, [], lab, rfl, Nat.zero_le _, hZ rfl, hZ (Kd.R_nil _ _ _ _ _), hZ (fun b hb => by simp [Value.ownBlock] at hb), HL0, hZ ⟨rfl, fun k hk => by simp at hk, fun k hk => by simp at hk⟩, hZ (fun b hb => .inl hb), hZ (Turn.refl _ _)⟩
 case round =>
  clear HL0;obtain ⟨k, bk, lab', rfl, hk, HBK, HR, HV, HL, HBO, HG, HT⟩ := hrel;by_cases hlt : k < ps.length
  ·have hsz := HT.out.size;have hbr : Below W.heap.size W wr := Turn.below HW.out HT.out (fun b e => HLAB.out b e) hWs;have hC := Kd.C_below HP.out hbr
   have hlb : bk.length <= 11 := by
    have := openL_len (M := M) (ps.take k) [];rw [<- HBK.out, List.length_take] at this;simp at this;omega
   have hsl : (servsOf bk).length = bk.length := by unfold servsOf; rw [List.length_map]
   have DO : ∀ wx, Below wr.heap.size wr wx -> Calls Tryz.prog 18 #[.pointer (some ⟨N, 0, none⟩), .int .i64 ps[k].f0, .int .i64 ps[k].f1] wx fun e w' => ∃ x er, e = .returned (.tuple #[x, er]) /\ ((∃ p, er = .iface 111 p) /\ askC M bk ps[k] ≠ 0 /\ Law w' lab' N M 0 c wt (servsOf bk) q R bk E eb /\ Below wx.heap.size wx w' \/ er = .nilIface /\ x = .int .u32 bk.length /\ askC M bk ps[k] = 0 /\ (∃ lab2, Law w' lab2 N M 0 c wt (servsOf (bk ++ [⟨(bk.length : Int) + 1, ps[k], -1⟩])) q R (bk ++ [⟨(bk.length : Int) + 1, ps[k], -1⟩]) E eb /\ Booked (servsOf (bk ++ [⟨(bk.length : Int) + 1, ps[k], -1⟩])) (bk ++ [⟨(bk.length : Int) + 1, ps[k], -1⟩]) /\ Grew wx lab' lab2) /\ Turn wx w' (fun b => lab' b ≠ 0)) := fun wx hb => (Law.opens (HL.out.below hb) HBO.out (by omega) hc ps[k].f0 ps[k].f1).mono fun e w' hh => by
    rcases hh with ⟨a0, ⟨p, rfl⟩, a1, a2⟩ | ⟨a0, rfl, ⟨lab2, a1, a2, a3⟩, a4⟩
    ·exact ⟨_, _, rfl, .inl ⟨⟨p, rfl⟩, a0, a1, a2⟩⟩
    ·refine ⟨_, _, rfl, .inr ⟨rfl, by rw [hsl], a0, ⟨lab2, ?_, ?_, a3⟩, a4⟩⟩
     ·rw [hsl] at a1;unfold servsOf at a1 |-;rw [List.map_append];exact a1
     ·rw [hsl] at a2;unfold servsOf at a2 |-;rw [List.map_append];exact a2
   obtain ⟨ad, rfl, c0, c1⟩ := at_T85 hC (k : Int) (by omega) (by omega);rw [Int.toNat_natCast] at c0 c1;rw [show rd_T85 ps (k : Int) = ps[k] by simp [rd_T85, hlt]] at c0 c1;have k0 : (0 : Int) <= (k : Int) := Int.natCast_nonneg k;have k1 : (k : Int) < (ps.length : Int) := by omega
   go_upto_region 5 with fail
   refine start_ (n := 17) (S := fun w' => Hid (Below wr.heap.size wr w')) (ds := [11]) #[false, false, false, false, false, false, false, false, false, false, false, false, false, false, false, false, false] (by kernel_rfl) rfl rfl ((hZ (below_drew (Below.refl _ _)))) (fun hHeld => ?_);refine with_tabW opnd.tab5 opnd.bits5 (fun HT_ HW_ => ?_);have hbd : Hid (Below wr.heap.size wr wr.drew) := hZ ⟨rfl, rfl, rfl, Nat.le_refl _, fun _ _ => rfl⟩;have hsd : wr.heap.size = wr.drew.heap.size := rfl;generalize hwd : wr.drew = wd at *;clear hwd;refine pst 0 (some 16) HT_ ?_;refine pst 1 (some 17) HT_ ?_;refine pst 2 (some 18) HT_ ?_;refine pst 3 (some 19) HT_ ?_;refine pst 4 (some 20) HT_ ?_;refine pst 6 (some 22) HT_ ?_;refine pst 7 (some 23) HT_ ?_;refine pst 8 (some 24) HT_ ?_;refine pst 9 (some 25) HT_ ?_;refine tst 5 (some 21) HT_ HW_ hHeld ?_ (hy := by (intro w' s0; have e0 := (s0.out.cell (World.block_lt_of_cell? _ _ c0)).trans c0; have e1 := (s0.out.cell (World.block_lt_of_cell? _ _ c1)).trans c1); go_simp; with_reducible rfl);refine tst 10 (some 26) HT_ HW_ hHeld ?_ (hy := by (intro w' s0; have e0 := (s0.out.cell (World.block_lt_of_cell? _ _ c0)).trans c0; have e1 := (s0.out.cell (World.block_lt_of_cell? _ _ c1)).trans c1); go_simp; with_reducible rfl);refine last_ (i := 11) (N := some 27) #[true, true, true, true, true, true, true, true, true, true, true, true, false, false, false, false, false] rfl rfl (one_of HT_.out (by kernel_rfl)) (by decide) (fun K hK => ?_);refine goes_ Tryz.func18 (by kernel_rfl) rfl #[.pointer (some ⟨N, 0, none⟩), .int .i64 ps[k].f0, .int .i64 ps[k].f1] (by rfl) rfl rfl (by simp only [List.map_toArray, List.map_cons, List.map_nil]; rfl) ?_;with_reducible refine (DO _ hHeld.out).mono ?_;rintro e w4 ⟨x, er, rfl, hO⟩;refine ⟨_, rfl, ?_⟩;refine hK.out _ _ ?_;clear hK K;refine norm_ (a' := ?_) ?_ ?_;rotate_left
   ·show Act.put _ (some 27) _ = _;simp only [Act.put, List.setIfInBounds_toArray, List.set_cons_zero, List.set_cons_succ, i64_w, i32_w];rfl
   refine pst 12 (some 15) HT_ ?_;refine pst 13 (some 28) HT_ ?_;refine pst 14 (some 29) HT_ ?_;refine pst 15 (some 7) HT_ ?_;refine pst 16 (some 8) HT_ ?_;refine done_ (done_of HT_.out (by kernel_rfl)) ?_;have hot := openL_take (M := M) (bk := []) hlt;rw [<- HBK.out] at hot;have hw1 : IntKind.i64.wrap ((k : Int) + 1) = (k : Int) + 1 := by rw [i64_w]; unfold Go.RowKit.wrap64; omega
   have hB4 : Below W.heap.size W wd := hbr.trans (hbd.out.mono hbr.size);have hTd : Turn w wd (fun b => lab b ≠ 0) := HT.out.trans (Turn.of_below _ hbd.out);have HRd := hZ (Kd.R_below HR.out hbd.out);have hgl : ∀ b, lab' b ≠ 0 -> lab b ≠ 0 \/ w.heap.size <= b := HG.out;have hsd2 := hTd.size;clear HT_ HW_ hHeld;rcases hO with ⟨⟨p, rfl⟩, a0, a1, a2⟩ | ⟨rfl, rfl, a0, ⟨lab2, a1, a2, a3⟩, a4⟩
   ·rw [if_neg a0] at hot;have HOT := hZ hot;have HL4 := hZ a1;have HT4 := hZ (hTd.trans (Turn.of_below _ a2));have HR4 := hZ (Kd.R_below HRd.out a2);clear a0 a1 a2 hot HL HR HT;go_wp2;go_roundw
    case rel => exact ⟨k + 1, bk, lab', by go_num, by omega, hZ HOT.out.symm, HR4, HV, HL4, HBO, HG, HT4⟩
    case measure => simp [intOf]; omega
   ·rw [if_pos a0] at hot;have HOT := hZ hot;have HL4 := hZ a1;have HBO4 := hZ a2;have HG4 := hZ a3;have HT4w := hZ a4;have hT4s := a4.size;have HR4 := hZ (raw_turn HRd.out a4 (fun b hb e => e (HV.out b hb)));have HVlt : Hid (∀ b, u5.ownBlock = some b -> b < wd.heap.size) := hZ (fun b hb => Kd.R_lt HRd.out b hb);have hlr : (nameRows bk.length).length <= 12 := by rw [nameRows_len]; omega
    clear a0 a1 a2 a3 a4 hot HL HR HT;have hws4 : w.heap.size <= w4.heap.size := by omega
    have hnrs := nameRows_succ bk.length;obtain ⟨rows, hrows⟩ : ∃ rows, rows = nameRows bk.length := ⟨_, rfl⟩;rw [<- hrows] at HR4 hlr hnrs;have HNRS := hZ hnrs;clear hrows hnrs
    go_upto_region 4 with ((with_reducible refine gate_builtin (b := .append) (xs := #[.tmp 32, .tmp 34]) rfl ?_); at_builtin; refine Kd.R_append (Kd.raw 1) (w0 := w4) w.heap.size rfl (.tmp 32) (.tmp 34) 32 41 (.int .u32 0) 4 rfl Tryz.underlying32 info41 rfl (by decide) (by omega) u5 rows [.int .u32 (bk.length : Int)] [.int .u32 (bk.length : Int)] (fun _ => True) (fun _ => False) rfl (by first | (go_simp; done) | (go_simp; rfl)) ?aP (fun _ hk => hk.elim) ?aF ?aO ?aB ?aS ?aL ?_; (case aP => exact ⟨rfl, rfl, fun u hu => by (rcases List.mem_singleton.1 hu with rfl; rfl)⟩); (case aF => exact (fun _ _ => trivial)); (case aO => exact HR4.out); (case aB => exact Below.refl _ _); (case aS => exact hws4); (case aL => omega); intro v5 w5 hR5 hB5 hg5 hat5; have HR5 := hZ hR5; have HT5 := hZ (grown_turn hg5); have HAT5 := hZ hat5; clear hR5 hB5 hg5 hat5)
    have hown : ∀ b, u5.ownBlock = some b -> lab2 b = 0 /\ w.heap.size <= b := fun b hb => by
     refine ⟨Classical.byContradiction (fun e => ?_), Kd.R_base HR4.out b hb⟩;rcases HG4.out b e with h | h
     ·exact h (HV.out b hb)
     ·have := HVlt.out b hb; omega
    have HL5 : Hid (Law w5 lab2 N M 0 c wt (servsOf (bk ++ [⟨(bk.length : Int) + 1, ps[k], -1⟩])) q R (bk ++ [⟨(bk.length : Int) + 1, ps[k], -1⟩]) E eb) := hZ (HL4.out.turn HT5.out (fun b e => (hown b e.symm).1));have HT5w : Hid (Turn w w5 (fun b => lab b ≠ 0)) := hZ ((hTd.onto HT4w.out (fun b e => hgl b e)).onto HT5.out (fun b e => .inr (hown b e.symm).2))
    have HG5 : Hid (Grew w lab lab2) := hZ (fun b hb => by
     rcases HG4.out b hb with h | h
     ·exact hgl b h
     ·right; omega)
    have HV5 : Hid (∀ b, v5.ownBlock = some b -> lab2 b = 0) := hZ (fun b hb => by
     rcases HAT5.out with h | ⟨b2, h, hle⟩
     ·exact (hown b (h ▸ hb)).1
     ·rw [h] at hb;injection hb with hb;exact Classical.byContradiction (fun e => by have := HL4.out.lt b e; omega))
    have HR6 : Hid ((Kd.raw 1).R 41 w5 w.heap.size (fun _ => True) v5 (nameRows (bk ++ [(⟨(bk.length : Int) + 1, ps[k], -1⟩ : S157)]).length)) := hZ (by
     rw [List.length_append, List.length_singleton, HNRS.out];exact HR5.out)
    clear HR4 HL4 HT4w HG4 HR5 HT5 HAT5 HRd HVlt hown;go_wp2;go_roundw
    case rel => exact ⟨k + 1, bk ++ [⟨(bk.length : Int) + 1, ps[k], -1⟩], lab2, by go_num, by omega, hZ HOT.out.symm, HR6, HV5, HL5, HBO4, HG5, HT5w⟩
    case measure => simp [intOf]; omega
  ·obtain rfl : k = ps.length := by omega
   have HEQ := HBK.out;rw [List.take_length] at HEQ;subst HEQ;go_wp2;go_ret;exact ⟨u5, lab', rfl, HR.out, HV.out, HL.out, HBO.out, HG.out, HT.out⟩
def numRows (n : Nat) (f : Nat -> Int) : List (List Value) := (List.range n).map fun (j : Nat) => [.int .i64 (f j)]
structure WSt (W w : World) (lab : Nat -> Nat) (N : Nat) (M now c : Int) (wt : Nat -> Int) (l : List S57) (q : List S63) (R : Nat -> List Nat) (bk : List S157) (E : List (List Value)) (eb Nw : Nat) (vN : Value) (b0 : Nat) (wv : Nat -> Int) : Prop where
 law : Law w lab N M now c wt l q R bk E eb
 llen : l.length = bk.length
 names : (Kd.raw 1).R 41 w b0 (fun _ => True) vN (nameRows bk.length)
 nlab : ∀ b, vN.ownBlock = some b -> lab b = 0 /\ b ≠ Nw
 row : RowAt w Nw 0 1 68 (numRows 300 wv)
 rlab : lab Nw = 0
 wtw : ∀ k, k < l.length -> wt k = wv (k + 1)
 zero : ∀ k, k < l.length -> (at_ l k).f3 ≠ 1 -> wt k = 0
 bel : Below W.heap.size W w
 labW : ∀ b, lab b ≠ 0 -> W.heap.size <= b
 nwW : W.heap.size <= Nw
 pos : ∀ j, 0 <= wv j
section
variable {W w w' : World} {lab lab' : Nat -> Nat} {N : Nat} {M now c : Int} {wt : Nat -> Int} {l l' : List S57} {q q' : List S63} {R R' : Nat -> List Nat} {bk : List S157} {E E' : List (List Value)} {eb eb' Nw b0 : Nat} {vN : Value} {wv : Nat -> Int}
theorem grew_zero (hg : Grew w lab lab') {b : Nat} (h : lab b = 0) (hlt : b < w.heap.size) : lab' b = 0 :=
 Classical.byContradiction (fun e => (hg b e).elim (fun h2 => h2 h) (fun h2 => by omega))
theorem WSt.below (h : WSt W w lab N M now c wt l q R bk E eb Nw vN b0 wv) (hb : Below w.heap.size w w') : WSt W w' lab N M now c wt l q R bk E eb Nw vN b0 wv :=
 ⟨h.law.below hb, h.llen, Kd.R_below h.names hb, h.nlab, h.row.below hb, h.rlab, h.wtw, h.zero, h.bel.trans (hb.mono h.bel.size), h.labW, h.nwW, h.pos⟩
theorem WSt.rel (h : WSt W w lab N M now c wt l q R bk E eb Nw vN b0 wv) (hL : Law w' lab' N M now (c + 1) wt l' q R bk E' eb') (hl : l'.length = l.length) (h3 : ∀ k, k < l.length -> (at_ l' k).f3 = (at_ l k).f3) (hg : Grew w lab lab') (hT : Turn w w' (fun b => lab b ≠ 0)) : WSt W w' lab' N M now (c + 1) wt l' q R bk E' eb' Nw vN b0 wv where
 law := hL
 llen := hl.trans h.llen
 names := raw_turn h.names hT (fun b hb e => e (h.nlab b hb).1)
 nlab := fun b hb => ⟨grew_zero hg (h.nlab b hb).1 (Kd.R_lt h.names b hb), (h.nlab b hb).2⟩
 row := h.row.turn hT (fun e => e h.rlab)
 rlab := grew_zero hg h.rlab h.row.lt
 wtw := fun k hk => h.wtw k (by omega)
 zero := fun k hk e => h.zero k (by omega) (by rw [<- h3 k (by omega)]; exact e)
 bel := Turn.below h.bel hT (fun b e => h.labW b e) h.bel.size
 labW := fun b hb => (hg b hb).elim (h.labW b) (fun e => Nat.le_trans h.bel.size e)
 nwW := h.nwW
 pos := h.pos
def wvK (l' : List S57) (wv : Nat -> Int) (k : Nat) (j : Nat) : Int := if 1 <= j /\ j <= k then (if (at_ l' (j - 1)).f3 = 1 then wv j + 1 else 0) else wv j
theorem WSt.go (h : WSt W w lab N M now c wt l q R bk E eb Nw vN b0 wv) {w1 w2 w3 : World} (hL : Law w1 lab' N M (now + 1) c (fun k => wt k + 1) l' q' R' bk E' eb') (hl : l'.length = l.length) (hg : Grew w lab lab') (hT : Turn w w1 (fun b => lab b ≠ 0)) (hB : Below w1.heap.size w1 w2) (hT2 : Turn w2 w3 (fun b => b = Nw)) (hrow : RowAt w3 Nw 0 1 68 (numRows 300 (wvK l' wv l'.length))) : WSt W w3 lab' N M (now + 1) c (fun k => if (at_ l' k).f3 = 1 then wt k + 1 else 0) l' q' R' bk E' eb' Nw vN b0 (wvK l' wv l'.length) := by
 have hz := grew_zero hg h.rlab h.row.lt;have hs1 := hT.size;have hs2 := hB.size;refine ⟨((hL.below hB).turn hT2 (fun b e => by rw [e]; exact hz)).more (Int.le_refl _) (fun k => ?_) (Nat.le_refl _), hl.trans h.llen, ?_, fun b hb => ⟨grew_zero hg (h.nlab b hb).1 (Kd.R_lt h.names b hb), (h.nlab b hb).2⟩, hrow, hz, fun k hk => ?_, fun k hk e => if_neg e, ?_, fun b hb => (hg b hb).elim (h.labW b) (fun e => Nat.le_trans h.bel.size e), h.nwW, fun j => ?_⟩
 ·by_cases e : (at_ l' k).f3 = 1
  ·left; rw [if_pos e]; exact Int.le_refl _
  ·right;intro n hn
   cases hR : R' n with
   | nil => rw [hR] at hn; simp at hn
   | cons a r =>
    rw [hR] at hn;exact e ((hL.inv.rows.first n a r hR).2 k hn)
 ·exact raw_turn (Kd.R_below (raw_turn h.names hT (fun b hb e => e (h.nlab b hb).1)) hB) hT2 (fun b hb e => (h.nlab b hb).2 e)
 ·have h1 := h.wtw k (by omega);unfold wvK;rw [if_pos (show 1 <= k + 1 /\ k + 1 <= l'.length by omega), Nat.add_sub_cancel, h1]
 ·have h1 := Turn.below h.bel hT (fun b e => h.labW b e) h.bel.size;exact Turn.below (h1.trans (hB.mono h1.size)) hT2 (fun b e => by rw [e]; exact h.nwW) (by have := h.bel.size; omega)
 ·have := h.pos j;unfold wvK
  repeat' split
  all_goals omega
theorem Inv.holds (h : Inv M now c wt noD l q R) {k : Nat} (hk : k < l.length) (h3 : (at_ l k).f3 = 2) : 1 <= (at_ l k).f1.f2 /\ now < (at_ l k).f1.f3 /\ (at_ l k).f1.f4 = 1 := by
 have h0 : (at_ l k).f3 ≠ 0 := by rw [h3]; decide
 obtain ⟨n, hn, hm, ht⟩ := h.fixed_due hk h0;have h1 := ht (fun _ _ _ => id);have h2 := ((h.serv k hk).secm h0).2 (by omega);exact ⟨by omega, h1.1, h2⟩
end
def valRows (n : Nat) (f : Nat -> Value) : List (List Value) := (List.range n).map fun (j : Nat) => [f j]
theorem valRows_len (n : Nat) (f : Nat -> Value) : (valRows n f).length = n := by simp [valRows]
theorem valRows_get {n : Nat} {f : Nat -> Value} {k : Nat} (h : k < n) {hh : k < (valRows n f).length} : (valRows n f)[k] = [f k] := by simp [valRows]
theorem valRows_set {n : Nat} {f g : Nat -> Value} {k : Nat} (hk : k < n) (hg : ∀ j, j < n -> j ≠ k -> g j = f j) {hh : k < (valRows n f).length} : (valRows n f).set k ((valRows n f)[k].set 0 (g k)) = valRows n g := by
 apply List.ext_getElem
 ·rw [List.length_set, valRows_len, valRows_len]
 ·intro j h1 h2;have hj : j < n := by rw [valRows_len] at h2; exact h2
  rw [List.getElem_set, valRows_get hj];by_cases e : k = j
  ·subst e; rw [if_pos rfl, valRows_get hk, valRows_get hk]; rfl
  ·rw [if_neg e, valRows_get hj, hg j hj (fun e2 => e e2.symm)]
def rowIds (x : S63) : List Int := (if x.f1 = 0 then [] else [x.f1]) ++ x.f2
section
variable {M now c : Int} {wt : Nat -> Int} {l : List S57} {q : List S63} {R R1 : Nat -> List Nat}
theorem Inv.rowIds (h : Inv M now c wt noD l q R) (hids : ∀ k, k < l.length -> (at_ l k).f0 = (k : Int) + 1) {n : Nat} (hn : n < q.length) : rowIds q[n] = (R n).map (fun (k : Nat) => (k : Int) + 1) := by
 have h1 := h.rows.ids n hn;have h2 : (R n).map (fun k => (at_ l k).f0) = (R n).map (fun (k : Nat) => (k : Int) + 1) := List.map_congr_left (fun k hk => hids k ((h.rows.mem n k).1 hk).1);rw [<- h2, <- h1];unfold Top.rowIds;by_cases e : q[n].f1 = 0
 ·rw [if_pos e, if_pos e, h.rows.hold0 n hn e]; rfl
 ·rw [if_neg e, if_neg e]; rfl
theorem Inv.row_M (h : Inv M now c wt noD l q R) (n : Nat) : ((R n).length : Int) <= M := by
 have h1 := h.row_count n;have h2 := h.sane.fix;rw [fixes_count] at h2;omega
theorem step_row (hs : StepR R R1) (n : Nat) : ((R n).map (fun (k : Nat) => (k : Int) + 1)).isPrefixOf ((R1 n).map (fun (k : Nat) => (k : Int) + 1)) = true \/ ∃ a r, (R n).map (fun (k : Nat) => (k : Int) + 1) = a :: r /\ r.isPrefixOf ((R1 n).map (fun (k : Nat) => (k : Int) + 1)) = true := by
 obtain ⟨R', hg, hp⟩ := hs;obtain ⟨s, e1⟩ := hg n;rcases hp n with e2 | ⟨a, e2⟩
 ·left;rw [e2, e1, List.map_append, List.isPrefixOf_iff_prefix];exact List.prefix_append _ _
 ·rw [e1] at e2
  cases hR : R n with
  | nil => left; rfl
  | cons b r =>
   right;rw [hR, List.cons_append, List.cons.injEq] at e2;refine ⟨_, _, rfl, ?_⟩;rw [<- e2.2, List.map_append, List.isPrefixOf_iff_prefix];exact List.prefix_append _ _
end
structure QSt (W w : World) (lab : Nat -> Nat) (N : Nat) (M now c : Int) (l : List S57) (q : List S63) (R : Nat -> List Nat) (bk : List S157) (EV : List Ev) (eb Nq nm : Nat) (vN : Value) (b0 : Nat) (vq : Nat -> Value) : Prop where
 law : Law w lab N M now c (fun _ => 0) l q R bk (EV.map Ev.cells) eb
 pair : Paired EV
 llen : l.length = bk.length
 qlen : q.length = nm
 names : (Kd.raw 1).R 41 w b0 (fun _ => True) vN (nameRows bk.length)
 nlab : ∀ b, vN.ownBlock = some b -> lab b = 0 /\ b ≠ Nq
 row : RowAt w Nq 0 1 61 (valRows nm vq)
 rlab : lab Nq = 0
 qs : ∀ n (h : n < q.length), (Kd.int .i64).R 3 w b0 (fun _ => True) (vq n) (Top.rowIds q[n])
 qlab : ∀ n, n < nm -> ∀ b, (vq n).ownBlock = some b -> lab b = 0 /\ b ≠ Nq
 bel : Below W.heap.size W w
 labW : ∀ b, lab b ≠ 0 -> W.heap.size <= b
 nqW : W.heap.size <= Nq
theorem int_turn {k : IntKind} {e base : Nat} {w w' : World} {v : Value} {xs : List Int} (h : (Kd.int k).R e w base (fun _ => True) v xs) {S : Nat -> Prop} (ht : Turn w w' S) (hS : ∀ b, v.ownBlock = some b -> ¬ S b) : (Kd.int k).R e w' base (fun _ => True) v xs :=
 Kd.R_reok rfl (Kd.R_step (Kd.R_tight rfl h) (fun b hb hlt => ht.block b hlt (hS b hb.symm))) (fun _ _ => trivial)
section
variable {W w w' : World} {lab lab' : Nat -> Nat} {N : Nat} {M now c : Int} {l l' : List S57} {q q' : List S63} {R R' : Nat -> List Nat} {bk : List S157} {EV EV' : List Ev} {eb eb' Nq nm b0 : Nat} {vN : Value} {vq : Nat -> Value}
theorem QSt.below (h : QSt W w lab N M now c l q R bk EV eb Nq nm vN b0 vq) (hb : Below w.heap.size w w') : QSt W w' lab N M now c l q R bk EV eb Nq nm vN b0 vq :=
 ⟨h.law.below hb, h.pair, h.llen, h.qlen, Kd.R_below h.names hb, h.nlab, h.row.below hb, h.rlab, fun n hn => Kd.R_below (h.qs n hn) hb, h.qlab, h.bel.trans (hb.mono h.bel.size), h.labW, h.nqW⟩
theorem QSt.rel (h : QSt W w lab N M now c l q R bk EV eb Nq nm vN b0 vq) (hL : Law w' lab' N M now (c + 1) (fun _ => 0) l' q R bk (EV'.map Ev.cells) eb') (hp : Paired EV') (hl : l'.length = l.length) (hg : Grew w lab lab') (hT : Turn w w' (fun b => lab b ≠ 0)) : QSt W w' lab' N M now (c + 1) l' q R bk EV' eb' Nq nm vN b0 vq where
 law := hL
 pair := hp
 llen := hl.trans h.llen
 qlen := h.qlen
 names := raw_turn h.names hT (fun b hb e => e (h.nlab b hb).1)
 nlab := fun b hb => ⟨grew_zero hg (h.nlab b hb).1 (Kd.R_lt h.names b hb), (h.nlab b hb).2⟩
 row := h.row.turn hT (fun e => e h.rlab)
 rlab := grew_zero hg h.rlab h.row.lt
 qs := fun n hn => int_turn (h.qs n hn) hT (fun b hb e => e (h.qlab n (by rw [<- h.qlen]; exact hn) b hb).1)
 qlab := fun n hn b hb => ⟨grew_zero hg (h.qlab n hn b hb).1 (Kd.R_lt (h.qs n (by rw [h.qlen]; exact hn)) b hb), (h.qlab n hn b hb).2⟩
 bel := Turn.below h.bel hT (fun b e => h.labW b e) h.bel.size
 labW := fun b hb => (hg b hb).elim (h.labW b) (fun e => Nat.le_trans h.bel.size e)
 nqW := h.nqW
structure Looked (w1 w : World) (lab' : Nat -> Nat) (q q' : List S63) (Nq nm b0 : Nat) (vq vq' : Nat -> Value) (k : Nat) : Prop where
 row : RowAt w Nq 0 1 61 (valRows nm vq')
 new : ∀ n (h : n < q'.length), n < k -> (Kd.int .i64).R 3 w b0 (fun _ => True) (vq' n) (Top.rowIds q'[n]) /\ ∀ b, (vq' n).ownBlock = some b -> lab' b = 0 /\ b ≠ Nq
 old : ∀ n (h : n < q.length), k <= n -> (Kd.int .i64).R 3 w b0 (fun _ => True) (vq' n) (Top.rowIds q[n]) /\ ∀ b, (vq' n).ownBlock = some b -> lab' b = 0 /\ b ≠ Nq
 turn : Turn w1 w (fun b => b = Nq)
theorem QSt.go (h : QSt W w lab N M now c l q R bk EV eb Nq nm vN b0 vq) {w1 w2 w3 : World} {vq' : Nat -> Value} (hL : Law w1 lab' N M (now + 1) c (fun _ => 0 + 1) l' q' R' bk (EV'.map Ev.cells) eb') (hp : Paired EV') (hl : l'.length = l.length) (hq : q'.length = q.length) (hg : Grew w lab lab') (hT : Turn w w1 (fun b => lab b ≠ 0)) (hB : Below w1.heap.size w1 w2) (hK : Looked w2 w3 lab' q q' Nq nm b0 vq vq' nm) : QSt W w3 lab' N M (now + 1) c l' q' R' bk EV' eb' Nq nm vN b0 vq' := by
 have hz := grew_zero hg h.rlab h.row.lt;have hs1 := hT.size;have hs2 := hB.size;refine ⟨((hL.below hB).turn hK.turn (fun b e => by rw [e]; exact hz)).more (Int.le_refl _) (fun k => .inl (by show (0 : Int) <= 0 + 1; decide)) (Nat.le_refl _), hp, hl.trans h.llen, hq.trans h.qlen, ?_, fun b hb => ⟨grew_zero hg (h.nlab b hb).1 (Kd.R_lt h.names b hb), (h.nlab b hb).2⟩, hK.row, hz, fun n hn => (hK.new n hn (by rw [<- h.qlen, <- hq]; exact hn)).1, fun n hn b hb => (hK.new n (by rw [hq, h.qlen]; exact hn) hn).2 b hb, ?_, fun b hb => (hg b hb).elim (h.labW b) (fun e => Nat.le_trans h.bel.size e), h.nqW⟩
 ·exact raw_turn (Kd.R_below (raw_turn h.names hT (fun b hb e => e (h.nlab b hb).1)) hB) hK.turn (fun b hb e => (h.nlab b hb).2 e)
 ·have h1 := Turn.below h.bel hT (fun b e => h.labW b e) h.bel.size;exact Turn.below (h1.trans (hB.mono h1.size)) hK.turn (fun b e => by rw [e]; exact h.nqW) (by have := h.bel.size; omega)
theorem QSt.look (h : QSt W w lab N M now c l q R bk EV eb Nq nm vN b0 vq) {w1 w2 : World} (hg : Grew w lab lab') (hT : Turn w w1 (fun b => lab b ≠ 0)) (hB : Below w1.heap.size w1 w2) : Looked w2 w2 lab' q q' Nq nm b0 vq vq 0 where
 row := (h.row.turn hT (fun e => e h.rlab)).below hB
 new := fun n _ hk => by omega
 old := fun n hn _ => ⟨Kd.R_below (int_turn (h.qs n hn) hT (fun b hb e => e (h.qlab n (by rw [<- h.qlen]; exact hn) b hb).1)) hB, fun b hb => ⟨grew_zero hg (h.qlab n (by rw [<- h.qlen]; exact hn) b hb).1 (Kd.R_lt (h.qs n hn) b hb), (h.qlab n (by rw [<- h.qlen]; exact hn) b hb).2⟩⟩
 turn := Turn.refl _ _
end
theorem info61 : (Tryz.prog.info? 61).map (fun i => (i.zero, i.size, i.bytes)) = some (some (.slice none 0 0), 1, 24) := by kernel_rfl
theorem made60 (n : Nat) (hn : n <= 8) (w : World) : (Instr.makeSlice 60 (.int .i64 n) (.int .i64 n)).run Tryz.prog w = .ok (.slice (some ⟨w.heap.size, 0, none⟩) n n) (w.alloc (.cells (madeCells #[.slice none 0 0] n) 61)) := by
 obtain ⟨i0, hi, hz0, hz1, hz2⟩ := info_parts info61;have := run_make (P := Tryz.prog) w 60 61 i0 (.slice none 0 0) Tryz.underlying60 hi hz0 .i64 .i64 n n (by omega) (Int.le_refl _) (by rw [hz2]; omega) (by omega);rw [this, hz1];simp only [Int.toNat_natCast, Nat.mul_one];rfl
theorem valRows_flat (n : Nat) (v : Value) : (valRows n (fun _ => v)).flatten = List.replicate n v := by
 unfold valRows
 induction n with
 | zero => rfl
 | succ n ih => rw [List.range_succ, List.map_append, List.flatten_append, ih, List.replicate_succ']; rfl
theorem val_new60 (n : Nat) (w : World) : RowAt (w.alloc (.cells (madeCells #[.slice none 0 0] n) 61)) w.heap.size 0 1 61 (valRows n (fun _ => .slice none 0 0)) := by
 refine ⟨fun x hx => ?_, [], [], rfl, ?_⟩
 ·obtain ⟨k, hk, rfl⟩ := List.mem_iff_getElem.1 hx;rw [valRows_get (by rw [valRows_len] at hk; exact hk)];rfl
 ·rw [blk_new, List.nil_append, List.append_nil, valRows_flat, <- toList_madeCells_one]
section
variable {W w w' : World} {lab lab' : Nat -> Nat} {N : Nat} {M now c : Int} {l l' : List S57} {q q' : List S63} {R R' : Nat -> List Nat} {bk : List S157} {EV EV' : List Ev} {eb eb' Nq nm b0 : Nat} {vN : Value} {vq vq' : Nat -> Value}
theorem QSt.rel' (h : QSt W w lab N M now c l q R bk EV eb Nq nm vN b0 vq) {i : Nat} (hi : i < l.length) {P : List S72} {E' : List (List Value)} (hL : Law w' lab' N M now (c + 1) (fun _ => 0) l' q R bk E' eb') (hl : l'.length = l.length) (hg : Grew w lab lab') (hT : Turn w w' (fun b => lab b ≠ 0)) (h2 : (l' = l /\ E' = EV.map Ev.cells) \/ (l' = l.set i (relX now P l[i]) /\ E' = EV.map Ev.cells ++ (relE now l[i]).map Ev.cells)) : ∃ EV', QSt W w' lab' N M now (c + 1) l' q R bk EV' eb' Nq nm vN b0 vq := by
 rcases h2 with ⟨_, rfl⟩ | ⟨_, rfl⟩
 ·exact ⟨EV, h.rel hL h.pair hl hg hT⟩
 ·rw [<- List.map_append] at hL;exact ⟨EV ++ relE now l[i], h.rel hL (h.pair.app (relE_paired _)) hl hg hT⟩
theorem QSt.more (h : QSt W w lab N M now c l q R bk EV eb Nq nm vN b0 vq) {c' : Int} (hc : c <= c') (he : eb <= eb') : QSt W w lab N M now c' l q R bk EV eb' Nq nm vN b0 vq :=
 ⟨h.law.more hc (fun _ => .inl (Int.le_refl _)) he, h.pair, h.llen, h.qlen, h.names, h.nlab, h.row, h.rlab, h.qs, h.qlab, h.bel, h.labW, h.nqW⟩
theorem Looked.below {w1 : World} {k : Nat} (h : Looked w1 w lab' q q' Nq nm b0 vq vq' k) {w2 : World} (hB : Below w.heap.size w w2) : Looked w1 w2 lab' q q' Nq nm b0 vq vq' k where
 row := h.row.below hB
 new := fun n hn hk => ⟨Kd.R_below (h.new n hn hk).1 hB, (h.new n hn hk).2⟩
 old := fun n hn hk => ⟨Kd.R_below (h.old n hn hk).1 hB, (h.old n hn hk).2⟩
 turn := h.turn.trans (Turn.of_below _ hB)
theorem Looked.step {w1 : World} {k : Nat} (h : Looked w1 w lab' q q' Nq nm b0 vq vq' k) (hk : k < nm) (hq : q.length = nm) (hq' : q'.length = nm) {B0 : Nat} (hB0 : b0 <= B0) {v : Value} (hk2 : k < q'.length) (hR : (Kd.int .i64).R 3 w B0 (fun b => B0 <= b) v (Top.rowIds q'[k])) (hz : ∀ b, B0 <= b -> lab' b = 0) (hN : Nq < B0) : Looked w1 (w.setCell ⟨Nq, k, none⟩ v) lab' q q' Nq nm b0 vq (fun n => if n = k then v else vq' n) (k + 1) := by
 have hT : Turn w (w.setCell ⟨Nq, k, none⟩ v) (fun b => b = Nq) := (Turn.refl w (fun b => b = Nq)).set rfl k v;have hlr : k < (valRows nm vq').length := by rw [valRows_len]; exact hk
 have hrow := h.row.set (i := k) hlr (j := 0) (by decide) v;rw [show 0 + k * 1 + 0 = k by omega] at hrow;have hset := valRows_set (n := nm) (f := vq') (g := fun n => if n = k then v else vq' n) (k := k) hk (fun j _ hne => by show (if j = k then v else vq' j) = vq' j; rw [if_neg hne]) (hh := hlr);rw [if_pos (rfl : k = k)] at hset;rw [hset] at hrow;refine ⟨hrow, fun n hn hlt => ?_, fun n hn hle => ?_, h.turn.trans hT⟩
 ·by_cases e : n = k
  ·subst e;rw [show (if n = n then v else vq' n) = v from if_pos rfl];have h1 : ∀ b, v.ownBlock = some b -> B0 <= b := fun b hb => Kd.R_base hR b hb
   refine ⟨int_turn (Kd.R_reok rfl (Kd.R_raise (b := B0) (fun w ok x cs (h : (Kd.int .i64).M w B0 ok x cs) => (show (Kd.int .i64).M w b0 ok x cs from h)) hR (fun b hb => Nat.le_trans hB0 (h1 b hb))) (fun _ _ => trivial)) hT (fun b hb e2 => by have := h1 b hb; omega), fun b hb => ⟨hz b (h1 b hb), fun e2 => by have := h1 b hb; omega⟩⟩
  ·rw [show (if n = k then v else vq' n) = vq' n from if_neg e];have h1 := h.new n hn (by omega);exact ⟨int_turn h1.1 hT (fun b hb e2 => (h1.2 b hb).2 e2), h1.2⟩
 ·rw [show (if n = k then v else vq' n) = vq' n from if_neg (by omega)];have h1 := h.old n hn (by omega);exact ⟨int_turn h1.1 hT (fun b hb e2 => (h1.2 b hb).2 e2), h1.2⟩
theorem begins_one {od nw : List Int} (h : od.isPrefixOf nw = true \/ ∃ a r, od = a :: r /\ r.isPrefixOf nw = true) {j : Nat} (hj : j <= 1) (h0 : j = 1 -> od.isPrefixOf nw = false) (hb : (od.drop j).isPrefixOf nw = false) : j = 0 /\ od.isPrefixOf nw = false := by
 by_cases e : j = 0
 ·subst e; exact ⟨rfl, hb⟩
 ·obtain rfl : j = 1 := by omega
  exfalso;rcases h with h | ⟨a, r, rfl, h⟩
  ·rw [h0 rfl] at h; cases h
  ·rw [List.drop_succ_cons, List.drop_zero, h] at hb
   cases hb
theorem pair_at {l : List Ev} (h : Paired l) {i : Nat} (hi : i < l.length) (e : l[i].kind = 7) : ∃ h2 : i + 1 < l.length, l[i + 1].kind = 6 /\ l[i + 1].who = l[i].who := h.out i hi e
end
def sems.T14 : Bool × List (List Nat × List Nat) := (true, [([], []), ([], []), ([], []), ([], []), ([2, 3], [2, 3]), ([4], [4]), ([5], [5]), ([], []), ([7], [7]), ([6, 8], [6, 8]), ([1, 9], [1, 9]), ([10], [10]), ([], []), ([], []), ([12, 13], [12, 13]), ([14], [14]), ([15], [15]), ([0, 11, 16], [0, 11, 16])])
def sems.B14 : List Nat := [0, 0, 0, 0, 12, 28, 60, 0, 128, 508, 1022, 2046, 0, 0, 12288, 28672, 61440, 131071]
theorem sems.tab14 : rtab .any (opsOf Tryz.f5 14) = sems.T14 := by kernel_rfl
theorem sems.bits14 : waitsOk sems.T14.2 sems.B14 = true := by kernel_rfl
def sems.T38 : Bool × List (List Nat × List Nat) := (true, [([], []), ([], []), ([0, 1], [0, 1]), ([2], [2]), ([3], [3]), ([4], [4]), ([5], [5]), ([6], [6]), ([7, 6], [6, 7]), ([6], [6]), ([9, 6], [6, 9]), ([8, 10, 6], [6, 8, 10]), ([11, 6, 6], [6, 11]), ([12], [12]), ([12], [12]), ([14, 12], [12, 14]), ([13, 15, 12], [12, 13, 15]), ([16, 12], [12, 16]), ([17, 12], [12, 17]), ([18, 12], [12, 18]), ([12, 19, 6], [6, 12, 19]), ([20, 12, 6], [6, 20]), ([21], [21]), ([21], [21]), ([23, 21], [21, 23]), ([22, 24, 21], [21, 22, 24]), ([25, 21], [21, 25]), ([26, 21], [21, 26]), ([21], [21]), ([21], [21]), ([28, 29, 21], [21, 28, 29]), ([30, 21], [21, 30]), ([31, 21], [21, 31]), ([27, 32, 21], [21, 27, 32]), ([21, 33, 6], [6, 21, 33]), ([6, 34], [6, 34])])
def sems.B38 : List Nat := [0, 0, 3, 7, 15, 31, 63, 127, 255, 127, 639, 2047, 4095, 8191, 8191, 24575, 65535, 131071, 262143, 524287, 1048575, 2097151, 4194303, 4194303, 12582911, 33554431, 67108863, 134217727, 4194303, 4194303, 809500671, 1883242495, 4030726143, 8589934591, 17179869183, 34359738367]
theorem sems.tab38 : rtab .any (opsOf Tryz.f5 38) = sems.T38 := by kernel_rfl
theorem sems.bits38 : waitsOk sems.T38.2 sems.B38 = true := by kernel_rfl
theorem name_at8 {w : World} {b0 n cN : Nat} {AN : Option Addr} (h : (Kd.raw 1).R 41 w b0 (fun _ => True) (.slice AN n cN) (nameRows n)) {t : Nat} (ht : t < n) : ∃ an, AN = some an /\ w.cell? (an.add t) = some (.int .u32 (t : Int)) := by
 obtain ⟨A5, c5, e5, hc5, hC5⟩ := Kd.R_reads h;rw [nameRows_len] at e5 hC5;injection e5 with e6 e7 e8;subst e6 e8;obtain ⟨an, hAN, hcn⟩ := hC5.2.2 (by omega);refine ⟨an, hAN, ?_⟩;obtain ⟨cs, hl, hK, hcell⟩ := hcn t [.int .u32 (t : Int)] (by simp [nameRows, ht]);have e : cs = [.int .u32 (t : Int)] := by first | exact hK.1 | exact hK.1.symm
 subst e;have := hcell 0 _ rfl;rw [show t * (Kd.raw 1).sz + 0 = t from by show t * 1 + 0 = t; omega] at this;exact this
theorem grown_none {W w1 : World} (h : W.grownBy w1 none) : Below W.heap.size W w1 := ⟨h.os, h.tape, h.output, h.size, fun k hk => h.block k hk (by simp)⟩
theorem evk_at {w : World} {AE : Option Addr} {EV : List Ev} (h : (Kd.raw 4).C w AE EV.length (EV.map Ev.cells)) {i : Nat} (hi : i < EV.length) : ∃ a, AE = some a /\ w.cell? ⟨(a.add (i * 4)).block, (a.add (i * 4)).off + 1, none⟩ = some (.int .i64 EV[i].kind) /\ w.cell? ⟨(a.add (i * 4)).block, (a.add (i * 4)).off + 2, none⟩ = some (.int .i64 EV[i].who) := by
 obtain ⟨a, hA, hcn⟩ := h.2.2 (by omega);refine ⟨a, hA, ?_⟩;obtain ⟨cs, hl, hK, hcell⟩ := hcn i (EV[i].cells) (by simp [hi]);have e : cs = EV[i].cells := by first | exact hK.1 | exact hK.1.symm
 subst e;refine ⟨?_, ?_⟩
 ·have := hcell 1 (.int .i64 EV[i].kind) rfl;rw [show i * (Kd.raw 4).sz + 1 = i * 4 + 1 from rfl] at this;rw [<- add_field _ _ 1 (by omega)];exact this
 ·have := hcell 2 (.int .i64 EV[i].who) rfl;rw [show i * (Kd.raw 4).sz + 2 = i * 4 + 2 from rfl] at this;rw [<- add_field _ _ 2 (by omega)];exact this
theorem sems_calls (m : Int) (Am : Option Addr) (cm : Nat) (ms : List Int) (Al : Option Addr) (cl : Nat) (ps : List S85) (A : Option Addr) (c : Nat) (dos : List Do3) (w : World) (hm : (Kd.int .i64).C w Am ms.length ms) (hp : Kd.C k85 w Al ps.length ps) (hd : DoAt w A dos) (hmax : dos.length <= 9223372036854775807) :
  Calls Tryz.prog 5 #[.int .i64 m, .slice Am ms.length cm, .slice Al ps.length cl, .slice A dos.length c] w fun e w' => e = .returned (.bool true) /\ Below w.heap.size w w' := by
 have DA := awake_calls w
 have DH := fun wx (hb : Below w.heap.size w wx) => (heavy_calls m Am ms.length cm Al ps.length cl A c dos wx (hd.below hb) hmax).mono (fun e w' h => (by
  rcases h with ⟨h | ⟨h, hL⟩, hB⟩
  ·exact ⟨true, h, (fun e => by cases e), hB⟩
  ·exact ⟨false, h, fun _ => hL, hB⟩ : ∃ b : Bool, e = .returned (.bool b) /\ (b = false -> Light m ms.length ps.length dos) /\ Below wx.heap.size wx w'))
 go_enter Tryz.func5, Tryz.ntmps5
 go_upto_region 3 with (go_at_call 7; (with_reducible refine DA.mono ?_); rintro e w1 ⟨rfl, hB1⟩; have HB1 := hZ hB1; clear hB1)
 go_upto_if 28 with (go_at_call 8; (with_reducible refine (DH _ HB1.out).mono ?_); rintro e w2 ⟨b, rfl, hb, hB2⟩; have HB2 := hZ (HB1.out.trans (hB2.mono HB1.out.size)); have HLT := hZ hb; clear hB2 hb)
 cases b with
 | true =>
  go_wp2;go_ret;exact ⟨by first | trivial | rfl, HB2.out⟩
 | false =>
  obtain ⟨m1, m2, nm8, nl12, do40, hea⟩ := HLT.out rfl;have HEA := hZ hea;clear hea HLT;have DN := snew_calls m Am cm ms w2 (Kd.C_below hm HB2.out) m1 (by omega) nm8;by_cases hok : newB_ok m ms = true
  ·have DN := DN.mono (fun e w' h => h.1 hok);have HOK := hZ hok;clear hok
   go_upto_region 8 with (go_at_call 9; (with_reducible refine DN.mono ?_); rintro e w3 ⟨N, lab, rfl, hS, hB3, hl3⟩; have HS := hZ hS; have HB3 := hZ hB3; have HL3 := hZ hl3; clear hS hB3 hl3)
   clear DN DA DH;have HB3w := hZ (HB2.out.trans (HB3.out.mono HB2.out.size));have hs2 := HB2.out.size;have hlaw : Law w3 lab N m 0 0 (fun _ => 0) [] (ms.map lockOf) (fun _ => []) [] [] 0 := ⟨HS.out, Inv.new HOK.out _, fun k hk => by simp at hk, Nat.le_refl _⟩;have DO := opened_calls N lab m 0 (fun _ => 0) (ms.map lockOf) (fun _ => []) [] 0 Al cl ps w3 hlaw (by decide) w hp HB3w.out (fun b hb => by have := HL3.out b hb; omega) nl12;clear hlaw
   go_upto_region 9 with (go_at_call 10; (with_reducible refine DO.mono ?_); rintro e w4 ⟨vN, lab4, rfl, hR4, hV4, hL4, hBO4, hG4, hT4⟩; have HR4 := hZ hR4; have HV4 := hZ hV4; have HL4 := hZ hL4; have HBO4 := hZ hBO4; have HG4 := hZ hG4; have HT4 := hZ hT4; clear hR4 hV4 hL4 hBO4 hG4 hT4)
   clear DO;have hsl : (servsOf (openL m ps [])).length = (openL m ps []).length := by unfold servsOf; rw [List.length_map]
   have hs3 := HB3w.out.size;have hs4 := HT4.out.size;have hnbk : (openL m ps []).length <= 12 := by have := openL_len (M := m) ps []; simp at this; omega
   generalize openL m ps [] = bk at *;obtain ⟨AN, cN, hvN⟩ := Kd.R_slice HR4.out;rw [nameRows_len] at hvN;subst hvN
   have HW5 : Hid (QSt w (w4.alloc (.cells (madeCells #[.slice none 0 0] ms.length) 61)) lab4 N m 0 0 (servsOf bk) (ms.map lockOf) (fun _ => []) bk [] 0 w4.heap.size ms.length (.slice AN bk.length cN) w3.heap.size (fun _ => .slice none 0 0)) := hZ (by
    have hb := below_alloc (Below.refl w4.heap.size w4) (.cells (madeCells #[.slice none 0 0] ms.length) 61);have hlt : ∀ b, lab4 b ≠ 0 -> b < w4.heap.size := HL4.out.lt;refine ⟨HL4.out.below hb, paired_nil, hsl, List.length_map _, Kd.R_below HR4.out hb, fun b e => ⟨HV4.out b e, fun e2 => by have := Kd.R_lt HR4.out b e; omega⟩, val_new60 ms.length w4, Classical.byContradiction (fun e => by have := hlt _ e; omega), fun n hn => ?_, fun n hn b hb => by simp [Value.ownBlock] at hb, ?_, fun b hb2 => ?_, by omega⟩
    ·rw [List.getElem_map];exact Kd.R_nil _ _ _ _ _
    ·have h1 := Turn.below HB3w.out HT4.out (fun b e => by have := HL3.out b e; omega) hs3;exact h1.trans (hb.mono h1.size)
    ·rcases HG4.out b hb2 with h | h
     ·have := HL3.out b h; omega
     ·omega)
   have hmk := fun w => made60 ms.length nm8 w
   go_upto_region 10 with fail
   clear hmk;have HBQ0 : Hid (w3.heap.size <= w4.heap.size) := hZ hs4;generalize hw5 : World.alloc _ _ = w5 at *;generalize hNqe : w4.heap.size = Nq at *;clear hw5 hNqe HS HB3 HL3 HOK HR4 HV4 HL4 HBO4 HG4 HT4 HB3w hs2 hs3 hs4 HB1 HB2;obtain ⟨b0, hb0⟩ : ∃ b0, b0 = w3.heap.size := ⟨_, rfl⟩;rw [<- hb0] at HW5 HBQ0;clear hb0;go_wp2
   go_loopw [13] (fun v13 wr => ∃ (i : Nat) (now : Int) (lab : Nat -> Nat) (l : List S57) (q : List S63) (R : Nat -> List Nat) (EV : List Ev) (vq : Nat -> Value), v13 = .int .i64 i /\ i <= dos.length /\ now <= 200 * (i : Int) /\ Hid (QSt w wr lab N m now (i : Int) l q R bk EV (200002 * i) Nq ms.length (.slice AN bk.length cN) b0 vq)) (fun v13 _ => dos.length - (intOf v13).toNat)
   case atStart => exact ⟨0, 0, _, _, _, _, _, _, rfl, Nat.zero_le _, by omega, by simpa using HW5⟩
   case round =>
    clear HW5;obtain ⟨i, now, lab, l, q, R, EV, vq, rfl, hi, hnow, HW⟩ := hrel;have hw1 : IntKind.i64.wrap ((i : Int) + 1) = (i : Int) + 1 := by rw [i64_w]; unfold Go.RowKit.wrap64; omega
    by_cases hlt : i < dos.length
    ·have HD := hZ (hd.below HW.out.bel);obtain ⟨ad, A1, c1, rfl, c0, c1', c2, hC⟩ := HD.out i hlt;have HC := hZ hC;have k0 : (0 : Int) <= (i : Int) := Int.natCast_nonneg i;have k1 : (i : Int) < (dos.length : Int) := by omega
     clear hC
     go_upto_region 13 with fail
     go_cut [59] from 43 to 158 (fun v59 wx => v59 = .bool (decide (0 < bk.length /\ 0 <= dos[i].who)) /\ wx = wr)
     case first =>
      by_cases h1 : 0 < bk.length
      ·have g1 : decide ((bk.length : Int) > 0) = true := by simpa using h1
       by_cases h2 : 0 <= dos[i].who
       ·have g2 : decide (dos[i].who >= 0) = true := by simpa using h2
        go_wp2;go_meet;exact ⟨by simp [h1, h2], rfl⟩
       ·have g2 : decide (dos[i].who >= 0) = false := by simpa using h2
        go_wp2;go_meet;exact ⟨by simp [h1, h2], rfl⟩
      ·have g1 : decide ((bk.length : Int) > 0) = false := by simpa using h1
       go_wp2;go_meet;exact ⟨by simp [h1], rfl⟩
     case rest =>
      obtain ⟨rfl, rfl⟩ := hcut
      go_upto_if 59 with fail
      go_cut [13] from 43 to 158 (fun v13 wx => v13 = .int .i64 i /\ ∃ (lab' : Nat -> Nat) (l' : List S57) (EV' : List Ev), Hid (QSt w wx lab' N m now ((i + 1 : Nat) : Int) l' q R bk EV' (200002 * i + 2) Nq ms.length (.slice AN bk.length cN) b0 vq))
      case first =>
       by_cases hcd : 0 < bk.length /\ 0 <= dos[i].who
       ·have hb1 : (0 : Int) < (bk.length : Int) := by omega
        obtain ⟨t, ht⟩ : ∃ t : Nat, dos[i].who.tmod (bk.length : Int) = (t : Int) := ⟨(dos[i].who.tmod (bk.length : Int)).toNat, by
         have := Int.tmod_nonneg (bk.length : Int) hcd.2;omega⟩
        have ht2 : t < bk.length := by
         have := Int.tmod_lt_of_pos dos[i].who hb1;omega
        rw [show decide (0 < bk.length /\ 0 <= dos[i].who) = true by simpa using hcd];have hlt2 : t < l.length := by rw [HW.out.llen]; exact ht2
        have DR := fun wx (hb : Below wc.heap.size wc wx) => (HW.out.law.below hb).rel (i := t) hlt2 (by omega) (by omega) A1 c1 dos[i].steps (Kd.C_below HC.out hb)
        obtain ⟨an, hAN, c3⟩ := name_at8 HW.out.names ht2;subst hAN;have t0 : (0 : Int) <= (t : Int) := Int.natCast_nonneg t;have t1 : (t : Int) < (bk.length : Int) := by omega
        have hbn : ((bk.length : Int) == 0) = false := by rw [beq_eq_false_iff_ne]; omega
        have hbne : ¬ bk = [] := fun e => by rw [e] at ht2; simp at ht2
        have HW6 := HW;clear HW hcd ht2 hb1 HD c1';go_wp2;refine start_ (n := 18) (S := fun w' => Hid (Below wc.heap.size wc w')) (ds := [17]) #[false, false, false, false, false, false, false, false, false, false, false, false, false, false, false, false, false, false] (by kernel_rfl) rfl rfl ((hZ (below_drew (Below.refl _ _)))) (fun hHeld => ?_);refine with_tabW sems.tab14 sems.bits14 (fun HT_ HW_ => ?_);have hbd : Hid (Below wc.heap.size wc wc.drew) := hZ ⟨rfl, rfl, rfl, Nat.le_refl _, fun _ _ => rfl⟩;have hsd : wc.heap.size = wc.drew.heap.size := rfl;generalize hwd : wc.drew = wd at *;clear hwd;refine pst 0 (some 60) HT_ ?_;refine pst 1 (some 61) HT_ ?_;refine pst 2 (some 62) HT_ ?_;refine pst 3 (some 63) HT_ ?_;refine pst 4 (some 64) HT_ ?_;refine pst 5 (some 65) HT_ ?_;refine pst 7 (some 67) HT_ ?_;refine pst 8 (some 68) HT_ ?_;refine pst 12 (some 72) HT_ ?_;refine pst 13 (some 73) HT_ ?_;refine pst 14 (some 74) HT_ ?_;refine pst 15 (some 75) HT_ ?_;refine tst 6 (some 66) HT_ HW_ hHeld ?_ (hy := by (intro w' s0; have e0 := (s0.out.cell (World.block_lt_of_cell? _ _ c0)).trans c0; have e2 := (s0.out.cell (World.block_lt_of_cell? _ _ c2)).trans c2; have e3 := (s0.out.cell (World.block_lt_of_cell? _ _ c3)).trans c3); go_simp; with_reducible rfl);refine pst 9 (some 69) HT_ ?_;refine pst 10 (some 70) HT_ ?_;refine tst 11 (some 71) HT_ HW_ hHeld ?_ (hy := by (intro w' s0; have e0 := (s0.out.cell (World.block_lt_of_cell? _ _ c0)).trans c0; have e2 := (s0.out.cell (World.block_lt_of_cell? _ _ c2)).trans c2; have e3 := (s0.out.cell (World.block_lt_of_cell? _ _ c3)).trans c3); go_simp; with_reducible rfl);refine tst 16 (some 76) HT_ HW_ hHeld ?_ (hy := by (intro w' s0; have e0 := (s0.out.cell (World.block_lt_of_cell? _ _ c0)).trans c0; have e2 := (s0.out.cell (World.block_lt_of_cell? _ _ c2)).trans c2; have e3 := (s0.out.cell (World.block_lt_of_cell? _ _ c3)).trans c3); go_simp; with_reducible rfl);refine last_ (i := 17) (N := some 77) #[true, true, true, true, true, true, true, true, true, true, true, true, true, true, true, true, true, true] rfl rfl (one_of HT_.out (by kernel_rfl)) (by decide) (fun K hK => ?_);refine goes_ Tryz.func11 (by kernel_rfl) rfl #[.pointer (some ⟨N, 0, none⟩), .int .u32 (t : Int), .slice A1 dos[i].steps.length c1] (by rfl) rfl rfl (by simp only [List.map_toArray, List.map_cons, List.map_nil]; rfl) ?_;with_reducible refine (DR _ hHeld.out).mono ?_;rintro e w6 ⟨⟨xa, xb, rfl⟩, ⟨lab2, l2, E2, hL2, hl2, hg2, hl23⟩, hT2⟩;refine ⟨_, rfl, ?_⟩;have HB6 := hHeld;refine hK.out _ _ ?_;clear hK K;refine norm_ (a' := ?_) ?_ ?_;rotate_left
        ·show Act.put _ (some 77) _ = _;simp only [Act.put, List.setIfInBounds_toArray, List.set_cons_zero, List.set_cons_succ, i64_w, i32_w];rfl
        refine done_ (done_of HT_.out (by kernel_rfl)) ?_;obtain ⟨EV2, hWn⟩ := (HW6.out.below HB6.out).rel' hlt2 hL2 hl2 hg2 hT2 hl23
        have HWn : Hid (QSt w w6 lab2 N m now ((i + 1 : Nat) : Int) l2 q R bk EV2 (200002 * i + 2) Nq ms.length (.slice (some an) bk.length cN) b0 vq) := hZ (by
         rw [show ((i + 1 : Nat) : Int) = (i : Int) + 1 by omega];exact hWn)
        clear hWn;go_wp2;go_meet;exact ⟨rfl, lab2, l2, EV2, HWn⟩
       ·rw [show decide (0 < bk.length /\ 0 <= dos[i].who) = false by simpa using hcd];go_wp2;go_meet;exact ⟨rfl, lab, l, EV, hZ (HW.out.more (by omega) (by omega))⟩
      case rest =>
       obtain ⟨rfl, lab1, l1, EV1, HW1⟩ := hcut;clear HW HD c0 c1' c2 HC;have hN200 := (HEA.out i hlt).2;go_wp2
       go_loopw [14] (fun v14 wr => ∃ (n : Nat) (now' : Int) (lab : Nat -> Nat) (l : List S57) (q : List S63) (R : Nat -> List Nat) (EV : List Ev) (vq : Nat -> Value), v14 = .int .i64 n /\ n <= dos[i].n.toNat /\ now' <= 200 * (i : Int) + n /\ Hid (QSt w wr lab N m now' ((i + 1 : Nat) : Int) l q R bk EV (200002 * i + 2 + 1000 * n) Nq ms.length (.slice AN bk.length cN) b0 vq)) (fun v14 _ => dos[i].n.toNat - (intOf v14).toNat)
       case atStart => exact ⟨0, now, _, _, _, _, _, _, rfl, Nat.zero_le _, by omega, HW1⟩
       case round =>
        clear HW1;obtain ⟨n, now', lab, l, q, R, EV, vq, rfl, hnn, hnow', HW⟩ := hrel;obtain ⟨wb, rfl⟩ : ∃ x : World, x = wr := ⟨_, rfl⟩;have hwn : IntKind.i64.wrap ((n : Int) + 1) = (n : Int) + 1 := by rw [i64_w]; unfold Go.RowKit.wrap64; omega
        obtain ⟨ad', A1', c1', hA', e0, e1, e2, hC'⟩ := (hd.below HW.out.bel) i hlt
        cases hA'
        clear e0 e2 hC';by_cases hnl : (n : Int) < dos[i].n
        ·have gnl : decide ((n : Int) < dos[i].n) = true := by simpa using hnl
         have hn200 : n <= 200 := by omega
         have DG := HW.out.law.go (by omega) (fun k hk h3 => Int.le_refl 0) (by omega)
         go_upto_region 20 with (go_at_call 14; (with_reducible refine DG.mono ?_); rintro e w7 ⟨rfl, ⟨lab7, R7, hL7, hst7, hl7, hq7, hm7, hg7⟩, hT7⟩; have HL7 := hZ hL7; have HST7 := hZ hst7; have HG7 := hZ hg7; have HT7 := hZ hT7; have HLN7 := hZ hl7; have HQN7 := hZ hq7; clear hL7 hst7 hl7 hq7 hm7 hg7 hT7)
         clear DG e1;have hs7 := HT7.out.size;have HPR : Hid (Paired (EV ++ (goL 1 m now' (now' + 1) l q).2.2)) := hZ (HW.out.pair.app (goL_paired l q));generalize goL 1 m now' (now' + 1) l q = gr at *;obtain ⟨l7, q7, ev7⟩ := gr;dsimp only at HL7 HLN7 HQN7 HPR;rw [<- List.map_append] at HL7;generalize EV ++ ev7 = EV7 at *;have DS := HL7.out.state;unfold stV at DS
         go_upto_region 21 with (go_at_call 13; (with_reducible refine DS.mono ?_); rintro e w8 ⟨B8, o8, A48, c48, rfl, hO8, hG8, hown8, hB8⟩; have HO8 := hZ hO8; have HGB8 := hZ hG8; have HOW8 := hZ hown8; have HB8 := hZ hB8; clear hO8 hG8 hown8 hB8)
         have HX9 := hZ (blk_new w8 (.cells #[.int .i64 m, .int .i64 (now' + 1), .slice o8.A l7.length o8.c, .slice o8.A2 q7.length o8.c2, .slice A48 0 c48] 47));have HB89 := hZ (below_alloc (Below.refl w8.heap.size w8) (.cells #[.int .i64 m, .int .i64 (now' + 1), .slice o8.A l7.length o8.c, .slice o8.A2 q7.length o8.c2, .slice A48 0 c48] 47));clear DS;generalize hw9 : World.alloc _ _ = w9 at *;clear hw9;have hs8 := HB8.out.size;have hs89 : w8.heap.size < w9.heap.size := blk_lt HX9.out;have hNr : Nq < wb.heap.size := HW.out.row.lt;have HM9 : Hid (RdF w9 (fun b => ∃ cc, o8.own cc = some b) B8 o8.A l7 o8.A2 q7) := hZ (HO8.out.rdf.below HB89.out)
         have HS9 : Hid (∀ b, b = Nq -> ¬ (∃ cc, o8.own cc = some b) /\ ¬ B8.G b) := hZ (fun b e => by
          subst e;refine ⟨fun ⟨cc, hc⟩ => by have := HOW8.out cc b hc; omega, fun hg => ?_⟩;exact HGB8.out b hg (grew_zero HG7.out HW.out.rlab hNr))
         have HLK0 := hZ (HW.out.look (q' := q7) HG7.out HT7.out (HB8.out.trans (HB89.out.mono HB8.out.size)));have HLZ : Hid (∀ b, w9.heap.size <= b -> lab7 b = 0) := hZ (fun b hb => Classical.byContradiction (fun e => by have := HL7.out.lt b e; omega));have hqm : q7.length = ms.length := HQN7.out.trans HW.out.qlen;have HQM := hZ hqm;clear HO8 HGB8 HOW8 hqm;go_wp2
         go_loopw [16] (fun v16 wy => ∃ (k : Nat) (vq' : Nat -> Value), v16 = .int .i64 k /\ k <= ms.length /\ Hid (Looked w9 wy lab7 q q7 Nq ms.length b0 vq vq' k)) (fun v16 _ => ms.length - (intOf v16).toNat)
         case atStart => exact ⟨0, _, rfl, Nat.zero_le _, HLK0⟩
         case round =>
          clear HLK0;obtain ⟨k, vq', rfl, hk, HLK⟩ := hrel;have hsk := HLK.out.turn.size;have HXK := hZ ((HLK.out.turn.block w8.heap.size hs89 (fun e => by omega)).trans HX9.out);have x3 : wr.cell? ⟨w8.heap.size, 3, none⟩ = some (.slice o8.A2 q7.length o8.c2) := (blk_cell HXK.out 3).trans rfl;have hwk : IntKind.i64.wrap ((k : Int) + 1) = (k : Int) + 1 := by rw [i64_w]; unfold Go.RowKit.wrap64; omega
          go_upto_region 22 with fail
          go_cut [102] from 92 to 158 (fun v102 wx => v102 = .bool (decide (k < ms.length)) /\ wx = wr)
          case first =>
           by_cases h1 : k < ms.length
           ·have h7 : k < q7.length := by rw [HQM.out]; exact h1
            go_wp2;go_meet;exact ⟨by simp [h1], rfl⟩
           ·have h7 : ¬ k < q7.length := by rw [HQM.out]; exact h1
            go_wp2;go_meet;exact ⟨by simp [h1], rfl⟩
          case rest =>
           obtain ⟨rfl, rfl⟩ := hcut;obtain ⟨wk, rfl⟩ : ∃ x : World, x = wc := ⟨_, rfl⟩;by_cases hkl : k < ms.length
           ·rw [show decide (k < ms.length) = true by simpa using hkl];have hk7 : k < q7.length := by have := HQM.out; omega
            have hkq : k < q.length := by have := HW.out.qlen; omega
            have hm7 := (HM9.out.keep HLK.out.turn HS9.out).now.lock;have k0' : (0 : Int) <= (k : Int) := Int.natCast_nonneg k;have k1' : (k : Int) < (q7.length : Int) := by omega
            have k2' : (k : Int) < (ms.length : Int) := by omega
            obtain ⟨la, A2z, c2z, hA2, l0, l1, l2, l3, lc, lC⟩ := at_T63 hm7 (k : Int) k0' k1';rw [show rd_T63 q7 (k : Int) = q7[k] by simp [rd_T63, hk7]] at l0 l1 l2 l3 lc lC;rw [Int.toNat_natCast] at l0 l1 l2 l3;rw [hA2] at x3;have HLC := hZ lC;clear l0 l3 lc lC hm7 hA2;have hnw := HL7.out.inv.rowIds HL7.out.ids hk7;have hod := HW.out.law.inv.rowIds HW.out.law.ids hkq;have hsr := step_row HST7.out k;rw [<- hnw, <- hod] at hsr;have hnm : ((rowIds q7[k]).length : Int) <= m := by rw [hnw, List.length_map]; exact HL7.out.inv.row_M k
            have hom : ((rowIds q[k]).length : Int) <= m := by rw [hod, List.length_map]; exact HW.out.law.inv.row_M k
            have HSR := hZ hsr;have HNM := hZ hnm;have HOM := hZ hom;clear hsr hnm hom hnw hod;have hvq := (HLK.out.old k hkq (Nat.le_refl _)).1
            have cq : wk.cell? ⟨Nq, k, none⟩ = some (vq' k) := by
             have := HLK.out.row.cell (i := k) (by rw [valRows_len]; exact hkl) (j := 0) (by decide) (v := vq' k) (by rw [valRows_get hkl]; rfl);rw [show 0 + k * 1 + 0 = k by omega] at this;exact this
            obtain ⟨Ao, co, hvo, hco, hCo⟩ := Kd.R_reads hvq;rw [hvo] at cq;have HCO := hZ hCo;have HCC := hZ hco;have HCQ := hZ cq;obtain ⟨od, hode⟩ : ∃ od, od = rowIds q[k] := ⟨_, rfl⟩;rw [<- hode] at HSR HOM HCO HCC HCQ;obtain ⟨nw, hnwe⟩ : ∃ nw, nw = rowIds q7[k] := ⟨_, rfl⟩;rw [<- hnwe] at HSR HNM;have HNW := hZ hnwe;have HFQ := hZ (HLK.out.row.free k);have hf8 : q7[k].f2.length <= 1000 := by have := HNM.out; rw [hnwe] at this; unfold rowIds at this; rw [List.length_append] at this; omega
            have HF8 := hZ hf8;clear hode hnwe hvq hvo hco hCo cq hf8
            go_upto_region 25 with (first
             | ((with_reducible refine gate_dst (N := 105) rfl ?_); (try (refine gate_guard (by rfl) ?_; dsimp only)); refine Kd.R_lit (Kd.int .i64) (w0 := wk) wk.heap.size 3 ?hg (N := 105) ?hd (xs := ([] : List Int)) (inner := []) (ok := fun b => wk.heap.size <= b) (okp := fun _ => False) ?hr ?hp (fun _ hk => hk.elim) (Nat.le_refl _) (Below.refl _ _) (Nat.le_refl _) (by simp) ?_; (case hd => rfl); (case hg => rfl); (case hr => first | (go_simp; done) | (go_simp; rfl)); (case hp => exact Reps.none _ _); intro v105 wl hR5 hB5 hg5 _; have HR5 := hZ hR5; have HB5 := hZ hB5; have y3 := (hB5.cell (World.block_lt_of_cell? _ _ x3)).trans x3; have y1 := (hB5.cell (World.block_lt_of_cell? _ _ l1)).trans l1; have y2 := (hB5.cell (World.block_lt_of_cell? _ _ l2)).trans l2; clear hR5 hB5 hg5)
             | ((with_reducible refine gate_builtin (b := .append) (xs := #[.tmp 105, .tmp 111]) rfl ?_); at_builtin; refine Kd.R_append_rows (Kd.int .i64) (Rr := (Kd.int .i64).K wl) (okp := fun _ => False) (w0 := wk) wk.heap.size rfl (.tmp 105) (.tmp 111) 61 3 (.int .i64 0) 8 rfl Tryz.underlying61 info3 rfl (by decide) (by omega) v105 [] q7[k].f2 A2z q7[k].f2.length c2z (fun b => wk.heap.size <= b) rfl rfl HR5.out (Kd.C_below HLC.out HB5.out) (fun _ _ h => h) (fun _ h => h.elim) (fun b hb => Nat.le_trans HB5.out.size hb) HB5.out HB5.out.size (by have := HF8.out; simp; omega) ?_; intro v17 wm hR6 hB6 _ _; have HR6 := hZ hR6; have HB6 := hZ hB6; clear hR6 hB6 y3 y1 y2))
            have z3 := (HB6.out.cell (World.block_lt_of_cell? _ _ x3)).trans x3;have z1 := (HB6.out.cell (World.block_lt_of_cell? _ _ l1)).trans l1;rw [List.nil_append] at HR6;clear x3 l1 l2 HR5 HB5
            go_upto_if 119 with fail
            go_cut [17] from 92 to 158 (fun v17 wx => (Kd.int .i64).R 3 wx wk.heap.size (fun b => wk.heap.size <= b) v17 nw /\ Hid (Below wk.heap.size wk wx))
            case first =>
             by_cases hf : q7[k].f1 = 0
             ·have gf : (q7[k].f1 != 0) = false := by simp [hf]
              have HRN : Hid ((Kd.int .i64).R 3 wm wk.heap.size (fun b => wk.heap.size <= b) v17 nw) := hZ (by rw [HNW.out]; unfold rowIds; rw [if_pos hf, List.nil_append]; exact HR6.out);clear hf;go_wp2;go_meet;exact ⟨HRN.out, HB6⟩
             ·have gf : (q7[k].f1 != 0) = true := by simpa using hf
              obtain ⟨A7, c7, e7, hc7, hC7⟩ := Kd.R_reads HR6.out;subst e7;have HC7 := hZ hC7;have HRN : Hid ([q7[k].f1] ++ q7[k].f2 = nw) := hZ (by rw [HNW.out]; unfold rowIds; rw [if_neg hf]);clear hf hc7 hC7
              go_wp2_with (first
               | ((with_reducible refine gate_dst (N := 126) rfl ?_); (try (refine gate_guard (by rfl) ?_; dsimp only)); refine Kd.R_lit (Kd.int .i64) (w0 := wk) wk.heap.size 3 ?hg (N := 126) ?hd (xs := [q7[k].f1]) (inner := [.int .i64 q7[k].f1]) (ok := fun b => wk.heap.size <= b) (okp := fun _ => False) ?hr ?hp (fun _ hk => hk.elim) HB6.out.size HB6.out HB6.out.size (by simp) ?_; (case hd => rfl); (case hg => rfl); (case hr => first | (go_simp; done) | (go_simp; rfl)); (case hp => exact reps_int1); intro v126 wn hR8 hB8 hg8 _; have HR8 := hZ hR8; have HB8' := hZ hB8; have HG8 := hZ (grown_none hg8); clear hR8 hB8 hg8)
               | ((with_reducible refine gate_builtin (b := .append) (xs := #[.tmp 126, .tmp 127]) rfl ?_); at_builtin; refine Kd.R_append_rows (Kd.int .i64) (Rr := (Kd.int .i64).K wn) (okp := fun _ => False) (w0 := wk) wk.heap.size rfl (.tmp 126) (.tmp 127) 61 3 (.int .i64 0) 8 rfl Tryz.underlying61 info3 rfl (by decide) (by omega) v126 [q7[k].f1] q7[k].f2 A7 q7[k].f2.length c7 (fun b => wk.heap.size <= b) rfl rfl HR8.out (Kd.C_below HC7.out HG8.out) (fun _ _ h => h) (fun _ h => h.elim) (fun b hb => Nat.le_trans HB8'.out.size hb) HB8'.out HB8'.out.size (by have := HF8.out; simp; omega) ?_; intro v17' wo hR9 hB9 _ _; have HR9 := hZ hR9; have HB9 := hZ hB9; clear hR9 hB9))
              go_meet;exact ⟨by rw [<- HRN.out]; exact HR9.out, HB9⟩
            case rest =>
             obtain ⟨hRv, HBv⟩ := hcut;obtain ⟨wl2, rfl⟩ : ∃ x : World, x = wc := ⟨_, rfl⟩;have HRV := hZ hRv;obtain ⟨Av, cv, hv, hcv, hCv⟩ := Kd.R_reads hRv;subst hv;have HCV := hZ hCv;have cq : wl2.cell? ⟨Nq, k, none⟩ = some (.slice Ao od.length co) := (HBv.out.cell (World.block_lt_of_cell? _ _ HCQ.out)).trans HCQ.out;clear hRv hCv hcv HR6 HB6 z3 z1;go_wp2
             go_loopw [19] (fun v19 wx => ∃ j : Nat, v19 = .int .i64 j /\ j <= 1 /\ j <= od.length /\ Hid (j = 1 -> od.isPrefixOf nw = false) /\ Hid (Below wl2.heap.size wl2 wx)) (fun v19 _ => od.length - (intOf v19).toNat)
             case atStart => exact ⟨0, rfl, Nat.zero_le _, Nat.zero_le _, hZ (fun h => by omega), hZ (Below.refl _ _)⟩
             case round =>
              clear cq;obtain ⟨j, rfl, hj1, hjo, HJ, HBJ⟩ := hrel;obtain ⟨wj, rfl⟩ : ∃ x : World, x = wr := ⟨_, rfl⟩
              go_upto_region 29 with fail
              go_cut [144] from 133 to 146 (fun v144 wx => v144 = .bool (decide (j < od.length /\ (od.drop j).isPrefixOf nw = false)) /\ Hid (Below wl2.heap.size wl2 wx))
              case first =>
               by_cases hjl : j < od.length
               ·have gj : decide ((j : Int) < (od.length : Int)) = true := by simpa using hjl
                obtain ⟨ao, rfl⟩ : ∃ ao, Ao = some ao := by
                 obtain ⟨ao, h, _⟩ := HCO.out.2.2 (by omega);exact ⟨ao, h⟩
                have hdl : (od.drop j).length = od.length - j := List.length_drop;have hcj : ¬ co = j := by have := HCC.out; omega
                have HCD : Hid ((Kd.int .i64).C wl2 (some (ao.add j)) (od.drop j).length (od.drop j)) := hZ (by
                 have h1 := Kd.C_drop (m := j) (c := co) (Kd.C_below HCO.out HBv.out) (by omega) HCC.out;rw [if_neg hcj] at h1
                 have e : (some ao : Option Addr).map (·.add (j * (Kd.int .i64).sz)) = some (ao.add j) := by
                  show some (ao.add (j * 1)) = _;rw [Nat.mul_one]
                 rw [e] at h1;exact h1)
                have DB2 := begins_calls Av cv nw (some (ao.add j)) (co - j) (od.drop j) wj (Kd.C_below HCV.out HBJ.out) (Kd.C_below HCD.out HBJ.out) (by have := HNM.out; omega) (by have := HOM.out; omega);rw [hdl] at DB2
                go_wp2_with (go_at_call 16; (with_reducible refine DB2.mono ?_); rintro e w16 ⟨rfl, hB16⟩; have HB16 := hZ hB16; clear hB16)
                go_meet;exact ⟨by simp [hjl], hZ (HBJ.out.trans (HB16.out.mono HBJ.out.size))⟩
               ·have gj : decide ((j : Int) < (od.length : Int)) = false := by simpa using hjl
                go_wp2;go_meet;exact ⟨by simp [hjl], HBJ⟩
              case rest =>
               obtain ⟨rfl, HBC⟩ := hcut;obtain ⟨wq, rfl⟩ : ∃ x : World, x = wc := ⟨_, rfl⟩;by_cases hcd2 : j < od.length /\ (od.drop j).isPrefixOf nw = false
               ·rw [show decide (j < od.length /\ (od.drop j).isPrefixOf nw = false) = true by simpa using hcd2];obtain ⟨rfl, hpf⟩ := begins_one HSR.out hj1 HJ.out hcd2.2;have HPF := hZ hpf;have hol : 1 <= od.length := by omega
                clear hpf hcd2;go_wp2;go_roundw
                case rel => exact ⟨1, by go_num, Nat.le_refl _, hol, hZ (fun _ => HPF.out), HBC⟩
                case measure => simp [intOf]; omega
               ·rw [show decide (j < od.length /\ (od.drop j).isPrefixOf nw = false) = false by simpa using hcd2];have gj1 : decide ((j : Int) > 1) = false := by simp; omega
                have gnm : decide ((nw.length : Int) > m) = false := by have := HNM.out; simp; omega
                have cqw : wq.cell? ⟨Nq, k, none⟩ = some (.slice Ao od.length co) := by
                 have h1 := HBv.out.trans (HBC.out.mono HBv.out.size);exact (h1.cell (World.block_lt_of_cell? _ _ HCQ.out)).trans HCQ.out
                have fq : wq.frozen? ⟨Nq, k, none⟩ = false := by
                 have := (HLK.out.below (HBv.out.trans ((HBC.out).mono HBv.out.size))).row.free k;exact this
                have HLN : Hid (Looked w9 (wq.setCell ⟨Nq, k, none⟩ (.slice Av nw.length cv)) lab7 q q7 Nq ms.length b0 vq (fun n => if n = k then .slice Av nw.length cv else vq' n) (k + 1)) := hZ ((HLK.out.below (HBv.out.trans (HBC.out.mono HBv.out.size))).step hkl HW.out.qlen HQM.out (B0 := wk.heap.size) (by have := HBQ0.out; omega) hk7 (by rw [<- HNW.out]; exact Kd.R_below HRV.out HBC.out) (fun b hb => HLZ.out b (by omega)) (by omega));clear hcd2
                go_upto_region 33 with fail
                go_wp2;go_roundw
                case rel => exact ⟨k + 1, (fun n => if n = k then .slice Av nw.length cv else vq' n), by go_num, by omega, HLN⟩
                case measure => simp [intOf]; omega
           ·rw [show decide (k < ms.length) = false by simpa using hkl];obtain rfl : k = ms.length := by omega
            have HWn : Hid (QSt w wk lab7 N m (now' + 1) ((i + 1 : Nat) : Int) l7 q7 R7 bk EV7 (200002 * i + 2 + 1000 * (n + 1)) Nq ms.length (.slice AN bk.length cN) b0 vq') := hZ (by
             have := HW.out.go HL7.out HPR.out HLN7.out HQN7.out HG7.out HT7.out (HB8.out.trans (HB89.out.mono HB8.out.size)) HLK.out;rw [show 200002 * i + 2 + 1000 * (n + 1) = 200002 * i + 2 + 1000 * n + 1000 by omega];exact this)
            go_wp2;go_roundw
            case rel => exact ⟨n + 1, now' + 1, lab7, l7, q7, R7, EV7, vq', by go_num, by omega, by omega, HWn⟩
            case measure => simp [intOf]; omega
        ·have HWn : Hid (QSt w wb lab N m now' ((i + 1 : Nat) : Int) l q R bk EV (200002 * (i + 1)) Nq ms.length (.slice AN bk.length cN) b0 vq) := hZ (HW.out.more (Int.le_refl _) (by omega));have gnl : decide ((n : Int) < dos[i].n) = false := by simpa using hnl
         go_wp2;go_roundw
         case rel => exact ⟨i + 1, now', lab, l, q, R, EV, vq, by go_num, by omega, by omega, HWn⟩
         case measure => simp [intOf]; omega
    ·obtain rfl : i = dos.length := by omega
     have DE := eventssw_calls N lab m now l q l.length bk (EV.map Ev.cells) wr HW.out.law.sys (by have := HW.out.law.ev; omega);have HBW := hZ HW.out.bel
     go_upto_region 35 with (go_at_call 17; (with_reducible refine DE.mono ?_); rintro e w17 ⟨v20, rfl, hR17, hS17, hT17⟩; have HR17 := hZ hR17; have HT17 := hZ hT17; clear hR17 hS17 hT17)
     clear DE;have HB17 : Hid (Below w.heap.size w w17) := hZ (Turn.below HBW.out HT17.out (fun b e => HW.out.labW b e) HBW.out.size);obtain ⟨AE, cE, eE, hcE, hCE⟩ := Kd.R_reads HR17.out;rw [List.length_map] at eE hCE;subst eE;have HCE := hZ hCE;have HPA := hZ HW.out.pair;have hEV : EV.length <= 10000000 := by have := HW.out.law.ev; rw [List.length_map] at this; omega
     clear hcE hCE HR17 HT17 HW;go_wp2
     go_loopw [21] (fun v21 wx => ∃ z : Nat, v21 = .int .i64 z /\ z <= EV.length /\ Hid (Below w17.heap.size w17 wx)) (fun v21 _ => EV.length - (intOf v21).toNat)
     case atStart => exact ⟨0, rfl, Nat.zero_le _, hZ (Below.refl _ _)⟩
     case round =>
      obtain ⟨z, rfl, hz, HBZ⟩ := hrel;obtain ⟨wz, rfl⟩ : ∃ x : World, x = wr := ⟨_, rfl⟩;have hwz : IntKind.i64.wrap ((z : Int) + 1) = (z : Int) + 1 := by rw [i64_w]; unfold Go.RowKit.wrap64; omega
      by_cases hzl : z < EV.length
      ·have gz : decide ((z : Int) < (EV.length : Int)) = true := by simpa using hzl
       obtain ⟨aE, rfl, m1', m2'⟩ := evk_at (Kd.C_below HCE.out HBZ.out) hzl;have z0 : (0 : Int) <= (z : Int) := Int.natCast_nonneg z;have z1 : (z : Int) < (EV.length : Int) := by omega
       go_upto_region 38 with fail
       go_cut [202] from 161 to 202 (fun v202 wx => v202 = .bool false /\ Hid (Below w17.heap.size w17 wx))
       case first =>
        by_cases h7 : EV[z].kind = 7
        ·have g7 : (EV[z].kind == 7) = true := by simpa using h7
         obtain ⟨h2, h6, hwho⟩ := pair_at HPA.out hzl h7;obtain ⟨aE2, hae, n1', n2'⟩ := evk_at (Kd.C_below HCE.out HBZ.out) h2
         cases hae
         rw [h6] at n1';rw [hwho] at n2';have hz2 : ((z : Int) + 1).toNat = z + 1 := by omega
         have z2 : (0 : Int) <= (z : Int) + 1 := by omega
         have z3 : (z : Int) + 1 < (EV.length : Int) := by omega
         have gz2 : decide ((z : Int) + 1 >= (EV.length : Int)) = false := by simp; omega
         have gw : (EV[z].who != EV[z].who) = false := by simp
         rw [h7] at m1';clear h7 g7;go_wp2;refine start_ (n := 36) (S := fun w' => Hid (Below wz.heap.size wz w')) (ds := []) #[false, false, false, false, false, false, false, false, false, false, false, false, false, false, false, false, false, false, false, false, false, false, false, false, false, false, false, false, false, false, false, false, false, false, false, false] (by kernel_rfl) rfl rfl ((hZ (below_drew (Below.refl _ _)))) (fun hHeld => ?_);refine with_tabW sems.tab38 sems.bits38 (fun HT_ HW_ => ?_);have hbd : Hid (Below wz.heap.size wz wz.drew) := hZ ⟨rfl, rfl, rfl, Nat.le_refl _, fun _ _ => rfl⟩;have hsd : wz.heap.size = wz.drew.heap.size := rfl;generalize hwd : wz.drew = wd at *;clear hwd;refine pst 0 (some 167) HT_ ?_;refine pst 1 (some 168) HT_ ?_;refine pst 2 (some 169) HT_ ?_;refine pst 3 (some 170) HT_ ?_;refine tst 4 (some 171) HT_ HW_ hHeld ?_ (hy := by (intro w' s0; have f1 := (s0.out.cell (World.block_lt_of_cell? _ _ m1')).trans m1'; have f2 := (s0.out.cell (World.block_lt_of_cell? _ _ m2')).trans m2'; have f3 := (s0.out.cell (World.block_lt_of_cell? _ _ n1')).trans n1'; have f4 := (s0.out.cell (World.block_lt_of_cell? _ _ n2')).trans n2'); go_simp; with_reducible rfl);refine pst 5 (some 172) HT_ ?_;refine pst 6 (some 173) HT_ ?_;refine pst 7 (some 174) HT_ ?_;refine pst 8 (some 175) HT_ ?_;refine pst 9 (some 176) HT_ ?_;refine pst 10 (some 177) HT_ ?_;refine pst 11 (some 178) HT_ ?_;refine pst 12 (some 179) HT_ ?_;refine pst 13 (some 180) HT_ ?_;refine pst 14 (some 181) HT_ ?_;refine pst 15 (some 182) HT_ ?_;refine pst 16 (some 183) HT_ ?_;refine pst 17 (some 184) HT_ ?_;refine tst 18 (some 185) HT_ HW_ hHeld ?_ (hy := by (intro w' s0; have f1 := (s0.out.cell (World.block_lt_of_cell? _ _ m1')).trans m1'; have f2 := (s0.out.cell (World.block_lt_of_cell? _ _ m2')).trans m2'; have f3 := (s0.out.cell (World.block_lt_of_cell? _ _ n1')).trans n1'; have f4 := (s0.out.cell (World.block_lt_of_cell? _ _ n2')).trans n2'); go_simp; with_reducible rfl);refine pst 19 (some 186) HT_ ?_;refine pst 20 (some 187) HT_ ?_;refine pst 21 (some 188) HT_ ?_;refine pst 22 (some 189) HT_ ?_;refine pst 23 (some 190) HT_ ?_;refine pst 24 (some 191) HT_ ?_;refine pst 25 (some 192) HT_ ?_;refine pst 26 (some 193) HT_ ?_;refine pst 28 (some 195) HT_ ?_;refine pst 29 (some 196) HT_ ?_;refine pst 30 (some 197) HT_ ?_;refine pst 31 (some 198) HT_ ?_;refine tst 27 (some 194) HT_ HW_ hHeld ?_ (hy := by (intro w' s0; have f1 := (s0.out.cell (World.block_lt_of_cell? _ _ m1')).trans m1'; have f2 := (s0.out.cell (World.block_lt_of_cell? _ _ m2')).trans m2'; have f3 := (s0.out.cell (World.block_lt_of_cell? _ _ n1')).trans n1'; have f4 := (s0.out.cell (World.block_lt_of_cell? _ _ n2')).trans n2'); go_simp; with_reducible rfl);refine tst 32 (some 199) HT_ HW_ hHeld ?_ (hy := by (intro w' s0; have f1 := (s0.out.cell (World.block_lt_of_cell? _ _ m1')).trans m1'; have f2 := (s0.out.cell (World.block_lt_of_cell? _ _ m2')).trans m2'; have f3 := (s0.out.cell (World.block_lt_of_cell? _ _ n1')).trans n1'; have f4 := (s0.out.cell (World.block_lt_of_cell? _ _ n2')).trans n2'); go_simp; with_reducible rfl);refine pst 33 (some 200) HT_ ?_;refine pst 34 (some 201) HT_ ?_;refine pst 35 (some 202) HT_ ?_;refine done_ (done_of HT_.out (by kernel_rfl)) ?_;clear HT_ HW_ hHeld;go_wp2;go_meet;exact ⟨rfl, hZ (HBZ.out.trans (hbd.out.mono HBZ.out.size))⟩
        ·have g7 : (EV[z].kind == 7) = false := by simpa using h7
         go_wp2;refine start_ (n := 36) (S := fun w' => Hid (Below wz.heap.size wz w')) (ds := []) #[false, false, false, false, false, false, false, false, false, false, false, false, false, false, false, false, false, false, false, false, false, false, false, false, false, false, false, false, false, false, false, false, false, false, false, false] (by kernel_rfl) rfl rfl ((hZ (below_drew (Below.refl _ _)))) (fun hHeld => ?_);refine with_tabW sems.tab38 sems.bits38 (fun HT_ HW_ => ?_);have hbd : Hid (Below wz.heap.size wz wz.drew) := hZ ⟨rfl, rfl, rfl, Nat.le_refl _, fun _ _ => rfl⟩;have hsd : wz.heap.size = wz.drew.heap.size := rfl;generalize hwd : wz.drew = wd at *;clear hwd;refine pst 0 (some 167) HT_ ?_;refine pst 1 (some 168) HT_ ?_;refine pst 2 (some 169) HT_ ?_;refine pst 3 (some 170) HT_ ?_;refine tst 4 (some 171) HT_ HW_ hHeld ?_ (hy := by (intro w' s0; have f1 := (s0.out.cell (World.block_lt_of_cell? _ _ m1')).trans m1'; have f2 := (s0.out.cell (World.block_lt_of_cell? _ _ m2')).trans m2'); go_simp; with_reducible rfl);refine pst 5 (some 172) HT_ ?_;refine pst 6 (some 173) HT_ ?_;refine pure_ (i := 7) (N := some 174) (v := undef) (a' := ?_) #[true, true, true, true, true, true, true, true, false, false, false, false, false, false, false, false, false, false, false, false, false, false, false, false, false, false, false, false, false, false, false, false, false, false, false, false] rfl rfl (any_of HT_.out (by kernel_rfl)) (fun _ _ _ h => h) (Or.inr ⟨by rfl, rfl⟩) ?_ ?_;rotate_left
         ·simp only [Act.put, List.setIfInBounds_toArray, List.set_cons_zero, List.set_cons_succ, i64_w, i32_w];rfl
         refine pure_ (i := 8) (N := some 175) (v := undef) (a' := ?_) #[true, true, true, true, true, true, true, true, true, false, false, false, false, false, false, false, false, false, false, false, false, false, false, false, false, false, false, false, false, false, false, false, false, false, false, false] rfl rfl (any_of HT_.out (by kernel_rfl)) (fun _ _ _ h => h) (Or.inr ⟨by rfl, rfl⟩) ?_ ?_;rotate_left
         ·simp only [Act.put, List.setIfInBounds_toArray, List.set_cons_zero, List.set_cons_succ, i64_w, i32_w];rfl
         refine pure_ (i := 9) (N := some 176) (v := undef) (a' := ?_) #[true, true, true, true, true, true, true, true, true, true, false, false, false, false, false, false, false, false, false, false, false, false, false, false, false, false, false, false, false, false, false, false, false, false, false, false] rfl rfl (any_of HT_.out (by kernel_rfl)) (fun _ _ _ h => h) (Or.inr ⟨by rfl, rfl⟩) ?_ ?_;rotate_left
         ·simp only [Act.put, List.setIfInBounds_toArray, List.set_cons_zero, List.set_cons_succ, i64_w, i32_w];rfl
         refine pure_ (i := 10) (N := some 177) (v := undef) (a' := ?_) #[true, true, true, true, true, true, true, true, true, true, true, false, false, false, false, false, false, false, false, false, false, false, false, false, false, false, false, false, false, false, false, false, false, false, false, false] rfl rfl (any_of HT_.out (by kernel_rfl)) (fun _ _ _ h => h) (Or.inr ⟨by rfl, rfl⟩) ?_ ?_;rotate_left
         ·simp only [Act.put, List.setIfInBounds_toArray, List.set_cons_zero, List.set_cons_succ, i64_w, i32_w];rfl
         refine pure_ (i := 11) (N := some 178) (v := undef) (a' := ?_) #[true, true, true, true, true, true, true, true, true, true, true, true, false, false, false, false, false, false, false, false, false, false, false, false, false, false, false, false, false, false, false, false, false, false, false, false] rfl rfl (any_of HT_.out (by kernel_rfl)) (fun _ _ _ h => h) (Or.inr ⟨by rfl, rfl⟩) ?_ ?_;rotate_left
         ·simp only [Act.put, List.setIfInBounds_toArray, List.set_cons_zero, List.set_cons_succ, i64_w, i32_w];rfl
         refine pure_ (i := 12) (N := some 179) (v := undef) (a' := ?_) #[true, true, true, true, true, true, true, true, true, true, true, true, true, false, false, false, false, false, false, false, false, false, false, false, false, false, false, false, false, false, false, false, false, false, false, false] rfl rfl (any_of HT_.out (by kernel_rfl)) (fun _ _ _ h => h) (Or.inr ⟨by rfl, rfl⟩) ?_ ?_;rotate_left
         ·simp only [Act.put, List.setIfInBounds_toArray, List.set_cons_zero, List.set_cons_succ, i64_w, i32_w];rfl
         refine pure_ (i := 13) (N := some 180) (v := undef) (a' := ?_) #[true, true, true, true, true, true, true, true, true, true, true, true, true, true, false, false, false, false, false, false, false, false, false, false, false, false, false, false, false, false, false, false, false, false, false, false] rfl rfl (any_of HT_.out (by kernel_rfl)) (fun _ _ _ h => h) (Or.inr ⟨by rfl, rfl⟩) ?_ ?_;rotate_left
         ·simp only [Act.put, List.setIfInBounds_toArray, List.set_cons_zero, List.set_cons_succ, i64_w, i32_w];rfl
         refine pure_ (i := 14) (N := some 181) (v := undef) (a' := ?_) #[true, true, true, true, true, true, true, true, true, true, true, true, true, true, true, false, false, false, false, false, false, false, false, false, false, false, false, false, false, false, false, false, false, false, false, false] rfl rfl (any_of HT_.out (by kernel_rfl)) (fun _ _ _ h => h) (Or.inr ⟨by rfl, rfl⟩) ?_ ?_;rotate_left
         ·simp only [Act.put, List.setIfInBounds_toArray, List.set_cons_zero, List.set_cons_succ, i64_w, i32_w];rfl
         refine pure_ (i := 15) (N := some 182) (v := undef) (a' := ?_) #[true, true, true, true, true, true, true, true, true, true, true, true, true, true, true, true, false, false, false, false, false, false, false, false, false, false, false, false, false, false, false, false, false, false, false, false] rfl rfl (any_of HT_.out (by kernel_rfl)) (fun _ _ _ h => h) (Or.inr ⟨by rfl, rfl⟩) ?_ ?_;rotate_left
         ·simp only [Act.put, List.setIfInBounds_toArray, List.set_cons_zero, List.set_cons_succ, i64_w, i32_w];rfl
         refine pure_ (i := 16) (N := some 183) (v := undef) (a' := ?_) #[true, true, true, true, true, true, true, true, true, true, true, true, true, true, true, true, true, false, false, false, false, false, false, false, false, false, false, false, false, false, false, false, false, false, false, false] rfl rfl (any_of HT_.out (by kernel_rfl)) (fun _ _ _ h => h) (Or.inr ⟨by rfl, rfl⟩) ?_ ?_;rotate_left
         ·simp only [Act.put, List.setIfInBounds_toArray, List.set_cons_zero, List.set_cons_succ, i64_w, i32_w];rfl
         refine pure_ (i := 17) (N := some 184) (v := undef) (a' := ?_) #[true, true, true, true, true, true, true, true, true, true, true, true, true, true, true, true, true, true, false, false, false, false, false, false, false, false, false, false, false, false, false, false, false, false, false, false] rfl rfl (any_of HT_.out (by kernel_rfl)) (fun _ _ _ h => h) (Or.inr ⟨by rfl, rfl⟩) ?_ ?_;rotate_left
         ·simp only [Act.put, List.setIfInBounds_toArray, List.set_cons_zero, List.set_cons_succ, i64_w, i32_w];rfl
         refine pure_ (i := 18) (N := some 185) (v := undef) (a' := ?_) #[true, true, true, true, true, true, true, true, true, true, true, true, true, true, true, true, true, true, true, false, false, false, false, false, false, false, false, false, false, false, false, false, false, false, false, false] rfl rfl (any_of HT_.out (by kernel_rfl)) (fun _ _ _ h => h) (Or.inr ⟨by rfl, rfl⟩) ?_ ?_;rotate_left
         ·simp only [Act.put, List.setIfInBounds_toArray, List.set_cons_zero, List.set_cons_succ, i64_w, i32_w];rfl
         refine pure_ (i := 19) (N := some 186) (v := undef) (a' := ?_) #[true, true, true, true, true, true, true, true, true, true, true, true, true, true, true, true, true, true, true, true, false, false, false, false, false, false, false, false, false, false, false, false, false, false, false, false] rfl rfl (any_of HT_.out (by kernel_rfl)) (fun _ _ _ h => h) (Or.inr ⟨by rfl, rfl⟩) ?_ ?_;rotate_left
         ·simp only [Act.put, List.setIfInBounds_toArray, List.set_cons_zero, List.set_cons_succ, i64_w, i32_w];rfl
         refine pure_ (i := 20) (N := some 187) (v := undef) (a' := ?_) #[true, true, true, true, true, true, true, true, true, true, true, true, true, true, true, true, true, true, true, true, true, false, false, false, false, false, false, false, false, false, false, false, false, false, false, false] rfl rfl (any_of HT_.out (by kernel_rfl)) (fun _ _ _ h => h) (Or.inr ⟨by rfl, rfl⟩) ?_ ?_;rotate_left
         ·simp only [Act.put, List.setIfInBounds_toArray, List.set_cons_zero, List.set_cons_succ, i64_w, i32_w];rfl
         refine pure_ (i := 21) (N := some 188) (v := undef) (a' := ?_) #[true, true, true, true, true, true, true, true, true, true, true, true, true, true, true, true, true, true, true, true, true, true, false, false, false, false, false, false, false, false, false, false, false, false, false, false] rfl rfl (any_of HT_.out (by kernel_rfl)) (fun _ _ _ h => h) (Or.inr ⟨by rfl, rfl⟩) ?_ ?_;rotate_left
         ·simp only [Act.put, List.setIfInBounds_toArray, List.set_cons_zero, List.set_cons_succ, i64_w, i32_w];rfl
         refine pure_ (i := 22) (N := some 189) (v := undef) (a' := ?_) #[true, true, true, true, true, true, true, true, true, true, true, true, true, true, true, true, true, true, true, true, true, true, true, false, false, false, false, false, false, false, false, false, false, false, false, false] rfl rfl (any_of HT_.out (by kernel_rfl)) (fun _ _ _ h => h) (Or.inr ⟨by rfl, rfl⟩) ?_ ?_;rotate_left
         ·simp only [Act.put, List.setIfInBounds_toArray, List.set_cons_zero, List.set_cons_succ, i64_w, i32_w];rfl
         refine pure_ (i := 23) (N := some 190) (v := undef) (a' := ?_) #[true, true, true, true, true, true, true, true, true, true, true, true, true, true, true, true, true, true, true, true, true, true, true, true, false, false, false, false, false, false, false, false, false, false, false, false] rfl rfl (any_of HT_.out (by kernel_rfl)) (fun _ _ _ h => h) (Or.inr ⟨by rfl, rfl⟩) ?_ ?_;rotate_left
         ·simp only [Act.put, List.setIfInBounds_toArray, List.set_cons_zero, List.set_cons_succ, i64_w, i32_w];rfl
         refine pure_ (i := 24) (N := some 191) (v := undef) (a' := ?_) #[true, true, true, true, true, true, true, true, true, true, true, true, true, true, true, true, true, true, true, true, true, true, true, true, true, false, false, false, false, false, false, false, false, false, false, false] rfl rfl (any_of HT_.out (by kernel_rfl)) (fun _ _ _ h => h) (Or.inr ⟨by rfl, rfl⟩) ?_ ?_;rotate_left
         ·simp only [Act.put, List.setIfInBounds_toArray, List.set_cons_zero, List.set_cons_succ, i64_w, i32_w];rfl
         refine pure_ (i := 25) (N := some 192) (v := undef) (a' := ?_) #[true, true, true, true, true, true, true, true, true, true, true, true, true, true, true, true, true, true, true, true, true, true, true, true, true, true, false, false, false, false, false, false, false, false, false, false] rfl rfl (any_of HT_.out (by kernel_rfl)) (fun _ _ _ h => h) (Or.inr ⟨by rfl, rfl⟩) ?_ ?_;rotate_left
         ·simp only [Act.put, List.setIfInBounds_toArray, List.set_cons_zero, List.set_cons_succ, i64_w, i32_w];rfl
         refine pure_ (i := 26) (N := some 193) (v := undef) (a' := ?_) #[true, true, true, true, true, true, true, true, true, true, true, true, true, true, true, true, true, true, true, true, true, true, true, true, true, true, true, false, false, false, false, false, false, false, false, false] rfl rfl (any_of HT_.out (by kernel_rfl)) (fun _ _ _ h => h) (Or.inr ⟨by rfl, rfl⟩) ?_ ?_;rotate_left
         ·simp only [Act.put, List.setIfInBounds_toArray, List.set_cons_zero, List.set_cons_succ, i64_w, i32_w];rfl
         refine pure_ (i := 27) (N := some 194) (v := undef) (a' := ?_) #[true, true, true, true, true, true, true, true, true, true, true, true, true, true, true, true, true, true, true, true, true, true, true, true, true, true, true, true, false, false, false, false, false, false, false, false] rfl rfl (any_of HT_.out (by kernel_rfl)) (fun _ _ _ h => h) (Or.inr ⟨by rfl, rfl⟩) ?_ ?_;rotate_left
         ·simp only [Act.put, List.setIfInBounds_toArray, List.set_cons_zero, List.set_cons_succ, i64_w, i32_w];rfl
         refine pure_ (i := 28) (N := some 195) (v := undef) (a' := ?_) #[true, true, true, true, true, true, true, true, true, true, true, true, true, true, true, true, true, true, true, true, true, true, true, true, true, true, true, true, true, false, false, false, false, false, false, false] rfl rfl (any_of HT_.out (by kernel_rfl)) (fun _ _ _ h => h) (Or.inr ⟨by rfl, rfl⟩) ?_ ?_;rotate_left
         ·simp only [Act.put, List.setIfInBounds_toArray, List.set_cons_zero, List.set_cons_succ, i64_w, i32_w];rfl
         refine pure_ (i := 29) (N := some 196) (v := undef) (a' := ?_) #[true, true, true, true, true, true, true, true, true, true, true, true, true, true, true, true, true, true, true, true, true, true, true, true, true, true, true, true, true, true, false, false, false, false, false, false] rfl rfl (any_of HT_.out (by kernel_rfl)) (fun _ _ _ h => h) (Or.inr ⟨by rfl, rfl⟩) ?_ ?_;rotate_left
         ·simp only [Act.put, List.setIfInBounds_toArray, List.set_cons_zero, List.set_cons_succ, i64_w, i32_w];rfl
         refine pure_ (i := 30) (N := some 197) (v := undef) (a' := ?_) #[true, true, true, true, true, true, true, true, true, true, true, true, true, true, true, true, true, true, true, true, true, true, true, true, true, true, true, true, true, true, true, false, false, false, false, false] rfl rfl (any_of HT_.out (by kernel_rfl)) (fun _ _ _ h => h) (Or.inr ⟨by rfl, rfl⟩) ?_ ?_;rotate_left
         ·simp only [Act.put, List.setIfInBounds_toArray, List.set_cons_zero, List.set_cons_succ, i64_w, i32_w];rfl
         refine pure_ (i := 31) (N := some 198) (v := undef) (a' := ?_) #[true, true, true, true, true, true, true, true, true, true, true, true, true, true, true, true, true, true, true, true, true, true, true, true, true, true, true, true, true, true, true, true, false, false, false, false] rfl rfl (any_of HT_.out (by kernel_rfl)) (fun _ _ _ h => h) (Or.inr ⟨by rfl, rfl⟩) ?_ ?_;rotate_left
         ·simp only [Act.put, List.setIfInBounds_toArray, List.set_cons_zero, List.set_cons_succ, i64_w, i32_w];rfl
         refine pure_ (i := 32) (N := some 199) (v := undef) (a' := ?_) #[true, true, true, true, true, true, true, true, true, true, true, true, true, true, true, true, true, true, true, true, true, true, true, true, true, true, true, true, true, true, true, true, true, false, false, false] rfl rfl (any_of HT_.out (by kernel_rfl)) (fun _ _ _ h => h) (Or.inr ⟨by rfl, rfl⟩) ?_ ?_;rotate_left
         ·simp only [Act.put, List.setIfInBounds_toArray, List.set_cons_zero, List.set_cons_succ, i64_w, i32_w];rfl
         refine pure_ (i := 33) (N := some 200) (v := undef) (a' := ?_) #[true, true, true, true, true, true, true, true, true, true, true, true, true, true, true, true, true, true, true, true, true, true, true, true, true, true, true, true, true, true, true, true, true, true, false, false] rfl rfl (any_of HT_.out (by kernel_rfl)) (fun _ _ _ h => h) (Or.inr ⟨by rfl, rfl⟩) ?_ ?_;rotate_left
         ·simp only [Act.put, List.setIfInBounds_toArray, List.set_cons_zero, List.set_cons_succ, i64_w, i32_w];rfl
         refine pure_ (i := 34) (N := some 201) (v := undef) (a' := ?_) #[true, true, true, true, true, true, true, true, true, true, true, true, true, true, true, true, true, true, true, true, true, true, true, true, true, true, true, true, true, true, true, true, true, true, true, false] rfl rfl (any_of HT_.out (by kernel_rfl)) (fun _ _ _ h => h) (Or.inr ⟨by rfl, rfl⟩) ?_ ?_;rotate_left
         ·simp only [Act.put, List.setIfInBounds_toArray, List.set_cons_zero, List.set_cons_succ, i64_w, i32_w];rfl
         refine pst 35 (some 202) HT_ ?_;refine done_ (done_of HT_.out (by kernel_rfl)) ?_;clear HT_ HW_ hHeld;go_wp2;go_meet;exact ⟨rfl, hZ (HBZ.out.trans (hbd.out.mono HBZ.out.size))⟩
       case rest =>
        obtain ⟨rfl, HBC⟩ := hcut;go_wp2;go_roundw
        case rel => exact ⟨z + 1, by go_num, by omega, HBC⟩
        case measure => simp [intOf]; omega
      ·have gz : decide ((z : Int) < (EV.length : Int)) = false := by simpa using hzl
       have HBF : Hid (Below w.heap.size w wz) := hZ (HB17.out.trans (HBZ.out.mono HB17.out.size));go_wp2;go_ret;exact ⟨by first | trivial | rfl, HBF.out⟩
  ·have DN := DN.mono (fun e w' h => h.2 (by simpa using hok))
   go_wp2_with (go_at_call 9; (with_reducible refine DN.mono ?_); rintro e w3 ⟨⟨p, rfl⟩, hB3⟩; have HB3 := hZ (HB2.out.trans (hB3.mono HB2.out.size)); clear hB3)
   go_ret;exact ⟨by first | trivial | rfl, HB3.out⟩
end Go.Proofs.YtfimkmlgnmaopaaGreat.Top
