/-
  What event.Take computes.
-/
import Derived.Test.YtbmojelnkldecaaTk
namespace Go.Proofs.Ytbmojelnkldecaa
open Go.RowKit

def zeroEv : Ev := ⟨0, 0, ⟨0, 0, 0, 0, 0⟩, 0, 0, ⟨#[]⟩, 0, ⟨#[]⟩⟩
def takeE (bs : List UInt8) : Ev × Nat × Int := if (fieldS bs (0, 0)).2.2 ≠ 0 then (zeroEv, 0, (fieldS bs (0, 0)).2.2) else ((fieldS bs (0, 0)).1, (fieldS bs (0, 0)).2.1, 0)

def tkR (t : Ev × Nat × Int) : AV := .tup [t.1.av, .v (.int .i64 (t.2.1 : Int)), .v (.int .i64 t.2.2)]
theorem takeE_ok {bs : List UInt8} {e : Ev} {s : St} (h : fieldS bs (0, 0) = (e, s)) (h0 : s.2 = 0) : tkR (e, s.1, 0) = tkR (takeE bs) := by
  unfold takeE; rw [h, if_neg (fun k => k h0)]
theorem takeE_no {bs : List UInt8} {e : Ev} {s : St} (h : fieldS bs (0, 0) = (e, s)) (h0 : ¬ s.2 = 0) : tkR (zeroEv, 0, s.2) = tkR (takeE bs) := by
  unfold takeE; rw [h, if_pos h0]
theorem numS_b {bs : List UInt8} {lo hi : Int} {s : St} (_h0 : 0 ≤ lo) (h1 : 0 ≤ hi) : 0 ≤ (numS bs lo hi s).1 ∧ (numS bs lo hi s).1 ≤ hi := by
  unfold numS
  split
  · exact ⟨Int.le_refl _, h1⟩
  · split
    · exact ⟨Int.le_refl _, h1⟩
    · split
      · rename_i h; exact ⟨by omega, h.2⟩
      · exact ⟨Int.le_refl _, h1⟩

theorem octS_to {bs : List UInt8} {lo hi c : Int} {s s' : St} (h : octS bs lo hi s = (c, s')) (hu : s.1 ≤ bs.length) : s'.1 ≤ bs.length ∧ (0 ≤ c ∧ c ≤ 255) := by
  have h1 := octS_le (lo := lo) (hi := hi) hu
  have h2 := octS_b (bs := bs) (lo := lo) (hi := hi) (s := s)
  rw [h] at h1 h2
  exact ⟨h1, h2⟩
theorem numS_to {bs : List UInt8} {lo hi c : Int} {s s' : St} (h : numS bs lo hi s = (c, s')) (hu : s.1 ≤ bs.length) (h0 : 0 ≤ lo) (h1 : 0 ≤ hi) : s'.1 ≤ bs.length ∧ (0 ≤ c ∧ c ≤ hi) := by
  have h3 := numS_le (lo := lo) (hi := hi) hu
  have h2 := numS_b (bs := bs) (lo := lo) (hi := hi) (s := s) h0 h1
  rw [h] at h3 h2
  exact ⟨h3, h2⟩
theorem wordS_to {bs : List UInt8} {sz : Int} {may : ByteArray → Int} {c : ByteArray} {s s' : St} (h : wordS bs sz may s = (c, s')) (hu : s.1 ≤ bs.length) : s'.1 ≤ bs.length := by
  have h1 := wordS_le (sz := sz) (may := may) hu
  rw [h] at h1
  exact h1

set_option maxHeartbeats 8000000 in
set_option maxRecDepth 100000 in
theorem take_spec (bs : List UInt8) (hl : bs.length ≤ 1000000000) : ASpec Try.prog 19 [.sl 1 bs.length true (bytesF bs)] (.tup [(takeE bs).1.av, .v (.int .i64 ((takeE bs).2.1 : Int)), .v (.int .i64 (takeE bs).2.2)]) [] := by
  obtain ⟨⟨k, s1⟩, e1⟩ : ∃ p, octS bs 1 5 (0, 0) = p := ⟨_, rfl⟩
  obtain ⟨q1, g1⟩ := octS_to e1 (Nat.zero_le _)
  obtain ⟨⟨R, s2⟩, e2⟩ : ∃ p, octS bs 0 4 s1 = p := ⟨_, rfl⟩
  have hR0 := octS_range (bs := bs) (lo := 0) (hi := 4) (s := s1)
  rw [e2] at hR0
  obtain ⟨q2, g2⟩ := octS_to e2 q1
  obtain ⟨⟨N, s3⟩, e3⟩ : ∃ p, numS bs 1 1048576 s2 = p := ⟨_, rfl⟩
  obtain ⟨q3, g3⟩ := numS_to e3 q2 (by omega) (by omega)
  rcases (show R = 0 ∨ R = 1 ∨ R = 2 ∨ R = 3 ∨ R = 4 by simp only at hR0; omega) with rfl | rfl | rfl | rfl | rfl
  · obtain ⟨⟨c1, t2⟩, f1⟩ : ∃ p, numS bs 0 1048576 s3 = p := ⟨_, rfl⟩
    obtain ⟨p1, _⟩ := numS_to f1 q3 (by omega) (by omega)
    obtain ⟨⟨c2, t3⟩, f2⟩ : ∃ p, numS bs 0 1048576 t2 = p := ⟨_, rfl⟩
    obtain ⟨p2, _⟩ := numS_to f2 p1 (by omega) (by omega)
    obtain ⟨⟨c3, t4⟩, f3⟩ : ∃ p, numS bs 0 1048576 t3 = p := ⟨_, rfl⟩
    obtain ⟨p3, _⟩ := numS_to f3 p2 (by omega) (by omega)
    obtain ⟨⟨c4, t5⟩, f4⟩ : ∃ p, numS bs 0 1048576 t4 = p := ⟨_, rfl⟩
    obtain ⟨p4, _⟩ := numS_to f4 p3 (by omega) (by omega)
    obtain ⟨⟨H, s5⟩, e5⟩ : ∃ p, numS bs 1 16777216 t5 = p := ⟨_, rfl⟩
    obtain ⟨q5, g5⟩ := numS_to e5 p4 (by omega) (by omega)
    obtain ⟨⟨ks, s6⟩, e6⟩ : ∃ p, octS bs 1 8 s5 = p := ⟨_, rfl⟩
    obtain ⟨q6, g6⟩ := octS_to e6 q5
    obtain ⟨⟨key, s7⟩, e7⟩ : ∃ p, wordS bs ks keyE s6 = p := ⟨_, rfl⟩
    have q7 := wordS_to e7 q6
    obtain ⟨⟨l, s8⟩, e8⟩ : ∃ p, octS bs 0 1 s7 = p := ⟨_, rfl⟩
    obtain ⟨q8, g8⟩ := octS_to e8 q7
    obtain ⟨⟨vs, s9⟩, e9⟩ : ∃ p, octS bs 1 12 s8 = p := ⟨_, rfl⟩
    obtain ⟨q9, g9⟩ := octS_to e9 q8
    obtain ⟨⟨v, s10⟩, e10⟩ : ∃ p, wordS bs vs valueE s9 = p := ⟨_, rfl⟩
    have hF : fieldS bs (0, 0) = if isLong k then (⟨0, N, ⟨N - 1, c1, c2, c3, c4⟩, H, k, key, l, v⟩, s10) else (⟨0, N, ⟨N - 1, c1, c2, c3, c4⟩, H, k, key, 0, ⟨#[]⟩⟩, s7) := by
      simp [fieldS, clockS, clkAt, skipS, Clk.setN, Clk.put, e1, e2, e3, f1, f2, f3, f4, e5, e6, e7, e8, e9, e10]
    have hL : isLong k = true → fieldS bs (0, 0) = (⟨0, N, ⟨N - 1, c1, c2, c3, c4⟩, H, k, key, l, v⟩, s10) := fun h => hF.trans (if_pos h)
    have hS : isLong k = false → fieldS bs (0, 0) = (⟨0, N, ⟨N - 1, c1, c2, c3, c4⟩, H, k, key, 0, ⟨#[]⟩⟩, s7) := fun h => hF.trans (if_neg (by rw [h]; exact Bool.false_ne_true))
    clear hF
    refine aspec_of lay_ok 65791 Try.func19 rfl rfl rfl ?_
    repeat' ((conv => whnf); first | refine Spl.yes (by first | assumption | omega) ?_ | refine Spl.no (by first | assumption | omega) ?_ | refine Wr.i64 (by omega) (by omega) ?_ | refine Still.mk rfl rfl ?_ | refine InB.mk (inB_mk (by omega) (by omega)) ?_ | refine Req.mk (by omega) ?_ | refine Req.mk ⟨by first | omega | (dsimp only; omega), by first | omega | (dsimp only; omega)⟩ ?_ | refine ACall.chgR 3 [(0, _), (1, _), (2, _)] (octet_e bs _ _ _ _ _ e1 hl) rfl ⟨rfl, rfl, rfl, trivial⟩ rfl rfl ?_ | refine ACall.chgR 3 [(0, _), (1, _), (2, _)] (octet_e bs _ _ _ _ _ e2 hl) rfl ⟨rfl, rfl, rfl, trivial⟩ rfl rfl ?_ | refine ACall.chgR 3 [(0, _), (1, _), (2, _)] (number_e bs _ _ _ _ _ e3 (by assumption) hl (by omega) (by omega) (by omega)) rfl ⟨rfl, rfl, rfl, trivial⟩ rfl rfl ?_ | refine ACall.chgR 3 [(0, _), (1, _), (2, _)] (number_e bs _ _ _ _ _ f1 (by assumption) hl (by omega) (by omega) (by omega)) rfl ⟨rfl, rfl, rfl, trivial⟩ rfl rfl ?_ | refine ACall.chgR 3 [(0, _), (1, _), (2, _)] (number_e bs _ _ _ _ _ f2 (by assumption) hl (by omega) (by omega) (by omega)) rfl ⟨rfl, rfl, rfl, trivial⟩ rfl rfl ?_ | refine ACall.chgR 3 [(0, _), (1, _), (2, _)] (number_e bs _ _ _ _ _ f3 (by assumption) hl (by omega) (by omega) (by omega)) rfl ⟨rfl, rfl, rfl, trivial⟩ rfl rfl ?_ | refine ACall.chgR 3 [(0, _), (1, _), (2, _)] (number_e bs _ _ _ _ _ f4 (by assumption) hl (by omega) (by omega) (by omega)) rfl ⟨rfl, rfl, rfl, trivial⟩ rfl rfl ?_ | refine ACall.chgR 3 [(0, _), (1, _), (2, _)] (number_e bs _ _ _ _ _ e5 (by assumption) hl (by omega) (by omega) (by omega)) rfl ⟨rfl, rfl, rfl, trivial⟩ rfl rfl ?_ | refine ACall.chgR 3 [(0, _), (1, _), (2, _)] (octet_e bs _ _ _ _ _ e6 hl) rfl ⟨rfl, rfl, rfl, trivial⟩ rfl rfl ?_ | refine ACall.chgR 3 [(0, _), (1, _), (2, _)] (wordsK_e bs _ _ _ _ e7 (by assumption) hl (by assumption)) rfl ⟨rfl, rfl, rfl, trivial⟩ rfl rfl ?_ | refine ACall.chgR 3 [(0, _), (1, _), (2, _)] (octet_e bs _ _ _ _ _ e8 hl) rfl ⟨rfl, rfl, rfl, trivial⟩ rfl rfl ?_ | refine ACall.chgR 3 [(0, _), (1, _), (2, _)] (octet_e bs _ _ _ _ _ e9 hl) rfl ⟨rfl, rfl, rfl, trivial⟩ rfl rfl ?_ | refine ACall.chgR 3 [(0, _), (1, _), (2, _)] (wordsV_e bs _ _ _ _ e10 (by assumption) hl (by assumption)) rfl ⟨rfl, rfl, rfl, trivial⟩ rfl rfl ?_ | refine ACall.plain _ _ (isLong_spec _) (SubL.cons (.eq _) .nil) rfl ?_ | refine ALoop.rounds 6 ?_ | refine ACall.into 70368748569031 _ _ Try.func53 rfl rfl rfl ?_ | refine Spl.mk (fun _ => ?_) (fun _ => ?_) | refine Wr.b64 ?_ | refine Wr.bu64 ?_ | refine Wr.bu32 ?_ | refine Wr.bu8 ?_ | refine Wr.u8 (by omega) (by omega) ?_ | refine Wr.u64 (by omega) (by omega) ?_ | refine Wr.u32 (by omega) (by omega) ?_ | refine Dv.pos (by omega) (by omega) ?_ | refine Rm.pos (by omega) (by omega) ?_ | refine ADraw.quiet follows_ok (by kernel_rfl) rfl ?_ | refine ADraw.sched (id := 6) lay_ok (awp_snd lay_ok _) [(0, none), (1, none), (2, some []), (3, some []), (4, some [1])] [(2, []), (3, []), (4, [1])] follows_ok (by kernel_rfl) ?_ | refine ADraw.sched (id := 7) lay_ok (awp_snd lay_ok _) [(0, none), (1, none), (2, some [0]), (3, some [0, 1]), (4, some [0, 1])] [(2, [0]), (3, [0, 1]), (4, [0, 1])] follows_ok (by kernel_rfl) ?_ | refine BSpl.decY (by first | assumption | omega) ?_ | refine BSpl.decN (by first | assumption | omega) ?_ | refine BSpl.dec (fun _ => ?_) (fun _ => ?_) | refine BSpl.yes (by assumption) ?_ | refine BSpl.no (by assumption) ?_ | refine BSpl.mk (fun _ => ?_) (fun _ => ?_))
    all_goals refine ARet.hdI ?_
    all_goals (conv => whnf)
    all_goals refine AEqI.mk (AEq.of ?_)
    all_goals first | exact takeE_ok (hL ‹_›) ‹_› | exact takeE_no (hL ‹_›) ‹_› | exact takeE_ok (hS ‹_›) ‹_› | exact takeE_no (hS ‹_›) ‹_›
  · obtain ⟨⟨c0, t1⟩, f0⟩ : ∃ p, numS bs 0 1048576 s3 = p := ⟨_, rfl⟩
    obtain ⟨p0, _⟩ := numS_to f0 q3 (by omega) (by omega)
    obtain ⟨⟨c2, t3⟩, f2⟩ : ∃ p, numS bs 0 1048576 t1 = p := ⟨_, rfl⟩
    obtain ⟨p2, _⟩ := numS_to f2 p0 (by omega) (by omega)
    obtain ⟨⟨c3, t4⟩, f3⟩ : ∃ p, numS bs 0 1048576 t3 = p := ⟨_, rfl⟩
    obtain ⟨p3, _⟩ := numS_to f3 p2 (by omega) (by omega)
    obtain ⟨⟨c4, t5⟩, f4⟩ : ∃ p, numS bs 0 1048576 t4 = p := ⟨_, rfl⟩
    obtain ⟨p4, _⟩ := numS_to f4 p3 (by omega) (by omega)
    obtain ⟨⟨H, s5⟩, e5⟩ : ∃ p, numS bs 1 16777216 t5 = p := ⟨_, rfl⟩
    obtain ⟨q5, g5⟩ := numS_to e5 p4 (by omega) (by omega)
    obtain ⟨⟨ks, s6⟩, e6⟩ : ∃ p, octS bs 1 8 s5 = p := ⟨_, rfl⟩
    obtain ⟨q6, g6⟩ := octS_to e6 q5
    obtain ⟨⟨key, s7⟩, e7⟩ : ∃ p, wordS bs ks keyE s6 = p := ⟨_, rfl⟩
    have q7 := wordS_to e7 q6
    obtain ⟨⟨l, s8⟩, e8⟩ : ∃ p, octS bs 0 1 s7 = p := ⟨_, rfl⟩
    obtain ⟨q8, g8⟩ := octS_to e8 q7
    obtain ⟨⟨vs, s9⟩, e9⟩ : ∃ p, octS bs 1 12 s8 = p := ⟨_, rfl⟩
    obtain ⟨q9, g9⟩ := octS_to e9 q8
    obtain ⟨⟨v, s10⟩, e10⟩ : ∃ p, wordS bs vs valueE s9 = p := ⟨_, rfl⟩
    have hF : fieldS bs (0, 0) = if isLong k then (⟨1, N, ⟨c0, N - 1, c2, c3, c4⟩, H, k, key, l, v⟩, s10) else (⟨1, N, ⟨c0, N - 1, c2, c3, c4⟩, H, k, key, 0, ⟨#[]⟩⟩, s7) := by
      simp [fieldS, clockS, clkAt, skipS, Clk.setN, Clk.put, e1, e2, e3, f0, f2, f3, f4, e5, e6, e7, e8, e9, e10]
    have hL : isLong k = true → fieldS bs (0, 0) = (⟨1, N, ⟨c0, N - 1, c2, c3, c4⟩, H, k, key, l, v⟩, s10) := fun h => hF.trans (if_pos h)
    have hS : isLong k = false → fieldS bs (0, 0) = (⟨1, N, ⟨c0, N - 1, c2, c3, c4⟩, H, k, key, 0, ⟨#[]⟩⟩, s7) := fun h => hF.trans (if_neg (by rw [h]; exact Bool.false_ne_true))
    clear hF
    refine aspec_of lay_ok 65791 Try.func19 rfl rfl rfl ?_
    repeat' ((conv => whnf); first | refine Spl.yes (by first | assumption | omega) ?_ | refine Spl.no (by first | assumption | omega) ?_ | refine Wr.i64 (by omega) (by omega) ?_ | refine Still.mk rfl rfl ?_ | refine InB.mk (inB_mk (by omega) (by omega)) ?_ | refine Req.mk (by omega) ?_ | refine Req.mk ⟨by first | omega | (dsimp only; omega), by first | omega | (dsimp only; omega)⟩ ?_ | refine ACall.chgR 3 [(0, _), (1, _), (2, _)] (octet_e bs _ _ _ _ _ e1 hl) rfl ⟨rfl, rfl, rfl, trivial⟩ rfl rfl ?_ | refine ACall.chgR 3 [(0, _), (1, _), (2, _)] (octet_e bs _ _ _ _ _ e2 hl) rfl ⟨rfl, rfl, rfl, trivial⟩ rfl rfl ?_ | refine ACall.chgR 3 [(0, _), (1, _), (2, _)] (number_e bs _ _ _ _ _ e3 (by assumption) hl (by omega) (by omega) (by omega)) rfl ⟨rfl, rfl, rfl, trivial⟩ rfl rfl ?_ | refine ACall.chgR 3 [(0, _), (1, _), (2, _)] (number_e bs _ _ _ _ _ f0 (by assumption) hl (by omega) (by omega) (by omega)) rfl ⟨rfl, rfl, rfl, trivial⟩ rfl rfl ?_ | refine ACall.chgR 3 [(0, _), (1, _), (2, _)] (number_e bs _ _ _ _ _ f2 (by assumption) hl (by omega) (by omega) (by omega)) rfl ⟨rfl, rfl, rfl, trivial⟩ rfl rfl ?_ | refine ACall.chgR 3 [(0, _), (1, _), (2, _)] (number_e bs _ _ _ _ _ f3 (by assumption) hl (by omega) (by omega) (by omega)) rfl ⟨rfl, rfl, rfl, trivial⟩ rfl rfl ?_ | refine ACall.chgR 3 [(0, _), (1, _), (2, _)] (number_e bs _ _ _ _ _ f4 (by assumption) hl (by omega) (by omega) (by omega)) rfl ⟨rfl, rfl, rfl, trivial⟩ rfl rfl ?_ | refine ACall.chgR 3 [(0, _), (1, _), (2, _)] (number_e bs _ _ _ _ _ e5 (by assumption) hl (by omega) (by omega) (by omega)) rfl ⟨rfl, rfl, rfl, trivial⟩ rfl rfl ?_ | refine ACall.chgR 3 [(0, _), (1, _), (2, _)] (octet_e bs _ _ _ _ _ e6 hl) rfl ⟨rfl, rfl, rfl, trivial⟩ rfl rfl ?_ | refine ACall.chgR 3 [(0, _), (1, _), (2, _)] (wordsK_e bs _ _ _ _ e7 (by assumption) hl (by assumption)) rfl ⟨rfl, rfl, rfl, trivial⟩ rfl rfl ?_ | refine ACall.chgR 3 [(0, _), (1, _), (2, _)] (octet_e bs _ _ _ _ _ e8 hl) rfl ⟨rfl, rfl, rfl, trivial⟩ rfl rfl ?_ | refine ACall.chgR 3 [(0, _), (1, _), (2, _)] (octet_e bs _ _ _ _ _ e9 hl) rfl ⟨rfl, rfl, rfl, trivial⟩ rfl rfl ?_ | refine ACall.chgR 3 [(0, _), (1, _), (2, _)] (wordsV_e bs _ _ _ _ e10 (by assumption) hl (by assumption)) rfl ⟨rfl, rfl, rfl, trivial⟩ rfl rfl ?_ | refine ACall.plain _ _ (isLong_spec _) (SubL.cons (.eq _) .nil) rfl ?_ | refine ALoop.rounds 6 ?_ | refine ACall.into 70368748569031 _ _ Try.func53 rfl rfl rfl ?_ | refine Spl.mk (fun _ => ?_) (fun _ => ?_) | refine Wr.b64 ?_ | refine Wr.bu64 ?_ | refine Wr.bu32 ?_ | refine Wr.bu8 ?_ | refine Wr.u8 (by omega) (by omega) ?_ | refine Wr.u64 (by omega) (by omega) ?_ | refine Wr.u32 (by omega) (by omega) ?_ | refine Dv.pos (by omega) (by omega) ?_ | refine Rm.pos (by omega) (by omega) ?_ | refine ADraw.quiet follows_ok (by kernel_rfl) rfl ?_ | refine ADraw.sched (id := 6) lay_ok (awp_snd lay_ok _) [(0, none), (1, none), (2, some []), (3, some []), (4, some [1])] [(2, []), (3, []), (4, [1])] follows_ok (by kernel_rfl) ?_ | refine ADraw.sched (id := 7) lay_ok (awp_snd lay_ok _) [(0, none), (1, none), (2, some [0]), (3, some [0, 1]), (4, some [0, 1])] [(2, [0]), (3, [0, 1]), (4, [0, 1])] follows_ok (by kernel_rfl) ?_ | refine BSpl.decY (by first | assumption | omega) ?_ | refine BSpl.decN (by first | assumption | omega) ?_ | refine BSpl.dec (fun _ => ?_) (fun _ => ?_) | refine BSpl.yes (by assumption) ?_ | refine BSpl.no (by assumption) ?_ | refine BSpl.mk (fun _ => ?_) (fun _ => ?_))
    all_goals refine ARet.hdI ?_
    all_goals (conv => whnf)
    all_goals refine AEqI.mk (AEq.of ?_)
    all_goals first | exact takeE_ok (hL ‹_›) ‹_› | exact takeE_no (hL ‹_›) ‹_› | exact takeE_ok (hS ‹_›) ‹_› | exact takeE_no (hS ‹_›) ‹_›
  · obtain ⟨⟨c0, t1⟩, f0⟩ : ∃ p, numS bs 0 1048576 s3 = p := ⟨_, rfl⟩
    obtain ⟨p0, _⟩ := numS_to f0 q3 (by omega) (by omega)
    obtain ⟨⟨c1, t2⟩, f1⟩ : ∃ p, numS bs 0 1048576 t1 = p := ⟨_, rfl⟩
    obtain ⟨p1, _⟩ := numS_to f1 p0 (by omega) (by omega)
    obtain ⟨⟨c3, t4⟩, f3⟩ : ∃ p, numS bs 0 1048576 t2 = p := ⟨_, rfl⟩
    obtain ⟨p3, _⟩ := numS_to f3 p1 (by omega) (by omega)
    obtain ⟨⟨c4, t5⟩, f4⟩ : ∃ p, numS bs 0 1048576 t4 = p := ⟨_, rfl⟩
    obtain ⟨p4, _⟩ := numS_to f4 p3 (by omega) (by omega)
    obtain ⟨⟨H, s5⟩, e5⟩ : ∃ p, numS bs 1 16777216 t5 = p := ⟨_, rfl⟩
    obtain ⟨q5, g5⟩ := numS_to e5 p4 (by omega) (by omega)
    obtain ⟨⟨ks, s6⟩, e6⟩ : ∃ p, octS bs 1 8 s5 = p := ⟨_, rfl⟩
    obtain ⟨q6, g6⟩ := octS_to e6 q5
    obtain ⟨⟨key, s7⟩, e7⟩ : ∃ p, wordS bs ks keyE s6 = p := ⟨_, rfl⟩
    have q7 := wordS_to e7 q6
    obtain ⟨⟨l, s8⟩, e8⟩ : ∃ p, octS bs 0 1 s7 = p := ⟨_, rfl⟩
    obtain ⟨q8, g8⟩ := octS_to e8 q7
    obtain ⟨⟨vs, s9⟩, e9⟩ : ∃ p, octS bs 1 12 s8 = p := ⟨_, rfl⟩
    obtain ⟨q9, g9⟩ := octS_to e9 q8
    obtain ⟨⟨v, s10⟩, e10⟩ : ∃ p, wordS bs vs valueE s9 = p := ⟨_, rfl⟩
    have hF : fieldS bs (0, 0) = if isLong k then (⟨2, N, ⟨c0, c1, N - 1, c3, c4⟩, H, k, key, l, v⟩, s10) else (⟨2, N, ⟨c0, c1, N - 1, c3, c4⟩, H, k, key, 0, ⟨#[]⟩⟩, s7) := by
      simp [fieldS, clockS, clkAt, skipS, Clk.setN, Clk.put, e1, e2, e3, f0, f1, f3, f4, e5, e6, e7, e8, e9, e10]
    have hL : isLong k = true → fieldS bs (0, 0) = (⟨2, N, ⟨c0, c1, N - 1, c3, c4⟩, H, k, key, l, v⟩, s10) := fun h => hF.trans (if_pos h)
    have hS : isLong k = false → fieldS bs (0, 0) = (⟨2, N, ⟨c0, c1, N - 1, c3, c4⟩, H, k, key, 0, ⟨#[]⟩⟩, s7) := fun h => hF.trans (if_neg (by rw [h]; exact Bool.false_ne_true))
    clear hF
    refine aspec_of lay_ok 65791 Try.func19 rfl rfl rfl ?_
    repeat' ((conv => whnf); first | refine Spl.yes (by first | assumption | omega) ?_ | refine Spl.no (by first | assumption | omega) ?_ | refine Wr.i64 (by omega) (by omega) ?_ | refine Still.mk rfl rfl ?_ | refine InB.mk (inB_mk (by omega) (by omega)) ?_ | refine Req.mk (by omega) ?_ | refine Req.mk ⟨by first | omega | (dsimp only; omega), by first | omega | (dsimp only; omega)⟩ ?_ | refine ACall.chgR 3 [(0, _), (1, _), (2, _)] (octet_e bs _ _ _ _ _ e1 hl) rfl ⟨rfl, rfl, rfl, trivial⟩ rfl rfl ?_ | refine ACall.chgR 3 [(0, _), (1, _), (2, _)] (octet_e bs _ _ _ _ _ e2 hl) rfl ⟨rfl, rfl, rfl, trivial⟩ rfl rfl ?_ | refine ACall.chgR 3 [(0, _), (1, _), (2, _)] (number_e bs _ _ _ _ _ e3 (by assumption) hl (by omega) (by omega) (by omega)) rfl ⟨rfl, rfl, rfl, trivial⟩ rfl rfl ?_ | refine ACall.chgR 3 [(0, _), (1, _), (2, _)] (number_e bs _ _ _ _ _ f0 (by assumption) hl (by omega) (by omega) (by omega)) rfl ⟨rfl, rfl, rfl, trivial⟩ rfl rfl ?_ | refine ACall.chgR 3 [(0, _), (1, _), (2, _)] (number_e bs _ _ _ _ _ f1 (by assumption) hl (by omega) (by omega) (by omega)) rfl ⟨rfl, rfl, rfl, trivial⟩ rfl rfl ?_ | refine ACall.chgR 3 [(0, _), (1, _), (2, _)] (number_e bs _ _ _ _ _ f3 (by assumption) hl (by omega) (by omega) (by omega)) rfl ⟨rfl, rfl, rfl, trivial⟩ rfl rfl ?_ | refine ACall.chgR 3 [(0, _), (1, _), (2, _)] (number_e bs _ _ _ _ _ f4 (by assumption) hl (by omega) (by omega) (by omega)) rfl ⟨rfl, rfl, rfl, trivial⟩ rfl rfl ?_ | refine ACall.chgR 3 [(0, _), (1, _), (2, _)] (number_e bs _ _ _ _ _ e5 (by assumption) hl (by omega) (by omega) (by omega)) rfl ⟨rfl, rfl, rfl, trivial⟩ rfl rfl ?_ | refine ACall.chgR 3 [(0, _), (1, _), (2, _)] (octet_e bs _ _ _ _ _ e6 hl) rfl ⟨rfl, rfl, rfl, trivial⟩ rfl rfl ?_ | refine ACall.chgR 3 [(0, _), (1, _), (2, _)] (wordsK_e bs _ _ _ _ e7 (by assumption) hl (by assumption)) rfl ⟨rfl, rfl, rfl, trivial⟩ rfl rfl ?_ | refine ACall.chgR 3 [(0, _), (1, _), (2, _)] (octet_e bs _ _ _ _ _ e8 hl) rfl ⟨rfl, rfl, rfl, trivial⟩ rfl rfl ?_ | refine ACall.chgR 3 [(0, _), (1, _), (2, _)] (octet_e bs _ _ _ _ _ e9 hl) rfl ⟨rfl, rfl, rfl, trivial⟩ rfl rfl ?_ | refine ACall.chgR 3 [(0, _), (1, _), (2, _)] (wordsV_e bs _ _ _ _ e10 (by assumption) hl (by assumption)) rfl ⟨rfl, rfl, rfl, trivial⟩ rfl rfl ?_ | refine ACall.plain _ _ (isLong_spec _) (SubL.cons (.eq _) .nil) rfl ?_ | refine ALoop.rounds 6 ?_ | refine ACall.into 70368748569031 _ _ Try.func53 rfl rfl rfl ?_ | refine Spl.mk (fun _ => ?_) (fun _ => ?_) | refine Wr.b64 ?_ | refine Wr.bu64 ?_ | refine Wr.bu32 ?_ | refine Wr.bu8 ?_ | refine Wr.u8 (by omega) (by omega) ?_ | refine Wr.u64 (by omega) (by omega) ?_ | refine Wr.u32 (by omega) (by omega) ?_ | refine Dv.pos (by omega) (by omega) ?_ | refine Rm.pos (by omega) (by omega) ?_ | refine ADraw.quiet follows_ok (by kernel_rfl) rfl ?_ | refine ADraw.sched (id := 6) lay_ok (awp_snd lay_ok _) [(0, none), (1, none), (2, some []), (3, some []), (4, some [1])] [(2, []), (3, []), (4, [1])] follows_ok (by kernel_rfl) ?_ | refine ADraw.sched (id := 7) lay_ok (awp_snd lay_ok _) [(0, none), (1, none), (2, some [0]), (3, some [0, 1]), (4, some [0, 1])] [(2, [0]), (3, [0, 1]), (4, [0, 1])] follows_ok (by kernel_rfl) ?_ | refine BSpl.decY (by first | assumption | omega) ?_ | refine BSpl.decN (by first | assumption | omega) ?_ | refine BSpl.dec (fun _ => ?_) (fun _ => ?_) | refine BSpl.yes (by assumption) ?_ | refine BSpl.no (by assumption) ?_ | refine BSpl.mk (fun _ => ?_) (fun _ => ?_))
    all_goals refine ARet.hdI ?_
    all_goals (conv => whnf)
    all_goals refine AEqI.mk (AEq.of ?_)
    all_goals first | exact takeE_ok (hL ‹_›) ‹_› | exact takeE_no (hL ‹_›) ‹_› | exact takeE_ok (hS ‹_›) ‹_› | exact takeE_no (hS ‹_›) ‹_›
  · obtain ⟨⟨c0, t1⟩, f0⟩ : ∃ p, numS bs 0 1048576 s3 = p := ⟨_, rfl⟩
    obtain ⟨p0, _⟩ := numS_to f0 q3 (by omega) (by omega)
    obtain ⟨⟨c1, t2⟩, f1⟩ : ∃ p, numS bs 0 1048576 t1 = p := ⟨_, rfl⟩
    obtain ⟨p1, _⟩ := numS_to f1 p0 (by omega) (by omega)
    obtain ⟨⟨c2, t3⟩, f2⟩ : ∃ p, numS bs 0 1048576 t2 = p := ⟨_, rfl⟩
    obtain ⟨p2, _⟩ := numS_to f2 p1 (by omega) (by omega)
    obtain ⟨⟨c4, t5⟩, f4⟩ : ∃ p, numS bs 0 1048576 t3 = p := ⟨_, rfl⟩
    obtain ⟨p4, _⟩ := numS_to f4 p2 (by omega) (by omega)
    obtain ⟨⟨H, s5⟩, e5⟩ : ∃ p, numS bs 1 16777216 t5 = p := ⟨_, rfl⟩
    obtain ⟨q5, g5⟩ := numS_to e5 p4 (by omega) (by omega)
    obtain ⟨⟨ks, s6⟩, e6⟩ : ∃ p, octS bs 1 8 s5 = p := ⟨_, rfl⟩
    obtain ⟨q6, g6⟩ := octS_to e6 q5
    obtain ⟨⟨key, s7⟩, e7⟩ : ∃ p, wordS bs ks keyE s6 = p := ⟨_, rfl⟩
    have q7 := wordS_to e7 q6
    obtain ⟨⟨l, s8⟩, e8⟩ : ∃ p, octS bs 0 1 s7 = p := ⟨_, rfl⟩
    obtain ⟨q8, g8⟩ := octS_to e8 q7
    obtain ⟨⟨vs, s9⟩, e9⟩ : ∃ p, octS bs 1 12 s8 = p := ⟨_, rfl⟩
    obtain ⟨q9, g9⟩ := octS_to e9 q8
    obtain ⟨⟨v, s10⟩, e10⟩ : ∃ p, wordS bs vs valueE s9 = p := ⟨_, rfl⟩
    have hF : fieldS bs (0, 0) = if isLong k then (⟨3, N, ⟨c0, c1, c2, N - 1, c4⟩, H, k, key, l, v⟩, s10) else (⟨3, N, ⟨c0, c1, c2, N - 1, c4⟩, H, k, key, 0, ⟨#[]⟩⟩, s7) := by
      simp [fieldS, clockS, clkAt, skipS, Clk.setN, Clk.put, e1, e2, e3, f0, f1, f2, f4, e5, e6, e7, e8, e9, e10]
    have hL : isLong k = true → fieldS bs (0, 0) = (⟨3, N, ⟨c0, c1, c2, N - 1, c4⟩, H, k, key, l, v⟩, s10) := fun h => hF.trans (if_pos h)
    have hS : isLong k = false → fieldS bs (0, 0) = (⟨3, N, ⟨c0, c1, c2, N - 1, c4⟩, H, k, key, 0, ⟨#[]⟩⟩, s7) := fun h => hF.trans (if_neg (by rw [h]; exact Bool.false_ne_true))
    clear hF
    refine aspec_of lay_ok 65791 Try.func19 rfl rfl rfl ?_
    repeat' ((conv => whnf); first | refine Spl.yes (by first | assumption | omega) ?_ | refine Spl.no (by first | assumption | omega) ?_ | refine Wr.i64 (by omega) (by omega) ?_ | refine Still.mk rfl rfl ?_ | refine InB.mk (inB_mk (by omega) (by omega)) ?_ | refine Req.mk (by omega) ?_ | refine Req.mk ⟨by first | omega | (dsimp only; omega), by first | omega | (dsimp only; omega)⟩ ?_ | refine ACall.chgR 3 [(0, _), (1, _), (2, _)] (octet_e bs _ _ _ _ _ e1 hl) rfl ⟨rfl, rfl, rfl, trivial⟩ rfl rfl ?_ | refine ACall.chgR 3 [(0, _), (1, _), (2, _)] (octet_e bs _ _ _ _ _ e2 hl) rfl ⟨rfl, rfl, rfl, trivial⟩ rfl rfl ?_ | refine ACall.chgR 3 [(0, _), (1, _), (2, _)] (number_e bs _ _ _ _ _ e3 (by assumption) hl (by omega) (by omega) (by omega)) rfl ⟨rfl, rfl, rfl, trivial⟩ rfl rfl ?_ | refine ACall.chgR 3 [(0, _), (1, _), (2, _)] (number_e bs _ _ _ _ _ f0 (by assumption) hl (by omega) (by omega) (by omega)) rfl ⟨rfl, rfl, rfl, trivial⟩ rfl rfl ?_ | refine ACall.chgR 3 [(0, _), (1, _), (2, _)] (number_e bs _ _ _ _ _ f1 (by assumption) hl (by omega) (by omega) (by omega)) rfl ⟨rfl, rfl, rfl, trivial⟩ rfl rfl ?_ | refine ACall.chgR 3 [(0, _), (1, _), (2, _)] (number_e bs _ _ _ _ _ f2 (by assumption) hl (by omega) (by omega) (by omega)) rfl ⟨rfl, rfl, rfl, trivial⟩ rfl rfl ?_ | refine ACall.chgR 3 [(0, _), (1, _), (2, _)] (number_e bs _ _ _ _ _ f4 (by assumption) hl (by omega) (by omega) (by omega)) rfl ⟨rfl, rfl, rfl, trivial⟩ rfl rfl ?_ | refine ACall.chgR 3 [(0, _), (1, _), (2, _)] (number_e bs _ _ _ _ _ e5 (by assumption) hl (by omega) (by omega) (by omega)) rfl ⟨rfl, rfl, rfl, trivial⟩ rfl rfl ?_ | refine ACall.chgR 3 [(0, _), (1, _), (2, _)] (octet_e bs _ _ _ _ _ e6 hl) rfl ⟨rfl, rfl, rfl, trivial⟩ rfl rfl ?_ | refine ACall.chgR 3 [(0, _), (1, _), (2, _)] (wordsK_e bs _ _ _ _ e7 (by assumption) hl (by assumption)) rfl ⟨rfl, rfl, rfl, trivial⟩ rfl rfl ?_ | refine ACall.chgR 3 [(0, _), (1, _), (2, _)] (octet_e bs _ _ _ _ _ e8 hl) rfl ⟨rfl, rfl, rfl, trivial⟩ rfl rfl ?_ | refine ACall.chgR 3 [(0, _), (1, _), (2, _)] (octet_e bs _ _ _ _ _ e9 hl) rfl ⟨rfl, rfl, rfl, trivial⟩ rfl rfl ?_ | refine ACall.chgR 3 [(0, _), (1, _), (2, _)] (wordsV_e bs _ _ _ _ e10 (by assumption) hl (by assumption)) rfl ⟨rfl, rfl, rfl, trivial⟩ rfl rfl ?_ | refine ACall.plain _ _ (isLong_spec _) (SubL.cons (.eq _) .nil) rfl ?_ | refine ALoop.rounds 6 ?_ | refine ACall.into 70368748569031 _ _ Try.func53 rfl rfl rfl ?_ | refine Spl.mk (fun _ => ?_) (fun _ => ?_) | refine Wr.b64 ?_ | refine Wr.bu64 ?_ | refine Wr.bu32 ?_ | refine Wr.bu8 ?_ | refine Wr.u8 (by omega) (by omega) ?_ | refine Wr.u64 (by omega) (by omega) ?_ | refine Wr.u32 (by omega) (by omega) ?_ | refine Dv.pos (by omega) (by omega) ?_ | refine Rm.pos (by omega) (by omega) ?_ | refine ADraw.quiet follows_ok (by kernel_rfl) rfl ?_ | refine ADraw.sched (id := 6) lay_ok (awp_snd lay_ok _) [(0, none), (1, none), (2, some []), (3, some []), (4, some [1])] [(2, []), (3, []), (4, [1])] follows_ok (by kernel_rfl) ?_ | refine ADraw.sched (id := 7) lay_ok (awp_snd lay_ok _) [(0, none), (1, none), (2, some [0]), (3, some [0, 1]), (4, some [0, 1])] [(2, [0]), (3, [0, 1]), (4, [0, 1])] follows_ok (by kernel_rfl) ?_ | refine BSpl.decY (by first | assumption | omega) ?_ | refine BSpl.decN (by first | assumption | omega) ?_ | refine BSpl.dec (fun _ => ?_) (fun _ => ?_) | refine BSpl.yes (by assumption) ?_ | refine BSpl.no (by assumption) ?_ | refine BSpl.mk (fun _ => ?_) (fun _ => ?_))
    all_goals refine ARet.hdI ?_
    all_goals (conv => whnf)
    all_goals refine AEqI.mk (AEq.of ?_)
    all_goals first | exact takeE_ok (hL ‹_›) ‹_› | exact takeE_no (hL ‹_›) ‹_› | exact takeE_ok (hS ‹_›) ‹_› | exact takeE_no (hS ‹_›) ‹_›
  · obtain ⟨⟨c0, t1⟩, f0⟩ : ∃ p, numS bs 0 1048576 s3 = p := ⟨_, rfl⟩
    obtain ⟨p0, _⟩ := numS_to f0 q3 (by omega) (by omega)
    obtain ⟨⟨c1, t2⟩, f1⟩ : ∃ p, numS bs 0 1048576 t1 = p := ⟨_, rfl⟩
    obtain ⟨p1, _⟩ := numS_to f1 p0 (by omega) (by omega)
    obtain ⟨⟨c2, t3⟩, f2⟩ : ∃ p, numS bs 0 1048576 t2 = p := ⟨_, rfl⟩
    obtain ⟨p2, _⟩ := numS_to f2 p1 (by omega) (by omega)
    obtain ⟨⟨c3, t4⟩, f3⟩ : ∃ p, numS bs 0 1048576 t3 = p := ⟨_, rfl⟩
    obtain ⟨p3, _⟩ := numS_to f3 p2 (by omega) (by omega)
    obtain ⟨⟨H, s5⟩, e5⟩ : ∃ p, numS bs 1 16777216 t4 = p := ⟨_, rfl⟩
    obtain ⟨q5, g5⟩ := numS_to e5 p3 (by omega) (by omega)
    obtain ⟨⟨ks, s6⟩, e6⟩ : ∃ p, octS bs 1 8 s5 = p := ⟨_, rfl⟩
    obtain ⟨q6, g6⟩ := octS_to e6 q5
    obtain ⟨⟨key, s7⟩, e7⟩ : ∃ p, wordS bs ks keyE s6 = p := ⟨_, rfl⟩
    have q7 := wordS_to e7 q6
    obtain ⟨⟨l, s8⟩, e8⟩ : ∃ p, octS bs 0 1 s7 = p := ⟨_, rfl⟩
    obtain ⟨q8, g8⟩ := octS_to e8 q7
    obtain ⟨⟨vs, s9⟩, e9⟩ : ∃ p, octS bs 1 12 s8 = p := ⟨_, rfl⟩
    obtain ⟨q9, g9⟩ := octS_to e9 q8
    obtain ⟨⟨v, s10⟩, e10⟩ : ∃ p, wordS bs vs valueE s9 = p := ⟨_, rfl⟩
    have hF : fieldS bs (0, 0) = if isLong k then (⟨4, N, ⟨c0, c1, c2, c3, N - 1⟩, H, k, key, l, v⟩, s10) else (⟨4, N, ⟨c0, c1, c2, c3, N - 1⟩, H, k, key, 0, ⟨#[]⟩⟩, s7) := by
      simp [fieldS, clockS, clkAt, skipS, Clk.setN, Clk.put, e1, e2, e3, f0, f1, f2, f3, e5, e6, e7, e8, e9, e10]
    have hL : isLong k = true → fieldS bs (0, 0) = (⟨4, N, ⟨c0, c1, c2, c3, N - 1⟩, H, k, key, l, v⟩, s10) := fun h => hF.trans (if_pos h)
    have hS : isLong k = false → fieldS bs (0, 0) = (⟨4, N, ⟨c0, c1, c2, c3, N - 1⟩, H, k, key, 0, ⟨#[]⟩⟩, s7) := fun h => hF.trans (if_neg (by rw [h]; exact Bool.false_ne_true))
    clear hF
    refine aspec_of lay_ok 65791 Try.func19 rfl rfl rfl ?_
    repeat' ((conv => whnf); first | refine Spl.yes (by first | assumption | omega) ?_ | refine Spl.no (by first | assumption | omega) ?_ | refine Wr.i64 (by omega) (by omega) ?_ | refine Still.mk rfl rfl ?_ | refine InB.mk (inB_mk (by omega) (by omega)) ?_ | refine Req.mk (by omega) ?_ | refine Req.mk ⟨by first | omega | (dsimp only; omega), by first | omega | (dsimp only; omega)⟩ ?_ | refine ACall.chgR 3 [(0, _), (1, _), (2, _)] (octet_e bs _ _ _ _ _ e1 hl) rfl ⟨rfl, rfl, rfl, trivial⟩ rfl rfl ?_ | refine ACall.chgR 3 [(0, _), (1, _), (2, _)] (octet_e bs _ _ _ _ _ e2 hl) rfl ⟨rfl, rfl, rfl, trivial⟩ rfl rfl ?_ | refine ACall.chgR 3 [(0, _), (1, _), (2, _)] (number_e bs _ _ _ _ _ e3 (by assumption) hl (by omega) (by omega) (by omega)) rfl ⟨rfl, rfl, rfl, trivial⟩ rfl rfl ?_ | refine ACall.chgR 3 [(0, _), (1, _), (2, _)] (number_e bs _ _ _ _ _ f0 (by assumption) hl (by omega) (by omega) (by omega)) rfl ⟨rfl, rfl, rfl, trivial⟩ rfl rfl ?_ | refine ACall.chgR 3 [(0, _), (1, _), (2, _)] (number_e bs _ _ _ _ _ f1 (by assumption) hl (by omega) (by omega) (by omega)) rfl ⟨rfl, rfl, rfl, trivial⟩ rfl rfl ?_ | refine ACall.chgR 3 [(0, _), (1, _), (2, _)] (number_e bs _ _ _ _ _ f2 (by assumption) hl (by omega) (by omega) (by omega)) rfl ⟨rfl, rfl, rfl, trivial⟩ rfl rfl ?_ | refine ACall.chgR 3 [(0, _), (1, _), (2, _)] (number_e bs _ _ _ _ _ f3 (by assumption) hl (by omega) (by omega) (by omega)) rfl ⟨rfl, rfl, rfl, trivial⟩ rfl rfl ?_ | refine ACall.chgR 3 [(0, _), (1, _), (2, _)] (number_e bs _ _ _ _ _ e5 (by assumption) hl (by omega) (by omega) (by omega)) rfl ⟨rfl, rfl, rfl, trivial⟩ rfl rfl ?_ | refine ACall.chgR 3 [(0, _), (1, _), (2, _)] (octet_e bs _ _ _ _ _ e6 hl) rfl ⟨rfl, rfl, rfl, trivial⟩ rfl rfl ?_ | refine ACall.chgR 3 [(0, _), (1, _), (2, _)] (wordsK_e bs _ _ _ _ e7 (by assumption) hl (by assumption)) rfl ⟨rfl, rfl, rfl, trivial⟩ rfl rfl ?_ | refine ACall.chgR 3 [(0, _), (1, _), (2, _)] (octet_e bs _ _ _ _ _ e8 hl) rfl ⟨rfl, rfl, rfl, trivial⟩ rfl rfl ?_ | refine ACall.chgR 3 [(0, _), (1, _), (2, _)] (octet_e bs _ _ _ _ _ e9 hl) rfl ⟨rfl, rfl, rfl, trivial⟩ rfl rfl ?_ | refine ACall.chgR 3 [(0, _), (1, _), (2, _)] (wordsV_e bs _ _ _ _ e10 (by assumption) hl (by assumption)) rfl ⟨rfl, rfl, rfl, trivial⟩ rfl rfl ?_ | refine ACall.plain _ _ (isLong_spec _) (SubL.cons (.eq _) .nil) rfl ?_ | refine ALoop.rounds 6 ?_ | refine ACall.into 70368748569031 _ _ Try.func53 rfl rfl rfl ?_ | refine Spl.mk (fun _ => ?_) (fun _ => ?_) | refine Wr.b64 ?_ | refine Wr.bu64 ?_ | refine Wr.bu32 ?_ | refine Wr.bu8 ?_ | refine Wr.u8 (by omega) (by omega) ?_ | refine Wr.u64 (by omega) (by omega) ?_ | refine Wr.u32 (by omega) (by omega) ?_ | refine Dv.pos (by omega) (by omega) ?_ | refine Rm.pos (by omega) (by omega) ?_ | refine ADraw.quiet follows_ok (by kernel_rfl) rfl ?_ | refine ADraw.sched (id := 6) lay_ok (awp_snd lay_ok _) [(0, none), (1, none), (2, some []), (3, some []), (4, some [1])] [(2, []), (3, []), (4, [1])] follows_ok (by kernel_rfl) ?_ | refine ADraw.sched (id := 7) lay_ok (awp_snd lay_ok _) [(0, none), (1, none), (2, some [0]), (3, some [0, 1]), (4, some [0, 1])] [(2, [0]), (3, [0, 1]), (4, [0, 1])] follows_ok (by kernel_rfl) ?_ | refine BSpl.decY (by first | assumption | omega) ?_ | refine BSpl.decN (by first | assumption | omega) ?_ | refine BSpl.dec (fun _ => ?_) (fun _ => ?_) | refine BSpl.yes (by assumption) ?_ | refine BSpl.no (by assumption) ?_ | refine BSpl.mk (fun _ => ?_) (fun _ => ?_))
    all_goals refine ARet.hdI ?_
    all_goals (conv => whnf)
    all_goals refine AEqI.mk (AEq.of ?_)
    all_goals first | exact takeE_ok (hL ‹_›) ‹_› | exact takeE_no (hL ‹_›) ‹_› | exact takeE_ok (hS ‹_›) ‹_› | exact takeE_no (hS ‹_›) ‹_›
end Go.Proofs.Ytbmojelnkldecaa
