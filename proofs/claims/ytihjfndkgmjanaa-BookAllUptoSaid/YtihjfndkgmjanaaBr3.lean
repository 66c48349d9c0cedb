/-
  The reference of layers 4 and 9: the place of the last stamp; a row of texts with one more.
-/
import Derived.Test.YtihjfndkgmjanaaBr2
import Derived.Test.YtihjfndkgmjanaaBkLp
namespace Go.Proofs.Ytihjfndkgmjanaa
open Go.RowKit

def lastR (l : List St) : Int := if l.length = 0 then -1 else (lastN l : Int)
theorem last_here {l : List St} {j : Nat} (hj : j < l.length) (hm : ∀ m, m < l.length → lessB (l.getD j default) (l.getD m default) = false) (he : ∀ i, i < j → ∃ k, k < l.length ∧ lessB (l.getD i default) (l.getD k default) = true) : lastR l = (j : Int) := by
  have hg : ∀ {i : Nat}, i < l.length → l.getD i default ∈ l := fun h => by
    rw [List.getD, List.getElem?_eq_getElem h]
    exact List.getElem_mem _
  have ht := top_is (hg hj) (fun x hx => by
    obtain ⟨m, hm', rfl⟩ := List.getElem_of_mem hx
    have := hm m hm'
    rw [show l.getD m default = l[m] by rw [List.getD, List.getElem?_eq_getElem hm']; rfl] at this
    rw [this]
    simp)
  rw [lastR, if_neg (by omega)]
  congr 1
  unfold lastN
  rw [ht]
  refine (List.findIdx_eq hj).2 ⟨?_, fun i hi => ?_⟩
  · rw [List.getD, List.getElem?_eq_getElem hj]
    exact decide_eq_true rfl
  · refine decide_eq_false fun e => ?_
    obtain ⟨k, hk, hl⟩ := he i hi
    have := hm k hk
    rw [← e] at this
    rw [List.getD, List.getElem?_eq_getElem (show i < l.length by omega)] at hl
    rw [show l[i] = (some l[i]).getD default from rfl] at this
    rw [this] at hl
    cases hl

set_option maxHeartbeats 8000000 in
set_option maxRecDepth 100000 in
theorem lastR_spec (l : List St) (hl : l.length ≤ 1000000000) : ASpec Try.prog 44 [.sl 2 l.length true (stF l)] (.v (.int .i64 (lastR l))) [] := by
  have hret := fun {j : Nat} => last_here (l := l) (j := j)
  have hemp : l.length = 0 → lastR l = -1 := fun h => if_pos h
  generalize lastR l = R at hret hemp
  refine aspec_of lay_ok 8590001277 Try.func44 rfl rfl rfl ?_
  repeat' ((conv => whnf); first | refine Spl.yes (by first | assumption | omega) ?_ | refine Spl.no (by first | assumption | omega) ?_ | refine Wr.i64 (by omega) (by omega) ?_ | refine Still.mk rfl rfl ?_ | refine InB.mk (inB_mk (by omega) (by omega)) ?_ | refine Req.mk (by omega) ?_ | refine Req.mk ⟨by first | omega | (dsimp only; omega), by first | omega | (dsimp only; omega)⟩ ?_ | refine ARet.hdI ?_ | refine Spl.mk (fun _ => ?_) (fun _ => ?_) | refine Wr.b64 ?_ | refine Wr.bu64 ?_ | refine Wr.bu32 ?_ | refine Wr.bu8 ?_ | refine Wr.u8 (by omega) (by omega) ?_ | refine Wr.u64 (by omega) (by omega) ?_ | refine Wr.u32 (by omega) (by omega) ?_ | refine Dv.pos (by omega) (by omega) ?_ | refine Rm.pos (by omega) (by omega) ?_ | refine ADraw.quiet follows_ok (by kernel_rfl) rfl ?_ | refine ADraw.sched (id := 8) lay_ok (awp_snd lay_ok _) [(0, none), (1, none), (2, none), (3, none), (4, none), (5, none), (6, none), (7, none), (8, some [7, 3]), (9, none)] [(8, [7, 3]), (9, [7, 3])] follows_ok (by kernel_rfl) ?_ | refine BSpl.decY (by first | assumption | omega) ?_ | refine BSpl.decN (by first | assumption | omega) ?_ | refine BSpl.dec (fun _ => ?_) (fun _ => ?_) | refine BSpl.yes (by assumption) ?_ | refine BSpl.no (by assumption) ?_ | refine BSpl.mk (fun _ => ?_) (fun _ => ?_))
  conv => whnf
  refine ALoop.mk { j : Nat // j ≤ l.length ∧ ∀ i, i < j → ∃ k, k < l.length ∧ lessB (l.getD i default) (l.getD k default) = true } (fun j => ⟨[(0, .sl 2 l.length true (stF l)), (3, .v (.int .i64 (j.1 : Int)))], [], [], 0⟩) (fun j => l.length - j.1) ⟨0, Nat.zero_le _, fun i h => absurd h (Nat.not_lt_zero i)⟩ _
    (LeR.mk' [] _ _ _ rfl ⟨AEq.refl _, AEq.int rfl, trivial⟩ trivial rfl) ?_
  rintro ⟨j, hj, hall⟩
  dsimp only
  by_cases hjl : j < l.length
  · repeat' ((conv => whnf); first | refine Spl.yes (by first | assumption | omega) ?_ | refine Spl.no (by first | assumption | omega) ?_ | refine Wr.i64 (by omega) (by omega) ?_ | refine Still.mk rfl rfl ?_ | refine InB.mk (inB_mk (by omega) (by omega)) ?_ | refine Req.mk (by omega) ?_ | refine Req.mk ⟨by first | omega | (dsimp only; omega), by first | omega | (dsimp only; omega)⟩ ?_ | refine ARet.hdI ?_ | refine Spl.mk (fun _ => ?_) (fun _ => ?_) | refine Wr.b64 ?_ | refine Wr.bu64 ?_ | refine Wr.bu32 ?_ | refine Wr.bu8 ?_ | refine Wr.u8 (by omega) (by omega) ?_ | refine Wr.u64 (by omega) (by omega) ?_ | refine Wr.u32 (by omega) (by omega) ?_ | refine Dv.pos (by omega) (by omega) ?_ | refine Rm.pos (by omega) (by omega) ?_ | refine ADraw.quiet follows_ok (by kernel_rfl) rfl ?_ | refine ADraw.sched (id := 8) lay_ok (awp_snd lay_ok _) [(0, none), (1, none), (2, none), (3, none), (4, none), (5, none), (6, none), (7, none), (8, some [7, 3]), (9, none)] [(8, [7, 3]), (9, [7, 3])] follows_ok (by kernel_rfl) ?_ | refine BSpl.decY (by first | assumption | omega) ?_ | refine BSpl.decN (by first | assumption | omega) ?_ | refine BSpl.dec (fun _ => ?_) (fun _ => ?_) | refine BSpl.yes (by assumption) ?_ | refine BSpl.no (by assumption) ?_ | refine BSpl.mk (fun _ => ?_) (fun _ => ?_))
    conv => whnf
    refine ALoop.mk { x : Nat × Bool // x.1 ≤ l.length ∧ (x.2 = true → ∀ m, m < x.1 → lessB (l.getD j default) (l.getD m default) = false) ∧ (x.2 = false → ∃ k, k < l.length ∧ lessB (l.getD j default) (l.getD k default) = true) }
      (fun x => ⟨[(0, .sl 2 l.length true (stF l)), (3, .v (.int .i64 (j : Int))), (4, .v (.bool x.1.2)), (5, .v (.int .i64 (x.1.1 : Int)))], [], [], 0⟩) (fun x => l.length - x.1.1) ⟨(0, true), Nat.zero_le _, fun _ m h => absurd h (Nat.not_lt_zero m), fun h => by cases h⟩ _
      (LeR.mk' [] _ _ _ rfl ⟨AEq.refl _, AEq.refl _, AEq.refl _, AEq.int rfl, trivial⟩ trivial rfl) ?_
    rintro ⟨⟨k, b⟩, hk, hb1, hb2⟩
    dsimp only at hk hb1 hb2 ⊢
    by_cases hkl : k < l.length
    · have hls := lessR_spec (l.getD (j : Int).toNat default) (l.getD (k : Int).toNat default)
      have hq : lessB (l.getD j default) (l.getD k default) = lessB (l.getD (j : Int).toNat default) (l.getD (k : Int).toNat default) := rfl
      generalize lessB (l.getD (j : Int).toNat default) (l.getD (k : Int).toNat default) = q at hls hq
      have n1 : b = true → q = false → (∀ m, m < k + 1 → lessB (l.getD j default) (l.getD m default) = false) := fun h1 h2 m hm => by
        rcases Nat.lt_or_ge m k with h' | h'
        · exact hb1 h1 m h'
        · obtain rfl : m = k := by omega
          rw [hq, h2]
      have n2 : q = true → ∃ k, k < l.length ∧ lessB (l.getD j default) (l.getD k default) = true := fun h => ⟨k, hkl, by rw [hq, h]⟩
      clear hq hb1 hret hemp hall
      dsimp only [stC] at hls
      repeat' ((conv => whnf); first | refine Spl.yes (by first | assumption | omega) ?_ | refine Spl.no (by first | assumption | omega) ?_ | refine Wr.i64 (by omega) (by omega) ?_ | refine Still.mk rfl rfl ?_ | refine InB.mk (inB_mk (by omega) (by omega)) ?_ | refine Req.mk (by omega) ?_ | refine Req.mk ⟨by first | omega | (dsimp only; omega), by first | omega | (dsimp only; omega)⟩ ?_ | refine ACall.plain _ _ (hls) (SubL.cons (.eq _) (SubL.cons (.eq _) .nil)) rfl ?_ | refine ARet.hdI ?_ | refine Spl.mk (fun _ => ?_) (fun _ => ?_) | refine Wr.b64 ?_ | refine Wr.bu64 ?_ | refine Wr.bu32 ?_ | refine Wr.bu8 ?_ | refine Wr.u8 (by omega) (by omega) ?_ | refine Wr.u64 (by omega) (by omega) ?_ | refine Wr.u32 (by omega) (by omega) ?_ | refine Dv.pos (by omega) (by omega) ?_ | refine Rm.pos (by omega) (by omega) ?_ | refine ADraw.quiet follows_ok (by kernel_rfl) rfl ?_ | refine ADraw.sched (id := 8) lay_ok (awp_snd lay_ok _) [(0, none), (1, none), (2, none), (3, none), (4, none), (5, none), (6, none), (7, none), (8, some [7, 3]), (9, none)] [(8, [7, 3]), (9, [7, 3])] follows_ok (by kernel_rfl) ?_ | refine BSpl.decY (by first | assumption | omega) ?_ | refine BSpl.decN (by first | assumption | omega) ?_ | refine BSpl.dec (fun _ => ?_) (fun _ => ?_) | refine BSpl.yes (by assumption) ?_ | refine BSpl.no (by assumption) ?_ | refine BSpl.mk (fun _ => ?_) (fun _ => ?_))
      all_goals (conv => whnf)
      all_goals first
        | exact ⟨⟨(k + 1, true), hkl, fun _ => n1 (by assumption) (by assumption), fun h => by cases h⟩, _, LeR.mk' [] _ _ _ rfl ⟨AEq.refl _, AEq.refl _, AEq.refl _, AEq.int rfl, trivial⟩ trivial rfl, Nat.sub_succ_lt_self _ _ hkl⟩
        | exact ⟨⟨(k + 1, false), hkl, fun h => (by cases h), fun _ => by first | exact n2 (by assumption) | exact hb2 (by assumption)⟩, _, LeR.mk' [] _ _ _ rfl ⟨AEq.refl _, AEq.refl _, AEq.refl _, AEq.int rfl, trivial⟩ trivial rfl, Nat.sub_succ_lt_self _ _ hkl⟩
    · rcases b with _ | _
      · have hup : ∀ i, i < j + 1 → ∃ k, k < l.length ∧ lessB (l.getD i default) (l.getD k default) = true := fun i hi => by
          rcases Nat.lt_or_ge i j with h' | h'
          · exact hall i h'
          · obtain rfl : i = j := by omega
            exact hb2 rfl
        repeat' ((conv => whnf); first | refine Spl.yes (by first | assumption | omega) ?_ | refine Spl.no (by first | assumption | omega) ?_ | refine Wr.i64 (by omega) (by omega) ?_ | refine Still.mk rfl rfl ?_ | refine InB.mk (inB_mk (by omega) (by omega)) ?_ | refine Req.mk (by omega) ?_ | refine Req.mk ⟨by first | omega | (dsimp only; omega), by first | omega | (dsimp only; omega)⟩ ?_ | refine ARet.hdI ?_ | refine Spl.mk (fun _ => ?_) (fun _ => ?_) | refine Wr.b64 ?_ | refine Wr.bu64 ?_ | refine Wr.bu32 ?_ | refine Wr.bu8 ?_ | refine Wr.u8 (by omega) (by omega) ?_ | refine Wr.u64 (by omega) (by omega) ?_ | refine Wr.u32 (by omega) (by omega) ?_ | refine Dv.pos (by omega) (by omega) ?_ | refine Rm.pos (by omega) (by omega) ?_ | refine ADraw.quiet follows_ok (by kernel_rfl) rfl ?_ | refine ADraw.sched (id := 8) lay_ok (awp_snd lay_ok _) [(0, none), (1, none), (2, none), (3, none), (4, none), (5, none), (6, none), (7, none), (8, some [7, 3]), (9, none)] [(8, [7, 3]), (9, [7, 3])] follows_ok (by kernel_rfl) ?_ | refine BSpl.decY (by first | assumption | omega) ?_ | refine BSpl.decN (by first | assumption | omega) ?_ | refine BSpl.dec (fun _ => ?_) (fun _ => ?_) | refine BSpl.yes (by assumption) ?_ | refine BSpl.no (by assumption) ?_ | refine BSpl.mk (fun _ => ?_) (fun _ => ?_))
        conv => whnf
        exact ⟨⟨j + 1, hjl, hup⟩, _, LeR.mk' [] _ _ _ rfl ⟨AEq.refl _, AEq.int rfl, trivial⟩ trivial rfl, Nat.sub_succ_lt_self _ _ hjl⟩
      · rw [hret hjl (fun m hm => hb1 rfl m (by omega)) hall]
        repeat' ((conv => whnf); first | refine Spl.yes (by first | assumption | omega) ?_ | refine Spl.no (by first | assumption | omega) ?_ | refine Wr.i64 (by omega) (by omega) ?_ | refine Still.mk rfl rfl ?_ | refine InB.mk (inB_mk (by omega) (by omega)) ?_ | refine Req.mk (by omega) ?_ | refine Req.mk ⟨by first | omega | (dsimp only; omega), by first | omega | (dsimp only; omega)⟩ ?_ | refine ARet.hdI ?_ | refine Spl.mk (fun _ => ?_) (fun _ => ?_) | refine Wr.b64 ?_ | refine Wr.bu64 ?_ | refine Wr.bu32 ?_ | refine Wr.bu8 ?_ | refine Wr.u8 (by omega) (by omega) ?_ | refine Wr.u64 (by omega) (by omega) ?_ | refine Wr.u32 (by omega) (by omega) ?_ | refine Dv.pos (by omega) (by omega) ?_ | refine Rm.pos (by omega) (by omega) ?_ | refine ADraw.quiet follows_ok (by kernel_rfl) rfl ?_ | refine ADraw.sched (id := 8) lay_ok (awp_snd lay_ok _) [(0, none), (1, none), (2, none), (3, none), (4, none), (5, none), (6, none), (7, none), (8, some [7, 3]), (9, none)] [(8, [7, 3]), (9, [7, 3])] follows_ok (by kernel_rfl) ?_ | refine BSpl.decY (by first | assumption | omega) ?_ | refine BSpl.decN (by first | assumption | omega) ?_ | refine BSpl.dec (fun _ => ?_) (fun _ => ?_) | refine BSpl.yes (by assumption) ?_ | refine BSpl.no (by assumption) ?_ | refine BSpl.mk (fun _ => ?_) (fun _ => ?_))
        conv => whnf
        exact AEqI.mk (AEq.refl _)
  · have h0 : l.length = 0 := by
      rcases Nat.eq_zero_or_pos l.length with h | h
      · exact h
      · exfalso
        have hin : topB (l.getD 0 default) l ∈ l := by
          rcases top_mem l (l.getD 0 default) with h' | h'
          · rw [h']
            rw [List.getD, List.getElem?_eq_getElem h]
            exact List.getElem_mem _
          · exact h'
        obtain ⟨i, hi, e⟩ := List.getElem_of_mem hin
        obtain ⟨k, hk, hlt⟩ := hall i (by omega)
        refine (top_max l (l.getD 0 default)).2 (l.getD k default) ?_ ?_
        · rw [List.getD, List.getElem?_eq_getElem hk]
          exact List.getElem_mem _
        · rw [← e]
          rw [List.getD, List.getElem?_eq_getElem hi] at hlt
          exact hlt
    rw [hemp h0]
    repeat' ((conv => whnf); first | refine Spl.yes (by first | assumption | omega) ?_ | refine Spl.no (by first | assumption | omega) ?_ | refine Wr.i64 (by omega) (by omega) ?_ | refine Still.mk rfl rfl ?_ | refine InB.mk (inB_mk (by omega) (by omega)) ?_ | refine Req.mk (by omega) ?_ | refine Req.mk ⟨by first | omega | (dsimp only; omega), by first | omega | (dsimp only; omega)⟩ ?_ | refine ARet.hdI ?_ | refine Spl.mk (fun _ => ?_) (fun _ => ?_) | refine Wr.b64 ?_ | refine Wr.bu64 ?_ | refine Wr.bu32 ?_ | refine Wr.bu8 ?_ | refine Wr.u8 (by omega) (by omega) ?_ | refine Wr.u64 (by omega) (by omega) ?_ | refine Wr.u32 (by omega) (by omega) ?_ | refine Dv.pos (by omega) (by omega) ?_ | refine Rm.pos (by omega) (by omega) ?_ | refine ADraw.quiet follows_ok (by kernel_rfl) rfl ?_ | refine ADraw.sched (id := 8) lay_ok (awp_snd lay_ok _) [(0, none), (1, none), (2, none), (3, none), (4, none), (5, none), (6, none), (7, none), (8, some [7, 3]), (9, none)] [(8, [7, 3]), (9, [7, 3])] follows_ok (by kernel_rfl) ?_ | refine BSpl.decY (by first | assumption | omega) ?_ | refine BSpl.decN (by first | assumption | omega) ?_ | refine BSpl.dec (fun _ => ?_) (fun _ => ?_) | refine BSpl.yes (by assumption) ?_ | refine BSpl.no (by assumption) ?_ | refine BSpl.mk (fun _ => ?_) (fun _ => ?_))
    conv => whnf
    exact AEqI.mk (AEq.refl _)
end Go.Proofs.Ytihjfndkgmjanaa
