/-
  The reference of layer 9: what is above what, who lives, what counts.
-/
import Derived.Test.YtihjfndkgmjanaaBkJ
import Derived.Test.YtihjfndkgmjanaaBkU
namespace Go.Proofs.Ytihjfndkgmjanaa
open Go.RowKit

theorem has3_spec (c : Clk) (r n : Int) : ASpec Try.prog 50 [c.av, .v (.int .i64 r), .v (.int .i64 n)] (.v (.bool (hasB c r n))) [] := by
  obtain ⟨c0, c1, c2, c3, c4⟩ := c
  dsimp only [Clk.av]
  by_cases hr : r = 0 ∨ r = 1 ∨ r = 2 ∨ r = 3 ∨ r = 4
  · rcases hr with rfl | rfl | rfl | rfl | rfl
    all_goals
      refine aspec_of lay_ok 79 Try.func50 rfl rfl rfl ?_
      repeat' ((conv => whnf); first | refine Spl.yes (by first | assumption | omega) ?_ | refine Spl.no (by first | assumption | omega) ?_ | refine Wr.i64 (by omega) (by omega) ?_ | refine Still.mk rfl rfl ?_ | refine InB.mk (inB_mk (by omega) (by omega)) ?_ | refine Req.mk (by omega) ?_ | refine Req.mk ⟨by first | omega | (dsimp only; omega), by first | omega | (dsimp only; omega)⟩ ?_ | refine ARet.hdI ?_ | refine Spl.mk (fun _ => ?_) (fun _ => ?_) | refine InA.mk (inB_mk (by omega) (by omega)) ?_ | refine Wr.b64 ?_ | refine Wr.bu64 ?_ | refine Wr.bu32 ?_ | refine Wr.bu8 ?_ | refine Wr.u8 (by omega) (by omega) ?_ | refine Wr.u64 (by omega) (by omega) ?_ | refine Wr.u32 (by omega) (by omega) ?_ | refine Dv.pos (by omega) (by omega) ?_ | refine Rm.pos (by omega) (by omega) ?_ | refine ADraw.quiet follows_ok (by kernel_rfl) rfl ?_ | refine BSpl.decY (by first | assumption | omega) ?_ | refine BSpl.decN (by first | assumption | omega) ?_ | refine BSpl.dec (fun _ => ?_) (fun _ => ?_) | refine BSpl.yes (by assumption) ?_ | refine BSpl.no (by assumption) ?_ | refine BSpl.mk (fun _ => ?_) (fun _ => ?_))
      all_goals (conv => whnf)
      all_goals (refine AEqI.mk (AEq.of ?_))
      all_goals simp [hasB, Clk.get, *]
  · have h : ¬ (0 ≤ r ∧ r < 5) := by omega
    refine aspec_of lay_ok 79 Try.func50 rfl rfl rfl ?_
    repeat' ((conv => whnf); first | refine Spl.yes (by first | assumption | omega) ?_ | refine Spl.no (by first | assumption | omega) ?_ | refine Wr.i64 (by omega) (by omega) ?_ | refine Still.mk rfl rfl ?_ | refine InB.mk (inB_mk (by omega) (by omega)) ?_ | refine Req.mk (by omega) ?_ | refine Req.mk ⟨by first | omega | (dsimp only; omega), by first | omega | (dsimp only; omega)⟩ ?_ | refine ARet.hdI ?_ | refine Spl.mk (fun _ => ?_) (fun _ => ?_) | refine InA.mk (inB_mk (by omega) (by omega)) ?_ | refine Wr.b64 ?_ | refine Wr.bu64 ?_ | refine Wr.bu32 ?_ | refine Wr.bu8 ?_ | refine Wr.u8 (by omega) (by omega) ?_ | refine Wr.u64 (by omega) (by omega) ?_ | refine Wr.u32 (by omega) (by omega) ?_ | refine Dv.pos (by omega) (by omega) ?_ | refine Rm.pos (by omega) (by omega) ?_ | refine ADraw.quiet follows_ok (by kernel_rfl) rfl ?_ | refine BSpl.decY (by first | assumption | omega) ?_ | refine BSpl.decN (by first | assumption | omega) ?_ | refine BSpl.dec (fun _ => ?_) (fun _ => ?_) | refine BSpl.yes (by assumption) ?_ | refine BSpl.no (by assumption) ?_ | refine BSpl.mk (fun _ => ?_) (fun _ => ?_))
    all_goals (conv => whnf)
    all_goals (refine AEqI.mk (AEq.of ?_))
    all_goals (simp [hasB]; try omega)
theorem below6_spec (a b : Ev) : ASpec Try.prog 60 [a.av, b.av] (.v (.bool (belowB a b))) [] := by
  have h := has3_spec b.c a.r a.n
  obtain ⟨q, hq⟩ : ∃ q, hasB b.c a.r a.n = q := ⟨_, rfl⟩
  rw [hq] at h
  rw [show belowB a b = q from hq]
  dsimp only [Ev.av, Ev.cs, Clk.av] at h ⊢
  refine aspec_of lay_ok 31 Try.func60 rfl rfl rfl ?_
  repeat' ((conv => whnf); first | refine Spl.yes (by first | assumption | omega) ?_ | refine Spl.no (by first | assumption | omega) ?_ | refine Wr.i64 (by omega) (by omega) ?_ | refine Still.mk rfl rfl ?_ | refine InB.mk (inB_mk (by omega) (by omega)) ?_ | refine Req.mk (by omega) ?_ | refine Req.mk ⟨by first | omega | (dsimp only; omega), by first | omega | (dsimp only; omega)⟩ ?_ | refine ACall.plain _ _ (h) (SubL.cons (.eq _) (SubL.cons (.eq _) (SubL.cons (.eq _) .nil))) rfl ?_ | refine ARet.hdI ?_ | refine Spl.mk (fun _ => ?_) (fun _ => ?_) | refine InA.mk (inB_mk (by omega) (by omega)) ?_ | refine Wr.b64 ?_ | refine Wr.bu64 ?_ | refine Wr.bu32 ?_ | refine Wr.bu8 ?_ | refine Wr.u8 (by omega) (by omega) ?_ | refine Wr.u64 (by omega) (by omega) ?_ | refine Wr.u32 (by omega) (by omega) ?_ | refine Dv.pos (by omega) (by omega) ?_ | refine Rm.pos (by omega) (by omega) ?_ | refine ADraw.quiet follows_ok (by kernel_rfl) rfl ?_ | refine BSpl.decY (by first | assumption | omega) ?_ | refine BSpl.decN (by first | assumption | omega) ?_ | refine BSpl.dec (fun _ => ?_) (fun _ => ?_) | refine BSpl.yes (by assumption) ?_ | refine BSpl.no (by assumption) ?_ | refine BSpl.mk (fun _ => ?_) (fun _ => ?_))
  all_goals (conv => whnf)
  all_goals (refine AEqI.mk (AEq.of ?_))
  all_goals simp [*]

def abvP (kind : Int) (lb vl : Bool) (e x : Ev) : Bool := belowB e x && (decide (x.k = kind) && (decide (x.key = e.key) && ((!lb || decide (x.l = e.l)) && (!vl || decide (x.v = e.v)))))
def abvB (l : List Ev) (e : Ev) (kind : Int) (lb vl : Bool) : Bool := l.any (abvP kind lb vl e)

set_option maxHeartbeats 8000000 in
set_option maxRecDepth 100000 in
theorem aboveR_spec (l : List Ev) (e : Ev) (kind : Int) (lb vl : Bool) (hl : l.length ≤ 1000000000) :
    ASpec Try.prog 45 [.sl 12 l.length true (evF l), e.av, .v (.int .i64 kind), .v (.bool lb), .v (.bool vl)] (.v (.bool (abvB l e kind lb vl))) [] := by
  have hyes : ∀ j, j < l.length → abvP kind lb vl e (l.getD j default) = true → abvB l e kind lb vl = true := fun j hj h1 => any_get hj h1
  have hno : (∀ i, i < l.length → abvP kind lb vl e (l.getD i default) = false) → abvB l e kind lb vl = false := fun h => any_none h
  generalize abvB l e kind lb vl = R at hyes hno
  dsimp only [Ev.av, Ev.cs]
  refine aspec_of lay_ok 4611686018427534431 Try.func45 rfl rfl rfl ?_
  repeat' ((conv => whnf); first | refine Spl.yes (by first | assumption | omega) ?_ | refine Spl.no (by first | assumption | omega) ?_ | refine Wr.i64 (by omega) (by omega) ?_ | refine Still.mk rfl rfl ?_ | refine InB.mk (inB_mk (by omega) (by omega)) ?_ | refine Req.mk (by omega) ?_ | refine Req.mk ⟨by first | omega | (dsimp only; omega), by first | omega | (dsimp only; omega)⟩ ?_ | refine ARet.hdI ?_ | refine Spl.mk (fun _ => ?_) (fun _ => ?_) | refine InA.mk (inB_mk (by omega) (by omega)) ?_ | refine Wr.b64 ?_ | refine Wr.bu64 ?_ | refine Wr.bu32 ?_ | refine Wr.bu8 ?_ | refine Wr.u8 (by omega) (by omega) ?_ | refine Wr.u64 (by omega) (by omega) ?_ | refine Wr.u32 (by omega) (by omega) ?_ | refine Dv.pos (by omega) (by omega) ?_ | refine Rm.pos (by omega) (by omega) ?_ | refine ADraw.quiet follows_ok (by kernel_rfl) rfl ?_ | refine BSpl.decY (by first | assumption | omega) ?_ | refine BSpl.decN (by first | assumption | omega) ?_ | refine BSpl.dec (fun _ => ?_) (fun _ => ?_) | refine BSpl.yes (by assumption) ?_ | refine BSpl.no (by assumption) ?_ | refine BSpl.mk (fun _ => ?_) (fun _ => ?_))
  conv => whnf
  refine ALoop.mk { j : Nat // j ≤ l.length ∧ ∀ i, i < j → abvP kind lb vl e (l.getD i default) = false } (fun j => ⟨[(0, .sl 12 l.length true (evF l)), (2, .v (.int .i64 kind)), (3, .v (.bool lb)), (4, .v (.bool vl)), (6, .box 0 0), (11, .v (.int .i64 (j.1 : Int)))],
      [(0, .box 32 e.cs)], [], 1⟩) (fun j => l.length - j.1) ⟨0, Nat.zero_le _, fun i h => absurd h (Nat.not_lt_zero i)⟩ _
    (LeR.mk' [] _ _ _ rfl ⟨AEq.refl _, AEq.refl _, AEq.refl _, AEq.refl _, AEq.refl _, AEq.int rfl, trivial⟩ ⟨⟨_, rfl, OEq.refl _⟩, trivial⟩ rfl) ?_
  rintro ⟨j, hj, hall⟩
  dsimp only
  by_cases hjl : j < l.length
  · have hyj := hyes j hjl
    have hnj : abvP kind lb vl e (l.getD j default) = false → ∀ i, i < j + 1 → abvP kind lb vl e (l.getD i default) = false := by
      intro h i hi
      rcases Nat.lt_or_ge i j with h' | h'
      · exact hall i h'
      · obtain rfl : i = j := by omega
        exact h
    have hb := below6_spec e (l.getD (j : Int).toNat default)
    have hw : abvP kind lb vl e (l.getD j default) = (belowB e (l.getD (j : Int).toNat default) && (decide ((l.getD (j : Int).toNat default).k = kind) && (decide ((l.getD (j : Int).toNat default).key = e.key) && ((!lb || decide ((l.getD (j : Int).toNat default).l = e.l)) && (!vl || decide ((l.getD (j : Int).toNat default).v = e.v)))))) := rfl
    rw [hw] at hyj hnj
    generalize belowB e (l.getD (j : Int).toNat default) = q at hb hyj hnj
    clear hw hyes hno hall
    dsimp only [Ev.av, Ev.cs] at hb ⊢
    repeat' ((conv => whnf); first | refine Spl.yes (by first | assumption | omega) ?_ | refine Spl.no (by first | assumption | omega) ?_ | refine Wr.i64 (by omega) (by omega) ?_ | refine Still.mk rfl rfl ?_ | refine InB.mk (inB_mk (by omega) (by omega)) ?_ | refine Req.mk (by omega) ?_ | refine Req.mk ⟨by first | omega | (dsimp only; omega), by first | omega | (dsimp only; omega)⟩ ?_ | refine ACall.plain _ _ (hb) (SubL.cons (.eq _) (SubL.cons (.eq _) .nil)) rfl ?_ | refine ARet.hdI ?_ | refine Spl.mk (fun _ => ?_) (fun _ => ?_) | refine InA.mk (inB_mk (by omega) (by omega)) ?_ | refine Wr.b64 ?_ | refine Wr.bu64 ?_ | refine Wr.bu32 ?_ | refine Wr.bu8 ?_ | refine Wr.u8 (by omega) (by omega) ?_ | refine Wr.u64 (by omega) (by omega) ?_ | refine Wr.u32 (by omega) (by omega) ?_ | refine Dv.pos (by omega) (by omega) ?_ | refine Rm.pos (by omega) (by omega) ?_ | refine ADraw.quiet follows_ok (by kernel_rfl) rfl ?_ | refine BSpl.decY (by first | assumption | omega) ?_ | refine BSpl.decN (by first | assumption | omega) ?_ | refine BSpl.dec (fun _ => ?_) (fun _ => ?_) | refine BSpl.yes (by assumption) ?_ | refine BSpl.no (by assumption) ?_ | refine BSpl.mk (fun _ => ?_) (fun _ => ?_))
    all_goals (conv => whnf)
    all_goals (clear hb)
    all_goals first
      | (rw [hyj (by generalize l.getD (j : Int).toNat default = x at *; simp [*])]; exact AEqI.mk (AEq.refl _))
      | exact ⟨⟨j + 1, hjl, hnj (by generalize l.getD (j : Int).toNat default = x at *; simp [*])⟩, _, LeR.mk' [] _ _ _ rfl ⟨AEq.refl _, AEq.refl _, AEq.refl _, AEq.refl _, AEq.refl _, AEq.int rfl, trivial⟩ ⟨⟨_, rfl, OEq.refl _⟩, trivial⟩ rfl, Nat.sub_succ_lt_self _ _ hjl⟩
  · rw [hno fun i hi => hall i (by omega)]
    dsimp only [Ev.cs]
    repeat' ((conv => whnf); first | refine Spl.yes (by first | assumption | omega) ?_ | refine Spl.no (by first | assumption | omega) ?_ | refine Wr.i64 (by omega) (by omega) ?_ | refine Still.mk rfl rfl ?_ | refine InB.mk (inB_mk (by omega) (by omega)) ?_ | refine Req.mk (by omega) ?_ | refine Req.mk ⟨by first | omega | (dsimp only; omega), by first | omega | (dsimp only; omega)⟩ ?_ | refine ARet.hdI ?_ | refine Spl.mk (fun _ => ?_) (fun _ => ?_) | refine InA.mk (inB_mk (by omega) (by omega)) ?_ | refine Wr.b64 ?_ | refine Wr.bu64 ?_ | refine Wr.bu32 ?_ | refine Wr.bu8 ?_ | refine Wr.u8 (by omega) (by omega) ?_ | refine Wr.u64 (by omega) (by omega) ?_ | refine Wr.u32 (by omega) (by omega) ?_ | refine Dv.pos (by omega) (by omega) ?_ | refine Rm.pos (by omega) (by omega) ?_ | refine ADraw.quiet follows_ok (by kernel_rfl) rfl ?_ | refine BSpl.decY (by first | assumption | omega) ?_ | refine BSpl.decN (by first | assumption | omega) ?_ | refine BSpl.dec (fun _ => ?_) (fun _ => ?_) | refine BSpl.yes (by assumption) ?_ | refine BSpl.no (by assumption) ?_ | refine BSpl.mk (fun _ => ?_) (fun _ => ?_))
    conv => whnf
    exact AEqI.mk (AEq.refl _)
theorem any_congr {α : Type} {p q : α → Bool} : ∀ {l : List α}, (∀ x ∈ l, p x = q x) → l.any p = l.any q
  | [], _ => rfl
  | x :: l, h => by rw [List.any_cons, List.any_cons, h x List.mem_cons_self, any_congr fun y hy => h y (List.mem_cons_of_mem _ hy)]
theorem abv_K (l : List Ev) (e : Ev) (k : Int) : abvB l e k false false = aboveB k sameK l e := any_congr fun x _ => by
  unfold abvP sameK
  cases belowB e x <;> simp
theorem abv_L (l : List Ev) (e : Ev) (k : Int) : abvB l e k true false = aboveB k sameL l e := any_congr fun x _ => by
  unfold abvP sameL sameK
  cases belowB e x <;> simp
theorem abv_V (l : List Ev) (e : Ev) (k : Int) : abvB l e k true true = aboveB k sameV l e := any_congr fun x _ => by
  unfold abvP sameV sameL sameK
  cases belowB e x <;> simp [Bool.and_assoc]

theorem livesR_spec (l : List Ev) (e : Ev) (hl : l.length ≤ 1000000000) : ASpec Try.prog 41 [.sl 12 l.length true (evF l), e.av] (.v (.bool (livesB l e))) [] := by
  have h := aboveR_spec l e 2 false false hl
  rw [abv_K] at h
  have hL : livesB l e = (decide (e.k = 1) && !aboveB 2 sameK l e) := rfl
  rw [hL]
  generalize aboveB 2 sameK l e = q at h
  dsimp only [Ev.av, Ev.cs] at h ⊢
  refine aspec_of lay_ok 27 Try.func41 rfl rfl rfl ?_
  repeat' ((conv => whnf); first | refine Spl.yes (by first | assumption | omega) ?_ | refine Spl.no (by first | assumption | omega) ?_ | refine Wr.i64 (by omega) (by omega) ?_ | refine Still.mk rfl rfl ?_ | refine InB.mk (inB_mk (by omega) (by omega)) ?_ | refine Req.mk (by omega) ?_ | refine Req.mk ⟨by first | omega | (dsimp only; omega), by first | omega | (dsimp only; omega)⟩ ?_ | refine ACall.plain _ _ (h) (SubL.cons (.eq _) (SubL.cons (.eq _) (SubL.cons (.eq _) (SubL.cons (.eq _) (SubL.cons (.eq _) .nil))))) rfl ?_ | refine ARet.hdI ?_ | refine Spl.mk (fun _ => ?_) (fun _ => ?_) | refine InA.mk (inB_mk (by omega) (by omega)) ?_ | refine Wr.b64 ?_ | refine Wr.bu64 ?_ | refine Wr.bu32 ?_ | refine Wr.bu8 ?_ | refine Wr.u8 (by omega) (by omega) ?_ | refine Wr.u64 (by omega) (by omega) ?_ | refine Wr.u32 (by omega) (by omega) ?_ | refine Dv.pos (by omega) (by omega) ?_ | refine Rm.pos (by omega) (by omega) ?_ | refine ADraw.quiet follows_ok (by kernel_rfl) rfl ?_ | refine BSpl.decY (by first | assumption | omega) ?_ | refine BSpl.decN (by first | assumption | omega) ?_ | refine BSpl.dec (fun _ => ?_) (fun _ => ?_) | refine BSpl.yes (by assumption) ?_ | refine BSpl.no (by assumption) ?_ | refine BSpl.mk (fun _ => ?_) (fun _ => ?_))
  all_goals (conv => whnf)
  all_goals (refine AEqI.mk (AEq.of ?_))
  all_goals simp [*]
end Go.Proofs.Ytihjfndkgmjanaa
