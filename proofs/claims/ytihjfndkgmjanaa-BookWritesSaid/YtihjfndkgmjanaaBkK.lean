/-
  Whether there is an event of a kind, key, label and value: wrote.
-/
import Derived.Test.YtihjfndkgmjanaaBkJ
namespace Go.Proofs.Ytihjfndkgmjanaa
open Go.RowKit

def wroteP (e x : Ev) : Bool := decide (x.k = e.k) && (decide (x.key = e.key) && (decide (e.k = 1) || (decide (x.l = e.l) && decide (x.v = e.v))))
def wroteB (l : List Ev) (e : Ev) : Bool := l.any (wroteP e)
theorem getD_eq {l : List Ev} {j : Nat} : l.getD (j : Int).toNat default = l.getD j default := rfl

set_option maxHeartbeats 8000000 in
set_option maxRecDepth 100000 in
theorem wrote_spec (l : List Ev) (e : Ev) (hl : l.length ≤ 1000000000) :
    ASpec Try.prog 18 [.sl 12 l.length true (evF l), e.av] (.v (.bool (wroteB l e))) [] := by
  have hyes : ∀ j, j < l.length → wroteP e (l.getD j default) = true → wroteB l e = true := fun j hj h1 => any_get hj h1
  have hno : (∀ i, i < l.length → wroteP e (l.getD i default) = false) → wroteB l e = false := fun h => any_none h
  generalize wroteB l e = R at hyes hno
  dsimp only [Ev.av, Ev.cs]
  refine aspec_of lay_ok 140737488356475 Try.func18 rfl rfl rfl ?_
  repeat' ((conv => whnf); first | refine Spl.yes (by first | assumption | omega) ?_ | refine Spl.no (by first | assumption | omega) ?_ | refine Wr.i64 (by omega) (by omega) ?_ | refine Still.mk rfl rfl ?_ | refine InB.mk (inB_mk (by omega) (by omega)) ?_ | refine Req.mk (by omega) ?_ | refine Req.mk ⟨by first | omega | (dsimp only; omega), by first | omega | (dsimp only; omega)⟩ ?_ | refine ARet.hdI ?_ | refine Spl.mk (fun _ => ?_) (fun _ => ?_) | refine Wr.b64 ?_ | refine Wr.bu64 ?_ | refine Wr.bu32 ?_ | refine Wr.bu8 ?_ | refine Wr.u8 (by omega) (by omega) ?_ | refine Wr.u64 (by omega) (by omega) ?_ | refine Wr.u32 (by omega) (by omega) ?_ | refine Dv.pos (by omega) (by omega) ?_ | refine Rm.pos (by omega) (by omega) ?_ | refine ADraw.quiet follows_ok (by kernel_rfl) rfl ?_ | refine BSpl.decY (by first | assumption | omega) ?_ | refine BSpl.decN (by first | assumption | omega) ?_ | refine BSpl.dec (fun _ => ?_) (fun _ => ?_) | refine BSpl.yes (by assumption) ?_ | refine BSpl.no (by assumption) ?_ | refine BSpl.mk (fun _ => ?_) (fun _ => ?_))
  conv => whnf
  refine ALoop.mk { j : Nat // j ≤ l.length ∧ ∀ i, i < j → wroteP e (l.getD i default) = false } (fun j => ⟨[(0, .sl 12 l.length true (evF l)), (3, .box 0 0), (5, .v (.int .i64 (j.1 : Int)))],
      [(0, .box 32 e.cs)], [], 1⟩) (fun j => l.length - j.1) ⟨0, Nat.zero_le _, fun i h => absurd h (Nat.not_lt_zero i)⟩ _
    (LeR.mk' [] _ _ _ rfl ⟨AEq.refl _, AEq.refl _, AEq.int rfl, trivial⟩ ⟨⟨_, rfl, OEq.refl _⟩, trivial⟩ rfl) ?_
  rintro ⟨j, hj, hall⟩
  dsimp only
  by_cases hjl : j < l.length
  · have hyj := hyes j hjl
    have hnj : wroteP e (l.getD j default) = false → ∀ i, i < j + 1 → wroteP e (l.getD i default) = false := by
      intro h i hi
      rcases Nat.lt_or_ge i j with h' | h'
      · exact hall i h'
      · obtain rfl : i = j := by omega
        exact h
    rw [← getD_eq] at hyj hnj
    have hw : wroteP e (l.getD (j : Int).toNat default) = (decide ((l.getD (j : Int).toNat default).k = e.k) && (decide ((l.getD (j : Int).toNat default).key = e.key) && (decide (e.k = 1) || (decide ((l.getD (j : Int).toNat default).l = e.l) && decide ((l.getD (j : Int).toNat default).v = e.v))))) := rfl
    rw [hw] at hyj hnj
    clear hw hyes hno hall
    dsimp only [Ev.cs]
    repeat' ((conv => whnf); first | refine Spl.yes (by first | assumption | omega) ?_ | refine Spl.no (by first | assumption | omega) ?_ | refine Wr.i64 (by omega) (by omega) ?_ | refine Still.mk rfl rfl ?_ | refine InB.mk (inB_mk (by omega) (by omega)) ?_ | refine Req.mk (by omega) ?_ | refine Req.mk ⟨by first | omega | (dsimp only; omega), by first | omega | (dsimp only; omega)⟩ ?_ | refine ARet.hdI ?_ | refine Spl.mk (fun _ => ?_) (fun _ => ?_) | refine Wr.b64 ?_ | refine Wr.bu64 ?_ | refine Wr.bu32 ?_ | refine Wr.bu8 ?_ | refine Wr.u8 (by omega) (by omega) ?_ | refine Wr.u64 (by omega) (by omega) ?_ | refine Wr.u32 (by omega) (by omega) ?_ | refine Dv.pos (by omega) (by omega) ?_ | refine Rm.pos (by omega) (by omega) ?_ | refine ADraw.quiet follows_ok (by kernel_rfl) rfl ?_ | refine BSpl.decY (by first | assumption | omega) ?_ | refine BSpl.decN (by first | assumption | omega) ?_ | refine BSpl.dec (fun _ => ?_) (fun _ => ?_) | refine BSpl.yes (by assumption) ?_ | refine BSpl.no (by assumption) ?_ | refine BSpl.mk (fun _ => ?_) (fun _ => ?_))
    all_goals (conv => whnf)
    all_goals first
      | (rw [hyj (by generalize l.getD (j : Int).toNat default = x at *; simp [*])]; exact AEqI.mk (AEq.refl _))
      | exact ⟨⟨j + 1, hjl, hnj (by generalize l.getD (j : Int).toNat default = x at *; simp [*])⟩, _, LeR.mk' [] _ _ _ rfl ⟨AEq.refl _, AEq.refl _, AEq.int rfl, trivial⟩ ⟨⟨_, rfl, OEq.refl _⟩, trivial⟩ rfl, by show l.length - (j + 1) < l.length - j; omega⟩
  · rw [hno fun i hi => hall i (by omega)]
    dsimp only [Ev.cs]
    repeat' ((conv => whnf); first | refine Spl.yes (by first | assumption | omega) ?_ | refine Spl.no (by first | assumption | omega) ?_ | refine Wr.i64 (by omega) (by omega) ?_ | refine Still.mk rfl rfl ?_ | refine InB.mk (inB_mk (by omega) (by omega)) ?_ | refine Req.mk (by omega) ?_ | refine Req.mk ⟨by first | omega | (dsimp only; omega), by first | omega | (dsimp only; omega)⟩ ?_ | refine ARet.hdI ?_ | refine Spl.mk (fun _ => ?_) (fun _ => ?_) | refine Wr.b64 ?_ | refine Wr.bu64 ?_ | refine Wr.bu32 ?_ | refine Wr.bu8 ?_ | refine Wr.u8 (by omega) (by omega) ?_ | refine Wr.u64 (by omega) (by omega) ?_ | refine Wr.u32 (by omega) (by omega) ?_ | refine Dv.pos (by omega) (by omega) ?_ | refine Rm.pos (by omega) (by omega) ?_ | refine ADraw.quiet follows_ok (by kernel_rfl) rfl ?_ | refine BSpl.decY (by first | assumption | omega) ?_ | refine BSpl.decN (by first | assumption | omega) ?_ | refine BSpl.dec (fun _ => ?_) (fun _ => ?_) | refine BSpl.yes (by assumption) ?_ | refine BSpl.no (by assumption) ?_ | refine BSpl.mk (fun _ => ?_) (fun _ => ?_))
    conv => whnf
    exact AEqI.mk (AEq.refl _)
end Go.Proofs.Ytihjfndkgmjanaa
