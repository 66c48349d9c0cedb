/-
  How much there is to keep: book.Size.
-/
import Derived.Test.YtihjfndkgmjanaaBkI
namespace Go.Proofs.Ytihjfndkgmjanaa
open Go.RowKit

def laterB (l : List Ev) (e : Ev) : Bool := aboveB e.k (if e.k = 4 then sameV else sameL) l e
def sizeB (l : List Ev) : Nat := (livingB l).length + ((countingB l (livingB l)).filter fun e => !laterB l e).length

theorem later_add {l : List Ev} {e : Ev} (h : e.k = 4) : laterB l e = aboveB 4 sameV l e := by rw [laterB, if_pos h, h]
theorem later_set {l : List Ev} {e : Ev} (h : ¬ e.k = 4) : laterB l e = aboveB e.k sameL l e := by rw [laterB, if_neg h]
theorem filter_takeN {p : Ev → Bool} {l : List Ev} {j : Nat} (hj : j < l.length) : ((l.take (j + 1)).filter p).length = ((l.take j).filter p).length + (if p (l.getD (j : Int).toNat default) = true then 1 else 0) := by
  rw [filter_take hj, List.length_append]
  show _ = _ + (if p (l.getD j default) = true then 1 else 0)
  split <;> rfl

set_option maxHeartbeats 8000000 in
set_option maxRecDepth 100000 in
theorem size_spec (l : List Ev) (hl : l.length ≤ 1000000000) :
    ASpec Try.prog 17 [.sl 12 l.length true (evF l)] (.v (.int .i64 (sizeB l : Int))) [] := by
  have hliv := living_spec l hl
  have hcl : (livingB l).length ≤ l.length := List.length_filter_le ..
  have hcou := counting_spec l (livingB l) hl (by omega)
  have hwl : (countingB l (livingB l)).length ≤ l.length := List.length_filter_le ..
  have hof : sizeB l = (livingB l).length + ((countingB l (livingB l)).filter fun e => !laterB l e).length := rfl
  generalize sizeB l = O at hof ⊢
  generalize countingB l (livingB l) = ws at hcou hwl hof
  generalize livingB l = C at hliv hcl hcou hof
  refine aspec_of lay_ok 2181284061 Try.func17 rfl rfl rfl ?_
  repeat' ((conv => whnf); first | refine Spl.yes (by first | assumption | omega) ?_ | refine Spl.no (by first | assumption | omega) ?_ | refine Wr.i64 (by omega) (by omega) ?_ | refine Still.mk rfl rfl ?_ | refine InB.mk (inB_mk (by omega) (by omega)) ?_ | refine Req.mk (by omega) ?_ | refine Req.mk ⟨by first | omega | (dsimp only; omega), by first | omega | (dsimp only; omega)⟩ ?_ | refine ACall.plain _ _ (hliv) (SubL.cons (.eq _) .nil) rfl ?_ | refine ACall.plain _ _ (hcou) (SubL.cons (.eq _) (SubL.cons (.eq _) .nil)) rfl ?_ | refine ARet.hdI ?_ | refine Spl.mk (fun _ => ?_) (fun _ => ?_) | refine InA.mk (inB_mk (by omega) (by omega)) ?_ | refine Wr.b64 ?_ | refine Wr.bu64 ?_ | refine Wr.bu32 ?_ | refine Wr.bu8 ?_ | refine Wr.u8 (by omega) (by omega) ?_ | refine Wr.u64 (by omega) (by omega) ?_ | refine Wr.u32 (by omega) (by omega) ?_ | refine Dv.pos (by omega) (by omega) ?_ | refine Rm.pos (by omega) (by omega) ?_ | refine ADraw.quiet follows_ok (by kernel_rfl) rfl ?_ | refine BSpl.decY (by first | assumption | omega) ?_ | refine BSpl.decN (by first | assumption | omega) ?_ | refine BSpl.dec (fun _ => ?_) (fun _ => ?_) | refine BSpl.yes (by assumption) ?_ | refine BSpl.no (by assumption) ?_ | refine BSpl.mk (fun _ => ?_) (fun _ => ?_))
  conv => whnf
  refine ALoop.mk { j : Nat // j ≤ ws.length } (fun j => ⟨[(0, .sl 12 l.length true (evF l)), (4, .v (.int .i64 ((C.length + ((ws.take j.1).filter fun e => !laterB l e).length : Nat) : Int))), (14, .sl 12 ws.length true (evF ws)), (15, .v (.int .i64 (ws.length : Int))), (16, .v (.int .i64 (j.1 : Int)))],
      [], [], 0⟩) (fun j => ws.length - j.1) ⟨0, Nat.zero_le _⟩ _
    (LeR.mk' [] _ _ _ rfl ⟨AEq.refl _, AEq.int (by simp), AEq.refl _, AEq.int rfl, AEq.int rfl, trivial⟩ trivial rfl) ?_
  rintro ⟨j, hj⟩
  dsimp only
  have hkl : ((ws.take j).filter fun e => !laterB l e).length ≤ j := by
    have := List.length_filter_le (fun e => !laterB l e) (ws.take j)
    rw [List.length_take] at this
    omega
  by_cases hjl : j < ws.length
  · have hft := filter_takeN (p := fun e => !laterB l e) hjl
    generalize ((ws.take j).filter fun e => !laterB l e).length = n at hft hkl ⊢
    have ha4 := above_spec 4 39 sameV sameV_spec l (ws.getD (j : Int).toNat default) (by omega)
    have ha3 := above_spec (ws.getD (j : Int).toNat default).k 38 sameL sameL_spec l (ws.getD (j : Int).toNat default) (by omega)
    by_cases hk : (ws.getD (j : Int).toNat default).k = 4
    · have hq := later_add (l := l) hk
      generalize aboveB 4 sameV l (ws.getD (j : Int).toNat default) = q at ha4 hq
      rw [hq] at hft
      rw [← hk] at ha4
      clear ha3
      have t1 : q = true → ((C.length + n : Nat) : Int) = ((C.length + ((ws.take (j + 1)).filter fun e => !laterB l e).length : Nat) : Int) := fun h => by rw [hft, h]; rfl
      have t2 : q = false → ((C.length + n : Nat) : Int) + 1 = ((C.length + ((ws.take (j + 1)).filter fun e => !laterB l e).length : Nat) : Int) := fun h => by rw [hft, h]; rfl
      clear hft hq
      dsimp only [Ev.av, Ev.cs] at ha4 ⊢
      repeat' ((conv => whnf); first | refine Spl.yes (by first | assumption | omega) ?_ | refine Spl.no (by first | assumption | omega) ?_ | refine Wr.i64 (by omega) (by omega) ?_ | refine Still.mk rfl rfl ?_ | refine InB.mk (inB_mk (by omega) (by omega)) ?_ | refine Req.mk (by omega) ?_ | refine Req.mk ⟨by first | omega | (dsimp only; omega), by first | omega | (dsimp only; omega)⟩ ?_ | refine ACall.plain _ _ (ha4) (SubL.cons (.eq _) (SubL.cons (.eq _) (SubL.cons (.eq _) .nil))) rfl ?_ | refine ARet.hdI ?_ | refine Spl.mk (fun _ => ?_) (fun _ => ?_) | refine InA.mk (inB_mk (by omega) (by omega)) ?_ | refine Wr.b64 ?_ | refine Wr.bu64 ?_ | refine Wr.bu32 ?_ | refine Wr.bu8 ?_ | refine Wr.u8 (by omega) (by omega) ?_ | refine Wr.u64 (by omega) (by omega) ?_ | refine Wr.u32 (by omega) (by omega) ?_ | refine Dv.pos (by omega) (by omega) ?_ | refine Rm.pos (by omega) (by omega) ?_ | refine ADraw.quiet follows_ok (by kernel_rfl) rfl ?_ | refine BSpl.decY (by first | assumption | omega) ?_ | refine BSpl.decN (by first | assumption | omega) ?_ | refine BSpl.dec (fun _ => ?_) (fun _ => ?_) | refine BSpl.yes (by assumption) ?_ | refine BSpl.no (by assumption) ?_ | refine BSpl.mk (fun _ => ?_) (fun _ => ?_))
      all_goals (conv => whnf)
      all_goals exact ⟨⟨j + 1, hjl⟩, _, LeR.mk' [] _ _ _ rfl ⟨AEq.refl _, AEq.int (by first | exact t1 (by assumption) | exact t2 (by assumption)), AEq.refl _, AEq.int rfl, AEq.int rfl, trivial⟩ trivial rfl, by show ws.length - (j + 1) < ws.length - j; omega⟩
    · have hq := later_set (l := l) hk
      generalize aboveB (ws.getD (j : Int).toNat default).k sameL l (ws.getD (j : Int).toNat default) = q at ha3 hq
      rw [hq] at hft
      clear ha4
      have t1 : q = true → ((C.length + n : Nat) : Int) = ((C.length + ((ws.take (j + 1)).filter fun e => !laterB l e).length : Nat) : Int) := fun h => by rw [hft, h]; rfl
      have t2 : q = false → ((C.length + n : Nat) : Int) + 1 = ((C.length + ((ws.take (j + 1)).filter fun e => !laterB l e).length : Nat) : Int) := fun h => by rw [hft, h]; rfl
      clear hft hq
      dsimp only [Ev.av, Ev.cs] at ha3 ⊢
      repeat' ((conv => whnf); first | refine Spl.yes (by first | assumption | omega) ?_ | refine Spl.no (by first | assumption | omega) ?_ | refine Wr.i64 (by omega) (by omega) ?_ | refine Still.mk rfl rfl ?_ | refine InB.mk (inB_mk (by omega) (by omega)) ?_ | refine Req.mk (by omega) ?_ | refine Req.mk ⟨by first | omega | (dsimp only; omega), by first | omega | (dsimp only; omega)⟩ ?_ | refine ACall.plain _ _ (ha3) (SubL.cons (.eq _) (SubL.cons (.eq _) (SubL.cons (.eq _) .nil))) rfl ?_ | refine ARet.hdI ?_ | refine Spl.mk (fun _ => ?_) (fun _ => ?_) | refine InA.mk (inB_mk (by omega) (by omega)) ?_ | refine Wr.b64 ?_ | refine Wr.bu64 ?_ | refine Wr.bu32 ?_ | refine Wr.bu8 ?_ | refine Wr.u8 (by omega) (by omega) ?_ | refine Wr.u64 (by omega) (by omega) ?_ | refine Wr.u32 (by omega) (by omega) ?_ | refine Dv.pos (by omega) (by omega) ?_ | refine Rm.pos (by omega) (by omega) ?_ | refine ADraw.quiet follows_ok (by kernel_rfl) rfl ?_ | refine BSpl.decY (by first | assumption | omega) ?_ | refine BSpl.decN (by first | assumption | omega) ?_ | refine BSpl.dec (fun _ => ?_) (fun _ => ?_) | refine BSpl.yes (by assumption) ?_ | refine BSpl.no (by assumption) ?_ | refine BSpl.mk (fun _ => ?_) (fun _ => ?_))
      all_goals (conv => whnf)
      all_goals exact ⟨⟨j + 1, hjl⟩, _, LeR.mk' [] _ _ _ rfl ⟨AEq.refl _, AEq.int (by first | exact t1 (by assumption) | exact t2 (by assumption)), AEq.refl _, AEq.int rfl, AEq.int rfl, trivial⟩ trivial rfl, by show ws.length - (j + 1) < ws.length - j; omega⟩
  · rw [List.take_of_length_le (show ws.length ≤ j by omega)]
    rw [hof]
    repeat' ((conv => whnf); first | refine Spl.yes (by first | assumption | omega) ?_ | refine Spl.no (by first | assumption | omega) ?_ | refine Wr.i64 (by omega) (by omega) ?_ | refine Still.mk rfl rfl ?_ | refine InB.mk (inB_mk (by omega) (by omega)) ?_ | refine Req.mk (by omega) ?_ | refine Req.mk ⟨by first | omega | (dsimp only; omega), by first | omega | (dsimp only; omega)⟩ ?_ | refine ARet.hdI ?_ | refine Spl.mk (fun _ => ?_) (fun _ => ?_) | refine InA.mk (inB_mk (by omega) (by omega)) ?_ | refine Wr.b64 ?_ | refine Wr.bu64 ?_ | refine Wr.bu32 ?_ | refine Wr.bu8 ?_ | refine Wr.u8 (by omega) (by omega) ?_ | refine Wr.u64 (by omega) (by omega) ?_ | refine Wr.u32 (by omega) (by omega) ?_ | refine Dv.pos (by omega) (by omega) ?_ | refine Rm.pos (by omega) (by omega) ?_ | refine ADraw.quiet follows_ok (by kernel_rfl) rfl ?_ | refine BSpl.decY (by first | assumption | omega) ?_ | refine BSpl.decN (by first | assumption | omega) ?_ | refine BSpl.dec (fun _ => ?_) (fun _ => ?_) | refine BSpl.yes (by assumption) ?_ | refine BSpl.no (by assumption) ?_ | refine BSpl.mk (fun _ => ?_) (fun _ => ?_))
    conv => whnf
    exact AEqI.mk (AEq.refl _)
end Go.Proofs.Ytihjfndkgmjanaa
