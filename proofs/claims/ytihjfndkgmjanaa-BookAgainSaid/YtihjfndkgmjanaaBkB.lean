/-
  Whether one of some events is above, or below, another one.
-/
import Derived.Test.YtihjfndkgmjanaaBkA
namespace Go.Proofs.Ytihjfndkgmjanaa
open Go.RowKit

theorem BackLe.none : ∀ fs : List (List (Nat × AV)), BackLe fs (fs.map fun _ => [])
  | [] => trivial
  | _ :: fs => ⟨fun _ => .inl rfl, BackLe.none fs⟩
/-- A state that says nothing of the frames behind. -/
theorem LeR.mkB {st : AS} (σ : List (Nat × Nat)) (l : List (Nat × AV)) (h : List (Nat × AO)) (b : Nat) (nd : nodupB (σ.map (·.2)) = true) (ht : LeT (st.ren σ) l) (hh : LeH (st.ren σ) h) (hn : nodupB (h.map (·.1)) = true) : LeR σ st ⟨l, h, (st.ren σ).back.map fun _ => [], b⟩ :=
  ⟨nd, let k := LeS.mk' l h ht hh hn; ⟨k.tm, k.hp, k.nd, BackLe.none _⟩⟩
theorem any_get {α : Type} [Inhabited α] {p : α → Bool} {l : List α} {j : Nat} (hj : j < l.length) (h : p (l.getD j default) = true) : l.any p = true := by
  rw [List.any_eq_true]
  refine ⟨l.getD j default, ?_, h⟩
  rw [List.getD, List.getElem?_eq_getElem hj]
  exact List.getElem_mem _
theorem any_none {α : Type} [Inhabited α] {p : α → Bool} {l : List α} (h : ∀ i, i < l.length → p (l.getD i default) = false) : l.any p = false := by
  rw [List.any_eq_false]
  intro x hx
  obtain ⟨i, hi, rfl⟩ := List.getElem_of_mem hx
  have := h i hi
  rw [List.getD, List.getElem?_eq_getElem hi] at this
  simpa using this

set_option maxHeartbeats 4000000 in
set_option maxRecDepth 100000 in
theorem above_spec (k : Int) (g : FuncId) (same : Ev → Ev → Bool) (hs : ∀ a b, ASpec Try.prog g [a.av, b.av] (.v (.bool (same a b))) []) (l : List Ev) (e : Ev) (hl : l.length ≤ 140737488355328) :
    ASpec Try.prog 40 [.agg [.v (.int .i64 k), .v (.func (.func g) #[] #[])], .sl 12 l.length true (evF l), e.av] (.v (.bool (aboveB k same l e))) [] := by
  have hyes : ∀ j, j < l.length → (l.getD j default).k = k → same (l.getD j default) e = true → belowB e (l.getD j default) = true → aboveB k same l e = true := fun j hj h1 h2 h3 => any_get hj (by rw [h1, h2, h3]; simp)
  have hno : (∀ i, i < l.length → (decide ((l.getD i default).k = k) && (same (l.getD i default) e && belowB e (l.getD i default))) = false) → aboveB k same l e = false := fun h => any_none h
  generalize aboveB k same l e = R at hyes hno
  dsimp only [Ev.av]
  dsimp only [Ev.cs]
  refine aspec_of lay_ok 111 Try.func40 rfl rfl rfl ?_
  repeat' ((conv => whnf); first | refine Spl.yes (by first | assumption | omega) ?_ | refine Spl.no (by first | assumption | omega) ?_ | refine Wr.i64 (by omega) (by omega) ?_ | refine Still.mk rfl rfl ?_ | refine InB.mk (inB_mk (by omega) (by omega)) ?_ | refine Req.mk (by omega) ?_ | refine Req.mk ⟨by first | omega | (dsimp only; omega), by first | omega | (dsimp only; omega)⟩ ?_ | refine ACall.into 19 _ _ Try.func57 rfl rfl rfl ?_ | refine ACall.into 66483 _ _ Try.func75 rfl rfl rfl ?_ | refine ARet.hdI ?_ | refine Spl.mk (fun _ => ?_) (fun _ => ?_) | refine InA.mk (inB_mk (by omega) (by omega)) ?_ | refine Wr.b64 ?_ | refine Wr.bu64 ?_ | refine Wr.bu32 ?_ | refine Wr.bu8 ?_ | refine Wr.u8 (by omega) (by omega) ?_ | refine Wr.u64 (by omega) (by omega) ?_ | refine Wr.u32 (by omega) (by omega) ?_ | refine Dv.pos (by omega) (by omega) ?_ | refine Rm.pos (by omega) (by omega) ?_ | refine ADraw.quiet follows_ok (by kernel_rfl) rfl ?_ | refine BSpl.decY (by first | assumption | omega) ?_ | refine BSpl.decN (by first | assumption | omega) ?_ | refine BSpl.dec (fun _ => ?_) (fun _ => ?_) | refine BSpl.yes (by assumption) ?_ | refine BSpl.no (by assumption) ?_ | refine BSpl.mk (fun _ => ?_) (fun _ => ?_))
  conv => whnf
  refine ALoop.mk { j : Nat // j ≤ l.length ∧ ∀ i, i < j → (decide ((l.getD i default).k = k) && (same (l.getD i default) e && belowB e (l.getD i default))) = false } (fun j => ⟨[(8, .v (.int .i64 (j.1 : Int))), (7, .v (.int .i64 (l.length : Int))), (0, .sl 12 l.length true (evF l)), (1, .fn 58 [.box 0 0, .box 1 0])],
      [(1, .box 32 e.cs), (0, .box 73 [.v (.int .i64 k), .v (.func (.func g) #[] #[])])], [[], []], 2⟩) (fun j => l.length - j.1) ⟨0, Nat.zero_le _, fun i h => absurd h (Nat.not_lt_zero i)⟩ _
    (LeR.mkB [] _ _ _ rfl ⟨AEq.int rfl, AEq.refl _, AEq.refl _, AEq.refl _, trivial⟩ ⟨⟨_, rfl, OEq.refl _⟩, ⟨_, rfl, OEq.refl _⟩, trivial⟩ rfl) ?_
  rintro ⟨j, hj, hall⟩
  dsimp only
  by_cases hjl : j < l.length
  · have hsj := hs (l.getD (j : Int).toNat default) e
    have hbj := below_spec e (l.getD (j : Int).toNat default)
    have hyj := hyes j hjl
    rw [show j = (j : Int).toNat by omega] at hyj
    have hnj : (decide ((l.getD (j : Int).toNat default).k = k) && (same (l.getD (j : Int).toNat default) e && belowB e (l.getD (j : Int).toNat default))) = false → ∀ i, i < j + 1 → (decide ((l.getD i default).k = k) && (same (l.getD i default) e && belowB e (l.getD i default))) = false := by
      intro h i hi
      rcases Nat.lt_or_ge i j with h' | h'
      · exact hall i h'
      · obtain rfl : i = j := by omega
        rwa [show (i : Int).toNat = i by omega] at h
    dsimp only [Ev.av, Ev.cs] at hsj hbj ⊢
    generalize same (l.getD (j : Int).toNat default) e = q1 at hsj hyj hnj
    generalize belowB e (l.getD (j : Int).toNat default) = q2 at hbj hyj hnj
    repeat' ((conv => whnf); first | refine Spl.yes (by first | assumption | omega) ?_ | refine Spl.no (by first | assumption | omega) ?_ | refine Wr.i64 (by omega) (by omega) ?_ | refine Still.mk rfl rfl ?_ | refine InB.mk (inB_mk (by omega) (by omega)) ?_ | refine Req.mk (by omega) ?_ | refine Req.mk ⟨by first | omega | (dsimp only; omega), by first | omega | (dsimp only; omega)⟩ ?_ | refine ACall.plain _ _ (hsj) (SubL.cons (.eq _) (SubL.cons (.eq _) .nil)) rfl ?_ | refine ACall.plain _ _ (hbj) (SubL.cons (.eq _) (SubL.cons (.eq _) .nil)) rfl ?_ | refine ACall.into 31 _ _ Try.func58 rfl rfl rfl ?_ | refine ARet.hdI ?_ | refine Spl.mk (fun _ => ?_) (fun _ => ?_) | refine InA.mk (inB_mk (by omega) (by omega)) ?_ | refine Wr.b64 ?_ | refine Wr.bu64 ?_ | refine Wr.bu32 ?_ | refine Wr.bu8 ?_ | refine Wr.u8 (by omega) (by omega) ?_ | refine Wr.u64 (by omega) (by omega) ?_ | refine Wr.u32 (by omega) (by omega) ?_ | refine Dv.pos (by omega) (by omega) ?_ | refine Rm.pos (by omega) (by omega) ?_ | refine ADraw.quiet follows_ok (by kernel_rfl) rfl ?_ | refine BSpl.decY (by first | assumption | omega) ?_ | refine BSpl.decN (by first | assumption | omega) ?_ | refine BSpl.dec (fun _ => ?_) (fun _ => ?_) | refine BSpl.yes (by assumption) ?_ | refine BSpl.no (by assumption) ?_ | refine BSpl.mk (fun _ => ?_) (fun _ => ?_))
    all_goals (conv => whnf)
    all_goals first
      | (rw [hyj (by assumption) (by assumption) (by assumption)]; exact AEqI.mk (AEq.refl _))
      | exact ⟨⟨j + 1, by omega, hnj (by first | (rw [decide_eq_false (by assumption)]; rfl) | (rw [show q1 = false by assumption]; simp) | (rw [show q2 = false by assumption]; simp))⟩, _, LeR.mk' [] _ _ _ rfl ⟨AEq.int rfl, AEq.refl _, AEq.refl _, AEq.refl _, trivial⟩ ⟨⟨_, rfl, OEq.refl _⟩, ⟨_, rfl, OEq.refl _⟩, trivial⟩ rfl, by show l.length - (j + 1) < l.length - j; omega⟩
  · have hR : R = false := hno fun i hi => hall i (by omega)
    repeat' ((conv => whnf); first | refine Spl.yes (by first | assumption | omega) ?_ | refine Spl.no (by first | assumption | omega) ?_ | refine Wr.i64 (by omega) (by omega) ?_ | refine Still.mk rfl rfl ?_ | refine InB.mk (inB_mk (by omega) (by omega)) ?_ | refine Req.mk (by omega) ?_ | refine Req.mk ⟨by first | omega | (dsimp only; omega), by first | omega | (dsimp only; omega)⟩ ?_ | refine ARet.hdI ?_ | refine Spl.mk (fun _ => ?_) (fun _ => ?_) | refine InA.mk (inB_mk (by omega) (by omega)) ?_ | refine Wr.b64 ?_ | refine Wr.bu64 ?_ | refine Wr.bu32 ?_ | refine Wr.bu8 ?_ | refine Wr.u8 (by omega) (by omega) ?_ | refine Wr.u64 (by omega) (by omega) ?_ | refine Wr.u32 (by omega) (by omega) ?_ | refine Dv.pos (by omega) (by omega) ?_ | refine Rm.pos (by omega) (by omega) ?_ | refine ADraw.quiet follows_ok (by kernel_rfl) rfl ?_ | refine BSpl.decY (by first | assumption | omega) ?_ | refine BSpl.decN (by first | assumption | omega) ?_ | refine BSpl.dec (fun _ => ?_) (fun _ => ?_) | refine BSpl.yes (by assumption) ?_ | refine BSpl.no (by assumption) ?_ | refine BSpl.mk (fun _ => ?_) (fun _ => ?_))
    all_goals (conv => whnf)
    rw [hR]
    exact AEqI.mk (AEq.refl _)
set_option maxHeartbeats 4000000 in
set_option maxRecDepth 100000 in
theorem under_spec (k : Int) (g : FuncId) (same : Ev → Ev → Bool) (hs : ∀ a b, ASpec Try.prog g [a.av, b.av] (.v (.bool (same a b))) []) (l : List Ev) (e : Ev) (hl : l.length ≤ 140737488355328) :
    ASpec Try.prog 53 [.agg [.v (.int .i64 k), .v (.func (.func g) #[] #[])], .sl 12 l.length true (evF l), e.av] (.v (.bool (underB k same l e))) [] := by
  have hyes : ∀ j, j < l.length → (l.getD j default).k = k → same (l.getD j default) e = true → belowB (l.getD j default) e = true → underB k same l e = true := fun j hj h1 h2 h3 => any_get hj (by rw [h1, h2, h3]; simp)
  have hno : (∀ i, i < l.length → (decide ((l.getD i default).k = k) && (same (l.getD i default) e && belowB (l.getD i default) e)) = false) → underB k same l e = false := fun h => any_none h
  generalize underB k same l e = R at hyes hno
  dsimp only [Ev.av]
  dsimp only [Ev.cs]
  refine aspec_of lay_ok 111 Try.func53 rfl rfl rfl ?_
  repeat' ((conv => whnf); first | refine Spl.yes (by first | assumption | omega) ?_ | refine Spl.no (by first | assumption | omega) ?_ | refine Wr.i64 (by omega) (by omega) ?_ | refine Still.mk rfl rfl ?_ | refine InB.mk (inB_mk (by omega) (by omega)) ?_ | refine Req.mk (by omega) ?_ | refine Req.mk ⟨by first | omega | (dsimp only; omega), by first | omega | (dsimp only; omega)⟩ ?_ | refine ACall.into 19 _ _ Try.func57 rfl rfl rfl ?_ | refine ACall.into 66483 _ _ Try.func75 rfl rfl rfl ?_ | refine ARet.hdI ?_ | refine Spl.mk (fun _ => ?_) (fun _ => ?_) | refine InA.mk (inB_mk (by omega) (by omega)) ?_ | refine Wr.b64 ?_ | refine Wr.bu64 ?_ | refine Wr.bu32 ?_ | refine Wr.bu8 ?_ | refine Wr.u8 (by omega) (by omega) ?_ | refine Wr.u64 (by omega) (by omega) ?_ | refine Wr.u32 (by omega) (by omega) ?_ | refine Dv.pos (by omega) (by omega) ?_ | refine Rm.pos (by omega) (by omega) ?_ | refine ADraw.quiet follows_ok (by kernel_rfl) rfl ?_ | refine BSpl.decY (by first | assumption | omega) ?_ | refine BSpl.decN (by first | assumption | omega) ?_ | refine BSpl.dec (fun _ => ?_) (fun _ => ?_) | refine BSpl.yes (by assumption) ?_ | refine BSpl.no (by assumption) ?_ | refine BSpl.mk (fun _ => ?_) (fun _ => ?_))
  conv => whnf
  refine ALoop.mk { j : Nat // j ≤ l.length ∧ ∀ i, i < j → (decide ((l.getD i default).k = k) && (same (l.getD i default) e && belowB (l.getD i default) e)) = false } (fun j => ⟨[(8, .v (.int .i64 (j.1 : Int))), (7, .v (.int .i64 (l.length : Int))), (0, .sl 12 l.length true (evF l)), (1, .fn 62 [.box 0 0, .box 1 0])],
      [(1, .box 32 e.cs), (0, .box 73 [.v (.int .i64 k), .v (.func (.func g) #[] #[])])], [[], []], 2⟩) (fun j => l.length - j.1) ⟨0, Nat.zero_le _, fun i h => absurd h (Nat.not_lt_zero i)⟩ _
    (LeR.mkB [] _ _ _ rfl ⟨AEq.int rfl, AEq.refl _, AEq.refl _, AEq.refl _, trivial⟩ ⟨⟨_, rfl, OEq.refl _⟩, ⟨_, rfl, OEq.refl _⟩, trivial⟩ rfl) ?_
  rintro ⟨j, hj, hall⟩
  dsimp only
  by_cases hjl : j < l.length
  · have hsj := hs (l.getD (j : Int).toNat default) e
    have hbj := below_spec (l.getD (j : Int).toNat default) e
    have hyj := hyes j hjl
    rw [show j = (j : Int).toNat by omega] at hyj
    have hnj : (decide ((l.getD (j : Int).toNat default).k = k) && (same (l.getD (j : Int).toNat default) e && belowB (l.getD (j : Int).toNat default) e)) = false → ∀ i, i < j + 1 → (decide ((l.getD i default).k = k) && (same (l.getD i default) e && belowB (l.getD i default) e)) = false := by
      intro h i hi
      rcases Nat.lt_or_ge i j with h' | h'
      · exact hall i h'
      · obtain rfl : i = j := by omega
        rwa [show (i : Int).toNat = i by omega] at h
    dsimp only [Ev.av, Ev.cs] at hsj hbj ⊢
    generalize same (l.getD (j : Int).toNat default) e = q1 at hsj hyj hnj
    generalize belowB (l.getD (j : Int).toNat default) e = q2 at hbj hyj hnj
    repeat' ((conv => whnf); first | refine Spl.yes (by first | assumption | omega) ?_ | refine Spl.no (by first | assumption | omega) ?_ | refine Wr.i64 (by omega) (by omega) ?_ | refine Still.mk rfl rfl ?_ | refine InB.mk (inB_mk (by omega) (by omega)) ?_ | refine Req.mk (by omega) ?_ | refine Req.mk ⟨by first | omega | (dsimp only; omega), by first | omega | (dsimp only; omega)⟩ ?_ | refine ACall.plain _ _ (hsj) (SubL.cons (.eq _) (SubL.cons (.eq _) .nil)) rfl ?_ | refine ACall.plain _ _ (hbj) (SubL.cons (.eq _) (SubL.cons (.eq _) .nil)) rfl ?_ | refine ACall.into 31 _ _ Try.func62 rfl rfl rfl ?_ | refine ARet.hdI ?_ | refine Spl.mk (fun _ => ?_) (fun _ => ?_) | refine InA.mk (inB_mk (by omega) (by omega)) ?_ | refine Wr.b64 ?_ | refine Wr.bu64 ?_ | refine Wr.bu32 ?_ | refine Wr.bu8 ?_ | refine Wr.u8 (by omega) (by omega) ?_ | refine Wr.u64 (by omega) (by omega) ?_ | refine Wr.u32 (by omega) (by omega) ?_ | refine Dv.pos (by omega) (by omega) ?_ | refine Rm.pos (by omega) (by omega) ?_ | refine ADraw.quiet follows_ok (by kernel_rfl) rfl ?_ | refine BSpl.decY (by first | assumption | omega) ?_ | refine BSpl.decN (by first | assumption | omega) ?_ | refine BSpl.dec (fun _ => ?_) (fun _ => ?_) | refine BSpl.yes (by assumption) ?_ | refine BSpl.no (by assumption) ?_ | refine BSpl.mk (fun _ => ?_) (fun _ => ?_))
    all_goals (conv => whnf)
    all_goals first
      | (rw [hyj (by assumption) (by assumption) (by assumption)]; exact AEqI.mk (AEq.refl _))
      | exact ⟨⟨j + 1, by omega, hnj (by first | (rw [decide_eq_false (by assumption)]; rfl) | (rw [show q1 = false by assumption]; simp) | (rw [show q2 = false by assumption]; simp))⟩, _, LeR.mk' [] _ _ _ rfl ⟨AEq.int rfl, AEq.refl _, AEq.refl _, AEq.refl _, trivial⟩ ⟨⟨_, rfl, OEq.refl _⟩, ⟨_, rfl, OEq.refl _⟩, trivial⟩ rfl, by show l.length - (j + 1) < l.length - j; omega⟩
  · have hR : R = false := hno fun i hi => hall i (by omega)
    repeat' ((conv => whnf); first | refine Spl.yes (by first | assumption | omega) ?_ | refine Spl.no (by first | assumption | omega) ?_ | refine Wr.i64 (by omega) (by omega) ?_ | refine Still.mk rfl rfl ?_ | refine InB.mk (inB_mk (by omega) (by omega)) ?_ | refine Req.mk (by omega) ?_ | refine Req.mk ⟨by first | omega | (dsimp only; omega), by first | omega | (dsimp only; omega)⟩ ?_ | refine ARet.hdI ?_ | refine Spl.mk (fun _ => ?_) (fun _ => ?_) | refine InA.mk (inB_mk (by omega) (by omega)) ?_ | refine Wr.b64 ?_ | refine Wr.bu64 ?_ | refine Wr.bu32 ?_ | refine Wr.bu8 ?_ | refine Wr.u8 (by omega) (by omega) ?_ | refine Wr.u64 (by omega) (by omega) ?_ | refine Wr.u32 (by omega) (by omega) ?_ | refine Dv.pos (by omega) (by omega) ?_ | refine Rm.pos (by omega) (by omega) ?_ | refine ADraw.quiet follows_ok (by kernel_rfl) rfl ?_ | refine BSpl.decY (by first | assumption | omega) ?_ | refine BSpl.decN (by first | assumption | omega) ?_ | refine BSpl.dec (fun _ => ?_) (fun _ => ?_) | refine BSpl.yes (by assumption) ?_ | refine BSpl.no (by assumption) ?_ | refine BSpl.mk (fun _ => ?_) (fun _ => ?_))
    all_goals (conv => whnf)
    rw [hR]
    exact AEqI.mk (AEq.refl _)
end Go.Proofs.Ytihjfndkgmjanaa
