/-
  Which stamp is the last one.
-/
import Derived.Test.YtihjfndkgmjanaaBkA
import Derived.Laws.StructEq
import Derived.Laws.Cover2
namespace Go.Proofs.Ytihjfndkgmjanaa
open Go.RowKit

abbrev St := Int × Int
def stV (a : St) : List Value := [.int .i64 a.1, .int .i64 a.2]
def stC (a : St) : List AV := [.v (.int .i64 a.1), .v (.int .i64 a.2)]
abbrev stF (l : List St) : Nat → List AV := elsF stC l
def lessB (a b : St) : Bool := if a.1 = b.1 then decide (a.2 < b.2) else decide (a.1 < b.1)
def topB (m : St) (l : List St) : St := l.foldl (fun m s => if lessB m s = true then s else m) m
def lastN (l : List St) : Nat := l.findIdx fun s => decide (s = topB (l.getD 0 default) l)

theorem top_mem : ∀ (l : List St) (m : St), topB m l = m ∨ topB m l ∈ l
  | [], _ => .inl rfl
  | x :: l, m => by
    show topB (if lessB m x = true then x else m) l = m ∨ _
    rcases top_mem l (if lessB m x = true then x else m) with h | h
    · split at h
      · rename_i hx
        exact .inr (by show topB (if lessB m x = true then x else m) l ∈ _; rw [if_pos hx, h]; exact List.mem_cons_self)
      · rename_i hx
        exact .inl (by rw [if_neg hx]; exact h)
    · exact .inr (List.mem_cons_of_mem _ h)
theorem last_lt {l : List St} (h : l ≠ []) : lastN l < l.length := by
  have hm : topB (l.getD 0 default) l ∈ l := by
    rcases top_mem l (l.getD 0 default) with h' | h'
    · rw [h']
      cases l with
      | nil => exact absurd rfl h
      | cons x l => exact List.mem_cons_self
    · exact h'
  exact List.findIdx_lt_length_of_exists ⟨_, hm, by simp⟩
theorem top_step {m : St} {l : List St} {j : Nat} (hj : j < l.length) : topB m (l.take (j + 1)) = if lessB (topB m (l.take j)) (l.getD j default) = true then l.getD j default else topB m (l.take j) := by
  unfold topB
  rw [List.take_add_one, List.getElem?_eq_getElem hj, List.foldl_append, List.getD, List.getElem?_eq_getElem hj]
  rfl

theorem st_guard : Try.prog.eqGuardType Try.prog.depth 77 = false := by kernel_rfl
theorem st_eqIn (a b : St) (w : World) : (Op.equalIn 10000 77 (.agg (stV a).toArray) (.agg (stV b).toArray)).run Try.prog w = .ok (decide (a.1 = b.1 ∧ a.2 = b.2)) w := by
  have hS : Try.prog.underlying 77 = some (.struct (Try.prog.fieldsOf 77)) := by kernel_rfl
  have u3 := Try.underlying3
  have a3 := Try.isAgg3
  have z3 := Try.sizeOf3
  rw [show (10000 : Nat) = 9999 + 1 from rfl, run_equalIn_agg w 9999 77 _ _ hS (by kernel_rfl)]
  simp only [Program.fieldsOf, Try.underlying77]
  unfold stV
  go_simp
  repeat' split
  all_goals simp_all
theorem st_eq (a b : St) : EqFact Try.prog 77 (stV a) (stV b) (a = b) :=
  ⟨st_guard, fun w => ⟨_, by rw [decide_eq_true_eq]; exact ⟨fun h => Prod.ext h.1 h.2, fun h => by rw [h]; exact ⟨rfl, rfl⟩⟩, st_eqIn a b w⟩⟩

theorem less_spec (a b : St) : ASpec Try.prog 74 [.agg (stC a), .agg (stC b)] (.v (.bool (lessB a b))) [] := by
  dsimp only [stC]
  refine aspec_of lay_ok 543 Try.func74 rfl rfl rfl ?_
  repeat' ((conv => whnf); first | refine Spl.yes (by first | assumption | omega) ?_ | refine Spl.no (by first | assumption | omega) ?_ | refine Wr.i64 (by omega) (by omega) ?_ | refine Still.mk rfl rfl ?_ | refine InB.mk (inB_mk (by omega) (by omega)) ?_ | refine Req.mk (by omega) ?_ | refine Req.mk ⟨by first | omega | (dsimp only; omega), by first | omega | (dsimp only; omega)⟩ ?_ | refine ARet.hdI ?_ | refine Spl.mk (fun _ => ?_) (fun _ => ?_) | refine InA.mk (inB_mk (by omega) (by omega)) ?_ | refine Wr.b64 ?_ | refine Wr.bu64 ?_ | refine Wr.bu32 ?_ | refine Wr.bu8 ?_ | refine Wr.u8 (by omega) (by omega) ?_ | refine Wr.u64 (by omega) (by omega) ?_ | refine Wr.u32 (by omega) (by omega) ?_ | refine Dv.pos (by omega) (by omega) ?_ | refine Rm.pos (by omega) (by omega) ?_ | refine ADraw.quiet follows_ok (by kernel_rfl) rfl ?_ | refine BSpl.decY (by first | assumption | omega) ?_ | refine BSpl.decN (by first | assumption | omega) ?_ | refine BSpl.dec (fun _ => ?_) (fun _ => ?_) | refine BSpl.yes (by assumption) ?_ | refine BSpl.no (by assumption) ?_ | refine BSpl.mk (fun _ => ?_) (fun _ => ?_))
  all_goals (conv => whnf)
  all_goals (refine AEqI.mk (AEq.of ?_))
  all_goals simp [lessB, *]

set_option maxHeartbeats 4000000 in
set_option maxRecDepth 100000 in
theorem last_spec (l : List St) (hne : l ≠ []) (hl : l.length ≤ 1000000000) : ASpec Try.prog 56 [.sl 2 l.length true (stF l)] (.v (.int .i64 (lastN l : Int))) [] := by
  have hpos : 0 < l.length := List.length_pos_iff.2 hne
  refine aspec_of lay_ok 17687626989 Try.func56 rfl rfl rfl ?_
  repeat' ((conv => whnf); first | refine Spl.yes (by first | assumption | omega) ?_ | refine Spl.no (by first | assumption | omega) ?_ | refine Wr.i64 (by omega) (by omega) ?_ | refine Still.mk rfl rfl ?_ | refine InB.mk (inB_mk (by omega) (by omega)) ?_ | refine Req.mk (by omega) ?_ | refine Req.mk ⟨by first | omega | (dsimp only; omega), by first | omega | (dsimp only; omega)⟩ ?_ | refine ARet.hdI ?_ | refine Spl.mk (fun _ => ?_) (fun _ => ?_) | refine InA.mk (inB_mk (by omega) (by omega)) ?_ | refine Wr.b64 ?_ | refine Wr.bu64 ?_ | refine Wr.bu32 ?_ | refine Wr.bu8 ?_ | refine Wr.u8 (by omega) (by omega) ?_ | refine Wr.u64 (by omega) (by omega) ?_ | refine Wr.u32 (by omega) (by omega) ?_ | refine Dv.pos (by omega) (by omega) ?_ | refine Rm.pos (by omega) (by omega) ?_ | refine ADraw.quiet follows_ok (by kernel_rfl) rfl ?_ | refine BSpl.decY (by first | assumption | omega) ?_ | refine BSpl.decN (by first | assumption | omega) ?_ | refine BSpl.dec (fun _ => ?_) (fun _ => ?_) | refine BSpl.yes (by assumption) ?_ | refine BSpl.no (by assumption) ?_ | refine BSpl.mk (fun _ => ?_) (fun _ => ?_))
  conv => whnf
  refine ALoop.mk { j : Nat // j ≤ l.length } (fun j => ⟨[(0, .sl 2 l.length true (stF l)), (3, .box 0 0), (14, .sl 2 l.length true (stF l)), (15, .v (.int .i64 (l.length : Int))), (16, .v (.int .i64 (j.1 : Int)))],
      [(0, .box 77 (stC (topB (l.getD 0 default) (l.take j.1))))], [], 1⟩) (fun j => l.length - j.1) ⟨0, Nat.zero_le _⟩ _
    (LeR.mk' [] _ _ _ rfl ⟨AEq.refl _, AEq.refl _, AEq.refl _, AEq.int rfl, AEq.int rfl, trivial⟩ ⟨⟨_, rfl, OEq.refl _⟩, trivial⟩ rfl) ?_
  rintro ⟨j, hj⟩
  dsimp only
  by_cases hjl : j < l.length
  · have hst := top_step (m := l.getD 0 default) hjl
    have hls := less_spec (topB (l.getD 0 default) (l.take j)) (l.getD (j : Int).toNat default)
    generalize topB (l.getD 0 default) (l.take j) = t at hst hls ⊢
    rw [show l.getD j default = l.getD (j : Int).toNat default from rfl] at hst
    generalize lessB t (l.getD (j : Int).toNat default) = q at hst hls
    dsimp only [stC] at hls ⊢
    repeat' ((conv => whnf); first | refine Spl.yes (by first | assumption | omega) ?_ | refine Spl.no (by first | assumption | omega) ?_ | refine Wr.i64 (by omega) (by omega) ?_ | refine Still.mk rfl rfl ?_ | refine InB.mk (inB_mk (by omega) (by omega)) ?_ | refine Req.mk (by omega) ?_ | refine Req.mk ⟨by first | omega | (dsimp only; omega), by first | omega | (dsimp only; omega)⟩ ?_ | refine ACall.plain _ _ (hls) (SubL.cons (.eq _) (SubL.cons (.eq _) .nil)) rfl ?_ | refine ARet.hdI ?_ | refine Spl.mk (fun _ => ?_) (fun _ => ?_) | refine InA.mk (inB_mk (by omega) (by omega)) ?_ | refine Wr.b64 ?_ | refine Wr.bu64 ?_ | refine Wr.bu32 ?_ | refine Wr.bu8 ?_ | refine Wr.u8 (by omega) (by omega) ?_ | refine Wr.u64 (by omega) (by omega) ?_ | refine Wr.u32 (by omega) (by omega) ?_ | refine Dv.pos (by omega) (by omega) ?_ | refine Rm.pos (by omega) (by omega) ?_ | refine ADraw.quiet follows_ok (by kernel_rfl) rfl ?_ | refine BSpl.decY (by first | assumption | omega) ?_ | refine BSpl.decN (by first | assumption | omega) ?_ | refine BSpl.dec (fun _ => ?_) (fun _ => ?_) | refine BSpl.yes (by assumption) ?_ | refine BSpl.no (by assumption) ?_ | refine BSpl.mk (fun _ => ?_) (fun _ => ?_))
    all_goals (conv => whnf)
    all_goals first
      | (refine ⟨⟨j + 1, hjl⟩, _, LeR.mk' [] _ _ _ rfl ⟨AEq.refl _, AEq.refl _, AEq.refl _, AEq.int rfl, AEq.int rfl, trivial⟩ ⟨⟨_, rfl, ?_⟩, trivial⟩ rfl, by show l.length - (j + 1) < l.length - j; omega⟩
         show OEq _ (.box _ (stC (topB (l.getD 0 default) (l.take (j + 1)))))
         rw [hst, if_pos (by assumption)]
         exact OEq.refl _)
      | (refine ⟨⟨j + 1, hjl⟩, _, LeR.mk' [] _ _ _ rfl ⟨AEq.refl _, AEq.refl _, AEq.refl _, AEq.int rfl, AEq.int rfl, trivial⟩ ⟨⟨_, rfl, ?_⟩, trivial⟩ rfl, by show l.length - (j + 1) < l.length - j; omega⟩
         show OEq _ (.box _ (stC (topB (l.getD 0 default) (l.take (j + 1)))))
         rw [hst, if_neg (by rw [show q = false by assumption]; simp)]
         exact OEq.refl _)
  · have hW : l.take j = l := List.take_of_length_le (by omega)
    rw [hW]
    have hlast : lastN l = l.findIdx fun s => decide (s = topB (l.getD 0 default) l) := rfl
    have hlt := last_lt hne
    generalize topB (l.getD 0 default) l = t at hlast ⊢
    dsimp only [stC]
    repeat' ((conv => whnf); first | refine Spl.yes (by first | assumption | omega) ?_ | refine Spl.no (by first | assumption | omega) ?_ | refine Wr.i64 (by omega) (by omega) ?_ | refine Still.mk rfl rfl ?_ | refine InB.mk (inB_mk (by omega) (by omega)) ?_ | refine Req.mk (by omega) ?_ | refine Req.mk ⟨by first | omega | (dsimp only; omega), by first | omega | (dsimp only; omega)⟩ ?_ | refine ARet.hdI ?_ | refine Spl.mk (fun _ => ?_) (fun _ => ?_) | refine InA.mk (inB_mk (by omega) (by omega)) ?_ | refine Wr.b64 ?_ | refine Wr.bu64 ?_ | refine Wr.bu32 ?_ | refine Wr.bu8 ?_ | refine Wr.u8 (by omega) (by omega) ?_ | refine Wr.u64 (by omega) (by omega) ?_ | refine Wr.u32 (by omega) (by omega) ?_ | refine Dv.pos (by omega) (by omega) ?_ | refine Rm.pos (by omega) (by omega) ?_ | refine ADraw.quiet follows_ok (by kernel_rfl) rfl ?_ | refine BSpl.decY (by first | assumption | omega) ?_ | refine BSpl.decN (by first | assumption | omega) ?_ | refine BSpl.dec (fun _ => ?_) (fun _ => ?_) | refine BSpl.yes (by assumption) ?_ | refine BSpl.no (by assumption) ?_ | refine BSpl.mk (fun _ => ?_) (fun _ => ?_))
    all_goals (conv => whnf)
    refine ALoop.mk { j : Nat // j ≤ l.length ∧ ∀ i, i < j → ¬ l.getD i default = t } (fun j => ⟨[(3, .box 0 0), (25, .sl 2 l.length true (stF l)), (26, .v (.int .i64 (l.length : Int))), (27, .v (.int .i64 (j.1 : Int)))],
      [(0, .box 77 (stC t))], [], 1⟩) (fun j => l.length - j.1) ⟨0, Nat.zero_le _, fun i h => absurd h (Nat.not_lt_zero i)⟩ _
      (LeR.mk' [] _ _ _ rfl ⟨AEq.refl _, AEq.refl _, AEq.int rfl, AEq.int rfl, trivial⟩ ⟨⟨_, rfl, OEq.refl _⟩, trivial⟩ rfl) ?_
    rintro ⟨j, hj, hall⟩
    dsimp only
    by_cases hjl : j < l.length
    · have hret : l.getD (j : Int).toNat default = t → lastN l = j := by
        intro h
        have h : l.getD j default = t := h
        rw [hlast]
        refine (List.findIdx_eq hjl).2 ⟨?_, fun i hi => ?_⟩
        · rw [List.getD, List.getElem?_eq_getElem hjl] at h
          exact decide_eq_true h
        · have := hall i hi
          rw [List.getD, List.getElem?_eq_getElem (by omega)] at this
          exact decide_eq_false this
      have hno : ¬ l.getD (j : Int).toNat default = t → ∀ i, i < j + 1 → ¬ l.getD i default = t := by
        intro h i hi
        rcases Nat.lt_or_ge i j with h' | h'
        · exact hall i h'
        · obtain rfl : i = j := by omega
          exact h
      dsimp only [stC]
      repeat' ((conv => whnf); first | refine Spl.yes (by first | assumption | omega) ?_ | refine Spl.no (by first | assumption | omega) ?_ | refine Wr.i64 (by omega) (by omega) ?_ | refine Still.mk rfl rfl ?_ | refine InB.mk (inB_mk (by omega) (by omega)) ?_ | refine Req.mk (by omega) ?_ | refine Req.mk ⟨by first | omega | (dsimp only; omega), by first | omega | (dsimp only; omega)⟩ ?_ | refine EqA.mk (stV (l.getD (j : Int).toNat default)) (stV t) (l.getD (j : Int).toNat default = t) rfl rfl (st_eq _ _) ?_ | refine ARet.hdI ?_ | refine Spl.mk (fun _ => ?_) (fun _ => ?_) | refine InA.mk (inB_mk (by omega) (by omega)) ?_ | refine Wr.b64 ?_ | refine Wr.bu64 ?_ | refine Wr.bu32 ?_ | refine Wr.bu8 ?_ | refine Wr.u8 (by omega) (by omega) ?_ | refine Wr.u64 (by omega) (by omega) ?_ | refine Wr.u32 (by omega) (by omega) ?_ | refine Dv.pos (by omega) (by omega) ?_ | refine Rm.pos (by omega) (by omega) ?_ | refine ADraw.quiet follows_ok (by kernel_rfl) rfl ?_ | refine BSpl.decY (by first | assumption | omega) ?_ | refine BSpl.decN (by first | assumption | omega) ?_ | refine BSpl.dec (fun _ => ?_) (fun _ => ?_) | refine BSpl.yes (by assumption) ?_ | refine BSpl.no (by assumption) ?_ | refine BSpl.mk (fun _ => ?_) (fun _ => ?_))
      all_goals (conv => whnf)
      all_goals first
        | (rw [hret (by assumption)]; exact AEqI.mk (AEq.refl _))
        | exact ⟨⟨j + 1, hjl, hno (by assumption)⟩, _, LeR.mk' [] _ _ _ rfl ⟨AEq.refl _, AEq.refl _, AEq.int rfl, AEq.int rfl, trivial⟩ ⟨⟨_, rfl, OEq.refl _⟩, trivial⟩ rfl, by show l.length - (j + 1) < l.length - j; omega⟩
    · exfalso
      have h1 := hall (lastN l) (by omega)
      rw [List.getD, List.getElem?_eq_getElem hlt] at h1
      have h2 : decide (l[l.findIdx fun s => decide (s = t)]'(hlast ▸ hlt) = t) = true := List.findIdx_getElem (p := fun s => decide (s = t))
      have h3 := of_decide_eq_true h2
      simp only [← hlast] at h3
      exact h1 h3
end Go.Proofs.Ytihjfndkgmjanaa
