/-
  What Fit makes may be; the statement FrameFields, walked.
-/
import Derived.Test.YtbmojelnkldecaaFrmF
namespace Go.Proofs.Ytbmojelnkldecaa
open Go.RowKit

theorem fit07_spec (x : Rc) (hr : ∀ e ∈ x.ev, e.key.size ≤ 140737488355328 ∧ e.v.size ≤ 140737488355328) (hl : x.ev.length ≤ 140737488355328) : ASpec Try.prog 33 [x.av] (fitF x).av [] := by
  have h := m5_range x.k
  rcases (show 1 + m5 x.k = 1 ∨ (1 + m5 x.k = 2 ∨ 1 + m5 x.k = 3 ∨ 1 + m5 x.k = 5) ∨ 1 + m5 x.k = 4 by omega) with hk | hk | hk
  · exact fit07_1 x hr hk hl
  · exact fit07_c x hk
  · exact fit07_4 x hr hk hl

theorem pushE_may {r : Int} {e : Ev} (h0 : 0 ≤ r) (h4 : r ≤ 4) (h : mayE e = 0) : mayE (pushE r e) = 0 := by
  have m := mayE_zero h
  have a0 := m.r0
  have a1 := m.r4
  have a2 := m.n1
  have a3 := m.n2
  have b0 := m.a0
  have b1 := m.a1
  have b2 := m.a2
  have b3 := m.a3
  have b4 := m.a4
  have hed : (pushE r e).ed = e.ed := rfl
  refine mayE_of ?_
  rcases (show r = 0 ∨ r = 1 ∨ r = 2 ∨ r = 3 ∨ r = 4 by omega) with h | h | h | h | h <;> rcases (show e.r = 0 ∨ e.r = 1 ∨ e.r = 2 ∨ e.r = 3 ∨ e.r = 4 by omega) with g | g | g | g | g <;>
    (refine ⟨h0, h4, a2, a3, m.h1, m.h2, ?_, ?_, ?_, ?_, ?_, ?_, by rw [hed]; exact m.ed⟩ <;> simp [pushE, h, g, Clk.put, Clk.get] <;> omega)

theorem fitF_may (x : Rc) : mayF (fitF x) = true := by
  have h5 := m5_range x.r
  have h6 := m5_range x.k
  have ok0 : okN 0 = true := rfl
  have hz : clkZ clk0 = true := rfl
  have hc : okC clk0 = true := rfl
  have hcc : okC (fitC x.c) = true := by simp [okC, fitC, okN_and]
  have hl (f : Ev → Ev) : ((x.ev.take 20).map f).length ≤ 20 := by rw [List.length_map, List.length_take]; omega
  unfold fitF
  split
  · simp [mayF, shK, shU, shC, shE, hc, hz, okN_and]; omega
  · split
    · rename_i h1 h2
      rcases h2 with h2 | h2 <;> rw [h2] <;> simp [mayF, shK, shU, shC, shE, ok0, hcc] <;> omega
    · split
      · rename_i h1 h2 h3
        have ha : ((x.ev.take 20).map fun e => pushE (m5 x.r) (fitE e)).all (evOk 1 (m5 x.r)) = true := by
          rw [List.all_eq_true]
          intro e he
          obtain ⟨f, _, rfl⟩ := List.mem_map.1 he
          exact evOk_yes2 (pushE_may h5.1 h5.2 (fitE_may f)) rfl
        have hll := hl fun e => pushE (m5 x.r) (fitE e)
        have hne : ((x.ev.take 20).map fun e => pushE (m5 x.r) (fitE e)).length ≠ 0 := by
          have := h3.2
          rw [List.length_map, List.length_take]
          omega
        have d1 := decide_eq_true hll
        have d2 := decide_eq_true hne
        simp only [mayF, shK, shU, shC, shE, ok0, hc, hz, ha, d1, d2]
        simp
        omega
      · have ha : ((x.ev.take 20).map fitE).all (evOk 4 (m5 x.r)) = true := by
          rw [List.all_eq_true]
          intro e he
          obtain ⟨f, _, rfl⟩ := List.mem_map.1 he
          exact evOk_yes1 (fitE_may f) (by decide)
        have hll := hl fitE
        simp only [mayF, shK, shU, shC, shE, ok0, hc, hz, ha]
        simp at hll ⊢
        omega

theorem frBytes_len (x : Rc) : 5 ≤ (frBytes x).length := by
  unfold frBytes
  rw [sealB_len]
  have := vputF_pos 9 (frBody x).length
  rw [List.length_append]
  show 5 ≤ (vputF 9 (frBody x).length).length + _ + 4
  omega

set_option maxRecDepth 100000 in
theorem takeBig_spec {n : Nat} {F : Nat → List AV} (h : 2048 < n) : ASpec Try.prog 29 [.sl 1 n true F] (.tup [.agg (rcCs 0 0 0 0 0 0 0 0 (.v (.slice none 0 0))), .v (.int .i64 5)]) [] := by
  refine aspec_of lay_ok 2199158000125 Try.func29 rfl rfl rfl ?_
  repeat' ((conv => whnf); first | refine Spl.yes (by first | assumption | omega) ?_ | refine Spl.no (by first | assumption | omega) ?_ | refine Wr.i64 (by omega) (by omega) ?_ | refine Still.mk rfl rfl ?_ | refine InB.mk (inB_mk (by omega) (by omega)) ?_ | refine Req.mk (by omega) ?_ | refine Req.mk ⟨by first | omega | (dsimp only; omega), by first | omega | (dsimp only; omega)⟩ ?_ | refine ARet.hdI ?_ | refine Spl.mk (fun _ => ?_) (fun _ => ?_) | refine Wr.b64 ?_ | refine Wr.bu64 ?_ | refine Wr.bu32 ?_ | refine Wr.bu8 ?_ | refine Wr.u8 (by omega) (by omega) ?_ | refine Wr.u64 (by omega) (by omega) ?_ | refine Wr.u32 (by omega) (by omega) ?_ | refine Dv.pos (by omega) (by omega) ?_ | refine Rm.pos (by omega) (by omega) ?_ | refine ADraw.quiet follows_ok (by kernel_rfl) rfl ?_ | refine BSpl.decY (by first | assumption | omega) ?_ | refine BSpl.decN (by first | assumption | omega) ?_ | refine BSpl.dec (fun _ => ?_) (fun _ => ?_) | refine BSpl.yes (by assumption) ?_ | refine BSpl.no (by assumption) ?_ | refine BSpl.mk (fun _ => ?_) (fun _ => ?_))
  conv => whnf
  exact AEqI.mk (AEq.refl _)

set_option maxHeartbeats 8000000 in
set_option maxRecDepth 100000 in
theorem frFields_spec (x : Rc) (w : Int) (hw : 0 ≤ w ∧ w ≤ 255) (hr : ∀ e ∈ x.ev, e.key.size ≤ 140737488355328 ∧ e.v.size ≤ 140737488355328) (hl : x.ev.length ≤ 140737488355328) :
    ASpec Try.prog 9 [x.av, .v (.int .u8 w)] (.v (.bool true)) [] := by
  have hfit := fit07_spec x hr hl
  have hy := fitF_may x
  generalize fitF x = y at hfit hy
  have hput := fun d => frPut_yes d y hy
  have h5 := frBytes_len y
  have hyl := (mayF_of hy).l
  generalize frBytes y = bs at hput h5
  obtain ⟨k, r, u, ⟨c0, c1, c2, c3, c4⟩, ev⟩ := y
  dsimp only at hyl
  have n0 := frPut_no ⟨k, r, 1048577, ⟨c0, c1, c2, c3, c4⟩, ev⟩ (by dsimp only; omega) (by simp [mayF, okN, withinB])
  have n10 := frPut_no ⟨k, r, u, ⟨1048577, c1, c2, c3, c4⟩, ev⟩ (by dsimp only; omega) (by simp [mayF, okC, okN, withinB])
  have n11 := frPut_no ⟨k, r, u, ⟨c0, 1048577, c2, c3, c4⟩, ev⟩ (by dsimp only; omega) (by simp [mayF, okC, okN, withinB])
  have n12 := frPut_no ⟨k, r, u, ⟨c0, c1, 1048577, c3, c4⟩, ev⟩ (by dsimp only; omega) (by simp [mayF, okC, okN, withinB])
  have n13 := frPut_no ⟨k, r, u, ⟨c0, c1, c2, 1048577, c4⟩, ev⟩ (by dsimp only; omega) (by simp [mayF, okC, okN, withinB])
  have n14 := frPut_no ⟨k, r, u, ⟨c0, c1, c2, c3, 1048577⟩, ev⟩ (by dsimp only; omega) (by simp [mayF, okC, okN, withinB])
  have n2 := frPut_no ⟨k, 5, u, ⟨c0, c1, c2, c3, c4⟩, ev⟩ (by dsimp only; omega) (by simp [mayF])
  have n3 := frPut_no ⟨6, r, u, ⟨c0, c1, c2, c3, c4⟩, ev⟩ (by dsimp only; omega) (by simp [mayF, shK])
  have n4 := frPut_no ⟨k, r, u, ⟨c0, c1, c2, c3, c4⟩, [] ++ ev ++ [zEv]⟩ (by simp; omega) (by have : mayE zEv = 1 := by { decide }; simp [mayF, evOk, this])
  have n5 := frPut_no ⟨0, r, u, ⟨c0, c1, c2, c3, c4⟩, ev⟩ (by dsimp only; omega) (by simp [mayF, shK])
  dsimp only [Rc.av, Rc.cs] at n0 n10 n11 n12 n13 n14 n2 n3 n4 n5 hput hfit ⊢
  refine aspec_of lay_ok 1284549556312055 Try.func9 rfl rfl rfl ?_
  repeat' ((conv => whnf); first | refine Spl.yes (by first | assumption | omega) ?_ | refine Spl.no (by first | assumption | omega) ?_ | refine Wr.i64 (by omega) (by omega) ?_ | refine Still.mk rfl rfl ?_ | refine InB.mk (inB_mk (by omega) (by omega)) ?_ | refine Req.mk (by omega) ?_ | refine Req.mk ⟨by first | omega | (dsimp only; omega), by first | omega | (dsimp only; omega)⟩ ?_ | refine ACall.plain _ _ (shown07_spec) .nil rfl ?_ | refine ACall.plain _ _ (hfit) (SubL.cons (.eq _) .nil) rfl ?_ | refine ACall.fresh _ _ _ _ _ _ _ (hput _) (SubL.cons (.eq _) .nil) rfl ?_ | refine ACall.plain _ _ (n0) (SubL.cons (.eq _) .nil) rfl ?_ | refine ACall.plain _ _ (n10) (SubL.cons (.eq _) .nil) rfl ?_ | refine ACall.plain _ _ (n11) (SubL.cons (.eq _) .nil) rfl ?_ | refine ACall.plain _ _ (n12) (SubL.cons (.eq _) .nil) rfl ?_ | refine ACall.plain _ _ (n13) (SubL.cons (.eq _) .nil) rfl ?_ | refine ACall.plain _ _ (n14) (SubL.cons (.eq _) .nil) rfl ?_ | refine ACall.plain _ _ (n2) (SubL.cons (.eq _) .nil) rfl ?_ | refine ACall.plain _ _ (n3) (SubL.cons (.eq _) .nil) rfl ?_ | refine ACall.plain _ _ (n5) (SubL.cons (.eq _) .nil) rfl ?_ | refine ACall.plain _ _ (n4.args (.of (fun X u h => C1.isE (IsE.app (IsE.app (IsE.nil _) (IsE.els _) rfl) (IsE.one rfl) (by simp)) (by simp) h) .nil)) (SubL.cons (.eq _) .nil) rfl ?_ | refine ACall.plain _ _ (takeBig_spec (by decide)) (SubL.cons (.eq _) .nil) rfl ?_ | refine AMk.full (by omega) rfl (by dsimp only; omega) (by omega) ?_ | refine Rm.m5 (by omega) (fun _ => ?_) (fun _ => ?_) (fun _ => ?_) (fun _ => ?_) (fun _ => ?_) | refine ARet.hdI ?_ | refine Spl.mk (fun _ => ?_) (fun _ => ?_) | refine Wr.b64 ?_ | refine Wr.bu64 ?_ | refine Wr.bu32 ?_ | refine Wr.bu8 ?_ | refine Wr.u8 (by omega) (by omega) ?_ | refine Wr.u64 (by omega) (by omega) ?_ | refine Wr.u32 (by omega) (by omega) ?_ | refine Dv.pos (by omega) (by omega) ?_ | refine Rm.pos (by omega) (by omega) ?_ | refine ADraw.quiet follows_ok (by kernel_rfl) rfl ?_ | refine BSpl.decY (by first | assumption | omega) ?_ | refine BSpl.decN (by first | assumption | omega) ?_ | refine BSpl.dec (fun _ => ?_) (fun _ => ?_) | refine BSpl.yes (by assumption) ?_ | refine BSpl.no (by assumption) ?_ | refine BSpl.mk (fun _ => ?_) (fun _ => ?_))
  all_goals (conv => whnf)
  all_goals exact AEqI.mk (AEq.refl _)
end Go.Proofs.Ytbmojelnkldecaa
