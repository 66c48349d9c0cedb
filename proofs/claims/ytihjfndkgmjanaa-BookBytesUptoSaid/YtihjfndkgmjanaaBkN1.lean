/-
  BookBytes: the walk.
-/
import Derived.Test.YtihjfndkgmjanaaBkB2
import Derived.Test.YtihjfndkgmjanaaBkP1
import Derived.Test.YtihjfndkgmjanaaBkR
import Derived.Test.YtihjfndkgmjanaaBkI
namespace Go.Proofs.Ytihjfndkgmjanaa
open Go.RowKit

theorem Bs.of {n : Nat} {F : Nat → List AV} {K : List UInt8 → Prop} (l : List UInt8) (hF : IsB F l) (hn : n = l.length) (h : K l) : Bs n F K := .mk l hn (fun i hi => hF i (by omega)) h
theorem plainW (c : Cont) : contW (plainC c) ≤ contW c + 1 := by
  have h0 : setW (c.s0.take 10) ≤ setW c.s0 := by unfold setW; have := sum_take (m := strW) c.s0 10; omega
  have h1 : setW (c.s1.take 10) ≤ setW c.s1 := by unfold setW; have := sum_take (m := strW) c.s1 10; omega
  have h2 : (kS ++ c.key).size = 1 + c.key.size := by rw [ByteArray.size_append]; rfl
  have h3 : (if c.h0 = true then c.f0 else ⟨#[]⟩ : ByteArray).size ≤ c.f0.size := by split; exact Nat.le_refl _; exact Nat.zero_le _
  have h4 : (if c.h1 = true then c.f1 else ⟨#[]⟩ : ByteArray).size ≤ c.f1.size := by split; exact Nat.le_refl _; exact Nat.zero_le _
  unfold contW plainC
  simp only
  omega
theorem plain_sum (l : List Cont) : ((plainB l).map contW).sum ≤ 2 * (l.map contW).sum := by
  have h1 : ∀ l : List Cont, ((l.map plainC).map contW).sum ≤ 2 * (l.map contW).sum := by
    intro l
    induction l with
    | nil => simp
    | cons c l ih =>
      have := plainW c
      have := contW_pos c
      simp only [List.map_cons, List.sum_cons]
      omega
  have h2 := h1 (l.take 10)
  have h3 := sum_take (m := contW) l 10
  unfold plainB
  omega
theorem plain_neat (l : List Cont) : ∀ c ∈ plainB l, c.neat := fun c hc => by
  obtain ⟨x, _, rfl⟩ := List.mem_map.1 hc
  exact ⟨fun h => by have h : x.h0 = false := h; simp [plainC, h], fun h => by have h : x.h1 = false := h; simp [plainC, h]⟩
theorem arr_inj {x y : List UInt8} (h : (⟨x.toArray⟩ : ByteArray) = ⟨y.toArray⟩) : x = y := str_cell h

set_option maxHeartbeats 8000000 in
set_option maxRecDepth 100000 in
theorem bookBytes_true (a b : List Cont) (ha : (a.map contW).sum ≤ 1048576) (hb : (b.map contW).sum ≤ 1048576) :
    ASpec Try.prog 3 [.sl 7 a.length false (coF a), .sl 7 b.length false (coF b)] (.v (.bool true)) [] := by
  have hsh := shown_spec
  have hka : ∀ (l : List Cont), (l.map contW).sum ≤ 1048576 → ∀ c ∈ l, c.key.size ≤ 140737488355328 := fun l hl c hc => by
    have := sum_mem (m := contW) hc
    unfold contW at this hl
    omega
  have hpa := plain_spec a (hka a ha)
  have hpb := plain_spec b (hka b hb)
  have sa := plain_sum a
  have sb := plain_sum b
  have na := plain_neat a
  have nb := plain_neat b
  generalize plainB a = x at hpa sa na
  generalize plainB b = y at hpb sb nb
  obtain ⟨x1, x2, x3⟩ := bytes_small (l := x) (by omega)
  obtain ⟨y1, y2, y3⟩ := bytes_small (l := y) (by omega)
  have hbx := fun d => bytes_spec d x false (by omega) x2 x3
  have hby := fun d => bytes_spec d y false (by omega) y2 y3
  have hb0 : ∀ d, ASpec Try.prog 13 [.v (.slice none 0 0)] (.own d) [(d, rwT (bytesC []))] := fun d => (bytes_spec d [] false (by simp) (fun c hc => by cases hc) (by simp [bytesC])).args (.of (fun X u h => C1.nilS (by decide) h) .nil)
  have hinj : bytesC x = bytesC y → x = y := bytes_inj (fun c hc => ⟨x2 c hc, na c hc⟩) (fun c hc => ⟨y2 c hc, nb c hc⟩)
  have hsl : ∀ c ∈ x, c.s0.length ≤ 140737488355328 ∧ c.s1.length ≤ 140737488355328 := fun c hc => by
    obtain ⟨_, _, _, ⟨h1, _⟩, h2, _⟩ := x2 c hc
    omega
  have hiff : (⟨(bytesC x).toArray⟩ : ByteArray) = ⟨(bytesC y).toArray⟩ ↔ x = y := ⟨fun h => hinj (arr_inj h), fun h => by rw [h]⟩
  by_cases hxy : x = y
  · have hsm := same_spec x y false false true (by simp [hxy]) (by omega) hsl
    have hq := hiff.2 hxy
    unfold rwT at hbx hby hb0
    refine aspec_of lay_ok 243 Try.func3 rfl rfl rfl ?_
    repeat' ((conv => whnf); first | refine Spl.yes (by first | assumption | omega) ?_ | refine Spl.no (by first | assumption | omega) ?_ | refine Wr.i64 (by omega) (by omega) ?_ | refine Still.mk rfl rfl ?_ | refine InB.mk (inB_mk (by omega) (by omega)) ?_ | refine Req.mk (by omega) ?_ | refine Req.mk ⟨by first | omega | (dsimp only; omega), by first | omega | (dsimp only; omega)⟩ ?_ | refine ACall.plain _ _ (hsh) .nil rfl ?_ | refine ACall.plain _ _ (hpa) (SubL.cons (.eq _) .nil) rfl ?_ | refine ACall.plain _ _ (hpb) (SubL.cons (.eq _) .nil) rfl ?_ | refine ACall.fresh _ _ _ _ _ _ _ (hbx _) (SubL.cons (.eq _) .nil) rfl ?_ | refine ACall.fresh _ _ _ _ _ _ _ (hby _) (SubL.cons (.eq _) .nil) rfl ?_ | refine ACall.fresh _ _ _ _ _ _ _ (hb0 _) (SubL.cons (.eq _) .nil) rfl ?_ | refine ACall.plain _ _ (hsm) (SubL.cons (.eq _) (SubL.cons (.eq _) .nil)) rfl ?_ | refine Bs.of (bytesC x) (IsB.bytes _) rfl ?_ | refine Bs.of (bytesC y) (IsB.bytes _) rfl ?_ | refine ARet.hdI ?_ | refine Spl.mk (fun _ => ?_) (fun _ => ?_) | refine Wr.b64 ?_ | refine Wr.bu64 ?_ | refine Wr.bu32 ?_ | refine Wr.bu8 ?_ | refine Wr.u8 (by omega) (by omega) ?_ | refine Wr.u64 (by omega) (by omega) ?_ | refine Wr.u32 (by omega) (by omega) ?_ | refine Dv.pos (by omega) (by omega) ?_ | refine Rm.pos (by omega) (by omega) ?_ | refine ADraw.quiet follows_ok (by kernel_rfl) rfl ?_ | refine ADraw.sched (id := 4) lay_ok (awp_snd lay_ok _) [(0, none), (1, none), (2, none), (5, none), (9, none), (10, none), (3, some []), (4, none), (6, some []), (7, none), (8, none), (11, some []), (12, none), (13, none), (14, none), (15, some [12, 8, 7, 4]), (16, none), (17, none), (18, none), (19, none)] [(3, []), (6, []), (8, [7, 4]), (11, []), (12, [8, 7, 4]), (13, [12, 8, 7, 4]), (14, [12, 8, 7, 4]), (15, [12, 8, 7, 4]), (16, [12, 8, 7, 4]), (17, [12, 8, 7, 4]), (18, [12, 8, 7, 4]), (19, [12, 8, 7, 4])] follows_ok (by kernel_rfl) ?_ | refine BSpl.decY (by first | assumption | omega) ?_ | refine BSpl.decN (by first | assumption | omega) ?_ | refine BSpl.dec (fun _ => ?_) (fun _ => ?_) | refine BSpl.yes (by assumption) ?_ | refine BSpl.no (by assumption) ?_ | refine BSpl.mk (fun _ => ?_) (fun _ => ?_))
    all_goals (conv => whnf)
    all_goals first
      | exact AEqI.mk (AEq.refl _)
      | exact absurd (show ((bytesC []).length : Int) = 0 from rfl) (by assumption)
  · have hsm := same_spec x y false false false (by simp [hxy]) (by omega) hsl
    have hq := mt hiff.1 hxy
    unfold rwT at hbx hby hb0
    refine aspec_of lay_ok 243 Try.func3 rfl rfl rfl ?_
    repeat' ((conv => whnf); first | refine Spl.yes (by first | assumption | omega) ?_ | refine Spl.no (by first | assumption | omega) ?_ | refine Wr.i64 (by omega) (by omega) ?_ | refine Still.mk rfl rfl ?_ | refine InB.mk (inB_mk (by omega) (by omega)) ?_ | refine Req.mk (by omega) ?_ | refine Req.mk ⟨by first | omega | (dsimp only; omega), by first | omega | (dsimp only; omega)⟩ ?_ | refine ACall.plain _ _ (hsh) .nil rfl ?_ | refine ACall.plain _ _ (hpa) (SubL.cons (.eq _) .nil) rfl ?_ | refine ACall.plain _ _ (hpb) (SubL.cons (.eq _) .nil) rfl ?_ | refine ACall.fresh _ _ _ _ _ _ _ (hbx _) (SubL.cons (.eq _) .nil) rfl ?_ | refine ACall.fresh _ _ _ _ _ _ _ (hby _) (SubL.cons (.eq _) .nil) rfl ?_ | refine ACall.fresh _ _ _ _ _ _ _ (hb0 _) (SubL.cons (.eq _) .nil) rfl ?_ | refine ACall.plain _ _ (hsm) (SubL.cons (.eq _) (SubL.cons (.eq _) .nil)) rfl ?_ | refine Bs.of (bytesC x) (IsB.bytes _) rfl ?_ | refine Bs.of (bytesC y) (IsB.bytes _) rfl ?_ | refine ARet.hdI ?_ | refine Spl.mk (fun _ => ?_) (fun _ => ?_) | refine Wr.b64 ?_ | refine Wr.bu64 ?_ | refine Wr.bu32 ?_ | refine Wr.bu8 ?_ | refine Wr.u8 (by omega) (by omega) ?_ | refine Wr.u64 (by omega) (by omega) ?_ | refine Wr.u32 (by omega) (by omega) ?_ | refine Dv.pos (by omega) (by omega) ?_ | refine Rm.pos (by omega) (by omega) ?_ | refine ADraw.quiet follows_ok (by kernel_rfl) rfl ?_ | refine ADraw.sched (id := 4) lay_ok (awp_snd lay_ok _) [(0, none), (1, none), (2, none), (5, none), (9, none), (10, none), (3, some []), (4, none), (6, some []), (7, none), (8, none), (11, some []), (12, none), (13, none), (14, none), (15, some [12, 8, 7, 4]), (16, none), (17, none), (18, none), (19, none)] [(3, []), (6, []), (8, [7, 4]), (11, []), (12, [8, 7, 4]), (13, [12, 8, 7, 4]), (14, [12, 8, 7, 4]), (15, [12, 8, 7, 4]), (16, [12, 8, 7, 4]), (17, [12, 8, 7, 4]), (18, [12, 8, 7, 4]), (19, [12, 8, 7, 4])] follows_ok (by kernel_rfl) ?_ | refine BSpl.decY (by first | assumption | omega) ?_ | refine BSpl.decN (by first | assumption | omega) ?_ | refine BSpl.dec (fun _ => ?_) (fun _ => ?_) | refine BSpl.yes (by assumption) ?_ | refine BSpl.no (by assumption) ?_ | refine BSpl.mk (fun _ => ?_) (fun _ => ?_))
    all_goals (conv => whnf)
    all_goals first
      | exact AEqI.mk (AEq.refl _)
      | exact absurd (show ((bytesC []).length : Int) = 0 from rfl) (by assumption)
end Go.Proofs.Ytihjfndkgmjanaa
