/-
  BookOrders: the walk.
-/
import Derived.Test.YtihjfndkgmjanaaPs3
import Derived.Test.YtihjfndkgmjanaaAp2
import Derived.Test.YtihjfndkgmjanaaFew
namespace Go.Proofs.Ytihjfndkgmjanaa
open Go.RowKit

theorem Bs.of {n : Nat} {F : Nat → List AV} {K : List UInt8 → Prop} (l : List UInt8) (hF : IsB F l) (hn : n = l.length) (h : K l) : Bs n F K := .mk l hn (fun i hi => hF i (by omega)) h
set_option maxHeartbeats 8000000 in
set_option maxRecDepth 100000 in
theorem orders_true (l : List Ch0) (picks : List UInt8) (hr : ∀ c ∈ l, c.rng) (hp : picks.length ≤ 140737488355328) :
    ASpec Try.prog 10 [.sl 7 l.length true (chF l), .sl 1 picks.length true (bytesF picks)] (.v (.bool true)) [] := by
  have hsh := shown_spec
  have hst := short_spec l
  have hlt : (l.take 40).length ≤ 40 := by rw [List.length_take]; omega
  have hmk := make_spec (l.take 40) (by omega) (rng_take hr 40)
  have hW := make_len l
  have hI := inv_of (l.take 40)
  have hI : Inv (makeL (l.take 40)) (mkS (l.take 40)).2 := hI
  generalize makeL (l.take 40) = W at hmk hW hI
  have hsp := spread_spec hI picks (by omega) hp
  have hpm := spr_perm hI picks
  generalize sprL picks W = S at hsp hpm
  have hSl : S.length = W.length := hpm.length_eq.symm
  have hofW := of_spec W (by omega)
  have hofS := of_spec S (by omega)
  rw [← of_perm hpm hI.stamp] at hofS
  have hszW := size_spec W (by omega)
  have hszS := size_spec S (by omega)
  rw [← size_perm hpm] at hszS
  have hsum := of_few (l := W) (M := 12) (n := 40) (fun e he => by
    have := hI.fine e he
    exact ⟨by have := this.key; omega, this.v⟩) hW
  generalize ofB W = A at *
  obtain ⟨a1, a2, a3⟩ := bytes_mid (l := A) (by omega)
  have hba := fun d => bytes_spec d A false (by omega) a2 a3
  unfold rwT at hba
  generalize sizeB W = z at *
  clear hsum a1 a2 hI hpm hlt hr
  refine aspec_of lay_ok 243 Try.func10 rfl rfl rfl ?_
  repeat' ((conv => whnf); first | refine Spl.yes (by first | assumption | omega) ?_ | refine Spl.no (by first | assumption | omega) ?_ | refine Wr.i64 (by omega) (by omega) ?_ | refine Still.mk rfl rfl ?_ | refine InB.mk (inB_mk (by omega) (by omega)) ?_ | refine Req.mk (by omega) ?_ | refine Req.mk ⟨by first | omega | (dsimp only; omega), by first | omega | (dsimp only; omega)⟩ ?_ | refine ACall.plain _ _ (hsh) .nil rfl ?_ | refine ACall.plain _ _ (hst) (SubL.cons (.eq _) .nil) rfl ?_ | refine ACall.plain _ _ (hmk) (SubL.cons (.eq _) .nil) rfl ?_ | refine ACall.plain _ _ (hsp) (SubL.cons (.eq _) (SubL.cons (.eq _) .nil)) rfl ?_ | refine ACall.plain _ _ (hofW) (SubL.cons (.eq _) .nil) rfl ?_ | refine ACall.plain _ _ (hofS) (SubL.cons (.eq _) .nil) rfl ?_ | refine ACall.plain _ _ (hszW) (SubL.cons (.eq _) .nil) rfl ?_ | refine ACall.plain _ _ (hszS) (SubL.cons (.eq _) .nil) rfl ?_ | refine ACall.fresh _ _ _ _ _ _ _ (hba _) (SubL.cons (.eq _) .nil) rfl ?_ | refine Bs.of (bytesC A) (IsB.bytes _) rfl ?_ | refine ARet.hdI ?_ | refine Spl.mk (fun _ => ?_) (fun _ => ?_) | refine InA.mk (inB_mk (by omega) (by omega)) ?_ | refine Wr.b64 ?_ | refine Wr.bu64 ?_ | refine Wr.bu32 ?_ | refine Wr.bu8 ?_ | refine Wr.u8 (by omega) (by omega) ?_ | refine Wr.u64 (by omega) (by omega) ?_ | refine Wr.u32 (by omega) (by omega) ?_ | refine Dv.pos (by omega) (by omega) ?_ | refine Rm.pos (by omega) (by omega) ?_ | refine ADraw.quiet follows_ok (by kernel_rfl) rfl ?_ | refine ADraw.sched (id := 4) lay_ok (awp_snd lay_ok _) [(0, none), (1, none), (2, none), (6, none), (3, some []), (4, some []), (5, none), (7, some []), (8, some []), (9, none), (10, none), (11, none), (12, none), (13, none), (15, none), (14, some [10, 9, 5]), (16, some [10, 9, 5]), (17, none), (18, none), (19, none)] [(3, []), (4, []), (7, []), (8, []), (10, [9, 5]), (11, [10, 9, 5]), (12, [10, 9, 5]), (13, [10, 9, 5]), (14, [10, 9, 5]), (15, [10, 9, 5]), (16, [10, 9, 5]), (17, [10, 9, 5]), (18, [10, 9, 5]), (19, [10, 9, 5])] follows_ok (by kernel_rfl) ?_ | refine BSpl.decY (by first | assumption | omega) ?_ | refine BSpl.decN (by first | assumption | omega) ?_ | refine BSpl.dec (fun _ => ?_) (fun _ => ?_) | refine BSpl.yes (by assumption) ?_ | refine BSpl.no (by assumption) ?_ | refine BSpl.mk (fun _ => ?_) (fun _ => ?_))
  all_goals (conv => whnf)
  all_goals first
    | exact AEqI.mk (AEq.refl _)
    | exact absurd rfl (by assumption)
end Go.Proofs.Ytihjfndkgmjanaa
