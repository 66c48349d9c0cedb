/-
  Contracts of the walk: LxO.
-/
import Derived.Test.YtkkpfjifkjbndaaGreatLOrds15
import Derived.Test.YtkkpfjifkjbndaaGreatLOrds16
import Derived.Test.YtkkpfjifkjbndaaGreatLOrds17
/-
  LiveOrders: the walk.
-/
namespace Go.Proofs.YtkkpfjifkjbndaaGreat
open Go.RowKit

theorem Bs.of' {n : Nat} {F : Nat → List AV} {K : List UInt8 → Prop} (l : List UInt8) (hF : IsB F l) (hn : n = l.length) (h : K l) : Bs n F K := .mk l hn (fun i hi => hF i (by omega)) h
set_option maxHeartbeats 8000000 in
set_option maxRecDepth 100000 in
theorem orders_true (l : List Ch0) (a b : List UInt8) (hr : ∀ c ∈ l, c.rng) (ha : a.length ≤ 140737488355328) (hb : b.length ≤ 140737488355328) :
    ASpec Tryz.prog 6 [.sl 7 l.length true (chF l), .sl 1 a.length true (bytesF a), .sl 1 b.length true (bytesF b)] (.v (.bool true)) [] := by
  have hsh := shown_spec
  have hst := short_spec l
  have hlt : (l.take 40).length ≤ 40 := by rw [List.length_take]; omega
  have hmk := make_spec (l.take 40) (by omega) (rng_of hr 40)
  have hRX := row_spread l a
  have hRY := row_spread l b
  have hW := mk_len l
  have hI := inv_of (l.take 40)
  have hI : Inv (makeL (l.take 40)) (mkS (l.take 40)).2 := hI
  generalize makeL (l.take 40) = W at hmk hW hI hRX hRY
  have hsa := spread_spec hI a (by omega) ha
  have hsb := spread_spec hI b (by omega) hb
  have hpa := spr_perm hI a
  have hpb := spr_perm hI b
  generalize sprL a W = X at hsa hpa hRX
  generalize sprL b W = Y at hsb hpb hRY
  have hXl := hRX.len
  have hYl := hRY.len
  have hax := fun i hi => hRX.apply (i := i) hi
  have hay := fun i hi => hRY.apply (i := i) hi
  have hlx := list_b hRX.all X.length (by omega) (by omega)
  have hly := list_b hRY.all Y.length (by omega) (by omega)
  have hzx := size_b X X.length (by omega)
  have hzy := size_b Y Y.length (by omega)
  rw [← of_perm hpa hI.stamp] at hlx
  rw [← of_perm hpb hI.stamp] at hly
  rw [← size_perm hpa] at hzx
  rw [← size_perm hpb] at hzy
  have hsum := of_few (l := W) (M := 12) (n := 40) (fun e he => by
    have := hI.fine e he
    exact ⟨by have := this.key; omega, this.v⟩) hW
  generalize ofB W = A at *
  obtain ⟨a1, a2, a3⟩ := bytes_mid (l := A) (by omega)
  have hba := fun d => bytes_spec d A false (by omega) a2 a3
  unfold rwT at hba
  generalize sizeB W = z at *
  have h0 := new_b
  generalize bookO = B at *
  clear hsum a2 hI hpa hpb hlt hr hRX hRY
  dsimp only [Ev.av] at hax hay
  refine aspec_of lay_ok 4504767858507719 Tryz.func6 rfl rfl rfl ?_
  repeat' ((conv => whnf); first | refine Spl.yes (by first | assumption | omega) ?_ | refine Spl.no (by first | assumption | omega) ?_ | refine Wr.i64 (by omega) (by omega) ?_ | refine Still.mk rfl rfl ?_ | refine InB.mk (inB_mk (by omega) (by omega)) ?_ | refine Req.mk (by omega) ?_ | refine Req.mk ⟨by first | omega | (dsimp only; omega), by first | omega | (dsimp only; omega)⟩ ?_ | refine ACall.plain _ _ (hsh) .nil rfl ?_ | refine ACall.plain _ _ (hst) (SubL.cons (.eq _) .nil) rfl ?_ | refine ACall.plain _ _ (hmk) (SubL.cons (.eq _) .nil) rfl ?_ | refine ACall.plain _ _ (hsa) (SubL.cons (.eq _) (SubL.cons (.eq _) .nil)) rfl ?_ | refine ACall.plain _ _ (hsb) (SubL.cons (.eq _) (SubL.cons (.eq _) .nil)) rfl ?_ | refine ACall.chgR 0 [] h0 rfl trivial rfl rfl ?_ | refine Spl.mk (fun _ => ?_) (fun _ => ?_) | refine InA.mk (inB_mk (by omega) (by omega)) ?_ | refine Wr.b64 ?_ | refine Wr.bu64 ?_ | refine Wr.bu32 ?_ | refine Wr.bu8 ?_ | refine Wr.u8 (by omega) (by omega) ?_ | refine Wr.u64 (by omega) (by omega) ?_ | refine Wr.u32 (by omega) (by omega) ?_ | refine Dv.pos (by omega) (by omega) ?_ | refine Rm.pos (by omega) (by omega) ?_ | refine ADraw.quiet follows_ok (by kernel_rfl) rfl ?_ | refine ADraw.sched (id := 17) lay_ok (awp_snd lay_ok _) [(0, none), (4, none), (1, some []), (2, some []), (3, none), (5, some []), (6, some []), (7, none), (8, none), (9, none), (10, none), (12, none), (11, some [8, 7, 3]), (13, some [8, 7, 3]), (14, none), (15, none), (16, none)] [(1, []), (2, []), (5, []), (6, []), (8, [7, 3]), (9, [8, 7, 3]), (10, [8, 7, 3]), (11, [8, 7, 3]), (12, [8, 7, 3]), (13, [8, 7, 3]), (14, [8, 7, 3]), (15, [8, 7, 3]), (16, [8, 7, 3])] follows_ok (by kernel_rfl) ?_ | refine BSpl.decY (by first | assumption | omega) ?_ | refine BSpl.decN (by first | assumption | omega) ?_ | refine BSpl.dec (fun _ => ?_) (fun _ => ?_) | refine BSpl.yes (by assumption) ?_ | refine BSpl.no (by assumption) ?_ | refine BSpl.mk (fun _ => ?_) (fun _ => ?_))
  conv => whnf
  refine ALoop.mk { j : Nat // j ≤ X.length } (fun j => ⟨[(9, .sl 12 X.length true (evF X)), (10, .sl 12 Y.length true (evF Y)), (11, .box 0 0), (12, .box 1 0), (13, .v (.int .i64 (j.1 : Int)))], [(0, .obs (B (X.take j.1) j.1)), (1, .obs (B [] 0))], [], 2⟩) (fun j => X.length - j.1) ⟨0, Nat.zero_le _⟩ _
    (LeR.mk' [] _ _ _ rfl ⟨AEq.refl _, AEq.refl _, AEq.refl _, AEq.refl _, AEq.int rfl, trivial⟩ ⟨⟨_, rfl, OEq.refl _⟩, ⟨_, rfl, OEq.refl _⟩, trivial⟩ rfl) ?_
  rintro ⟨j, hj⟩
  dsimp only
  by_cases hjl : j < X.length
  · have ha := hax j hjl
    repeat' ((conv => whnf); first | refine Spl.yes (by first | assumption | omega) ?_ | refine Spl.no (by first | assumption | omega) ?_ | refine Wr.i64 (by omega) (by omega) ?_ | refine Still.mk rfl rfl ?_ | refine InB.mk (inB_mk (by omega) (by omega)) ?_ | refine Req.mk (by omega) ?_ | refine Req.mk ⟨by first | omega | (dsimp only; omega), by first | omega | (dsimp only; omega)⟩ ?_ | refine ACall.chgR 1 [(0, _)] (ha) rfl ⟨rfl, trivial⟩ rfl rfl ?_ | refine Spl.mk (fun _ => ?_) (fun _ => ?_) | refine InA.mk (inB_mk (by omega) (by omega)) ?_ | refine Wr.b64 ?_ | refine Wr.bu64 ?_ | refine Wr.bu32 ?_ | refine Wr.bu8 ?_ | refine Wr.u8 (by omega) (by omega) ?_ | refine Wr.u64 (by omega) (by omega) ?_ | refine Wr.u32 (by omega) (by omega) ?_ | refine Dv.pos (by omega) (by omega) ?_ | refine Rm.pos (by omega) (by omega) ?_ | refine ADraw.quiet follows_ok (by kernel_rfl) rfl ?_ | refine ADraw.sched (id := 17) lay_ok (awp_snd lay_ok _) [(0, none), (4, none), (1, some []), (2, some []), (3, none), (5, some []), (6, some []), (7, none), (8, none), (9, none), (10, none), (12, none), (11, some [8, 7, 3]), (13, some [8, 7, 3]), (14, none), (15, none), (16, none)] [(1, []), (2, []), (5, []), (6, []), (8, [7, 3]), (9, [8, 7, 3]), (10, [8, 7, 3]), (11, [8, 7, 3]), (12, [8, 7, 3]), (13, [8, 7, 3]), (14, [8, 7, 3]), (15, [8, 7, 3]), (16, [8, 7, 3])] follows_ok (by kernel_rfl) ?_ | refine BSpl.decY (by first | assumption | omega) ?_ | refine BSpl.decN (by first | assumption | omega) ?_ | refine BSpl.dec (fun _ => ?_) (fun _ => ?_) | refine BSpl.yes (by assumption) ?_ | refine BSpl.no (by assumption) ?_ | refine BSpl.mk (fun _ => ?_) (fun _ => ?_))
    conv => whnf
    exact ⟨⟨j + 1, hjl⟩, _, LeR.mk' [] _ _ _ rfl ⟨AEq.refl _, AEq.refl _, AEq.refl _, AEq.refl _, AEq.int rfl, trivial⟩ ⟨⟨_, rfl, OEq.refl _⟩, ⟨_, rfl, OEq.refl _⟩, trivial⟩ rfl, by show X.length - (j + 1) < X.length - j; omega⟩
  · have hjn : j = X.length := by omega
    subst hjn
    rw [List.take_length]
    repeat' ((conv => whnf); first | refine Spl.yes (by first | assumption | omega) ?_ | refine Spl.no (by first | assumption | omega) ?_ | refine Wr.i64 (by omega) (by omega) ?_ | refine Still.mk rfl rfl ?_ | refine InB.mk (inB_mk (by omega) (by omega)) ?_ | refine Req.mk (by omega) ?_ | refine Req.mk ⟨by first | omega | (dsimp only; omega), by first | omega | (dsimp only; omega)⟩ ?_ | refine Spl.mk (fun _ => ?_) (fun _ => ?_) | refine InA.mk (inB_mk (by omega) (by omega)) ?_ | refine Wr.b64 ?_ | refine Wr.bu64 ?_ | refine Wr.bu32 ?_ | refine Wr.bu8 ?_ | refine Wr.u8 (by omega) (by omega) ?_ | refine Wr.u64 (by omega) (by omega) ?_ | refine Wr.u32 (by omega) (by omega) ?_ | refine Dv.pos (by omega) (by omega) ?_ | refine Rm.pos (by omega) (by omega) ?_ | refine ADraw.quiet follows_ok (by kernel_rfl) rfl ?_ | refine ADraw.sched (id := 17) lay_ok (awp_snd lay_ok _) [(0, none), (4, none), (1, some []), (2, some []), (3, none), (5, some []), (6, some []), (7, none), (8, none), (9, none), (10, none), (12, none), (11, some [8, 7, 3]), (13, some [8, 7, 3]), (14, none), (15, none), (16, none)] [(1, []), (2, []), (5, []), (6, []), (8, [7, 3]), (9, [8, 7, 3]), (10, [8, 7, 3]), (11, [8, 7, 3]), (12, [8, 7, 3]), (13, [8, 7, 3]), (14, [8, 7, 3]), (15, [8, 7, 3]), (16, [8, 7, 3])] follows_ok (by kernel_rfl) ?_ | refine BSpl.decY (by first | assumption | omega) ?_ | refine BSpl.decN (by first | assumption | omega) ?_ | refine BSpl.dec (fun _ => ?_) (fun _ => ?_) | refine BSpl.yes (by assumption) ?_ | refine BSpl.no (by assumption) ?_ | refine BSpl.mk (fun _ => ?_) (fun _ => ?_))
    conv => whnf
    refine ALoop.mk { j : Nat // j ≤ Y.length } (fun j => ⟨[(10, .sl 12 Y.length true (evF Y)), (11, .box 0 0), (12, .box 1 0), (14, .v (.int .i64 (j.1 : Int)))], [(0, .obs (B X X.length)), (1, .obs (B (Y.take j.1) j.1))], [], 2⟩) (fun j => Y.length - j.1) ⟨0, Nat.zero_le _⟩ _
      (LeR.mk' [] _ _ _ rfl ⟨AEq.refl _, AEq.refl _, AEq.refl _, AEq.int rfl, trivial⟩ ⟨⟨_, rfl, OEq.refl _⟩, ⟨_, rfl, OEq.refl _⟩, trivial⟩ rfl) ?_
    rintro ⟨j, hj⟩
    dsimp only
    by_cases hjl : j < Y.length
    · have ha := hay j hjl
      repeat' ((conv => whnf); first | refine Spl.yes (by first | assumption | omega) ?_ | refine Spl.no (by first | assumption | omega) ?_ | refine Wr.i64 (by omega) (by omega) ?_ | refine Still.mk rfl rfl ?_ | refine InB.mk (inB_mk (by omega) (by omega)) ?_ | refine Req.mk (by omega) ?_ | refine Req.mk ⟨by first | omega | (dsimp only; omega), by first | omega | (dsimp only; omega)⟩ ?_ | refine ACall.chgR 1 [(0, _)] (ha) rfl ⟨rfl, trivial⟩ rfl rfl ?_ | refine Spl.mk (fun _ => ?_) (fun _ => ?_) | refine InA.mk (inB_mk (by omega) (by omega)) ?_ | refine Wr.b64 ?_ | refine Wr.bu64 ?_ | refine Wr.bu32 ?_ | refine Wr.bu8 ?_ | refine Wr.u8 (by omega) (by omega) ?_ | refine Wr.u64 (by omega) (by omega) ?_ | refine Wr.u32 (by omega) (by omega) ?_ | refine Dv.pos (by omega) (by omega) ?_ | refine Rm.pos (by omega) (by omega) ?_ | refine ADraw.quiet follows_ok (by kernel_rfl) rfl ?_ | refine ADraw.sched (id := 17) lay_ok (awp_snd lay_ok _) [(0, none), (4, none), (1, some []), (2, some []), (3, none), (5, some []), (6, some []), (7, none), (8, none), (9, none), (10, none), (12, none), (11, some [8, 7, 3]), (13, some [8, 7, 3]), (14, none), (15, none), (16, none)] [(1, []), (2, []), (5, []), (6, []), (8, [7, 3]), (9, [8, 7, 3]), (10, [8, 7, 3]), (11, [8, 7, 3]), (12, [8, 7, 3]), (13, [8, 7, 3]), (14, [8, 7, 3]), (15, [8, 7, 3]), (16, [8, 7, 3])] follows_ok (by kernel_rfl) ?_ | refine BSpl.decY (by first | assumption | omega) ?_ | refine BSpl.decN (by first | assumption | omega) ?_ | refine BSpl.dec (fun _ => ?_) (fun _ => ?_) | refine BSpl.yes (by assumption) ?_ | refine BSpl.no (by assumption) ?_ | refine BSpl.mk (fun _ => ?_) (fun _ => ?_))
      conv => whnf
      exact ⟨⟨j + 1, hjl⟩, _, LeR.mk' [] _ _ _ rfl ⟨AEq.refl _, AEq.refl _, AEq.refl _, AEq.int rfl, trivial⟩ ⟨⟨_, rfl, OEq.refl _⟩, ⟨_, rfl, OEq.refl _⟩, trivial⟩ rfl, by show Y.length - (j + 1) < Y.length - j; omega⟩
    · have hjn : j = Y.length := by omega
      subst hjn
      rw [List.take_length]
      repeat' ((conv => whnf); first | refine Spl.yes (by first | assumption | omega) ?_ | refine Spl.no (by first | assumption | omega) ?_ | refine Wr.i64 (by omega) (by omega) ?_ | refine Still.mk rfl rfl ?_ | refine InB.mk (inB_mk (by omega) (by omega)) ?_ | refine Req.mk (by omega) ?_ | refine Req.mk ⟨by first | omega | (dsimp only; omega), by first | omega | (dsimp only; omega)⟩ ?_ | refine ACall.fresh _ _ _ _ _ _ _ (hba _) (SubL.cons (.eq _) .nil) rfl ?_ | refine ACall.chgR 1 [(0, _)] (hzx) rfl ⟨rfl, trivial⟩ rfl rfl ?_ | refine ACall.chgR 1 [(0, _)] (hzy) rfl ⟨rfl, trivial⟩ rfl rfl ?_ | refine ACall.chgR 3 [(0, _)] hlx rfl ⟨rfl, trivial⟩ rfl rfl ?_ | refine ACall.chgR 3 [(0, _)] hly rfl ⟨rfl, trivial⟩ rfl rfl ?_ | refine Bs.of' (bytesC A) (IsB.bytes _) rfl ?_ | refine ARet.hdI ?_ | refine Spl.mk (fun _ => ?_) (fun _ => ?_) | refine InA.mk (inB_mk (by omega) (by omega)) ?_ | refine Wr.b64 ?_ | refine Wr.bu64 ?_ | refine Wr.bu32 ?_ | refine Wr.bu8 ?_ | refine Wr.u8 (by omega) (by omega) ?_ | refine Wr.u64 (by omega) (by omega) ?_ | refine Wr.u32 (by omega) (by omega) ?_ | refine Dv.pos (by omega) (by omega) ?_ | refine Rm.pos (by omega) (by omega) ?_ | refine ADraw.quiet follows_ok (by kernel_rfl) rfl ?_ | refine ADraw.sched (id := 17) lay_ok (awp_snd lay_ok _) [(0, none), (4, none), (1, some []), (2, some []), (3, none), (5, some []), (6, some []), (7, none), (8, none), (9, none), (10, none), (12, none), (11, some [8, 7, 3]), (13, some [8, 7, 3]), (14, none), (15, none), (16, none)] [(1, []), (2, []), (5, []), (6, []), (8, [7, 3]), (9, [8, 7, 3]), (10, [8, 7, 3]), (11, [8, 7, 3]), (12, [8, 7, 3]), (13, [8, 7, 3]), (14, [8, 7, 3]), (15, [8, 7, 3]), (16, [8, 7, 3])] follows_ok (by kernel_rfl) ?_ | refine BSpl.decY (by first | assumption | omega) ?_ | refine BSpl.decN (by first | assumption | omega) ?_ | refine BSpl.dec (fun _ => ?_) (fun _ => ?_) | refine BSpl.yes (by assumption) ?_ | refine BSpl.no (by assumption) ?_ | refine BSpl.mk (fun _ => ?_) (fun _ => ?_))
      all_goals (conv => whnf)
      all_goals first
        | exact AEqI.mk (AEq.refl _)
        | exact absurd rfl (by assumption)
end Go.Proofs.YtkkpfjifkjbndaaGreat
