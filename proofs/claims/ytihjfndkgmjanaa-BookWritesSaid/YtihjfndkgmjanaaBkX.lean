/-
  BookWrites: the walk.
-/
import Derived.Test.YtihjfndkgmjanaaBkI
namespace Go.Proofs.Ytihjfndkgmjanaa
open Go.RowKit

theorem Bs.of {n : Nat} {F : Nat → List AV} {K : List UInt8 → Prop} (l : List UInt8) (hF : IsB F l) (hn : n = l.length) (h : K l) : Bs n F K := .mk l hn (fun i hi => hF i (by omega)) h
def crE : Ev := ⟨0, 1, ⟨0, 0, 0, 0, 0⟩, 1, 1, cyS, 0, ⟨#[]⟩⟩
/-- What replica r writes as its k-th. -/
def wrV (r k : Nat) : ByteArray := ⟨#[byteOf' (97 + (r : Int)), byteOf' (48 + (k : Int))]⟩
def wrE : Nat → Nat → Ev
  | 0, k => ⟨0, (k : Int) + 2, ⟨(k : Int) + 2 - 1, 0, 0, 0, 0⟩, (k : Int) + 2, 3, cyS, 0, wrV 0 k⟩
  | 1, k => ⟨1, (k : Int) + 1, ⟨1, (k : Int) + 1 - 1, 0, 0, 0⟩, (k : Int) + 2, 3, cyS, 0, wrV 1 k⟩
  | 2, k => ⟨2, (k : Int) + 1, ⟨1, 0, (k : Int) + 1 - 1, 0, 0⟩, (k : Int) + 2, 3, cyS, 0, wrV 2 k⟩
  | 3, k => ⟨3, (k : Int) + 1, ⟨1, 0, 0, (k : Int) + 1 - 1, 0⟩, (k : Int) + 2, 3, cyS, 0, wrV 3 k⟩
  | r, k => ⟨(r : Int), (k : Int) + 1, ⟨1, 0, 0, 0, (k : Int) + 1 - 1⟩, (k : Int) + 2, 3, cyS, 0, wrV r k⟩
def wrB (r m : Nat) : List Ev := (List.range m).map (wrE r)
theorem wrB_succ (r m : Nat) : wrB r (m + 1) = wrB r m ++ [wrE r m] := by rw [wrB, List.range_succ, List.map_append]; rfl
theorem wrB_len (r m : Nat) : (wrB r m).length = m := by simp [wrB]
/-- All, up to replica r. -/
def wrL (ms : List Nat) : Nat → List Ev
  | 0 => [crE]
  | r + 1 => wrL ms r ++ wrB r (ms.getD r 0)
/-- Whose the last one is, of how many. -/
def bestN (ms : List Nat) : Nat → Int × Nat
  | 0 => (-1, 0)
  | r + 1 => if (bestN ms r).2 ≤ ms.getD r 0 ∧ 0 < ms.getD r 0 then ((r : Int), ms.getD r 0) else bestN ms r
structure Won (c : Cont) (b : Int × Nat) : Prop where
  none : b.1 < 0 → c.h0 = false
  some : ¬ b.1 < 0 → 0 < b.2 ∧ b.1 ≤ 4 ∧ b.2 ≤ 7 ∧ c.f0 = ⟨#[byteOf' (97 + b.1), byteOf' (48 + (b.2 : Int) - 1)]⟩

set_option maxHeartbeats 8000000 in
set_option maxRecDepth 100000 in
theorem writes_spec (a0 a1 a2 a3 a4 : Int) (m0 m1 m2 m3 m4 : Nat) (h0 : 0 ≤ a0 ∧ a0 ≤ 255) (h1 : 0 ≤ a1 ∧ a1 ≤ 255) (h2 : 0 ≤ a2 ∧ a2 ≤ 255) (h3 : 0 ≤ a3 ∧ a3 ≤ 255) (h4 : 0 ≤ a4 ∧ a4 ≤ 255)
    (e0 : a0 % 8 = (m0 : Int)) (e1 : a1 % 8 = (m1 : Int)) (e2 : a2 % 8 = (m2 : Int)) (e3 : a3 % 8 = (m3 : Int)) (e4 : a4 % 8 = (m4 : Int)) (cO : Cont) (hO : ofB (wrL [m0, m1, m2, m3, m4] 5) = [cO]) (hw : Won cO (bestN [m0, m1, m2, m3, m4] 5)) :
    ASpec Try.prog 4 [.agg [.v (.int .u8 a0), .v (.int .u8 a1), .v (.int .u8 a2), .v (.int .u8 a3), .v (.int .u8 a4)]] (.v (.bool true)) [] := by
  have hsh := shown_spec
  have hlw : ∀ r, r ≤ 5 → (wrL [m0, m1, m2, m3, m4] r).length ≤ 1 + 7 * r := by
    intro r
    induction r with
    | zero => intro _; simp [wrL]
    | succ r ih =>
      intro hr
      have := ih (by omega)
      rw [wrL, List.length_append, wrB_len]
      rcases (show r = 0 ∨ r = 1 ∨ r = 2 ∨ r = 3 ∨ r = 4 by omega) with rfl | rfl | rfl | rfl | rfl <;> simp only [List.getD_cons_zero, List.getD_cons_succ] <;> omega
  have hbw : ∀ r, r ≤ 5 → (bestN [m0, m1, m2, m3, m4] r).2 ≤ 7 := by
    intro r
    induction r with
    | zero => intro _; simp [bestN]
    | succ r ih =>
      intro hr
      have := ih (by omega)
      rw [bestN]
      split
      · rcases (show r = 0 ∨ r = 1 ∨ r = 2 ∨ r = 3 ∨ r = 4 by omega) with rfl | rfl | rfl | rfl | rfl <;> simp only [List.getD_cons_zero, List.getD_cons_succ] <;> omega
      · exact this
  have hof := of_spec (wrL [m0, m1, m2, m3, m4] 5) (by have := hlw 5 (by omega); omega)
  rw [hO] at hof
  refine aspec_of lay_ok 377826212152903475466239 Try.func4 rfl rfl rfl ?_
  repeat' ((conv => whnf); first | refine Spl.yes (by first | assumption | omega) ?_ | refine Spl.no (by first | assumption | omega) ?_ | refine Wr.i64 (by omega) (by omega) ?_ | refine Still.mk rfl rfl ?_ | refine InB.mk (inB_mk (by omega) (by omega)) ?_ | refine Req.mk (by omega) ?_ | refine Req.mk ⟨by first | omega | (dsimp only; omega), by first | omega | (dsimp only; omega)⟩ ?_ | refine ACall.plain _ _ (hsh) .nil rfl ?_ | refine ARet.hdI ?_ | refine Spl.mk (fun _ => ?_) (fun _ => ?_) | refine Wr.b64 ?_ | refine Wr.bu64 ?_ | refine Wr.bu32 ?_ | refine Wr.bu8 ?_ | refine Wr.u8 (by omega) (by omega) ?_ | refine Wr.u64 (by omega) (by omega) ?_ | refine Wr.u32 (by omega) (by omega) ?_ | refine Dv.pos (by omega) (by omega) ?_ | refine Rm.pos (by omega) (by omega) ?_ | refine ADraw.quiet follows_ok (by kernel_rfl) rfl ?_ | refine ADraw.sched (id := 25) lay_ok (awp_snd lay_ok _) [(0, none), (1, none), (2, none), (3, none), (4, none), (5, none), (6, none), (7, none), (8, none), (9, none), (10, none), (11, none), (12, some [11, 10, 9, 7, 6]), (13, none), (14, none), (15, none)] [(7, [6]), (10, [9]), (11, [10, 9]), (12, [11, 10, 9, 7, 6]), (13, [11, 10, 9, 7, 6]), (14, [11, 10, 9, 7, 6]), (15, [11, 10, 9, 7, 6])] follows_ok (by kernel_rfl) ?_ | refine BSpl.decY (by first | assumption | omega) ?_ | refine BSpl.decN (by first | assumption | omega) ?_ | refine BSpl.dec (fun _ => ?_) (fun _ => ?_) | refine BSpl.yes (by assumption) ?_ | refine BSpl.no (by assumption) ?_ | refine BSpl.mk (fun _ => ?_) (fun _ => ?_))
  conv => whnf
  refine ALoop.mk { r : Nat // r ≤ 5 } (fun r => ⟨[(1, .box 0 0), (3, .v (.bool true)), (4, .own 90), (5, .v (.int .i64 (bestN [m0, m1, m2, m3, m4] r.1).1)), (6, .v (.int .i64 ((bestN [m0, m1, m2, m3, m4] r.1).2 : Int))), (7, .v (.int .i64 (r.1 : Int)))],
      [(0, .box 28 [.v (.int .u8 a0), .v (.int .u8 a1), .v (.int .u8 a2), .v (.int .u8 a3), .v (.int .u8 a4)]), (90, .row 32 12 (wrL [m0, m1, m2, m3, m4] r.1).length true (evF (wrL [m0, m1, m2, m3, m4] r.1)))], [], 91⟩) (fun r => 5 - r.1) ⟨0, Nat.zero_le _⟩ _
    (LeR.mk' [(1, 90)] _ _ _ rfl ⟨AEq.refl _, AEq.refl _, AEq.refl _, AEq.refl _, AEq.int rfl, AEq.int rfl, trivial⟩ ⟨⟨_, rfl, OEq.refl _⟩, ⟨_, rfl, OEq.row rfl (fun m hm => by have hm : m < 1 := hm; obtain rfl : m = 0 := (by omega); rfl)⟩, trivial⟩ rfl) ?_
  rintro ⟨r, hr⟩
  dsimp only
  have hll := hlw r hr
  have hbl := hbw r hr
  have eqE {X Y : List Ev} (h : X = Y) : OEq (.row 32 12 X.length true (evF X)) (.row 32 12 Y.length true (evF Y)) := by rw [h]; exact OEq.refl _
  obtain rfl | rfl | rfl | rfl | rfl | rfl : r = 0 ∨ r = 1 ∨ r = 2 ∨ r = 3 ∨ r = 4 ∨ r = 5 := by omega
  · have hns : wrL [m0, m1, m2, m3, m4] 1 = wrL [m0, m1, m2, m3, m4] 0 ++ wrB 0 m0 := rfl
    have hnb : bestN [m0, m1, m2, m3, m4] 1 = if (bestN [m0, m1, m2, m3, m4] 0).2 ≤ m0 ∧ 0 < m0 then (((0 : Nat) : Int), m0) else bestN [m0, m1, m2, m3, m4] 0 := rfl
    generalize wrL [m0, m1, m2, m3, m4] 0 = L at *
    generalize bestN [m0, m1, m2, m3, m4] 0 = B at *
    obtain ⟨b, hi⟩ := B
    dsimp only at hnb hbl ⊢
    have hmod : (a0 % 8 : Int) = (m0 : Int) := e0
    have hm7 : m0 ≤ 7 := by omega
    repeat' ((conv => whnf); first | refine Spl.yes (by first | assumption | omega) ?_ | refine Spl.no (by first | assumption | omega) ?_ | refine Wr.i64 (by omega) (by omega) ?_ | refine Still.mk rfl rfl ?_ | refine InB.mk (inB_mk (by omega) (by omega)) ?_ | refine Req.mk (by omega) ?_ | refine Req.mk ⟨by first | omega | (dsimp only; omega), by first | omega | (dsimp only; omega)⟩ ?_ | refine ARet.hdI ?_ | refine Spl.mk (fun _ => ?_) (fun _ => ?_) | refine Wr.b64 ?_ | refine Wr.bu64 ?_ | refine Wr.bu32 ?_ | refine Wr.bu8 ?_ | refine Wr.u8 (by omega) (by omega) ?_ | refine Wr.u64 (by omega) (by omega) ?_ | refine Wr.u32 (by omega) (by omega) ?_ | refine Dv.pos (by omega) (by omega) ?_ | refine Rm.pos (by omega) (by omega) ?_ | refine ADraw.quiet follows_ok (by kernel_rfl) rfl ?_ | refine ADraw.sched (id := 25) lay_ok (awp_snd lay_ok _) [(0, none), (1, none), (2, none), (3, none), (4, none), (5, none), (6, none), (7, none), (8, none), (9, none), (10, none), (11, none), (12, some [11, 10, 9, 7, 6]), (13, none), (14, none), (15, none)] [(7, [6]), (10, [9]), (11, [10, 9]), (12, [11, 10, 9, 7, 6]), (13, [11, 10, 9, 7, 6]), (14, [11, 10, 9, 7, 6]), (15, [11, 10, 9, 7, 6])] follows_ok (by kernel_rfl) ?_ | refine BSpl.decY (by first | assumption | omega) ?_ | refine BSpl.decN (by first | assumption | omega) ?_ | refine BSpl.dec (fun _ => ?_) (fun _ => ?_) | refine BSpl.yes (by assumption) ?_ | refine BSpl.no (by assumption) ?_ | refine BSpl.mk (fun _ => ?_) (fun _ => ?_))
    conv => whnf
    refine ALoop.mk { k : Nat // k ≤ m0 } (fun k => ⟨[(1, .box 0 0), (3, .v (.bool true)), (4, .own 90), (5, .v (.int .i64 b)), (6, .v (.int .i64 (hi : Int))), (7, .v (.int .i64 0)), (8, .v (.int .i64 (m0 : Int))), (9, .v (.int .i64 (k.1 : Int)))],
        [(0, .box 28 [.v (.int .u8 a0), .v (.int .u8 a1), .v (.int .u8 a2), .v (.int .u8 a3), .v (.int .u8 a4)]), (90, .row 32 12 (L ++ wrB 0 k.1).length true (evF (L ++ wrB 0 k.1)))], [], 91⟩) (fun k => m0 - k.1) ⟨0, Nat.zero_le _⟩ _
      (LeR.mk' [] _ _ _ rfl ⟨AEq.refl _, AEq.refl _, AEq.refl _, AEq.int rfl, AEq.int rfl, AEq.int rfl, AEq.int hmod, AEq.int rfl, trivial⟩ ⟨⟨_, rfl, OEq.refl _⟩, ⟨_, rfl, eqE (by simp [wrB])⟩, trivial⟩ rfl) ?_
    rintro ⟨k, hk⟩
    dsimp only
    have hlk : (L ++ wrB 0 k).length = L.length + k := by rw [List.length_append, wrB_len]
    by_cases hkm : k < m0
    · have hg : L ++ wrB 0 (k + 1) = (L ++ wrB 0 k) ++ [wrE 0 k] := by rw [wrB_succ, List.append_assoc]
      repeat' ((conv => whnf); first | refine Spl.yes (by first | assumption | omega) ?_ | refine Spl.no (by first | assumption | omega) ?_ | refine Wr.i64 (by omega) (by omega) ?_ | refine Still.mk rfl rfl ?_ | refine InB.mk (inB_mk (by omega) (by omega)) ?_ | refine Req.mk (by omega) ?_ | refine Req.mk ⟨by first | omega | (dsimp only; omega), by first | omega | (dsimp only; omega)⟩ ?_ | refine Bs.of [byteOf' (97 + 0), byteOf' (48 + (k : Int))] (IsB.two (by omega) (by omega) (by omega) (by omega)) rfl ?_ | refine ARet.hdI ?_ | refine Spl.mk (fun _ => ?_) (fun _ => ?_) | refine Wr.b64 ?_ | refine Wr.bu64 ?_ | refine Wr.bu32 ?_ | refine Wr.bu8 ?_ | refine Wr.u8 (by omega) (by omega) ?_ | refine Wr.u64 (by omega) (by omega) ?_ | refine Wr.u32 (by omega) (by omega) ?_ | refine Dv.pos (by omega) (by omega) ?_ | refine Rm.pos (by omega) (by omega) ?_ | refine ADraw.quiet follows_ok (by kernel_rfl) rfl ?_ | refine ADraw.sched (id := 25) lay_ok (awp_snd lay_ok _) [(0, none), (1, none), (2, none), (3, none), (4, none), (5, none), (6, none), (7, none), (8, none), (9, none), (10, none), (11, none), (12, some [11, 10, 9, 7, 6]), (13, none), (14, none), (15, none)] [(7, [6]), (10, [9]), (11, [10, 9]), (12, [11, 10, 9, 7, 6]), (13, [11, 10, 9, 7, 6]), (14, [11, 10, 9, 7, 6]), (15, [11, 10, 9, 7, 6])] follows_ok (by kernel_rfl) ?_ | refine BSpl.decY (by first | assumption | omega) ?_ | refine BSpl.decN (by first | assumption | omega) ?_ | refine BSpl.dec (fun _ => ?_) (fun _ => ?_) | refine BSpl.yes (by assumption) ?_ | refine BSpl.no (by assumption) ?_ | refine BSpl.mk (fun _ => ?_) (fun _ => ?_))
      conv => whnf
      refine ⟨⟨k + 1, hkm⟩, _, LeR.mk' [(94, 90)] _ _ _ rfl ⟨AEq.refl _, AEq.refl _, AEq.refl _, AEq.refl _, AEq.refl _, AEq.refl _, AEq.refl _, AEq.int rfl, trivial⟩ ⟨⟨_, rfl, OEq.refl _⟩, ⟨_, rfl, OEq.row ?_ (fun m hm => ?_)⟩, trivial⟩ rfl, Nat.sub_succ_lt_self _ _ hkm⟩
      · show _ = (L ++ wrB 0 (k + 1)).length
        rw [hg]
        simp only [List.length_append, List.length_cons, List.length_nil]
      · show _ = evF (L ++ wrB 0 (k + 1)) m
        rw [hg]
        exact els_app1 (c := Ev.cs) rfl rfl m hm
    · rw [show k = m0 by omega]
      rw [← hns]
      have hB1 : hi ≤ m0 → 0 < m0 → bestN [m0, m1, m2, m3, m4] 1 = (((0 : Nat) : Int), m0) := fun h h' => by rw [hnb, if_pos ⟨h, h'⟩]
      have hB2 : ¬ (hi ≤ m0 ∧ 0 < m0) → bestN [m0, m1, m2, m3, m4] 1 = (b, hi) := fun h => by rw [hnb, if_neg h]
      have hnl : ¬ k < m0 := hkm
      repeat' ((conv => whnf); first | refine Spl.yes (by first | assumption | omega) ?_ | refine Spl.no (by first | assumption | omega) ?_ | refine Wr.i64 (by omega) (by omega) ?_ | refine Still.mk rfl rfl ?_ | refine InB.mk (inB_mk (by omega) (by omega)) ?_ | refine Req.mk (by omega) ?_ | refine Req.mk ⟨by first | omega | (dsimp only; omega), by first | omega | (dsimp only; omega)⟩ ?_ | refine ARet.hdI ?_ | refine Spl.mk (fun _ => ?_) (fun _ => ?_) | refine Wr.b64 ?_ | refine Wr.bu64 ?_ | refine Wr.bu32 ?_ | refine Wr.bu8 ?_ | refine Wr.u8 (by omega) (by omega) ?_ | refine Wr.u64 (by omega) (by omega) ?_ | refine Wr.u32 (by omega) (by omega) ?_ | refine Dv.pos (by omega) (by omega) ?_ | refine Rm.pos (by omega) (by omega) ?_ | refine ADraw.quiet follows_ok (by kernel_rfl) rfl ?_ | refine ADraw.sched (id := 25) lay_ok (awp_snd lay_ok _) [(0, none), (1, none), (2, none), (3, none), (4, none), (5, none), (6, none), (7, none), (8, none), (9, none), (10, none), (11, none), (12, some [11, 10, 9, 7, 6]), (13, none), (14, none), (15, none)] [(7, [6]), (10, [9]), (11, [10, 9]), (12, [11, 10, 9, 7, 6]), (13, [11, 10, 9, 7, 6]), (14, [11, 10, 9, 7, 6]), (15, [11, 10, 9, 7, 6])] follows_ok (by kernel_rfl) ?_ | refine BSpl.decY (by first | assumption | omega) ?_ | refine BSpl.decN (by first | assumption | omega) ?_ | refine BSpl.dec (fun _ => ?_) (fun _ => ?_) | refine BSpl.yes (by assumption) ?_ | refine BSpl.no (by assumption) ?_ | refine BSpl.mk (fun _ => ?_) (fun _ => ?_))
      all_goals (conv => whnf)
      all_goals refine ⟨⟨1, by omega⟩, _, LeR.mk' [] _ _ _ rfl ⟨AEq.refl _, AEq.refl _, AEq.refl _, AEq.int ?_, AEq.int ?_, AEq.int rfl, trivial⟩ ⟨⟨_, rfl, OEq.refl _⟩, ⟨_, rfl, OEq.refl _⟩, trivial⟩ rfl, by show 5 - 1 < 5 - 0; omega⟩
      all_goals first
        | exact (congrArg Prod.fst (hB1 (by omega) (by omega))).symm
        | exact (congrArg Prod.fst (hB2 (by omega))).symm
        | exact (congrArg (fun b => ((Prod.snd b : Nat) : Int)) (hB1 (by omega) (by omega))).symm
        | exact (congrArg (fun b => ((Prod.snd b : Nat) : Int)) (hB2 (by omega))).symm
  · have hns : wrL [m0, m1, m2, m3, m4] 2 = wrL [m0, m1, m2, m3, m4] 1 ++ wrB 1 m1 := rfl
    have hnb : bestN [m0, m1, m2, m3, m4] 2 = if (bestN [m0, m1, m2, m3, m4] 1).2 ≤ m1 ∧ 0 < m1 then (((1 : Nat) : Int), m1) else bestN [m0, m1, m2, m3, m4] 1 := rfl
    generalize wrL [m0, m1, m2, m3, m4] 1 = L at *
    generalize bestN [m0, m1, m2, m3, m4] 1 = B at *
    obtain ⟨b, hi⟩ := B
    dsimp only at hnb hbl ⊢
    have hmod : (a1 % 8 : Int) = (m1 : Int) := e1
    have hm7 : m1 ≤ 7 := by omega
    repeat' ((conv => whnf); first | refine Spl.yes (by first | assumption | omega) ?_ | refine Spl.no (by first | assumption | omega) ?_ | refine Wr.i64 (by omega) (by omega) ?_ | refine Still.mk rfl rfl ?_ | refine InB.mk (inB_mk (by omega) (by omega)) ?_ | refine Req.mk (by omega) ?_ | refine Req.mk ⟨by first | omega | (dsimp only; omega), by first | omega | (dsimp only; omega)⟩ ?_ | refine ARet.hdI ?_ | refine Spl.mk (fun _ => ?_) (fun _ => ?_) | refine Wr.b64 ?_ | refine Wr.bu64 ?_ | refine Wr.bu32 ?_ | refine Wr.bu8 ?_ | refine Wr.u8 (by omega) (by omega) ?_ | refine Wr.u64 (by omega) (by omega) ?_ | refine Wr.u32 (by omega) (by omega) ?_ | refine Dv.pos (by omega) (by omega) ?_ | refine Rm.pos (by omega) (by omega) ?_ | refine ADraw.quiet follows_ok (by kernel_rfl) rfl ?_ | refine ADraw.sched (id := 25) lay_ok (awp_snd lay_ok _) [(0, none), (1, none), (2, none), (3, none), (4, none), (5, none), (6, none), (7, none), (8, none), (9, none), (10, none), (11, none), (12, some [11, 10, 9, 7, 6]), (13, none), (14, none), (15, none)] [(7, [6]), (10, [9]), (11, [10, 9]), (12, [11, 10, 9, 7, 6]), (13, [11, 10, 9, 7, 6]), (14, [11, 10, 9, 7, 6]), (15, [11, 10, 9, 7, 6])] follows_ok (by kernel_rfl) ?_ | refine BSpl.decY (by first | assumption | omega) ?_ | refine BSpl.decN (by first | assumption | omega) ?_ | refine BSpl.dec (fun _ => ?_) (fun _ => ?_) | refine BSpl.yes (by assumption) ?_ | refine BSpl.no (by assumption) ?_ | refine BSpl.mk (fun _ => ?_) (fun _ => ?_))
    conv => whnf
    refine ALoop.mk { k : Nat // k ≤ m1 } (fun k => ⟨[(1, .box 0 0), (3, .v (.bool true)), (4, .own 90), (5, .v (.int .i64 b)), (6, .v (.int .i64 (hi : Int))), (7, .v (.int .i64 1)), (8, .v (.int .i64 (m1 : Int))), (9, .v (.int .i64 (k.1 : Int)))],
        [(0, .box 28 [.v (.int .u8 a0), .v (.int .u8 a1), .v (.int .u8 a2), .v (.int .u8 a3), .v (.int .u8 a4)]), (90, .row 32 12 (L ++ wrB 1 k.1).length true (evF (L ++ wrB 1 k.1)))], [], 91⟩) (fun k => m1 - k.1) ⟨0, Nat.zero_le _⟩ _
      (LeR.mk' [] _ _ _ rfl ⟨AEq.refl _, AEq.refl _, AEq.refl _, AEq.int rfl, AEq.int rfl, AEq.int rfl, AEq.int hmod, AEq.int rfl, trivial⟩ ⟨⟨_, rfl, OEq.refl _⟩, ⟨_, rfl, eqE (by simp [wrB])⟩, trivial⟩ rfl) ?_
    rintro ⟨k, hk⟩
    dsimp only
    have hlk : (L ++ wrB 1 k).length = L.length + k := by rw [List.length_append, wrB_len]
    by_cases hkm : k < m1
    · have hg : L ++ wrB 1 (k + 1) = (L ++ wrB 1 k) ++ [wrE 1 k] := by rw [wrB_succ, List.append_assoc]
      repeat' ((conv => whnf); first | refine Spl.yes (by first | assumption | omega) ?_ | refine Spl.no (by first | assumption | omega) ?_ | refine Wr.i64 (by omega) (by omega) ?_ | refine Still.mk rfl rfl ?_ | refine InB.mk (inB_mk (by omega) (by omega)) ?_ | refine Req.mk (by omega) ?_ | refine Req.mk ⟨by first | omega | (dsimp only; omega), by first | omega | (dsimp only; omega)⟩ ?_ | refine Bs.of [byteOf' (97 + 1), byteOf' (48 + (k : Int))] (IsB.two (by omega) (by omega) (by omega) (by omega)) rfl ?_ | refine ARet.hdI ?_ | refine Spl.mk (fun _ => ?_) (fun _ => ?_) | refine Wr.b64 ?_ | refine Wr.bu64 ?_ | refine Wr.bu32 ?_ | refine Wr.bu8 ?_ | refine Wr.u8 (by omega) (by omega) ?_ | refine Wr.u64 (by omega) (by omega) ?_ | refine Wr.u32 (by omega) (by omega) ?_ | refine Dv.pos (by omega) (by omega) ?_ | refine Rm.pos (by omega) (by omega) ?_ | refine ADraw.quiet follows_ok (by kernel_rfl) rfl ?_ | refine ADraw.sched (id := 25) lay_ok (awp_snd lay_ok _) [(0, none), (1, none), (2, none), (3, none), (4, none), (5, none), (6, none), (7, none), (8, none), (9, none), (10, none), (11, none), (12, some [11, 10, 9, 7, 6]), (13, none), (14, none), (15, none)] [(7, [6]), (10, [9]), (11, [10, 9]), (12, [11, 10, 9, 7, 6]), (13, [11, 10, 9, 7, 6]), (14, [11, 10, 9, 7, 6]), (15, [11, 10, 9, 7, 6])] follows_ok (by kernel_rfl) ?_ | refine BSpl.decY (by first | assumption | omega) ?_ | refine BSpl.decN (by first | assumption | omega) ?_ | refine BSpl.dec (fun _ => ?_) (fun _ => ?_) | refine BSpl.yes (by assumption) ?_ | refine BSpl.no (by assumption) ?_ | refine BSpl.mk (fun _ => ?_) (fun _ => ?_))
      conv => whnf
      refine ⟨⟨k + 1, hkm⟩, _, LeR.mk' [(94, 90)] _ _ _ rfl ⟨AEq.refl _, AEq.refl _, AEq.refl _, AEq.refl _, AEq.refl _, AEq.refl _, AEq.refl _, AEq.int rfl, trivial⟩ ⟨⟨_, rfl, OEq.refl _⟩, ⟨_, rfl, OEq.row ?_ (fun m hm => ?_)⟩, trivial⟩ rfl, Nat.sub_succ_lt_self _ _ hkm⟩
      · show _ = (L ++ wrB 1 (k + 1)).length
        rw [hg]
        simp only [List.length_append, List.length_cons, List.length_nil]
      · show _ = evF (L ++ wrB 1 (k + 1)) m
        rw [hg]
        exact els_app1 (c := Ev.cs) rfl rfl m hm
    · rw [show k = m1 by omega]
      rw [← hns]
      have hB1 : hi ≤ m1 → 0 < m1 → bestN [m0, m1, m2, m3, m4] 2 = (((1 : Nat) : Int), m1) := fun h h' => by rw [hnb, if_pos ⟨h, h'⟩]
      have hB2 : ¬ (hi ≤ m1 ∧ 0 < m1) → bestN [m0, m1, m2, m3, m4] 2 = (b, hi) := fun h => by rw [hnb, if_neg h]
      have hnl : ¬ k < m1 := hkm
      repeat' ((conv => whnf); first | refine Spl.yes (by first | assumption | omega) ?_ | refine Spl.no (by first | assumption | omega) ?_ | refine Wr.i64 (by omega) (by omega) ?_ | refine Still.mk rfl rfl ?_ | refine InB.mk (inB_mk (by omega) (by omega)) ?_ | refine Req.mk (by omega) ?_ | refine Req.mk ⟨by first | omega | (dsimp only; omega), by first | omega | (dsimp only; omega)⟩ ?_ | refine ARet.hdI ?_ | refine Spl.mk (fun _ => ?_) (fun _ => ?_) | refine Wr.b64 ?_ | refine Wr.bu64 ?_ | refine Wr.bu32 ?_ | refine Wr.bu8 ?_ | refine Wr.u8 (by omega) (by omega) ?_ | refine Wr.u64 (by omega) (by omega) ?_ | refine Wr.u32 (by omega) (by omega) ?_ | refine Dv.pos (by omega) (by omega) ?_ | refine Rm.pos (by omega) (by omega) ?_ | refine ADraw.quiet follows_ok (by kernel_rfl) rfl ?_ | refine ADraw.sched (id := 25) lay_ok (awp_snd lay_ok _) [(0, none), (1, none), (2, none), (3, none), (4, none), (5, none), (6, none), (7, none), (8, none), (9, none), (10, none), (11, none), (12, some [11, 10, 9, 7, 6]), (13, none), (14, none), (15, none)] [(7, [6]), (10, [9]), (11, [10, 9]), (12, [11, 10, 9, 7, 6]), (13, [11, 10, 9, 7, 6]), (14, [11, 10, 9, 7, 6]), (15, [11, 10, 9, 7, 6])] follows_ok (by kernel_rfl) ?_ | refine BSpl.decY (by first | assumption | omega) ?_ | refine BSpl.decN (by first | assumption | omega) ?_ | refine BSpl.dec (fun _ => ?_) (fun _ => ?_) | refine BSpl.yes (by assumption) ?_ | refine BSpl.no (by assumption) ?_ | refine BSpl.mk (fun _ => ?_) (fun _ => ?_))
      all_goals (conv => whnf)
      all_goals refine ⟨⟨2, by omega⟩, _, LeR.mk' [] _ _ _ rfl ⟨AEq.refl _, AEq.refl _, AEq.refl _, AEq.int ?_, AEq.int ?_, AEq.int rfl, trivial⟩ ⟨⟨_, rfl, OEq.refl _⟩, ⟨_, rfl, OEq.refl _⟩, trivial⟩ rfl, by show 5 - 2 < 5 - 1; omega⟩
      all_goals first
        | exact (congrArg Prod.fst (hB1 (by omega) (by omega))).symm
        | exact (congrArg Prod.fst (hB2 (by omega))).symm
        | exact (congrArg (fun b => ((Prod.snd b : Nat) : Int)) (hB1 (by omega) (by omega))).symm
        | exact (congrArg (fun b => ((Prod.snd b : Nat) : Int)) (hB2 (by omega))).symm
  · have hns : wrL [m0, m1, m2, m3, m4] 3 = wrL [m0, m1, m2, m3, m4] 2 ++ wrB 2 m2 := rfl
    have hnb : bestN [m0, m1, m2, m3, m4] 3 = if (bestN [m0, m1, m2, m3, m4] 2).2 ≤ m2 ∧ 0 < m2 then (((2 : Nat) : Int), m2) else bestN [m0, m1, m2, m3, m4] 2 := rfl
    generalize wrL [m0, m1, m2, m3, m4] 2 = L at *
    generalize bestN [m0, m1, m2, m3, m4] 2 = B at *
    obtain ⟨b, hi⟩ := B
    dsimp only at hnb hbl ⊢
    have hmod : (a2 % 8 : Int) = (m2 : Int) := e2
    have hm7 : m2 ≤ 7 := by omega
    repeat' ((conv => whnf); first | refine Spl.yes (by first | assumption | omega) ?_ | refine Spl.no (by first | assumption | omega) ?_ | refine Wr.i64 (by omega) (by omega) ?_ | refine Still.mk rfl rfl ?_ | refine InB.mk (inB_mk (by omega) (by omega)) ?_ | refine Req.mk (by omega) ?_ | refine Req.mk ⟨by first | omega | (dsimp only; omega), by first | omega | (dsimp only; omega)⟩ ?_ | refine ARet.hdI ?_ | refine Spl.mk (fun _ => ?_) (fun _ => ?_) | refine Wr.b64 ?_ | refine Wr.bu64 ?_ | refine Wr.bu32 ?_ | refine Wr.bu8 ?_ | refine Wr.u8 (by omega) (by omega) ?_ | refine Wr.u64 (by omega) (by omega) ?_ | refine Wr.u32 (by omega) (by omega) ?_ | refine Dv.pos (by omega) (by omega) ?_ | refine Rm.pos (by omega) (by omega) ?_ | refine ADraw.quiet follows_ok (by kernel_rfl) rfl ?_ | refine ADraw.sched (id := 25) lay_ok (awp_snd lay_ok _) [(0, none), (1, none), (2, none), (3, none), (4, none), (5, none), (6, none), (7, none), (8, none), (9, none), (10, none), (11, none), (12, some [11, 10, 9, 7, 6]), (13, none), (14, none), (15, none)] [(7, [6]), (10, [9]), (11, [10, 9]), (12, [11, 10, 9, 7, 6]), (13, [11, 10, 9, 7, 6]), (14, [11, 10, 9, 7, 6]), (15, [11, 10, 9, 7, 6])] follows_ok (by kernel_rfl) ?_ | refine BSpl.decY (by first | assumption | omega) ?_ | refine BSpl.decN (by first | assumption | omega) ?_ | refine BSpl.dec (fun _ => ?_) (fun _ => ?_) | refine BSpl.yes (by assumption) ?_ | refine BSpl.no (by assumption) ?_ | refine BSpl.mk (fun _ => ?_) (fun _ => ?_))
    conv => whnf
    refine ALoop.mk { k : Nat // k ≤ m2 } (fun k => ⟨[(1, .box 0 0), (3, .v (.bool true)), (4, .own 90), (5, .v (.int .i64 b)), (6, .v (.int .i64 (hi : Int))), (7, .v (.int .i64 2)), (8, .v (.int .i64 (m2 : Int))), (9, .v (.int .i64 (k.1 : Int)))],
        [(0, .box 28 [.v (.int .u8 a0), .v (.int .u8 a1), .v (.int .u8 a2), .v (.int .u8 a3), .v (.int .u8 a4)]), (90, .row 32 12 (L ++ wrB 2 k.1).length true (evF (L ++ wrB 2 k.1)))], [], 91⟩) (fun k => m2 - k.1) ⟨0, Nat.zero_le _⟩ _
      (LeR.mk' [] _ _ _ rfl ⟨AEq.refl _, AEq.refl _, AEq.refl _, AEq.int rfl, AEq.int rfl, AEq.int rfl, AEq.int hmod, AEq.int rfl, trivial⟩ ⟨⟨_, rfl, OEq.refl _⟩, ⟨_, rfl, eqE (by simp [wrB])⟩, trivial⟩ rfl) ?_
    rintro ⟨k, hk⟩
    dsimp only
    have hlk : (L ++ wrB 2 k).length = L.length + k := by rw [List.length_append, wrB_len]
    by_cases hkm : k < m2
    · have hg : L ++ wrB 2 (k + 1) = (L ++ wrB 2 k) ++ [wrE 2 k] := by rw [wrB_succ, List.append_assoc]
      repeat' ((conv => whnf); first | refine Spl.yes (by first | assumption | omega) ?_ | refine Spl.no (by first | assumption | omega) ?_ | refine Wr.i64 (by omega) (by omega) ?_ | refine Still.mk rfl rfl ?_ | refine InB.mk (inB_mk (by omega) (by omega)) ?_ | refine Req.mk (by omega) ?_ | refine Req.mk ⟨by first | omega | (dsimp only; omega), by first | omega | (dsimp only; omega)⟩ ?_ | refine Bs.of [byteOf' (97 + 2), byteOf' (48 + (k : Int))] (IsB.two (by omega) (by omega) (by omega) (by omega)) rfl ?_ | refine ARet.hdI ?_ | refine Spl.mk (fun _ => ?_) (fun _ => ?_) | refine Wr.b64 ?_ | refine Wr.bu64 ?_ | refine Wr.bu32 ?_ | refine Wr.bu8 ?_ | refine Wr.u8 (by omega) (by omega) ?_ | refine Wr.u64 (by omega) (by omega) ?_ | refine Wr.u32 (by omega) (by omega) ?_ | refine Dv.pos (by omega) (by omega) ?_ | refine Rm.pos (by omega) (by omega) ?_ | refine ADraw.quiet follows_ok (by kernel_rfl) rfl ?_ | refine ADraw.sched (id := 25) lay_ok (awp_snd lay_ok _) [(0, none), (1, none), (2, none), (3, none), (4, none), (5, none), (6, none), (7, none), (8, none), (9, none), (10, none), (11, none), (12, some [11, 10, 9, 7, 6]), (13, none), (14, none), (15, none)] [(7, [6]), (10, [9]), (11, [10, 9]), (12, [11, 10, 9, 7, 6]), (13, [11, 10, 9, 7, 6]), (14, [11, 10, 9, 7, 6]), (15, [11, 10, 9, 7, 6])] follows_ok (by kernel_rfl) ?_ | refine BSpl.decY (by first | assumption | omega) ?_ | refine BSpl.decN (by first | assumption | omega) ?_ | refine BSpl.dec (fun _ => ?_) (fun _ => ?_) | refine BSpl.yes (by assumption) ?_ | refine BSpl.no (by assumption) ?_ | refine BSpl.mk (fun _ => ?_) (fun _ => ?_))
      conv => whnf
      refine ⟨⟨k + 1, hkm⟩, _, LeR.mk' [(94, 90)] _ _ _ rfl ⟨AEq.refl _, AEq.refl _, AEq.refl _, AEq.refl _, AEq.refl _, AEq.refl _, AEq.refl _, AEq.int rfl, trivial⟩ ⟨⟨_, rfl, OEq.refl _⟩, ⟨_, rfl, OEq.row ?_ (fun m hm => ?_)⟩, trivial⟩ rfl, Nat.sub_succ_lt_self _ _ hkm⟩
      · show _ = (L ++ wrB 2 (k + 1)).length
        rw [hg]
        simp only [List.length_append, List.length_cons, List.length_nil]
      · show _ = evF (L ++ wrB 2 (k + 1)) m
        rw [hg]
        exact els_app1 (c := Ev.cs) rfl rfl m hm
    · rw [show k = m2 by omega]
      rw [← hns]
      have hB1 : hi ≤ m2 → 0 < m2 → bestN [m0, m1, m2, m3, m4] 3 = (((2 : Nat) : Int), m2) := fun h h' => by rw [hnb, if_pos ⟨h, h'⟩]
      have hB2 : ¬ (hi ≤ m2 ∧ 0 < m2) → bestN [m0, m1, m2, m3, m4] 3 = (b, hi) := fun h => by rw [hnb, if_neg h]
      have hnl : ¬ k < m2 := hkm
      repeat' ((conv => whnf); first | refine Spl.yes (by first | assumption | omega) ?_ | refine Spl.no (by first | assumption | omega) ?_ | refine Wr.i64 (by omega) (by omega) ?_ | refine Still.mk rfl rfl ?_ | refine InB.mk (inB_mk (by omega) (by omega)) ?_ | refine Req.mk (by omega) ?_ | refine Req.mk ⟨by first | omega | (dsimp only; omega), by first | omega | (dsimp only; omega)⟩ ?_ | refine ARet.hdI ?_ | refine Spl.mk (fun _ => ?_) (fun _ => ?_) | refine Wr.b64 ?_ | refine Wr.bu64 ?_ | refine Wr.bu32 ?_ | refine Wr.bu8 ?_ | refine Wr.u8 (by omega) (by omega) ?_ | refine Wr.u64 (by omega) (by omega) ?_ | refine Wr.u32 (by omega) (by omega) ?_ | refine Dv.pos (by omega) (by omega) ?_ | refine Rm.pos (by omega) (by omega) ?_ | refine ADraw.quiet follows_ok (by kernel_rfl) rfl ?_ | refine ADraw.sched (id := 25) lay_ok (awp_snd lay_ok _) [(0, none), (1, none), (2, none), (3, none), (4, none), (5, none), (6, none), (7, none), (8, none), (9, none), (10, none), (11, none), (12, some [11, 10, 9, 7, 6]), (13, none), (14, none), (15, none)] [(7, [6]), (10, [9]), (11, [10, 9]), (12, [11, 10, 9, 7, 6]), (13, [11, 10, 9, 7, 6]), (14, [11, 10, 9, 7, 6]), (15, [11, 10, 9, 7, 6])] follows_ok (by kernel_rfl) ?_ | refine BSpl.decY (by first | assumption | omega) ?_ | refine BSpl.decN (by first | assumption | omega) ?_ | refine BSpl.dec (fun _ => ?_) (fun _ => ?_) | refine BSpl.yes (by assumption) ?_ | refine BSpl.no (by assumption) ?_ | refine BSpl.mk (fun _ => ?_) (fun _ => ?_))
      all_goals (conv => whnf)
      all_goals refine ⟨⟨3, by omega⟩, _, LeR.mk' [] _ _ _ rfl ⟨AEq.refl _, AEq.refl _, AEq.refl _, AEq.int ?_, AEq.int ?_, AEq.int rfl, trivial⟩ ⟨⟨_, rfl, OEq.refl _⟩, ⟨_, rfl, OEq.refl _⟩, trivial⟩ rfl, by show 5 - 3 < 5 - 2; omega⟩
      all_goals first
        | exact (congrArg Prod.fst (hB1 (by omega) (by omega))).symm
        | exact (congrArg Prod.fst (hB2 (by omega))).symm
        | exact (congrArg (fun b => ((Prod.snd b : Nat) : Int)) (hB1 (by omega) (by omega))).symm
        | exact (congrArg (fun b => ((Prod.snd b : Nat) : Int)) (hB2 (by omega))).symm
  · have hns : wrL [m0, m1, m2, m3, m4] 4 = wrL [m0, m1, m2, m3, m4] 3 ++ wrB 3 m3 := rfl
    have hnb : bestN [m0, m1, m2, m3, m4] 4 = if (bestN [m0, m1, m2, m3, m4] 3).2 ≤ m3 ∧ 0 < m3 then (((3 : Nat) : Int), m3) else bestN [m0, m1, m2, m3, m4] 3 := rfl
    generalize wrL [m0, m1, m2, m3, m4] 3 = L at *
    generalize bestN [m0, m1, m2, m3, m4] 3 = B at *
    obtain ⟨b, hi⟩ := B
    dsimp only at hnb hbl ⊢
    have hmod : (a3 % 8 : Int) = (m3 : Int) := e3
    have hm7 : m3 ≤ 7 := by omega
    repeat' ((conv => whnf); first | refine Spl.yes (by first | assumption | omega) ?_ | refine Spl.no (by first | assumption | omega) ?_ | refine Wr.i64 (by omega) (by omega) ?_ | refine Still.mk rfl rfl ?_ | refine InB.mk (inB_mk (by omega) (by omega)) ?_ | refine Req.mk (by omega) ?_ | refine Req.mk ⟨by first | omega | (dsimp only; omega), by first | omega | (dsimp only; omega)⟩ ?_ | refine ARet.hdI ?_ | refine Spl.mk (fun _ => ?_) (fun _ => ?_) | refine Wr.b64 ?_ | refine Wr.bu64 ?_ | refine Wr.bu32 ?_ | refine Wr.bu8 ?_ | refine Wr.u8 (by omega) (by omega) ?_ | refine Wr.u64 (by omega) (by omega) ?_ | refine Wr.u32 (by omega) (by omega) ?_ | refine Dv.pos (by omega) (by omega) ?_ | refine Rm.pos (by omega) (by omega) ?_ | refine ADraw.quiet follows_ok (by kernel_rfl) rfl ?_ | refine ADraw.sched (id := 25) lay_ok (awp_snd lay_ok _) [(0, none), (1, none), (2, none), (3, none), (4, none), (5, none), (6, none), (7, none), (8, none), (9, none), (10, none), (11, none), (12, some [11, 10, 9, 7, 6]), (13, none), (14, none), (15, none)] [(7, [6]), (10, [9]), (11, [10, 9]), (12, [11, 10, 9, 7, 6]), (13, [11, 10, 9, 7, 6]), (14, [11, 10, 9, 7, 6]), (15, [11, 10, 9, 7, 6])] follows_ok (by kernel_rfl) ?_ | refine BSpl.decY (by first | assumption | omega) ?_ | refine BSpl.decN (by first | assumption | omega) ?_ | refine BSpl.dec (fun _ => ?_) (fun _ => ?_) | refine BSpl.yes (by assumption) ?_ | refine BSpl.no (by assumption) ?_ | refine BSpl.mk (fun _ => ?_) (fun _ => ?_))
    conv => whnf
    refine ALoop.mk { k : Nat // k ≤ m3 } (fun k => ⟨[(1, .box 0 0), (3, .v (.bool true)), (4, .own 90), (5, .v (.int .i64 b)), (6, .v (.int .i64 (hi : Int))), (7, .v (.int .i64 3)), (8, .v (.int .i64 (m3 : Int))), (9, .v (.int .i64 (k.1 : Int)))],
        [(0, .box 28 [.v (.int .u8 a0), .v (.int .u8 a1), .v (.int .u8 a2), .v (.int .u8 a3), .v (.int .u8 a4)]), (90, .row 32 12 (L ++ wrB 3 k.1).length true (evF (L ++ wrB 3 k.1)))], [], 91⟩) (fun k => m3 - k.1) ⟨0, Nat.zero_le _⟩ _
      (LeR.mk' [] _ _ _ rfl ⟨AEq.refl _, AEq.refl _, AEq.refl _, AEq.int rfl, AEq.int rfl, AEq.int rfl, AEq.int hmod, AEq.int rfl, trivial⟩ ⟨⟨_, rfl, OEq.refl _⟩, ⟨_, rfl, eqE (by simp [wrB])⟩, trivial⟩ rfl) ?_
    rintro ⟨k, hk⟩
    dsimp only
    have hlk : (L ++ wrB 3 k).length = L.length + k := by rw [List.length_append, wrB_len]
    by_cases hkm : k < m3
    · have hg : L ++ wrB 3 (k + 1) = (L ++ wrB 3 k) ++ [wrE 3 k] := by rw [wrB_succ, List.append_assoc]
      repeat' ((conv => whnf); first | refine Spl.yes (by first | assumption | omega) ?_ | refine Spl.no (by first | assumption | omega) ?_ | refine Wr.i64 (by omega) (by omega) ?_ | refine Still.mk rfl rfl ?_ | refine InB.mk (inB_mk (by omega) (by omega)) ?_ | refine Req.mk (by omega) ?_ | refine Req.mk ⟨by first | omega | (dsimp only; omega), by first | omega | (dsimp only; omega)⟩ ?_ | refine Bs.of [byteOf' (97 + 3), byteOf' (48 + (k : Int))] (IsB.two (by omega) (by omega) (by omega) (by omega)) rfl ?_ | refine ARet.hdI ?_ | refine Spl.mk (fun _ => ?_) (fun _ => ?_) | refine Wr.b64 ?_ | refine Wr.bu64 ?_ | refine Wr.bu32 ?_ | refine Wr.bu8 ?_ | refine Wr.u8 (by omega) (by omega) ?_ | refine Wr.u64 (by omega) (by omega) ?_ | refine Wr.u32 (by omega) (by omega) ?_ | refine Dv.pos (by omega) (by omega) ?_ | refine Rm.pos (by omega) (by omega) ?_ | refine ADraw.quiet follows_ok (by kernel_rfl) rfl ?_ | refine ADraw.sched (id := 25) lay_ok (awp_snd lay_ok _) [(0, none), (1, none), (2, none), (3, none), (4, none), (5, none), (6, none), (7, none), (8, none), (9, none), (10, none), (11, none), (12, some [11, 10, 9, 7, 6]), (13, none), (14, none), (15, none)] [(7, [6]), (10, [9]), (11, [10, 9]), (12, [11, 10, 9, 7, 6]), (13, [11, 10, 9, 7, 6]), (14, [11, 10, 9, 7, 6]), (15, [11, 10, 9, 7, 6])] follows_ok (by kernel_rfl) ?_ | refine BSpl.decY (by first | assumption | omega) ?_ | refine BSpl.decN (by first | assumption | omega) ?_ | refine BSpl.dec (fun _ => ?_) (fun _ => ?_) | refine BSpl.yes (by assumption) ?_ | refine BSpl.no (by assumption) ?_ | refine BSpl.mk (fun _ => ?_) (fun _ => ?_))
      conv => whnf
      refine ⟨⟨k + 1, hkm⟩, _, LeR.mk' [(94, 90)] _ _ _ rfl ⟨AEq.refl _, AEq.refl _, AEq.refl _, AEq.refl _, AEq.refl _, AEq.refl _, AEq.refl _, AEq.int rfl, trivial⟩ ⟨⟨_, rfl, OEq.refl _⟩, ⟨_, rfl, OEq.row ?_ (fun m hm => ?_)⟩, trivial⟩ rfl, Nat.sub_succ_lt_self _ _ hkm⟩
      · show _ = (L ++ wrB 3 (k + 1)).length
        rw [hg]
        simp only [List.length_append, List.length_cons, List.length_nil]
      · show _ = evF (L ++ wrB 3 (k + 1)) m
        rw [hg]
        exact els_app1 (c := Ev.cs) rfl rfl m hm
    · rw [show k = m3 by omega]
      rw [← hns]
      have hB1 : hi ≤ m3 → 0 < m3 → bestN [m0, m1, m2, m3, m4] 4 = (((3 : Nat) : Int), m3) := fun h h' => by rw [hnb, if_pos ⟨h, h'⟩]
      have hB2 : ¬ (hi ≤ m3 ∧ 0 < m3) → bestN [m0, m1, m2, m3, m4] 4 = (b, hi) := fun h => by rw [hnb, if_neg h]
      have hnl : ¬ k < m3 := hkm
      repeat' ((conv => whnf); first | refine Spl.yes (by first | assumption | omega) ?_ | refine Spl.no (by first | assumption | omega) ?_ | refine Wr.i64 (by omega) (by omega) ?_ | refine Still.mk rfl rfl ?_ | refine InB.mk (inB_mk (by omega) (by omega)) ?_ | refine Req.mk (by omega) ?_ | refine Req.mk ⟨by first | omega | (dsimp only; omega), by first | omega | (dsimp only; omega)⟩ ?_ | refine ARet.hdI ?_ | refine Spl.mk (fun _ => ?_) (fun _ => ?_) | refine Wr.b64 ?_ | refine Wr.bu64 ?_ | refine Wr.bu32 ?_ | refine Wr.bu8 ?_ | refine Wr.u8 (by omega) (by omega) ?_ | refine Wr.u64 (by omega) (by omega) ?_ | refine Wr.u32 (by omega) (by omega) ?_ | refine Dv.pos (by omega) (by omega) ?_ | refine Rm.pos (by omega) (by omega) ?_ | refine ADraw.quiet follows_ok (by kernel_rfl) rfl ?_ | refine ADraw.sched (id := 25) lay_ok (awp_snd lay_ok _) [(0, none), (1, none), (2, none), (3, none), (4, none), (5, none), (6, none), (7, none), (8, none), (9, none), (10, none), (11, none), (12, some [11, 10, 9, 7, 6]), (13, none), (14, none), (15, none)] [(7, [6]), (10, [9]), (11, [10, 9]), (12, [11, 10, 9, 7, 6]), (13, [11, 10, 9, 7, 6]), (14, [11, 10, 9, 7, 6]), (15, [11, 10, 9, 7, 6])] follows_ok (by kernel_rfl) ?_ | refine BSpl.decY (by first | assumption | omega) ?_ | refine BSpl.decN (by first | assumption | omega) ?_ | refine BSpl.dec (fun _ => ?_) (fun _ => ?_) | refine BSpl.yes (by assumption) ?_ | refine BSpl.no (by assumption) ?_ | refine BSpl.mk (fun _ => ?_) (fun _ => ?_))
      all_goals (conv => whnf)
      all_goals refine ⟨⟨4, by omega⟩, _, LeR.mk' [] _ _ _ rfl ⟨AEq.refl _, AEq.refl _, AEq.refl _, AEq.int ?_, AEq.int ?_, AEq.int rfl, trivial⟩ ⟨⟨_, rfl, OEq.refl _⟩, ⟨_, rfl, OEq.refl _⟩, trivial⟩ rfl, by show 5 - 4 < 5 - 3; omega⟩
      all_goals first
        | exact (congrArg Prod.fst (hB1 (by omega) (by omega))).symm
        | exact (congrArg Prod.fst (hB2 (by omega))).symm
        | exact (congrArg (fun b => ((Prod.snd b : Nat) : Int)) (hB1 (by omega) (by omega))).symm
        | exact (congrArg (fun b => ((Prod.snd b : Nat) : Int)) (hB2 (by omega))).symm
  · have hns : wrL [m0, m1, m2, m3, m4] 5 = wrL [m0, m1, m2, m3, m4] 4 ++ wrB 4 m4 := rfl
    have hnb : bestN [m0, m1, m2, m3, m4] 5 = if (bestN [m0, m1, m2, m3, m4] 4).2 ≤ m4 ∧ 0 < m4 then (((4 : Nat) : Int), m4) else bestN [m0, m1, m2, m3, m4] 4 := rfl
    generalize wrL [m0, m1, m2, m3, m4] 4 = L at *
    generalize bestN [m0, m1, m2, m3, m4] 4 = B at *
    obtain ⟨b, hi⟩ := B
    dsimp only at hnb hbl ⊢
    have hmod : (a4 % 8 : Int) = (m4 : Int) := e4
    have hm7 : m4 ≤ 7 := by omega
    repeat' ((conv => whnf); first | refine Spl.yes (by first | assumption | omega) ?_ | refine Spl.no (by first | assumption | omega) ?_ | refine Wr.i64 (by omega) (by omega) ?_ | refine Still.mk rfl rfl ?_ | refine InB.mk (inB_mk (by omega) (by omega)) ?_ | refine Req.mk (by omega) ?_ | refine Req.mk ⟨by first | omega | (dsimp only; omega), by first | omega | (dsimp only; omega)⟩ ?_ | refine ARet.hdI ?_ | refine Spl.mk (fun _ => ?_) (fun _ => ?_) | refine Wr.b64 ?_ | refine Wr.bu64 ?_ | refine Wr.bu32 ?_ | refine Wr.bu8 ?_ | refine Wr.u8 (by omega) (by omega) ?_ | refine Wr.u64 (by omega) (by omega) ?_ | refine Wr.u32 (by omega) (by omega) ?_ | refine Dv.pos (by omega) (by omega) ?_ | refine Rm.pos (by omega) (by omega) ?_ | refine ADraw.quiet follows_ok (by kernel_rfl) rfl ?_ | refine ADraw.sched (id := 25) lay_ok (awp_snd lay_ok _) [(0, none), (1, none), (2, none), (3, none), (4, none), (5, none), (6, none), (7, none), (8, none), (9, none), (10, none), (11, none), (12, some [11, 10, 9, 7, 6]), (13, none), (14, none), (15, none)] [(7, [6]), (10, [9]), (11, [10, 9]), (12, [11, 10, 9, 7, 6]), (13, [11, 10, 9, 7, 6]), (14, [11, 10, 9, 7, 6]), (15, [11, 10, 9, 7, 6])] follows_ok (by kernel_rfl) ?_ | refine BSpl.decY (by first | assumption | omega) ?_ | refine BSpl.decN (by first | assumption | omega) ?_ | refine BSpl.dec (fun _ => ?_) (fun _ => ?_) | refine BSpl.yes (by assumption) ?_ | refine BSpl.no (by assumption) ?_ | refine BSpl.mk (fun _ => ?_) (fun _ => ?_))
    conv => whnf
    refine ALoop.mk { k : Nat // k ≤ m4 } (fun k => ⟨[(1, .box 0 0), (3, .v (.bool true)), (4, .own 90), (5, .v (.int .i64 b)), (6, .v (.int .i64 (hi : Int))), (7, .v (.int .i64 4)), (8, .v (.int .i64 (m4 : Int))), (9, .v (.int .i64 (k.1 : Int)))],
        [(0, .box 28 [.v (.int .u8 a0), .v (.int .u8 a1), .v (.int .u8 a2), .v (.int .u8 a3), .v (.int .u8 a4)]), (90, .row 32 12 (L ++ wrB 4 k.1).length true (evF (L ++ wrB 4 k.1)))], [], 91⟩) (fun k => m4 - k.1) ⟨0, Nat.zero_le _⟩ _
      (LeR.mk' [] _ _ _ rfl ⟨AEq.refl _, AEq.refl _, AEq.refl _, AEq.int rfl, AEq.int rfl, AEq.int rfl, AEq.int hmod, AEq.int rfl, trivial⟩ ⟨⟨_, rfl, OEq.refl _⟩, ⟨_, rfl, eqE (by simp [wrB])⟩, trivial⟩ rfl) ?_
    rintro ⟨k, hk⟩
    dsimp only
    have hlk : (L ++ wrB 4 k).length = L.length + k := by rw [List.length_append, wrB_len]
    by_cases hkm : k < m4
    · have hg : L ++ wrB 4 (k + 1) = (L ++ wrB 4 k) ++ [wrE 4 k] := by rw [wrB_succ, List.append_assoc]
      repeat' ((conv => whnf); first | refine Spl.yes (by first | assumption | omega) ?_ | refine Spl.no (by first | assumption | omega) ?_ | refine Wr.i64 (by omega) (by omega) ?_ | refine Still.mk rfl rfl ?_ | refine InB.mk (inB_mk (by omega) (by omega)) ?_ | refine Req.mk (by omega) ?_ | refine Req.mk ⟨by first | omega | (dsimp only; omega), by first | omega | (dsimp only; omega)⟩ ?_ | refine Bs.of [byteOf' (97 + 4), byteOf' (48 + (k : Int))] (IsB.two (by omega) (by omega) (by omega) (by omega)) rfl ?_ | refine ARet.hdI ?_ | refine Spl.mk (fun _ => ?_) (fun _ => ?_) | refine Wr.b64 ?_ | refine Wr.bu64 ?_ | refine Wr.bu32 ?_ | refine Wr.bu8 ?_ | refine Wr.u8 (by omega) (by omega) ?_ | refine Wr.u64 (by omega) (by omega) ?_ | refine Wr.u32 (by omega) (by omega) ?_ | refine Dv.pos (by omega) (by omega) ?_ | refine Rm.pos (by omega) (by omega) ?_ | refine ADraw.quiet follows_ok (by kernel_rfl) rfl ?_ | refine ADraw.sched (id := 25) lay_ok (awp_snd lay_ok _) [(0, none), (1, none), (2, none), (3, none), (4, none), (5, none), (6, none), (7, none), (8, none), (9, none), (10, none), (11, none), (12, some [11, 10, 9, 7, 6]), (13, none), (14, none), (15, none)] [(7, [6]), (10, [9]), (11, [10, 9]), (12, [11, 10, 9, 7, 6]), (13, [11, 10, 9, 7, 6]), (14, [11, 10, 9, 7, 6]), (15, [11, 10, 9, 7, 6])] follows_ok (by kernel_rfl) ?_ | refine BSpl.decY (by first | assumption | omega) ?_ | refine BSpl.decN (by first | assumption | omega) ?_ | refine BSpl.dec (fun _ => ?_) (fun _ => ?_) | refine BSpl.yes (by assumption) ?_ | refine BSpl.no (by assumption) ?_ | refine BSpl.mk (fun _ => ?_) (fun _ => ?_))
      conv => whnf
      refine ⟨⟨k + 1, hkm⟩, _, LeR.mk' [(94, 90)] _ _ _ rfl ⟨AEq.refl _, AEq.refl _, AEq.refl _, AEq.refl _, AEq.refl _, AEq.refl _, AEq.refl _, AEq.int rfl, trivial⟩ ⟨⟨_, rfl, OEq.refl _⟩, ⟨_, rfl, OEq.row ?_ (fun m hm => ?_)⟩, trivial⟩ rfl, Nat.sub_succ_lt_self _ _ hkm⟩
      · show _ = (L ++ wrB 4 (k + 1)).length
        rw [hg]
        simp only [List.length_append, List.length_cons, List.length_nil]
      · show _ = evF (L ++ wrB 4 (k + 1)) m
        rw [hg]
        exact els_app1 (c := Ev.cs) rfl rfl m hm
    · rw [show k = m4 by omega]
      rw [← hns]
      have hB1 : hi ≤ m4 → 0 < m4 → bestN [m0, m1, m2, m3, m4] 5 = (((4 : Nat) : Int), m4) := fun h h' => by rw [hnb, if_pos ⟨h, h'⟩]
      have hB2 : ¬ (hi ≤ m4 ∧ 0 < m4) → bestN [m0, m1, m2, m3, m4] 5 = (b, hi) := fun h => by rw [hnb, if_neg h]
      have hnl : ¬ k < m4 := hkm
      repeat' ((conv => whnf); first | refine Spl.yes (by first | assumption | omega) ?_ | refine Spl.no (by first | assumption | omega) ?_ | refine Wr.i64 (by omega) (by omega) ?_ | refine Still.mk rfl rfl ?_ | refine InB.mk (inB_mk (by omega) (by omega)) ?_ | refine Req.mk (by omega) ?_ | refine Req.mk ⟨by first | omega | (dsimp only; omega), by first | omega | (dsimp only; omega)⟩ ?_ | refine ARet.hdI ?_ | refine Spl.mk (fun _ => ?_) (fun _ => ?_) | refine Wr.b64 ?_ | refine Wr.bu64 ?_ | refine Wr.bu32 ?_ | refine Wr.bu8 ?_ | refine Wr.u8 (by omega) (by omega) ?_ | refine Wr.u64 (by omega) (by omega) ?_ | refine Wr.u32 (by omega) (by omega) ?_ | refine Dv.pos (by omega) (by omega) ?_ | refine Rm.pos (by omega) (by omega) ?_ | refine ADraw.quiet follows_ok (by kernel_rfl) rfl ?_ | refine ADraw.sched (id := 25) lay_ok (awp_snd lay_ok _) [(0, none), (1, none), (2, none), (3, none), (4, none), (5, none), (6, none), (7, none), (8, none), (9, none), (10, none), (11, none), (12, some [11, 10, 9, 7, 6]), (13, none), (14, none), (15, none)] [(7, [6]), (10, [9]), (11, [10, 9]), (12, [11, 10, 9, 7, 6]), (13, [11, 10, 9, 7, 6]), (14, [11, 10, 9, 7, 6]), (15, [11, 10, 9, 7, 6])] follows_ok (by kernel_rfl) ?_ | refine BSpl.decY (by first | assumption | omega) ?_ | refine BSpl.decN (by first | assumption | omega) ?_ | refine BSpl.dec (fun _ => ?_) (fun _ => ?_) | refine BSpl.yes (by assumption) ?_ | refine BSpl.no (by assumption) ?_ | refine BSpl.mk (fun _ => ?_) (fun _ => ?_))
      all_goals (conv => whnf)
      all_goals refine ⟨⟨5, by omega⟩, _, LeR.mk' [] _ _ _ rfl ⟨AEq.refl _, AEq.refl _, AEq.refl _, AEq.int ?_, AEq.int ?_, AEq.int rfl, trivial⟩ ⟨⟨_, rfl, OEq.refl _⟩, ⟨_, rfl, OEq.refl _⟩, trivial⟩ rfl, by show 5 - 5 < 5 - 4; omega⟩
      all_goals first
        | exact (congrArg Prod.fst (hB1 (by omega) (by omega))).symm
        | exact (congrArg Prod.fst (hB2 (by omega))).symm
        | exact (congrArg (fun b => ((Prod.snd b : Nat) : Int)) (hB1 (by omega) (by omega))).symm
        | exact (congrArg (fun b => ((Prod.snd b : Nat) : Int)) (hB2 (by omega))).symm
  · obtain ⟨wn, wy⟩ := hw
    generalize wrL [m0, m1, m2, m3, m4] 5 = L at *
    generalize bestN [m0, m1, m2, m3, m4] 5 = B at *
    obtain ⟨b, hi⟩ := B
    dsimp only at wn wy hbl ⊢
    dsimp only [List.length_cons, List.length_nil] at hof
    by_cases hb : b < 0
    · have wn := wn hb
      repeat' ((conv => whnf); first | refine Spl.yes (by first | assumption | omega) ?_ | refine Spl.no (by first | assumption | omega) ?_ | refine Wr.i64 (by omega) (by omega) ?_ | refine Still.mk rfl rfl ?_ | refine InB.mk (inB_mk (by omega) (by omega)) ?_ | refine Req.mk (by omega) ?_ | refine Req.mk ⟨by first | omega | (dsimp only; omega), by first | omega | (dsimp only; omega)⟩ ?_ | refine ACall.plain _ _ (hsh) .nil rfl ?_ | refine ACall.plain _ _ (hof) (SubL.cons (.eq _) .nil) rfl ?_ | refine ARet.hdI ?_ | refine Spl.mk (fun _ => ?_) (fun _ => ?_) | refine Wr.b64 ?_ | refine Wr.bu64 ?_ | refine Wr.bu32 ?_ | refine Wr.bu8 ?_ | refine Wr.u8 (by omega) (by omega) ?_ | refine Wr.u64 (by omega) (by omega) ?_ | refine Wr.u32 (by omega) (by omega) ?_ | refine Dv.pos (by omega) (by omega) ?_ | refine Rm.pos (by omega) (by omega) ?_ | refine ADraw.quiet follows_ok (by kernel_rfl) rfl ?_ | refine ADraw.sched (id := 25) lay_ok (awp_snd lay_ok _) [(0, none), (1, none), (2, none), (3, none), (4, none), (5, none), (6, none), (7, none), (8, none), (9, none), (10, none), (11, none), (12, some [11, 10, 9, 7, 6]), (13, none), (14, none), (15, none)] [(7, [6]), (10, [9]), (11, [10, 9]), (12, [11, 10, 9, 7, 6]), (13, [11, 10, 9, 7, 6]), (14, [11, 10, 9, 7, 6]), (15, [11, 10, 9, 7, 6])] follows_ok (by kernel_rfl) ?_ | refine BSpl.decY (by first | assumption | omega) ?_ | refine BSpl.decN (by first | assumption | omega) ?_ | refine BSpl.dec (fun _ => ?_) (fun _ => ?_) | refine BSpl.yes (by assumption) ?_ | refine BSpl.no (by assumption) ?_ | refine BSpl.mk (fun _ => ?_) (fun _ => ?_))
      all_goals (conv => whnf)
      all_goals exact AEqI.mk (AEq.refl _)
    · obtain ⟨s1, s2, s3, s4⟩ := wy hb
      repeat' ((conv => whnf); first | refine Spl.yes (by first | assumption | omega) ?_ | refine Spl.no (by first | assumption | omega) ?_ | refine Wr.i64 (by omega) (by omega) ?_ | refine Still.mk rfl rfl ?_ | refine InB.mk (inB_mk (by omega) (by omega)) ?_ | refine Req.mk (by omega) ?_ | refine Req.mk ⟨by first | omega | (dsimp only; omega), by first | omega | (dsimp only; omega)⟩ ?_ | refine ACall.plain _ _ (hsh) .nil rfl ?_ | refine ACall.plain _ _ (hof) (SubL.cons (.eq _) .nil) rfl ?_ | refine Bs.of [byteOf' (97 + b), byteOf' (48 + (hi : Int) - 1)] (IsB.two (by omega) (by omega) (by omega) (by omega)) rfl ?_ | refine ARet.hdI ?_ | refine Spl.mk (fun _ => ?_) (fun _ => ?_) | refine Wr.b64 ?_ | refine Wr.bu64 ?_ | refine Wr.bu32 ?_ | refine Wr.bu8 ?_ | refine Wr.u8 (by omega) (by omega) ?_ | refine Wr.u64 (by omega) (by omega) ?_ | refine Wr.u32 (by omega) (by omega) ?_ | refine Dv.pos (by omega) (by omega) ?_ | refine Rm.pos (by omega) (by omega) ?_ | refine ADraw.quiet follows_ok (by kernel_rfl) rfl ?_ | refine ADraw.sched (id := 25) lay_ok (awp_snd lay_ok _) [(0, none), (1, none), (2, none), (3, none), (4, none), (5, none), (6, none), (7, none), (8, none), (9, none), (10, none), (11, none), (12, some [11, 10, 9, 7, 6]), (13, none), (14, none), (15, none)] [(7, [6]), (10, [9]), (11, [10, 9]), (12, [11, 10, 9, 7, 6]), (13, [11, 10, 9, 7, 6]), (14, [11, 10, 9, 7, 6]), (15, [11, 10, 9, 7, 6])] follows_ok (by kernel_rfl) ?_ | refine BSpl.decY (by first | assumption | omega) ?_ | refine BSpl.decN (by first | assumption | omega) ?_ | refine BSpl.dec (fun _ => ?_) (fun _ => ?_) | refine BSpl.yes (by assumption) ?_ | refine BSpl.no (by assumption) ?_ | refine BSpl.mk (fun _ => ?_) (fun _ => ?_))
      all_goals (conv => whnf)
      all_goals exact AEqI.mk (AEq.refl _)
end Go.Proofs.Ytihjfndkgmjanaa
