/-
  What the reference of layer 18 lets be and puts; whether two rows of records are the same.
-/
import Derived.Test.YtbmojelnkldecaaRefB
namespace Go.Proofs.Ytbmojelnkldecaa
open Go.RowKit

theorem clkZ_no {c : Clk} (h : ¬ c = clk0) : clkZ c = false := by
  cases hc : clkZ c with
  | false => rfl
  | true => exact absurd ((clkZ_iff c).1 hc) h
theorem r18in_spec (n : Int) : ASpec Try.prog 87 [.v (.int .i64 n)] (.v (.bool (okN n))) [] := by
  refine aspec_of lay_ok 5 Try.func87 rfl rfl rfl ?_
  repeat' ((conv => whnf); first | refine Spl.yes (by first | assumption | omega) ?_ | refine Spl.no (by first | assumption | omega) ?_ | refine Wr.i64 (by omega) (by omega) ?_ | refine Still.mk rfl rfl ?_ | refine InB.mk (inB_mk (by omega) (by omega)) ?_ | refine Req.mk (by omega) ?_ | refine Req.mk ⟨by first | omega | (dsimp only; omega), by first | omega | (dsimp only; omega)⟩ ?_ | refine ARet.hdI ?_ | refine Spl.mk (fun _ => ?_) (fun _ => ?_) | refine Wr.b64 ?_ | refine Wr.bu64 ?_ | refine Wr.bu32 ?_ | refine Wr.bu8 ?_ | refine Wr.u8 (by omega) (by omega) ?_ | refine Wr.u64 (by omega) (by omega) ?_ | refine Wr.u32 (by omega) (by omega) ?_ | refine Dv.pos (by omega) (by omega) ?_ | refine Rm.pos (by omega) (by omega) ?_ | refine ADraw.quiet follows_ok (by kernel_rfl) rfl ?_ | refine BSpl.decY (by first | assumption | omega) ?_ | refine BSpl.decN (by first | assumption | omega) ?_ | refine BSpl.dec (fun _ => ?_) (fun _ => ?_) | refine BSpl.yes (by assumption) ?_ | refine BSpl.no (by assumption) ?_ | refine BSpl.mk (fun _ => ?_) (fun _ => ?_))
  all_goals (conv => whnf)
  all_goals (refine AEqI.mk (AEq.of ?_))
  all_goals simp [okN, withinB, *]

set_option maxHeartbeats 8000000 in
set_option maxRecDepth 100000 in
theorem r18may_spec (x : Rc) (hl : x.ev.length ≤ 140737488355328) : ASpec Try.prog 70 [x.av] (.v (.bool (mayR x))) [] := by
  obtain ⟨k, r, u, ⟨c0, c1, c2, c3, c4⟩, ev⟩ := x
  dsimp only at hl
  rcases (show k = 1 ∨ k = 2 ∨ k = 3 ∨ k = 4 ∨ k = 5 ∨ k = 6 ∨ ¬ (1 ≤ k ∧ k ≤ 6) by omega) with rfl | rfl | rfl | rfl | rfl | rfl | hk
  all_goals dsimp only [Rc.av, Rc.cs]
  all_goals
    refine aspec_of lay_ok 2785970732002184125571137599 Try.func70 rfl rfl rfl ?_
    repeat' ((conv => whnf); first | refine Spl.yes (by first | assumption | omega) ?_ | refine Spl.no (by first | assumption | omega) ?_ | refine Wr.i64 (by omega) (by omega) ?_ | refine Still.mk rfl rfl ?_ | refine InB.mk (inB_mk (by omega) (by omega)) ?_ | refine Req.mk (by omega) ?_ | refine Req.mk ⟨by first | omega | (dsimp only; omega), by first | omega | (dsimp only; omega)⟩ ?_ | refine ACall.plain _ _ (r18in_spec _) (SubL.cons (.eq _) .nil) rfl ?_ | refine ALoop.unr 3 6 rfl ?_ | refine ARet.hdI ?_ | refine Spl.mk (fun _ => ?_) (fun _ => ?_) | refine Wr.b64 ?_ | refine Wr.bu64 ?_ | refine Wr.bu32 ?_ | refine Wr.bu8 ?_ | refine Wr.u8 (by omega) (by omega) ?_ | refine Wr.u64 (by omega) (by omega) ?_ | refine Wr.u32 (by omega) (by omega) ?_ | refine Dv.pos (by omega) (by omega) ?_ | refine Rm.pos (by omega) (by omega) ?_ | refine ADraw.quiet follows_ok (by kernel_rfl) rfl ?_ | refine BSpl.decY (by first | assumption | omega) ?_ | refine BSpl.decN (by first | assumption | omega) ?_ | refine BSpl.dec (fun _ => ?_) (fun _ => ?_) | refine BSpl.yes (by assumption) ?_ | refine BSpl.no (by assumption) ?_ | refine BSpl.mk (fun _ => ?_) (fun _ => ?_))
    all_goals (conv => whnf)
    all_goals first
      | refine AEqI.mk (AEq.of ?_)
      | refine ALoop.mk { j : Nat // j ≤ ev.length ∧ ∀ i, i < j → mayE (ev.getD i default) = 0 } (fun j => ⟨[(1, .box 0 0), (4, .v (.int .i64 (j.1 : Int)))],
          [(0, .box 39 [.v (.int .i64 _), .v (.int .i64 r), .v (.int .i64 u), .v (.int .i64 c0), .v (.int .i64 c1), .v (.int .i64 c2), .v (.int .i64 c3), .v (.int .i64 c4), .sl 12 ev.length true (evF ev)])], [], 4⟩) (fun j => ev.length - j.1) ⟨0, Nat.zero_le _, fun i h => absurd h (Nat.not_lt_zero i)⟩ _
          (LeR.mk' [] _ _ _ rfl ⟨AEq.refl _, AEq.int rfl, trivial⟩ ⟨⟨_, rfl, OEq.refl _⟩, trivial⟩ rfl) ?_
    all_goals try (simp [mayR, rcK, rcU, rcE, rcC, okC, clkZ_iff, -List.length_eq_zero_iff, *] <;> omega; done)
    all_goals (rintro ⟨j, hj, hall⟩; dsimp only)
    all_goals repeat' ((conv => whnf); first | refine Spl.yes (by first | assumption | omega) ?_ | refine Spl.no (by first | assumption | omega) ?_ | refine Wr.i64 (by omega) (by omega) ?_ | refine Still.mk rfl rfl ?_ | refine InB.mk (inB_mk (by omega) (by omega)) ?_ | refine Req.mk (by omega) ?_ | refine Req.mk ⟨by first | omega | (dsimp only; omega), by first | omega | (dsimp only; omega)⟩ ?_ | refine ACall.plain _ _ (rmay_spec (ev.getD (j : Int).toNat default)) (SubL.cons (.eq _) .nil) rfl ?_ | refine EqA.mk (Clk.vs ⟨c0, c1, c2, c3, c4⟩) (Clk.vs clk0) (Clk.mk c0 c1 c2 c3 c4 = clk0) rfl rfl (clk_eq _ _) ?_ | refine ARet.hdI ?_ | refine Spl.mk (fun _ => ?_) (fun _ => ?_) | refine Wr.b64 ?_ | refine Wr.bu64 ?_ | refine Wr.bu32 ?_ | refine Wr.bu8 ?_ | refine Wr.u8 (by omega) (by omega) ?_ | refine Wr.u64 (by omega) (by omega) ?_ | refine Wr.u32 (by omega) (by omega) ?_ | refine Dv.pos (by omega) (by omega) ?_ | refine Rm.pos (by omega) (by omega) ?_ | refine ADraw.quiet follows_ok (by kernel_rfl) rfl ?_ | refine BSpl.decY (by first | assumption | omega) ?_ | refine BSpl.decN (by first | assumption | omega) ?_ | refine BSpl.dec (fun _ => ?_) (fun _ => ?_) | refine BSpl.yes (by assumption) ?_ | refine BSpl.no (by assumption) ?_ | refine BSpl.mk (fun _ => ?_) (fun _ => ?_))
    all_goals first
      | (conv => whnf
         refine ⟨⟨j + 1, by omega, fun i hi => ?_⟩, _, LeR.mk' [] _ _ _ rfl ⟨AEq.refl _, AEq.int rfl, trivial⟩ ⟨⟨_, rfl, OEq.refl _⟩, trivial⟩ rfl, by show ev.length - (j + 1) < ev.length - j; omega⟩
         rcases Nat.lt_or_ge i j with h | h
         · exact hall i h
         · rw [show i = j by omega]
           exact ‹mayE (ev.getD (j : Int).toNat default) = 0›)
      | (conv => whnf
         refine AEqI.mk (AEq.of ?_)
         have hno := all_no (l := ev) (j := j) (by omega) ‹¬ mayE (ev.getD (j : Int).toNat default) = 0›
         simp [mayR, hno])
      | (conv => whnf
         refine AEqI.mk (AEq.of ?_)
         have hyes := all_yes (l := ev) (fun i hi => hall i (by omega))
         simp [mayR, show okN 0 = true from rfl, rcK, rcU, rcE, rcC, okC, clkZ_iff, -List.length_eq_zero_iff, *] <;> first | omega | (intros; exact clkZ_no ‹_›))

theorem r18Put_no (x : Rc) (hl : x.ev.length ≤ 140737488355328) (h : mayR x = false) : ASpec Try.prog 35 [x.av] (.tup [.v (.slice none 0 0), .v (.int .i64 1)]) [] := by
  have hm := r18may_spec x hl
  rw [h] at hm
  refine aspec_of lay_ok 9225624180400067327 Try.func35 rfl rfl rfl ?_
  repeat' ((conv => whnf); first | refine Spl.yes (by first | assumption | omega) ?_ | refine Spl.no (by first | assumption | omega) ?_ | refine Wr.i64 (by omega) (by omega) ?_ | refine Still.mk rfl rfl ?_ | refine InB.mk (inB_mk (by omega) (by omega)) ?_ | refine Req.mk (by omega) ?_ | refine Req.mk ⟨by first | omega | (dsimp only; omega), by first | omega | (dsimp only; omega)⟩ ?_ | refine ACall.plain _ _ (hm) (SubL.cons (.eq _) .nil) rfl ?_ | refine ARet.hdI ?_ | refine Spl.mk (fun _ => ?_) (fun _ => ?_) | refine Wr.b64 ?_ | refine Wr.bu64 ?_ | refine Wr.bu32 ?_ | refine Wr.bu8 ?_ | refine Wr.u8 (by omega) (by omega) ?_ | refine Wr.u64 (by omega) (by omega) ?_ | refine Wr.u32 (by omega) (by omega) ?_ | refine Dv.pos (by omega) (by omega) ?_ | refine Rm.pos (by omega) (by omega) ?_ | refine ADraw.quiet follows_ok (by kernel_rfl) rfl ?_ | refine BSpl.decY (by first | assumption | omega) ?_ | refine BSpl.decN (by first | assumption | omega) ?_ | refine BSpl.dec (fun _ => ?_) (fun _ => ?_) | refine BSpl.yes (by assumption) ?_ | refine BSpl.no (by assumption) ?_ | refine BSpl.mk (fun _ => ?_) (fun _ => ?_))
  conv => whnf
  exact AEqI.mk (AEq.refl _)

set_option maxHeartbeats 8000000 in
set_option maxRecDepth 100000 in
theorem r18Put_e (d : Nat) (x : Rc) (h : mayR x = true) (hk : x.k = 1 ∨ x.k = 2 ∨ x.k = 5) :
    ASpec Try.prog 35 [x.av] (.tup [.own d, .v (.int .i64 0)]) [(d, .row 5 1 (rcBytes x).length true (bytesF (rcBytes x)))] := by
  have m := mayR_of h
  have hm := r18may_spec x (by have := m.l; omega)
  rw [h] at hm
  obtain ⟨k, r, u, c, ev⟩ := x
  obtain ⟨mk, mr, mu, ml, mc, mu0, mc0, me0, mev, m1⟩ := m
  dsimp only at mk mr mu ml mc mu0 mc0 me0 mev m1 hk
  have hat : ∀ j, j < ev.length → mayE (ev.getD j default) = 0 := fun j hj => may_at mev hj
  have h44 : ∀ j, j < ev.length → (evBytes (ev.getD j default)).length ≤ 44 := fun j hj => evBytes_len (hat j hj)
  have hlen : ∀ j, (evsB (ev.take j)).length ≤ 44 * j := fun j => Nat.le_trans (evsB_len fun e he => may_mem mev e (List.mem_of_mem_take he)) (Nat.mul_le_mul_left _ (by rw [List.length_take]; omega))
  have hv : (vput ev.length).length ≤ 10 := vputF_le 9 _
  obtain ⟨kk, hkk⟩ : ∃ kk, kk = k := ⟨_, rfl⟩
  have hmore : ∀ j, ([byteOf' kk, byteOf' r] ++ vput ev.length ++ evsB (ev.take j)).length = 2 + (vput ev.length).length + (evsB (ev.take j)).length := fun j => by simp; omega
  rcases hk with rfl | rfl | rfl
  all_goals
    dsimp only [Rc.av, Rc.cs] at hm ⊢
    refine aspec_of lay_ok 9225624180400067327 Try.func35 rfl rfl rfl ?_
    repeat' ((conv => whnf); first | refine Spl.yes (by first | assumption | omega) ?_ | refine Spl.no (by first | assumption | omega) ?_ | refine Wr.i64 (by omega) (by omega) ?_ | refine Still.mk rfl rfl ?_ | refine InB.mk (inB_mk (by omega) (by omega)) ?_ | refine Req.mk (by omega) ?_ | refine Req.mk ⟨by first | omega | (dsimp only; omega), by first | omega | (dsimp only; omega)⟩ ?_ | refine ACall.plain _ _ (hm) (SubL.cons (.eq _) .nil) rfl ?_ | refine ACall.fresh _ _ _ _ _ _ _ (rvput_spec _ ev.length (by omega)) (SubL.cons (.eq _) .nil) rfl ?_ | refine Spl.mk (fun _ => ?_) (fun _ => ?_) | refine Wr.b64 ?_ | refine Wr.bu64 ?_ | refine Wr.bu32 ?_ | refine Wr.bu8 ?_ | refine Wr.u8 (by omega) (by omega) ?_ | refine Wr.u64 (by omega) (by omega) ?_ | refine Wr.u32 (by omega) (by omega) ?_ | refine Dv.pos (by omega) (by omega) ?_ | refine Rm.pos (by omega) (by omega) ?_ | refine ADraw.quiet follows_ok (by kernel_rfl) rfl ?_ | refine BSpl.decY (by first | assumption | omega) ?_ | refine BSpl.decN (by first | assumption | omega) ?_ | refine BSpl.dec (fun _ => ?_) (fun _ => ?_) | refine BSpl.yes (by assumption) ?_ | refine BSpl.no (by assumption) ?_ | refine BSpl.mk (fun _ => ?_) (fun _ => ?_))
    conv => whnf
    refine ALoop.mk { j : Nat // j ≤ ev.length } (fun j => ⟨[(1, .box 0 0), (4, .own 90), (6, .v (.int .i64 (j.1 : Int)))],
        [(0, .box 39 [.v (.int .i64 kk), .v (.int .i64 r), .v (.int .i64 u), .v (.int .i64 c.c0), .v (.int .i64 c.c1), .v (.int .i64 c.c2), .v (.int .i64 c.c3), .v (.int .i64 c.c4), .sl 12 ev.length true (evF ev)]), (90, .row 5 1 ([byteOf' kk, byteOf' r] ++ vput ev.length ++ evsB (ev.take j.1)).length true (bytesF ([byteOf' kk, byteOf' r] ++ vput ev.length ++ evsB (ev.take j.1))))], [], 91⟩) (fun j => ev.length - j.1) ⟨0, Nat.zero_le _⟩ _
        (LeR.mk' [(3, 90)] _ _ _ rfl ⟨AEq.refl _, AEq.refl _, AEq.int rfl, trivial⟩ ⟨⟨_, rfl, by rw [hkk]; exact OEq.refl _⟩, ⟨_, rfl, OEq.isB (IsB.app (IsB.two (by omega) (by omega) (by omega) (by omega)) (IsB.bytes _) rfl) (by simp <;> omega) (by simp [evsB, hkk])⟩, trivial⟩ rfl) ?_
    rintro ⟨j, hj⟩
    dsimp only
    have h44j := h44 (j : Int).toNat
    have hmj := hmore j
    have hlj := hlen j
    have hsl := sealB_len ([byteOf' kk, byteOf' r] ++ vput ev.length ++ evsB (ev.take j))
    have hvs : (vput (sealB ([byteOf' kk, byteOf' r] ++ vput ev.length ++ evsB (ev.take j))).length).length ≤ 10 := vputF_le 9 _
    repeat' ((conv => whnf); first | refine Spl.yes (by first | assumption | omega) ?_ | refine Spl.no (by first | assumption | omega) ?_ | refine Wr.i64 (by omega) (by omega) ?_ | refine Still.mk rfl rfl ?_ | refine InB.mk (inB_mk (by omega) (by omega)) ?_ | refine Req.mk (by omega) ?_ | refine Req.mk ⟨by first | omega | (dsimp only; omega), by first | omega | (dsimp only; omega)⟩ ?_ | refine ACall.fresh _ _ _ _ _ _ _ (rput_yes _ (ev.getD (j : Int).toNat default) (hat _ (by omega))) (SubL.cons (.eq _) .nil) rfl ?_ | refine ACall.fresh _ _ _ _ _ _ _ (rseal_spec _ ([byteOf' kk, byteOf' r] ++ vput ev.length ++ evsB (ev.take j)) (IsB.bytes _) rfl (by omega)) (SubL.cons (.eq _) .nil) rfl ?_ | refine ACall.fresh _ _ _ _ _ _ _ (rvput_spec _ (sealB ([byteOf' kk, byteOf' r] ++ vput ev.length ++ evsB (ev.take j))).length (by rw [sealB_len]; omega)) (SubL.cons (.eq _) .nil) rfl ?_ | refine Spl.mk (fun _ => ?_) (fun _ => ?_) | refine Wr.b64 ?_ | refine Wr.bu64 ?_ | refine Wr.bu32 ?_ | refine Wr.bu8 ?_ | refine Wr.u8 (by omega) (by omega) ?_ | refine Wr.u64 (by omega) (by omega) ?_ | refine Wr.u32 (by omega) (by omega) ?_ | refine Dv.pos (by omega) (by omega) ?_ | refine Rm.pos (by omega) (by omega) ?_ | refine ADraw.quiet follows_ok (by kernel_rfl) rfl ?_ | refine BSpl.decY (by first | assumption | omega) ?_ | refine BSpl.decN (by first | assumption | omega) ?_ | refine BSpl.dec (fun _ => ?_) (fun _ => ?_) | refine BSpl.yes (by assumption) ?_ | refine BSpl.no (by assumption) ?_ | refine BSpl.mk (fun _ => ?_) (fun _ => ?_))
    · conv => whnf
      refine ⟨⟨j + 1, by omega⟩, _, LeR.mk' [(92, 90)] _ _ _ rfl ⟨AEq.refl _, AEq.refl _, AEq.int rfl, trivial⟩ ⟨⟨_, rfl, by rw [hkk]; exact OEq.refl _⟩, ⟨_, rfl, OEq.isB (IsB.app (IsB.bytes _) (IsB.bytes _) rfl) List.length_append.symm ?_⟩, trivial⟩ rfl, by show ev.length - (j + 1) < ev.length - j; omega⟩
      rw [evsB_take (by omega), List.append_assoc]
      rfl
    · conv => whnf
      refine ARet.ownX d rfl rfl ?_ (AEq.refl _)
      refine OEq.isB (IsB.app (IsB.bytes _) (IsB.bytes _) rfl) List.length_append.symm ?_
      rw [List.take_of_length_le (by omega)]
      unfold rcBytes rcBody
      simp [hkk, rcU, rcE, rcC, byteOf, byteOf']

set_option maxHeartbeats 8000000 in
set_option maxRecDepth 100000 in
theorem r18Put_ue (d : Nat) (x : Rc) (h : mayR x = true) (hk : x.k = 4) :
    ASpec Try.prog 35 [x.av] (.tup [.own d, .v (.int .i64 0)]) [(d, .row 5 1 (rcBytes x).length true (bytesF (rcBytes x)))] := by
  have m := mayR_of h
  have hm := r18may_spec x (by have := m.l; omega)
  rw [h] at hm
  obtain ⟨k, r, u, c, ev⟩ := x
  obtain ⟨mk, mr, mu, ml, mc, mu0, mc0, me0, mev, m1⟩ := m
  dsimp only at mk mr mu ml mc mu0 mc0 me0 mev m1 hk
  have hat : ∀ j, j < ev.length → mayE (ev.getD j default) = 0 := fun j hj => may_at mev hj
  have h44 : ∀ j, j < ev.length → (evBytes (ev.getD j default)).length ≤ 44 := fun j hj => evBytes_len (hat j hj)
  have hlen : ∀ j, (evsB (ev.take j)).length ≤ 44 * j := fun j => Nat.le_trans (evsB_len fun e he => may_mem mev e (List.mem_of_mem_take he)) (Nat.mul_le_mul_left _ (by rw [List.length_take]; omega))
  have hv : (vput ev.length).length ≤ 10 := vputF_le 9 _
  obtain ⟨kk, hkk⟩ : ∃ kk, kk = k := ⟨_, rfl⟩
  obtain ⟨un, rfl, hun⟩ := okN_of mu
  have hvu : (vput un).length ≤ 10 := vputF_le 9 _
  have hmore : ∀ j, ([byteOf' kk, byteOf' r] ++ vput un ++ vput ev.length ++ evsB (ev.take j)).length = 2 + (vput un).length + (vput ev.length).length + (evsB (ev.take j)).length := fun j => by simp; omega
  subst hk
  all_goals
    dsimp only [Rc.av, Rc.cs] at hm ⊢
    refine aspec_of lay_ok 9225624180400067327 Try.func35 rfl rfl rfl ?_
    repeat' ((conv => whnf); first | refine Spl.yes (by first | assumption | omega) ?_ | refine Spl.no (by first | assumption | omega) ?_ | refine Wr.i64 (by omega) (by omega) ?_ | refine Still.mk rfl rfl ?_ | refine InB.mk (inB_mk (by omega) (by omega)) ?_ | refine Req.mk (by omega) ?_ | refine Req.mk ⟨by first | omega | (dsimp only; omega), by first | omega | (dsimp only; omega)⟩ ?_ | refine ACall.plain _ _ (hm) (SubL.cons (.eq _) .nil) rfl ?_ | refine ACall.fresh _ _ _ _ _ _ _ (rvput_spec _ un (by omega)) (SubL.cons (.eq _) .nil) rfl ?_ | refine ACall.fresh _ _ _ _ _ _ _ (rvput_spec _ ev.length (by omega)) (SubL.cons (.eq _) .nil) rfl ?_ | refine Spl.mk (fun _ => ?_) (fun _ => ?_) | refine Wr.b64 ?_ | refine Wr.bu64 ?_ | refine Wr.bu32 ?_ | refine Wr.bu8 ?_ | refine Wr.u8 (by omega) (by omega) ?_ | refine Wr.u64 (by omega) (by omega) ?_ | refine Wr.u32 (by omega) (by omega) ?_ | refine Dv.pos (by omega) (by omega) ?_ | refine Rm.pos (by omega) (by omega) ?_ | refine ADraw.quiet follows_ok (by kernel_rfl) rfl ?_ | refine BSpl.decY (by first | assumption | omega) ?_ | refine BSpl.decN (by first | assumption | omega) ?_ | refine BSpl.dec (fun _ => ?_) (fun _ => ?_) | refine BSpl.yes (by assumption) ?_ | refine BSpl.no (by assumption) ?_ | refine BSpl.mk (fun _ => ?_) (fun _ => ?_))
    conv => whnf
    refine ALoop.mk { j : Nat // j ≤ ev.length } (fun j => ⟨[(1, .box 0 0), (4, .own 90), (6, .v (.int .i64 (j.1 : Int)))],
        [(0, .box 39 [.v (.int .i64 kk), .v (.int .i64 r), .v (.int .i64 (un : Int)), .v (.int .i64 c.c0), .v (.int .i64 c.c1), .v (.int .i64 c.c2), .v (.int .i64 c.c3), .v (.int .i64 c.c4), .sl 12 ev.length true (evF ev)]), (90, .row 5 1 ([byteOf' kk, byteOf' r] ++ vput un ++ vput ev.length ++ evsB (ev.take j.1)).length true (bytesF ([byteOf' kk, byteOf' r] ++ vput un ++ vput ev.length ++ evsB (ev.take j.1))))], [], 91⟩) (fun j => ev.length - j.1) ⟨0, Nat.zero_le _⟩ _
        (LeR.mk' [(5, 90)] _ _ _ rfl ⟨AEq.refl _, AEq.refl _, AEq.int rfl, trivial⟩ ⟨⟨_, rfl, by rw [hkk]; exact OEq.refl _⟩, ⟨_, rfl, OEq.isB (IsB.app (IsB.app (IsB.two (by omega) (by omega) (by omega) (by omega)) (IsB.bytes _) rfl) (IsB.bytes _) (by simp <;> omega)) (by simp <;> omega) (by simp [evsB, hkk])⟩, trivial⟩ rfl) ?_
    rintro ⟨j, hj⟩
    dsimp only
    have h44j := h44 (j : Int).toNat
    have hmj := hmore j
    have hlj := hlen j
    have hsl := sealB_len ([byteOf' kk, byteOf' r] ++ vput un ++ vput ev.length ++ evsB (ev.take j))
    have hvs : (vput (sealB ([byteOf' kk, byteOf' r] ++ vput un ++ vput ev.length ++ evsB (ev.take j))).length).length ≤ 10 := vputF_le 9 _
    repeat' ((conv => whnf); first | refine Spl.yes (by first | assumption | omega) ?_ | refine Spl.no (by first | assumption | omega) ?_ | refine Wr.i64 (by omega) (by omega) ?_ | refine Still.mk rfl rfl ?_ | refine InB.mk (inB_mk (by omega) (by omega)) ?_ | refine Req.mk (by omega) ?_ | refine Req.mk ⟨by first | omega | (dsimp only; omega), by first | omega | (dsimp only; omega)⟩ ?_ | refine ACall.fresh _ _ _ _ _ _ _ (rput_yes _ (ev.getD (j : Int).toNat default) (hat _ (by omega))) (SubL.cons (.eq _) .nil) rfl ?_ | refine ACall.fresh _ _ _ _ _ _ _ (rseal_spec _ ([byteOf' kk, byteOf' r] ++ vput un ++ vput ev.length ++ evsB (ev.take j)) (IsB.bytes _) rfl (by omega)) (SubL.cons (.eq _) .nil) rfl ?_ | refine ACall.fresh _ _ _ _ _ _ _ (rvput_spec _ (sealB ([byteOf' kk, byteOf' r] ++ vput un ++ vput ev.length ++ evsB (ev.take j))).length (by rw [sealB_len]; omega)) (SubL.cons (.eq _) .nil) rfl ?_ | refine Spl.mk (fun _ => ?_) (fun _ => ?_) | refine Wr.b64 ?_ | refine Wr.bu64 ?_ | refine Wr.bu32 ?_ | refine Wr.bu8 ?_ | refine Wr.u8 (by omega) (by omega) ?_ | refine Wr.u64 (by omega) (by omega) ?_ | refine Wr.u32 (by omega) (by omega) ?_ | refine Dv.pos (by omega) (by omega) ?_ | refine Rm.pos (by omega) (by omega) ?_ | refine ADraw.quiet follows_ok (by kernel_rfl) rfl ?_ | refine BSpl.decY (by first | assumption | omega) ?_ | refine BSpl.decN (by first | assumption | omega) ?_ | refine BSpl.dec (fun _ => ?_) (fun _ => ?_) | refine BSpl.yes (by assumption) ?_ | refine BSpl.no (by assumption) ?_ | refine BSpl.mk (fun _ => ?_) (fun _ => ?_))
    · conv => whnf
      refine ⟨⟨j + 1, by omega⟩, _, LeR.mk' [(92, 90)] _ _ _ rfl ⟨AEq.refl _, AEq.refl _, AEq.int rfl, trivial⟩ ⟨⟨_, rfl, by rw [hkk]; exact OEq.refl _⟩, ⟨_, rfl, OEq.isB (IsB.app (IsB.bytes _) (IsB.bytes _) rfl) List.length_append.symm ?_⟩, trivial⟩ rfl, by show ev.length - (j + 1) < ev.length - j; omega⟩
      rw [evsB_take (by omega), List.append_assoc]
      rfl
    · conv => whnf
      refine ARet.ownX d rfl rfl ?_ (AEq.refl _)
      refine OEq.isB (IsB.app (IsB.bytes _) (IsB.bytes _) rfl) List.length_append.symm ?_
      rw [List.take_of_length_le (by omega)]
      unfold rcBytes rcBody
      simp [hkk, rcU, rcE, rcC, byteOf, byteOf', vputI]

set_option maxHeartbeats 8000000 in
set_option maxRecDepth 100000 in
theorem r18Put_u (d : Nat) (x : Rc) (h : mayR x = true) (hk : x.k = 3) :
    ASpec Try.prog 35 [x.av] (.tup [.own d, .v (.int .i64 0)]) [(d, .row 5 1 (rcBytes x).length true (bytesF (rcBytes x)))] := by
  have m := mayR_of h
  have hm := r18may_spec x (by have := m.l; omega)
  rw [h] at hm
  obtain ⟨k, r, u, c, ev⟩ := x
  obtain ⟨mk, mr, mu, ml, mc, mu0, mc0, me0, mev, m1⟩ := m
  dsimp only at mk mr mu ml mc mu0 mc0 me0 mev m1 hk
  obtain ⟨kk, hkk⟩ : ∃ kk, kk = k := ⟨_, rfl⟩
  obtain ⟨un, rfl, hun⟩ := okN_of mu
  have hvu : (vput un).length ≤ 10 := vputF_le 9 _
  have hmore : ([byteOf' kk, byteOf' r] ++ vput un).length = 2 + (vput un).length := by simp; omega
  have hsl := sealB_len ([byteOf' kk, byteOf' r] ++ vput un)
  have hvs : (vput (sealB ([byteOf' kk, byteOf' r] ++ vput un)).length).length ≤ 10 := vputF_le 9 _
  subst hk
  dsimp only [Rc.av, Rc.cs] at hm ⊢
  refine aspec_of lay_ok 9225624180400067327 Try.func35 rfl rfl rfl ?_
  repeat' ((conv => whnf); first | refine Spl.yes (by first | assumption | omega) ?_ | refine Spl.no (by first | assumption | omega) ?_ | refine Wr.i64 (by omega) (by omega) ?_ | refine Still.mk rfl rfl ?_ | refine InB.mk (inB_mk (by omega) (by omega)) ?_ | refine Req.mk (by omega) ?_ | refine Req.mk ⟨by first | omega | (dsimp only; omega), by first | omega | (dsimp only; omega)⟩ ?_ | refine ACall.plain _ _ (hm) (SubL.cons (.eq _) .nil) rfl ?_ | refine ACall.fresh _ _ _ _ _ _ _ (rvput_spec _ un (by omega)) (SubL.cons (.eq _) .nil) rfl ?_ | refine ACall.fresh _ _ _ _ _ _ _ (rseal_spec _ ([byteOf' kk, byteOf' r] ++ vput un) (hkk ▸ IsB.app (IsB.two (by omega) (by omega) (by omega) (by omega)) (IsB.bytes _) rfl) (by simp <;> omega) (by omega)) (SubL.cons (.eq _) .nil) rfl ?_ | refine ACall.fresh _ _ _ _ _ _ _ (rvput_spec _ (sealB ([byteOf' kk, byteOf' r] ++ vput un)).length (by rw [sealB_len]; omega)) (SubL.cons (.eq _) .nil) rfl ?_ | refine Spl.mk (fun _ => ?_) (fun _ => ?_) | refine Wr.b64 ?_ | refine Wr.bu64 ?_ | refine Wr.bu32 ?_ | refine Wr.bu8 ?_ | refine Wr.u8 (by omega) (by omega) ?_ | refine Wr.u64 (by omega) (by omega) ?_ | refine Wr.u32 (by omega) (by omega) ?_ | refine Dv.pos (by omega) (by omega) ?_ | refine Rm.pos (by omega) (by omega) ?_ | refine ADraw.quiet follows_ok (by kernel_rfl) rfl ?_ | refine BSpl.decY (by first | assumption | omega) ?_ | refine BSpl.decN (by first | assumption | omega) ?_ | refine BSpl.dec (fun _ => ?_) (fun _ => ?_) | refine BSpl.yes (by assumption) ?_ | refine BSpl.no (by assumption) ?_ | refine BSpl.mk (fun _ => ?_) (fun _ => ?_))
  conv => whnf
  refine ARet.ownX d rfl rfl ?_ (AEq.refl _)
  refine OEq.isB (IsB.app (IsB.bytes _) (IsB.bytes _) rfl) List.length_append.symm ?_
  unfold rcBytes rcBody
  simp [hkk, rcU, rcE, rcC, byteOf, byteOf', vputI]

set_option maxHeartbeats 8000000 in
set_option maxRecDepth 100000 in
theorem r18Put_c (d : Nat) (x : Rc) (h : mayR x = true) (hk : x.k = 6) :
    ASpec Try.prog 35 [x.av] (.tup [.own d, .v (.int .i64 0)]) [(d, .row 5 1 (rcBytes x).length true (bytesF (rcBytes x)))] := by
  have m := mayR_of h
  have hm := r18may_spec x (by have := m.l; omega)
  rw [h] at hm
  obtain ⟨k, r, u, ⟨c0, c1, c2, c3, c4⟩, ev⟩ := x
  obtain ⟨mk, mr, mu, ml, ⟨m0, m1, m2, m3, m4⟩, mu0, mc0, me0, mev, mone⟩ := m
  dsimp only at mk mr mu ml m0 m1 m2 m3 m4 mu0 mc0 me0 mev mone hk
  obtain ⟨kk, hkk⟩ : ∃ kk, kk = k := ⟨_, rfl⟩
  obtain ⟨c0, rfl, hc0⟩ := okN_of m0
  obtain ⟨c1, rfl, hc1⟩ := okN_of m1
  obtain ⟨c2, rfl, hc2⟩ := okN_of m2
  obtain ⟨c3, rfl, hc3⟩ := okN_of m3
  obtain ⟨c4, rfl, hc4⟩ := okN_of m4
  have q0 : (vput c0).length ≤ 10 := vputF_le 9 _
  have q1 : (vput c1).length ≤ 10 := vputF_le 9 _
  have q2 : (vput c2).length ≤ 10 := vputF_le 9 _
  have q3 : (vput c3).length ≤ 10 := vputF_le 9 _
  have q4 : (vput c4).length ≤ 10 := vputF_le 9 _
  have hmore : ([byteOf' kk, byteOf' r] ++ vput c0 ++ vput c1 ++ vput c2 ++ vput c3 ++ vput c4).length = 2 + (vput c0).length + (vput c1).length + (vput c2).length + (vput c3).length + (vput c4).length := by simp; omega
  have hsl := sealB_len ([byteOf' kk, byteOf' r] ++ vput c0 ++ vput c1 ++ vput c2 ++ vput c3 ++ vput c4)
  have hvs : (vput (sealB ([byteOf' kk, byteOf' r] ++ vput c0 ++ vput c1 ++ vput c2 ++ vput c3 ++ vput c4)).length).length ≤ 10 := vputF_le 9 _
  subst hk
  dsimp only [Rc.av, Rc.cs] at hm ⊢
  refine aspec_of lay_ok 9225624180400067327 Try.func35 rfl rfl rfl ?_
  repeat' ((conv => whnf); first | refine Spl.yes (by first | assumption | omega) ?_ | refine Spl.no (by first | assumption | omega) ?_ | refine Wr.i64 (by omega) (by omega) ?_ | refine Still.mk rfl rfl ?_ | refine InB.mk (inB_mk (by omega) (by omega)) ?_ | refine Req.mk (by omega) ?_ | refine Req.mk ⟨by first | omega | (dsimp only; omega), by first | omega | (dsimp only; omega)⟩ ?_ | refine ACall.plain _ _ (hm) (SubL.cons (.eq _) .nil) rfl ?_ | refine ACall.fresh _ _ _ _ _ _ _ (rvput_spec _ c0 (by omega)) (SubL.cons (.eq _) .nil) rfl ?_ | refine ACall.fresh _ _ _ _ _ _ _ (rvput_spec _ c1 (by omega)) (SubL.cons (.eq _) .nil) rfl ?_ | refine ACall.fresh _ _ _ _ _ _ _ (rvput_spec _ c2 (by omega)) (SubL.cons (.eq _) .nil) rfl ?_ | refine ACall.fresh _ _ _ _ _ _ _ (rvput_spec _ c3 (by omega)) (SubL.cons (.eq _) .nil) rfl ?_ | refine ACall.fresh _ _ _ _ _ _ _ (rvput_spec _ c4 (by omega)) (SubL.cons (.eq _) .nil) rfl ?_ | refine ACall.fresh _ _ _ _ _ _ _ (rseal_spec _ ([byteOf' kk, byteOf' r] ++ vput c0 ++ vput c1 ++ vput c2 ++ vput c3 ++ vput c4) (hkk ▸ IsB.app (IsB.app (IsB.app (IsB.app (IsB.app (IsB.two (by omega) (by omega) (by omega) (by omega)) (IsB.bytes _) rfl) (IsB.bytes _) (by simp <;> omega)) (IsB.bytes _) (by simp <;> omega)) (IsB.bytes _) (by simp <;> omega)) (IsB.bytes _) (by simp <;> omega)) (by simp <;> omega) (by omega)) (SubL.cons (.eq _) .nil) rfl ?_ | refine ACall.fresh _ _ _ _ _ _ _ (rvput_spec _ (sealB ([byteOf' kk, byteOf' r] ++ vput c0 ++ vput c1 ++ vput c2 ++ vput c3 ++ vput c4)).length (by rw [sealB_len]; omega)) (SubL.cons (.eq _) .nil) rfl ?_ | refine ALoop.unr 5 6 rfl ?_ | refine Spl.mk (fun _ => ?_) (fun _ => ?_) | refine Wr.b64 ?_ | refine Wr.bu64 ?_ | refine Wr.bu32 ?_ | refine Wr.bu8 ?_ | refine Wr.u8 (by omega) (by omega) ?_ | refine Wr.u64 (by omega) (by omega) ?_ | refine Wr.u32 (by omega) (by omega) ?_ | refine Dv.pos (by omega) (by omega) ?_ | refine Rm.pos (by omega) (by omega) ?_ | refine ADraw.quiet follows_ok (by kernel_rfl) rfl ?_ | refine BSpl.decY (by first | assumption | omega) ?_ | refine BSpl.decN (by first | assumption | omega) ?_ | refine BSpl.dec (fun _ => ?_) (fun _ => ?_) | refine BSpl.yes (by assumption) ?_ | refine BSpl.no (by assumption) ?_ | refine BSpl.mk (fun _ => ?_) (fun _ => ?_))
  conv => whnf
  refine ARet.ownX d rfl rfl ?_ (AEq.refl _)
  refine OEq.isB (IsB.app (IsB.bytes _) (IsB.bytes _) rfl) List.length_append.symm ?_
  unfold rcBytes rcBody
  simp [hkk, rcU, rcE, rcC, byteOf, byteOf', vputI, clkB]

theorem r18Put_yes (d : Nat) (x : Rc) (h : mayR x = true) :
    ASpec Try.prog 35 [x.av] (.tup [.own d, .v (.int .i64 0)]) [(d, .row 5 1 (rcBytes x).length true (bytesF (rcBytes x)))] := by
  have m := (mayR_of h).k
  rcases (show x.k = 1 ∨ x.k = 2 ∨ x.k = 3 ∨ x.k = 4 ∨ x.k = 5 ∨ x.k = 6 by omega) with hk | hk | hk | hk | hk | hk
  · exact r18Put_e d x h (.inl hk)
  · exact r18Put_e d x h (.inr (.inl hk))
  · exact r18Put_u d x h hk
  · exact r18Put_ue d x h hk
  · exact r18Put_e d x h (.inr (.inr hk))
  · exact r18Put_c d x h hk
end Go.Proofs.Ytbmojelnkldecaa
