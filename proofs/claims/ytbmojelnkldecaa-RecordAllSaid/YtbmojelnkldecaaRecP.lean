/-
  The bytes of a record that may be.
-/
import Derived.Test.YtbmojelnkldecaaRec
import Derived.Test.YtbmojelnkldecaaFitP
namespace Go.Proofs.Ytbmojelnkldecaa
open Go.RowKit

theorem evsB_len {l : List Ev} (h : ∀ e ∈ l, mayE e = 0) : (evsB l).length ≤ 44 * l.length := by
  induction l with
  | nil => simp [evsB]
  | cons e l ih =>
    have h1 := evBytes_len (h e (by simp))
    have h2 := ih fun x hx => h x (by simp [hx])
    simp only [evsB, List.flatMap_cons, List.length_append, List.length_cons] at *
    omega
theorem evsB_take {l : List Ev} {j : Nat} (h : j < l.length) : evsB (l.take (j + 1)) = evsB (l.take j) ++ evBytes (l.getD j default) := by
  rw [List.take_add_one, List.getElem?_eq_getElem h, List.getD, List.getElem?_eq_getElem h, evsB, List.flatMap_append]
  simp [evsB]
theorem may_at {l : List Ev} (h : l.all (fun e => decide (mayE e = 0)) = true) {j : Nat} (hj : j < l.length) : mayE (l.getD j default) = 0 := by
  rw [List.getD, List.getElem?_eq_getElem hj]
  simpa using List.all_eq_true.1 h l[j] (List.getElem_mem hj)
theorem may_mem {l : List Ev} (h : l.all (fun e => decide (mayE e = 0)) = true) : ∀ e ∈ l, mayE e = 0 := fun e he => by simpa using List.all_eq_true.1 h e he
theorem okN_of {n : Int} (h : okN n = true) : ∃ m : Nat, n = m ∧ m ≤ 1048576 := by
  have := withinB_true h
  exact ⟨n.toNat, by omega, by omega⟩

/-- What a record that may be is like. -/
structure MayR (x : Rc) : Prop where
  k : 1 ≤ x.k ∧ x.k ≤ 6
  r : 0 ≤ x.r ∧ x.r < 5
  u : okN x.u = true
  l : x.ev.length ≤ 4096
  c : okN x.c.c0 = true ∧ okN x.c.c1 = true ∧ okN x.c.c2 = true ∧ okN x.c.c3 = true ∧ okN x.c.c4 = true
  u0 : rcU x.k = true ∨ x.u = 0
  c0 : rcC x.k = true ∨ x.c = clk0
  e0 : rcE x.k = true ∨ x.ev.length = 0
  ev : x.ev.all (fun e => decide (mayE e = 0)) = true
  one : x.k ≠ 1 ∨ x.ev.length = 1
theorem mayR_of {x : Rc} (h : mayR x = true) : MayR x := by
  simp only [mayR, Bool.and_eq_true, Bool.or_eq_true, decide_eq_true_eq, clkZ_iff, okC, rcK] at h
  obtain ⟨⟨⟨⟨⟨⟨⟨⟨⟨⟨h1, h2⟩, h3⟩, h4⟩, h5⟩, ⟨⟨⟨h6, h7⟩, h8⟩, h9⟩, h10⟩, h11⟩, h12⟩, h13⟩, h14⟩, h15⟩ := h
  exact ⟨h1, ⟨h2, h3⟩, h4, h5, ⟨h6, h7, h8, h9, h10⟩, h11, h12, h13, h14, h15⟩

set_option maxHeartbeats 8000000 in
set_option maxRecDepth 100000 in
theorem rcPut_e (d : Nat) (x : Rc) (h : mayR x = true) (hk : x.k = 1 ∨ x.k = 2 ∨ x.k = 5) :
    ASpec Try.prog 23 [x.av] (.tup [.own d, .v (.int .i64 0)]) [(d, .row 5 1 (rcBytes x).length true (bytesF (rcBytes x)))] := by
  have m := mayR_of h
  have hm := rcMay_spec x (by have := m.l; omega)
  rw [h] at hm
  obtain ⟨k, r, u, c, ev⟩ := x
  obtain ⟨mk, mr, mu, ml, mc, mu0, mc0, me0, mev, m1⟩ := m
  dsimp only at mk mr mu ml mc mu0 mc0 me0 mev m1 hk
  have hat : ∀ j, j < ev.length → mayE (ev.getD j default) = 0 := fun j hj => may_at mev hj
  have h44 : ∀ j, j < ev.length → (evBytes (ev.getD j default)).length ≤ 44 := fun j hj => evBytes_len (hat j hj)
  have hlen : ∀ j, (evsB (ev.take j)).length ≤ 44 * j := fun j => Nat.le_trans (evsB_len fun e he => may_mem mev e (List.mem_of_mem_take he)) (Nat.mul_le_mul_left _ (by rw [List.length_take]; omega))
  have hv : (vput ev.length).length ≤ 10 := vputF_le 9 _
  obtain ⟨kk, hkk⟩ : ∃ kk, kk = k := ⟨_, rfl⟩
  have hmore : ∀ j, ([byteOf' kk, byteOf' r] ++ vput ev.length ++ evsB (ev.take j)).length = 2 + (vput ev.length).length + (evsB (ev.take j)).length := fun j => by simp; omega
  rcases hk with rfl | rfl | rfl
  all_goals
    dsimp only [Rc.av, Rc.cs] at hm ⊢
    refine aspec_of lay_ok 18958650292743101019519 Try.func23 rfl rfl rfl ?_
    repeat' ((conv => whnf); first | refine Spl.yes (by first | assumption | omega) ?_ | refine Spl.no (by first | assumption | omega) ?_ | refine Wr.i64 (by omega) (by omega) ?_ | refine Still.mk rfl rfl ?_ | refine InB.mk (inB_mk (by omega) (by omega)) ?_ | refine Req.mk (by omega) ?_ | refine Req.mk ⟨by first | omega | (dsimp only; omega), by first | omega | (dsimp only; omega)⟩ ?_ | refine ACall.plain _ _ (hm) (SubL.cons (.eq _) .nil) rfl ?_ | refine ACall.plain _ _ (rcFields_spec _) (SubL.cons (.eq _) .nil) rfl ?_ | refine ACall.fresh _ _ _ _ _ _ _ (vput_spec _ ev.length (by omega)) (SubL.cons (.eq _) .nil) rfl ?_ | refine Spl.mk (fun _ => ?_) (fun _ => ?_) | refine Wr.b64 ?_ | refine Wr.bu64 ?_ | refine Wr.bu32 ?_ | refine Wr.bu8 ?_ | refine Wr.u8 (by omega) (by omega) ?_ | refine Wr.u64 (by omega) (by omega) ?_ | refine Wr.u32 (by omega) (by omega) ?_ | refine Dv.pos (by omega) (by omega) ?_ | refine Rm.pos (by omega) (by omega) ?_ | refine ADraw.quiet follows_ok (by kernel_rfl) rfl ?_ | refine BSpl.decY (by first | assumption | omega) ?_ | refine BSpl.decN (by first | assumption | omega) ?_ | refine BSpl.dec (fun _ => ?_) (fun _ => ?_) | refine BSpl.yes (by assumption) ?_ | refine BSpl.no (by assumption) ?_ | refine BSpl.mk (fun _ => ?_) (fun _ => ?_))
    conv => whnf
    refine ALoop.mk { j : Nat // j ≤ ev.length } (fun j => ⟨[(1, .box 0 0), (8, .own 90), (62, .sl 12 ev.length true (evF ev)), (63, .v (.int .i64 (ev.length : Int))), (64, .v (.int .i64 (j.1 : Int)))],
        [(90, .row 5 1 ([byteOf' kk, byteOf' r] ++ vput ev.length ++ evsB (ev.take j.1)).length true (bytesF ([byteOf' kk, byteOf' r] ++ vput ev.length ++ evsB (ev.take j.1))))], [], 91⟩) (fun j => ev.length - j.1) ⟨0, Nat.zero_le _⟩ _
        (LeR.mk' [(3, 90)] _ _ _ rfl ⟨AEq.refl _, AEq.refl _, AEq.refl _, AEq.refl _, AEq.int rfl, trivial⟩ ⟨⟨_, rfl, OEq.isB (IsB.app (IsB.two (by omega) (by omega) (by omega) (by omega)) (IsB.bytes _) rfl) (by simp <;> omega) (by simp [evsB, hkk])⟩, trivial⟩ rfl) ?_
    rintro ⟨j, hj⟩
    dsimp only
    have h44j := h44 (j : Int).toNat
    have hmj := hmore j
    have hlj := hlen j
    have hsl := sealB_len ([byteOf' kk, byteOf' r] ++ vput ev.length ++ evsB (ev.take j))
    have hvs : (vput (sealB ([byteOf' kk, byteOf' r] ++ vput ev.length ++ evsB (ev.take j))).length).length ≤ 10 := vputF_le 9 _
    repeat' ((conv => whnf); first | refine Spl.yes (by first | assumption | omega) ?_ | refine Spl.no (by first | assumption | omega) ?_ | refine Wr.i64 (by omega) (by omega) ?_ | refine Still.mk rfl rfl ?_ | refine InB.mk (inB_mk (by omega) (by omega)) ?_ | refine Req.mk (by omega) ?_ | refine Req.mk ⟨by first | omega | (dsimp only; omega), by first | omega | (dsimp only; omega)⟩ ?_ | refine ACall.fresh _ _ _ _ _ _ _ (put_yes_spec _ (ev.getD (j : Int).toNat default) (hat _ (by omega))) (SubL.cons (.eq _) .nil) rfl ?_ | refine ACall.fresh _ _ _ _ _ _ _ (seal_spec _ ([byteOf' kk, byteOf' r] ++ vput ev.length ++ evsB (ev.take j)) (IsB.bytes _) rfl (by omega)) (SubL.cons (.eq _) .nil) rfl ?_ | refine ACall.fresh _ _ _ _ _ _ _ (vput_spec _ (sealB ([byteOf' kk, byteOf' r] ++ vput ev.length ++ evsB (ev.take j))).length (by rw [sealB_len]; omega)) (SubL.cons (.eq _) .nil) rfl ?_ | refine Spl.mk (fun _ => ?_) (fun _ => ?_) | refine Wr.b64 ?_ | refine Wr.bu64 ?_ | refine Wr.bu32 ?_ | refine Wr.bu8 ?_ | refine Wr.u8 (by omega) (by omega) ?_ | refine Wr.u64 (by omega) (by omega) ?_ | refine Wr.u32 (by omega) (by omega) ?_ | refine Dv.pos (by omega) (by omega) ?_ | refine Rm.pos (by omega) (by omega) ?_ | refine ADraw.quiet follows_ok (by kernel_rfl) rfl ?_ | refine BSpl.decY (by first | assumption | omega) ?_ | refine BSpl.decN (by first | assumption | omega) ?_ | refine BSpl.dec (fun _ => ?_) (fun _ => ?_) | refine BSpl.yes (by assumption) ?_ | refine BSpl.no (by assumption) ?_ | refine BSpl.mk (fun _ => ?_) (fun _ => ?_))
    · conv => whnf
      refine ⟨⟨j + 1, by omega⟩, _, LeR.mk' [(93, 90)] _ _ _ rfl ⟨AEq.refl _, AEq.refl _, AEq.refl _, AEq.refl _, AEq.int rfl, trivial⟩ ⟨⟨_, rfl, OEq.isB (IsB.app (IsB.bytes _) (IsB.bytes _) rfl) List.length_append.symm ?_⟩, trivial⟩ rfl, by show ev.length - (j + 1) < ev.length - j; omega⟩
      rw [evsB_take (by omega), List.append_assoc]
      rfl
    · conv => whnf
      refine ARet.ownX d rfl rfl ?_ (AEq.refl _)
      refine OEq.isB (IsB.app (IsB.bytes _) (IsB.bytes _) rfl) List.length_append.symm ?_
      rw [List.take_of_length_le (by omega)]
      unfold rcBytes rcBody
      simp [hkk, rcU, rcE, rcC, byteOf, byteOf']

set_option maxHeartbeats 8000000 in
set_option maxRecDepth 100000 in
theorem rcPut_ue (d : Nat) (x : Rc) (h : mayR x = true) (hk : x.k = 4) :
    ASpec Try.prog 23 [x.av] (.tup [.own d, .v (.int .i64 0)]) [(d, .row 5 1 (rcBytes x).length true (bytesF (rcBytes x)))] := by
  have m := mayR_of h
  have hm := rcMay_spec x (by have := m.l; omega)
  rw [h] at hm
  obtain ⟨k, r, u, c, ev⟩ := x
  obtain ⟨mk, mr, mu, ml, mc, mu0, mc0, me0, mev, m1⟩ := m
  dsimp only at mk mr mu ml mc mu0 mc0 me0 mev m1 hk
  have hat : ∀ j, j < ev.length → mayE (ev.getD j default) = 0 := fun j hj => may_at mev hj
  have h44 : ∀ j, j < ev.length → (evBytes (ev.getD j default)).length ≤ 44 := fun j hj => evBytes_len (hat j hj)
  have hlen : ∀ j, (evsB (ev.take j)).length ≤ 44 * j := fun j => Nat.le_trans (evsB_len fun e he => may_mem mev e (List.mem_of_mem_take he)) (Nat.mul_le_mul_left _ (by rw [List.length_take]; omega))
  have hv : (vput ev.length).length ≤ 10 := vputF_le 9 _
  obtain ⟨kk, hkk⟩ : ∃ kk, kk = k := ⟨_, rfl⟩
  obtain ⟨un, rfl, hun⟩ := okN_of mu
  have hvu : (vput un).length ≤ 10 := vputF_le 9 _
  have hmore : ∀ j, ([byteOf' kk, byteOf' r] ++ vput un ++ vput ev.length ++ evsB (ev.take j)).length = 2 + (vput un).length + (vput ev.length).length + (evsB (ev.take j)).length := fun j => by simp; omega
  subst hk
  all_goals
    dsimp only [Rc.av, Rc.cs] at hm ⊢
    refine aspec_of lay_ok 18958650292743101019519 Try.func23 rfl rfl rfl ?_
    repeat' ((conv => whnf); first | refine Spl.yes (by first | assumption | omega) ?_ | refine Spl.no (by first | assumption | omega) ?_ | refine Wr.i64 (by omega) (by omega) ?_ | refine Still.mk rfl rfl ?_ | refine InB.mk (inB_mk (by omega) (by omega)) ?_ | refine Req.mk (by omega) ?_ | refine Req.mk ⟨by first | omega | (dsimp only; omega), by first | omega | (dsimp only; omega)⟩ ?_ | refine ACall.plain _ _ (hm) (SubL.cons (.eq _) .nil) rfl ?_ | refine ACall.plain _ _ (rcFields_spec _) (SubL.cons (.eq _) .nil) rfl ?_ | refine ACall.fresh _ _ _ _ _ _ _ (vput_spec _ un (by omega)) (SubL.cons (.eq _) .nil) rfl ?_ | refine ACall.fresh _ _ _ _ _ _ _ (vput_spec _ ev.length (by omega)) (SubL.cons (.eq _) .nil) rfl ?_ | refine Spl.mk (fun _ => ?_) (fun _ => ?_) | refine Wr.b64 ?_ | refine Wr.bu64 ?_ | refine Wr.bu32 ?_ | refine Wr.bu8 ?_ | refine Wr.u8 (by omega) (by omega) ?_ | refine Wr.u64 (by omega) (by omega) ?_ | refine Wr.u32 (by omega) (by omega) ?_ | refine Dv.pos (by omega) (by omega) ?_ | refine Rm.pos (by omega) (by omega) ?_ | refine ADraw.quiet follows_ok (by kernel_rfl) rfl ?_ | refine BSpl.decY (by first | assumption | omega) ?_ | refine BSpl.decN (by first | assumption | omega) ?_ | refine BSpl.dec (fun _ => ?_) (fun _ => ?_) | refine BSpl.yes (by assumption) ?_ | refine BSpl.no (by assumption) ?_ | refine BSpl.mk (fun _ => ?_) (fun _ => ?_))
    conv => whnf
    refine ALoop.mk { j : Nat // j ≤ ev.length } (fun j => ⟨[(1, .box 0 0), (8, .own 90), (62, .sl 12 ev.length true (evF ev)), (63, .v (.int .i64 (ev.length : Int))), (64, .v (.int .i64 (j.1 : Int)))],
        [(90, .row 5 1 ([byteOf' kk, byteOf' r] ++ vput un ++ vput ev.length ++ evsB (ev.take j.1)).length true (bytesF ([byteOf' kk, byteOf' r] ++ vput un ++ vput ev.length ++ evsB (ev.take j.1))))], [], 91⟩) (fun j => ev.length - j.1) ⟨0, Nat.zero_le _⟩ _
        (LeR.mk' [(5, 90)] _ _ _ rfl ⟨AEq.refl _, AEq.refl _, AEq.refl _, AEq.refl _, AEq.int rfl, trivial⟩ ⟨⟨_, rfl, OEq.isB (IsB.app (IsB.app (IsB.two (by omega) (by omega) (by omega) (by omega)) (IsB.bytes _) rfl) (IsB.bytes _) (by simp <;> omega)) (by simp <;> omega) (by simp [evsB, hkk])⟩, trivial⟩ rfl) ?_
    rintro ⟨j, hj⟩
    dsimp only
    have h44j := h44 (j : Int).toNat
    have hmj := hmore j
    have hlj := hlen j
    have hsl := sealB_len ([byteOf' kk, byteOf' r] ++ vput un ++ vput ev.length ++ evsB (ev.take j))
    have hvs : (vput (sealB ([byteOf' kk, byteOf' r] ++ vput un ++ vput ev.length ++ evsB (ev.take j))).length).length ≤ 10 := vputF_le 9 _
    repeat' ((conv => whnf); first | refine Spl.yes (by first | assumption | omega) ?_ | refine Spl.no (by first | assumption | omega) ?_ | refine Wr.i64 (by omega) (by omega) ?_ | refine Still.mk rfl rfl ?_ | refine InB.mk (inB_mk (by omega) (by omega)) ?_ | refine Req.mk (by omega) ?_ | refine Req.mk ⟨by first | omega | (dsimp only; omega), by first | omega | (dsimp only; omega)⟩ ?_ | refine ACall.fresh _ _ _ _ _ _ _ (put_yes_spec _ (ev.getD (j : Int).toNat default) (hat _ (by omega))) (SubL.cons (.eq _) .nil) rfl ?_ | refine ACall.fresh _ _ _ _ _ _ _ (seal_spec _ ([byteOf' kk, byteOf' r] ++ vput un ++ vput ev.length ++ evsB (ev.take j)) (IsB.bytes _) rfl (by omega)) (SubL.cons (.eq _) .nil) rfl ?_ | refine ACall.fresh _ _ _ _ _ _ _ (vput_spec _ (sealB ([byteOf' kk, byteOf' r] ++ vput un ++ vput ev.length ++ evsB (ev.take j))).length (by rw [sealB_len]; omega)) (SubL.cons (.eq _) .nil) rfl ?_ | refine Spl.mk (fun _ => ?_) (fun _ => ?_) | refine Wr.b64 ?_ | refine Wr.bu64 ?_ | refine Wr.bu32 ?_ | refine Wr.bu8 ?_ | refine Wr.u8 (by omega) (by omega) ?_ | refine Wr.u64 (by omega) (by omega) ?_ | refine Wr.u32 (by omega) (by omega) ?_ | refine Dv.pos (by omega) (by omega) ?_ | refine Rm.pos (by omega) (by omega) ?_ | refine ADraw.quiet follows_ok (by kernel_rfl) rfl ?_ | refine BSpl.decY (by first | assumption | omega) ?_ | refine BSpl.decN (by first | assumption | omega) ?_ | refine BSpl.dec (fun _ => ?_) (fun _ => ?_) | refine BSpl.yes (by assumption) ?_ | refine BSpl.no (by assumption) ?_ | refine BSpl.mk (fun _ => ?_) (fun _ => ?_))
    · conv => whnf
      refine ⟨⟨j + 1, by omega⟩, _, LeR.mk' [(93, 90)] _ _ _ rfl ⟨AEq.refl _, AEq.refl _, AEq.refl _, AEq.refl _, AEq.int rfl, trivial⟩ ⟨⟨_, rfl, OEq.isB (IsB.app (IsB.bytes _) (IsB.bytes _) rfl) List.length_append.symm ?_⟩, trivial⟩ rfl, by show ev.length - (j + 1) < ev.length - j; omega⟩
      rw [evsB_take (by omega), List.append_assoc]
      rfl
    · conv => whnf
      refine ARet.ownX d rfl rfl ?_ (AEq.refl _)
      refine OEq.isB (IsB.app (IsB.bytes _) (IsB.bytes _) rfl) List.length_append.symm ?_
      rw [List.take_of_length_le (by omega)]
      unfold rcBytes rcBody
      simp [hkk, rcU, rcE, rcC, byteOf, byteOf', vputI]

set_option maxHeartbeats 8000000 in
set_option maxRecDepth 100000 in
theorem rcPut_u (d : Nat) (x : Rc) (h : mayR x = true) (hk : x.k = 3) :
    ASpec Try.prog 23 [x.av] (.tup [.own d, .v (.int .i64 0)]) [(d, .row 5 1 (rcBytes x).length true (bytesF (rcBytes x)))] := by
  have m := mayR_of h
  have hm := rcMay_spec x (by have := m.l; omega)
  rw [h] at hm
  obtain ⟨k, r, u, c, ev⟩ := x
  obtain ⟨mk, mr, mu, ml, mc, mu0, mc0, me0, mev, m1⟩ := m
  dsimp only at mk mr mu ml mc mu0 mc0 me0 mev m1 hk
  obtain ⟨kk, hkk⟩ : ∃ kk, kk = k := ⟨_, rfl⟩
  obtain ⟨un, rfl, hun⟩ := okN_of mu
  have hvu : (vput un).length ≤ 10 := vputF_le 9 _
  have hmore : ([byteOf' kk, byteOf' r] ++ vput un).length = 2 + (vput un).length := by simp; omega
  have hsl := sealB_len ([byteOf' kk, byteOf' r] ++ vput un)
  have hvs : (vput (sealB ([byteOf' kk, byteOf' r] ++ vput un)).length).length ≤ 10 := vputF_le 9 _
  subst hk
  dsimp only [Rc.av, Rc.cs] at hm ⊢
  refine aspec_of lay_ok 18958650292743101019519 Try.func23 rfl rfl rfl ?_
  repeat' ((conv => whnf); first | refine Spl.yes (by first | assumption | omega) ?_ | refine Spl.no (by first | assumption | omega) ?_ | refine Wr.i64 (by omega) (by omega) ?_ | refine Still.mk rfl rfl ?_ | refine InB.mk (inB_mk (by omega) (by omega)) ?_ | refine Req.mk (by omega) ?_ | refine Req.mk ⟨by first | omega | (dsimp only; omega), by first | omega | (dsimp only; omega)⟩ ?_ | refine ACall.plain _ _ (hm) (SubL.cons (.eq _) .nil) rfl ?_ | refine ACall.plain _ _ (rcFields_spec _) (SubL.cons (.eq _) .nil) rfl ?_ | refine ACall.fresh _ _ _ _ _ _ _ (vput_spec _ un (by omega)) (SubL.cons (.eq _) .nil) rfl ?_ | refine ACall.fresh _ _ _ _ _ _ _ (seal_spec _ ([byteOf' kk, byteOf' r] ++ vput un) (hkk ▸ IsB.app (IsB.two (by omega) (by omega) (by omega) (by omega)) (IsB.bytes _) rfl) (by simp <;> omega) (by omega)) (SubL.cons (.eq _) .nil) rfl ?_ | refine ACall.fresh _ _ _ _ _ _ _ (vput_spec _ (sealB ([byteOf' kk, byteOf' r] ++ vput un)).length (by rw [sealB_len]; omega)) (SubL.cons (.eq _) .nil) rfl ?_ | refine Spl.mk (fun _ => ?_) (fun _ => ?_) | refine Wr.b64 ?_ | refine Wr.bu64 ?_ | refine Wr.bu32 ?_ | refine Wr.bu8 ?_ | refine Wr.u8 (by omega) (by omega) ?_ | refine Wr.u64 (by omega) (by omega) ?_ | refine Wr.u32 (by omega) (by omega) ?_ | refine Dv.pos (by omega) (by omega) ?_ | refine Rm.pos (by omega) (by omega) ?_ | refine ADraw.quiet follows_ok (by kernel_rfl) rfl ?_ | refine BSpl.decY (by first | assumption | omega) ?_ | refine BSpl.decN (by first | assumption | omega) ?_ | refine BSpl.dec (fun _ => ?_) (fun _ => ?_) | refine BSpl.yes (by assumption) ?_ | refine BSpl.no (by assumption) ?_ | refine BSpl.mk (fun _ => ?_) (fun _ => ?_))
  conv => whnf
  refine ARet.ownX d rfl rfl ?_ (AEq.refl _)
  refine OEq.isB (IsB.app (IsB.bytes _) (IsB.bytes _) rfl) List.length_append.symm ?_
  unfold rcBytes rcBody
  simp [hkk, rcU, rcE, rcC, byteOf, byteOf', vputI]

set_option maxHeartbeats 8000000 in
set_option maxRecDepth 100000 in
theorem rcPut_c (d : Nat) (x : Rc) (h : mayR x = true) (hk : x.k = 6) :
    ASpec Try.prog 23 [x.av] (.tup [.own d, .v (.int .i64 0)]) [(d, .row 5 1 (rcBytes x).length true (bytesF (rcBytes x)))] := by
  have m := mayR_of h
  have hm := rcMay_spec x (by have := m.l; omega)
  rw [h] at hm
  obtain ⟨k, r, u, ⟨c0, c1, c2, c3, c4⟩, ev⟩ := x
  obtain ⟨mk, mr, mu, ml, ⟨m0, m1, m2, m3, m4⟩, mu0, mc0, me0, mev, mone⟩ := m
  dsimp only at mk mr mu ml m0 m1 m2 m3 m4 mu0 mc0 me0 mev mone hk
  obtain ⟨kk, hkk⟩ : ∃ kk, kk = k := ⟨_, rfl⟩
  obtain ⟨c0, rfl, hc0⟩ := okN_of m0
  obtain ⟨c1, rfl, hc1⟩ := okN_of m1
  obtain ⟨c2, rfl, hc2⟩ := okN_of m2
  obtain ⟨c3, rfl, hc3⟩ := okN_of m3
  obtain ⟨c4, rfl, hc4⟩ := okN_of m4
  have q0 : (vput c0).length ≤ 10 := vputF_le 9 _
  have q1 : (vput c1).length ≤ 10 := vputF_le 9 _
  have q2 : (vput c2).length ≤ 10 := vputF_le 9 _
  have q3 : (vput c3).length ≤ 10 := vputF_le 9 _
  have q4 : (vput c4).length ≤ 10 := vputF_le 9 _
  have hmore : ([byteOf' kk, byteOf' r] ++ vput c0 ++ vput c1 ++ vput c2 ++ vput c3 ++ vput c4).length = 2 + (vput c0).length + (vput c1).length + (vput c2).length + (vput c3).length + (vput c4).length := by simp; omega
  have hsl := sealB_len ([byteOf' kk, byteOf' r] ++ vput c0 ++ vput c1 ++ vput c2 ++ vput c3 ++ vput c4)
  have hvs : (vput (sealB ([byteOf' kk, byteOf' r] ++ vput c0 ++ vput c1 ++ vput c2 ++ vput c3 ++ vput c4)).length).length ≤ 10 := vputF_le 9 _
  subst hk
  dsimp only [Rc.av, Rc.cs] at hm ⊢
  refine aspec_of lay_ok 18958650292743101019519 Try.func23 rfl rfl rfl ?_
  repeat' ((conv => whnf); first | refine Spl.yes (by first | assumption | omega) ?_ | refine Spl.no (by first | assumption | omega) ?_ | refine Wr.i64 (by omega) (by omega) ?_ | refine Still.mk rfl rfl ?_ | refine InB.mk (inB_mk (by omega) (by omega)) ?_ | refine Req.mk (by omega) ?_ | refine Req.mk ⟨by first | omega | (dsimp only; omega), by first | omega | (dsimp only; omega)⟩ ?_ | refine ACall.plain _ _ (hm) (SubL.cons (.eq _) .nil) rfl ?_ | refine ACall.plain _ _ (rcFields_spec _) (SubL.cons (.eq _) .nil) rfl ?_ | refine ACall.fresh _ _ _ _ _ _ _ (vput_spec _ c0 (by omega)) (SubL.cons (.eq _) .nil) rfl ?_ | refine ACall.fresh _ _ _ _ _ _ _ (vput_spec _ c1 (by omega)) (SubL.cons (.eq _) .nil) rfl ?_ | refine ACall.fresh _ _ _ _ _ _ _ (vput_spec _ c2 (by omega)) (SubL.cons (.eq _) .nil) rfl ?_ | refine ACall.fresh _ _ _ _ _ _ _ (vput_spec _ c3 (by omega)) (SubL.cons (.eq _) .nil) rfl ?_ | refine ACall.fresh _ _ _ _ _ _ _ (vput_spec _ c4 (by omega)) (SubL.cons (.eq _) .nil) rfl ?_ | refine ACall.fresh _ _ _ _ _ _ _ (seal_spec _ ([byteOf' kk, byteOf' r] ++ vput c0 ++ vput c1 ++ vput c2 ++ vput c3 ++ vput c4) (hkk ▸ IsB.app (IsB.app (IsB.app (IsB.app (IsB.app (IsB.two (by omega) (by omega) (by omega) (by omega)) (IsB.bytes _) rfl) (IsB.bytes _) (by simp <;> omega)) (IsB.bytes _) (by simp <;> omega)) (IsB.bytes _) (by simp <;> omega)) (IsB.bytes _) (by simp <;> omega)) (by simp <;> omega) (by omega)) (SubL.cons (.eq _) .nil) rfl ?_ | refine ACall.fresh _ _ _ _ _ _ _ (vput_spec _ (sealB ([byteOf' kk, byteOf' r] ++ vput c0 ++ vput c1 ++ vput c2 ++ vput c3 ++ vput c4)).length (by rw [sealB_len]; omega)) (SubL.cons (.eq _) .nil) rfl ?_ | refine ALoop.unr 44 6 rfl ?_ | refine Spl.mk (fun _ => ?_) (fun _ => ?_) | refine Wr.b64 ?_ | refine Wr.bu64 ?_ | refine Wr.bu32 ?_ | refine Wr.bu8 ?_ | refine Wr.u8 (by omega) (by omega) ?_ | refine Wr.u64 (by omega) (by omega) ?_ | refine Wr.u32 (by omega) (by omega) ?_ | refine Dv.pos (by omega) (by omega) ?_ | refine Rm.pos (by omega) (by omega) ?_ | refine ADraw.quiet follows_ok (by kernel_rfl) rfl ?_ | refine BSpl.decY (by first | assumption | omega) ?_ | refine BSpl.decN (by first | assumption | omega) ?_ | refine BSpl.dec (fun _ => ?_) (fun _ => ?_) | refine BSpl.yes (by assumption) ?_ | refine BSpl.no (by assumption) ?_ | refine BSpl.mk (fun _ => ?_) (fun _ => ?_))
  conv => whnf
  refine ARet.ownX d rfl rfl ?_ (AEq.refl _)
  refine OEq.isB (IsB.app (IsB.bytes _) (IsB.bytes _) rfl) List.length_append.symm ?_
  unfold rcBytes rcBody
  simp [hkk, rcU, rcE, rcC, byteOf, byteOf', vputI, clkB]

theorem rcPut_yes (d : Nat) (x : Rc) (h : mayR x = true) :
    ASpec Try.prog 23 [x.av] (.tup [.own d, .v (.int .i64 0)]) [(d, .row 5 1 (rcBytes x).length true (bytesF (rcBytes x)))] := by
  have m := (mayR_of h).k
  rcases (show x.k = 1 ∨ x.k = 2 ∨ x.k = 3 ∨ x.k = 4 ∨ x.k = 5 ∨ x.k = 6 by omega) with hk | hk | hk | hk | hk | hk
  · exact rcPut_e d x h (.inl hk)
  · exact rcPut_e d x h (.inr (.inl hk))
  · exact rcPut_u d x h hk
  · exact rcPut_ue d x h hk
  · exact rcPut_e d x h (.inr (.inr hk))
  · exact rcPut_c d x h hk
end Go.Proofs.Ytbmojelnkldecaa
