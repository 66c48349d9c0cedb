/-
  The bytes of a frame that may be.
-/
import Derived.Test.YtbmojelnkldecaaFrm
namespace Go.Proofs.Ytbmojelnkldecaa
open Go.RowKit

def frBody (x : Rc) : List UInt8 :=
  [byteOf x.k, byteOf x.r] ++ (if shE x.k then UInt8.ofNat x.ev.length :: evsB x.ev else []) ++ (if shU x.k then vputI x.u else []) ++ (if shC x.k then clkB x.c else [])
def frBytes (x : Rc) : List UInt8 := sealB (vput (frBody x).length ++ frBody x)

/-- What a frame that may be is like. -/
structure MayF (x : Rc) : Prop where
  k : 1 ≤ x.k ∧ x.k ≤ 5
  r : 0 ≤ x.r ∧ x.r < 5
  u : okN x.u = true
  u0 : shU x.k = true ∨ x.u = 0
  c0 : shC x.k = true ∨ x.c = clk0
  e0 : shE x.k = true ∨ x.ev.length = 0
  c : okN x.c.c0 = true ∧ okN x.c.c1 = true ∧ okN x.c.c2 = true ∧ okN x.c.c3 = true ∧ okN x.c.c4 = true
  l : x.ev.length ≤ 20
  one : x.k ≠ 1 ∨ x.ev.length ≠ 0
  ev : x.ev.all (evOk x.k x.r) = true
theorem mayF_of {x : Rc} (h : mayF x = true) : MayF x := by
  simp only [mayF, Bool.and_eq_true, Bool.or_eq_true, decide_eq_true_eq, clkZ_iff, okC, shK] at h
  obtain ⟨⟨⟨⟨⟨⟨⟨⟨⟨⟨h1, h2⟩, h3⟩, h4⟩, h5⟩, h6⟩, h7⟩, ⟨⟨⟨h8, h9⟩, h10⟩, h11⟩, h12⟩, h13⟩, h14⟩, h15⟩ := h
  exact ⟨h1, ⟨h2, h3⟩, h4, h5, h6, h7, ⟨h8, h9, h10, h11, h12⟩, h13, h14, h15⟩
theorem evOk_may {k r : Int} {l : List Ev} (h : l.all (evOk k r) = true) : l.all (fun e => decide (mayE e = 0)) = true := by
  rw [List.all_eq_true] at h ⊢
  intro e he
  have := h e he
  simp only [evOk, Bool.and_eq_true] at this
  exact this.1

theorem frPut_no (x : Rc) (hl : x.ev.length ≤ 140737488355328) (h : mayF x = false) : ASpec Try.prog 25 [x.av] (.tup [.v (.slice none 0 0), .v (.int .i64 1)]) [] := by
  have hm := frMay_spec x hl
  rw [h] at hm
  refine aspec_of lay_ok 1070057531510454523743 Try.func25 rfl rfl rfl ?_
  repeat' ((conv => whnf); first | refine Spl.yes (by first | assumption | omega) ?_ | refine Spl.no (by first | assumption | omega) ?_ | refine Wr.i64 (by omega) (by omega) ?_ | refine Still.mk rfl rfl ?_ | refine InB.mk (inB_mk (by omega) (by omega)) ?_ | refine Req.mk (by omega) ?_ | refine Req.mk ⟨by first | omega | (dsimp only; omega), by first | omega | (dsimp only; omega)⟩ ?_ | refine ACall.plain _ _ (hm) (SubL.cons (.eq _) .nil) rfl ?_ | refine ARet.hdI ?_ | refine Spl.mk (fun _ => ?_) (fun _ => ?_) | refine Wr.b64 ?_ | refine Wr.bu64 ?_ | refine Wr.bu32 ?_ | refine Wr.bu8 ?_ | refine Wr.u8 (by omega) (by omega) ?_ | refine Wr.u64 (by omega) (by omega) ?_ | refine Wr.u32 (by omega) (by omega) ?_ | refine Dv.pos (by omega) (by omega) ?_ | refine Rm.pos (by omega) (by omega) ?_ | refine ADraw.quiet follows_ok (by kernel_rfl) rfl ?_ | refine BSpl.decY (by first | assumption | omega) ?_ | refine BSpl.decN (by first | assumption | omega) ?_ | refine BSpl.dec (fun _ => ?_) (fun _ => ?_) | refine BSpl.yes (by assumption) ?_ | refine BSpl.no (by assumption) ?_ | refine BSpl.mk (fun _ => ?_) (fun _ => ?_))
  conv => whnf
  exact AEqI.mk (AEq.refl _)

set_option maxHeartbeats 8000000 in
set_option maxRecDepth 100000 in
theorem frPut_e (d : Nat) (x : Rc) (h : mayF x = true) (hk : x.k = 1 ∨ x.k = 4) :
    ASpec Try.prog 25 [x.av] (.tup [.own d, .v (.int .i64 0)]) [(d, .row 5 1 (frBytes x).length true (bytesF (frBytes x)))] := by
  have m := mayF_of h
  have hm := frMay_spec x (by have := m.l; omega)
  rw [h] at hm
  obtain ⟨k, r, u, c, ev⟩ := x
  obtain ⟨mk, mr, mu, mu0, mc0, me0, mc, ml, m1, mev0⟩ := m
  dsimp only at mk mr mu ml mc mu0 mc0 me0 mev0 m1 hk
  have mev := evOk_may mev0
  have hat : ∀ j, j < ev.length → mayE (ev.getD j default) = 0 := fun j hj => may_at mev hj
  have h44 : ∀ j, j < ev.length → (evBytes (ev.getD j default)).length ≤ 44 := fun j hj => evBytes_len (hat j hj)
  have hlen : ∀ j, (evsB (ev.take j)).length ≤ 44 * j := fun j => Nat.le_trans (evsB_len fun e he => may_mem mev e (List.mem_of_mem_take he)) (Nat.mul_le_mul_left _ (by rw [List.length_take]; omega))
  obtain ⟨kk, hkk⟩ : ∃ kk, kk = k := ⟨_, rfl⟩
  have hmore : ∀ j, (([byteOf' kk, byteOf' r] ++ [byteOf' (ev.length : Int)]) ++ evsB (ev.take j)).length = 3 + (evsB (ev.take j)).length := fun j => by simp; omega
  rcases hk with rfl | rfl
  all_goals
    dsimp only [Rc.av, Rc.cs] at hm ⊢
    refine aspec_of lay_ok 1070057531510454523743 Try.func25 rfl rfl rfl ?_
    repeat' ((conv => whnf); first | refine Spl.yes (by first | assumption | omega) ?_ | refine Spl.no (by first | assumption | omega) ?_ | refine Wr.i64 (by omega) (by omega) ?_ | refine Still.mk rfl rfl ?_ | refine InB.mk (inB_mk (by omega) (by omega)) ?_ | refine Req.mk (by omega) ?_ | refine Req.mk ⟨by first | omega | (dsimp only; omega), by first | omega | (dsimp only; omega)⟩ ?_ | refine ACall.plain _ _ (hm) (SubL.cons (.eq _) .nil) rfl ?_ | refine ACall.plain _ _ (shape_spec _) (SubL.cons (.eq _) .nil) rfl ?_ | refine Spl.mk (fun _ => ?_) (fun _ => ?_) | refine Wr.b64 ?_ | refine Wr.bu64 ?_ | refine Wr.bu32 ?_ | refine Wr.bu8 ?_ | refine Wr.u8 (by omega) (by omega) ?_ | refine Wr.u64 (by omega) (by omega) ?_ | refine Wr.u32 (by omega) (by omega) ?_ | refine Dv.pos (by omega) (by omega) ?_ | refine Rm.pos (by omega) (by omega) ?_ | refine ADraw.quiet follows_ok (by kernel_rfl) rfl ?_ | refine BSpl.decY (by first | assumption | omega) ?_ | refine BSpl.decN (by first | assumption | omega) ?_ | refine BSpl.dec (fun _ => ?_) (fun _ => ?_) | refine BSpl.yes (by assumption) ?_ | refine BSpl.no (by assumption) ?_ | refine BSpl.mk (fun _ => ?_) (fun _ => ?_))
    conv => whnf
    refine ALoop.mk { j : Nat // j ≤ ev.length } (fun j => ⟨[(1, .box 0 0), (4, .box 1 0), (6, .own 90), (39, .sl 12 ev.length true (evF ev)), (40, .v (.int .i64 (ev.length : Int))), (41, .v (.int .i64 (j.1 : Int)))],
        [(1, .box 88 [.v (.bool true), .v (.bool false), .v (.bool false)]), (90, .row 5 1 (([byteOf' kk, byteOf' r] ++ [byteOf' (ev.length : Int)]) ++ evsB (ev.take j.1)).length true (bytesF (([byteOf' kk, byteOf' r] ++ [byteOf' (ev.length : Int)]) ++ evsB (ev.take j.1))))], [], 91⟩) (fun j => ev.length - j.1) ⟨0, Nat.zero_le _⟩ _
        (LeR.mk' [(4, 90)] _ _ _ rfl ⟨AEq.refl _, AEq.refl _, AEq.refl _, AEq.refl _, AEq.refl _, AEq.int rfl, trivial⟩ ⟨⟨_, rfl, OEq.refl _⟩, ⟨_, rfl, OEq.isB (IsB.app (IsB.two (by omega) (by omega) (by omega) (by omega)) (IsB.one (by omega) (by omega)) rfl) (by simp <;> omega) (by simp [evsB, hkk])⟩, trivial⟩ rfl) ?_
    rintro ⟨j, hj⟩
    dsimp only
    have h44j := h44 (j : Int).toNat
    have hmj := hmore j
    have hlj := hlen j
    have hsl := sealB_len (vput (([byteOf' kk, byteOf' r] ++ [byteOf' (ev.length : Int)]) ++ evsB (ev.take j)).length ++ (([byteOf' kk, byteOf' r] ++ [byteOf' (ev.length : Int)]) ++ evsB (ev.take j)))
    have hvs : (vput (([byteOf' kk, byteOf' r] ++ [byteOf' (ev.length : Int)]) ++ evsB (ev.take j)).length).length ≤ 10 := vputF_le 9 _
    repeat' ((conv => whnf); first | refine Spl.yes (by first | assumption | omega) ?_ | refine Spl.no (by first | assumption | omega) ?_ | refine Wr.i64 (by omega) (by omega) ?_ | refine Still.mk rfl rfl ?_ | refine InB.mk (inB_mk (by omega) (by omega)) ?_ | refine Req.mk (by omega) ?_ | refine Req.mk ⟨by first | omega | (dsimp only; omega), by first | omega | (dsimp only; omega)⟩ ?_ | refine ACall.fresh _ _ _ _ _ _ _ (put_yes_spec _ (ev.getD (j : Int).toNat default) (hat _ (by omega))) (SubL.cons (.eq _) .nil) rfl ?_ | refine ACall.fresh _ _ _ _ _ _ _ (vput_spec _ (([byteOf' kk, byteOf' r] ++ [byteOf' (ev.length : Int)]) ++ evsB (ev.take j)).length (by omega)) (SubL.cons (.eq _) .nil) rfl ?_ | refine ACall.fresh _ _ _ _ _ _ _ (seal_spec _ (vput (([byteOf' kk, byteOf' r] ++ [byteOf' (ev.length : Int)]) ++ evsB (ev.take j)).length ++ (([byteOf' kk, byteOf' r] ++ [byteOf' (ev.length : Int)]) ++ evsB (ev.take j))) (IsB.app (IsB.bytes _) (IsB.bytes _) rfl) List.length_append.symm (by rw [List.length_append]; omega)) (SubL.cons (.eq _) .nil) rfl ?_ | refine Spl.mk (fun _ => ?_) (fun _ => ?_) | refine Wr.b64 ?_ | refine Wr.bu64 ?_ | refine Wr.bu32 ?_ | refine Wr.bu8 ?_ | refine Wr.u8 (by omega) (by omega) ?_ | refine Wr.u64 (by omega) (by omega) ?_ | refine Wr.u32 (by omega) (by omega) ?_ | refine Dv.pos (by omega) (by omega) ?_ | refine Rm.pos (by omega) (by omega) ?_ | refine ADraw.quiet follows_ok (by kernel_rfl) rfl ?_ | refine BSpl.decY (by first | assumption | omega) ?_ | refine BSpl.decN (by first | assumption | omega) ?_ | refine BSpl.dec (fun _ => ?_) (fun _ => ?_) | refine BSpl.yes (by assumption) ?_ | refine BSpl.no (by assumption) ?_ | refine BSpl.mk (fun _ => ?_) (fun _ => ?_))
    · conv => whnf
      refine ⟨⟨j + 1, by omega⟩, _, LeR.mk' [(93, 90)] _ _ _ rfl ⟨AEq.refl _, AEq.refl _, AEq.refl _, AEq.refl _, AEq.refl _, AEq.int rfl, trivial⟩ ⟨⟨_, rfl, OEq.refl _⟩, ⟨_, rfl, OEq.isB (IsB.app (IsB.bytes _) (IsB.bytes _) rfl) List.length_append.symm ?_⟩, trivial⟩ rfl, by show ev.length - (j + 1) < ev.length - j; omega⟩
      rw [evsB_take (by omega), List.append_assoc]
      rfl
    · conv => whnf
      refine ARet.ownX d rfl rfl ?_ (AEq.refl _)
      refine OEq.isB (IsB.bytes _) rfl ?_
      rw [List.take_of_length_le (by omega)]
      unfold frBytes frBody
      simp [hkk, shE, shU, shC, byteOf, byteOf']

set_option maxHeartbeats 8000000 in
set_option maxRecDepth 100000 in
theorem frPut_u (d : Nat) (x : Rc) (h : mayF x = true) (hk : x.k = 2) :
    ASpec Try.prog 25 [x.av] (.tup [.own d, .v (.int .i64 0)]) [(d, .row 5 1 (frBytes x).length true (bytesF (frBytes x)))] := by
  have m := mayF_of h
  have hm := frMay_spec x (by have := m.l; omega)
  rw [h] at hm
  obtain ⟨k, r, u, c, ev⟩ := x
  obtain ⟨mk, mr, mu, mu0, mc0, me0, mc, ml, m1, mev0⟩ := m
  dsimp only at mk mr mu ml mc mu0 mc0 me0 mev0 m1 hk
  obtain ⟨kk, hkk⟩ : ∃ kk, kk = k := ⟨_, rfl⟩
  obtain ⟨un, rfl, hun⟩ := okN_of mu
  have hvu : (vput un).length ≤ 10 := vputF_le 9 _
  have hmore : ([byteOf' kk, byteOf' r] ++ vput un).length = 2 + (vput un).length := by simp; omega
  have hsl := sealB_len (vput (2 + (vput un).length) ++ ([byteOf' kk, byteOf' r] ++ vput un))
  have hvs : (vput (2 + (vput un).length)).length ≤ 10 := vputF_le 9 _
  subst hk
  have hP : IsB (appF 2 (chunk 1 [.v (.int .u8 2), .v (.int .u8 r)]) (bytesF (vput un))) ([byteOf' kk, byteOf' r] ++ vput un) := hkk ▸ IsB.app (IsB.two (by omega) (by omega) (by omega) (by omega)) (IsB.bytes _) rfl
  have hn : 2 + (vput un).length = ([byteOf' kk, byteOf' r] ++ vput un).length := by omega
  dsimp only [Rc.av, Rc.cs] at hm ⊢
  refine aspec_of lay_ok 1070057531510454523743 Try.func25 rfl rfl rfl ?_
  repeat' ((conv => whnf); first | refine Spl.yes (by first | assumption | omega) ?_ | refine Spl.no (by first | assumption | omega) ?_ | refine Wr.i64 (by omega) (by omega) ?_ | refine Still.mk rfl rfl ?_ | refine InB.mk (inB_mk (by omega) (by omega)) ?_ | refine Req.mk (by omega) ?_ | refine Req.mk ⟨by first | omega | (dsimp only; omega), by first | omega | (dsimp only; omega)⟩ ?_ | refine ACall.plain _ _ (hm) (SubL.cons (.eq _) .nil) rfl ?_ | refine ACall.plain _ _ (shape_spec _) (SubL.cons (.eq _) .nil) rfl ?_ | refine ACall.fresh _ _ _ _ _ _ _ (vput_spec _ un (by omega)) (SubL.cons (.eq _) .nil) rfl ?_ | refine ACall.fresh _ _ _ _ _ _ _ (vput_spec _ (2 + (vput un).length) (by omega)) (SubL.cons (.eq _) .nil) rfl ?_ | refine ACall.fresh _ _ _ _ _ _ _ (seal_spec _ (vput (2 + (vput un).length) ++ ([byteOf' kk, byteOf' r] ++ vput un)) (IsB.app (IsB.bytes _) hP rfl) (by rw [List.length_append, ← hn]) (by rw [List.length_append, ← hn]; omega)) (SubL.cons (.eq _) .nil) rfl ?_ | refine Spl.mk (fun _ => ?_) (fun _ => ?_) | refine Wr.b64 ?_ | refine Wr.bu64 ?_ | refine Wr.bu32 ?_ | refine Wr.bu8 ?_ | refine Wr.u8 (by omega) (by omega) ?_ | refine Wr.u64 (by omega) (by omega) ?_ | refine Wr.u32 (by omega) (by omega) ?_ | refine Dv.pos (by omega) (by omega) ?_ | refine Rm.pos (by omega) (by omega) ?_ | refine ADraw.quiet follows_ok (by kernel_rfl) rfl ?_ | refine BSpl.decY (by first | assumption | omega) ?_ | refine BSpl.decN (by first | assumption | omega) ?_ | refine BSpl.dec (fun _ => ?_) (fun _ => ?_) | refine BSpl.yes (by assumption) ?_ | refine BSpl.no (by assumption) ?_ | refine BSpl.mk (fun _ => ?_) (fun _ => ?_))
  conv => whnf
  refine ARet.ownX d rfl rfl ?_ (AEq.refl _)
  refine OEq.isB (IsB.bytes _) rfl ?_
  rw [hn]
  unfold frBytes frBody
  simp [hkk, shE, shU, shC, byteOf, byteOf', vputI]

set_option maxHeartbeats 8000000 in
set_option maxRecDepth 100000 in
theorem frPut_c (d : Nat) (x : Rc) (h : mayF x = true) (hk : x.k = 3 ∨ x.k = 5) :
    ASpec Try.prog 25 [x.av] (.tup [.own d, .v (.int .i64 0)]) [(d, .row 5 1 (frBytes x).length true (bytesF (frBytes x)))] := by
  have m := mayF_of h
  have hm := frMay_spec x (by have := m.l; omega)
  rw [h] at hm
  obtain ⟨k, r, u, ⟨c0, c1, c2, c3, c4⟩, ev⟩ := x
  obtain ⟨mk, mr, mu, mu0, mc0, me0, ⟨m0, m1, m2, m3, m4⟩, ml, mone, mev0⟩ := m
  dsimp only at mk mr mu ml m0 m1 m2 m3 m4 mu0 mc0 me0 mev0 mone hk
  obtain ⟨kk, hkk⟩ : ∃ kk, kk = k := ⟨_, rfl⟩
  obtain ⟨c0, rfl, hc0⟩ := okN_of m0
  obtain ⟨c1, rfl, hc1⟩ := okN_of m1
  obtain ⟨c2, rfl, hc2⟩ := okN_of m2
  obtain ⟨c3, rfl, hc3⟩ := okN_of m3
  obtain ⟨c4, rfl, hc4⟩ := okN_of m4
  have q0 : (vput c0).length ≤ 10 := vputF_le 9 _
  have q1 : (vput c1).length ≤ 10 := vputF_le 9 _
  have q2 : (vput c2).length ≤ 10 := vputF_le 9 _
  have q3 : (vput c3).length ≤ 10 := vputF_le 9 _
  have q4 : (vput c4).length ≤ 10 := vputF_le 9 _
  obtain ⟨n, hn0⟩ : ∃ n, n = 2 + (vput c0).length + (vput c1).length + (vput c2).length + (vput c3).length + (vput c4).length := ⟨_, rfl⟩
  have hn : n = ([byteOf' kk, byteOf' r] ++ vput c0 ++ vput c1 ++ vput c2 ++ vput c3 ++ vput c4).length := by rw [hn0]; simp; omega
  have hvs : (vput (2 + (vput c0).length + (vput c1).length + (vput c2).length + (vput c3).length + (vput c4).length)).length ≤ 10 := vputF_le 9 _
  have hsl := sealB_len (vput (2 + (vput c0).length + (vput c1).length + (vput c2).length + (vput c3).length + (vput c4).length) ++ ([byteOf' kk, byteOf' r] ++ vput c0 ++ vput c1 ++ vput c2 ++ vput c3 ++ vput c4))
  rcases hk with rfl | rfl
  all_goals
    have hP := IsB.app (IsB.app (IsB.app (IsB.app (IsB.app (IsB.two (x := kk) (y := r) (by omega) (by omega) (by omega) (by omega)) (IsB.bytes (vput c0)) rfl) (IsB.bytes (vput c1)) (n := 2 + (vput c0).length) (by simp <;> omega)) (IsB.bytes (vput c2)) (n := 2 + (vput c0).length + (vput c1).length) (by simp <;> omega)) (IsB.bytes (vput c3)) (n := 2 + (vput c0).length + (vput c1).length + (vput c2).length) (by simp <;> omega)) (IsB.bytes (vput c4)) (n := 2 + (vput c0).length + (vput c1).length + (vput c2).length + (vput c3).length) (by simp <;> omega)
    rw [hkk] at hP hn
    dsimp only [Rc.av, Rc.cs] at hm ⊢
    refine aspec_of lay_ok 1070057531510454523743 Try.func25 rfl rfl rfl ?_
    repeat' ((conv => whnf); first | refine Spl.yes (by first | assumption | omega) ?_ | refine Spl.no (by first | assumption | omega) ?_ | refine Wr.i64 (by omega) (by omega) ?_ | refine Still.mk rfl rfl ?_ | refine InB.mk (inB_mk (by omega) (by omega)) ?_ | refine Req.mk (by omega) ?_ | refine Req.mk ⟨by first | omega | (dsimp only; omega), by first | omega | (dsimp only; omega)⟩ ?_ | refine ACall.plain _ _ (hm) (SubL.cons (.eq _) .nil) rfl ?_ | refine ACall.plain _ _ (shape_spec _) (SubL.cons (.eq _) .nil) rfl ?_ | refine ACall.fresh _ _ _ _ _ _ _ (vput_spec _ c0 (by omega)) (SubL.cons (.eq _) .nil) rfl ?_ | refine ACall.fresh _ _ _ _ _ _ _ (vput_spec _ c1 (by omega)) (SubL.cons (.eq _) .nil) rfl ?_ | refine ACall.fresh _ _ _ _ _ _ _ (vput_spec _ c2 (by omega)) (SubL.cons (.eq _) .nil) rfl ?_ | refine ACall.fresh _ _ _ _ _ _ _ (vput_spec _ c3 (by omega)) (SubL.cons (.eq _) .nil) rfl ?_ | refine ACall.fresh _ _ _ _ _ _ _ (vput_spec _ c4 (by omega)) (SubL.cons (.eq _) .nil) rfl ?_ | refine ACall.fresh _ _ _ _ _ _ _ (vput_spec _ (2 + (vput c0).length + (vput c1).length + (vput c2).length + (vput c3).length + (vput c4).length) (by omega)) (SubL.cons (.eq _) .nil) rfl ?_ | refine ACall.fresh _ _ _ _ _ _ _ (seal_spec _ (vput (2 + (vput c0).length + (vput c1).length + (vput c2).length + (vput c3).length + (vput c4).length) ++ ([byteOf' _, byteOf' r] ++ vput c0 ++ vput c1 ++ vput c2 ++ vput c3 ++ vput c4)) (IsB.app (IsB.bytes _) hP rfl) (by rw [List.length_append, ← hn, hn0]) (by rw [List.length_append, ← hn, hn0]; omega)) (SubL.cons (.eq _) .nil) rfl ?_ | refine ALoop.unr 68 6 rfl ?_ | refine Spl.mk (fun _ => ?_) (fun _ => ?_) | refine Wr.b64 ?_ | refine Wr.bu64 ?_ | refine Wr.bu32 ?_ | refine Wr.bu8 ?_ | refine Wr.u8 (by omega) (by omega) ?_ | refine Wr.u64 (by omega) (by omega) ?_ | refine Wr.u32 (by omega) (by omega) ?_ | refine Dv.pos (by omega) (by omega) ?_ | refine Rm.pos (by omega) (by omega) ?_ | refine ADraw.quiet follows_ok (by kernel_rfl) rfl ?_ | refine BSpl.decY (by first | assumption | omega) ?_ | refine BSpl.decN (by first | assumption | omega) ?_ | refine BSpl.dec (fun _ => ?_) (fun _ => ?_) | refine BSpl.yes (by assumption) ?_ | refine BSpl.no (by assumption) ?_ | refine BSpl.mk (fun _ => ?_) (fun _ => ?_))
    conv => whnf
    refine ARet.ownX d rfl rfl ?_ (AEq.refl _)
    refine OEq.isB (IsB.bytes _) rfl ?_
    rw [← hn0, hn]
    unfold frBytes frBody
    simp [shE, shU, shC, byteOf, byteOf', vputI, clkB]

theorem frPut_yes (d : Nat) (x : Rc) (h : mayF x = true) :
    ASpec Try.prog 25 [x.av] (.tup [.own d, .v (.int .i64 0)]) [(d, .row 5 1 (frBytes x).length true (bytesF (frBytes x)))] := by
  have m := (mayF_of h).k
  rcases (show x.k = 1 ∨ x.k = 2 ∨ x.k = 3 ∨ x.k = 4 ∨ x.k = 5 by omega) with hk | hk | hk | hk | hk
  · exact frPut_e d x h (.inl hk)
  · exact frPut_u d x h hk
  · exact frPut_c d x h (.inl hk)
  · exact frPut_e d x h (.inr hk)
  · exact frPut_c d x h (.inr hk)
end Go.Proofs.Ytbmojelnkldecaa
