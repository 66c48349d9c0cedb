/-
  What the reference of layer 7 reads of any bytes.
-/
import Derived.Test.YtbmojelnkldecaaRef7
import Derived.Test.YtbmojelnkldecaaRefVc
import Derived.Test.YtbmojelnkldecaaFrLaw
import Derived.Test.YtbmojelnkldecaaFrmF
namespace Go.Proofs.Ytbmojelnkldecaa
open Go.RowKit

theorem AEq.tup' {xs ys : List AV} (h : Ch xs ys) : AEq (.tup xs) (.tup ys) := fun _ _ ⟨us, e, ha⟩ => ⟨us, e, h.all ha⟩
set_option maxHeartbeats 2000000 in
set_option maxRecDepth 100000 in
theorem ropen_ok {n : Nat} {F : Nat → List AV} (m : List UInt8) (hF : IsB F (sealB m)) (hn : n = (sealB m).length) (hl : m.length ≤ 1000000000) :
    ASpec Try.prog 65 [.sl 1 n true F] (.tup [.sl 1 m.length true (bytesF m), .v (.bool true)]) [] := by
  refine ASpec.args (bvs := [.sl 1 (sealB m).length true (bytesF (sealB m))]) ?_ (.of (fun X u hu => AEq.isB (sc := true) hF hn X u hu) .nil)
  have hlen := sealB_len m
  have htk : (sealB m).take m.length = m := by simp [sealB]
  have hFm : IsB (bytesF (sealB m)) m := fun i hi => by have := (IsB.bytes (sealB m)).take m.length i; rw [htk] at this; exact this hi
  have hs : ∀ d {n : Nat} (_ : n = m.length), _ := fun d {n} hn => rseal_spec d (n := n) m hFm hn hl
  generalize sealB m = S at hlen hFm hs
  refine aspec_of lay_ok 524317 Try.func65 rfl rfl rfl ?_
  repeat' ((conv => whnf); first | refine Spl.yes (by first | assumption | omega) ?_ | refine Spl.no (by first | assumption | omega) ?_ | refine Wr.i64 (by omega) (by omega) ?_ | refine Still.mk rfl rfl ?_ | refine InB.mk (inB_mk (by omega) (by omega)) ?_ | refine Req.mk (by omega) ?_ | refine Req.mk ⟨by first | omega | (dsimp only; omega), by first | omega | (dsimp only; omega)⟩ ?_ | refine ACall.fresh _ _ _ _ _ _ _ (hs _ (by omega)) (SubL.cons (.eq _) .nil) rfl ?_ | refine Bs.of S (IsB.bytes _) rfl ?_ | refine Spl.yes rfl ?_ | refine ARet.hdI ?_ | refine Spl.mk (fun _ => ?_) (fun _ => ?_) | refine Wr.b64 ?_ | refine Wr.bu64 ?_ | refine Wr.bu32 ?_ | refine Wr.bu8 ?_ | refine Wr.u8 (by omega) (by omega) ?_ | refine Wr.u64 (by omega) (by omega) ?_ | refine Wr.u32 (by omega) (by omega) ?_ | refine Dv.pos (by omega) (by omega) ?_ | refine Rm.pos (by omega) (by omega) ?_ | refine ADraw.quiet follows_ok (by kernel_rfl) rfl ?_ | refine ADraw.sched (id := 2) lay_ok (awp_snd lay_ok _) [(0, none), (1, none), (2, none), (3, none), (4, none), (5, none), (8, none), (9, none), (6, some [1]), (7, none), (10, none), (11, none)] [(2, [1]), (3, [1]), (4, [1]), (5, [1]), (6, [1]), (7, [1]), (8, [1]), (9, [1]), (10, [1]), (11, [1])] follows_ok (by kernel_rfl) ?_ | refine BSpl.decY (by first | assumption | omega) ?_ | refine BSpl.decN (by first | assumption | omega) ?_ | refine BSpl.dec (fun _ => ?_) (fun _ => ?_) | refine BSpl.yes (by assumption) ?_ | refine BSpl.no (by assumption) ?_ | refine BSpl.mk (fun _ => ?_) (fun _ => ?_))
  conv => whnf
  exact AEqI.mk (AEq.tup' (.isB (l := [] ++ m) (IsB.app (IsB.nil _) hFm rfl) (by simp; omega) (.same .nil)))
set_option maxHeartbeats 2000000 in
set_option maxRecDepth 100000 in
theorem ropen_no {n : Nat} {F : Nat → List AV} (l : List UInt8) (h : ¬ okSeal l) (hF : IsB F l) (hn : n = l.length) (hl : l.length ≤ 1000000000) :
    ASpec Try.prog 65 [.sl 1 n true F] (.tup [.v (.slice none 0 0), .v (.bool false)]) [] := by
  refine ASpec.args (bvs := [.sl 1 l.length true (bytesF l)]) ?_ (.of (fun X u hu => AEq.isB (sc := true) hF hn X u hu) .nil)
  have hs : ∀ d {n : Nat} (_ : n = (l.take (l.length - 4)).length), _ := fun d {n} hn => rseal_spec d (n := n) (l.take (l.length - 4)) ((IsB.bytes l).take _) hn (by rw [List.length_take]; omega)
  have hne : 4 ≤ l.length → ¬ (⟨(sealB (l.take (l.length - 4))).toArray⟩ : ByteArray) = ⟨l.toArray⟩ := fun h4 => str_ne2 fun e => h ⟨h4, e.symm⟩
  generalize sealB (l.take (l.length - 4)) = S at hs hne
  refine aspec_of lay_ok 524317 Try.func65 rfl rfl rfl ?_
  repeat' ((conv => whnf); first | refine Spl.yes (by first | assumption | omega) ?_ | refine Spl.no (by first | assumption | omega) ?_ | refine Wr.i64 (by omega) (by omega) ?_ | refine Still.mk rfl rfl ?_ | refine InB.mk (inB_mk (by omega) (by omega)) ?_ | refine Req.mk (by omega) ?_ | refine Req.mk ⟨by first | omega | (dsimp only; omega), by first | omega | (dsimp only; omega)⟩ ?_ | refine ACall.fresh _ _ _ _ _ _ _ (hs _ (by rw [List.length_take]; omega)) (SubL.cons (.eq _) .nil) rfl ?_ | refine Bs.of S (IsB.bytes _) rfl ?_ | refine Bs.of l (IsB.bytes _) rfl ?_ | refine Spl.no (hne (by omega)) ?_ | refine ARet.hdI ?_ | refine Spl.mk (fun _ => ?_) (fun _ => ?_) | refine Wr.b64 ?_ | refine Wr.bu64 ?_ | refine Wr.bu32 ?_ | refine Wr.bu8 ?_ | refine Wr.u8 (by omega) (by omega) ?_ | refine Wr.u64 (by omega) (by omega) ?_ | refine Wr.u32 (by omega) (by omega) ?_ | refine Dv.pos (by omega) (by omega) ?_ | refine Rm.pos (by omega) (by omega) ?_ | refine ADraw.quiet follows_ok (by kernel_rfl) rfl ?_ | refine ADraw.sched (id := 2) lay_ok (awp_snd lay_ok _) [(0, none), (1, none), (2, none), (3, none), (4, none), (5, none), (8, none), (9, none), (6, some [1]), (7, none), (10, none), (11, none)] [(2, [1]), (3, [1]), (4, [1]), (5, [1]), (6, [1]), (7, [1]), (8, [1]), (9, [1]), (10, [1]), (11, [1])] follows_ok (by kernel_rfl) ?_ | refine BSpl.decY (by first | assumption | omega) ?_ | refine BSpl.decN (by first | assumption | omega) ?_ | refine BSpl.dec (fun _ => ?_) (fun _ => ?_) | refine BSpl.yes (by assumption) ?_ | refine BSpl.no (by assumption) ?_ | refine BSpl.mk (fun _ => ?_) (fun _ => ?_))
  all_goals (conv => whnf)
  all_goals exact AEqI.mk (AEq.refl _)

def evR (P : List UInt8 → Ev × Nat × Int) (b : List UInt8) : Nat → List Ev × Nat
  | 0 => ([], 3)
  | j + 1 => ((evR P b j).1 ++ [(P (b.drop (evR P b j).2)).1], (evR P b j).2 + (P (b.drop (evR P b j).2)).2.1)
def AllP (P : List UInt8 → Ev × Nat × Int) : Prop := ∀ bs, bs.length ≤ 1000000000 → RefE bs (P bs)
theorem allP_ex : ∃ P, AllP P := by
  obtain ⟨P, hP⟩ := Classical.axiomOfChoice (r := fun (bs : List UInt8) (p : Ev × Nat × Int) => bs.length ≤ 1000000000 → RefE bs p) (fun bs => by
    by_cases h : bs.length ≤ 1000000000
    · obtain ⟨p, hp⟩ := refE_any bs h
      exact ⟨p, fun _ => hp⟩
    · exact ⟨(zeroEv, 0, 0), fun h' => absurd h' h⟩)
  exact ⟨P, hP⟩
theorem evR_len (P : List UInt8 → Ev × Nat × Int) (b : List UInt8) : ∀ j, (evR P b j).1.length = j
  | 0 => rfl
  | j + 1 => by
    show ((evR P b j).1 ++ [_]).length = _
    rw [List.length_append, evR_len P b j]
    rfl
theorem evR_le {P : List UInt8 → Ev × Nat × Int} (hP : AllP P) {b : List UInt8} (hl : b.length ≤ 1000000000) (h3 : 3 ≤ b.length) : ∀ j, (evR P b j).2 ≤ b.length
  | 0 => h3
  | j + 1 => by
    have ih := evR_le hP hl h3 j
    have := (hP (b.drop (evR P b j).2) (by rw [List.length_drop]; omega)).2.1
    rw [List.length_drop] at this
    show (evR P b j).2 + _ ≤ _
    omega
theorem evR_put {P : List UInt8 → Ev × Nat × Int} (hP : AllP P) {b : List UInt8} (hl : b.length ≤ 1000000000) {x y z : UInt8} (l : List Ev) (h : ∀ e ∈ l, mayE e = 0) (hb : b = x :: y :: z :: evsB l) : ∀ j, j ≤ l.length → evR P b j = (l.take j, 3 + (evsB (l.take j)).length)
  | 0, _ => by simp [evR, evsB]
  | j + 1, hj => by
    have ih := evR_put hP hl l h hb j (by omega)
    have hlt : j < l.length := by omega
    have e0 : l.drop j = l.getD j default :: l.drop (j + 1) := by rw [List.getD, List.getElem?_eq_getElem hlt]; exact List.drop_eq_getElem_cons hlt
    have e2 : evsB l = evsB (l.take j) ++ (evBytes (l.getD j default) ++ evsB (l.drop (j + 1))) := by
      have : evsB l = evsB (l.take j) ++ evsB (l.drop j) := by
        show _ = List.flatMap evBytes _ ++ List.flatMap evBytes _
        rw [← List.flatMap_append, List.take_append_drop]
        rfl
      rw [this, e0]
      rfl
    have e1 : b.drop (3 + (evsB (l.take j)).length) = evBytes (l.getD j default) ++ evsB (l.drop (j + 1)) := by
      rw [hb, ← List.drop_drop]
      show (evsB l).drop _ = _
      rw [e2, List.drop_left]
    have hm : mayE (l.getD j default) = 0 := by rw [List.getD, List.getElem?_eq_getElem hlt]; exact h _ (List.getElem_mem _)
    have hp := (hP (b.drop (3 + (evsB (l.take j)).length)) (by rw [List.length_drop]; omega)).2.2 (l.getD j default) (evBytes (l.getD j default)).length (by rw [e1]; exact takeE_put _ hm _)
    show ((evR P b j).1 ++ [(P (b.drop (evR P b j).2)).1], (evR P b j).2 + (P (b.drop (evR P b j).2)).2.1) = _
    rw [ih]
    dsimp only
    rw [hp, evsB_take hlt, List.length_append]
    congr 1
    · rw [List.getD, List.getElem?_eq_getElem hlt]
      exact List.take_append_getElem hlt
    · dsimp only
      omega

/-- What the reference tells of a frame's body. -/
def RefF (b : List UInt8) (f : Rc) : Prop :=
  ASpec Try.prog 67 [.sl 1 b.length true (bytesF b)] f.av [] ∧ f.ev.length ≤ 21 ∧ ∀ z, mayF z = true → b = frBody z → f = z

theorem body_two (z : Rc) (h : mayF z = true) : ((frBody z).getD 0 default).toNat = z.k ∧ ((frBody z).getD 1 default).toNat = z.r ∧ 2 ≤ (frBody z).length := by
  have m := mayF_of h
  have e : frBody z = byteOf z.k :: byteOf z.r :: ((if shE z.k then UInt8.ofNat z.ev.length :: evsB z.ev else []) ++ (if shU z.k then vputI z.u else []) ++ (if shC z.k then clkB z.c else [])) := by simp [frBody]
  rw [e]
  have := m.k
  have := m.r
  exact ⟨byteOf_nat (by omega) (by omega), byteOf_nat (by omega) (by omega), by simp⟩

set_option maxHeartbeats 8000000 in
set_option maxRecDepth 100000 in
theorem refF_short (b : List UInt8) (h : b.length < 2) : RefF b rc0 := by
  refine ⟨?_, by simp [rc0], fun z hz hb => absurd (body_two z hz).2.2 (by rw [← hb]; omega)⟩
  dsimp only [Rc.av, Rc.cs, rc0, clk0]
  refine aspec_of lay_ok 77371842751744763433875261 Try.func67 rfl rfl rfl ?_
  repeat' ((conv => whnf); first | refine Spl.yes (by first | assumption | omega) ?_ | refine Spl.no (by first | assumption | omega) ?_ | refine Wr.i64 (by omega) (by omega) ?_ | refine Still.mk rfl rfl ?_ | refine InB.mk (inB_mk (by omega) (by omega)) ?_ | refine Req.mk (by omega) ?_ | refine Req.mk ⟨by first | omega | (dsimp only; omega), by first | omega | (dsimp only; omega)⟩ ?_ | refine ARet.hdI ?_ | refine Spl.mk (fun _ => ?_) (fun _ => ?_) | refine Wr.b64 ?_ | refine Wr.bu64 ?_ | refine Wr.bu32 ?_ | refine Wr.bu8 ?_ | refine Wr.u8 (by omega) (by omega) ?_ | refine Wr.u64 (by omega) (by omega) ?_ | refine Wr.u32 (by omega) (by omega) ?_ | refine Dv.pos (by omega) (by omega) ?_ | refine Rm.pos (by omega) (by omega) ?_ | refine ADraw.quiet follows_ok (by kernel_rfl) rfl ?_ | refine ADraw.sched (id := 3) lay_ok (awp_snd lay_ok _) [(0, none), (1, none), (2, none), (3, none), (4, none), (5, none), (6, none), (7, none), (8, none), (9, some []), (10, some [7, 6, 3, 2])] [(3, [2]), (7, [6]), (8, [7, 6, 3, 2]), (9, []), (10, [7, 6, 3, 2])] follows_ok (by kernel_rfl) ?_ | refine BSpl.decY (by first | assumption | omega) ?_ | refine BSpl.decN (by first | assumption | omega) ?_ | refine BSpl.dec (fun _ => ?_) (fun _ => ?_) | refine BSpl.yes (by assumption) ?_ | refine BSpl.no (by assumption) ?_ | refine BSpl.mk (fun _ => ?_) (fun _ => ?_))
  all_goals (conv => whnf)
  all_goals exact AEqI.mk (AEq.nilEv _)

set_option maxHeartbeats 8000000 in
set_option maxRecDepth 100000 in
theorem refF_other (b : List UInt8) (hu : 2 ≤ b.length) {k r : Int} (hk0 : ((b.getD 0 default).toNat : Int) = k) (hr0 : ((b.getD 1 default).toNat : Int) = r) (hk : ¬ (1 ≤ k ∧ k ≤ 5)) : RefF b ⟨k, r, 0, clk0, []⟩ := by
  refine ⟨?_, by simp, fun z hz hb => absurd (mayF_of hz).k (by have := (body_two z hz).1; rw [← hb] at this; omega)⟩
  subst hk0 hr0
  have hk' : ¬ (1 ≤ ((b.getD (Int.toNat 0) default).toNat : Int) ∧ ((b.getD (Int.toNat 0) default).toNat : Int) ≤ 5) := hk
  dsimp only [Rc.av, Rc.cs, clk0]
  refine aspec_of lay_ok 77371842751744763433875261 Try.func67 rfl rfl rfl ?_
  repeat' ((conv => whnf); first | refine Spl.yes (by first | assumption | omega) ?_ | refine Spl.no (by first | assumption | omega) ?_ | refine Wr.i64 (by omega) (by omega) ?_ | refine Still.mk rfl rfl ?_ | refine InB.mk (inB_mk (by omega) (by omega)) ?_ | refine Req.mk (by omega) ?_ | refine Req.mk ⟨by first | omega | (dsimp only; omega), by first | omega | (dsimp only; omega)⟩ ?_ | refine ARet.hdI ?_ | refine Spl.mk (fun _ => ?_) (fun _ => ?_) | refine Wr.b64 ?_ | refine Wr.bu64 ?_ | refine Wr.bu32 ?_ | refine Wr.bu8 ?_ | refine Wr.u8 (by omega) (by omega) ?_ | refine Wr.u64 (by omega) (by omega) ?_ | refine Wr.u32 (by omega) (by omega) ?_ | refine Dv.pos (by omega) (by omega) ?_ | refine Rm.pos (by omega) (by omega) ?_ | refine ADraw.quiet follows_ok (by kernel_rfl) rfl ?_ | refine ADraw.sched (id := 3) lay_ok (awp_snd lay_ok _) [(0, none), (1, none), (2, none), (3, none), (4, none), (5, none), (6, none), (7, none), (8, none), (9, some []), (10, some [7, 6, 3, 2])] [(3, [2]), (7, [6]), (8, [7, 6, 3, 2]), (9, []), (10, [7, 6, 3, 2])] follows_ok (by kernel_rfl) ?_ | refine BSpl.decY (by first | assumption | omega) ?_ | refine BSpl.decN (by first | assumption | omega) ?_ | refine BSpl.dec (fun _ => ?_) (fun _ => ?_) | refine BSpl.yes (by assumption) ?_ | refine BSpl.no (by assumption) ?_ | refine BSpl.mk (fun _ => ?_) (fun _ => ?_))
  all_goals (conv => whnf)
  all_goals exact AEqI.mk (AEq.nilEv _)

set_option maxHeartbeats 8000000 in
set_option maxRecDepth 100000 in
theorem refF_u (b : List UInt8) (hl : b.length ≤ 1000000000) (hu : 2 ≤ b.length) {k r : Int} (hk0 : ((b.getD 0 default).toNat : Int) = k) (hr0 : ((b.getD 1 default).toNat : Int) = r) (hk : k = 2) : ∃ f, RefF b f := by
  have hs := rtake_spec (n := b.length - 2) (b.drop 2) ((IsB.bytes b).drop 2) (by simp) (by simp; omega)
  obtain ⟨⟨n, j, x⟩, ht⟩ : ∃ p, rtake (b.drop 2) = p := ⟨_, rfl⟩
  rw [ht] at hs
  dsimp only at hs
  refine ⟨⟨k, r, ((n % 2097152 : Nat) : Int), clk0, []⟩, ?_, by simp, fun z hz hb => ?_⟩
  · subst hk0 hr0
    have hk' : ((b.getD (Int.toNat 0) default).toNat : Int) = 2 := hk
    dsimp only [Rc.av, Rc.cs, clk0]
    refine aspec_of lay_ok 77371842751744763433875261 Try.func67 rfl rfl rfl ?_
    repeat' ((conv => whnf); first | refine Spl.yes (by first | assumption | omega) ?_ | refine Spl.no (by first | assumption | omega) ?_ | refine Wr.i64 (by omega) (by omega) ?_ | refine Still.mk rfl rfl ?_ | refine InB.mk (inB_mk (by omega) (by omega)) ?_ | refine Req.mk (by omega) ?_ | refine Req.mk ⟨by first | omega | (dsimp only; omega), by first | omega | (dsimp only; omega)⟩ ?_ | refine ACall.plain _ _ (hs) (SubL.cons (.eq _) .nil) rfl ?_ | refine ARet.hdI ?_ | refine Spl.mk (fun _ => ?_) (fun _ => ?_) | refine Wr.b64 ?_ | refine Wr.bu64 ?_ | refine Wr.bu32 ?_ | refine Wr.bu8 ?_ | refine Wr.u8 (by omega) (by omega) ?_ | refine Wr.u64 (by omega) (by omega) ?_ | refine Wr.u32 (by omega) (by omega) ?_ | refine Dv.pos (by omega) (by omega) ?_ | refine Rm.pos (by omega) (by omega) ?_ | refine ADraw.quiet follows_ok (by kernel_rfl) rfl ?_ | refine ADraw.sched (id := 3) lay_ok (awp_snd lay_ok _) [(0, none), (1, none), (2, none), (3, none), (4, none), (5, none), (6, none), (7, none), (8, none), (9, some []), (10, some [7, 6, 3, 2])] [(3, [2]), (7, [6]), (8, [7, 6, 3, 2]), (9, []), (10, [7, 6, 3, 2])] follows_ok (by kernel_rfl) ?_ | refine BSpl.decY (by first | assumption | omega) ?_ | refine BSpl.decN (by first | assumption | omega) ?_ | refine BSpl.dec (fun _ => ?_) (fun _ => ?_) | refine BSpl.yes (by assumption) ?_ | refine BSpl.no (by assumption) ?_ | refine BSpl.mk (fun _ => ?_) (fun _ => ?_))
    all_goals (conv => whnf)
    all_goals exact AEqI.mk (AEq.nilEv _)
  · have m := mayF_of hz
    obtain ⟨b0, b1, b2⟩ := body_two z hz
    rw [← hb, hk0] at b0
    rw [← hb, hr0] at b1
    obtain ⟨zk, zr, zu, zc, zev⟩ := z
    obtain ⟨mk, mr, mu, mu0, mc0, me0, mc, ml, mone, mev⟩ := m
    dsimp only at b0 b1 mu mc0 me0 hb mu0
    subst b0 b1
    subst hk
    have me0 : zev.length = 0 := me0.resolve_left (by decide)
    have mc0 : zc = clk0 := mc0.resolve_left (by decide)
    obtain ⟨un, rfl, hun⟩ := okN_of mu
    have hd : b.drop 2 = vput un ++ [] := by rw [hb]; simp [frBody, shE, shU, shC, vputI_nat]
    rw [hd, rtake_put un [] (by omega)] at ht
    cases ht
    rw [List.eq_nil_of_length_eq_zero me0, mc0, Nat.mod_eq_of_lt (by omega)]

set_option maxHeartbeats 8000000 in
set_option maxRecDepth 100000 in
theorem refF_c (b : List UInt8) (hl : b.length ≤ 1000000000) (hu : 2 ≤ b.length) {k r : Int} (hk0 : ((b.getD 0 default).toNat : Int) = k) (hr0 : ((b.getD 1 default).toNat : Int) = r) (hk : k = 3 ∨ k = 5) : ∃ f, RefF b f := by
  have hs := fun (a : Nat) {n : Nat} (hn : n = b.length - a) => rtake_spec (n := n) (b.drop a) ((IsB.bytes b).drop a) (by rw [List.length_drop]; exact hn) (by rw [List.length_drop]; omega)
  have hle := fun a => rtake_le (b.drop a)
  simp only [List.length_drop] at hle
  obtain ⟨⟨n0, j0, x0⟩, t0⟩ : ∃ p, rtake (b.drop 2) = p := ⟨_, rfl⟩
  have h0 := fun {n} hn => hs 2 (n := n) hn
  have l0 := hle 2
  rw [t0] at h0 l0
  obtain ⟨⟨n1, j1, x1⟩, t1⟩ : ∃ p, rtake (b.drop (2 + j0)) = p := ⟨_, rfl⟩
  have h1 := fun {n} hn => hs (2 + j0) (n := n) hn
  have l1 := hle (2 + j0)
  rw [t1] at h1 l1
  obtain ⟨⟨n2, j2, x2⟩, t2⟩ : ∃ p, rtake (b.drop (2 + j0 + j1)) = p := ⟨_, rfl⟩
  have h2 := fun {n} hn => hs (2 + j0 + j1) (n := n) hn
  have l2 := hle (2 + j0 + j1)
  rw [t2] at h2 l2
  obtain ⟨⟨n3, j3, x3⟩, t3⟩ : ∃ p, rtake (b.drop (2 + j0 + j1 + j2)) = p := ⟨_, rfl⟩
  have h3 := fun {n} hn => hs (2 + j0 + j1 + j2) (n := n) hn
  have l3 := hle (2 + j0 + j1 + j2)
  rw [t3] at h3 l3
  obtain ⟨⟨n4, j4, x4⟩, t4⟩ : ∃ p, rtake (b.drop (2 + j0 + j1 + j2 + j3)) = p := ⟨_, rfl⟩
  have h4 := fun {n} hn => hs (2 + j0 + j1 + j2 + j3) (n := n) hn
  have l4 := hle (2 + j0 + j1 + j2 + j3)
  rw [t4] at h4 l4
  dsimp only at h0 h1 h2 h3 h4 l0 l1 l2 l3 l4
  clear hs hle
  refine ⟨⟨k, r, 0, ⟨((n0 % 2097152 : Nat) : Int), ((n1 % 2097152 : Nat) : Int), ((n2 % 2097152 : Nat) : Int), ((n3 % 2097152 : Nat) : Int), ((n4 % 2097152 : Nat) : Int)⟩, []⟩, ?_, by simp, fun z hz hb => ?_⟩
  · subst hk0 hr0
    have hk' : ((b.getD (Int.toNat 0) default).toNat : Int) = 3 ∨ ((b.getD (Int.toNat 0) default).toNat : Int) = 5 := hk
    dsimp only [Rc.av, Rc.cs]
    refine aspec_of lay_ok 77371842751744763433875261 Try.func67 rfl rfl rfl ?_
    repeat' ((conv => whnf); first | refine Spl.yes (by first | assumption | omega) ?_ | refine Spl.no (by first | assumption | omega) ?_ | refine Wr.i64 (by omega) (by omega) ?_ | refine Still.mk rfl rfl ?_ | refine InB.mk (inB_mk (by omega) (by omega)) ?_ | refine Req.mk (by omega) ?_ | refine Req.mk ⟨by first | omega | (dsimp only; omega), by first | omega | (dsimp only; omega)⟩ ?_ | refine ACall.plain _ _ (h0 (by omega)) (SubL.cons (.eq _) .nil) rfl ?_ | refine ACall.plain _ _ (h1 (by omega)) (SubL.cons (.eq _) .nil) rfl ?_ | refine ACall.plain _ _ (h2 (by omega)) (SubL.cons (.eq _) .nil) rfl ?_ | refine ACall.plain _ _ (h3 (by omega)) (SubL.cons (.eq _) .nil) rfl ?_ | refine ACall.plain _ _ (h4 (by omega)) (SubL.cons (.eq _) .nil) rfl ?_ | refine ALoop.unr 8 6 rfl ?_ | refine ARet.hdI ?_ | refine Spl.mk (fun _ => ?_) (fun _ => ?_) | refine Wr.b64 ?_ | refine Wr.bu64 ?_ | refine Wr.bu32 ?_ | refine Wr.bu8 ?_ | refine Wr.u8 (by omega) (by omega) ?_ | refine Wr.u64 (by omega) (by omega) ?_ | refine Wr.u32 (by omega) (by omega) ?_ | refine Dv.pos (by omega) (by omega) ?_ | refine Rm.pos (by omega) (by omega) ?_ | refine ADraw.quiet follows_ok (by kernel_rfl) rfl ?_ | refine ADraw.sched (id := 3) lay_ok (awp_snd lay_ok _) [(0, none), (1, none), (2, none), (3, none), (4, none), (5, none), (6, none), (7, none), (8, none), (9, some []), (10, some [7, 6, 3, 2])] [(3, [2]), (7, [6]), (8, [7, 6, 3, 2]), (9, []), (10, [7, 6, 3, 2])] follows_ok (by kernel_rfl) ?_ | refine BSpl.decY (by first | assumption | omega) ?_ | refine BSpl.decN (by first | assumption | omega) ?_ | refine BSpl.dec (fun _ => ?_) (fun _ => ?_) | refine BSpl.yes (by assumption) ?_ | refine BSpl.no (by assumption) ?_ | refine BSpl.mk (fun _ => ?_) (fun _ => ?_))
    all_goals (conv => whnf)
    all_goals exact AEqI.mk (AEq.nilEv _)
  · have m := mayF_of hz
    obtain ⟨b0, b1, b2⟩ := body_two z hz
    rw [← hb, hk0] at b0
    rw [← hb, hr0] at b1
    obtain ⟨zk, zr, zu, ⟨c0, c1, c2, c3, c4⟩, zev⟩ := z
    obtain ⟨mk, mr, mu, mu0, mc0, me0, ⟨m0, m1, m2, m3, m4⟩, ml, mone, mev⟩ := m
    dsimp only at b0 b1 mu mu0 me0 hb m0 m1 m2 m3 m4
    subst b0 b1
    have me0 : zev.length = 0 := me0.resolve_left (by rcases hk with rfl | rfl <;> decide)
    have mu0 : zu = 0 := mu0.resolve_left (by rcases hk with rfl | rfl <;> decide)
    obtain ⟨c0, rfl, hc0⟩ := okN_of m0
    obtain ⟨c1, rfl, hc1⟩ := okN_of m1
    obtain ⟨c2, rfl, hc2⟩ := okN_of m2
    obtain ⟨c3, rfl, hc3⟩ := okN_of m3
    obtain ⟨c4, rfl, hc4⟩ := okN_of m4
    have hd : b.drop 2 = vput c0 ++ (vput c1 ++ (vput c2 ++ (vput c3 ++ (vput c4 ++ [])))) := by
      rw [hb]
      rcases hk with rfl | rfl <;> simp [frBody, shE, shU, shC, clkB, vputI_nat]
    rw [hd, rtake_put c0 _ (by omega)] at t0
    simp only [Prod.mk.injEq] at t0
    obtain ⟨f0, rfl, -⟩ := t0
    have d1 : b.drop (2 + (vput c0).length) = vput c1 ++ (vput c2 ++ (vput c3 ++ (vput c4 ++ []))) := by rw [← List.drop_drop, hd, List.drop_left]
    rw [d1, rtake_put c1 _ (by omega)] at t1
    simp only [Prod.mk.injEq] at t1
    obtain ⟨f1, rfl, -⟩ := t1
    have d2 : b.drop (2 + (vput c0).length + (vput c1).length) = vput c2 ++ (vput c3 ++ (vput c4 ++ [])) := by rw [← List.drop_drop, d1, List.drop_left]
    rw [d2, rtake_put c2 _ (by omega)] at t2
    simp only [Prod.mk.injEq] at t2
    obtain ⟨f2, rfl, -⟩ := t2
    have d3 : b.drop (2 + (vput c0).length + (vput c1).length + (vput c2).length) = vput c3 ++ (vput c4 ++ []) := by rw [← List.drop_drop, d2, List.drop_left]
    rw [d3, rtake_put c3 _ (by omega)] at t3
    simp only [Prod.mk.injEq] at t3
    obtain ⟨f3, rfl, -⟩ := t3
    have d4 : b.drop (2 + (vput c0).length + (vput c1).length + (vput c2).length + (vput c3).length) = vput c4 ++ [] := by rw [← List.drop_drop, d3, List.drop_left]
    rw [d4, rtake_put c4 _ (by omega)] at t4
    simp only [Prod.mk.injEq] at t4
    obtain ⟨f4, rfl, -⟩ := t4
    rw [← f0, ← f1, ← f2, ← f3, ← f4, List.eq_nil_of_length_eq_zero me0, mu0, Nat.mod_eq_of_lt (show c0 < 2097152 by omega), Nat.mod_eq_of_lt (show c1 < 2097152 by omega), Nat.mod_eq_of_lt (show c2 < 2097152 by omega), Nat.mod_eq_of_lt (show c3 < 2097152 by omega), Nat.mod_eq_of_lt (show c4 < 2097152 by omega)]

set_option maxHeartbeats 8000000 in
set_option maxRecDepth 100000 in
theorem refF_e2 (b : List UInt8) (hu : b.length = 2) {k r : Int} (hk0 : ((b.getD 0 default).toNat : Int) = k) (hr0 : ((b.getD 1 default).toNat : Int) = r) (hk : k = 1 ∨ k = 4) : RefF b ⟨k, r, 0, clk0, []⟩ := by
  refine ⟨?_, by simp, fun z hz hb => ?_⟩
  · subst hk0 hr0
    have hk' : ((b.getD (Int.toNat 0) default).toNat : Int) = 1 ∨ ((b.getD (Int.toNat 0) default).toNat : Int) = 4 := hk
    dsimp only [Rc.av, Rc.cs, clk0]
    refine aspec_of lay_ok 77371842751744763433875261 Try.func67 rfl rfl rfl ?_
    repeat' ((conv => whnf); first | refine Spl.yes (by first | assumption | omega) ?_ | refine Spl.no (by first | assumption | omega) ?_ | refine Wr.i64 (by omega) (by omega) ?_ | refine Still.mk rfl rfl ?_ | refine InB.mk (inB_mk (by omega) (by omega)) ?_ | refine Req.mk (by omega) ?_ | refine Req.mk ⟨by first | omega | (dsimp only; omega), by first | omega | (dsimp only; omega)⟩ ?_ | refine ALoop.unr 12 2 rfl ?_ | refine ARet.hdI ?_ | refine Spl.mk (fun _ => ?_) (fun _ => ?_) | refine Wr.b64 ?_ | refine Wr.bu64 ?_ | refine Wr.bu32 ?_ | refine Wr.bu8 ?_ | refine Wr.u8 (by omega) (by omega) ?_ | refine Wr.u64 (by omega) (by omega) ?_ | refine Wr.u32 (by omega) (by omega) ?_ | refine Dv.pos (by omega) (by omega) ?_ | refine Rm.pos (by omega) (by omega) ?_ | refine ADraw.quiet follows_ok (by kernel_rfl) rfl ?_ | refine ADraw.sched (id := 3) lay_ok (awp_snd lay_ok _) [(0, none), (1, none), (2, none), (3, none), (4, none), (5, none), (6, none), (7, none), (8, none), (9, some []), (10, some [7, 6, 3, 2])] [(3, [2]), (7, [6]), (8, [7, 6, 3, 2]), (9, []), (10, [7, 6, 3, 2])] follows_ok (by kernel_rfl) ?_ | refine BSpl.decY (by first | assumption | omega) ?_ | refine BSpl.decN (by first | assumption | omega) ?_ | refine BSpl.dec (fun _ => ?_) (fun _ => ?_) | refine BSpl.yes (by assumption) ?_ | refine BSpl.no (by assumption) ?_ | refine BSpl.mk (fun _ => ?_) (fun _ => ?_))
    all_goals (conv => whnf)
    all_goals exact AEqI.mk (AEq.nilEv _)
  · exfalso
    have b0 := (body_two z hz).1
    rw [← hb, hk0] at b0
    have e := congrArg List.length hb
    have hE : shE z.k = true := by rw [← b0]; rcases hk with rfl | rfl <;> rfl
    simp [frBody, hE] at e
    omega

set_option maxHeartbeats 8000000 in
set_option maxRecDepth 100000 in
theorem refF_e (b : List UInt8) (hl : b.length ≤ 1000000000) (hu : 3 ≤ b.length) {k r : Int} (hk0 : ((b.getD 0 default).toNat : Int) = k) (hr0 : ((b.getD 1 default).toNat : Int) = r) (hk : k = 1 ∨ k = 4) : ∃ f, RefF b f := by
  obtain ⟨P, hP⟩ := allP_ex
  obtain ⟨c, hc⟩ : ∃ c, c = (b.getD 2 default).toNat := ⟨_, rfl⟩
  have hle := evR_le hP hl hu
  have hlen := evR_len P b
  refine ⟨⟨k, r, 0, clk0, (evR P b (min c 21)).1⟩, ?_, by dsimp only; rw [hlen]; omega, fun z hz hb => ?_⟩
  · subst hk0 hr0
    have hk' : ((b.getD (Int.toNat 0) default).toNat : Int) = 1 ∨ ((b.getD (Int.toNat 0) default).toNat : Int) = 4 := hk
    dsimp only [Rc.av, Rc.cs, clk0]
    have hc' : ((b.getD (Int.toNat 2) default).toNat : Int) = (c : Int) := by rw [hc]; rfl
    have hk1 : ((b.getD (Int.toNat 0) default).toNat : Int) = 1 ∨ ((b.getD (Int.toNat 0) default).toNat : Int) = 4 := hk'
    clear hk hk'
    rcases hk1 with hk1 | hk1
    all_goals
      refine aspec_of lay_ok 77371842751744763433875261 Try.func67 rfl rfl rfl ?_
      repeat' ((conv => whnf); first | refine Spl.yes (by first | assumption | omega) ?_ | refine Spl.no (by first | assumption | omega) ?_ | refine Wr.i64 (by omega) (by omega) ?_ | refine Still.mk rfl rfl ?_ | refine InB.mk (inB_mk (by omega) (by omega)) ?_ | refine Req.mk (by omega) ?_ | refine Req.mk ⟨by first | omega | (dsimp only; omega), by first | omega | (dsimp only; omega)⟩ ?_ | refine ARet.hdI ?_ | refine Spl.mk (fun _ => ?_) (fun _ => ?_) | refine Wr.b64 ?_ | refine Wr.bu64 ?_ | refine Wr.bu32 ?_ | refine Wr.bu8 ?_ | refine Wr.u8 (by omega) (by omega) ?_ | refine Wr.u64 (by omega) (by omega) ?_ | refine Wr.u32 (by omega) (by omega) ?_ | refine Dv.pos (by omega) (by omega) ?_ | refine Rm.pos (by omega) (by omega) ?_ | refine ADraw.quiet follows_ok (by kernel_rfl) rfl ?_ | refine ADraw.sched (id := 3) lay_ok (awp_snd lay_ok _) [(0, none), (1, none), (2, none), (3, none), (4, none), (5, none), (6, none), (7, none), (8, none), (9, some []), (10, some [7, 6, 3, 2])] [(3, [2]), (7, [6]), (8, [7, 6, 3, 2]), (9, []), (10, [7, 6, 3, 2])] follows_ok (by kernel_rfl) ?_ | refine BSpl.decY (by first | assumption | omega) ?_ | refine BSpl.decN (by first | assumption | omega) ?_ | refine BSpl.dec (fun _ => ?_) (fun _ => ?_) | refine BSpl.yes (by assumption) ?_ | refine BSpl.no (by assumption) ?_ | refine BSpl.mk (fun _ => ?_) (fun _ => ?_))
      conv => whnf
      refine ALoop.mk { j : Nat // j ≤ c ∧ j ≤ 21 } (fun j => match j with
        | ⟨0, _⟩ => ⟨[(0, .sl 1 b.length true (bytesF b)), (2, .box 0 0), (3, .box 1 0), (4, .v (.int .i64 3)), (12, .v (.int .i64 0))],
          [(0, .box 43 (rcCs 0 0 0 0 0 0 0 0 (.v (.slice none 0 0)))), (1, .box 43 (rcCs ((b.getD 0 default).toNat : Int) ((b.getD 1 default).toNat : Int) 0 0 0 0 0 0 (.v (.slice none 0 0))))], [], 2⟩
        | ⟨i + 1, _⟩ => ⟨[(0, .sl 1 b.length true (bytesF b)), (2, .box 0 0), (3, .box 1 0), (4, .v (.int .i64 ((evR P b (i + 1)).2 : Int))), (12, .v (.int .i64 ((i : Int) + 1)))],
          [(0, .box 43 (rcCs 0 0 0 0 0 0 0 0 (.v (.slice none 0 0)))), (1, .box 43 (rcCs ((b.getD 0 default).toNat : Int) ((b.getD 1 default).toNat : Int) 0 0 0 0 0 0 (.own 90))), (90, .row 25 12 (evR P b (i + 1)).1.length true (evF (evR P b (i + 1)).1))], [], 91⟩)
        (fun j => c - j.1) ⟨0, by omega, by omega⟩ _
        (LeR.mk' [] _ _ _ rfl ⟨AEq.refl _, AEq.refl _, AEq.refl _, AEq.int rfl, AEq.int rfl, trivial⟩ ⟨⟨_, rfl, OEq.refl _⟩, ⟨_, rfl, OEq.refl _⟩, trivial⟩ rfl) ?_
      rintro ⟨_ | i, hj, hj21⟩
      · dsimp only [rcCs]
        have hPb := hP (b.drop 3) (by rw [List.length_drop]; omega)
        have h1 : evR P b (0 + 1) = ([] ++ [(P (b.drop 3)).1], 3 + (P (b.drop 3)).2.1) := rfl
        have hP2 := hPb.2.1
        rw [List.length_drop] at hP2
        have hcall := hPb.1.args (Ch.isB (n := b.length - 3) ((IsB.bytes b).drop 3) (by simp) .nil)
        unfold tkR at hcall
        repeat' ((conv => whnf); first | refine Spl.yes (by first | assumption | omega) ?_ | refine Spl.no (by first | assumption | omega) ?_ | refine Wr.i64 (by omega) (by omega) ?_ | refine Still.mk rfl rfl ?_ | refine InB.mk (inB_mk (by omega) (by omega)) ?_ | refine Req.mk (by omega) ?_ | refine Req.mk ⟨by first | omega | (dsimp only; omega), by first | omega | (dsimp only; omega)⟩ ?_ | refine ACall.plain _ _ (hcall) (SubL.cons (.eq _) .nil) rfl ?_ | refine ARet.hdI ?_ | refine Spl.mk (fun _ => ?_) (fun _ => ?_) | refine Wr.b64 ?_ | refine Wr.bu64 ?_ | refine Wr.bu32 ?_ | refine Wr.bu8 ?_ | refine Wr.u8 (by omega) (by omega) ?_ | refine Wr.u64 (by omega) (by omega) ?_ | refine Wr.u32 (by omega) (by omega) ?_ | refine Dv.pos (by omega) (by omega) ?_ | refine Rm.pos (by omega) (by omega) ?_ | refine ADraw.quiet follows_ok (by kernel_rfl) rfl ?_ | refine ADraw.sched (id := 3) lay_ok (awp_snd lay_ok _) [(0, none), (1, none), (2, none), (3, none), (4, none), (5, none), (6, none), (7, none), (8, none), (9, some []), (10, some [7, 6, 3, 2])] [(3, [2]), (7, [6]), (8, [7, 6, 3, 2]), (9, []), (10, [7, 6, 3, 2])] follows_ok (by kernel_rfl) ?_ | refine BSpl.decY (by first | assumption | omega) ?_ | refine BSpl.decN (by first | assumption | omega) ?_ | refine BSpl.dec (fun _ => ?_) (fun _ => ?_) | refine BSpl.yes (by assumption) ?_ | refine BSpl.no (by assumption) ?_ | refine BSpl.mk (fun _ => ?_) (fun _ => ?_))
        all_goals (conv => whnf)
        all_goals first
          | (refine ⟨⟨0 + 1, by omega, by omega⟩, _, LeR.mk' [(4, 90)] _ _ _ rfl ⟨AEq.refl _, AEq.refl _, AEq.refl _, AEq.int (by rw [h1]; dsimp only; omega), AEq.int rfl, trivial⟩ ⟨⟨_, rfl, OEq.refl _⟩, ⟨_, rfl, OEq.refl _⟩, ⟨_, rfl, OEq.row (by rw [h1]; rfl) (fun m hm => ?_)⟩, trivial⟩ rfl, by show c - (0 + 1) < c - 0; omega⟩
             have hm : m < 1 := hm
             obtain rfl : m = 0 := by omega
             rw [h1]
             rfl)
          | (rw [show min c 21 = 0 by omega]; exact AEqI.mk (AEq.nilEv _))
          | (exfalso; omega)
      · dsimp only [rcCs]
        have hA := hle (i + 1)
        have hAl := hlen (i + 1)
        have h1 : evR P b (i + 1 + 1) = ((evR P b (i + 1)).1 ++ [(P (b.drop (evR P b (i + 1)).2)).1], (evR P b (i + 1)).2 + (P (b.drop (evR P b (i + 1)).2)).2.1) := rfl
        generalize hA0 : evR P b (i + 1) = A at hA hAl h1 ⊢
        obtain ⟨l, at'⟩ := A
        dsimp only at hA hAl h1 ⊢
        have hPb := hP (b.drop at') (by rw [List.length_drop]; omega)
        have hP2 := hPb.2.1
        rw [List.length_drop] at hP2
        have hcall := hPb.1.args (Ch.isB (n := b.length - at') ((IsB.bytes b).drop at') (by simp) .nil)
        unfold tkR at hcall
        repeat' ((conv => whnf); first | refine Spl.yes (by first | assumption | omega) ?_ | refine Spl.no (by first | assumption | omega) ?_ | refine Wr.i64 (by omega) (by omega) ?_ | refine Still.mk rfl rfl ?_ | refine InB.mk (inB_mk (by omega) (by omega)) ?_ | refine Req.mk (by omega) ?_ | refine Req.mk ⟨by first | omega | (dsimp only; omega), by first | omega | (dsimp only; omega)⟩ ?_ | refine ACall.plain _ _ (hcall) (SubL.cons (.eq _) .nil) rfl ?_ | refine ARet.hdI ?_ | refine Spl.mk (fun _ => ?_) (fun _ => ?_) | refine Wr.b64 ?_ | refine Wr.bu64 ?_ | refine Wr.bu32 ?_ | refine Wr.bu8 ?_ | refine Wr.u8 (by omega) (by omega) ?_ | refine Wr.u64 (by omega) (by omega) ?_ | refine Wr.u32 (by omega) (by omega) ?_ | refine Dv.pos (by omega) (by omega) ?_ | refine Rm.pos (by omega) (by omega) ?_ | refine ADraw.quiet follows_ok (by kernel_rfl) rfl ?_ | refine ADraw.sched (id := 3) lay_ok (awp_snd lay_ok _) [(0, none), (1, none), (2, none), (3, none), (4, none), (5, none), (6, none), (7, none), (8, none), (9, some []), (10, some [7, 6, 3, 2])] [(3, [2]), (7, [6]), (8, [7, 6, 3, 2]), (9, []), (10, [7, 6, 3, 2])] follows_ok (by kernel_rfl) ?_ | refine BSpl.decY (by first | assumption | omega) ?_ | refine BSpl.decN (by first | assumption | omega) ?_ | refine BSpl.dec (fun _ => ?_) (fun _ => ?_) | refine BSpl.yes (by assumption) ?_ | refine BSpl.no (by assumption) ?_ | refine BSpl.mk (fun _ => ?_) (fun _ => ?_))
        all_goals (conv => whnf)
        all_goals first
          | (refine ⟨⟨i + 1 + 1, by omega, by omega⟩, _, LeR.mk' [(93, 90)] _ _ _ rfl ⟨AEq.refl _, AEq.refl _, AEq.refl _, AEq.int (by rw [h1]; dsimp only; omega), AEq.int rfl, trivial⟩ ⟨⟨_, rfl, OEq.refl _⟩, ⟨_, rfl, OEq.refl _⟩, ⟨_, rfl, OEq.row (by rw [h1, List.length_append]; rfl) (fun m hm => ?_)⟩, trivial⟩ rfl, by show c - (i + 1 + 1) < c - (i + 1); omega⟩
             show _ = evF (evR P b (i + 1 + 1)).1 m
             rw [h1]
             exact els_app1 (c := Ev.cs) rfl rfl m hm)
          | (rw [show min c 21 = i + 1 by omega, hA0]; exact AEqI.mk (AEq.refl _))
          | (exfalso; omega)
  · have m := mayF_of hz
    obtain ⟨b0, b1, b2⟩ := body_two z hz
    rw [← hb, hk0] at b0
    rw [← hb, hr0] at b1
    obtain ⟨zk, zr, zu, zc, zev⟩ := z
    obtain ⟨mk, mr, mu, mu0, mc0, me0, mc, ml, mone, mev⟩ := m
    dsimp only at b0 b1 mc0 mu0 hb ml mev
    subst b0 b1
    have mu0 : zu = 0 := mu0.resolve_left (by rcases hk with rfl | rfl <;> decide)
    have mc0 : zc = clk0 := mc0.resolve_left (by rcases hk with rfl | rfl <;> decide)
    have hd : b = byteOf k :: byteOf r :: UInt8.ofNat zev.length :: evsB zev := by
      rw [hb]
      rcases hk with rfl | rfl <;> simp [frBody, shE, shU, shC]
    have hc2 : c = zev.length := by rw [hc, hd]; exact u8_of (by omega)
    have hmin : min c 21 = zev.length := by omega
    rw [hmin, evR_put hP hl zev (may_mem (evOk_may mev)) hd zev.length (Nat.le_refl _), List.take_length, mu0, mc0]

theorem refF_any (b : List UInt8) (hl : b.length ≤ 1000000000) : ∃ f, RefF b f := by
  by_cases h2 : b.length < 2
  · exact ⟨rc0, refF_short b h2⟩
  · have hu : 2 ≤ b.length := by omega
    obtain ⟨k, hk⟩ : ∃ k : Int, ((b.getD 0 default).toNat : Int) = k := ⟨_, rfl⟩
    obtain ⟨r, hr⟩ : ∃ r : Int, ((b.getD 1 default).toNat : Int) = r := ⟨_, rfl⟩
    by_cases h1 : 1 ≤ k ∧ k ≤ 5
    · rcases (show (k = 1 ∨ k = 4) ∨ k = 2 ∨ (k = 3 ∨ k = 5) by omega) with h | h | h
      · by_cases h3 : b.length = 2
        · exact ⟨_, refF_e2 b h3 hk hr h⟩
        · exact refF_e b hl (by omega) hk hr h
      · exact refF_u b hl hu hk hr h
      · exact refF_c b hl hu hk hr h
    · exact ⟨_, refF_other b hu hk hr h1⟩
end Go.Proofs.Ytbmojelnkldecaa
