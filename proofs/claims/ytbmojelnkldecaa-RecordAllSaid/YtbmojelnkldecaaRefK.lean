/-
  What the reference of layer 18 reads of any bytes.
-/
import Derived.Test.YtbmojelnkldecaaRefC
import Derived.Test.YtbmojelnkldecaaRefVc
import Derived.Test.YtbmojelnkldecaaRcW
namespace Go.Proofs.Ytbmojelnkldecaa
open Go.RowKit

set_option maxHeartbeats 2000000 in
set_option maxRecDepth 100000 in
theorem kopen_ok {n : Nat} {F : Nat → List AV} (m : List UInt8) (hF : IsB F (sealB m)) (hn : n = (sealB m).length) (hl : m.length ≤ 1000000000) :
    ASpec Try.prog 65 [.sl 1 n true F] (.tup [.sl 1 m.length true (bytesF m), .v (.bool true)]) [] := by
  refine ASpec.args (bvs := [.sl 1 (sealB m).length true (bytesF (sealB m))]) ?_ (.of (fun X u hu => AEq.isB (sc := true) hF hn X u hu) .nil)
  have hlen := sealB_len m
  have htk : (sealB m).take m.length = m := by simp [sealB]
  have hFm : IsB (bytesF (sealB m)) m := fun i hi => by have := (IsB.bytes (sealB m)).take m.length i; rw [htk] at this; exact this hi
  have hs : ∀ d {n : Nat} (_ : n = m.length), _ := fun d {n} hn => rseal_spec d (n := n) m hFm hn hl
  generalize sealB m = S at hlen hFm hs
  refine aspec_of lay_ok 524317 Try.func65 rfl rfl rfl ?_
  repeat' ((conv => whnf); first | refine Spl.yes (by first | assumption | omega) ?_ | refine Spl.no (by first | assumption | omega) ?_ | refine Wr.i64 (by omega) (by omega) ?_ | refine Still.mk rfl rfl ?_ | refine InB.mk (inB_mk (by omega) (by omega)) ?_ | refine Req.mk (by omega) ?_ | refine Req.mk ⟨by first | omega | (dsimp only; omega), by first | omega | (dsimp only; omega)⟩ ?_ | refine ACall.fresh _ _ _ _ _ _ _ (hs _ (by omega)) (SubL.cons (.eq _) .nil) rfl ?_ | refine Bs.of S (IsB.bytes _) rfl ?_ | refine Spl.yes rfl ?_ | refine ARet.hdI ?_ | refine Spl.mk (fun _ => ?_) (fun _ => ?_) | refine Wr.b64 ?_ | refine Wr.bu64 ?_ | refine Wr.bu32 ?_ | refine Wr.bu8 ?_ | refine Wr.u8 (by omega) (by omega) ?_ | refine Wr.u64 (by omega) (by omega) ?_ | refine Wr.u32 (by omega) (by omega) ?_ | refine Dv.pos (by omega) (by omega) ?_ | refine Rm.pos (by omega) (by omega) ?_ | refine ADraw.quiet follows_ok (by kernel_rfl) rfl ?_ | refine ADraw.sched (id := 2) lay_ok (awp_snd lay_ok _) [(0, none), (1, none), (2, none), (3, none), (4, none), (5, none), (8, none), (9, none), (6, some [1]), (7, none), (10, none), (11, none)] [(2, [1]), (3, [1]), (4, [1]), (5, [1]), (6, [1]), (7, [1]), (8, [1]), (9, [1]), (10, [1]), (11, [1])] follows_ok (by kernel_rfl) ?_ | refine BSpl.decY (by first | assumption | omega) ?_ | refine BSpl.decN (by first | assumption | omega) ?_ | refine BSpl.dec (fun _ => ?_) (fun _ => ?_) | refine BSpl.yes (by assumption) ?_ | refine BSpl.no (by assumption) ?_ | refine BSpl.mk (fun _ => ?_) (fun _ => ?_))
  conv => whnf
  exact AEqI.mk (AEq.tup (.isB (l := [] ++ m) (IsB.app (IsB.nil _) hFm rfl) (by simp; omega) (.same .nil)))
set_option maxHeartbeats 2000000 in
set_option maxRecDepth 100000 in
theorem kopen_no {n : Nat} {F : Nat → List AV} (l : List UInt8) (h : ¬ okSeal l) (hF : IsB F l) (hn : n = l.length) (hl : l.length ≤ 1000000000) :
    ASpec Try.prog 65 [.sl 1 n true F] (.tup [.v (.slice none 0 0), .v (.bool false)]) [] := by
  refine ASpec.args (bvs := [.sl 1 l.length true (bytesF l)]) ?_ (.of (fun X u hu => AEq.isB (sc := true) hF hn X u hu) .nil)
  have hs : ∀ d {n : Nat} (_ : n = (l.take (l.length - 4)).length), _ := fun d {n} hn => rseal_spec d (n := n) (l.take (l.length - 4)) ((IsB.bytes l).take _) hn (by rw [List.length_take]; omega)
  have hne : 4 ≤ l.length → ¬ (⟨(sealB (l.take (l.length - 4))).toArray⟩ : ByteArray) = ⟨l.toArray⟩ := fun h4 => str_ne2 fun e => h ⟨h4, e.symm⟩
  generalize sealB (l.take (l.length - 4)) = S at hs hne
  refine aspec_of lay_ok 524317 Try.func65 rfl rfl rfl ?_
  repeat' ((conv => whnf); first | refine Spl.yes (by first | assumption | omega) ?_ | refine Spl.no (by first | assumption | omega) ?_ | refine Wr.i64 (by omega) (by omega) ?_ | refine Still.mk rfl rfl ?_ | refine InB.mk (inB_mk (by omega) (by omega)) ?_ | refine Req.mk (by omega) ?_ | refine Req.mk ⟨by first | omega | (dsimp only; omega), by first | omega | (dsimp only; omega)⟩ ?_ | refine ACall.fresh _ _ _ _ _ _ _ (hs _ (by rw [List.length_take]; omega)) (SubL.cons (.eq _) .nil) rfl ?_ | refine Bs.of S (IsB.bytes _) rfl ?_ | refine Bs.of l (IsB.bytes _) rfl ?_ | refine Spl.no (hne (by omega)) ?_ | refine ARet.hdI ?_ | refine Spl.mk (fun _ => ?_) (fun _ => ?_) | refine Wr.b64 ?_ | refine Wr.bu64 ?_ | refine Wr.bu32 ?_ | refine Wr.bu8 ?_ | refine Wr.u8 (by omega) (by omega) ?_ | refine Wr.u64 (by omega) (by omega) ?_ | refine Wr.u32 (by omega) (by omega) ?_ | refine Dv.pos (by omega) (by omega) ?_ | refine Rm.pos (by omega) (by omega) ?_ | refine ADraw.quiet follows_ok (by kernel_rfl) rfl ?_ | refine ADraw.sched (id := 2) lay_ok (awp_snd lay_ok _) [(0, none), (1, none), (2, none), (3, none), (4, none), (5, none), (8, none), (9, none), (6, some [1]), (7, none), (10, none), (11, none)] [(2, [1]), (3, [1]), (4, [1]), (5, [1]), (6, [1]), (7, [1]), (8, [1]), (9, [1]), (10, [1]), (11, [1])] follows_ok (by kernel_rfl) ?_ | refine BSpl.decY (by first | assumption | omega) ?_ | refine BSpl.decN (by first | assumption | omega) ?_ | refine BSpl.dec (fun _ => ?_) (fun _ => ?_) | refine BSpl.yes (by assumption) ?_ | refine BSpl.no (by assumption) ?_ | refine BSpl.mk (fun _ => ?_) (fun _ => ?_))
  all_goals (conv => whnf)
  all_goals exact AEqI.mk (AEq.refl _)

def AllQ (P : List UInt8 → Ev × Nat × Int) : Prop := ∀ bs, bs.length ≤ 1000000000 → RefE bs (P bs)
theorem allQ_ex : ∃ P, AllQ P := by
  obtain ⟨P, hP⟩ := Classical.axiomOfChoice (r := fun (bs : List UInt8) (p : Ev × Nat × Int) => bs.length ≤ 1000000000 → RefE bs p) (fun bs => by
    by_cases h : bs.length ≤ 1000000000
    · obtain ⟨p, hp⟩ := refE_any bs h
      exact ⟨p, fun _ => hp⟩
    · exact ⟨(zeroEv, 0, 0), fun h' => absurd h' h⟩)
  exact ⟨P, hP⟩
def evQ (P : List UInt8 → Ev × Nat × Int) (b : List UInt8) (p : Nat) : Nat → Option (List Ev × Nat)
  | 0 => some ([], p)
  | j + 1 => match evQ P b p j with
    | none => none
    | some (l, a) => if (P (b.drop a)).2.2 = 0 then some (l ++ [(P (b.drop a)).1], a + (P (b.drop a)).2.1) else none
theorem evQ_len {P : List UInt8 → Ev × Nat × Int} (hP : AllQ P) {b : List UInt8} {p : Nat} (hl : b.length ≤ 1000000000) (hp : p ≤ b.length) : ∀ {j : Nat} {l : List Ev} {a : Nat}, evQ P b p j = some (l, a) → l.length = j ∧ a ≤ b.length
  | 0, l, a, h => by
    simp only [evQ, Option.some.injEq, Prod.mk.injEq] at h
    obtain ⟨rfl, rfl⟩ := h
    exact ⟨rfl, hp⟩
  | j + 1, l, a, h => by
    unfold evQ at h
    cases h0 : evQ P b p j with
    | none => rw [h0] at h; cases h
    | some q =>
      obtain ⟨l0, a0⟩ := q
      rw [h0] at h
      dsimp only at h
      have ih := evQ_len hP hl hp h0
      have h2 := (hP (b.drop a0) (by rw [List.length_drop]; omega)).2.1
      rw [List.length_drop] at h2
      split at h
      · simp only [Option.some.injEq, Prod.mk.injEq] at h
        obtain ⟨rfl, rfl⟩ := h
        exact ⟨by simp [ih.1], by omega⟩
      · cases h
theorem evQ_step {P : List UInt8 → Ev × Nat × Int} {b : List UInt8} {p j : Nat} {l : List Ev} {a : Nat} (h : evQ P b p j = some (l, a)) (hx : (P (b.drop a)).2.2 = 0) : evQ P b p (j + 1) = some (l ++ [(P (b.drop a)).1], a + (P (b.drop a)).2.1) := by
  unfold evQ
  rw [h]
  dsimp only
  rw [if_pos hx]
theorem evQ_stop {P : List UInt8 → Ev × Nat × Int} {b : List UInt8} {p j : Nat} {l : List Ev} {a : Nat} (h : evQ P b p j = some (l, a)) (hx : ¬ (P (b.drop a)).2.2 = 0) : evQ P b p (j + 1) = none := by
  unfold evQ
  rw [h]
  dsimp only
  rw [if_neg hx]
theorem evQ_none {P : List UInt8 → Ev × Nat × Int} {b : List UInt8} {p j : Nat} (h : evQ P b p j = none) : ∀ n, j ≤ n → evQ P b p n = none := by
  intro n hn
  obtain ⟨d, rfl⟩ := Nat.le.dest hn
  clear hn
  induction d with
  | zero => exact h
  | succ d ih =>
    show evQ P b p (j + d + 1) = none
    unfold evQ
    rw [ih]
theorem evQ_put {P : List UInt8 → Ev × Nat × Int} (hP : AllQ P) {b : List UInt8} (hl : b.length ≤ 1000000000) {p : Nat} (l : List Ev) (h : ∀ e ∈ l, mayE e = 0) (hb : b.drop p = evsB l) : ∀ j, j ≤ l.length → evQ P b p j = some (l.take j, p + (evsB (l.take j)).length)
  | 0, _ => by simp [evQ, evsB]
  | j + 1, hj => by
    have ih := evQ_put hP hl l h hb j (by omega)
    have hlt : j < l.length := by omega
    have e0 : l.drop j = l.getD j default :: l.drop (j + 1) := by rw [List.getD, List.getElem?_eq_getElem hlt]; exact List.drop_eq_getElem_cons hlt
    have e2 : evsB l = evsB (l.take j) ++ (evBytes (l.getD j default) ++ evsB (l.drop (j + 1))) := by
      have : evsB l = evsB (l.take j) ++ evsB (l.drop j) := by
        show _ = List.flatMap evBytes _ ++ List.flatMap evBytes _
        rw [← List.flatMap_append, List.take_append_drop]
        rfl
      rw [this, e0]
      rfl
    have e1 : b.drop (p + (evsB (l.take j)).length) = evBytes (l.getD j default) ++ evsB (l.drop (j + 1)) := by
      rw [← List.drop_drop, hb, e2, List.drop_left]
    have hm : mayE (l.getD j default) = 0 := by rw [List.getD, List.getElem?_eq_getElem hlt]; exact h _ (List.getElem_mem _)
    have hp := (hP (b.drop (p + (evsB (l.take j)).length)) (by rw [List.length_drop]; omega)).2.2 (l.getD j default) (evBytes (l.getD j default)).length (by rw [e1]; exact takeE_put _ hm _)
    rw [evQ_step ih (by rw [hp]), hp, evsB_take hlt, List.length_append]
    congr 2
    · rw [List.getD, List.getElem?_eq_getElem hlt]
      exact List.take_append_getElem hlt
    · dsimp only
      omega
def resQ (k r u : Int) : Option (List Ev × Nat) → Rc
  | none => rc0
  | some (l, _) => ⟨k, r, u, clk0, l⟩

/-- What the reference tells of a record's body. -/
def RefR (b : List UInt8) (f : Rc) : Prop :=
  ASpec Try.prog 72 [.sl 1 b.length true (bytesF b)] f.av [] ∧ f.ev.length ≤ 4097 ∧ ∀ z, mayR z = true → b = rcBody z → f = z

theorem rbody_two (z : Rc) (h : mayR z = true) : ((rcBody z).getD 0 default).toNat = z.k ∧ ((rcBody z).getD 1 default).toNat = z.r ∧ 2 ≤ (rcBody z).length := by
  have m := mayR_of h
  have e : rcBody z = byteOf z.k :: byteOf z.r :: ((if rcU z.k then vputI z.u else []) ++ (if rcC z.k then clkB z.c else []) ++ (if rcE z.k then vput z.ev.length ++ evsB z.ev else [])) := by simp [rcBody]
  rw [e]
  have := m.k
  have := m.r
  exact ⟨byteOf_nat (by omega) (by omega), byteOf_nat (by omega) (by omega), by simp⟩

set_option maxHeartbeats 8000000 in
set_option maxRecDepth 100000 in
theorem refR_short (b : List UInt8) (h : b.length < 2) : RefR b rc0 := by
  refine ⟨?_, by simp [rc0], fun z hz hb => absurd (rbody_two z hz).2.2 (by rw [← hb]; omega)⟩
  dsimp only [Rc.av, Rc.cs, rc0, clk0]
  refine aspec_of lay_ok 5193564511552908217737741519533949 Try.func72 rfl rfl rfl ?_
  repeat' ((conv => whnf); first | refine Spl.yes (by first | assumption | omega) ?_ | refine Spl.no (by first | assumption | omega) ?_ | refine Wr.i64 (by omega) (by omega) ?_ | refine Still.mk rfl rfl ?_ | refine InB.mk (inB_mk (by omega) (by omega)) ?_ | refine Req.mk (by omega) ?_ | refine Req.mk ⟨by first | omega | (dsimp only; omega), by first | omega | (dsimp only; omega)⟩ ?_ | refine ARet.hdI ?_ | refine Spl.mk (fun _ => ?_) (fun _ => ?_) | refine Wr.b64 ?_ | refine Wr.bu64 ?_ | refine Wr.bu32 ?_ | refine Wr.bu8 ?_ | refine Wr.u8 (by omega) (by omega) ?_ | refine Wr.u64 (by omega) (by omega) ?_ | refine Wr.u32 (by omega) (by omega) ?_ | refine Dv.pos (by omega) (by omega) ?_ | refine Rm.pos (by omega) (by omega) ?_ | refine ADraw.quiet follows_ok (by kernel_rfl) rfl ?_ | refine ADraw.sched (id := 3) lay_ok (awp_snd lay_ok _) [(0, none), (1, none), (2, none), (3, none), (4, none), (5, none), (6, none), (7, none), (8, none), (9, some []), (10, some [7, 6, 3, 2])] [(3, [2]), (7, [6]), (8, [7, 6, 3, 2]), (9, []), (10, [7, 6, 3, 2])] follows_ok (by kernel_rfl) ?_ | refine BSpl.decY (by first | assumption | omega) ?_ | refine BSpl.decN (by first | assumption | omega) ?_ | refine BSpl.dec (fun _ => ?_) (fun _ => ?_) | refine BSpl.yes (by assumption) ?_ | refine BSpl.no (by assumption) ?_ | refine BSpl.mk (fun _ => ?_) (fun _ => ?_))
  all_goals (conv => whnf)
  all_goals exact AEqI.mk (AEq.nilEv _)

set_option maxHeartbeats 8000000 in
set_option maxRecDepth 100000 in
theorem refR_u (b : List UInt8) (hl : b.length ≤ 1000000000) (hu : 2 ≤ b.length) {k r : Int} (hk0 : ((b.getD 0 default).toNat : Int) = k) (hr0 : ((b.getD 1 default).toNat : Int) = r) (hk : k = 3) : ∃ f, RefR b f := by
  have hs := rtake_spec (n := b.length - 2) (b.drop 2) ((IsB.bytes b).drop 2) (by simp) (by simp; omega)
  have hrl := rtake_le (b.drop 2)
  rw [List.length_drop] at hrl
  obtain ⟨⟨n, j, x⟩, ht⟩ : ∃ p, rtake (b.drop 2) = p := ⟨_, rfl⟩
  rw [ht] at hs hrl
  dsimp only at hs hrl
  refine ⟨⟨k, r, ((n % 2097152 : Nat) : Int), clk0, []⟩, ?_, by simp, fun z hz hb => ?_⟩
  · subst hk0 hr0
    have hk' : ((b.getD (Int.toNat 0) default).toNat : Int) = 3 := hk
    dsimp only [Rc.av, Rc.cs, clk0]
    refine aspec_of lay_ok 5193564511552908217737741519533949 Try.func72 rfl rfl rfl ?_
    repeat' ((conv => whnf); first | refine Spl.yes (by first | assumption | omega) ?_ | refine Spl.no (by first | assumption | omega) ?_ | refine Wr.i64 (by omega) (by omega) ?_ | refine Still.mk rfl rfl ?_ | refine InB.mk (inB_mk (by omega) (by omega)) ?_ | refine Req.mk (by omega) ?_ | refine Req.mk ⟨by first | omega | (dsimp only; omega), by first | omega | (dsimp only; omega)⟩ ?_ | refine ACall.plain _ _ (hs) (SubL.cons (.eq _) .nil) rfl ?_ | refine ARet.hdI ?_ | refine Spl.mk (fun _ => ?_) (fun _ => ?_) | refine Wr.b64 ?_ | refine Wr.bu64 ?_ | refine Wr.bu32 ?_ | refine Wr.bu8 ?_ | refine Wr.u8 (by omega) (by omega) ?_ | refine Wr.u64 (by omega) (by omega) ?_ | refine Wr.u32 (by omega) (by omega) ?_ | refine Dv.pos (by omega) (by omega) ?_ | refine Rm.pos (by omega) (by omega) ?_ | refine ADraw.quiet follows_ok (by kernel_rfl) rfl ?_ | refine ADraw.sched (id := 3) lay_ok (awp_snd lay_ok _) [(0, none), (1, none), (2, none), (3, none), (4, none), (5, none), (6, none), (7, none), (8, none), (9, some []), (10, some [7, 6, 3, 2])] [(3, [2]), (7, [6]), (8, [7, 6, 3, 2]), (9, []), (10, [7, 6, 3, 2])] follows_ok (by kernel_rfl) ?_ | refine BSpl.decY (by first | assumption | omega) ?_ | refine BSpl.decN (by first | assumption | omega) ?_ | refine BSpl.dec (fun _ => ?_) (fun _ => ?_) | refine BSpl.yes (by assumption) ?_ | refine BSpl.no (by assumption) ?_ | refine BSpl.mk (fun _ => ?_) (fun _ => ?_))
    all_goals (conv => whnf)
    all_goals exact AEqI.mk (AEq.nilEv _)
  · have m := mayR_of hz
    obtain ⟨b0, b1, b2⟩ := rbody_two z hz
    rw [← hb, hk0] at b0
    rw [← hb, hr0] at b1
    obtain ⟨zk, zr, zu, zc, zev⟩ := z
    obtain ⟨mk, mr, mu, ml, mc, mu0, mc0, me0, mev, mone⟩ := m
    dsimp only at b0 b1 mu mu0 mc0 me0 hb mk ml mev
    subst b0 b1
    subst hk
    have me0 : zev.length = 0 := me0.resolve_left (by decide)
    have mc0 : zc = clk0 := mc0.resolve_left (by decide)
    obtain ⟨un, rfl, hun⟩ := okN_of mu
    have hd : b.drop 2 = vput un ++ [] := by rw [hb]; simp [rcBody, rcE, rcU, rcC, vputI_nat]
    rw [hd, rtake_put un [] (by omega)] at ht
    cases ht
    rw [List.eq_nil_of_length_eq_zero me0, mc0, Nat.mod_eq_of_lt (by omega)]

set_option maxHeartbeats 8000000 in
set_option maxRecDepth 100000 in
theorem refR_c (b : List UInt8) (hl : b.length ≤ 1000000000) (hu : 2 ≤ b.length) {k r : Int} (hk0 : ((b.getD 0 default).toNat : Int) = k) (hr0 : ((b.getD 1 default).toNat : Int) = r) (hk : k = 6) : ∃ f, RefR b f := by
  have hs := fun (a : Nat) {n : Nat} (hn : n = b.length - a) => rtake_spec (n := n) (b.drop a) ((IsB.bytes b).drop a) (by rw [List.length_drop]; exact hn) (by rw [List.length_drop]; omega)
  have hle := fun a => rtake_le (b.drop a)
  simp only [List.length_drop] at hle
  obtain ⟨⟨n0, j0, x0⟩, t0⟩ : ∃ p, rtake (b.drop 2) = p := ⟨_, rfl⟩
  have h0 := fun {n} hn => hs 2 (n := n) hn
  have l0 := hle 2
  rw [t0] at h0 l0
  obtain ⟨⟨n1, j1, x1⟩, t1⟩ : ∃ p, rtake (b.drop (2 + j0)) = p := ⟨_, rfl⟩
  have h1 := fun {n} hn => hs (2 + j0) (n := n) hn
  have l1 := hle (2 + j0)
  rw [t1] at h1 l1
  obtain ⟨⟨n2, j2, x2⟩, t2⟩ : ∃ p, rtake (b.drop (2 + j0 + j1)) = p := ⟨_, rfl⟩
  have h2 := fun {n} hn => hs (2 + j0 + j1) (n := n) hn
  have l2 := hle (2 + j0 + j1)
  rw [t2] at h2 l2
  obtain ⟨⟨n3, j3, x3⟩, t3⟩ : ∃ p, rtake (b.drop (2 + j0 + j1 + j2)) = p := ⟨_, rfl⟩
  have h3 := fun {n} hn => hs (2 + j0 + j1 + j2) (n := n) hn
  have l3 := hle (2 + j0 + j1 + j2)
  rw [t3] at h3 l3
  obtain ⟨⟨n4, j4, x4⟩, t4⟩ : ∃ p, rtake (b.drop (2 + j0 + j1 + j2 + j3)) = p := ⟨_, rfl⟩
  have h4 := fun {n} hn => hs (2 + j0 + j1 + j2 + j3) (n := n) hn
  have l4 := hle (2 + j0 + j1 + j2 + j3)
  rw [t4] at h4 l4
  dsimp only at h0 h1 h2 h3 h4 l0 l1 l2 l3 l4
  clear hs hle
  refine ⟨⟨k, r, 0, ⟨((n0 % 2097152 : Nat) : Int), ((n1 % 2097152 : Nat) : Int), ((n2 % 2097152 : Nat) : Int), ((n3 % 2097152 : Nat) : Int), ((n4 % 2097152 : Nat) : Int)⟩, []⟩, ?_, by simp, fun z hz hb => ?_⟩
  · subst hk0 hr0
    have hk' : ((b.getD (Int.toNat 0) default).toNat : Int) = 6 := hk
    dsimp only [Rc.av, Rc.cs]
    refine aspec_of lay_ok 5193564511552908217737741519533949 Try.func72 rfl rfl rfl ?_
    repeat' ((conv => whnf); first | refine Spl.yes (by first | assumption | omega) ?_ | refine Spl.no (by first | assumption | omega) ?_ | refine Wr.i64 (by omega) (by omega) ?_ | refine Still.mk rfl rfl ?_ | refine InB.mk (inB_mk (by omega) (by omega)) ?_ | refine Req.mk (by omega) ?_ | refine Req.mk ⟨by first | omega | (dsimp only; omega), by first | omega | (dsimp only; omega)⟩ ?_ | refine ACall.plain _ _ (h0 (by omega)) (SubL.cons (.eq _) .nil) rfl ?_ | refine ACall.plain _ _ (h1 (by omega)) (SubL.cons (.eq _) .nil) rfl ?_ | refine ACall.plain _ _ (h2 (by omega)) (SubL.cons (.eq _) .nil) rfl ?_ | refine ACall.plain _ _ (h3 (by omega)) (SubL.cons (.eq _) .nil) rfl ?_ | refine ACall.plain _ _ (h4 (by omega)) (SubL.cons (.eq _) .nil) rfl ?_ | refine ALoop.unr 8 6 rfl ?_ | refine ARet.hdI ?_ | refine Spl.mk (fun _ => ?_) (fun _ => ?_) | refine Wr.b64 ?_ | refine Wr.bu64 ?_ | refine Wr.bu32 ?_ | refine Wr.bu8 ?_ | refine Wr.u8 (by omega) (by omega) ?_ | refine Wr.u64 (by omega) (by omega) ?_ | refine Wr.u32 (by omega) (by omega) ?_ | refine Dv.pos (by omega) (by omega) ?_ | refine Rm.pos (by omega) (by omega) ?_ | refine ADraw.quiet follows_ok (by kernel_rfl) rfl ?_ | refine ADraw.sched (id := 3) lay_ok (awp_snd lay_ok _) [(0, none), (1, none), (2, none), (3, none), (4, none), (5, none), (6, none), (7, none), (8, none), (9, some []), (10, some [7, 6, 3, 2])] [(3, [2]), (7, [6]), (8, [7, 6, 3, 2]), (9, []), (10, [7, 6, 3, 2])] follows_ok (by kernel_rfl) ?_ | refine BSpl.decY (by first | assumption | omega) ?_ | refine BSpl.decN (by first | assumption | omega) ?_ | refine BSpl.dec (fun _ => ?_) (fun _ => ?_) | refine BSpl.yes (by assumption) ?_ | refine BSpl.no (by assumption) ?_ | refine BSpl.mk (fun _ => ?_) (fun _ => ?_))
    all_goals (conv => whnf)
    all_goals exact AEqI.mk (AEq.nilEv _)
  · have m := mayR_of hz
    obtain ⟨b0, b1, b2⟩ := rbody_two z hz
    rw [← hb, hk0] at b0
    rw [← hb, hr0] at b1
    obtain ⟨zk, zr, zu, ⟨c0, c1, c2, c3, c4⟩, zev⟩ := z
    obtain ⟨mk, mr, mu, ml, ⟨m0, m1, m2, m3, m4⟩, mu0, mc0, me0, mev, mone⟩ := m
    dsimp only at b0 b1 mu mu0 me0 hb m0 m1 m2 m3 m4
    subst b0 b1
    have me0 : zev.length = 0 := me0.resolve_left (by rw [hk]; decide)
    have mu0 : zu = 0 := mu0.resolve_left (by rw [hk]; decide)
    obtain ⟨c0, rfl, hc0⟩ := okN_of m0
    obtain ⟨c1, rfl, hc1⟩ := okN_of m1
    obtain ⟨c2, rfl, hc2⟩ := okN_of m2
    obtain ⟨c3, rfl, hc3⟩ := okN_of m3
    obtain ⟨c4, rfl, hc4⟩ := okN_of m4
    have hd : b.drop 2 = vput c0 ++ (vput c1 ++ (vput c2 ++ (vput c3 ++ (vput c4 ++ [])))) := by
      rw [hb]
      subst hk; simp [rcBody, rcE, rcU, rcC, clkB, vputI_nat]
    rw [hd, rtake_put c0 _ (by omega)] at t0
    simp only [Prod.mk.injEq] at t0
    obtain ⟨f0, rfl, -⟩ := t0
    have d1 : b.drop (2 + (vput c0).length) = vput c1 ++ (vput c2 ++ (vput c3 ++ (vput c4 ++ []))) := by rw [← List.drop_drop, hd, List.drop_left]
    rw [d1, rtake_put c1 _ (by omega)] at t1
    simp only [Prod.mk.injEq] at t1
    obtain ⟨f1, rfl, -⟩ := t1
    have d2 : b.drop (2 + (vput c0).length + (vput c1).length) = vput c2 ++ (vput c3 ++ (vput c4 ++ [])) := by rw [← List.drop_drop, d1, List.drop_left]
    rw [d2, rtake_put c2 _ (by omega)] at t2
    simp only [Prod.mk.injEq] at t2
    obtain ⟨f2, rfl, -⟩ := t2
    have d3 : b.drop (2 + (vput c0).length + (vput c1).length + (vput c2).length) = vput c3 ++ (vput c4 ++ []) := by rw [← List.drop_drop, d2, List.drop_left]
    rw [d3, rtake_put c3 _ (by omega)] at t3
    simp only [Prod.mk.injEq] at t3
    obtain ⟨f3, rfl, -⟩ := t3
    have d4 : b.drop (2 + (vput c0).length + (vput c1).length + (vput c2).length + (vput c3).length) = vput c4 ++ [] := by rw [← List.drop_drop, d3, List.drop_left]
    rw [d4, rtake_put c4 _ (by omega)] at t4
    simp only [Prod.mk.injEq] at t4
    obtain ⟨f4, rfl, -⟩ := t4
    rw [← f0, ← f1, ← f2, ← f3, ← f4, List.eq_nil_of_length_eq_zero me0, mu0, Nat.mod_eq_of_lt (show c0 < 2097152 by omega), Nat.mod_eq_of_lt (show c1 < 2097152 by omega), Nat.mod_eq_of_lt (show c2 < 2097152 by omega), Nat.mod_eq_of_lt (show c3 < 2097152 by omega), Nat.mod_eq_of_lt (show c4 < 2097152 by omega)]


set_option maxHeartbeats 8000000 in
set_option maxRecDepth 100000 in
theorem refR_e (b : List UInt8) (hl : b.length ≤ 1000000000) (hu : 2 ≤ b.length) {k r : Int} (hk0 : ((b.getD 0 default).toNat : Int) = k) (hr0 : ((b.getD 1 default).toNat : Int) = r) (hk : ¬ k = 3 ∧ ¬ k = 4 ∧ ¬ k = 6) : ∃ f, RefR b f := by
  obtain ⟨P, hP⟩ := allQ_ex
  have hs0 := fun (a : Nat) {n : Nat} (hn : n = b.length - a) => rtake_spec (n := n) (b.drop a) ((IsB.bytes b).drop a) (by rw [List.length_drop]; exact hn) (by rw [List.length_drop]; omega)
  have hle0 := fun a => rtake_le (b.drop a)
  simp only [List.length_drop] at hle0
  obtain ⟨⟨n, j1, x1⟩, t1⟩ : ∃ p, rtake (b.drop 2) = p := ⟨_, rfl⟩
  have h1 := fun {n} hn => hs0 2 (n := n) hn
  have l1 := hle0 2
  rw [t1] at h1 l1
  dsimp only at h1 l1
  clear hs0 hle0
  obtain ⟨p, hp⟩ : ∃ p, p = 2 + j1 := ⟨_, rfl⟩
  have hpl : p ≤ b.length := by omega
  obtain ⟨N, hN⟩ : ∃ N, N = min n 4097 := ⟨_, rfl⟩
  refine ⟨resQ k r 0 (evQ P b p N), ?_, ?_, fun z hz hb => ?_⟩
  · subst hk0 hr0
    have hk' : ¬ ((b.getD (Int.toNat 0) default).toNat : Int) = 3 ∧ ¬ ((b.getD (Int.toNat 0) default).toNat : Int) = 4 ∧ ¬ ((b.getD (Int.toNat 0) default).toNat : Int) = 6 := hk
    clear hk
    refine aspec_of lay_ok 5193564511552908217737741519533949 Try.func72 rfl rfl rfl ?_
    repeat' ((conv => whnf); first | refine Spl.yes (by first | assumption | omega) ?_ | refine Spl.no (by first | assumption | omega) ?_ | refine Wr.i64 (by omega) (by omega) ?_ | refine Still.mk rfl rfl ?_ | refine InB.mk (inB_mk (by omega) (by omega)) ?_ | refine Req.mk (by omega) ?_ | refine Req.mk ⟨by first | omega | (dsimp only; omega), by first | omega | (dsimp only; omega)⟩ ?_ | refine ACall.plain _ _ (h1 (by omega)) (SubL.cons (.eq _) .nil) rfl ?_ | refine ARet.hdI ?_ | refine Spl.mk (fun _ => ?_) (fun _ => ?_) | refine Wr.b64 ?_ | refine Wr.bu64 ?_ | refine Wr.bu32 ?_ | refine Wr.bu8 ?_ | refine Wr.u8 (by omega) (by omega) ?_ | refine Wr.u64 (by omega) (by omega) ?_ | refine Wr.u32 (by omega) (by omega) ?_ | refine Dv.pos (by omega) (by omega) ?_ | refine Rm.pos (by omega) (by omega) ?_ | refine ADraw.quiet follows_ok (by kernel_rfl) rfl ?_ | refine ADraw.sched (id := 3) lay_ok (awp_snd lay_ok _) [(0, none), (1, none), (2, none), (3, none), (4, none), (5, none), (6, none), (7, none), (8, none), (9, some []), (10, some [7, 6, 3, 2])] [(3, [2]), (7, [6]), (8, [7, 6, 3, 2]), (9, []), (10, [7, 6, 3, 2])] follows_ok (by kernel_rfl) ?_ | refine BSpl.decY (by first | assumption | omega) ?_ | refine BSpl.decN (by first | assumption | omega) ?_ | refine BSpl.dec (fun _ => ?_) (fun _ => ?_) | refine BSpl.yes (by assumption) ?_ | refine BSpl.no (by assumption) ?_ | refine BSpl.mk (fun _ => ?_) (fun _ => ?_))
    conv => whnf
    refine ALoop.mk { q : Nat × List Ev × Nat // evQ P b p q.1 = some q.2 ∧ q.1 ≤ N } (fun q => match q with
      | ⟨(0, _, _), _⟩ => ⟨[(0, .sl 1 b.length true (bytesF b)), (2, .box 0 0), (3, .box 1 0), (4, .v (.int .i64 (p : Int))), (12, .v (.int .u64 (n : Int))), (15, .v (.int .i64 0))],
        [(0, .box 39 (rcCs 0 0 0 0 0 0 0 0 (.v (.slice none 0 0)))), (1, .box 39 (rcCs ((b.getD 0 default).toNat : Int) ((b.getD 1 default).toNat : Int) 0 0 0 0 0 0 (.v (.slice none 0 0))))], [], 2⟩
      | ⟨(i + 1, l, a), _⟩ => ⟨[(0, .sl 1 b.length true (bytesF b)), (2, .box 0 0), (3, .box 1 0), (4, .v (.int .i64 (a : Int))), (12, .v (.int .u64 (n : Int))), (15, .v (.int .i64 ((i : Int) + 1)))],
        [(0, .box 39 (rcCs 0 0 0 0 0 0 0 0 (.v (.slice none 0 0)))), (1, .box 39 (rcCs ((b.getD 0 default).toNat : Int) ((b.getD 1 default).toNat : Int) 0 0 0 0 0 0 (.own 90))), (90, .row 25 12 l.length true (evF l))], [], 91⟩)
      (fun q => N - q.1.1) ⟨(0, [], p), rfl, Nat.zero_le _⟩ _
      (LeR.mk' [] _ _ _ rfl ⟨AEq.refl _, AEq.refl _, AEq.refl _, AEq.int (by omega), AEq.refl _, AEq.int rfl, trivial⟩ ⟨⟨_, rfl, OEq.refl _⟩, ⟨_, rfl, OEq.refl _⟩, trivial⟩ rfl) ?_
    rintro ⟨⟨_ | i, l, a⟩, hq, hj⟩
    · dsimp only [rcCs] at hq hj ⊢
      obtain ⟨hql, hqa⟩ := evQ_len hP hl hpl hq
      simp only [evQ, Option.some.injEq, Prod.mk.injEq] at hq
      obtain ⟨rfl, rfl⟩ := hq
      have hPb := hP (b.drop p) (by rw [List.length_drop]; omega)
      have hP2 := hPb.2.1
      rw [List.length_drop] at hP2
      have hcall := hPb.1.args (Ch.isB (n := b.length - p) ((IsB.bytes b).drop p) (by simp) .nil)
      unfold tkR at hcall
      have hq0 : evQ P b p 0 = some ([], p) := rfl
      by_cases hx : (P (b.drop p)).2.2 = 0
      · have hst := evQ_step hq0 hx
        repeat' ((conv => whnf); first | refine Spl.yes (by first | assumption | omega) ?_ | refine Spl.no (by first | assumption | omega) ?_ | refine Wr.i64 (by omega) (by omega) ?_ | refine Still.mk rfl rfl ?_ | refine InB.mk (inB_mk (by omega) (by omega)) ?_ | refine Req.mk (by omega) ?_ | refine Req.mk ⟨by first | omega | (dsimp only; omega), by first | omega | (dsimp only; omega)⟩ ?_ | refine ACall.plain _ _ (hcall) (SubL.cons (.eq _) .nil) rfl ?_ | refine ARet.hdI ?_ | refine Spl.mk (fun _ => ?_) (fun _ => ?_) | refine Wr.b64 ?_ | refine Wr.bu64 ?_ | refine Wr.bu32 ?_ | refine Wr.bu8 ?_ | refine Wr.u8 (by omega) (by omega) ?_ | refine Wr.u64 (by omega) (by omega) ?_ | refine Wr.u32 (by omega) (by omega) ?_ | refine Dv.pos (by omega) (by omega) ?_ | refine Rm.pos (by omega) (by omega) ?_ | refine ADraw.quiet follows_ok (by kernel_rfl) rfl ?_ | refine ADraw.sched (id := 3) lay_ok (awp_snd lay_ok _) [(0, none), (1, none), (2, none), (3, none), (4, none), (5, none), (6, none), (7, none), (8, none), (9, some []), (10, some [7, 6, 3, 2])] [(3, [2]), (7, [6]), (8, [7, 6, 3, 2]), (9, []), (10, [7, 6, 3, 2])] follows_ok (by kernel_rfl) ?_ | refine BSpl.decY (by first | assumption | omega) ?_ | refine BSpl.decN (by first | assumption | omega) ?_ | refine BSpl.dec (fun _ => ?_) (fun _ => ?_) | refine BSpl.yes (by assumption) ?_ | refine BSpl.no (by assumption) ?_ | refine BSpl.mk (fun _ => ?_) (fun _ => ?_))
        all_goals (conv => whnf)
        all_goals first
          | (refine ⟨⟨(0 + 1, [] ++ [(P (b.drop p)).1], p + (P (b.drop p)).2.1), hst, by dsimp only; omega⟩, _, LeR.mk' [(4, 90)] _ _ _ rfl ⟨AEq.refl _, AEq.refl _, AEq.refl _, AEq.int (by omega), AEq.refl _, AEq.int rfl, trivial⟩ ⟨⟨_, rfl, OEq.refl _⟩, ⟨_, rfl, OEq.refl _⟩, ⟨_, rfl, OEq.row rfl (fun m hm => ?_)⟩, trivial⟩ rfl, by show N - (0 + 1) < N - 0; omega⟩
             have hm : m < 1 := hm
             obtain rfl : m = 0 := by omega
             rfl)
          | (rw [show N = 0 by omega]; exact AEqI.mk (AEq.nilEv _))
          | (exfalso; omega)
      · have hst := evQ_stop hq0 hx
        repeat' ((conv => whnf); first | refine Spl.yes (by first | assumption | omega) ?_ | refine Spl.no (by first | assumption | omega) ?_ | refine Wr.i64 (by omega) (by omega) ?_ | refine Still.mk rfl rfl ?_ | refine InB.mk (inB_mk (by omega) (by omega)) ?_ | refine Req.mk (by omega) ?_ | refine Req.mk ⟨by first | omega | (dsimp only; omega), by first | omega | (dsimp only; omega)⟩ ?_ | refine ACall.plain _ _ (hcall) (SubL.cons (.eq _) .nil) rfl ?_ | refine ARet.hdI ?_ | refine Spl.mk (fun _ => ?_) (fun _ => ?_) | refine Wr.b64 ?_ | refine Wr.bu64 ?_ | refine Wr.bu32 ?_ | refine Wr.bu8 ?_ | refine Wr.u8 (by omega) (by omega) ?_ | refine Wr.u64 (by omega) (by omega) ?_ | refine Wr.u32 (by omega) (by omega) ?_ | refine Dv.pos (by omega) (by omega) ?_ | refine Rm.pos (by omega) (by omega) ?_ | refine ADraw.quiet follows_ok (by kernel_rfl) rfl ?_ | refine ADraw.sched (id := 3) lay_ok (awp_snd lay_ok _) [(0, none), (1, none), (2, none), (3, none), (4, none), (5, none), (6, none), (7, none), (8, none), (9, some []), (10, some [7, 6, 3, 2])] [(3, [2]), (7, [6]), (8, [7, 6, 3, 2]), (9, []), (10, [7, 6, 3, 2])] follows_ok (by kernel_rfl) ?_ | refine BSpl.decY (by first | assumption | omega) ?_ | refine BSpl.decN (by first | assumption | omega) ?_ | refine BSpl.dec (fun _ => ?_) (fun _ => ?_) | refine BSpl.yes (by assumption) ?_ | refine BSpl.no (by assumption) ?_ | refine BSpl.mk (fun _ => ?_) (fun _ => ?_))
        all_goals (conv => whnf)
        all_goals first
          | (rw [show N = 0 by omega]; exact AEqI.mk (AEq.nilEv _))
          | (rw [evQ_none hst N (by omega)]; exact AEqI.mk (AEq.nilEv _))
          | (exfalso; omega)
    · dsimp only [rcCs] at hq hj ⊢
      obtain ⟨hql, hqa⟩ := evQ_len hP hl hpl hq
      have hPb := hP (b.drop a) (by rw [List.length_drop]; omega)
      have hP2 := hPb.2.1
      rw [List.length_drop] at hP2
      have hcall := hPb.1.args (Ch.isB (n := b.length - a) ((IsB.bytes b).drop a) (by simp) .nil)
      unfold tkR at hcall
      by_cases hx : (P (b.drop a)).2.2 = 0
      · have hst := evQ_step hq hx
        repeat' ((conv => whnf); first | refine Spl.yes (by first | assumption | omega) ?_ | refine Spl.no (by first | assumption | omega) ?_ | refine Wr.i64 (by omega) (by omega) ?_ | refine Still.mk rfl rfl ?_ | refine InB.mk (inB_mk (by omega) (by omega)) ?_ | refine Req.mk (by omega) ?_ | refine Req.mk ⟨by first | omega | (dsimp only; omega), by first | omega | (dsimp only; omega)⟩ ?_ | refine ACall.plain _ _ (hcall) (SubL.cons (.eq _) .nil) rfl ?_ | refine ARet.hdI ?_ | refine Spl.mk (fun _ => ?_) (fun _ => ?_) | refine Wr.b64 ?_ | refine Wr.bu64 ?_ | refine Wr.bu32 ?_ | refine Wr.bu8 ?_ | refine Wr.u8 (by omega) (by omega) ?_ | refine Wr.u64 (by omega) (by omega) ?_ | refine Wr.u32 (by omega) (by omega) ?_ | refine Dv.pos (by omega) (by omega) ?_ | refine Rm.pos (by omega) (by omega) ?_ | refine ADraw.quiet follows_ok (by kernel_rfl) rfl ?_ | refine ADraw.sched (id := 3) lay_ok (awp_snd lay_ok _) [(0, none), (1, none), (2, none), (3, none), (4, none), (5, none), (6, none), (7, none), (8, none), (9, some []), (10, some [7, 6, 3, 2])] [(3, [2]), (7, [6]), (8, [7, 6, 3, 2]), (9, []), (10, [7, 6, 3, 2])] follows_ok (by kernel_rfl) ?_ | refine BSpl.decY (by first | assumption | omega) ?_ | refine BSpl.decN (by first | assumption | omega) ?_ | refine BSpl.dec (fun _ => ?_) (fun _ => ?_) | refine BSpl.yes (by assumption) ?_ | refine BSpl.no (by assumption) ?_ | refine BSpl.mk (fun _ => ?_) (fun _ => ?_))
        all_goals (conv => whnf)
        all_goals first
          | (refine ⟨⟨(i + 1 + 1, l ++ [(P (b.drop a)).1], a + (P (b.drop a)).2.1), hst, by dsimp only; omega⟩, _, LeR.mk' [(93, 90)] _ _ _ rfl ⟨AEq.refl _, AEq.refl _, AEq.refl _, AEq.int (by omega), AEq.refl _, AEq.int rfl, trivial⟩ ⟨⟨_, rfl, OEq.refl _⟩, ⟨_, rfl, OEq.refl _⟩, ⟨_, rfl, OEq.row (by simp) (fun m hm => els_app1 (c := Ev.cs) rfl rfl m hm)⟩, trivial⟩ rfl, by show N - (i + 1 + 1) < N - (i + 1); omega⟩)
          | (rw [show N = i + 1 by omega, hq]; exact AEqI.mk (AEq.refl _))
          | (exfalso; omega)
      · have hst := evQ_stop hq hx
        repeat' ((conv => whnf); first | refine Spl.yes (by first | assumption | omega) ?_ | refine Spl.no (by first | assumption | omega) ?_ | refine Wr.i64 (by omega) (by omega) ?_ | refine Still.mk rfl rfl ?_ | refine InB.mk (inB_mk (by omega) (by omega)) ?_ | refine Req.mk (by omega) ?_ | refine Req.mk ⟨by first | omega | (dsimp only; omega), by first | omega | (dsimp only; omega)⟩ ?_ | refine ACall.plain _ _ (hcall) (SubL.cons (.eq _) .nil) rfl ?_ | refine ARet.hdI ?_ | refine Spl.mk (fun _ => ?_) (fun _ => ?_) | refine Wr.b64 ?_ | refine Wr.bu64 ?_ | refine Wr.bu32 ?_ | refine Wr.bu8 ?_ | refine Wr.u8 (by omega) (by omega) ?_ | refine Wr.u64 (by omega) (by omega) ?_ | refine Wr.u32 (by omega) (by omega) ?_ | refine Dv.pos (by omega) (by omega) ?_ | refine Rm.pos (by omega) (by omega) ?_ | refine ADraw.quiet follows_ok (by kernel_rfl) rfl ?_ | refine ADraw.sched (id := 3) lay_ok (awp_snd lay_ok _) [(0, none), (1, none), (2, none), (3, none), (4, none), (5, none), (6, none), (7, none), (8, none), (9, some []), (10, some [7, 6, 3, 2])] [(3, [2]), (7, [6]), (8, [7, 6, 3, 2]), (9, []), (10, [7, 6, 3, 2])] follows_ok (by kernel_rfl) ?_ | refine BSpl.decY (by first | assumption | omega) ?_ | refine BSpl.decN (by first | assumption | omega) ?_ | refine BSpl.dec (fun _ => ?_) (fun _ => ?_) | refine BSpl.yes (by assumption) ?_ | refine BSpl.no (by assumption) ?_ | refine BSpl.mk (fun _ => ?_) (fun _ => ?_))
        all_goals (conv => whnf)
        all_goals first
          | (rw [show N = i + 1 by omega, hq]; exact AEqI.mk (AEq.refl _))
          | (rw [evQ_none hst N (by omega)]; exact AEqI.mk (AEq.nilEv _))
          | (exfalso; omega)
  · unfold resQ
    split
    · simp [rc0]
    · rename_i l a h
      have := (evQ_len hP hl hpl h).1
      dsimp only
      omega
  · have m := mayR_of hz
    obtain ⟨b0, b1, b2⟩ := rbody_two z hz
    rw [← hb, hk0] at b0
    rw [← hb, hr0] at b1
    obtain ⟨zk, zr, zu, zc, zev⟩ := z
    obtain ⟨mk, mr, mu, ml, mc, mu0, mc0, me0, mev, mone⟩ := m
    dsimp only at b0 b1 mu mu0 mc0 me0 hb mk ml mev
    subst b0 b1
    have hU : rcU k = false := by simp [rcU]; omega
    have hC : rcC k = false := by simp [rcC]; omega
    have hE : rcE k = true := by simp [rcE]; omega
    have mu0 : zu = 0 := mu0.resolve_left (by rw [hU]; decide)
    have mc0 : zc = clk0 := mc0.resolve_left (by rw [hC]; decide)
    have hd : b.drop 2 = vput zev.length ++ evsB zev := by rw [hb]; simp [rcBody, hU, hC, hE]
    rw [hd, rtake_put _ _ (by omega)] at t1
    simp only [Prod.mk.injEq] at t1
    obtain ⟨f1, rfl, -⟩ := t1
    have d2 : b.drop p = evsB zev := by rw [hp, ← List.drop_drop, hd, List.drop_left]
    have hNl : N = zev.length := by omega
    rw [hNl, evQ_put hP hl zev (may_mem mev) d2 zev.length (Nat.le_refl _), List.take_length, mc0, mu0]
    rfl

set_option maxHeartbeats 8000000 in
set_option maxRecDepth 100000 in
theorem refR_ue (b : List UInt8) (hl : b.length ≤ 1000000000) (hu : 2 ≤ b.length) {k r : Int} (hk0 : ((b.getD 0 default).toNat : Int) = k) (hr0 : ((b.getD 1 default).toNat : Int) = r) (hk : k = 4) : ∃ f, RefR b f := by
  obtain ⟨P, hP⟩ := allQ_ex
  have hs0 := fun (a : Nat) {n : Nat} (hn : n = b.length - a) => rtake_spec (n := n) (b.drop a) ((IsB.bytes b).drop a) (by rw [List.length_drop]; exact hn) (by rw [List.length_drop]; omega)
  have hle0 := fun a => rtake_le (b.drop a)
  simp only [List.length_drop] at hle0
  obtain ⟨⟨n0, j0, x0⟩, t0⟩ : ∃ p, rtake (b.drop 2) = p := ⟨_, rfl⟩
  have h0 := fun {n} hn => hs0 2 (n := n) hn
  have l0 := hle0 2
  rw [t0] at h0 l0
  dsimp only at h0 l0
  obtain ⟨⟨n, j1, x1⟩, t1⟩ : ∃ p, rtake (b.drop (2 + j0)) = p := ⟨_, rfl⟩
  have h1 := fun {n} hn => hs0 (2 + j0) (n := n) hn
  have l1 := hle0 (2 + j0)
  rw [t1] at h1 l1
  dsimp only at h1 l1
  clear hs0 hle0
  obtain ⟨p, hp⟩ : ∃ p, p = (2 + j0) + j1 := ⟨_, rfl⟩
  have hpl : p ≤ b.length := by omega
  obtain ⟨N, hN⟩ : ∃ N, N = min n 4097 := ⟨_, rfl⟩
  refine ⟨resQ k r ((n0 % 2097152 : Nat) : Int) (evQ P b p N), ?_, ?_, fun z hz hb => ?_⟩
  · subst hk0 hr0
    have hk' : ((b.getD (Int.toNat 0) default).toNat : Int) = 4 := hk
    clear hk
    refine aspec_of lay_ok 5193564511552908217737741519533949 Try.func72 rfl rfl rfl ?_
    repeat' ((conv => whnf); first | refine Spl.yes (by first | assumption | omega) ?_ | refine Spl.no (by first | assumption | omega) ?_ | refine Wr.i64 (by omega) (by omega) ?_ | refine Still.mk rfl rfl ?_ | refine InB.mk (inB_mk (by omega) (by omega)) ?_ | refine Req.mk (by omega) ?_ | refine Req.mk ⟨by first | omega | (dsimp only; omega), by first | omega | (dsimp only; omega)⟩ ?_ | refine ACall.plain _ _ (h0 (by omega)) (SubL.cons (.eq _) .nil) rfl ?_ | refine ACall.plain _ _ (h1 (by omega)) (SubL.cons (.eq _) .nil) rfl ?_ | refine ARet.hdI ?_ | refine Spl.mk (fun _ => ?_) (fun _ => ?_) | refine Wr.b64 ?_ | refine Wr.bu64 ?_ | refine Wr.bu32 ?_ | refine Wr.bu8 ?_ | refine Wr.u8 (by omega) (by omega) ?_ | refine Wr.u64 (by omega) (by omega) ?_ | refine Wr.u32 (by omega) (by omega) ?_ | refine Dv.pos (by omega) (by omega) ?_ | refine Rm.pos (by omega) (by omega) ?_ | refine ADraw.quiet follows_ok (by kernel_rfl) rfl ?_ | refine ADraw.sched (id := 3) lay_ok (awp_snd lay_ok _) [(0, none), (1, none), (2, none), (3, none), (4, none), (5, none), (6, none), (7, none), (8, none), (9, some []), (10, some [7, 6, 3, 2])] [(3, [2]), (7, [6]), (8, [7, 6, 3, 2]), (9, []), (10, [7, 6, 3, 2])] follows_ok (by kernel_rfl) ?_ | refine BSpl.decY (by first | assumption | omega) ?_ | refine BSpl.decN (by first | assumption | omega) ?_ | refine BSpl.dec (fun _ => ?_) (fun _ => ?_) | refine BSpl.yes (by assumption) ?_ | refine BSpl.no (by assumption) ?_ | refine BSpl.mk (fun _ => ?_) (fun _ => ?_))
    conv => whnf
    refine ALoop.mk { q : Nat × List Ev × Nat // evQ P b p q.1 = some q.2 ∧ q.1 ≤ N } (fun q => match q with
      | ⟨(0, _, _), _⟩ => ⟨[(0, .sl 1 b.length true (bytesF b)), (2, .box 0 0), (3, .box 1 0), (4, .v (.int .i64 (p : Int))), (12, .v (.int .u64 (n : Int))), (15, .v (.int .i64 0))],
        [(0, .box 39 (rcCs 0 0 0 0 0 0 0 0 (.v (.slice none 0 0)))), (1, .box 39 (rcCs ((b.getD 0 default).toNat : Int) ((b.getD 1 default).toNat : Int) ((n0 : Int) % 2097152) 0 0 0 0 0 (.v (.slice none 0 0))))], [], 2⟩
      | ⟨(i + 1, l, a), _⟩ => ⟨[(0, .sl 1 b.length true (bytesF b)), (2, .box 0 0), (3, .box 1 0), (4, .v (.int .i64 (a : Int))), (12, .v (.int .u64 (n : Int))), (15, .v (.int .i64 ((i : Int) + 1)))],
        [(0, .box 39 (rcCs 0 0 0 0 0 0 0 0 (.v (.slice none 0 0)))), (1, .box 39 (rcCs ((b.getD 0 default).toNat : Int) ((b.getD 1 default).toNat : Int) ((n0 : Int) % 2097152) 0 0 0 0 0 (.own 90))), (90, .row 25 12 l.length true (evF l))], [], 91⟩)
      (fun q => N - q.1.1) ⟨(0, [], p), rfl, Nat.zero_le _⟩ _
      (LeR.mk' [] _ _ _ rfl ⟨AEq.refl _, AEq.refl _, AEq.refl _, AEq.int (by omega), AEq.refl _, AEq.int rfl, trivial⟩ ⟨⟨_, rfl, OEq.refl _⟩, ⟨_, rfl, OEq.refl _⟩, trivial⟩ rfl) ?_
    rintro ⟨⟨_ | i, l, a⟩, hq, hj⟩
    · dsimp only [rcCs] at hq hj ⊢
      obtain ⟨hql, hqa⟩ := evQ_len hP hl hpl hq
      simp only [evQ, Option.some.injEq, Prod.mk.injEq] at hq
      obtain ⟨rfl, rfl⟩ := hq
      have hPb := hP (b.drop p) (by rw [List.length_drop]; omega)
      have hP2 := hPb.2.1
      rw [List.length_drop] at hP2
      have hcall := hPb.1.args (Ch.isB (n := b.length - p) ((IsB.bytes b).drop p) (by simp) .nil)
      unfold tkR at hcall
      have hq0 : evQ P b p 0 = some ([], p) := rfl
      by_cases hx : (P (b.drop p)).2.2 = 0
      · have hst := evQ_step hq0 hx
        repeat' ((conv => whnf); first | refine Spl.yes (by first | assumption | omega) ?_ | refine Spl.no (by first | assumption | omega) ?_ | refine Wr.i64 (by omega) (by omega) ?_ | refine Still.mk rfl rfl ?_ | refine InB.mk (inB_mk (by omega) (by omega)) ?_ | refine Req.mk (by omega) ?_ | refine Req.mk ⟨by first | omega | (dsimp only; omega), by first | omega | (dsimp only; omega)⟩ ?_ | refine ACall.plain _ _ (hcall) (SubL.cons (.eq _) .nil) rfl ?_ | refine ARet.hdI ?_ | refine Spl.mk (fun _ => ?_) (fun _ => ?_) | refine Wr.b64 ?_ | refine Wr.bu64 ?_ | refine Wr.bu32 ?_ | refine Wr.bu8 ?_ | refine Wr.u8 (by omega) (by omega) ?_ | refine Wr.u64 (by omega) (by omega) ?_ | refine Wr.u32 (by omega) (by omega) ?_ | refine Dv.pos (by omega) (by omega) ?_ | refine Rm.pos (by omega) (by omega) ?_ | refine ADraw.quiet follows_ok (by kernel_rfl) rfl ?_ | refine ADraw.sched (id := 3) lay_ok (awp_snd lay_ok _) [(0, none), (1, none), (2, none), (3, none), (4, none), (5, none), (6, none), (7, none), (8, none), (9, some []), (10, some [7, 6, 3, 2])] [(3, [2]), (7, [6]), (8, [7, 6, 3, 2]), (9, []), (10, [7, 6, 3, 2])] follows_ok (by kernel_rfl) ?_ | refine BSpl.decY (by first | assumption | omega) ?_ | refine BSpl.decN (by first | assumption | omega) ?_ | refine BSpl.dec (fun _ => ?_) (fun _ => ?_) | refine BSpl.yes (by assumption) ?_ | refine BSpl.no (by assumption) ?_ | refine BSpl.mk (fun _ => ?_) (fun _ => ?_))
        all_goals (conv => whnf)
        all_goals first
          | (refine ⟨⟨(0 + 1, [] ++ [(P (b.drop p)).1], p + (P (b.drop p)).2.1), hst, by dsimp only; omega⟩, _, LeR.mk' [(4, 90)] _ _ _ rfl ⟨AEq.refl _, AEq.refl _, AEq.refl _, AEq.int (by omega), AEq.refl _, AEq.int rfl, trivial⟩ ⟨⟨_, rfl, OEq.refl _⟩, ⟨_, rfl, OEq.refl _⟩, ⟨_, rfl, OEq.row rfl (fun m hm => ?_)⟩, trivial⟩ rfl, by show N - (0 + 1) < N - 0; omega⟩
             have hm : m < 1 := hm
             obtain rfl : m = 0 := by omega
             rfl)
          | (rw [show N = 0 by omega]; exact AEqI.mk (AEq.nilEv _))
          | (exfalso; omega)
      · have hst := evQ_stop hq0 hx
        repeat' ((conv => whnf); first | refine Spl.yes (by first | assumption | omega) ?_ | refine Spl.no (by first | assumption | omega) ?_ | refine Wr.i64 (by omega) (by omega) ?_ | refine Still.mk rfl rfl ?_ | refine InB.mk (inB_mk (by omega) (by omega)) ?_ | refine Req.mk (by omega) ?_ | refine Req.mk ⟨by first | omega | (dsimp only; omega), by first | omega | (dsimp only; omega)⟩ ?_ | refine ACall.plain _ _ (hcall) (SubL.cons (.eq _) .nil) rfl ?_ | refine ARet.hdI ?_ | refine Spl.mk (fun _ => ?_) (fun _ => ?_) | refine Wr.b64 ?_ | refine Wr.bu64 ?_ | refine Wr.bu32 ?_ | refine Wr.bu8 ?_ | refine Wr.u8 (by omega) (by omega) ?_ | refine Wr.u64 (by omega) (by omega) ?_ | refine Wr.u32 (by omega) (by omega) ?_ | refine Dv.pos (by omega) (by omega) ?_ | refine Rm.pos (by omega) (by omega) ?_ | refine ADraw.quiet follows_ok (by kernel_rfl) rfl ?_ | refine ADraw.sched (id := 3) lay_ok (awp_snd lay_ok _) [(0, none), (1, none), (2, none), (3, none), (4, none), (5, none), (6, none), (7, none), (8, none), (9, some []), (10, some [7, 6, 3, 2])] [(3, [2]), (7, [6]), (8, [7, 6, 3, 2]), (9, []), (10, [7, 6, 3, 2])] follows_ok (by kernel_rfl) ?_ | refine BSpl.decY (by first | assumption | omega) ?_ | refine BSpl.decN (by first | assumption | omega) ?_ | refine BSpl.dec (fun _ => ?_) (fun _ => ?_) | refine BSpl.yes (by assumption) ?_ | refine BSpl.no (by assumption) ?_ | refine BSpl.mk (fun _ => ?_) (fun _ => ?_))
        all_goals (conv => whnf)
        all_goals first
          | (rw [show N = 0 by omega]; exact AEqI.mk (AEq.nilEv _))
          | (rw [evQ_none hst N (by omega)]; exact AEqI.mk (AEq.nilEv _))
          | (exfalso; omega)
    · dsimp only [rcCs] at hq hj ⊢
      obtain ⟨hql, hqa⟩ := evQ_len hP hl hpl hq
      have hPb := hP (b.drop a) (by rw [List.length_drop]; omega)
      have hP2 := hPb.2.1
      rw [List.length_drop] at hP2
      have hcall := hPb.1.args (Ch.isB (n := b.length - a) ((IsB.bytes b).drop a) (by simp) .nil)
      unfold tkR at hcall
      by_cases hx : (P (b.drop a)).2.2 = 0
      · have hst := evQ_step hq hx
        repeat' ((conv => whnf); first | refine Spl.yes (by first | assumption | omega) ?_ | refine Spl.no (by first | assumption | omega) ?_ | refine Wr.i64 (by omega) (by omega) ?_ | refine Still.mk rfl rfl ?_ | refine InB.mk (inB_mk (by omega) (by omega)) ?_ | refine Req.mk (by omega) ?_ | refine Req.mk ⟨by first | omega | (dsimp only; omega), by first | omega | (dsimp only; omega)⟩ ?_ | refine ACall.plain _ _ (hcall) (SubL.cons (.eq _) .nil) rfl ?_ | refine ARet.hdI ?_ | refine Spl.mk (fun _ => ?_) (fun _ => ?_) | refine Wr.b64 ?_ | refine Wr.bu64 ?_ | refine Wr.bu32 ?_ | refine Wr.bu8 ?_ | refine Wr.u8 (by omega) (by omega) ?_ | refine Wr.u64 (by omega) (by omega) ?_ | refine Wr.u32 (by omega) (by omega) ?_ | refine Dv.pos (by omega) (by omega) ?_ | refine Rm.pos (by omega) (by omega) ?_ | refine ADraw.quiet follows_ok (by kernel_rfl) rfl ?_ | refine ADraw.sched (id := 3) lay_ok (awp_snd lay_ok _) [(0, none), (1, none), (2, none), (3, none), (4, none), (5, none), (6, none), (7, none), (8, none), (9, some []), (10, some [7, 6, 3, 2])] [(3, [2]), (7, [6]), (8, [7, 6, 3, 2]), (9, []), (10, [7, 6, 3, 2])] follows_ok (by kernel_rfl) ?_ | refine BSpl.decY (by first | assumption | omega) ?_ | refine BSpl.decN (by first | assumption | omega) ?_ | refine BSpl.dec (fun _ => ?_) (fun _ => ?_) | refine BSpl.yes (by assumption) ?_ | refine BSpl.no (by assumption) ?_ | refine BSpl.mk (fun _ => ?_) (fun _ => ?_))
        all_goals (conv => whnf)
        all_goals first
          | (refine ⟨⟨(i + 1 + 1, l ++ [(P (b.drop a)).1], a + (P (b.drop a)).2.1), hst, by dsimp only; omega⟩, _, LeR.mk' [(93, 90)] _ _ _ rfl ⟨AEq.refl _, AEq.refl _, AEq.refl _, AEq.int (by omega), AEq.refl _, AEq.int rfl, trivial⟩ ⟨⟨_, rfl, OEq.refl _⟩, ⟨_, rfl, OEq.refl _⟩, ⟨_, rfl, OEq.row (by simp) (fun m hm => els_app1 (c := Ev.cs) rfl rfl m hm)⟩, trivial⟩ rfl, by show N - (i + 1 + 1) < N - (i + 1); omega⟩)
          | (rw [show N = i + 1 by omega, hq]; exact AEqI.mk (AEq.refl _))
          | (exfalso; omega)
      · have hst := evQ_stop hq hx
        repeat' ((conv => whnf); first | refine Spl.yes (by first | assumption | omega) ?_ | refine Spl.no (by first | assumption | omega) ?_ | refine Wr.i64 (by omega) (by omega) ?_ | refine Still.mk rfl rfl ?_ | refine InB.mk (inB_mk (by omega) (by omega)) ?_ | refine Req.mk (by omega) ?_ | refine Req.mk ⟨by first | omega | (dsimp only; omega), by first | omega | (dsimp only; omega)⟩ ?_ | refine ACall.plain _ _ (hcall) (SubL.cons (.eq _) .nil) rfl ?_ | refine ARet.hdI ?_ | refine Spl.mk (fun _ => ?_) (fun _ => ?_) | refine Wr.b64 ?_ | refine Wr.bu64 ?_ | refine Wr.bu32 ?_ | refine Wr.bu8 ?_ | refine Wr.u8 (by omega) (by omega) ?_ | refine Wr.u64 (by omega) (by omega) ?_ | refine Wr.u32 (by omega) (by omega) ?_ | refine Dv.pos (by omega) (by omega) ?_ | refine Rm.pos (by omega) (by omega) ?_ | refine ADraw.quiet follows_ok (by kernel_rfl) rfl ?_ | refine ADraw.sched (id := 3) lay_ok (awp_snd lay_ok _) [(0, none), (1, none), (2, none), (3, none), (4, none), (5, none), (6, none), (7, none), (8, none), (9, some []), (10, some [7, 6, 3, 2])] [(3, [2]), (7, [6]), (8, [7, 6, 3, 2]), (9, []), (10, [7, 6, 3, 2])] follows_ok (by kernel_rfl) ?_ | refine BSpl.decY (by first | assumption | omega) ?_ | refine BSpl.decN (by first | assumption | omega) ?_ | refine BSpl.dec (fun _ => ?_) (fun _ => ?_) | refine BSpl.yes (by assumption) ?_ | refine BSpl.no (by assumption) ?_ | refine BSpl.mk (fun _ => ?_) (fun _ => ?_))
        all_goals (conv => whnf)
        all_goals first
          | (rw [show N = i + 1 by omega, hq]; exact AEqI.mk (AEq.refl _))
          | (rw [evQ_none hst N (by omega)]; exact AEqI.mk (AEq.nilEv _))
          | (exfalso; omega)
  · unfold resQ
    split
    · simp [rc0]
    · rename_i l a h
      have := (evQ_len hP hl hpl h).1
      dsimp only
      omega
  · have m := mayR_of hz
    obtain ⟨b0, b1, b2⟩ := rbody_two z hz
    rw [← hb, hk0] at b0
    rw [← hb, hr0] at b1
    obtain ⟨zk, zr, zu, zc, zev⟩ := z
    obtain ⟨mk, mr, mu, ml, mc, mu0, mc0, me0, mev, mone⟩ := m
    dsimp only at b0 b1 mu mu0 mc0 me0 hb mk ml mev
    subst b0 b1
    subst hk
    have mc0 : zc = clk0 := mc0.resolve_left (by decide)
    obtain ⟨un, rfl, hun⟩ := okN_of mu
    have hd : b.drop 2 = vput un ++ (vput zev.length ++ evsB zev) := by rw [hb]; simp [rcBody, rcE, rcU, rcC, vputI_nat]
    rw [hd, rtake_put un _ (by omega)] at t0
    simp only [Prod.mk.injEq] at t0
    obtain ⟨f0, rfl, -⟩ := t0
    have d1 : b.drop (2 + (vput un).length) = vput zev.length ++ evsB zev := by rw [← List.drop_drop, hd, List.drop_left]
    rw [d1, rtake_put _ _ (by omega)] at t1
    simp only [Prod.mk.injEq] at t1
    obtain ⟨f1, rfl, -⟩ := t1
    have d2 : b.drop p = evsB zev := by rw [hp, ← List.drop_drop, d1, List.drop_left]
    have hNl : N = zev.length := by omega
    rw [hNl, evQ_put hP hl zev (may_mem mev) d2 zev.length (Nat.le_refl _), List.take_length, mc0, ← f0, Nat.mod_eq_of_lt (show un < 2097152 by omega)]
    rfl

theorem refR_any (b : List UInt8) (hl : b.length ≤ 1000000000) : ∃ f, RefR b f := by
  by_cases h2 : b.length < 2
  · exact ⟨rc0, refR_short b h2⟩
  · have hu : 2 ≤ b.length := by omega
    obtain ⟨k, hk⟩ : ∃ k : Int, ((b.getD 0 default).toNat : Int) = k := ⟨_, rfl⟩
    obtain ⟨r, hr⟩ : ∃ r : Int, ((b.getD 1 default).toNat : Int) = r := ⟨_, rfl⟩
    by_cases h3 : k = 3
    · exact refR_u b hl hu hk hr h3
    · by_cases h4 : k = 4
      · exact refR_ue b hl hu hk hr h4
      · by_cases h6 : k = 6
        · exact refR_c b hl hu hk hr h6
        · exact refR_e b hl hu hk hr ⟨h3, h4, h6⟩
end Go.Proofs.Ytbmojelnkldecaa
