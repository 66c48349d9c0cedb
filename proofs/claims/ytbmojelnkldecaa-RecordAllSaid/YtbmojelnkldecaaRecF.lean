/-
  The maker of records that may be (kithref18.Fit); the document's example of a record.
-/
import Derived.Test.YtbmojelnkldecaaRecP
namespace Go.Proofs.Ytbmojelnkldecaa
open Go.RowKit

theorem C1.nilEv {X : CX} {a1 a2 a3 a4 a5 a6 a7 a8 : AV} {f : Nat → List AV} {u : Value} (h : C1 X (.agg [a1, a2, a3, a4, a5, a6, a7, a8, .v (.slice none 0 0)]) u) : C1 X (.agg [a1, a2, a3, a4, a5, a6, a7, a8, .sl 12 0 true f]) u := by
  obtain ⟨us, e, ha⟩ := h
  obtain ⟨v, hv, hc⟩ := ha.get (i := 8) rfl
  have hc : v = .slice none 0 0 := hc
  subst hc
  refine ⟨us, e, ?_⟩
  have := ha.set 8 (x := .sl 12 0 true f) (u := .slice none 0 0) (show C0 X (.sl 12 0 true f) (.slice none 0 0) from .sl 12 0 true f none 0 [] (by omega) (Nat.le_refl _) (by simp [maxLen]) (by simp) (fun i hi => absurd hi (Nat.not_lt_zero i)) (fun _ x hx => by simp [flat] at hx) (fun i x u hx => by simp [flat] at hx) (.inl rfl))
  have e2 : us.set 8 (.slice none 0 0) = us := by
    apply List.ext_getElem?
    intro i
    rw [List.getElem?_set]
    by_cases h8 : 8 = i
    · subst h8
      rw [if_pos rfl, hv]
      have : 8 < us.length := by
        rcases Nat.lt_or_ge 8 us.length with h | h
        · exact h
        · rw [List.getElem?_eq_none h] at hv; cases hv
      rw [if_pos this]
    · rw [if_neg h8]
  rw [e2] at this
  exact this

def exRc : Rc := ⟨3, 1, 2, clk0, []⟩
theorem exRc_bytes : rcBytes exRc = [7] ++ sealB [3, 1, 2] := by
  have hb : rcBody exRc = [3, 1, 2] := by decide
  unfold rcBytes
  rw [hb, sealB_len]
  rfl
theorem exRc_put (d : Nat) : ASpec Try.prog 23 [.agg [.v (.int .i64 3), .v (.int .i64 1), .v (.int .i64 2), .v (.int .i64 0), .v (.int .i64 0), .v (.int .i64 0), .v (.int .i64 0), .v (.int .i64 0), .v (.slice none 0 0)]] (.tup [.own d, .v (.int .i64 0)]) [(d, .row 5 1 ([7] ++ sealB [3, 1, 2]).length true (bytesF ([7] ++ sealB [3, 1, 2])))] := by
  have := rcPut_yes d exRc (by decide)
  rw [exRc_bytes] at this
  exact this.args (.of (fun X u h => C1.nilEv h) .nil)

theorem bytes_app (a b : List UInt8) : (⟨a.toArray⟩ ++ ⟨b.toArray⟩ : ByteArray) = ⟨(a ++ b).toArray⟩ := by
  apply bytes_inj
  simp

set_option maxHeartbeats 2000000 in
set_option maxRecDepth 100000 in
theorem shown18_spec : ASpec Try.prog 21 [] (.v (.bool true)) [] := by
  have hl := sealB_len [3, 1, 2]
  have hl7 : ([7] ++ sealB [3, 1, 2]).length = 8 := by simp [sealB_len]
  have hsz : (⟨(sealB [3, 1, 2]).toArray⟩ : ByteArray).size = 7 := by show (sealB [3, 1, 2]).toArray.size = 7; rw [List.size_toArray, sealB_len]; rfl
  refine aspec_of lay_ok 7 Try.func21 rfl rfl rfl ?_
  repeat' ((conv => whnf); first | refine Spl.yes (by first | assumption | omega) ?_ | refine Spl.no (by first | assumption | omega) ?_ | refine Wr.i64 (by omega) (by omega) ?_ | refine Still.mk rfl rfl ?_ | refine InB.mk (inB_mk (by omega) (by omega)) ?_ | refine Req.mk (by omega) ?_ | refine Req.mk ⟨by first | omega | (dsimp only; omega), by first | omega | (dsimp only; omega)⟩ ?_ | refine ACall.fresh _ _ _ _ _ _ _ (exRc_put _) (SubL.cons (.eq _) .nil) rfl ?_ | refine ACall.fresh _ _ _ _ _ _ _ (seal_spec _ [3, 1, 2] (fun i hi => by have : i = 0 ∨ i = 1 ∨ i = 2 := by { simp at hi; omega }; rcases this with rfl | rfl | rfl <;> rfl) rfl (by decide)) (SubL.cons (.eq _) .nil) rfl ?_ | refine Bs.of _ (IsB.bytes _) rfl ?_ | refine Req.mk (by rw [hsz]; decide) ?_ | refine Spl.yes (bytes_app [7] _).symm ?_ | refine ARet.hdI ?_ | refine Spl.mk (fun _ => ?_) (fun _ => ?_) | refine Wr.b64 ?_ | refine Wr.bu64 ?_ | refine Wr.bu32 ?_ | refine Wr.bu8 ?_ | refine Wr.u8 (by omega) (by omega) ?_ | refine Wr.u64 (by omega) (by omega) ?_ | refine Wr.u32 (by omega) (by omega) ?_ | refine Dv.pos (by omega) (by omega) ?_ | refine Rm.pos (by omega) (by omega) ?_ | refine ADraw.quiet follows_ok (by kernel_rfl) rfl ?_ | refine ADraw.sched (id := 2) lay_ok (awp_snd lay_ok _) [(0, none), (1, none), (2, some []), (3, some []), (4, none), (5, none), (6, none), (7, none), (8, none), (9, none), (10, none), (11, none)] [(2, []), (3, [])] follows_ok (by kernel_rfl) ?_ | refine BSpl.decY (by first | assumption | omega) ?_ | refine BSpl.decN (by first | assumption | omega) ?_ | refine BSpl.dec (fun _ => ?_) (fun _ => ?_) | refine BSpl.yes (by assumption) ?_ | refine BSpl.no (by assumption) ?_ | refine BSpl.mk (fun _ => ?_) (fun _ => ?_))
  conv => whnf
  exact AEqI.mk (AEq.refl _)

def m6 (x : Int) : Int := (x.tmod 6 + 6) % 6
def fitC (c : Clk) : Clk := ⟨andI c.c0 1048575, andI c.c1 1048575, andI c.c2 1048575, andI c.c3 1048575, andI c.c4 1048575⟩
/-- The record that Fit makes. -/
def fitR (x : Rc) : Rc :=
  if 1 + m6 x.k = 6 then ⟨6, m5 x.r, 0, fitC x.c, []⟩
  else if 1 + m6 x.k = 3 then ⟨3, m5 x.r, andI x.u 1048575, clk0, []⟩
  else if 1 + m6 x.k = 4 then ⟨4, m5 x.r, andI x.u 1048575, clk0, (x.ev.take 30).map fitE⟩
  else if 1 + m6 x.k = 1 ∧ (x.ev.take 30).length ≠ 1 then ⟨2, m5 x.r, 0, clk0, (x.ev.take 30).map fitE⟩
  else ⟨1 + m6 x.k, m5 x.r, 0, clk0, (x.ev.take 30).map fitE⟩

theorem tmod6 (k : Int) : -6 < k.tmod 6 ∧ k.tmod 6 < 6 := by
  have h1 := Int.tmod_lt_of_pos k (show (0 : Int) < 6 by decide)
  have h2 := Int.lt_tmod_of_pos k (show (0 : Int) < 6 by decide)
  omega
theorem Rm.is {a b c : Int} {K : Int → Prop} (h0 : 0 ≤ a) (hb : 0 < b) (h : a % b = c) (k : K c) : Rm a b K := .pos h0 hb (by rw [h]; exact k)
theorem Rm.raw6 {a : Int} {K : Int → Prop} (h : K (a.tmod 6)) : Rm a 6 K := .raw (by decide) h

theorem AEq.nilEv {a1 a2 a3 a4 a5 a6 a7 a8 : AV} (f : Nat → List AV) : AEq (.agg [a1, a2, a3, a4, a5, a6, a7, a8, .v (.slice none 0 0)]) (.agg [a1, a2, a3, a4, a5, a6, a7, a8, .sl 12 0 true f]) := fun _ _ h => C1.nilEv h

set_option maxHeartbeats 8000000 in
set_option maxRecDepth 100000 in
theorem fit18_c (x : Rc) (hk : 1 + m6 x.k = 6 ∨ 1 + m6 x.k = 3) : ASpec Try.prog 22 [x.av] (fitR x).av [] := by
  obtain ⟨k, r, u, ⟨c0, c1, c2, c3, c4⟩, ev⟩ := x
  obtain ⟨q, hq⟩ : ∃ q, (k.tmod 6 + 6) % 6 = q := ⟨_, rfl⟩
  have hm : m6 k = q := hq
  dsimp only at hk
  rw [hm] at hk
  obtain ⟨t1, t2⟩ := tmod6 k
  obtain ⟨t3, t4⟩ := tmod5 r
  unfold fitR
  dsimp only
  rw [hm]
  rcases hk with hk | hk
  · rw [if_pos hk]
    dsimp only [Rc.av, Rc.cs]
    refine aspec_of lay_ok 1208926108126501811519551 Try.func22 rfl rfl rfl ?_
    repeat' ((conv => whnf); first | refine Spl.yes (by first | assumption | omega) ?_ | refine Spl.no (by first | assumption | omega) ?_ | refine Wr.i64 (by omega) (by omega) ?_ | refine Still.mk rfl rfl ?_ | refine InB.mk (inB_mk (by omega) (by omega)) ?_ | refine Req.mk (by omega) ?_ | refine Req.mk ⟨by first | omega | (dsimp only; omega), by first | omega | (dsimp only; omega)⟩ ?_ | refine Rm.is (by omega) (by omega) hq ?_ | refine Rm.pos (by omega) (by omega) ?_ | refine Rm.raw5 ?_ | refine Rm.raw6 ?_ | refine ALoop.unr 4 6 rfl ?_ | refine ARet.hdI ?_ | refine Spl.mk (fun _ => ?_) (fun _ => ?_) | refine Wr.b64 ?_ | refine Wr.bu64 ?_ | refine Wr.bu32 ?_ | refine Wr.bu8 ?_ | refine Wr.u8 (by omega) (by omega) ?_ | refine Wr.u64 (by omega) (by omega) ?_ | refine Wr.u32 (by omega) (by omega) ?_ | refine Dv.pos (by omega) (by omega) ?_ | refine Rm.pos (by omega) (by omega) ?_ | refine ADraw.quiet follows_ok (by kernel_rfl) rfl ?_ | refine ADraw.sched (id := 15) lay_ok (awp_snd lay_ok _) [(0, none), (1, none), (2, none), (3, none), (4, none), (5, none), (6, none), (7, some [6, 3]), (8, some [6, 3]), (9, some [6, 3, 1]), (10, none), (11, some [6, 3, 1])] [(5, [3]), (6, [3]), (7, [6, 3]), (8, [6, 3]), (9, [6, 3, 1]), (10, [6, 3, 1]), (11, [6, 3, 1])] follows_ok (by kernel_rfl) ?_ | refine BSpl.decY (by first | assumption | omega) ?_ | refine BSpl.decN (by first | assumption | omega) ?_ | refine BSpl.dec (fun _ => ?_) (fun _ => ?_) | refine BSpl.yes (by assumption) ?_ | refine BSpl.no (by assumption) ?_ | refine BSpl.mk (fun _ => ?_) (fun _ => ?_))
    conv => whnf
    rw [hk]
    exact AEqI.mk (AEq.nilEv _)
  · rw [if_neg (by omega), if_pos hk]
    dsimp only [Rc.av, Rc.cs]
    refine aspec_of lay_ok 1208926108126501811519551 Try.func22 rfl rfl rfl ?_
    repeat' ((conv => whnf); first | refine Spl.yes (by first | assumption | omega) ?_ | refine Spl.no (by first | assumption | omega) ?_ | refine Wr.i64 (by omega) (by omega) ?_ | refine Still.mk rfl rfl ?_ | refine InB.mk (inB_mk (by omega) (by omega)) ?_ | refine Req.mk (by omega) ?_ | refine Req.mk ⟨by first | omega | (dsimp only; omega), by first | omega | (dsimp only; omega)⟩ ?_ | refine Rm.is (by omega) (by omega) hq ?_ | refine Rm.pos (by omega) (by omega) ?_ | refine Rm.raw5 ?_ | refine Rm.raw6 ?_ | refine ALoop.unr 4 6 rfl ?_ | refine ARet.hdI ?_ | refine Spl.mk (fun _ => ?_) (fun _ => ?_) | refine Wr.b64 ?_ | refine Wr.bu64 ?_ | refine Wr.bu32 ?_ | refine Wr.bu8 ?_ | refine Wr.u8 (by omega) (by omega) ?_ | refine Wr.u64 (by omega) (by omega) ?_ | refine Wr.u32 (by omega) (by omega) ?_ | refine Dv.pos (by omega) (by omega) ?_ | refine Rm.pos (by omega) (by omega) ?_ | refine ADraw.quiet follows_ok (by kernel_rfl) rfl ?_ | refine ADraw.sched (id := 15) lay_ok (awp_snd lay_ok _) [(0, none), (1, none), (2, none), (3, none), (4, none), (5, none), (6, none), (7, some [6, 3]), (8, some [6, 3]), (9, some [6, 3, 1]), (10, none), (11, some [6, 3, 1])] [(5, [3]), (6, [3]), (7, [6, 3]), (8, [6, 3]), (9, [6, 3, 1]), (10, [6, 3, 1]), (11, [6, 3, 1])] follows_ok (by kernel_rfl) ?_ | refine BSpl.decY (by first | assumption | omega) ?_ | refine BSpl.decN (by first | assumption | omega) ?_ | refine BSpl.dec (fun _ => ?_) (fun _ => ?_) | refine BSpl.yes (by assumption) ?_ | refine BSpl.no (by assumption) ?_ | refine BSpl.mk (fun _ => ?_) (fun _ => ?_))
    conv => whnf
    rw [hk]
    exact AEqI.mk (AEq.nilEv _)

theorem fit_at {l : List Ev} {m j : Nat} (h : j < m) (hj : j < l.length) : ((l.take m).map fitE).getD j default = fitE (l.getD j default) := by
  have : j < ((l.take m).map fitE).length := by simp; omega
  rw [List.getD, List.getElem?_eq_getElem this, List.getD, List.getElem?_eq_getElem hj]
  simp
theorem fit_succ {l : List Ev} {j : Nat} (hj : j < l.length) : (l.take (j + 1)).map fitE = (l.take j).map fitE ++ [fitE (l.getD j default)] := by
  rw [List.take_add_one, List.getElem?_eq_getElem hj, List.getD, List.getElem?_eq_getElem hj, List.map_append]
  rfl
def rcCs (k r u c0 c1 c2 c3 c4 : Int) (e : AV) : List AV := [.v (.int .i64 k), .v (.int .i64 r), .v (.int .i64 u), .v (.int .i64 c0), .v (.int .i64 c1), .v (.int .i64 c2), .v (.int .i64 c3), .v (.int .i64 c4), e]

set_option maxHeartbeats 8000000 in
set_option maxRecDepth 100000 in
theorem fit18_e (x : Rc) (hr : ∀ e ∈ x.ev, e.key.size ≤ 140737488355328 ∧ e.v.size ≤ 140737488355328) (hk : ¬ 1 + m6 x.k = 6 ∧ ¬ 1 + m6 x.k = 3) (hl : x.ev.length ≤ 140737488355328) : ASpec Try.prog 22 [x.av] (fitR x).av [] := by
  obtain ⟨k, r, u, ⟨c0, c1, c2, c3, c4⟩, ev⟩ := x
  obtain ⟨q, hq⟩ : ∃ q, (k.tmod 6 + 6) % 6 = q := ⟨_, rfl⟩
  have hm : m6 k = q := hq
  dsimp only at hk hr hl
  rw [hm] at hk
  obtain ⟨hk6, hk3⟩ := hk
  obtain ⟨t1, t2⟩ := tmod6 k
  obtain ⟨t3, t4⟩ := tmod5 r
  have hfit : ∀ j, j < ev.length → ASpec Try.prog 17 [(ev.getD j default).av] (fitE (ev.getD j default)).av [] := fun j hj => by
    have := hr (ev.getD j default) (by rw [List.getD, List.getElem?_eq_getElem hj]; exact List.getElem_mem hj)
    exact fit06_spec _ this.1 this.2
  unfold fitR
  dsimp only
  rw [hm, if_neg hk6, if_neg hk3]
  by_cases h30 : (ev.take 30).length = 1
  · rcases (show q = 0 ∨ q = 1 ∨ q = 4 ∨ q = 3 by omega) with hq0 | hq0 | hq0 | hq0
    iterate 3
      rw [if_neg (by omega), if_neg (fun h => h.2 h30)]
      dsimp only [Rc.av, Rc.cs]
      focus
        refine aspec_of lay_ok 1208926108126501811519551 Try.func22 rfl rfl rfl ?_
        repeat' ((conv => whnf); first | refine Spl.yes (by first | assumption | omega) ?_ | refine Spl.no (by first | assumption | omega) ?_ | refine Wr.i64 (by omega) (by omega) ?_ | refine Still.mk rfl rfl ?_ | refine InB.mk (inB_mk (by omega) (by omega)) ?_ | refine Req.mk (by omega) ?_ | refine Req.mk ⟨by first | omega | (dsimp only; omega), by first | omega | (dsimp only; omega)⟩ ?_ | refine Rm.is (by omega) (by omega) hq ?_ | refine Rm.pos (by omega) (by omega) ?_ | refine Rm.raw5 ?_ | refine Rm.raw6 ?_ | refine ARet.hdI ?_ | refine Spl.mk (fun _ => ?_) (fun _ => ?_) | refine Wr.b64 ?_ | refine Wr.bu64 ?_ | refine Wr.bu32 ?_ | refine Wr.bu8 ?_ | refine Wr.u8 (by omega) (by omega) ?_ | refine Wr.u64 (by omega) (by omega) ?_ | refine Wr.u32 (by omega) (by omega) ?_ | refine Dv.pos (by omega) (by omega) ?_ | refine Rm.pos (by omega) (by omega) ?_ | refine ADraw.quiet follows_ok (by kernel_rfl) rfl ?_ | refine ADraw.sched (id := 15) lay_ok (awp_snd lay_ok _) [(0, none), (1, none), (2, none), (3, none), (4, none), (5, none), (6, none), (7, some [6, 3]), (8, some [6, 3]), (9, some [6, 3, 1]), (10, none), (11, some [6, 3, 1])] [(5, [3]), (6, [3]), (7, [6, 3]), (8, [6, 3]), (9, [6, 3, 1]), (10, [6, 3, 1]), (11, [6, 3, 1])] follows_ok (by kernel_rfl) ?_ | refine BSpl.decY (by first | assumption | omega) ?_ | refine BSpl.decN (by first | assumption | omega) ?_ | refine BSpl.dec (fun _ => ?_) (fun _ => ?_) | refine BSpl.yes (by assumption) ?_ | refine BSpl.no (by assumption) ?_ | refine BSpl.mk (fun _ => ?_) (fun _ => ?_))
        conv => whnf
        refine ALoop.mk { j : Nat // j ≤ ev.length ∧ j ≤ 30 } (fun j => match j with
            | ⟨0, _⟩ => ⟨[(1, .box 0 0), (2, .box 1 0), (3, .box 2 0), (5, .v (.int .i64 0))],
              [(0, .box 39 (rcCs k r u c0 c1 c2 c3 c4 (.sl 12 ev.length true (evF ev)))), (1, .box 39 (rcCs 0 0 0 0 0 0 0 0 (.v (.slice none 0 0)))), (2, .box 39 (rcCs (1 + q) ((r.tmod 5 + 5) % 5) 0 0 0 0 0 0 (.v (.slice none 0 0))))], [], 3⟩
            | ⟨i + 1, _⟩ => ⟨[(1, .box 0 0), (2, .box 1 0), (3, .box 2 0), (5, .v (.int .i64 ((i : Int) + 1)))],
              [(0, .box 39 (rcCs k r u c0 c1 c2 c3 c4 (.sl 12 ev.length true (evF ev)))), (1, .box 39 (rcCs 0 0 0 0 0 0 0 0 (.v (.slice none 0 0)))), (2, .box 39 (rcCs (1 + q) ((r.tmod 5 + 5) % 5) 0 0 0 0 0 0 (.own 90))), (90, .row 25 12 ((ev.take (i + 1)).map fitE).length true (evF ((ev.take (i + 1)).map fitE)))], [], 91⟩) (fun j => 30 - j.1) ⟨0, Nat.zero_le _, Nat.zero_le _⟩ _
            (LeR.mk' [] _ _ _ rfl ⟨AEq.refl _, AEq.refl _, AEq.refl _, AEq.refl _, trivial⟩ ⟨⟨_, rfl, OEq.refl _⟩, ⟨_, rfl, OEq.refl _⟩, ⟨_, rfl, OEq.refl _⟩, trivial⟩ rfl) ?_
        rintro ⟨_ | i, hj, hj30⟩
        · dsimp only [rcCs]
          repeat' ((conv => whnf); first | refine Spl.yes (by first | assumption | omega) ?_ | refine Spl.no (by first | assumption | omega) ?_ | refine Wr.i64 (by omega) (by omega) ?_ | refine Still.mk rfl rfl ?_ | refine InB.mk (inB_mk (by omega) (by omega)) ?_ | refine Req.mk (by omega) ?_ | refine Req.mk ⟨by first | omega | (dsimp only; omega), by first | omega | (dsimp only; omega)⟩ ?_ | refine ACall.plain _ _ (hfit 0 (by omega)) (SubL.cons (.eq _) .nil) rfl ?_ | refine ARet.hdI ?_ | refine Spl.mk (fun _ => ?_) (fun _ => ?_) | refine Wr.b64 ?_ | refine Wr.bu64 ?_ | refine Wr.bu32 ?_ | refine Wr.bu8 ?_ | refine Wr.u8 (by omega) (by omega) ?_ | refine Wr.u64 (by omega) (by omega) ?_ | refine Wr.u32 (by omega) (by omega) ?_ | refine Dv.pos (by omega) (by omega) ?_ | refine Rm.pos (by omega) (by omega) ?_ | refine ADraw.quiet follows_ok (by kernel_rfl) rfl ?_ | refine ADraw.sched (id := 15) lay_ok (awp_snd lay_ok _) [(0, none), (1, none), (2, none), (3, none), (4, none), (5, none), (6, none), (7, some [6, 3]), (8, some [6, 3]), (9, some [6, 3, 1]), (10, none), (11, some [6, 3, 1])] [(5, [3]), (6, [3]), (7, [6, 3]), (8, [6, 3]), (9, [6, 3, 1]), (10, [6, 3, 1]), (11, [6, 3, 1])] follows_ok (by kernel_rfl) ?_ | refine BSpl.decY (by first | assumption | omega) ?_ | refine BSpl.decN (by first | assumption | omega) ?_ | refine BSpl.dec (fun _ => ?_) (fun _ => ?_) | refine BSpl.yes (by assumption) ?_ | refine BSpl.no (by assumption) ?_ | refine BSpl.mk (fun _ => ?_) (fun _ => ?_))
          all_goals first
            | (conv => whnf
               refine ⟨⟨0 + 1, by omega, by omega⟩, _, LeR.mk' [(4, 90)] _ _ _ rfl ⟨AEq.refl _, AEq.refl _, AEq.refl _, AEq.int rfl, trivial⟩ ⟨⟨_, rfl, OEq.refl _⟩, ⟨_, rfl, OEq.refl _⟩, ⟨_, rfl, OEq.refl _⟩, ⟨_, rfl, OEq.row (by simp; omega) (fun i hi => ?_)⟩, trivial⟩ rfl, by show 30 - (0 + 1) < 30 - 0; omega⟩
               have hi : i < 1 := hi
               obtain rfl : i = 0 := by omega
               show _ = Ev.cs (((ev.take (0 + 1)).map fitE).getD 0 default)
               rw [fit_at (by omega) (by omega)]
               rfl)
            | (conv => whnf
               obtain rfl : ev = [] := List.eq_nil_of_length_eq_zero (by omega)
               exact AEqI.mk (AEq.nilEv _))
            | (exfalso
               rw [List.length_take] at h30
               omega)
        · have hLi : ((ev.take (i + 1)).map fitE).length = i + 1 := by simp; omega
          dsimp only [rcCs]
          repeat' ((conv => whnf); first | refine Spl.yes (by first | assumption | omega) ?_ | refine Spl.no (by first | assumption | omega) ?_ | refine Wr.i64 (by omega) (by omega) ?_ | refine Still.mk rfl rfl ?_ | refine InB.mk (inB_mk (by omega) (by omega)) ?_ | refine Req.mk (by omega) ?_ | refine Req.mk ⟨by first | omega | (dsimp only; omega), by first | omega | (dsimp only; omega)⟩ ?_ | refine ACall.plain _ _ (hfit ((i : Int) + 1).toNat (by omega)) (SubL.cons (.eq _) .nil) rfl ?_ | refine ARet.hdI ?_ | refine Spl.mk (fun _ => ?_) (fun _ => ?_) | refine Wr.b64 ?_ | refine Wr.bu64 ?_ | refine Wr.bu32 ?_ | refine Wr.bu8 ?_ | refine Wr.u8 (by omega) (by omega) ?_ | refine Wr.u64 (by omega) (by omega) ?_ | refine Wr.u32 (by omega) (by omega) ?_ | refine Dv.pos (by omega) (by omega) ?_ | refine Rm.pos (by omega) (by omega) ?_ | refine ADraw.quiet follows_ok (by kernel_rfl) rfl ?_ | refine ADraw.sched (id := 15) lay_ok (awp_snd lay_ok _) [(0, none), (1, none), (2, none), (3, none), (4, none), (5, none), (6, none), (7, some [6, 3]), (8, some [6, 3]), (9, some [6, 3, 1]), (10, none), (11, some [6, 3, 1])] [(5, [3]), (6, [3]), (7, [6, 3]), (8, [6, 3]), (9, [6, 3, 1]), (10, [6, 3, 1]), (11, [6, 3, 1])] follows_ok (by kernel_rfl) ?_ | refine BSpl.decY (by first | assumption | omega) ?_ | refine BSpl.decN (by first | assumption | omega) ?_ | refine BSpl.dec (fun _ => ?_) (fun _ => ?_) | refine BSpl.yes (by assumption) ?_ | refine BSpl.no (by assumption) ?_ | refine BSpl.mk (fun _ => ?_) (fun _ => ?_))
          all_goals first
            | (conv => whnf
               refine ⟨⟨i + 1 + 1, by omega, by omega⟩, _, LeR.mk' [(92, 90)] _ _ _ rfl ⟨AEq.refl _, AEq.refl _, AEq.refl _, AEq.int rfl, trivial⟩ ⟨⟨_, rfl, OEq.refl _⟩, ⟨_, rfl, OEq.refl _⟩, ⟨_, rfl, OEq.refl _⟩, ⟨_, rfl, OEq.row (by simp; omega) (fun m hm => ?_)⟩, trivial⟩ rfl, by show 30 - (i + 1 + 1) < 30 - (i + 1); omega⟩
               rw [fit_succ (show i + 1 < ev.length by omega)]
               exact els_app1 (c := Ev.cs) rfl rfl m hm)
            | (conv => whnf
               rw [show ev.take 30 = ev.take (i + 1) by rw [List.take_eq_take_iff]; omega]
               exact AEqI.mk (AEq.refl _))
            | (exfalso
               rw [List.length_take] at h30
               omega)
    rw [if_pos (by omega)]
    dsimp only [Rc.av, Rc.cs]
    focus
      refine aspec_of lay_ok 1208926108126501811519551 Try.func22 rfl rfl rfl ?_
      repeat' ((conv => whnf); first | refine Spl.yes (by first | assumption | omega) ?_ | refine Spl.no (by first | assumption | omega) ?_ | refine Wr.i64 (by omega) (by omega) ?_ | refine Still.mk rfl rfl ?_ | refine InB.mk (inB_mk (by omega) (by omega)) ?_ | refine Req.mk (by omega) ?_ | refine Req.mk ⟨by first | omega | (dsimp only; omega), by first | omega | (dsimp only; omega)⟩ ?_ | refine Rm.is (by omega) (by omega) hq ?_ | refine Rm.pos (by omega) (by omega) ?_ | refine Rm.raw5 ?_ | refine Rm.raw6 ?_ | refine ARet.hdI ?_ | refine Spl.mk (fun _ => ?_) (fun _ => ?_) | refine Wr.b64 ?_ | refine Wr.bu64 ?_ | refine Wr.bu32 ?_ | refine Wr.bu8 ?_ | refine Wr.u8 (by omega) (by omega) ?_ | refine Wr.u64 (by omega) (by omega) ?_ | refine Wr.u32 (by omega) (by omega) ?_ | refine Dv.pos (by omega) (by omega) ?_ | refine Rm.pos (by omega) (by omega) ?_ | refine ADraw.quiet follows_ok (by kernel_rfl) rfl ?_ | refine ADraw.sched (id := 15) lay_ok (awp_snd lay_ok _) [(0, none), (1, none), (2, none), (3, none), (4, none), (5, none), (6, none), (7, some [6, 3]), (8, some [6, 3]), (9, some [6, 3, 1]), (10, none), (11, some [6, 3, 1])] [(5, [3]), (6, [3]), (7, [6, 3]), (8, [6, 3]), (9, [6, 3, 1]), (10, [6, 3, 1]), (11, [6, 3, 1])] follows_ok (by kernel_rfl) ?_ | refine BSpl.decY (by first | assumption | omega) ?_ | refine BSpl.decN (by first | assumption | omega) ?_ | refine BSpl.dec (fun _ => ?_) (fun _ => ?_) | refine BSpl.yes (by assumption) ?_ | refine BSpl.no (by assumption) ?_ | refine BSpl.mk (fun _ => ?_) (fun _ => ?_))
      conv => whnf
      refine ALoop.mk { j : Nat // j ≤ ev.length ∧ j ≤ 30 } (fun j => match j with
          | ⟨0, _⟩ => ⟨[(1, .box 0 0), (2, .box 1 0), (3, .box 2 0), (5, .v (.int .i64 0))],
            [(0, .box 39 (rcCs k r u c0 c1 c2 c3 c4 (.sl 12 ev.length true (evF ev)))), (1, .box 39 (rcCs 0 0 0 0 0 0 0 0 (.v (.slice none 0 0)))), (2, .box 39 (rcCs (1 + q) ((r.tmod 5 + 5) % 5) (andI u 1048575) 0 0 0 0 0 (.v (.slice none 0 0))))], [], 3⟩
          | ⟨i + 1, _⟩ => ⟨[(1, .box 0 0), (2, .box 1 0), (3, .box 2 0), (5, .v (.int .i64 ((i : Int) + 1)))],
            [(0, .box 39 (rcCs k r u c0 c1 c2 c3 c4 (.sl 12 ev.length true (evF ev)))), (1, .box 39 (rcCs 0 0 0 0 0 0 0 0 (.v (.slice none 0 0)))), (2, .box 39 (rcCs (1 + q) ((r.tmod 5 + 5) % 5) (andI u 1048575) 0 0 0 0 0 (.own 90))), (90, .row 25 12 ((ev.take (i + 1)).map fitE).length true (evF ((ev.take (i + 1)).map fitE)))], [], 91⟩) (fun j => 30 - j.1) ⟨0, Nat.zero_le _, Nat.zero_le _⟩ _
          (LeR.mk' [] _ _ _ rfl ⟨AEq.refl _, AEq.refl _, AEq.refl _, AEq.refl _, trivial⟩ ⟨⟨_, rfl, OEq.refl _⟩, ⟨_, rfl, OEq.refl _⟩, ⟨_, rfl, OEq.refl _⟩, trivial⟩ rfl) ?_
      rintro ⟨_ | i, hj, hj30⟩
      · dsimp only [rcCs]
        repeat' ((conv => whnf); first | refine Spl.yes (by first | assumption | omega) ?_ | refine Spl.no (by first | assumption | omega) ?_ | refine Wr.i64 (by omega) (by omega) ?_ | refine Still.mk rfl rfl ?_ | refine InB.mk (inB_mk (by omega) (by omega)) ?_ | refine Req.mk (by omega) ?_ | refine Req.mk ⟨by first | omega | (dsimp only; omega), by first | omega | (dsimp only; omega)⟩ ?_ | refine ACall.plain _ _ (hfit 0 (by omega)) (SubL.cons (.eq _) .nil) rfl ?_ | refine ARet.hdI ?_ | refine Spl.mk (fun _ => ?_) (fun _ => ?_) | refine Wr.b64 ?_ | refine Wr.bu64 ?_ | refine Wr.bu32 ?_ | refine Wr.bu8 ?_ | refine Wr.u8 (by omega) (by omega) ?_ | refine Wr.u64 (by omega) (by omega) ?_ | refine Wr.u32 (by omega) (by omega) ?_ | refine Dv.pos (by omega) (by omega) ?_ | refine Rm.pos (by omega) (by omega) ?_ | refine ADraw.quiet follows_ok (by kernel_rfl) rfl ?_ | refine ADraw.sched (id := 15) lay_ok (awp_snd lay_ok _) [(0, none), (1, none), (2, none), (3, none), (4, none), (5, none), (6, none), (7, some [6, 3]), (8, some [6, 3]), (9, some [6, 3, 1]), (10, none), (11, some [6, 3, 1])] [(5, [3]), (6, [3]), (7, [6, 3]), (8, [6, 3]), (9, [6, 3, 1]), (10, [6, 3, 1]), (11, [6, 3, 1])] follows_ok (by kernel_rfl) ?_ | refine BSpl.decY (by first | assumption | omega) ?_ | refine BSpl.decN (by first | assumption | omega) ?_ | refine BSpl.dec (fun _ => ?_) (fun _ => ?_) | refine BSpl.yes (by assumption) ?_ | refine BSpl.no (by assumption) ?_ | refine BSpl.mk (fun _ => ?_) (fun _ => ?_))
        all_goals first
          | (conv => whnf
             refine ⟨⟨0 + 1, by omega, by omega⟩, _, LeR.mk' [(4, 90)] _ _ _ rfl ⟨AEq.refl _, AEq.refl _, AEq.refl _, AEq.int rfl, trivial⟩ ⟨⟨_, rfl, OEq.refl _⟩, ⟨_, rfl, OEq.refl _⟩, ⟨_, rfl, OEq.refl _⟩, ⟨_, rfl, OEq.row (by simp; omega) (fun i hi => ?_)⟩, trivial⟩ rfl, by show 30 - (0 + 1) < 30 - 0; omega⟩
             have hi : i < 1 := hi
             obtain rfl : i = 0 := by omega
             show _ = Ev.cs (((ev.take (0 + 1)).map fitE).getD 0 default)
             rw [fit_at (by omega) (by omega)]
             rfl)
          | (conv => whnf
             obtain rfl : ev = [] := List.eq_nil_of_length_eq_zero (by omega)
             first | exact AEqI.mk (AEq.nilEv _) | (rw [show 1 + q = 4 by omega]; exact AEqI.mk (AEq.nilEv _)))
          | (exfalso
             rw [List.length_take] at h30
             omega)
      · have hLi : ((ev.take (i + 1)).map fitE).length = i + 1 := by simp; omega
        dsimp only [rcCs]
        repeat' ((conv => whnf); first | refine Spl.yes (by first | assumption | omega) ?_ | refine Spl.no (by first | assumption | omega) ?_ | refine Wr.i64 (by omega) (by omega) ?_ | refine Still.mk rfl rfl ?_ | refine InB.mk (inB_mk (by omega) (by omega)) ?_ | refine Req.mk (by omega) ?_ | refine Req.mk ⟨by first | omega | (dsimp only; omega), by first | omega | (dsimp only; omega)⟩ ?_ | refine ACall.plain _ _ (hfit ((i : Int) + 1).toNat (by omega)) (SubL.cons (.eq _) .nil) rfl ?_ | refine ARet.hdI ?_ | refine Spl.mk (fun _ => ?_) (fun _ => ?_) | refine Wr.b64 ?_ | refine Wr.bu64 ?_ | refine Wr.bu32 ?_ | refine Wr.bu8 ?_ | refine Wr.u8 (by omega) (by omega) ?_ | refine Wr.u64 (by omega) (by omega) ?_ | refine Wr.u32 (by omega) (by omega) ?_ | refine Dv.pos (by omega) (by omega) ?_ | refine Rm.pos (by omega) (by omega) ?_ | refine ADraw.quiet follows_ok (by kernel_rfl) rfl ?_ | refine ADraw.sched (id := 15) lay_ok (awp_snd lay_ok _) [(0, none), (1, none), (2, none), (3, none), (4, none), (5, none), (6, none), (7, some [6, 3]), (8, some [6, 3]), (9, some [6, 3, 1]), (10, none), (11, some [6, 3, 1])] [(5, [3]), (6, [3]), (7, [6, 3]), (8, [6, 3]), (9, [6, 3, 1]), (10, [6, 3, 1]), (11, [6, 3, 1])] follows_ok (by kernel_rfl) ?_ | refine BSpl.decY (by first | assumption | omega) ?_ | refine BSpl.decN (by first | assumption | omega) ?_ | refine BSpl.dec (fun _ => ?_) (fun _ => ?_) | refine BSpl.yes (by assumption) ?_ | refine BSpl.no (by assumption) ?_ | refine BSpl.mk (fun _ => ?_) (fun _ => ?_))
        all_goals first
          | (conv => whnf
             refine ⟨⟨i + 1 + 1, by omega, by omega⟩, _, LeR.mk' [(92, 90)] _ _ _ rfl ⟨AEq.refl _, AEq.refl _, AEq.refl _, AEq.int rfl, trivial⟩ ⟨⟨_, rfl, OEq.refl _⟩, ⟨_, rfl, OEq.refl _⟩, ⟨_, rfl, OEq.refl _⟩, ⟨_, rfl, OEq.row (by simp; omega) (fun m hm => ?_)⟩, trivial⟩ rfl, by show 30 - (i + 1 + 1) < 30 - (i + 1); omega⟩
             rw [fit_succ (show i + 1 < ev.length by omega)]
             exact els_app1 (c := Ev.cs) rfl rfl m hm)
          | (conv => whnf
             rw [show ev.take 30 = ev.take (i + 1) by rw [List.take_eq_take_iff]; omega]
             first | exact AEqI.mk (AEq.refl _) | (rw [show 1 + q = 4 by omega]; exact AEqI.mk (AEq.refl _)))
          | (exfalso
             rw [List.length_take] at h30
             omega)
  · rcases (show q = 0 ∨ q = 1 ∨ q = 4 ∨ q = 3 by omega) with hq0 | hq0 | hq0 | hq0
    · rw [if_neg (by omega), if_pos ⟨by omega, h30⟩]
      dsimp only [Rc.av, Rc.cs]
      focus
        refine aspec_of lay_ok 1208926108126501811519551 Try.func22 rfl rfl rfl ?_
        repeat' ((conv => whnf); first | refine Spl.yes (by first | assumption | omega) ?_ | refine Spl.no (by first | assumption | omega) ?_ | refine Wr.i64 (by omega) (by omega) ?_ | refine Still.mk rfl rfl ?_ | refine InB.mk (inB_mk (by omega) (by omega)) ?_ | refine Req.mk (by omega) ?_ | refine Req.mk ⟨by first | omega | (dsimp only; omega), by first | omega | (dsimp only; omega)⟩ ?_ | refine Rm.is (by omega) (by omega) hq ?_ | refine Rm.pos (by omega) (by omega) ?_ | refine Rm.raw5 ?_ | refine Rm.raw6 ?_ | refine ARet.hdI ?_ | refine Spl.mk (fun _ => ?_) (fun _ => ?_) | refine Wr.b64 ?_ | refine Wr.bu64 ?_ | refine Wr.bu32 ?_ | refine Wr.bu8 ?_ | refine Wr.u8 (by omega) (by omega) ?_ | refine Wr.u64 (by omega) (by omega) ?_ | refine Wr.u32 (by omega) (by omega) ?_ | refine Dv.pos (by omega) (by omega) ?_ | refine Rm.pos (by omega) (by omega) ?_ | refine ADraw.quiet follows_ok (by kernel_rfl) rfl ?_ | refine ADraw.sched (id := 15) lay_ok (awp_snd lay_ok _) [(0, none), (1, none), (2, none), (3, none), (4, none), (5, none), (6, none), (7, some [6, 3]), (8, some [6, 3]), (9, some [6, 3, 1]), (10, none), (11, some [6, 3, 1])] [(5, [3]), (6, [3]), (7, [6, 3]), (8, [6, 3]), (9, [6, 3, 1]), (10, [6, 3, 1]), (11, [6, 3, 1])] follows_ok (by kernel_rfl) ?_ | refine BSpl.decY (by first | assumption | omega) ?_ | refine BSpl.decN (by first | assumption | omega) ?_ | refine BSpl.dec (fun _ => ?_) (fun _ => ?_) | refine BSpl.yes (by assumption) ?_ | refine BSpl.no (by assumption) ?_ | refine BSpl.mk (fun _ => ?_) (fun _ => ?_))
        conv => whnf
        refine ALoop.mk { j : Nat // j ≤ ev.length ∧ j ≤ 30 } (fun j => match j with
            | ⟨0, _⟩ => ⟨[(1, .box 0 0), (2, .box 1 0), (3, .box 2 0), (5, .v (.int .i64 0))],
              [(0, .box 39 (rcCs k r u c0 c1 c2 c3 c4 (.sl 12 ev.length true (evF ev)))), (1, .box 39 (rcCs 0 0 0 0 0 0 0 0 (.v (.slice none 0 0)))), (2, .box 39 (rcCs (1 + q) ((r.tmod 5 + 5) % 5) 0 0 0 0 0 0 (.v (.slice none 0 0))))], [], 3⟩
            | ⟨i + 1, _⟩ => ⟨[(1, .box 0 0), (2, .box 1 0), (3, .box 2 0), (5, .v (.int .i64 ((i : Int) + 1)))],
              [(0, .box 39 (rcCs k r u c0 c1 c2 c3 c4 (.sl 12 ev.length true (evF ev)))), (1, .box 39 (rcCs 0 0 0 0 0 0 0 0 (.v (.slice none 0 0)))), (2, .box 39 (rcCs (1 + q) ((r.tmod 5 + 5) % 5) 0 0 0 0 0 0 (.own 90))), (90, .row 25 12 ((ev.take (i + 1)).map fitE).length true (evF ((ev.take (i + 1)).map fitE)))], [], 91⟩) (fun j => 30 - j.1) ⟨0, Nat.zero_le _, Nat.zero_le _⟩ _
            (LeR.mk' [] _ _ _ rfl ⟨AEq.refl _, AEq.refl _, AEq.refl _, AEq.refl _, trivial⟩ ⟨⟨_, rfl, OEq.refl _⟩, ⟨_, rfl, OEq.refl _⟩, ⟨_, rfl, OEq.refl _⟩, trivial⟩ rfl) ?_
        rintro ⟨_ | i, hj, hj30⟩
        · dsimp only [rcCs]
          repeat' ((conv => whnf); first | refine Spl.yes (by first | assumption | omega) ?_ | refine Spl.no (by first | assumption | omega) ?_ | refine Wr.i64 (by omega) (by omega) ?_ | refine Still.mk rfl rfl ?_ | refine InB.mk (inB_mk (by omega) (by omega)) ?_ | refine Req.mk (by omega) ?_ | refine Req.mk ⟨by first | omega | (dsimp only; omega), by first | omega | (dsimp only; omega)⟩ ?_ | refine ACall.plain _ _ (hfit 0 (by omega)) (SubL.cons (.eq _) .nil) rfl ?_ | refine ARet.hdI ?_ | refine Spl.mk (fun _ => ?_) (fun _ => ?_) | refine Wr.b64 ?_ | refine Wr.bu64 ?_ | refine Wr.bu32 ?_ | refine Wr.bu8 ?_ | refine Wr.u8 (by omega) (by omega) ?_ | refine Wr.u64 (by omega) (by omega) ?_ | refine Wr.u32 (by omega) (by omega) ?_ | refine Dv.pos (by omega) (by omega) ?_ | refine Rm.pos (by omega) (by omega) ?_ | refine ADraw.quiet follows_ok (by kernel_rfl) rfl ?_ | refine ADraw.sched (id := 15) lay_ok (awp_snd lay_ok _) [(0, none), (1, none), (2, none), (3, none), (4, none), (5, none), (6, none), (7, some [6, 3]), (8, some [6, 3]), (9, some [6, 3, 1]), (10, none), (11, some [6, 3, 1])] [(5, [3]), (6, [3]), (7, [6, 3]), (8, [6, 3]), (9, [6, 3, 1]), (10, [6, 3, 1]), (11, [6, 3, 1])] follows_ok (by kernel_rfl) ?_ | refine BSpl.decY (by first | assumption | omega) ?_ | refine BSpl.decN (by first | assumption | omega) ?_ | refine BSpl.dec (fun _ => ?_) (fun _ => ?_) | refine BSpl.yes (by assumption) ?_ | refine BSpl.no (by assumption) ?_ | refine BSpl.mk (fun _ => ?_) (fun _ => ?_))
          all_goals first
            | (conv => whnf
               refine ⟨⟨0 + 1, by omega, by omega⟩, _, LeR.mk' [(4, 90)] _ _ _ rfl ⟨AEq.refl _, AEq.refl _, AEq.refl _, AEq.int rfl, trivial⟩ ⟨⟨_, rfl, OEq.refl _⟩, ⟨_, rfl, OEq.refl _⟩, ⟨_, rfl, OEq.refl _⟩, ⟨_, rfl, OEq.row (by simp; omega) (fun i hi => ?_)⟩, trivial⟩ rfl, by show 30 - (0 + 1) < 30 - 0; omega⟩
               have hi : i < 1 := hi
               obtain rfl : i = 0 := by omega
               show _ = Ev.cs (((ev.take (0 + 1)).map fitE).getD 0 default)
               rw [fit_at (by omega) (by omega)]
               rfl)
            | (conv => whnf
               obtain rfl : ev = [] := List.eq_nil_of_length_eq_zero (by omega)
               exact AEqI.mk (AEq.nilEv _))
            | (exfalso
               rw [List.length_take] at h30
               omega)
        · have hLi : ((ev.take (i + 1)).map fitE).length = i + 1 := by simp; omega
          dsimp only [rcCs]
          repeat' ((conv => whnf); first | refine Spl.yes (by first | assumption | omega) ?_ | refine Spl.no (by first | assumption | omega) ?_ | refine Wr.i64 (by omega) (by omega) ?_ | refine Still.mk rfl rfl ?_ | refine InB.mk (inB_mk (by omega) (by omega)) ?_ | refine Req.mk (by omega) ?_ | refine Req.mk ⟨by first | omega | (dsimp only; omega), by first | omega | (dsimp only; omega)⟩ ?_ | refine ACall.plain _ _ (hfit ((i : Int) + 1).toNat (by omega)) (SubL.cons (.eq _) .nil) rfl ?_ | refine ARet.hdI ?_ | refine Spl.mk (fun _ => ?_) (fun _ => ?_) | refine Wr.b64 ?_ | refine Wr.bu64 ?_ | refine Wr.bu32 ?_ | refine Wr.bu8 ?_ | refine Wr.u8 (by omega) (by omega) ?_ | refine Wr.u64 (by omega) (by omega) ?_ | refine Wr.u32 (by omega) (by omega) ?_ | refine Dv.pos (by omega) (by omega) ?_ | refine Rm.pos (by omega) (by omega) ?_ | refine ADraw.quiet follows_ok (by kernel_rfl) rfl ?_ | refine ADraw.sched (id := 15) lay_ok (awp_snd lay_ok _) [(0, none), (1, none), (2, none), (3, none), (4, none), (5, none), (6, none), (7, some [6, 3]), (8, some [6, 3]), (9, some [6, 3, 1]), (10, none), (11, some [6, 3, 1])] [(5, [3]), (6, [3]), (7, [6, 3]), (8, [6, 3]), (9, [6, 3, 1]), (10, [6, 3, 1]), (11, [6, 3, 1])] follows_ok (by kernel_rfl) ?_ | refine BSpl.decY (by first | assumption | omega) ?_ | refine BSpl.decN (by first | assumption | omega) ?_ | refine BSpl.dec (fun _ => ?_) (fun _ => ?_) | refine BSpl.yes (by assumption) ?_ | refine BSpl.no (by assumption) ?_ | refine BSpl.mk (fun _ => ?_) (fun _ => ?_))
          all_goals first
            | (conv => whnf
               refine ⟨⟨i + 1 + 1, by omega, by omega⟩, _, LeR.mk' [(92, 90)] _ _ _ rfl ⟨AEq.refl _, AEq.refl _, AEq.refl _, AEq.int rfl, trivial⟩ ⟨⟨_, rfl, OEq.refl _⟩, ⟨_, rfl, OEq.refl _⟩, ⟨_, rfl, OEq.refl _⟩, ⟨_, rfl, OEq.row (by simp; omega) (fun m hm => ?_)⟩, trivial⟩ rfl, by show 30 - (i + 1 + 1) < 30 - (i + 1); omega⟩
               rw [fit_succ (show i + 1 < ev.length by omega)]
               exact els_app1 (c := Ev.cs) rfl rfl m hm)
            | (conv => whnf
               rw [show ev.take 30 = ev.take (i + 1) by rw [List.take_eq_take_iff]; omega]
               exact AEqI.mk (AEq.refl _))
            | (exfalso
               rw [List.length_take] at h30
               omega)
    iterate 2
      rw [if_neg (by omega), if_neg (fun h => absurd h.1 (by omega))]
      dsimp only [Rc.av, Rc.cs]
      focus
        refine aspec_of lay_ok 1208926108126501811519551 Try.func22 rfl rfl rfl ?_
        repeat' ((conv => whnf); first | refine Spl.yes (by first | assumption | omega) ?_ | refine Spl.no (by first | assumption | omega) ?_ | refine Wr.i64 (by omega) (by omega) ?_ | refine Still.mk rfl rfl ?_ | refine InB.mk (inB_mk (by omega) (by omega)) ?_ | refine Req.mk (by omega) ?_ | refine Req.mk ⟨by first | omega | (dsimp only; omega), by first | omega | (dsimp only; omega)⟩ ?_ | refine Rm.is (by omega) (by omega) hq ?_ | refine Rm.pos (by omega) (by omega) ?_ | refine Rm.raw5 ?_ | refine Rm.raw6 ?_ | refine ARet.hdI ?_ | refine Spl.mk (fun _ => ?_) (fun _ => ?_) | refine Wr.b64 ?_ | refine Wr.bu64 ?_ | refine Wr.bu32 ?_ | refine Wr.bu8 ?_ | refine Wr.u8 (by omega) (by omega) ?_ | refine Wr.u64 (by omega) (by omega) ?_ | refine Wr.u32 (by omega) (by omega) ?_ | refine Dv.pos (by omega) (by omega) ?_ | refine Rm.pos (by omega) (by omega) ?_ | refine ADraw.quiet follows_ok (by kernel_rfl) rfl ?_ | refine ADraw.sched (id := 15) lay_ok (awp_snd lay_ok _) [(0, none), (1, none), (2, none), (3, none), (4, none), (5, none), (6, none), (7, some [6, 3]), (8, some [6, 3]), (9, some [6, 3, 1]), (10, none), (11, some [6, 3, 1])] [(5, [3]), (6, [3]), (7, [6, 3]), (8, [6, 3]), (9, [6, 3, 1]), (10, [6, 3, 1]), (11, [6, 3, 1])] follows_ok (by kernel_rfl) ?_ | refine BSpl.decY (by first | assumption | omega) ?_ | refine BSpl.decN (by first | assumption | omega) ?_ | refine BSpl.dec (fun _ => ?_) (fun _ => ?_) | refine BSpl.yes (by assumption) ?_ | refine BSpl.no (by assumption) ?_ | refine BSpl.mk (fun _ => ?_) (fun _ => ?_))
        conv => whnf
        refine ALoop.mk { j : Nat // j ≤ ev.length ∧ j ≤ 30 } (fun j => match j with
            | ⟨0, _⟩ => ⟨[(1, .box 0 0), (2, .box 1 0), (3, .box 2 0), (5, .v (.int .i64 0))],
              [(0, .box 39 (rcCs k r u c0 c1 c2 c3 c4 (.sl 12 ev.length true (evF ev)))), (1, .box 39 (rcCs 0 0 0 0 0 0 0 0 (.v (.slice none 0 0)))), (2, .box 39 (rcCs (1 + q) ((r.tmod 5 + 5) % 5) 0 0 0 0 0 0 (.v (.slice none 0 0))))], [], 3⟩
            | ⟨i + 1, _⟩ => ⟨[(1, .box 0 0), (2, .box 1 0), (3, .box 2 0), (5, .v (.int .i64 ((i : Int) + 1)))],
              [(0, .box 39 (rcCs k r u c0 c1 c2 c3 c4 (.sl 12 ev.length true (evF ev)))), (1, .box 39 (rcCs 0 0 0 0 0 0 0 0 (.v (.slice none 0 0)))), (2, .box 39 (rcCs (1 + q) ((r.tmod 5 + 5) % 5) 0 0 0 0 0 0 (.own 90))), (90, .row 25 12 ((ev.take (i + 1)).map fitE).length true (evF ((ev.take (i + 1)).map fitE)))], [], 91⟩) (fun j => 30 - j.1) ⟨0, Nat.zero_le _, Nat.zero_le _⟩ _
            (LeR.mk' [] _ _ _ rfl ⟨AEq.refl _, AEq.refl _, AEq.refl _, AEq.refl _, trivial⟩ ⟨⟨_, rfl, OEq.refl _⟩, ⟨_, rfl, OEq.refl _⟩, ⟨_, rfl, OEq.refl _⟩, trivial⟩ rfl) ?_
        rintro ⟨_ | i, hj, hj30⟩
        · dsimp only [rcCs]
          repeat' ((conv => whnf); first | refine Spl.yes (by first | assumption | omega) ?_ | refine Spl.no (by first | assumption | omega) ?_ | refine Wr.i64 (by omega) (by omega) ?_ | refine Still.mk rfl rfl ?_ | refine InB.mk (inB_mk (by omega) (by omega)) ?_ | refine Req.mk (by omega) ?_ | refine Req.mk ⟨by first | omega | (dsimp only; omega), by first | omega | (dsimp only; omega)⟩ ?_ | refine ACall.plain _ _ (hfit 0 (by omega)) (SubL.cons (.eq _) .nil) rfl ?_ | refine ARet.hdI ?_ | refine Spl.mk (fun _ => ?_) (fun _ => ?_) | refine Wr.b64 ?_ | refine Wr.bu64 ?_ | refine Wr.bu32 ?_ | refine Wr.bu8 ?_ | refine Wr.u8 (by omega) (by omega) ?_ | refine Wr.u64 (by omega) (by omega) ?_ | refine Wr.u32 (by omega) (by omega) ?_ | refine Dv.pos (by omega) (by omega) ?_ | refine Rm.pos (by omega) (by omega) ?_ | refine ADraw.quiet follows_ok (by kernel_rfl) rfl ?_ | refine ADraw.sched (id := 15) lay_ok (awp_snd lay_ok _) [(0, none), (1, none), (2, none), (3, none), (4, none), (5, none), (6, none), (7, some [6, 3]), (8, some [6, 3]), (9, some [6, 3, 1]), (10, none), (11, some [6, 3, 1])] [(5, [3]), (6, [3]), (7, [6, 3]), (8, [6, 3]), (9, [6, 3, 1]), (10, [6, 3, 1]), (11, [6, 3, 1])] follows_ok (by kernel_rfl) ?_ | refine BSpl.decY (by first | assumption | omega) ?_ | refine BSpl.decN (by first | assumption | omega) ?_ | refine BSpl.dec (fun _ => ?_) (fun _ => ?_) | refine BSpl.yes (by assumption) ?_ | refine BSpl.no (by assumption) ?_ | refine BSpl.mk (fun _ => ?_) (fun _ => ?_))
          all_goals first
            | (conv => whnf
               refine ⟨⟨0 + 1, by omega, by omega⟩, _, LeR.mk' [(4, 90)] _ _ _ rfl ⟨AEq.refl _, AEq.refl _, AEq.refl _, AEq.int rfl, trivial⟩ ⟨⟨_, rfl, OEq.refl _⟩, ⟨_, rfl, OEq.refl _⟩, ⟨_, rfl, OEq.refl _⟩, ⟨_, rfl, OEq.row (by simp; omega) (fun i hi => ?_)⟩, trivial⟩ rfl, by show 30 - (0 + 1) < 30 - 0; omega⟩
               have hi : i < 1 := hi
               obtain rfl : i = 0 := by omega
               show _ = Ev.cs (((ev.take (0 + 1)).map fitE).getD 0 default)
               rw [fit_at (by omega) (by omega)]
               rfl)
            | (conv => whnf
               obtain rfl : ev = [] := List.eq_nil_of_length_eq_zero (by omega)
               exact AEqI.mk (AEq.nilEv _))
            | (exfalso
               rw [List.length_take] at h30
               omega)
        · have hLi : ((ev.take (i + 1)).map fitE).length = i + 1 := by simp; omega
          dsimp only [rcCs]
          repeat' ((conv => whnf); first | refine Spl.yes (by first | assumption | omega) ?_ | refine Spl.no (by first | assumption | omega) ?_ | refine Wr.i64 (by omega) (by omega) ?_ | refine Still.mk rfl rfl ?_ | refine InB.mk (inB_mk (by omega) (by omega)) ?_ | refine Req.mk (by omega) ?_ | refine Req.mk ⟨by first | omega | (dsimp only; omega), by first | omega | (dsimp only; omega)⟩ ?_ | refine ACall.plain _ _ (hfit ((i : Int) + 1).toNat (by omega)) (SubL.cons (.eq _) .nil) rfl ?_ | refine ARet.hdI ?_ | refine Spl.mk (fun _ => ?_) (fun _ => ?_) | refine Wr.b64 ?_ | refine Wr.bu64 ?_ | refine Wr.bu32 ?_ | refine Wr.bu8 ?_ | refine Wr.u8 (by omega) (by omega) ?_ | refine Wr.u64 (by omega) (by omega) ?_ | refine Wr.u32 (by omega) (by omega) ?_ | refine Dv.pos (by omega) (by omega) ?_ | refine Rm.pos (by omega) (by omega) ?_ | refine ADraw.quiet follows_ok (by kernel_rfl) rfl ?_ | refine ADraw.sched (id := 15) lay_ok (awp_snd lay_ok _) [(0, none), (1, none), (2, none), (3, none), (4, none), (5, none), (6, none), (7, some [6, 3]), (8, some [6, 3]), (9, some [6, 3, 1]), (10, none), (11, some [6, 3, 1])] [(5, [3]), (6, [3]), (7, [6, 3]), (8, [6, 3]), (9, [6, 3, 1]), (10, [6, 3, 1]), (11, [6, 3, 1])] follows_ok (by kernel_rfl) ?_ | refine BSpl.decY (by first | assumption | omega) ?_ | refine BSpl.decN (by first | assumption | omega) ?_ | refine BSpl.dec (fun _ => ?_) (fun _ => ?_) | refine BSpl.yes (by assumption) ?_ | refine BSpl.no (by assumption) ?_ | refine BSpl.mk (fun _ => ?_) (fun _ => ?_))
          all_goals first
            | (conv => whnf
               refine ⟨⟨i + 1 + 1, by omega, by omega⟩, _, LeR.mk' [(92, 90)] _ _ _ rfl ⟨AEq.refl _, AEq.refl _, AEq.refl _, AEq.int rfl, trivial⟩ ⟨⟨_, rfl, OEq.refl _⟩, ⟨_, rfl, OEq.refl _⟩, ⟨_, rfl, OEq.refl _⟩, ⟨_, rfl, OEq.row (by simp; omega) (fun m hm => ?_)⟩, trivial⟩ rfl, by show 30 - (i + 1 + 1) < 30 - (i + 1); omega⟩
               rw [fit_succ (show i + 1 < ev.length by omega)]
               exact els_app1 (c := Ev.cs) rfl rfl m hm)
            | (conv => whnf
               rw [show ev.take 30 = ev.take (i + 1) by rw [List.take_eq_take_iff]; omega]
               exact AEqI.mk (AEq.refl _))
            | (exfalso
               rw [List.length_take] at h30
               omega)
    rw [if_pos (by omega)]
    dsimp only [Rc.av, Rc.cs]
    focus
      refine aspec_of lay_ok 1208926108126501811519551 Try.func22 rfl rfl rfl ?_
      repeat' ((conv => whnf); first | refine Spl.yes (by first | assumption | omega) ?_ | refine Spl.no (by first | assumption | omega) ?_ | refine Wr.i64 (by omega) (by omega) ?_ | refine Still.mk rfl rfl ?_ | refine InB.mk (inB_mk (by omega) (by omega)) ?_ | refine Req.mk (by omega) ?_ | refine Req.mk ⟨by first | omega | (dsimp only; omega), by first | omega | (dsimp only; omega)⟩ ?_ | refine Rm.is (by omega) (by omega) hq ?_ | refine Rm.pos (by omega) (by omega) ?_ | refine Rm.raw5 ?_ | refine Rm.raw6 ?_ | refine ARet.hdI ?_ | refine Spl.mk (fun _ => ?_) (fun _ => ?_) | refine Wr.b64 ?_ | refine Wr.bu64 ?_ | refine Wr.bu32 ?_ | refine Wr.bu8 ?_ | refine Wr.u8 (by omega) (by omega) ?_ | refine Wr.u64 (by omega) (by omega) ?_ | refine Wr.u32 (by omega) (by omega) ?_ | refine Dv.pos (by omega) (by omega) ?_ | refine Rm.pos (by omega) (by omega) ?_ | refine ADraw.quiet follows_ok (by kernel_rfl) rfl ?_ | refine ADraw.sched (id := 15) lay_ok (awp_snd lay_ok _) [(0, none), (1, none), (2, none), (3, none), (4, none), (5, none), (6, none), (7, some [6, 3]), (8, some [6, 3]), (9, some [6, 3, 1]), (10, none), (11, some [6, 3, 1])] [(5, [3]), (6, [3]), (7, [6, 3]), (8, [6, 3]), (9, [6, 3, 1]), (10, [6, 3, 1]), (11, [6, 3, 1])] follows_ok (by kernel_rfl) ?_ | refine BSpl.decY (by first | assumption | omega) ?_ | refine BSpl.decN (by first | assumption | omega) ?_ | refine BSpl.dec (fun _ => ?_) (fun _ => ?_) | refine BSpl.yes (by assumption) ?_ | refine BSpl.no (by assumption) ?_ | refine BSpl.mk (fun _ => ?_) (fun _ => ?_))
      conv => whnf
      refine ALoop.mk { j : Nat // j ≤ ev.length ∧ j ≤ 30 } (fun j => match j with
          | ⟨0, _⟩ => ⟨[(1, .box 0 0), (2, .box 1 0), (3, .box 2 0), (5, .v (.int .i64 0))],
            [(0, .box 39 (rcCs k r u c0 c1 c2 c3 c4 (.sl 12 ev.length true (evF ev)))), (1, .box 39 (rcCs 0 0 0 0 0 0 0 0 (.v (.slice none 0 0)))), (2, .box 39 (rcCs (1 + q) ((r.tmod 5 + 5) % 5) (andI u 1048575) 0 0 0 0 0 (.v (.slice none 0 0))))], [], 3⟩
          | ⟨i + 1, _⟩ => ⟨[(1, .box 0 0), (2, .box 1 0), (3, .box 2 0), (5, .v (.int .i64 ((i : Int) + 1)))],
            [(0, .box 39 (rcCs k r u c0 c1 c2 c3 c4 (.sl 12 ev.length true (evF ev)))), (1, .box 39 (rcCs 0 0 0 0 0 0 0 0 (.v (.slice none 0 0)))), (2, .box 39 (rcCs (1 + q) ((r.tmod 5 + 5) % 5) (andI u 1048575) 0 0 0 0 0 (.own 90))), (90, .row 25 12 ((ev.take (i + 1)).map fitE).length true (evF ((ev.take (i + 1)).map fitE)))], [], 91⟩) (fun j => 30 - j.1) ⟨0, Nat.zero_le _, Nat.zero_le _⟩ _
          (LeR.mk' [] _ _ _ rfl ⟨AEq.refl _, AEq.refl _, AEq.refl _, AEq.refl _, trivial⟩ ⟨⟨_, rfl, OEq.refl _⟩, ⟨_, rfl, OEq.refl _⟩, ⟨_, rfl, OEq.refl _⟩, trivial⟩ rfl) ?_
      rintro ⟨_ | i, hj, hj30⟩
      · dsimp only [rcCs]
        repeat' ((conv => whnf); first | refine Spl.yes (by first | assumption | omega) ?_ | refine Spl.no (by first | assumption | omega) ?_ | refine Wr.i64 (by omega) (by omega) ?_ | refine Still.mk rfl rfl ?_ | refine InB.mk (inB_mk (by omega) (by omega)) ?_ | refine Req.mk (by omega) ?_ | refine Req.mk ⟨by first | omega | (dsimp only; omega), by first | omega | (dsimp only; omega)⟩ ?_ | refine ACall.plain _ _ (hfit 0 (by omega)) (SubL.cons (.eq _) .nil) rfl ?_ | refine ARet.hdI ?_ | refine Spl.mk (fun _ => ?_) (fun _ => ?_) | refine Wr.b64 ?_ | refine Wr.bu64 ?_ | refine Wr.bu32 ?_ | refine Wr.bu8 ?_ | refine Wr.u8 (by omega) (by omega) ?_ | refine Wr.u64 (by omega) (by omega) ?_ | refine Wr.u32 (by omega) (by omega) ?_ | refine Dv.pos (by omega) (by omega) ?_ | refine Rm.pos (by omega) (by omega) ?_ | refine ADraw.quiet follows_ok (by kernel_rfl) rfl ?_ | refine ADraw.sched (id := 15) lay_ok (awp_snd lay_ok _) [(0, none), (1, none), (2, none), (3, none), (4, none), (5, none), (6, none), (7, some [6, 3]), (8, some [6, 3]), (9, some [6, 3, 1]), (10, none), (11, some [6, 3, 1])] [(5, [3]), (6, [3]), (7, [6, 3]), (8, [6, 3]), (9, [6, 3, 1]), (10, [6, 3, 1]), (11, [6, 3, 1])] follows_ok (by kernel_rfl) ?_ | refine BSpl.decY (by first | assumption | omega) ?_ | refine BSpl.decN (by first | assumption | omega) ?_ | refine BSpl.dec (fun _ => ?_) (fun _ => ?_) | refine BSpl.yes (by assumption) ?_ | refine BSpl.no (by assumption) ?_ | refine BSpl.mk (fun _ => ?_) (fun _ => ?_))
        all_goals first
          | (conv => whnf
             refine ⟨⟨0 + 1, by omega, by omega⟩, _, LeR.mk' [(4, 90)] _ _ _ rfl ⟨AEq.refl _, AEq.refl _, AEq.refl _, AEq.int rfl, trivial⟩ ⟨⟨_, rfl, OEq.refl _⟩, ⟨_, rfl, OEq.refl _⟩, ⟨_, rfl, OEq.refl _⟩, ⟨_, rfl, OEq.row (by simp; omega) (fun i hi => ?_)⟩, trivial⟩ rfl, by show 30 - (0 + 1) < 30 - 0; omega⟩
             have hi : i < 1 := hi
             obtain rfl : i = 0 := by omega
             show _ = Ev.cs (((ev.take (0 + 1)).map fitE).getD 0 default)
             rw [fit_at (by omega) (by omega)]
             rfl)
          | (conv => whnf
             obtain rfl : ev = [] := List.eq_nil_of_length_eq_zero (by omega)
             first | exact AEqI.mk (AEq.nilEv _) | (rw [show 1 + q = 4 by omega]; exact AEqI.mk (AEq.nilEv _)))
          | (exfalso
             rw [List.length_take] at h30
             omega)
      · have hLi : ((ev.take (i + 1)).map fitE).length = i + 1 := by simp; omega
        dsimp only [rcCs]
        repeat' ((conv => whnf); first | refine Spl.yes (by first | assumption | omega) ?_ | refine Spl.no (by first | assumption | omega) ?_ | refine Wr.i64 (by omega) (by omega) ?_ | refine Still.mk rfl rfl ?_ | refine InB.mk (inB_mk (by omega) (by omega)) ?_ | refine Req.mk (by omega) ?_ | refine Req.mk ⟨by first | omega | (dsimp only; omega), by first | omega | (dsimp only; omega)⟩ ?_ | refine ACall.plain _ _ (hfit ((i : Int) + 1).toNat (by omega)) (SubL.cons (.eq _) .nil) rfl ?_ | refine ARet.hdI ?_ | refine Spl.mk (fun _ => ?_) (fun _ => ?_) | refine Wr.b64 ?_ | refine Wr.bu64 ?_ | refine Wr.bu32 ?_ | refine Wr.bu8 ?_ | refine Wr.u8 (by omega) (by omega) ?_ | refine Wr.u64 (by omega) (by omega) ?_ | refine Wr.u32 (by omega) (by omega) ?_ | refine Dv.pos (by omega) (by omega) ?_ | refine Rm.pos (by omega) (by omega) ?_ | refine ADraw.quiet follows_ok (by kernel_rfl) rfl ?_ | refine ADraw.sched (id := 15) lay_ok (awp_snd lay_ok _) [(0, none), (1, none), (2, none), (3, none), (4, none), (5, none), (6, none), (7, some [6, 3]), (8, some [6, 3]), (9, some [6, 3, 1]), (10, none), (11, some [6, 3, 1])] [(5, [3]), (6, [3]), (7, [6, 3]), (8, [6, 3]), (9, [6, 3, 1]), (10, [6, 3, 1]), (11, [6, 3, 1])] follows_ok (by kernel_rfl) ?_ | refine BSpl.decY (by first | assumption | omega) ?_ | refine BSpl.decN (by first | assumption | omega) ?_ | refine BSpl.dec (fun _ => ?_) (fun _ => ?_) | refine BSpl.yes (by assumption) ?_ | refine BSpl.no (by assumption) ?_ | refine BSpl.mk (fun _ => ?_) (fun _ => ?_))
        all_goals first
          | (conv => whnf
             refine ⟨⟨i + 1 + 1, by omega, by omega⟩, _, LeR.mk' [(92, 90)] _ _ _ rfl ⟨AEq.refl _, AEq.refl _, AEq.refl _, AEq.int rfl, trivial⟩ ⟨⟨_, rfl, OEq.refl _⟩, ⟨_, rfl, OEq.refl _⟩, ⟨_, rfl, OEq.refl _⟩, ⟨_, rfl, OEq.row (by simp; omega) (fun m hm => ?_)⟩, trivial⟩ rfl, by show 30 - (i + 1 + 1) < 30 - (i + 1); omega⟩
             rw [fit_succ (show i + 1 < ev.length by omega)]
             exact els_app1 (c := Ev.cs) rfl rfl m hm)
          | (conv => whnf
             rw [show ev.take 30 = ev.take (i + 1) by rw [List.take_eq_take_iff]; omega]
             first | exact AEqI.mk (AEq.refl _) | (rw [show 1 + q = 4 by omega]; exact AEqI.mk (AEq.refl _)))
          | (exfalso
             rw [List.length_take] at h30
             omega)

theorem fit18_spec (x : Rc) (hr : ∀ e ∈ x.ev, e.key.size ≤ 140737488355328 ∧ e.v.size ≤ 140737488355328) (hl : x.ev.length ≤ 140737488355328) : ASpec Try.prog 22 [x.av] (fitR x).av [] := by
  by_cases h6 : 1 + m6 x.k = 6
  · exact fit18_c x (.inl h6)
  · by_cases h3 : 1 + m6 x.k = 3
    · exact fit18_c x (.inr h3)
    · exact fit18_e x hr ⟨h6, h3⟩ hl

theorem fitE_all (l : List Ev) : ((l.take 30).map fitE).all (fun e => decide (mayE e = 0)) = true := by
  rw [List.all_eq_true]
  intro e he
  obtain ⟨f, _, rfl⟩ := List.mem_map.1 he
  simp [fitE_may]
theorem okN_and (x : Int) : okN (andI x 1048575) = true := by
  have := andI_20 x
  exact withinB_of ⟨this.1, by omega⟩
theorem fitR_may (x : Rc) : mayR (fitR x) = true := by
  have h5 := m5_range x.r
  have h6 : 0 ≤ m6 x.k ∧ m6 x.k ≤ 5 := by unfold m6; omega
  have hl : ((x.ev.take 30).map fitE).length ≤ 30 := by rw [List.length_map, List.length_take]; omega
  have ha := fitE_all x.ev
  have ok0 : okN 0 = true := rfl
  have hz : clkZ clk0 = true := rfl
  have hc : okC clk0 = true := rfl
  have hcc : okC (fitC x.c) = true := by simp [okC, fitC, okN_and]
  unfold fitR
  split
  · simp [mayR, rcK, rcU, rcC, rcE, ok0, hcc]; omega
  · split
    · simp [mayR, rcK, rcU, rcC, rcE, hc, hz, okN_and]; omega
    · split
      · simp only [mayR, rcK, rcU, rcC, rcE, hc, hz, okN_and, ha]; simp; omega
      · split
        · simp only [mayR, rcK, rcU, rcC, rcE, ok0, hc, hz, ha]; simp; omega
        · rename_i h1 h2 h3 h4
          simp only [mayR, rcK, rcU, rcC, rcE, ok0, hc, hz, ha]
          simp at h4 hl ⊢
          omega
theorem rcBytes_len (x : Rc) : 5 < (rcBytes x).length := by
  have hv := vputF_pos 9 (sealB (rcBody x)).length
  have hb : 2 ≤ (rcBody x).length := by simp [rcBody] <;> omega
  have hs := sealB_len (rcBody x)
  unfold rcBytes
  rw [List.length_append]
  show 5 < (vputF 9 (sealB (rcBody x)).length).length + _
  omega

/-- A row's cells are a list's events. -/
def IsE (F : Nat → List AV) (l : List Ev) : Prop := ∀ i, i < l.length → F i = evF l i
theorem C1.isE {X : CX} {a1 a2 a3 a4 a5 a6 a7 a8 : AV} {n : Nat} {F : Nat → List AV} {l : List Ev} (hF : IsE F l) (hn : n = l.length) {u : Value} (h : C1 X (.agg [a1, a2, a3, a4, a5, a6, a7, a8, .sl 12 n true F]) u) : C1 X (.agg [a1, a2, a3, a4, a5, a6, a7, a8, .sl 12 l.length true (evF l)]) u := by
  obtain ⟨us, e, ha⟩ := h
  obtain ⟨v, hv, hc⟩ := ha.get (i := 8) rfl
  refine ⟨us, e, ?_⟩
  have hc2 : C2 X (.sl 12 l.length true (evF l)) v := AEq.sl (sc := true) hn (fun i hi => hF i (by omega)) X v hc
  have := ha.set 8 (x := .sl 12 l.length true (evF l)) (u := v) hc2
  have e2 : us.set 8 v = us := by
    apply List.ext_getElem?
    intro i
    rw [List.getElem?_set]
    by_cases h8 : 8 = i
    · subst h8
      rw [if_pos rfl, hv]
      have : 8 < us.length := by
        rcases Nat.lt_or_ge 8 us.length with h | h
        · exact h
        · rw [List.getElem?_eq_none h] at hv; cases hv
      rw [if_pos this]
    · rw [if_neg h8]
  rw [e2] at this
  exact this

theorem IsE.nil (F : Nat → List AV) : IsE F [] := fun i h => absurd h (by simp)
theorem IsE.els (l : List Ev) : IsE (evF l) l := fun _ _ => rfl
theorem IsE.app {F G : Nat → List AV} {l l' : List Ev} {n : Nat} (h : IsE F l) (h' : IsE G l') (hn : n = l.length) : IsE (appF n F G) (l ++ l') := by
  intro i hi
  rw [List.length_append] at hi
  show _ = elsF Ev.cs (l ++ l') i
  rw [← els_app hn]
  unfold appF
  cases hb : Nat.ble n i with
  | true =>
    have := Nat.le_of_ble_eq_true hb
    exact h' (i - n) (by omega)
  | false =>
    have : i < n := Nat.lt_of_not_le fun h => by rw [Nat.ble_eq_true_of_le h] at hb; cases hb
    exact h i (by omega)
theorem IsE.one {F : Nat → List AV} {e : Ev} (h : F 0 = e.cs) : IsE F [e] := fun i hi => by
  have : i = 0 := by simpa using hi
  subst this
  exact h

def zEv : Ev := ⟨0, 0, ⟨0, 0, 0, 0, 0⟩, 0, 0, ⟨#[]⟩, 0, ⟨#[]⟩⟩
set_option maxHeartbeats 8000000 in
set_option maxRecDepth 100000 in
theorem recFields_spec (x : Rc) (w : Int) (hw : 0 ≤ w ∧ w ≤ 255) (hr : ∀ e ∈ x.ev, e.key.size ≤ 140737488355328 ∧ e.v.size ≤ 140737488355328) (hl : x.ev.length ≤ 140737488355328) :
    ASpec Try.prog 5 [x.av, .v (.int .u8 w)] (.v (.bool true)) [] := by
  have hfit := fit18_spec x hr hl
  have hy := fitR_may x
  generalize fitR x = y at hfit hy
  have hput := fun d => rcPut_yes d y hy
  have h5 := rcBytes_len y
  have hyl := (mayR_of hy).l
  generalize rcBytes y = bs at hput h5
  obtain ⟨k, r, u, ⟨c0, c1, c2, c3, c4⟩, ev⟩ := y
  dsimp only at hyl
  have n0 := rcPut_no ⟨7, r, u, ⟨c0, c1, c2, c3, c4⟩, ev⟩ (by dsimp only; omega) (by simp [mayR, rcK])
  have n1 := rcPut_no ⟨k, 5, u, ⟨c0, c1, c2, c3, c4⟩, ev⟩ (by dsimp only; omega) (by simp [mayR])
  have n2 := rcPut_no ⟨k, r, 1048577, ⟨c0, c1, c2, c3, c4⟩, ev⟩ (by dsimp only; omega) (by simp [mayR, okN, withinB])
  have n30 := rcPut_no ⟨k, r, u, ⟨-1, c1, c2, c3, c4⟩, ev⟩ (by dsimp only; omega) (by simp [mayR, okC, okN, withinB])
  have n31 := rcPut_no ⟨k, r, u, ⟨c0, -1, c2, c3, c4⟩, ev⟩ (by dsimp only; omega) (by simp [mayR, okC, okN, withinB])
  have n32 := rcPut_no ⟨k, r, u, ⟨c0, c1, -1, c3, c4⟩, ev⟩ (by dsimp only; omega) (by simp [mayR, okC, okN, withinB])
  have n33 := rcPut_no ⟨k, r, u, ⟨c0, c1, c2, -1, c4⟩, ev⟩ (by dsimp only; omega) (by simp [mayR, okC, okN, withinB])
  have n34 := rcPut_no ⟨k, r, u, ⟨c0, c1, c2, c3, -1⟩, ev⟩ (by dsimp only; omega) (by simp [mayR, okC, okN, withinB])
  have n4 := rcPut_no ⟨k, r, u, ⟨c0, c1, c2, c3, c4⟩, [] ++ ev ++ [zEv]⟩ (by simp; omega) (by have : mayE zEv = 1 := by { decide }; simp [mayR, this])
  have n5 := rcPut_no ⟨0, r, u, ⟨c0, c1, c2, c3, c4⟩, ev⟩ (by dsimp only; omega) (by simp [mayR, rcK])
  dsimp only [Rc.av, Rc.cs] at n0 n1 n2 n30 n31 n32 n33 n34 n4 n5 hput hfit ⊢
  refine aspec_of lay_ok 4371679223 Try.func5 rfl rfl rfl ?_
  repeat' ((conv => whnf); first | refine Spl.yes (by first | assumption | omega) ?_ | refine Spl.no (by first | assumption | omega) ?_ | refine Wr.i64 (by omega) (by omega) ?_ | refine Still.mk rfl rfl ?_ | refine InB.mk (inB_mk (by omega) (by omega)) ?_ | refine Req.mk (by omega) ?_ | refine Req.mk ⟨by first | omega | (dsimp only; omega), by first | omega | (dsimp only; omega)⟩ ?_ | refine ACall.plain _ _ (shown18_spec) .nil rfl ?_ | refine ACall.plain _ _ (hfit) (SubL.cons (.eq _) .nil) rfl ?_ | refine ACall.plain _ _ (n0) (SubL.cons (.eq _) .nil) rfl ?_ | refine ACall.plain _ _ (n1) (SubL.cons (.eq _) .nil) rfl ?_ | refine ACall.plain _ _ (n2) (SubL.cons (.eq _) .nil) rfl ?_ | refine ACall.plain _ _ (n30) (SubL.cons (.eq _) .nil) rfl ?_ | refine ACall.plain _ _ (n31) (SubL.cons (.eq _) .nil) rfl ?_ | refine ACall.plain _ _ (n32) (SubL.cons (.eq _) .nil) rfl ?_ | refine ACall.plain _ _ (n33) (SubL.cons (.eq _) .nil) rfl ?_ | refine ACall.plain _ _ (n34) (SubL.cons (.eq _) .nil) rfl ?_ | refine ACall.plain _ _ (n5) (SubL.cons (.eq _) .nil) rfl ?_ | refine ACall.plain _ _ (n4.args (.of (fun X u h => C1.isE (IsE.app (IsE.app (IsE.nil _) (IsE.els _) rfl) (IsE.one rfl) (by simp)) (by simp) h) .nil)) (SubL.cons (.eq _) .nil) rfl ?_ | refine ACall.fresh _ _ _ _ _ _ _ (hput _) (SubL.cons (.eq _) .nil) rfl ?_ | refine Rm.m5 (by omega) (fun _ => ?_) (fun _ => ?_) (fun _ => ?_) (fun _ => ?_) (fun _ => ?_) | refine ARet.hdI ?_ | refine Spl.mk (fun _ => ?_) (fun _ => ?_) | refine Wr.b64 ?_ | refine Wr.bu64 ?_ | refine Wr.bu32 ?_ | refine Wr.bu8 ?_ | refine Wr.u8 (by omega) (by omega) ?_ | refine Wr.u64 (by omega) (by omega) ?_ | refine Wr.u32 (by omega) (by omega) ?_ | refine Dv.pos (by omega) (by omega) ?_ | refine Rm.pos (by omega) (by omega) ?_ | refine ADraw.quiet follows_ok (by kernel_rfl) rfl ?_ | refine BSpl.decY (by first | assumption | omega) ?_ | refine BSpl.decN (by first | assumption | omega) ?_ | refine BSpl.dec (fun _ => ?_) (fun _ => ?_) | refine BSpl.yes (by assumption) ?_ | refine BSpl.no (by assumption) ?_ | refine BSpl.mk (fun _ => ?_) (fun _ => ?_))
  all_goals (conv => whnf)
  all_goals exact AEqI.mk (AEq.refl _)
end Go.Proofs.Ytbmojelnkldecaa
