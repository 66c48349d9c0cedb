/-
  The document's example of a frame; the maker of frames that may be (kithref07.Fit).
-/
import Derived.Test.YtbmojelnkldecaaFrmP
namespace Go.Proofs.Ytbmojelnkldecaa
open Go.RowKit

def exFr : Rc := ⟨2, 2, 300, clk0, []⟩
theorem exFr_bytes : frBytes exFr = sealB [4, 2, 2, 172, 2] := by
  have hb : vput (frBody exFr).length ++ frBody exFr = [4, 2, 2, 172, 2] := by decide
  unfold frBytes
  rw [hb]
theorem exFr_put (d : Nat) : ASpec Try.prog 25 [.agg [.v (.int .i64 2), .v (.int .i64 2), .v (.int .i64 300), .v (.int .i64 0), .v (.int .i64 0), .v (.int .i64 0), .v (.int .i64 0), .v (.int .i64 0), .v (.slice none 0 0)]] (.tup [.own d, .v (.int .i64 0)]) [(d, .row 5 1 (sealB [4, 2, 2, 172, 2]).length true (bytesF (sealB [4, 2, 2, 172, 2])))] := by
  have := frPut_yes d exFr (by decide)
  rw [exFr_bytes] at this
  exact this.args (.of (fun X u h => C1.nilEv h) .nil)

set_option maxHeartbeats 2000000 in
set_option maxRecDepth 100000 in
theorem shown07_spec : ASpec Try.prog 24 [] (.v (.bool true)) [] := by
  have hl := sealB_len [4, 2, 2, 172, 2]
  have hl9 : (sealB [4, 2, 2, 172, 2]).length = 9 := hl
  refine aspec_of lay_ok 7 Try.func24 rfl rfl rfl ?_
  repeat' ((conv => whnf); first | refine Spl.yes (by first | assumption | omega) ?_ | refine Spl.no (by first | assumption | omega) ?_ | refine Wr.i64 (by omega) (by omega) ?_ | refine Still.mk rfl rfl ?_ | refine InB.mk (inB_mk (by omega) (by omega)) ?_ | refine Req.mk (by omega) ?_ | refine Req.mk ⟨by first | omega | (dsimp only; omega), by first | omega | (dsimp only; omega)⟩ ?_ | refine ACall.fresh _ _ _ _ _ _ _ (exFr_put _) (SubL.cons (.eq _) .nil) rfl ?_ | refine ACall.fresh _ _ _ _ _ _ _ (seal_spec _ [4, 2, 2, 172, 2] (fun i hi => by have : i = 0 ∨ i = 1 ∨ i = 2 ∨ i = 3 ∨ i = 4 := by { simp at hi; omega }; rcases this with rfl | rfl | rfl | rfl | rfl <;> rfl) rfl (by decide)) (SubL.cons (.eq _) .nil) rfl ?_ | refine Bs.of _ (IsB.bytes _) rfl ?_ | refine Spl.yes rfl ?_ | refine ARet.hdI ?_ | refine Spl.mk (fun _ => ?_) (fun _ => ?_) | refine Wr.b64 ?_ | refine Wr.bu64 ?_ | refine Wr.bu32 ?_ | refine Wr.bu8 ?_ | refine Wr.u8 (by omega) (by omega) ?_ | refine Wr.u64 (by omega) (by omega) ?_ | refine Wr.u32 (by omega) (by omega) ?_ | refine Dv.pos (by omega) (by omega) ?_ | refine Rm.pos (by omega) (by omega) ?_ | refine ADraw.quiet follows_ok (by kernel_rfl) rfl ?_ | refine ADraw.sched (id := 2) lay_ok (awp_snd lay_ok _) [(0, none), (1, none), (2, some []), (3, some []), (4, none), (5, none), (6, none), (7, none), (8, none), (9, none), (10, none), (11, none), (12, none), (13, none), (14, none), (15, none)] [(2, []), (3, [])] follows_ok (by kernel_rfl) ?_ | refine BSpl.decY (by first | assumption | omega) ?_ | refine BSpl.decN (by first | assumption | omega) ?_ | refine BSpl.dec (fun _ => ?_) (fun _ => ?_) | refine BSpl.yes (by assumption) ?_ | refine BSpl.no (by assumption) ?_ | refine BSpl.mk (fun _ => ?_) (fun _ => ?_))
  conv => whnf
  exact AEqI.mk (AEq.refl _)

def pushE (r : Int) (e : Ev) : Ev := ⟨r, e.n, (e.c.put e.r 0).put r (e.n - 1), e.h, e.k, e.key, e.l, e.v⟩
/-- The frame that Fit makes. -/
def fitF (x : Rc) : Rc :=
  if 1 + m5 x.k = 2 then ⟨2, m5 x.r, andI x.u 1048575, clk0, []⟩
  else if 1 + m5 x.k = 3 ∨ 1 + m5 x.k = 5 then ⟨1 + m5 x.k, m5 x.r, 0, fitC x.c, []⟩
  else if 1 + m5 x.k = 1 ∧ x.ev.length ≠ 0 then ⟨1, m5 x.r, 0, clk0, (x.ev.take 20).map fun e => pushE (m5 x.r) (fitE e)⟩
  else ⟨4, m5 x.r, 0, clk0, (x.ev.take 20).map fitE⟩

set_option maxHeartbeats 8000000 in
set_option maxRecDepth 100000 in
theorem fit07_c (x : Rc) (hk : 1 + m5 x.k = 2 ∨ 1 + m5 x.k = 3 ∨ 1 + m5 x.k = 5) : ASpec Try.prog 33 [x.av] (fitF x).av [] := by
  obtain ⟨k, r, u, ⟨c0, c1, c2, c3, c4⟩, ev⟩ := x
  obtain ⟨q, hq⟩ : ∃ q, (k.tmod 5 + 5) % 5 = q := ⟨_, rfl⟩
  have hm : m5 k = q := hq
  dsimp only at hk
  rw [hm] at hk
  obtain ⟨t1, t2⟩ := tmod5 k
  obtain ⟨t3, t4⟩ := tmod5 r
  unfold fitF
  dsimp only
  rw [hm]
  rcases hk with hk | hk | hk
  · rw [if_pos hk]
    dsimp only [Rc.av, Rc.cs]
    refine aspec_of lay_ok 80372463930252565938303 Try.func33 rfl rfl rfl ?_
    repeat' ((conv => whnf); first | refine Spl.yes (by first | assumption | omega) ?_ | refine Spl.no (by first | assumption | omega) ?_ | refine Wr.i64 (by omega) (by omega) ?_ | refine Still.mk rfl rfl ?_ | refine InB.mk (inB_mk (by omega) (by omega)) ?_ | refine Req.mk (by omega) ?_ | refine Req.mk ⟨by first | omega | (dsimp only; omega), by first | omega | (dsimp only; omega)⟩ ?_ | refine Rm.is (by omega) (by omega) hq ?_ | refine Rm.pos (by omega) (by omega) ?_ | refine Rm.raw5 ?_ | refine ALoop.unr 4 6 rfl ?_ | refine ARet.hdI ?_ | refine Spl.mk (fun _ => ?_) (fun _ => ?_) | refine Wr.b64 ?_ | refine Wr.bu64 ?_ | refine Wr.bu32 ?_ | refine Wr.bu8 ?_ | refine Wr.u8 (by omega) (by omega) ?_ | refine Wr.u64 (by omega) (by omega) ?_ | refine Wr.u32 (by omega) (by omega) ?_ | refine Dv.pos (by omega) (by omega) ?_ | refine Rm.pos (by omega) (by omega) ?_ | refine ADraw.quiet follows_ok (by kernel_rfl) rfl ?_ | refine BSpl.decY (by first | assumption | omega) ?_ | refine BSpl.decN (by first | assumption | omega) ?_ | refine BSpl.dec (fun _ => ?_) (fun _ => ?_) | refine BSpl.yes (by assumption) ?_ | refine BSpl.no (by assumption) ?_ | refine BSpl.mk (fun _ => ?_) (fun _ => ?_))
    conv => whnf
    rw [hk]
    exact AEqI.mk (AEq.nilEv _)
  all_goals
    rw [if_neg (by omega), if_pos (by omega)]
    dsimp only [Rc.av, Rc.cs]
    refine aspec_of lay_ok 80372463930252565938303 Try.func33 rfl rfl rfl ?_
    repeat' ((conv => whnf); first | refine Spl.yes (by first | assumption | omega) ?_ | refine Spl.no (by first | assumption | omega) ?_ | refine Wr.i64 (by omega) (by omega) ?_ | refine Still.mk rfl rfl ?_ | refine InB.mk (inB_mk (by omega) (by omega)) ?_ | refine Req.mk (by omega) ?_ | refine Req.mk ⟨by first | omega | (dsimp only; omega), by first | omega | (dsimp only; omega)⟩ ?_ | refine Rm.is (by omega) (by omega) hq ?_ | refine Rm.pos (by omega) (by omega) ?_ | refine Rm.raw5 ?_ | refine ALoop.unr 4 6 rfl ?_ | refine ARet.hdI ?_ | refine Spl.mk (fun _ => ?_) (fun _ => ?_) | refine Wr.b64 ?_ | refine Wr.bu64 ?_ | refine Wr.bu32 ?_ | refine Wr.bu8 ?_ | refine Wr.u8 (by omega) (by omega) ?_ | refine Wr.u64 (by omega) (by omega) ?_ | refine Wr.u32 (by omega) (by omega) ?_ | refine Dv.pos (by omega) (by omega) ?_ | refine Rm.pos (by omega) (by omega) ?_ | refine ADraw.quiet follows_ok (by kernel_rfl) rfl ?_ | refine BSpl.decY (by first | assumption | omega) ?_ | refine BSpl.decN (by first | assumption | omega) ?_ | refine BSpl.dec (fun _ => ?_) (fun _ => ?_) | refine BSpl.yes (by assumption) ?_ | refine BSpl.no (by assumption) ?_ | refine BSpl.mk (fun _ => ?_) (fun _ => ?_))
    conv => whnf
    exact AEqI.mk (AEq.nilEv _)

theorem fit_at' {f : Ev → Ev} {l : List Ev} {m j : Nat} (h : j < m) (hj : j < l.length) : ((l.take m).map f).getD j default = f (l.getD j default) := by
  have : j < ((l.take m).map f).length := by simp; omega
  rw [List.getD, List.getElem?_eq_getElem this, List.getD, List.getElem?_eq_getElem hj]
  simp
theorem fit_succ' {f : Ev → Ev} {l : List Ev} {j : Nat} (hj : j < l.length) : (l.take (j + 1)).map f = (l.take j).map f ++ [f (l.getD j default)] := by
  rw [List.take_add_one, List.getElem?_eq_getElem hj, List.getD, List.getElem?_eq_getElem hj, List.map_append]
  rfl

set_option maxHeartbeats 8000000 in
set_option maxRecDepth 100000 in
theorem fit07_4 (x : Rc) (hr : ∀ e ∈ x.ev, e.key.size ≤ 140737488355328 ∧ e.v.size ≤ 140737488355328) (hk : 1 + m5 x.k = 4) (hl : x.ev.length ≤ 140737488355328) : ASpec Try.prog 33 [x.av] (fitF x).av [] := by
  obtain ⟨k, r, u, ⟨c0, c1, c2, c3, c4⟩, ev⟩ := x
  obtain ⟨q, hq⟩ : ∃ q, (k.tmod 5 + 5) % 5 = q := ⟨_, rfl⟩
  have hm : m5 k = q := hq
  dsimp only at hk hr hl
  rw [hm] at hk
  obtain ⟨t1, t2⟩ := tmod5 k
  obtain ⟨t3, t4⟩ := tmod5 r
  have hfit : ∀ j, j < ev.length → ASpec Try.prog 17 [(ev.getD j default).av] (fitE (ev.getD j default)).av [] := fun j hj => by
    have := hr (ev.getD j default) (by rw [List.getD, List.getElem?_eq_getElem hj]; exact List.getElem_mem hj)
    exact fit06_spec _ this.1 this.2
  unfold fitF
  dsimp only
  rw [hm, if_neg (by omega), if_neg (by omega), if_neg (by omega)]
  dsimp only [Rc.av, Rc.cs]
  refine aspec_of lay_ok 80372463930252565938303 Try.func33 rfl rfl rfl ?_
  repeat' ((conv => whnf); first | refine Spl.yes (by first | assumption | omega) ?_ | refine Spl.no (by first | assumption | omega) ?_ | refine Wr.i64 (by omega) (by omega) ?_ | refine Still.mk rfl rfl ?_ | refine InB.mk (inB_mk (by omega) (by omega)) ?_ | refine Req.mk (by omega) ?_ | refine Req.mk ⟨by first | omega | (dsimp only; omega), by first | omega | (dsimp only; omega)⟩ ?_ | refine Rm.is (by omega) (by omega) hq ?_ | refine Rm.pos (by omega) (by omega) ?_ | refine Rm.raw5 ?_ | refine ARet.hdI ?_ | refine Spl.mk (fun _ => ?_) (fun _ => ?_) | refine Wr.b64 ?_ | refine Wr.bu64 ?_ | refine Wr.bu32 ?_ | refine Wr.bu8 ?_ | refine Wr.u8 (by omega) (by omega) ?_ | refine Wr.u64 (by omega) (by omega) ?_ | refine Wr.u32 (by omega) (by omega) ?_ | refine Dv.pos (by omega) (by omega) ?_ | refine Rm.pos (by omega) (by omega) ?_ | refine ADraw.quiet follows_ok (by kernel_rfl) rfl ?_ | refine BSpl.decY (by first | assumption | omega) ?_ | refine BSpl.decN (by first | assumption | omega) ?_ | refine BSpl.dec (fun _ => ?_) (fun _ => ?_) | refine BSpl.yes (by assumption) ?_ | refine BSpl.no (by assumption) ?_ | refine BSpl.mk (fun _ => ?_) (fun _ => ?_))
  conv => whnf
  refine ALoop.mk { j : Nat // j ≤ ev.length ∧ j ≤ 20 } (fun j => match j with
      | ⟨0, _⟩ => ⟨[(1, .box 0 0), (2, .box 1 0), (3, .box 2 0), (5, .v (.int .i64 0))],
        [(0, .box 43 (rcCs k r u c0 c1 c2 c3 c4 (.sl 12 ev.length true (evF ev)))), (1, .box 43 (rcCs 0 0 0 0 0 0 0 0 (.v (.slice none 0 0)))), (2, .box 43 (rcCs (1 + q) ((r.tmod 5 + 5) % 5) 0 0 0 0 0 0 (.v (.slice none 0 0))))], [], 3⟩
      | ⟨i + 1, _⟩ => ⟨[(1, .box 0 0), (2, .box 1 0), (3, .box 2 0), (5, .v (.int .i64 ((i : Int) + 1)))],
        [(0, .box 43 (rcCs k r u c0 c1 c2 c3 c4 (.sl 12 ev.length true (evF ev)))), (1, .box 43 (rcCs 0 0 0 0 0 0 0 0 (.v (.slice none 0 0)))), (2, .box 43 (rcCs (1 + q) ((r.tmod 5 + 5) % 5) 0 0 0 0 0 0 (.own 90))), (90, .row 25 12 ((ev.take (i + 1)).map fitE).length true (evF ((ev.take (i + 1)).map fitE)))], [], 91⟩) (fun j => 20 - j.1) ⟨0, Nat.zero_le _, Nat.zero_le _⟩ _
      (LeR.mk' [] _ _ _ rfl ⟨AEq.refl _, AEq.refl _, AEq.refl _, AEq.refl _, trivial⟩ ⟨⟨_, rfl, OEq.refl _⟩, ⟨_, rfl, OEq.refl _⟩, ⟨_, rfl, OEq.refl _⟩, trivial⟩ rfl) ?_
  rintro ⟨_ | i, hj, hj20⟩
  · dsimp only [rcCs]
    repeat' ((conv => whnf); first | refine Spl.yes (by first | assumption | omega) ?_ | refine Spl.no (by first | assumption | omega) ?_ | refine Wr.i64 (by omega) (by omega) ?_ | refine Still.mk rfl rfl ?_ | refine InB.mk (inB_mk (by omega) (by omega)) ?_ | refine Req.mk (by omega) ?_ | refine Req.mk ⟨by first | omega | (dsimp only; omega), by first | omega | (dsimp only; omega)⟩ ?_ | refine ACall.plain _ _ (hfit 0 (by omega)) (SubL.cons (.eq _) .nil) rfl ?_ | refine ARet.hdI ?_ | refine Spl.mk (fun _ => ?_) (fun _ => ?_) | refine Wr.b64 ?_ | refine Wr.bu64 ?_ | refine Wr.bu32 ?_ | refine Wr.bu8 ?_ | refine Wr.u8 (by omega) (by omega) ?_ | refine Wr.u64 (by omega) (by omega) ?_ | refine Wr.u32 (by omega) (by omega) ?_ | refine Dv.pos (by omega) (by omega) ?_ | refine Rm.pos (by omega) (by omega) ?_ | refine ADraw.quiet follows_ok (by kernel_rfl) rfl ?_ | refine BSpl.decY (by first | assumption | omega) ?_ | refine BSpl.decN (by first | assumption | omega) ?_ | refine BSpl.dec (fun _ => ?_) (fun _ => ?_) | refine BSpl.yes (by assumption) ?_ | refine BSpl.no (by assumption) ?_ | refine BSpl.mk (fun _ => ?_) (fun _ => ?_))
    all_goals first
      | (conv => whnf
         refine ⟨⟨0 + 1, by omega, by omega⟩, _, LeR.mk' [(5, 90)] _ _ _ rfl ⟨AEq.refl _, AEq.refl _, AEq.refl _, AEq.int rfl, trivial⟩ ⟨⟨_, rfl, OEq.refl _⟩, ⟨_, rfl, OEq.refl _⟩, ⟨_, rfl, OEq.refl _⟩, ⟨_, rfl, OEq.row (by simp; omega) (fun i hi => ?_)⟩, trivial⟩ rfl, by show 20 - (0 + 1) < 20 - 0; omega⟩
         have hi : i < 1 := hi
         obtain rfl : i = 0 := by omega
         show _ = Ev.cs (((ev.take (0 + 1)).map fitE).getD 0 default)
         rw [fit_at (by omega) (by omega)]
         rfl)
      | (conv => whnf
         obtain rfl : ev = [] := List.eq_nil_of_length_eq_zero (by omega)
         first | exact AEqI.mk (AEq.nilEv _) | (rw [hk]; exact AEqI.mk (AEq.nilEv _)))
  · have hLi : ((ev.take (i + 1)).map fitE).length = i + 1 := by simp; omega
    dsimp only [rcCs]
    repeat' ((conv => whnf); first | refine Spl.yes (by first | assumption | omega) ?_ | refine Spl.no (by first | assumption | omega) ?_ | refine Wr.i64 (by omega) (by omega) ?_ | refine Still.mk rfl rfl ?_ | refine InB.mk (inB_mk (by omega) (by omega)) ?_ | refine Req.mk (by omega) ?_ | refine Req.mk ⟨by first | omega | (dsimp only; omega), by first | omega | (dsimp only; omega)⟩ ?_ | refine ACall.plain _ _ (hfit ((i : Int) + 1).toNat (by omega)) (SubL.cons (.eq _) .nil) rfl ?_ | refine ARet.hdI ?_ | refine Spl.mk (fun _ => ?_) (fun _ => ?_) | refine Wr.b64 ?_ | refine Wr.bu64 ?_ | refine Wr.bu32 ?_ | refine Wr.bu8 ?_ | refine Wr.u8 (by omega) (by omega) ?_ | refine Wr.u64 (by omega) (by omega) ?_ | refine Wr.u32 (by omega) (by omega) ?_ | refine Dv.pos (by omega) (by omega) ?_ | refine Rm.pos (by omega) (by omega) ?_ | refine ADraw.quiet follows_ok (by kernel_rfl) rfl ?_ | refine BSpl.decY (by first | assumption | omega) ?_ | refine BSpl.decN (by first | assumption | omega) ?_ | refine BSpl.dec (fun _ => ?_) (fun _ => ?_) | refine BSpl.yes (by assumption) ?_ | refine BSpl.no (by assumption) ?_ | refine BSpl.mk (fun _ => ?_) (fun _ => ?_))
    all_goals first
      | (conv => whnf
         refine ⟨⟨i + 1 + 1, by omega, by omega⟩, _, LeR.mk' [(93, 90)] _ _ _ rfl ⟨AEq.refl _, AEq.refl _, AEq.refl _, AEq.int rfl, trivial⟩ ⟨⟨_, rfl, OEq.refl _⟩, ⟨_, rfl, OEq.refl _⟩, ⟨_, rfl, OEq.refl _⟩, ⟨_, rfl, OEq.row (by simp; omega) (fun m hm => ?_)⟩, trivial⟩ rfl, by show 20 - (i + 1 + 1) < 20 - (i + 1); omega⟩
         rw [fit_succ (show i + 1 < ev.length by omega)]
         exact els_app1 (c := Ev.cs) rfl rfl m hm)
      | (conv => whnf
         rw [show ev.take 20 = ev.take (i + 1) by rw [List.take_eq_take_iff]; omega]
         rw [hk]
         exact AEqI.mk (AEq.refl _))

set_option maxHeartbeats 16000000 in
set_option maxRecDepth 100000 in
theorem fit07_1 (x : Rc) (hr : ∀ e ∈ x.ev, e.key.size ≤ 140737488355328 ∧ e.v.size ≤ 140737488355328) (hk : 1 + m5 x.k = 1) (hl : x.ev.length ≤ 140737488355328) : ASpec Try.prog 33 [x.av] (fitF x).av [] := by
  obtain ⟨k, r, u, ⟨c0, c1, c2, c3, c4⟩, ev⟩ := x
  obtain ⟨q, hq⟩ : ∃ q, (k.tmod 5 + 5) % 5 = q := ⟨_, rfl⟩
  have hm : m5 k = q := hq
  obtain ⟨ro, hro⟩ : ∃ ro, (r.tmod 5 + 5) % 5 = ro := ⟨_, rfl⟩
  have hmr : m5 r = ro := hro
  have hrr := m5_range r
  rw [hmr] at hrr
  dsimp only at hk hr hl
  rw [hm] at hk
  obtain ⟨t1, t2⟩ := tmod5 k
  obtain ⟨t3, t4⟩ := tmod5 r
  have hfit : ∀ j, j < ev.length → ASpec Try.prog 17 [(ev.getD j default).av] (fitE (ev.getD j default)).av [] := fun j hj => by
    have := hr (ev.getD j default) (by rw [List.getD, List.getElem?_eq_getElem hj]; exact List.getElem_mem hj)
    exact fit06_spec _ this.1 this.2
  have hrng : ∀ j, 0 ≤ (fitE (ev.getD j default)).r ∧ (fitE (ev.getD j default)).r ≤ 4 ∧ 1 ≤ (fitE (ev.getD j default)).n ∧ (fitE (ev.getD j default)).n ≤ 1048576 := fun j => by
    have := mayE_zero (fitE_may (ev.getD j default))
    exact ⟨this.r0, this.r4, this.n1, this.n2⟩
  unfold fitF
  dsimp only
  rw [hm, hmr, if_neg (by omega), if_neg (by omega)]
  by_cases h0 : ev.length = 0
  · rw [if_neg (fun h => h.2 h0)]
    obtain rfl : ev = [] := List.eq_nil_of_length_eq_zero h0
    dsimp only [Rc.av, Rc.cs]
    refine aspec_of lay_ok 80372463930252565938303 Try.func33 rfl rfl rfl ?_
    repeat' ((conv => whnf); first | refine Spl.yes (by first | assumption | omega) ?_ | refine Spl.no (by first | assumption | omega) ?_ | refine Wr.i64 (by omega) (by omega) ?_ | refine Still.mk rfl rfl ?_ | refine InB.mk (inB_mk (by omega) (by omega)) ?_ | refine Req.mk (by omega) ?_ | refine Req.mk ⟨by first | omega | (dsimp only; omega), by first | omega | (dsimp only; omega)⟩ ?_ | refine Rm.is (by omega) (by omega) hq ?_ | refine Rm.is (by omega) (by omega) hro ?_ | refine Rm.raw5 ?_ | refine ALoop.rounds 1 ?_ | refine ARet.hdI ?_ | refine Spl.mk (fun _ => ?_) (fun _ => ?_) | refine Wr.b64 ?_ | refine Wr.bu64 ?_ | refine Wr.bu32 ?_ | refine Wr.bu8 ?_ | refine Wr.u8 (by omega) (by omega) ?_ | refine Wr.u64 (by omega) (by omega) ?_ | refine Wr.u32 (by omega) (by omega) ?_ | refine Dv.pos (by omega) (by omega) ?_ | refine Rm.pos (by omega) (by omega) ?_ | refine ADraw.quiet follows_ok (by kernel_rfl) rfl ?_ | refine BSpl.decY (by first | assumption | omega) ?_ | refine BSpl.decN (by first | assumption | omega) ?_ | refine BSpl.dec (fun _ => ?_) (fun _ => ?_) | refine BSpl.yes (by assumption) ?_ | refine BSpl.no (by assumption) ?_ | refine BSpl.mk (fun _ => ?_) (fun _ => ?_))
    conv => whnf
    exact AEqI.mk (AEq.nilEv _)
  · rw [if_pos ⟨hk, h0⟩]
    dsimp only [Rc.av, Rc.cs]
    rcases (show ro = 0 ∨ ro = 1 ∨ ro = 2 ∨ ro = 3 ∨ ro = 4 by omega) with rfl | rfl | rfl | rfl | rfl
    · refine aspec_of lay_ok 80372463930252565938303 Try.func33 rfl rfl rfl ?_
      repeat' ((conv => whnf); first | refine Spl.yes (by first | assumption | omega) ?_ | refine Spl.no (by first | assumption | omega) ?_ | refine Wr.i64 (by omega) (by omega) ?_ | refine Still.mk rfl rfl ?_ | refine InB.mk (inB_mk (by omega) (by omega)) ?_ | refine Req.mk (by omega) ?_ | refine Req.mk ⟨by first | omega | (dsimp only; omega), by first | omega | (dsimp only; omega)⟩ ?_ | refine Rm.is (by omega) (by omega) hq ?_ | refine Rm.is (by omega) (by omega) hro ?_ | refine Rm.raw5 ?_ | refine ARet.hdI ?_ | refine Spl.mk (fun _ => ?_) (fun _ => ?_) | refine Wr.b64 ?_ | refine Wr.bu64 ?_ | refine Wr.bu32 ?_ | refine Wr.bu8 ?_ | refine Wr.u8 (by omega) (by omega) ?_ | refine Wr.u64 (by omega) (by omega) ?_ | refine Wr.u32 (by omega) (by omega) ?_ | refine Dv.pos (by omega) (by omega) ?_ | refine Rm.pos (by omega) (by omega) ?_ | refine ADraw.quiet follows_ok (by kernel_rfl) rfl ?_ | refine BSpl.decY (by first | assumption | omega) ?_ | refine BSpl.decN (by first | assumption | omega) ?_ | refine BSpl.dec (fun _ => ?_) (fun _ => ?_) | refine BSpl.yes (by assumption) ?_ | refine BSpl.no (by assumption) ?_ | refine BSpl.mk (fun _ => ?_) (fun _ => ?_))
      conv => whnf
      refine ALoop.mk { j : Nat // j ≤ ev.length ∧ j ≤ 20 } (fun j => match j with
          | ⟨0, _⟩ => ⟨[(1, .box 0 0), (2, .box 1 0), (3, .box 2 0), (5, .v (.int .i64 0))],
            [(0, .box 43 (rcCs k r u c0 c1 c2 c3 c4 (.sl 12 ev.length true (evF ev)))), (1, .box 43 (rcCs 0 0 0 0 0 0 0 0 (.v (.slice none 0 0)))), (2, .box 43 (rcCs (1 + q) 0 0 0 0 0 0 0 (.v (.slice none 0 0))))], [], 3⟩
          | ⟨i + 1, _⟩ => ⟨[(1, .box 0 0), (2, .box 1 0), (3, .box 2 0), (5, .v (.int .i64 ((i : Int) + 1)))],
            [(0, .box 43 (rcCs k r u c0 c1 c2 c3 c4 (.sl 12 ev.length true (evF ev)))), (1, .box 43 (rcCs 0 0 0 0 0 0 0 0 (.v (.slice none 0 0)))), (2, .box 43 (rcCs (1 + q) 0 0 0 0 0 0 0 (.own 90))), (90, .row 25 12 ((ev.take (i + 1)).map fun e => pushE 0 (fitE e)).length true (evF ((ev.take (i + 1)).map fun e => pushE 0 (fitE e))))], [], 91⟩) (fun j => 20 - j.1) ⟨0, Nat.zero_le _, Nat.zero_le _⟩ _
          (LeR.mk' [] _ _ _ rfl ⟨AEq.refl _, AEq.refl _, AEq.refl _, AEq.refl _, trivial⟩ ⟨⟨_, rfl, OEq.refl _⟩, ⟨_, rfl, OEq.refl _⟩, ⟨_, rfl, OEq.refl _⟩, trivial⟩ rfl) ?_
      rintro ⟨_ | i, hj, hj20⟩
      · dsimp only [rcCs]
        have hf := hfit 0 (by omega)
        have hg := hrng 0
        have hat := fit_at' (f := fun e => pushE 0 (fitE e)) (l := ev) (m := 0 + 1) (j := 0) (by omega) (by omega)
        generalize fitE (ev.getD 0 default) = y at hf hg hat
        obtain ⟨yr, yn, ⟨y0, y1, y2, y3, y4⟩, yh, yk, ykey, yl, yv⟩ := y
        obtain ⟨g1, g2, g3, g4⟩ := hg
        dsimp only at g1 g2 g3 g4
        dsimp only [Ev.av, Ev.cs] at hf
        rcases (show yr = 0 ∨ yr = 1 ∨ yr = 2 ∨ yr = 3 ∨ yr = 4 by omega) with rfl | rfl | rfl | rfl | rfl
        all_goals repeat' ((conv => whnf); first | refine Spl.yes (by first | assumption | omega) ?_ | refine Spl.no (by first | assumption | omega) ?_ | refine Wr.i64 (by omega) (by omega) ?_ | refine Still.mk rfl rfl ?_ | refine InB.mk (inB_mk (by omega) (by omega)) ?_ | refine Req.mk (by omega) ?_ | refine Req.mk ⟨by first | omega | (dsimp only; omega), by first | omega | (dsimp only; omega)⟩ ?_ | refine ACall.plain _ _ (hf) (SubL.cons (.eq _) .nil) rfl ?_ | refine ARet.hdI ?_ | refine Spl.mk (fun _ => ?_) (fun _ => ?_) | refine Wr.b64 ?_ | refine Wr.bu64 ?_ | refine Wr.bu32 ?_ | refine Wr.bu8 ?_ | refine Wr.u8 (by omega) (by omega) ?_ | refine Wr.u64 (by omega) (by omega) ?_ | refine Wr.u32 (by omega) (by omega) ?_ | refine Dv.pos (by omega) (by omega) ?_ | refine Rm.pos (by omega) (by omega) ?_ | refine ADraw.quiet follows_ok (by kernel_rfl) rfl ?_ | refine BSpl.decY (by first | assumption | omega) ?_ | refine BSpl.decN (by first | assumption | omega) ?_ | refine BSpl.dec (fun _ => ?_) (fun _ => ?_) | refine BSpl.yes (by assumption) ?_ | refine BSpl.no (by assumption) ?_ | refine BSpl.mk (fun _ => ?_) (fun _ => ?_))
        all_goals first
          | (conv => whnf
             refine ⟨⟨0 + 1, by omega, by omega⟩, _, LeR.mk' [(5, 90)] _ _ _ rfl ⟨AEq.refl _, AEq.refl _, AEq.refl _, AEq.int rfl, trivial⟩ ⟨⟨_, rfl, OEq.refl _⟩, ⟨_, rfl, OEq.refl _⟩, ⟨_, rfl, OEq.refl _⟩, ⟨_, rfl, OEq.row (by simp; omega) (fun i hi => ?_)⟩, trivial⟩ rfl, by show 20 - (0 + 1) < 20 - 0; omega⟩
             have hi : i < 1 := hi
             obtain rfl : i = 0 := by omega
             show _ = Ev.cs (((ev.take (0 + 1)).map fun e => pushE 0 (fitE e)).getD 0 default)
             rw [hat]
             rfl)
          | (exfalso; omega)
      · have hLi : ((ev.take (i + 1)).map fun e => pushE 0 (fitE e)).length = i + 1 := by simp; omega
        dsimp only [rcCs]
        by_cases hlt : i + 1 < ev.length
        · have hf := hfit ((i : Int) + 1).toNat (by omega)
          have hg := hrng ((i : Int) + 1).toNat
          have hsu := fit_succ' (f := fun e => pushE 0 (fitE e)) hlt
          generalize hgd : fitE (ev.getD ((i : Int) + 1).toNat default) = y at hf hg
          rw [show fitE (ev.getD (i + 1) default) = y from hgd] at hsu
          clear hgd
          obtain ⟨yr, yn, ⟨y0, y1, y2, y3, y4⟩, yh, yk, ykey, yl, yv⟩ := y
          obtain ⟨g1, g2, g3, g4⟩ := hg
          dsimp only at g1 g2 g3 g4
          dsimp only [Ev.av, Ev.cs] at hf
          rcases (show yr = 0 ∨ yr = 1 ∨ yr = 2 ∨ yr = 3 ∨ yr = 4 by omega) with rfl | rfl | rfl | rfl | rfl
          all_goals repeat' ((conv => whnf); first | refine Spl.yes (by first | assumption | omega) ?_ | refine Spl.no (by first | assumption | omega) ?_ | refine Wr.i64 (by omega) (by omega) ?_ | refine Still.mk rfl rfl ?_ | refine InB.mk (inB_mk (by omega) (by omega)) ?_ | refine Req.mk (by omega) ?_ | refine Req.mk ⟨by first | omega | (dsimp only; omega), by first | omega | (dsimp only; omega)⟩ ?_ | refine ACall.plain _ _ (hf) (SubL.cons (.eq _) .nil) rfl ?_ | refine ARet.hdI ?_ | refine Spl.mk (fun _ => ?_) (fun _ => ?_) | refine Wr.b64 ?_ | refine Wr.bu64 ?_ | refine Wr.bu32 ?_ | refine Wr.bu8 ?_ | refine Wr.u8 (by omega) (by omega) ?_ | refine Wr.u64 (by omega) (by omega) ?_ | refine Wr.u32 (by omega) (by omega) ?_ | refine Dv.pos (by omega) (by omega) ?_ | refine Rm.pos (by omega) (by omega) ?_ | refine ADraw.quiet follows_ok (by kernel_rfl) rfl ?_ | refine BSpl.decY (by first | assumption | omega) ?_ | refine BSpl.decN (by first | assumption | omega) ?_ | refine BSpl.dec (fun _ => ?_) (fun _ => ?_) | refine BSpl.yes (by assumption) ?_ | refine BSpl.no (by assumption) ?_ | refine BSpl.mk (fun _ => ?_) (fun _ => ?_))
          all_goals first
            | (conv => whnf
               refine ⟨⟨i + 1 + 1, by omega, by omega⟩, _, LeR.mk' [(93, 90)] _ _ _ rfl ⟨AEq.refl _, AEq.refl _, AEq.refl _, AEq.int rfl, trivial⟩ ⟨⟨_, rfl, OEq.refl _⟩, ⟨_, rfl, OEq.refl _⟩, ⟨_, rfl, OEq.refl _⟩, ⟨_, rfl, OEq.row (by simp; omega) (fun m hm => ?_)⟩, trivial⟩ rfl, by show 20 - (i + 1 + 1) < 20 - (i + 1); omega⟩
               rw [hsu]
               exact els_app1 (c := Ev.cs) rfl rfl m hm)
            | (conv => whnf
               rw [show ev.take 20 = ev.take (i + 1) by rw [List.take_eq_take_iff]; omega]
               rw [hk]
               exact AEqI.mk (AEq.refl _))
        · repeat' ((conv => whnf); first | refine Spl.yes (by first | assumption | omega) ?_ | refine Spl.no (by first | assumption | omega) ?_ | refine Wr.i64 (by omega) (by omega) ?_ | refine Still.mk rfl rfl ?_ | refine InB.mk (inB_mk (by omega) (by omega)) ?_ | refine Req.mk (by omega) ?_ | refine Req.mk ⟨by first | omega | (dsimp only; omega), by first | omega | (dsimp only; omega)⟩ ?_ | refine ARet.hdI ?_ | refine Spl.mk (fun _ => ?_) (fun _ => ?_) | refine Wr.b64 ?_ | refine Wr.bu64 ?_ | refine Wr.bu32 ?_ | refine Wr.bu8 ?_ | refine Wr.u8 (by omega) (by omega) ?_ | refine Wr.u64 (by omega) (by omega) ?_ | refine Wr.u32 (by omega) (by omega) ?_ | refine Dv.pos (by omega) (by omega) ?_ | refine Rm.pos (by omega) (by omega) ?_ | refine ADraw.quiet follows_ok (by kernel_rfl) rfl ?_ | refine BSpl.decY (by first | assumption | omega) ?_ | refine BSpl.decN (by first | assumption | omega) ?_ | refine BSpl.dec (fun _ => ?_) (fun _ => ?_) | refine BSpl.yes (by assumption) ?_ | refine BSpl.no (by assumption) ?_ | refine BSpl.mk (fun _ => ?_) (fun _ => ?_))
          all_goals (conv => whnf)
          all_goals (rw [show ev.take 20 = ev.take (i + 1) by rw [List.take_eq_take_iff]; omega, hk]; exact AEqI.mk (AEq.refl _))
    · refine aspec_of lay_ok 80372463930252565938303 Try.func33 rfl rfl rfl ?_
      repeat' ((conv => whnf); first | refine Spl.yes (by first | assumption | omega) ?_ | refine Spl.no (by first | assumption | omega) ?_ | refine Wr.i64 (by omega) (by omega) ?_ | refine Still.mk rfl rfl ?_ | refine InB.mk (inB_mk (by omega) (by omega)) ?_ | refine Req.mk (by omega) ?_ | refine Req.mk ⟨by first | omega | (dsimp only; omega), by first | omega | (dsimp only; omega)⟩ ?_ | refine Rm.is (by omega) (by omega) hq ?_ | refine Rm.is (by omega) (by omega) hro ?_ | refine Rm.raw5 ?_ | refine ARet.hdI ?_ | refine Spl.mk (fun _ => ?_) (fun _ => ?_) | refine Wr.b64 ?_ | refine Wr.bu64 ?_ | refine Wr.bu32 ?_ | refine Wr.bu8 ?_ | refine Wr.u8 (by omega) (by omega) ?_ | refine Wr.u64 (by omega) (by omega) ?_ | refine Wr.u32 (by omega) (by omega) ?_ | refine Dv.pos (by omega) (by omega) ?_ | refine Rm.pos (by omega) (by omega) ?_ | refine ADraw.quiet follows_ok (by kernel_rfl) rfl ?_ | refine BSpl.decY (by first | assumption | omega) ?_ | refine BSpl.decN (by first | assumption | omega) ?_ | refine BSpl.dec (fun _ => ?_) (fun _ => ?_) | refine BSpl.yes (by assumption) ?_ | refine BSpl.no (by assumption) ?_ | refine BSpl.mk (fun _ => ?_) (fun _ => ?_))
      conv => whnf
      refine ALoop.mk { j : Nat // j ≤ ev.length ∧ j ≤ 20 } (fun j => match j with
          | ⟨0, _⟩ => ⟨[(1, .box 0 0), (2, .box 1 0), (3, .box 2 0), (5, .v (.int .i64 0))],
            [(0, .box 43 (rcCs k r u c0 c1 c2 c3 c4 (.sl 12 ev.length true (evF ev)))), (1, .box 43 (rcCs 0 0 0 0 0 0 0 0 (.v (.slice none 0 0)))), (2, .box 43 (rcCs (1 + q) 1 0 0 0 0 0 0 (.v (.slice none 0 0))))], [], 3⟩
          | ⟨i + 1, _⟩ => ⟨[(1, .box 0 0), (2, .box 1 0), (3, .box 2 0), (5, .v (.int .i64 ((i : Int) + 1)))],
            [(0, .box 43 (rcCs k r u c0 c1 c2 c3 c4 (.sl 12 ev.length true (evF ev)))), (1, .box 43 (rcCs 0 0 0 0 0 0 0 0 (.v (.slice none 0 0)))), (2, .box 43 (rcCs (1 + q) 1 0 0 0 0 0 0 (.own 90))), (90, .row 25 12 ((ev.take (i + 1)).map fun e => pushE 1 (fitE e)).length true (evF ((ev.take (i + 1)).map fun e => pushE 1 (fitE e))))], [], 91⟩) (fun j => 20 - j.1) ⟨0, Nat.zero_le _, Nat.zero_le _⟩ _
          (LeR.mk' [] _ _ _ rfl ⟨AEq.refl _, AEq.refl _, AEq.refl _, AEq.refl _, trivial⟩ ⟨⟨_, rfl, OEq.refl _⟩, ⟨_, rfl, OEq.refl _⟩, ⟨_, rfl, OEq.refl _⟩, trivial⟩ rfl) ?_
      rintro ⟨_ | i, hj, hj20⟩
      · dsimp only [rcCs]
        have hf := hfit 0 (by omega)
        have hg := hrng 0
        have hat := fit_at' (f := fun e => pushE 1 (fitE e)) (l := ev) (m := 0 + 1) (j := 0) (by omega) (by omega)
        generalize fitE (ev.getD 0 default) = y at hf hg hat
        obtain ⟨yr, yn, ⟨y0, y1, y2, y3, y4⟩, yh, yk, ykey, yl, yv⟩ := y
        obtain ⟨g1, g2, g3, g4⟩ := hg
        dsimp only at g1 g2 g3 g4
        dsimp only [Ev.av, Ev.cs] at hf
        rcases (show yr = 0 ∨ yr = 1 ∨ yr = 2 ∨ yr = 3 ∨ yr = 4 by omega) with rfl | rfl | rfl | rfl | rfl
        all_goals repeat' ((conv => whnf); first | refine Spl.yes (by first | assumption | omega) ?_ | refine Spl.no (by first | assumption | omega) ?_ | refine Wr.i64 (by omega) (by omega) ?_ | refine Still.mk rfl rfl ?_ | refine InB.mk (inB_mk (by omega) (by omega)) ?_ | refine Req.mk (by omega) ?_ | refine Req.mk ⟨by first | omega | (dsimp only; omega), by first | omega | (dsimp only; omega)⟩ ?_ | refine ACall.plain _ _ (hf) (SubL.cons (.eq _) .nil) rfl ?_ | refine ARet.hdI ?_ | refine Spl.mk (fun _ => ?_) (fun _ => ?_) | refine Wr.b64 ?_ | refine Wr.bu64 ?_ | refine Wr.bu32 ?_ | refine Wr.bu8 ?_ | refine Wr.u8 (by omega) (by omega) ?_ | refine Wr.u64 (by omega) (by omega) ?_ | refine Wr.u32 (by omega) (by omega) ?_ | refine Dv.pos (by omega) (by omega) ?_ | refine Rm.pos (by omega) (by omega) ?_ | refine ADraw.quiet follows_ok (by kernel_rfl) rfl ?_ | refine BSpl.decY (by first | assumption | omega) ?_ | refine BSpl.decN (by first | assumption | omega) ?_ | refine BSpl.dec (fun _ => ?_) (fun _ => ?_) | refine BSpl.yes (by assumption) ?_ | refine BSpl.no (by assumption) ?_ | refine BSpl.mk (fun _ => ?_) (fun _ => ?_))
        all_goals first
          | (conv => whnf
             refine ⟨⟨0 + 1, by omega, by omega⟩, _, LeR.mk' [(5, 90)] _ _ _ rfl ⟨AEq.refl _, AEq.refl _, AEq.refl _, AEq.int rfl, trivial⟩ ⟨⟨_, rfl, OEq.refl _⟩, ⟨_, rfl, OEq.refl _⟩, ⟨_, rfl, OEq.refl _⟩, ⟨_, rfl, OEq.row (by simp; omega) (fun i hi => ?_)⟩, trivial⟩ rfl, by show 20 - (0 + 1) < 20 - 0; omega⟩
             have hi : i < 1 := hi
             obtain rfl : i = 0 := by omega
             show _ = Ev.cs (((ev.take (0 + 1)).map fun e => pushE 1 (fitE e)).getD 0 default)
             rw [hat]
             rfl)
          | (exfalso; omega)
      · have hLi : ((ev.take (i + 1)).map fun e => pushE 1 (fitE e)).length = i + 1 := by simp; omega
        dsimp only [rcCs]
        by_cases hlt : i + 1 < ev.length
        · have hf := hfit ((i : Int) + 1).toNat (by omega)
          have hg := hrng ((i : Int) + 1).toNat
          have hsu := fit_succ' (f := fun e => pushE 1 (fitE e)) hlt
          generalize hgd : fitE (ev.getD ((i : Int) + 1).toNat default) = y at hf hg
          rw [show fitE (ev.getD (i + 1) default) = y from hgd] at hsu
          clear hgd
          obtain ⟨yr, yn, ⟨y0, y1, y2, y3, y4⟩, yh, yk, ykey, yl, yv⟩ := y
          obtain ⟨g1, g2, g3, g4⟩ := hg
          dsimp only at g1 g2 g3 g4
          dsimp only [Ev.av, Ev.cs] at hf
          rcases (show yr = 0 ∨ yr = 1 ∨ yr = 2 ∨ yr = 3 ∨ yr = 4 by omega) with rfl | rfl | rfl | rfl | rfl
          all_goals repeat' ((conv => whnf); first | refine Spl.yes (by first | assumption | omega) ?_ | refine Spl.no (by first | assumption | omega) ?_ | refine Wr.i64 (by omega) (by omega) ?_ | refine Still.mk rfl rfl ?_ | refine InB.mk (inB_mk (by omega) (by omega)) ?_ | refine Req.mk (by omega) ?_ | refine Req.mk ⟨by first | omega | (dsimp only; omega), by first | omega | (dsimp only; omega)⟩ ?_ | refine ACall.plain _ _ (hf) (SubL.cons (.eq _) .nil) rfl ?_ | refine ARet.hdI ?_ | refine Spl.mk (fun _ => ?_) (fun _ => ?_) | refine Wr.b64 ?_ | refine Wr.bu64 ?_ | refine Wr.bu32 ?_ | refine Wr.bu8 ?_ | refine Wr.u8 (by omega) (by omega) ?_ | refine Wr.u64 (by omega) (by omega) ?_ | refine Wr.u32 (by omega) (by omega) ?_ | refine Dv.pos (by omega) (by omega) ?_ | refine Rm.pos (by omega) (by omega) ?_ | refine ADraw.quiet follows_ok (by kernel_rfl) rfl ?_ | refine BSpl.decY (by first | assumption | omega) ?_ | refine BSpl.decN (by first | assumption | omega) ?_ | refine BSpl.dec (fun _ => ?_) (fun _ => ?_) | refine BSpl.yes (by assumption) ?_ | refine BSpl.no (by assumption) ?_ | refine BSpl.mk (fun _ => ?_) (fun _ => ?_))
          all_goals first
            | (conv => whnf
               refine ⟨⟨i + 1 + 1, by omega, by omega⟩, _, LeR.mk' [(93, 90)] _ _ _ rfl ⟨AEq.refl _, AEq.refl _, AEq.refl _, AEq.int rfl, trivial⟩ ⟨⟨_, rfl, OEq.refl _⟩, ⟨_, rfl, OEq.refl _⟩, ⟨_, rfl, OEq.refl _⟩, ⟨_, rfl, OEq.row (by simp; omega) (fun m hm => ?_)⟩, trivial⟩ rfl, by show 20 - (i + 1 + 1) < 20 - (i + 1); omega⟩
               rw [hsu]
               exact els_app1 (c := Ev.cs) rfl rfl m hm)
            | (conv => whnf
               rw [show ev.take 20 = ev.take (i + 1) by rw [List.take_eq_take_iff]; omega]
               rw [hk]
               exact AEqI.mk (AEq.refl _))
        · repeat' ((conv => whnf); first | refine Spl.yes (by first | assumption | omega) ?_ | refine Spl.no (by first | assumption | omega) ?_ | refine Wr.i64 (by omega) (by omega) ?_ | refine Still.mk rfl rfl ?_ | refine InB.mk (inB_mk (by omega) (by omega)) ?_ | refine Req.mk (by omega) ?_ | refine Req.mk ⟨by first | omega | (dsimp only; omega), by first | omega | (dsimp only; omega)⟩ ?_ | refine ARet.hdI ?_ | refine Spl.mk (fun _ => ?_) (fun _ => ?_) | refine Wr.b64 ?_ | refine Wr.bu64 ?_ | refine Wr.bu32 ?_ | refine Wr.bu8 ?_ | refine Wr.u8 (by omega) (by omega) ?_ | refine Wr.u64 (by omega) (by omega) ?_ | refine Wr.u32 (by omega) (by omega) ?_ | refine Dv.pos (by omega) (by omega) ?_ | refine Rm.pos (by omega) (by omega) ?_ | refine ADraw.quiet follows_ok (by kernel_rfl) rfl ?_ | refine BSpl.decY (by first | assumption | omega) ?_ | refine BSpl.decN (by first | assumption | omega) ?_ | refine BSpl.dec (fun _ => ?_) (fun _ => ?_) | refine BSpl.yes (by assumption) ?_ | refine BSpl.no (by assumption) ?_ | refine BSpl.mk (fun _ => ?_) (fun _ => ?_))
          all_goals (conv => whnf)
          all_goals (rw [show ev.take 20 = ev.take (i + 1) by rw [List.take_eq_take_iff]; omega, hk]; exact AEqI.mk (AEq.refl _))
    · refine aspec_of lay_ok 80372463930252565938303 Try.func33 rfl rfl rfl ?_
      repeat' ((conv => whnf); first | refine Spl.yes (by first | assumption | omega) ?_ | refine Spl.no (by first | assumption | omega) ?_ | refine Wr.i64 (by omega) (by omega) ?_ | refine Still.mk rfl rfl ?_ | refine InB.mk (inB_mk (by omega) (by omega)) ?_ | refine Req.mk (by omega) ?_ | refine Req.mk ⟨by first | omega | (dsimp only; omega), by first | omega | (dsimp only; omega)⟩ ?_ | refine Rm.is (by omega) (by omega) hq ?_ | refine Rm.is (by omega) (by omega) hro ?_ | refine Rm.raw5 ?_ | refine ARet.hdI ?_ | refine Spl.mk (fun _ => ?_) (fun _ => ?_) | refine Wr.b64 ?_ | refine Wr.bu64 ?_ | refine Wr.bu32 ?_ | refine Wr.bu8 ?_ | refine Wr.u8 (by omega) (by omega) ?_ | refine Wr.u64 (by omega) (by omega) ?_ | refine Wr.u32 (by omega) (by omega) ?_ | refine Dv.pos (by omega) (by omega) ?_ | refine Rm.pos (by omega) (by omega) ?_ | refine ADraw.quiet follows_ok (by kernel_rfl) rfl ?_ | refine BSpl.decY (by first | assumption | omega) ?_ | refine BSpl.decN (by first | assumption | omega) ?_ | refine BSpl.dec (fun _ => ?_) (fun _ => ?_) | refine BSpl.yes (by assumption) ?_ | refine BSpl.no (by assumption) ?_ | refine BSpl.mk (fun _ => ?_) (fun _ => ?_))
      conv => whnf
      refine ALoop.mk { j : Nat // j ≤ ev.length ∧ j ≤ 20 } (fun j => match j with
          | ⟨0, _⟩ => ⟨[(1, .box 0 0), (2, .box 1 0), (3, .box 2 0), (5, .v (.int .i64 0))],
            [(0, .box 43 (rcCs k r u c0 c1 c2 c3 c4 (.sl 12 ev.length true (evF ev)))), (1, .box 43 (rcCs 0 0 0 0 0 0 0 0 (.v (.slice none 0 0)))), (2, .box 43 (rcCs (1 + q) 2 0 0 0 0 0 0 (.v (.slice none 0 0))))], [], 3⟩
          | ⟨i + 1, _⟩ => ⟨[(1, .box 0 0), (2, .box 1 0), (3, .box 2 0), (5, .v (.int .i64 ((i : Int) + 1)))],
            [(0, .box 43 (rcCs k r u c0 c1 c2 c3 c4 (.sl 12 ev.length true (evF ev)))), (1, .box 43 (rcCs 0 0 0 0 0 0 0 0 (.v (.slice none 0 0)))), (2, .box 43 (rcCs (1 + q) 2 0 0 0 0 0 0 (.own 90))), (90, .row 25 12 ((ev.take (i + 1)).map fun e => pushE 2 (fitE e)).length true (evF ((ev.take (i + 1)).map fun e => pushE 2 (fitE e))))], [], 91⟩) (fun j => 20 - j.1) ⟨0, Nat.zero_le _, Nat.zero_le _⟩ _
          (LeR.mk' [] _ _ _ rfl ⟨AEq.refl _, AEq.refl _, AEq.refl _, AEq.refl _, trivial⟩ ⟨⟨_, rfl, OEq.refl _⟩, ⟨_, rfl, OEq.refl _⟩, ⟨_, rfl, OEq.refl _⟩, trivial⟩ rfl) ?_
      rintro ⟨_ | i, hj, hj20⟩
      · dsimp only [rcCs]
        have hf := hfit 0 (by omega)
        have hg := hrng 0
        have hat := fit_at' (f := fun e => pushE 2 (fitE e)) (l := ev) (m := 0 + 1) (j := 0) (by omega) (by omega)
        generalize fitE (ev.getD 0 default) = y at hf hg hat
        obtain ⟨yr, yn, ⟨y0, y1, y2, y3, y4⟩, yh, yk, ykey, yl, yv⟩ := y
        obtain ⟨g1, g2, g3, g4⟩ := hg
        dsimp only at g1 g2 g3 g4
        dsimp only [Ev.av, Ev.cs] at hf
        rcases (show yr = 0 ∨ yr = 1 ∨ yr = 2 ∨ yr = 3 ∨ yr = 4 by omega) with rfl | rfl | rfl | rfl | rfl
        all_goals repeat' ((conv => whnf); first | refine Spl.yes (by first | assumption | omega) ?_ | refine Spl.no (by first | assumption | omega) ?_ | refine Wr.i64 (by omega) (by omega) ?_ | refine Still.mk rfl rfl ?_ | refine InB.mk (inB_mk (by omega) (by omega)) ?_ | refine Req.mk (by omega) ?_ | refine Req.mk ⟨by first | omega | (dsimp only; omega), by first | omega | (dsimp only; omega)⟩ ?_ | refine ACall.plain _ _ (hf) (SubL.cons (.eq _) .nil) rfl ?_ | refine ARet.hdI ?_ | refine Spl.mk (fun _ => ?_) (fun _ => ?_) | refine Wr.b64 ?_ | refine Wr.bu64 ?_ | refine Wr.bu32 ?_ | refine Wr.bu8 ?_ | refine Wr.u8 (by omega) (by omega) ?_ | refine Wr.u64 (by omega) (by omega) ?_ | refine Wr.u32 (by omega) (by omega) ?_ | refine Dv.pos (by omega) (by omega) ?_ | refine Rm.pos (by omega) (by omega) ?_ | refine ADraw.quiet follows_ok (by kernel_rfl) rfl ?_ | refine BSpl.decY (by first | assumption | omega) ?_ | refine BSpl.decN (by first | assumption | omega) ?_ | refine BSpl.dec (fun _ => ?_) (fun _ => ?_) | refine BSpl.yes (by assumption) ?_ | refine BSpl.no (by assumption) ?_ | refine BSpl.mk (fun _ => ?_) (fun _ => ?_))
        all_goals first
          | (conv => whnf
             refine ⟨⟨0 + 1, by omega, by omega⟩, _, LeR.mk' [(5, 90)] _ _ _ rfl ⟨AEq.refl _, AEq.refl _, AEq.refl _, AEq.int rfl, trivial⟩ ⟨⟨_, rfl, OEq.refl _⟩, ⟨_, rfl, OEq.refl _⟩, ⟨_, rfl, OEq.refl _⟩, ⟨_, rfl, OEq.row (by simp; omega) (fun i hi => ?_)⟩, trivial⟩ rfl, by show 20 - (0 + 1) < 20 - 0; omega⟩
             have hi : i < 1 := hi
             obtain rfl : i = 0 := by omega
             show _ = Ev.cs (((ev.take (0 + 1)).map fun e => pushE 2 (fitE e)).getD 0 default)
             rw [hat]
             rfl)
          | (exfalso; omega)
      · have hLi : ((ev.take (i + 1)).map fun e => pushE 2 (fitE e)).length = i + 1 := by simp; omega
        dsimp only [rcCs]
        by_cases hlt : i + 1 < ev.length
        · have hf := hfit ((i : Int) + 1).toNat (by omega)
          have hg := hrng ((i : Int) + 1).toNat
          have hsu := fit_succ' (f := fun e => pushE 2 (fitE e)) hlt
          generalize hgd : fitE (ev.getD ((i : Int) + 1).toNat default) = y at hf hg
          rw [show fitE (ev.getD (i + 1) default) = y from hgd] at hsu
          clear hgd
          obtain ⟨yr, yn, ⟨y0, y1, y2, y3, y4⟩, yh, yk, ykey, yl, yv⟩ := y
          obtain ⟨g1, g2, g3, g4⟩ := hg
          dsimp only at g1 g2 g3 g4
          dsimp only [Ev.av, Ev.cs] at hf
          rcases (show yr = 0 ∨ yr = 1 ∨ yr = 2 ∨ yr = 3 ∨ yr = 4 by omega) with rfl | rfl | rfl | rfl | rfl
          all_goals repeat' ((conv => whnf); first | refine Spl.yes (by first | assumption | omega) ?_ | refine Spl.no (by first | assumption | omega) ?_ | refine Wr.i64 (by omega) (by omega) ?_ | refine Still.mk rfl rfl ?_ | refine InB.mk (inB_mk (by omega) (by omega)) ?_ | refine Req.mk (by omega) ?_ | refine Req.mk ⟨by first | omega | (dsimp only; omega), by first | omega | (dsimp only; omega)⟩ ?_ | refine ACall.plain _ _ (hf) (SubL.cons (.eq _) .nil) rfl ?_ | refine ARet.hdI ?_ | refine Spl.mk (fun _ => ?_) (fun _ => ?_) | refine Wr.b64 ?_ | refine Wr.bu64 ?_ | refine Wr.bu32 ?_ | refine Wr.bu8 ?_ | refine Wr.u8 (by omega) (by omega) ?_ | refine Wr.u64 (by omega) (by omega) ?_ | refine Wr.u32 (by omega) (by omega) ?_ | refine Dv.pos (by omega) (by omega) ?_ | refine Rm.pos (by omega) (by omega) ?_ | refine ADraw.quiet follows_ok (by kernel_rfl) rfl ?_ | refine BSpl.decY (by first | assumption | omega) ?_ | refine BSpl.decN (by first | assumption | omega) ?_ | refine BSpl.dec (fun _ => ?_) (fun _ => ?_) | refine BSpl.yes (by assumption) ?_ | refine BSpl.no (by assumption) ?_ | refine BSpl.mk (fun _ => ?_) (fun _ => ?_))
          all_goals first
            | (conv => whnf
               refine ⟨⟨i + 1 + 1, by omega, by omega⟩, _, LeR.mk' [(93, 90)] _ _ _ rfl ⟨AEq.refl _, AEq.refl _, AEq.refl _, AEq.int rfl, trivial⟩ ⟨⟨_, rfl, OEq.refl _⟩, ⟨_, rfl, OEq.refl _⟩, ⟨_, rfl, OEq.refl _⟩, ⟨_, rfl, OEq.row (by simp; omega) (fun m hm => ?_)⟩, trivial⟩ rfl, by show 20 - (i + 1 + 1) < 20 - (i + 1); omega⟩
               rw [hsu]
               exact els_app1 (c := Ev.cs) rfl rfl m hm)
            | (conv => whnf
               rw [show ev.take 20 = ev.take (i + 1) by rw [List.take_eq_take_iff]; omega]
               rw [hk]
               exact AEqI.mk (AEq.refl _))
        · repeat' ((conv => whnf); first | refine Spl.yes (by first | assumption | omega) ?_ | refine Spl.no (by first | assumption | omega) ?_ | refine Wr.i64 (by omega) (by omega) ?_ | refine Still.mk rfl rfl ?_ | refine InB.mk (inB_mk (by omega) (by omega)) ?_ | refine Req.mk (by omega) ?_ | refine Req.mk ⟨by first | omega | (dsimp only; omega), by first | omega | (dsimp only; omega)⟩ ?_ | refine ARet.hdI ?_ | refine Spl.mk (fun _ => ?_) (fun _ => ?_) | refine Wr.b64 ?_ | refine Wr.bu64 ?_ | refine Wr.bu32 ?_ | refine Wr.bu8 ?_ | refine Wr.u8 (by omega) (by omega) ?_ | refine Wr.u64 (by omega) (by omega) ?_ | refine Wr.u32 (by omega) (by omega) ?_ | refine Dv.pos (by omega) (by omega) ?_ | refine Rm.pos (by omega) (by omega) ?_ | refine ADraw.quiet follows_ok (by kernel_rfl) rfl ?_ | refine BSpl.decY (by first | assumption | omega) ?_ | refine BSpl.decN (by first | assumption | omega) ?_ | refine BSpl.dec (fun _ => ?_) (fun _ => ?_) | refine BSpl.yes (by assumption) ?_ | refine BSpl.no (by assumption) ?_ | refine BSpl.mk (fun _ => ?_) (fun _ => ?_))
          all_goals (conv => whnf)
          all_goals (rw [show ev.take 20 = ev.take (i + 1) by rw [List.take_eq_take_iff]; omega, hk]; exact AEqI.mk (AEq.refl _))
    · refine aspec_of lay_ok 80372463930252565938303 Try.func33 rfl rfl rfl ?_
      repeat' ((conv => whnf); first | refine Spl.yes (by first | assumption | omega) ?_ | refine Spl.no (by first | assumption | omega) ?_ | refine Wr.i64 (by omega) (by omega) ?_ | refine Still.mk rfl rfl ?_ | refine InB.mk (inB_mk (by omega) (by omega)) ?_ | refine Req.mk (by omega) ?_ | refine Req.mk ⟨by first | omega | (dsimp only; omega), by first | omega | (dsimp only; omega)⟩ ?_ | refine Rm.is (by omega) (by omega) hq ?_ | refine Rm.is (by omega) (by omega) hro ?_ | refine Rm.raw5 ?_ | refine ARet.hdI ?_ | refine Spl.mk (fun _ => ?_) (fun _ => ?_) | refine Wr.b64 ?_ | refine Wr.bu64 ?_ | refine Wr.bu32 ?_ | refine Wr.bu8 ?_ | refine Wr.u8 (by omega) (by omega) ?_ | refine Wr.u64 (by omega) (by omega) ?_ | refine Wr.u32 (by omega) (by omega) ?_ | refine Dv.pos (by omega) (by omega) ?_ | refine Rm.pos (by omega) (by omega) ?_ | refine ADraw.quiet follows_ok (by kernel_rfl) rfl ?_ | refine BSpl.decY (by first | assumption | omega) ?_ | refine BSpl.decN (by first | assumption | omega) ?_ | refine BSpl.dec (fun _ => ?_) (fun _ => ?_) | refine BSpl.yes (by assumption) ?_ | refine BSpl.no (by assumption) ?_ | refine BSpl.mk (fun _ => ?_) (fun _ => ?_))
      conv => whnf
      refine ALoop.mk { j : Nat // j ≤ ev.length ∧ j ≤ 20 } (fun j => match j with
          | ⟨0, _⟩ => ⟨[(1, .box 0 0), (2, .box 1 0), (3, .box 2 0), (5, .v (.int .i64 0))],
            [(0, .box 43 (rcCs k r u c0 c1 c2 c3 c4 (.sl 12 ev.length true (evF ev)))), (1, .box 43 (rcCs 0 0 0 0 0 0 0 0 (.v (.slice none 0 0)))), (2, .box 43 (rcCs (1 + q) 3 0 0 0 0 0 0 (.v (.slice none 0 0))))], [], 3⟩
          | ⟨i + 1, _⟩ => ⟨[(1, .box 0 0), (2, .box 1 0), (3, .box 2 0), (5, .v (.int .i64 ((i : Int) + 1)))],
            [(0, .box 43 (rcCs k r u c0 c1 c2 c3 c4 (.sl 12 ev.length true (evF ev)))), (1, .box 43 (rcCs 0 0 0 0 0 0 0 0 (.v (.slice none 0 0)))), (2, .box 43 (rcCs (1 + q) 3 0 0 0 0 0 0 (.own 90))), (90, .row 25 12 ((ev.take (i + 1)).map fun e => pushE 3 (fitE e)).length true (evF ((ev.take (i + 1)).map fun e => pushE 3 (fitE e))))], [], 91⟩) (fun j => 20 - j.1) ⟨0, Nat.zero_le _, Nat.zero_le _⟩ _
          (LeR.mk' [] _ _ _ rfl ⟨AEq.refl _, AEq.refl _, AEq.refl _, AEq.refl _, trivial⟩ ⟨⟨_, rfl, OEq.refl _⟩, ⟨_, rfl, OEq.refl _⟩, ⟨_, rfl, OEq.refl _⟩, trivial⟩ rfl) ?_
      rintro ⟨_ | i, hj, hj20⟩
      · dsimp only [rcCs]
        have hf := hfit 0 (by omega)
        have hg := hrng 0
        have hat := fit_at' (f := fun e => pushE 3 (fitE e)) (l := ev) (m := 0 + 1) (j := 0) (by omega) (by omega)
        generalize fitE (ev.getD 0 default) = y at hf hg hat
        obtain ⟨yr, yn, ⟨y0, y1, y2, y3, y4⟩, yh, yk, ykey, yl, yv⟩ := y
        obtain ⟨g1, g2, g3, g4⟩ := hg
        dsimp only at g1 g2 g3 g4
        dsimp only [Ev.av, Ev.cs] at hf
        rcases (show yr = 0 ∨ yr = 1 ∨ yr = 2 ∨ yr = 3 ∨ yr = 4 by omega) with rfl | rfl | rfl | rfl | rfl
        all_goals repeat' ((conv => whnf); first | refine Spl.yes (by first | assumption | omega) ?_ | refine Spl.no (by first | assumption | omega) ?_ | refine Wr.i64 (by omega) (by omega) ?_ | refine Still.mk rfl rfl ?_ | refine InB.mk (inB_mk (by omega) (by omega)) ?_ | refine Req.mk (by omega) ?_ | refine Req.mk ⟨by first | omega | (dsimp only; omega), by first | omega | (dsimp only; omega)⟩ ?_ | refine ACall.plain _ _ (hf) (SubL.cons (.eq _) .nil) rfl ?_ | refine ARet.hdI ?_ | refine Spl.mk (fun _ => ?_) (fun _ => ?_) | refine Wr.b64 ?_ | refine Wr.bu64 ?_ | refine Wr.bu32 ?_ | refine Wr.bu8 ?_ | refine Wr.u8 (by omega) (by omega) ?_ | refine Wr.u64 (by omega) (by omega) ?_ | refine Wr.u32 (by omega) (by omega) ?_ | refine Dv.pos (by omega) (by omega) ?_ | refine Rm.pos (by omega) (by omega) ?_ | refine ADraw.quiet follows_ok (by kernel_rfl) rfl ?_ | refine BSpl.decY (by first | assumption | omega) ?_ | refine BSpl.decN (by first | assumption | omega) ?_ | refine BSpl.dec (fun _ => ?_) (fun _ => ?_) | refine BSpl.yes (by assumption) ?_ | refine BSpl.no (by assumption) ?_ | refine BSpl.mk (fun _ => ?_) (fun _ => ?_))
        all_goals first
          | (conv => whnf
             refine ⟨⟨0 + 1, by omega, by omega⟩, _, LeR.mk' [(5, 90)] _ _ _ rfl ⟨AEq.refl _, AEq.refl _, AEq.refl _, AEq.int rfl, trivial⟩ ⟨⟨_, rfl, OEq.refl _⟩, ⟨_, rfl, OEq.refl _⟩, ⟨_, rfl, OEq.refl _⟩, ⟨_, rfl, OEq.row (by simp; omega) (fun i hi => ?_)⟩, trivial⟩ rfl, by show 20 - (0 + 1) < 20 - 0; omega⟩
             have hi : i < 1 := hi
             obtain rfl : i = 0 := by omega
             show _ = Ev.cs (((ev.take (0 + 1)).map fun e => pushE 3 (fitE e)).getD 0 default)
             rw [hat]
             rfl)
          | (exfalso; omega)
      · have hLi : ((ev.take (i + 1)).map fun e => pushE 3 (fitE e)).length = i + 1 := by simp; omega
        dsimp only [rcCs]
        by_cases hlt : i + 1 < ev.length
        · have hf := hfit ((i : Int) + 1).toNat (by omega)
          have hg := hrng ((i : Int) + 1).toNat
          have hsu := fit_succ' (f := fun e => pushE 3 (fitE e)) hlt
          generalize hgd : fitE (ev.getD ((i : Int) + 1).toNat default) = y at hf hg
          rw [show fitE (ev.getD (i + 1) default) = y from hgd] at hsu
          clear hgd
          obtain ⟨yr, yn, ⟨y0, y1, y2, y3, y4⟩, yh, yk, ykey, yl, yv⟩ := y
          obtain ⟨g1, g2, g3, g4⟩ := hg
          dsimp only at g1 g2 g3 g4
          dsimp only [Ev.av, Ev.cs] at hf
          rcases (show yr = 0 ∨ yr = 1 ∨ yr = 2 ∨ yr = 3 ∨ yr = 4 by omega) with rfl | rfl | rfl | rfl | rfl
          all_goals repeat' ((conv => whnf); first | refine Spl.yes (by first | assumption | omega) ?_ | refine Spl.no (by first | assumption | omega) ?_ | refine Wr.i64 (by omega) (by omega) ?_ | refine Still.mk rfl rfl ?_ | refine InB.mk (inB_mk (by omega) (by omega)) ?_ | refine Req.mk (by omega) ?_ | refine Req.mk ⟨by first | omega | (dsimp only; omega), by first | omega | (dsimp only; omega)⟩ ?_ | refine ACall.plain _ _ (hf) (SubL.cons (.eq _) .nil) rfl ?_ | refine ARet.hdI ?_ | refine Spl.mk (fun _ => ?_) (fun _ => ?_) | refine Wr.b64 ?_ | refine Wr.bu64 ?_ | refine Wr.bu32 ?_ | refine Wr.bu8 ?_ | refine Wr.u8 (by omega) (by omega) ?_ | refine Wr.u64 (by omega) (by omega) ?_ | refine Wr.u32 (by omega) (by omega) ?_ | refine Dv.pos (by omega) (by omega) ?_ | refine Rm.pos (by omega) (by omega) ?_ | refine ADraw.quiet follows_ok (by kernel_rfl) rfl ?_ | refine BSpl.decY (by first | assumption | omega) ?_ | refine BSpl.decN (by first | assumption | omega) ?_ | refine BSpl.dec (fun _ => ?_) (fun _ => ?_) | refine BSpl.yes (by assumption) ?_ | refine BSpl.no (by assumption) ?_ | refine BSpl.mk (fun _ => ?_) (fun _ => ?_))
          all_goals first
            | (conv => whnf
               refine ⟨⟨i + 1 + 1, by omega, by omega⟩, _, LeR.mk' [(93, 90)] _ _ _ rfl ⟨AEq.refl _, AEq.refl _, AEq.refl _, AEq.int rfl, trivial⟩ ⟨⟨_, rfl, OEq.refl _⟩, ⟨_, rfl, OEq.refl _⟩, ⟨_, rfl, OEq.refl _⟩, ⟨_, rfl, OEq.row (by simp; omega) (fun m hm => ?_)⟩, trivial⟩ rfl, by show 20 - (i + 1 + 1) < 20 - (i + 1); omega⟩
               rw [hsu]
               exact els_app1 (c := Ev.cs) rfl rfl m hm)
            | (conv => whnf
               rw [show ev.take 20 = ev.take (i + 1) by rw [List.take_eq_take_iff]; omega]
               rw [hk]
               exact AEqI.mk (AEq.refl _))
        · repeat' ((conv => whnf); first | refine Spl.yes (by first | assumption | omega) ?_ | refine Spl.no (by first | assumption | omega) ?_ | refine Wr.i64 (by omega) (by omega) ?_ | refine Still.mk rfl rfl ?_ | refine InB.mk (inB_mk (by omega) (by omega)) ?_ | refine Req.mk (by omega) ?_ | refine Req.mk ⟨by first | omega | (dsimp only; omega), by first | omega | (dsimp only; omega)⟩ ?_ | refine ARet.hdI ?_ | refine Spl.mk (fun _ => ?_) (fun _ => ?_) | refine Wr.b64 ?_ | refine Wr.bu64 ?_ | refine Wr.bu32 ?_ | refine Wr.bu8 ?_ | refine Wr.u8 (by omega) (by omega) ?_ | refine Wr.u64 (by omega) (by omega) ?_ | refine Wr.u32 (by omega) (by omega) ?_ | refine Dv.pos (by omega) (by omega) ?_ | refine Rm.pos (by omega) (by omega) ?_ | refine ADraw.quiet follows_ok (by kernel_rfl) rfl ?_ | refine BSpl.decY (by first | assumption | omega) ?_ | refine BSpl.decN (by first | assumption | omega) ?_ | refine BSpl.dec (fun _ => ?_) (fun _ => ?_) | refine BSpl.yes (by assumption) ?_ | refine BSpl.no (by assumption) ?_ | refine BSpl.mk (fun _ => ?_) (fun _ => ?_))
          all_goals (conv => whnf)
          all_goals (rw [show ev.take 20 = ev.take (i + 1) by rw [List.take_eq_take_iff]; omega, hk]; exact AEqI.mk (AEq.refl _))
    · refine aspec_of lay_ok 80372463930252565938303 Try.func33 rfl rfl rfl ?_
      repeat' ((conv => whnf); first | refine Spl.yes (by first | assumption | omega) ?_ | refine Spl.no (by first | assumption | omega) ?_ | refine Wr.i64 (by omega) (by omega) ?_ | refine Still.mk rfl rfl ?_ | refine InB.mk (inB_mk (by omega) (by omega)) ?_ | refine Req.mk (by omega) ?_ | refine Req.mk ⟨by first | omega | (dsimp only; omega), by first | omega | (dsimp only; omega)⟩ ?_ | refine Rm.is (by omega) (by omega) hq ?_ | refine Rm.is (by omega) (by omega) hro ?_ | refine Rm.raw5 ?_ | refine ARet.hdI ?_ | refine Spl.mk (fun _ => ?_) (fun _ => ?_) | refine Wr.b64 ?_ | refine Wr.bu64 ?_ | refine Wr.bu32 ?_ | refine Wr.bu8 ?_ | refine Wr.u8 (by omega) (by omega) ?_ | refine Wr.u64 (by omega) (by omega) ?_ | refine Wr.u32 (by omega) (by omega) ?_ | refine Dv.pos (by omega) (by omega) ?_ | refine Rm.pos (by omega) (by omega) ?_ | refine ADraw.quiet follows_ok (by kernel_rfl) rfl ?_ | refine BSpl.decY (by first | assumption | omega) ?_ | refine BSpl.decN (by first | assumption | omega) ?_ | refine BSpl.dec (fun _ => ?_) (fun _ => ?_) | refine BSpl.yes (by assumption) ?_ | refine BSpl.no (by assumption) ?_ | refine BSpl.mk (fun _ => ?_) (fun _ => ?_))
      conv => whnf
      refine ALoop.mk { j : Nat // j ≤ ev.length ∧ j ≤ 20 } (fun j => match j with
          | ⟨0, _⟩ => ⟨[(1, .box 0 0), (2, .box 1 0), (3, .box 2 0), (5, .v (.int .i64 0))],
            [(0, .box 43 (rcCs k r u c0 c1 c2 c3 c4 (.sl 12 ev.length true (evF ev)))), (1, .box 43 (rcCs 0 0 0 0 0 0 0 0 (.v (.slice none 0 0)))), (2, .box 43 (rcCs (1 + q) 4 0 0 0 0 0 0 (.v (.slice none 0 0))))], [], 3⟩
          | ⟨i + 1, _⟩ => ⟨[(1, .box 0 0), (2, .box 1 0), (3, .box 2 0), (5, .v (.int .i64 ((i : Int) + 1)))],
            [(0, .box 43 (rcCs k r u c0 c1 c2 c3 c4 (.sl 12 ev.length true (evF ev)))), (1, .box 43 (rcCs 0 0 0 0 0 0 0 0 (.v (.slice none 0 0)))), (2, .box 43 (rcCs (1 + q) 4 0 0 0 0 0 0 (.own 90))), (90, .row 25 12 ((ev.take (i + 1)).map fun e => pushE 4 (fitE e)).length true (evF ((ev.take (i + 1)).map fun e => pushE 4 (fitE e))))], [], 91⟩) (fun j => 20 - j.1) ⟨0, Nat.zero_le _, Nat.zero_le _⟩ _
          (LeR.mk' [] _ _ _ rfl ⟨AEq.refl _, AEq.refl _, AEq.refl _, AEq.refl _, trivial⟩ ⟨⟨_, rfl, OEq.refl _⟩, ⟨_, rfl, OEq.refl _⟩, ⟨_, rfl, OEq.refl _⟩, trivial⟩ rfl) ?_
      rintro ⟨_ | i, hj, hj20⟩
      · dsimp only [rcCs]
        have hf := hfit 0 (by omega)
        have hg := hrng 0
        have hat := fit_at' (f := fun e => pushE 4 (fitE e)) (l := ev) (m := 0 + 1) (j := 0) (by omega) (by omega)
        generalize fitE (ev.getD 0 default) = y at hf hg hat
        obtain ⟨yr, yn, ⟨y0, y1, y2, y3, y4⟩, yh, yk, ykey, yl, yv⟩ := y
        obtain ⟨g1, g2, g3, g4⟩ := hg
        dsimp only at g1 g2 g3 g4
        dsimp only [Ev.av, Ev.cs] at hf
        rcases (show yr = 0 ∨ yr = 1 ∨ yr = 2 ∨ yr = 3 ∨ yr = 4 by omega) with rfl | rfl | rfl | rfl | rfl
        all_goals repeat' ((conv => whnf); first | refine Spl.yes (by first | assumption | omega) ?_ | refine Spl.no (by first | assumption | omega) ?_ | refine Wr.i64 (by omega) (by omega) ?_ | refine Still.mk rfl rfl ?_ | refine InB.mk (inB_mk (by omega) (by omega)) ?_ | refine Req.mk (by omega) ?_ | refine Req.mk ⟨by first | omega | (dsimp only; omega), by first | omega | (dsimp only; omega)⟩ ?_ | refine ACall.plain _ _ (hf) (SubL.cons (.eq _) .nil) rfl ?_ | refine ARet.hdI ?_ | refine Spl.mk (fun _ => ?_) (fun _ => ?_) | refine Wr.b64 ?_ | refine Wr.bu64 ?_ | refine Wr.bu32 ?_ | refine Wr.bu8 ?_ | refine Wr.u8 (by omega) (by omega) ?_ | refine Wr.u64 (by omega) (by omega) ?_ | refine Wr.u32 (by omega) (by omega) ?_ | refine Dv.pos (by omega) (by omega) ?_ | refine Rm.pos (by omega) (by omega) ?_ | refine ADraw.quiet follows_ok (by kernel_rfl) rfl ?_ | refine BSpl.decY (by first | assumption | omega) ?_ | refine BSpl.decN (by first | assumption | omega) ?_ | refine BSpl.dec (fun _ => ?_) (fun _ => ?_) | refine BSpl.yes (by assumption) ?_ | refine BSpl.no (by assumption) ?_ | refine BSpl.mk (fun _ => ?_) (fun _ => ?_))
        all_goals first
          | (conv => whnf
             refine ⟨⟨0 + 1, by omega, by omega⟩, _, LeR.mk' [(5, 90)] _ _ _ rfl ⟨AEq.refl _, AEq.refl _, AEq.refl _, AEq.int rfl, trivial⟩ ⟨⟨_, rfl, OEq.refl _⟩, ⟨_, rfl, OEq.refl _⟩, ⟨_, rfl, OEq.refl _⟩, ⟨_, rfl, OEq.row (by simp; omega) (fun i hi => ?_)⟩, trivial⟩ rfl, by show 20 - (0 + 1) < 20 - 0; omega⟩
             have hi : i < 1 := hi
             obtain rfl : i = 0 := by omega
             show _ = Ev.cs (((ev.take (0 + 1)).map fun e => pushE 4 (fitE e)).getD 0 default)
             rw [hat]
             rfl)
          | (exfalso; omega)
      · have hLi : ((ev.take (i + 1)).map fun e => pushE 4 (fitE e)).length = i + 1 := by simp; omega
        dsimp only [rcCs]
        by_cases hlt : i + 1 < ev.length
        · have hf := hfit ((i : Int) + 1).toNat (by omega)
          have hg := hrng ((i : Int) + 1).toNat
          have hsu := fit_succ' (f := fun e => pushE 4 (fitE e)) hlt
          generalize hgd : fitE (ev.getD ((i : Int) + 1).toNat default) = y at hf hg
          rw [show fitE (ev.getD (i + 1) default) = y from hgd] at hsu
          clear hgd
          obtain ⟨yr, yn, ⟨y0, y1, y2, y3, y4⟩, yh, yk, ykey, yl, yv⟩ := y
          obtain ⟨g1, g2, g3, g4⟩ := hg
          dsimp only at g1 g2 g3 g4
          dsimp only [Ev.av, Ev.cs] at hf
          rcases (show yr = 0 ∨ yr = 1 ∨ yr = 2 ∨ yr = 3 ∨ yr = 4 by omega) with rfl | rfl | rfl | rfl | rfl
          all_goals repeat' ((conv => whnf); first | refine Spl.yes (by first | assumption | omega) ?_ | refine Spl.no (by first | assumption | omega) ?_ | refine Wr.i64 (by omega) (by omega) ?_ | refine Still.mk rfl rfl ?_ | refine InB.mk (inB_mk (by omega) (by omega)) ?_ | refine Req.mk (by omega) ?_ | refine Req.mk ⟨by first | omega | (dsimp only; omega), by first | omega | (dsimp only; omega)⟩ ?_ | refine ACall.plain _ _ (hf) (SubL.cons (.eq _) .nil) rfl ?_ | refine ARet.hdI ?_ | refine Spl.mk (fun _ => ?_) (fun _ => ?_) | refine Wr.b64 ?_ | refine Wr.bu64 ?_ | refine Wr.bu32 ?_ | refine Wr.bu8 ?_ | refine Wr.u8 (by omega) (by omega) ?_ | refine Wr.u64 (by omega) (by omega) ?_ | refine Wr.u32 (by omega) (by omega) ?_ | refine Dv.pos (by omega) (by omega) ?_ | refine Rm.pos (by omega) (by omega) ?_ | refine ADraw.quiet follows_ok (by kernel_rfl) rfl ?_ | refine BSpl.decY (by first | assumption | omega) ?_ | refine BSpl.decN (by first | assumption | omega) ?_ | refine BSpl.dec (fun _ => ?_) (fun _ => ?_) | refine BSpl.yes (by assumption) ?_ | refine BSpl.no (by assumption) ?_ | refine BSpl.mk (fun _ => ?_) (fun _ => ?_))
          all_goals first
            | (conv => whnf
               refine ⟨⟨i + 1 + 1, by omega, by omega⟩, _, LeR.mk' [(93, 90)] _ _ _ rfl ⟨AEq.refl _, AEq.refl _, AEq.refl _, AEq.int rfl, trivial⟩ ⟨⟨_, rfl, OEq.refl _⟩, ⟨_, rfl, OEq.refl _⟩, ⟨_, rfl, OEq.refl _⟩, ⟨_, rfl, OEq.row (by simp; omega) (fun m hm => ?_)⟩, trivial⟩ rfl, by show 20 - (i + 1 + 1) < 20 - (i + 1); omega⟩
               rw [hsu]
               exact els_app1 (c := Ev.cs) rfl rfl m hm)
            | (conv => whnf
               rw [show ev.take 20 = ev.take (i + 1) by rw [List.take_eq_take_iff]; omega]
               rw [hk]
               exact AEqI.mk (AEq.refl _))
        · repeat' ((conv => whnf); first | refine Spl.yes (by first | assumption | omega) ?_ | refine Spl.no (by first | assumption | omega) ?_ | refine Wr.i64 (by omega) (by omega) ?_ | refine Still.mk rfl rfl ?_ | refine InB.mk (inB_mk (by omega) (by omega)) ?_ | refine Req.mk (by omega) ?_ | refine Req.mk ⟨by first | omega | (dsimp only; omega), by first | omega | (dsimp only; omega)⟩ ?_ | refine ARet.hdI ?_ | refine Spl.mk (fun _ => ?_) (fun _ => ?_) | refine Wr.b64 ?_ | refine Wr.bu64 ?_ | refine Wr.bu32 ?_ | refine Wr.bu8 ?_ | refine Wr.u8 (by omega) (by omega) ?_ | refine Wr.u64 (by omega) (by omega) ?_ | refine Wr.u32 (by omega) (by omega) ?_ | refine Dv.pos (by omega) (by omega) ?_ | refine Rm.pos (by omega) (by omega) ?_ | refine ADraw.quiet follows_ok (by kernel_rfl) rfl ?_ | refine BSpl.decY (by first | assumption | omega) ?_ | refine BSpl.decN (by first | assumption | omega) ?_ | refine BSpl.dec (fun _ => ?_) (fun _ => ?_) | refine BSpl.yes (by assumption) ?_ | refine BSpl.no (by assumption) ?_ | refine BSpl.mk (fun _ => ?_) (fun _ => ?_))
          all_goals (conv => whnf)
          all_goals (rw [show ev.take 20 = ev.take (i + 1) by rw [List.take_eq_take_iff]; omega, hk]; exact AEqI.mk (AEq.refl _))
end Go.Proofs.Ytbmojelnkldecaa
