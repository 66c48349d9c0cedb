/-
  Contacts without fields that are not set: plain.
-/
import Derived.Test.YtihjfndkgmjanaaBkB1
namespace Go.Proofs.Ytihjfndkgmjanaa
open Go.RowKit

def kS : ByteArray := ⟨#[107]⟩
def plainC (c : Cont) : Cont := ⟨kS ++ c.key, c.h0, c.h1, if c.h0 = true then c.f0 else ⟨#[]⟩, if c.h1 = true then c.f1 else ⟨#[]⟩, c.s0.take 10, c.s1.take 10⟩
def plainB (l : List Cont) : List Cont := (l.take 10).map plainC

/-- Cells that say no more than others. -/
def ImpL (xs ys : List AV) : Prop := xs.length = ys.length ∧ ∀ (i : Nat) (x y : AV), xs[i]? = some x → ys[i]? = some y → ∀ (w : World) (keep : Nat → Prop) (u : Value), PC w keep x u → PC w keep y u
theorem ImpL.refl (xs : List AV) : ImpL xs xs := ⟨rfl, fun i x y hx hy w k u h => by rw [hx] at hy; cases hy; exact h⟩
theorem ImpL.nil : ImpL [] [] := ImpL.refl _
theorem ImpL.cons {x y : AV} {xs ys : List AV} (h : ∀ (w : World) (keep : Nat → Prop) (u : Value), PC w keep x u → PC w keep y u) (hs : ImpL xs ys) : ImpL (x :: xs) (y :: ys) :=
  ⟨by simp [hs.1], fun i a b ha hb => by
    cases i with
    | zero => cases ha; cases hb; exact h
    | succ i => exact hs.2 i a b (by simpa using ha) (by simpa using hb)⟩
theorem ImpL.app {xs ys xs' ys' : List AV} (h : ImpL xs ys) (h' : ImpL xs' ys') : ImpL (xs ++ xs') (ys ++ ys') := by
  refine ⟨by rw [List.length_append, List.length_append, h.1, h'.1], fun i a b ha hb => ?_⟩
  rcases Nat.lt_or_ge i xs.length with hi | hi
  · rw [List.getElem?_append_left hi] at ha
    rw [List.getElem?_append_left (by rw [← h.1]; exact hi)] at hb
    exact h.2 i a b ha hb
  · rw [List.getElem?_append_right hi] at ha
    rw [List.getElem?_append_right (by rw [← h.1]; exact hi), ← h.1] at hb
    exact h'.2 _ a b ha hb
theorem ImpL.flat : ∀ {n : Nat} {f g : Nat → List AV}, (∀ i, i < n → ImpL (f i) (g i)) → ImpL (flat n f) (flat n g)
  | 0, _, _, _ => ImpL.nil
  | n + 1, f, g, h => (h 0 (by omega)).app (ImpL.flat fun i hi => h (i + 1) (by omega))
theorem ImpL.all {xs ys : List AV} (h : ImpL xs ys) {w : World} {keep : Nat → Prop} {us : List Value} (ha : All2 (PC w keep) xs us) : All2 (PC w keep) ys us :=
  ⟨h.1.symm.trans ha.1, fun i y u hy hu => by
    have hi : i < xs.length := by rw [h.1]; exact (List.getElem?_eq_some_iff.1 hy).1
    exact h.2 i _ y (List.getElem?_eq_getElem hi) hy w keep u (ha.2 i _ u (List.getElem?_eq_getElem hi) hu)⟩
theorem OEq.rowC {e : TypeId} {s n n' : Nat} {sc : Bool} {f f' : Nat → List AV} (hn : n = n') (hf : ∀ i, i < n → ImpL (f i) (f' i)) : OEq (.row e s n sc f) (.row e s n' false f') := by
  subst hn
  rintro X id ⟨us, hown, hs, hfl, _, ha⟩
  exact ⟨us, hown, hs, fun i hi => by rw [← (hf i hi).1]; exact hfl i hi, (fun h => by cases h), (ImpL.flat hf).all ha⟩
theorem PC.slF {w : World} {keep : Nat → Prop} {s n m : Nat} {sc : Bool} {f g : Nat → List AV} (hn : n = m) (h : ∀ i, i < n → f i = g i) (u : Value) (hu : PC w keep (.sl s n sc f) u) : PC w keep (.sl s m sc g) u := by
  subst hn
  cases hu with
  | sl _ _ _ _ A c us hs hn hc hl hf hsc hq hr => exact .sl s n sc g A c us hs hn hc hl (fun i hi => by rw [← h i hi]; exact hf i hi) (by rw [← flat_congr h]; exact hsc) (by rw [← flat_congr h]; exact hq) hr

theorem rowE {g : Nat → List AV} (l : List (List UInt8)) : OEq (.row 9 1 (0 + (if (10 : Int) < (l.length : Int) then (10 : Int) else (l.length : Int)).toNat) true (appF 0 g (strF l))) (.row 9 1 (l.take 10).length true (strF (l.take 10))) := by
  have hn : 0 + (if (10 : Int) < (l.length : Int) then (10 : Int) else (l.length : Int)).toNat = (l.take 10).length := by
    rw [List.length_take]
    split <;> omega
  refine OEq.row hn fun i hi => ?_
  rw [hn, List.length_take] at hi
  show strF l (i - 0) = strF (l.take 10) i
  unfold strF
  rw [List.getD, List.getD, List.getElem?_take_of_lt (by omega)]
  rfl

set_option maxHeartbeats 8000000 in
set_option maxRecDepth 100000 in
theorem plain_spec (l : List Cont) (hk : ∀ c ∈ l, c.key.size ≤ 140737488355328) :
    ASpec Try.prog 12 [.sl 7 l.length false (coF l)] (.sl 7 (plainB l).length false (coF (plainB l))) [] := by
  refine aspec_of lay_ok 139586470013 Try.func12 rfl rfl rfl ?_
  repeat' ((conv => whnf); first | refine Spl.yes (by first | assumption | omega) ?_ | refine Spl.no (by first | assumption | omega) ?_ | refine Wr.i64 (by omega) (by omega) ?_ | refine Still.mk rfl rfl ?_ | refine InB.mk (inB_mk (by omega) (by omega)) ?_ | refine Req.mk (by omega) ?_ | refine Req.mk ⟨by first | omega | (dsimp only; omega), by first | omega | (dsimp only; omega)⟩ ?_ | refine ARet.hdI ?_ | refine Spl.mk (fun _ => ?_) (fun _ => ?_) | refine InA.mk (inB_mk (by omega) (by omega)) ?_ | refine Wr.b64 ?_ | refine Wr.bu64 ?_ | refine Wr.bu32 ?_ | refine Wr.bu8 ?_ | refine Wr.u8 (by omega) (by omega) ?_ | refine Wr.u64 (by omega) (by omega) ?_ | refine Wr.u32 (by omega) (by omega) ?_ | refine Dv.pos (by omega) (by omega) ?_ | refine Rm.pos (by omega) (by omega) ?_ | refine ADraw.quiet follows_ok (by kernel_rfl) rfl ?_ | refine ADraw.sched (id := 5) lay_ok (awp_snd lay_ok _) [(0, none), (1, none), (2, none), (3, none), (4, none), (5, none), (6, none), (7, none), (8, none), (9, none), (10, none), (11, none), (12, some []), (13, some [10, 5, 4])] [(5, [4]), (11, [10, 5, 4]), (12, []), (13, [10, 5, 4])] follows_ok (by kernel_rfl) ?_ | refine ADraw.sched (id := 11) lay_ok (awp_snd lay_ok _) [(0, none), (2, none), (3, none), (4, none), (5, none), (6, none), (7, none), (8, none), (9, none), (10, none), (11, none), (12, none), (13, none), (14, none), (15, none), (16, none), (17, none), (18, none), (20, none), (1, some []), (19, some [17, 15, 8]), (21, none), (22, some [17, 15, 8])] [(1, []), (16, [15]), (17, [15]), (18, [17, 15, 8]), (19, [17, 15, 8]), (21, [17, 15, 8]), (22, [17, 15, 8])] follows_ok (by kernel_rfl) ?_ | refine BSpl.decY (by first | assumption | omega) ?_ | refine BSpl.decN (by first | assumption | omega) ?_ | refine BSpl.dec (fun _ => ?_) (fun _ => ?_) | refine BSpl.yes (by assumption) ?_ | refine BSpl.no (by assumption) ?_ | refine BSpl.mk (fun _ => ?_) (fun _ => ?_))
  conv => whnf
  refine ALoop.mk { j : Nat // j ≤ l.length ∧ j ≤ 10 } (fun j => ⟨[(0, .sl 7 l.length false (coF l)), (3, .own 90), (4, .v (.int .i64 (j.1 : Int)))],
      [(90, .row 40 7 ((l.take j.1).map plainC).length false (coF ((l.take j.1).map plainC)))], [], 91⟩) (fun j => l.length - j.1) ⟨0, Nat.zero_le _, by omega⟩ _
    (LeR.mk' [(0, 90)] _ _ _ rfl ⟨AEq.refl _, AEq.refl _, AEq.int rfl, trivial⟩ ⟨⟨_, rfl, OEq.rowF rfl (fun i hi => absurd hi (Nat.not_lt_zero i))⟩, trivial⟩ rfl) ?_
  rintro ⟨j, hj, hj10⟩
  dsimp only
  have lm : ((l.take j).map plainC).length = j := by rw [List.length_map, List.length_take]; omega
  by_cases hjl : j < l.length ∧ j < 10
  · obtain ⟨hjl, hj1⟩ := hjl
    have hg : (l.take (j + 1)).map plainC = (l.take j).map plainC ++ [plainC (l.getD (j : Int).toNat default)] := by
      rw [show l.getD (j : Int).toNat default = l.getD j default from rfl, List.getD, List.getElem?_eq_getElem hjl, List.take_add_one, List.getElem?_eq_getElem hjl, List.map_append]
      rfl
    have hks := hk _ (getD_mem (d := default) (k := (j : Int).toNat) hjl)
    obtain ⟨q0, hq0⟩ : ∃ q, (l.getD (j : Int).toNat default).h0 = q := ⟨_, rfl⟩
    obtain ⟨q1, hq1⟩ : ∃ q, (l.getD (j : Int).toNat default).h1 = q := ⟨_, rfl⟩
    have hsz : (⟨#[107]⟩ : ByteArray).size = 1 := rfl
    have hb10 : ∀ n : Nat, (if (10 : Int) < (n : Int) then (10 : Int) else (n : Int)).toNat ≤ 10 := fun n => by split <;> omega
    repeat' ((conv => whnf); first | refine Spl.yes (by first | assumption | omega) ?_ | refine Spl.no (by first | assumption | omega) ?_ | refine Wr.i64 (by omega) (by omega) ?_ | refine Still.mk rfl rfl ?_ | refine InB.mk (inB_mk (by omega) (by omega)) ?_ | refine Req.mk (by omega) ?_ | refine Req.mk ⟨by first | omega | (dsimp only; omega), by first | omega | (dsimp only; omega)⟩ ?_ | refine ARet.hdI ?_ | refine Spl.mk (fun _ => ?_) (fun _ => ?_) | refine InA.mk (inB_mk (by omega) (by omega)) ?_ | refine Wr.b64 ?_ | refine Wr.bu64 ?_ | refine Wr.bu32 ?_ | refine Wr.bu8 ?_ | refine Wr.u8 (by omega) (by omega) ?_ | refine Wr.u64 (by omega) (by omega) ?_ | refine Wr.u32 (by omega) (by omega) ?_ | refine Dv.pos (by omega) (by omega) ?_ | refine Rm.pos (by omega) (by omega) ?_ | refine ADraw.quiet follows_ok (by kernel_rfl) rfl ?_ | refine ADraw.sched (id := 5) lay_ok (awp_snd lay_ok _) [(0, none), (1, none), (2, none), (3, none), (4, none), (5, none), (6, none), (7, none), (8, none), (9, none), (10, none), (11, none), (12, some []), (13, some [10, 5, 4])] [(5, [4]), (11, [10, 5, 4]), (12, []), (13, [10, 5, 4])] follows_ok (by kernel_rfl) ?_ | refine ADraw.sched (id := 11) lay_ok (awp_snd lay_ok _) [(0, none), (2, none), (3, none), (4, none), (5, none), (6, none), (7, none), (8, none), (9, none), (10, none), (11, none), (12, none), (13, none), (14, none), (15, none), (16, none), (17, none), (18, none), (20, none), (1, some []), (19, some [17, 15, 8]), (21, none), (22, some [17, 15, 8])] [(1, []), (16, [15]), (17, [15]), (18, [17, 15, 8]), (19, [17, 15, 8]), (21, [17, 15, 8]), (22, [17, 15, 8])] follows_ok (by kernel_rfl) ?_ | refine BSpl.decY (by first | assumption | omega) ?_ | refine BSpl.decN (by first | assumption | omega) ?_ | refine BSpl.dec (fun _ => ?_) (fun _ => ?_) | refine BSpl.yes (by assumption) ?_ | refine BSpl.no (by assumption) ?_ | refine BSpl.mk (fun _ => ?_) (fun _ => ?_))
    conv => whnf
    refine ALoop.mk { n : Nat // n ≤ 2 } (fun n => match n with
      | ⟨0, _⟩ => ⟨[(0, .sl 7 l.length false (coF l)), (3, .own 90), (4, .v (.int .i64 (j : Int))), (5, .box 91 0), (6, .v (.int .i64 0))], [(91, .box 40 [.v (.string (kS ++ (l.getD (j : Int).toNat default).key)), .v (.bool (l.getD (j : Int).toNat default).h0), .v (.bool (l.getD (j : Int).toNat default).h1), .v (.string ⟨#[]⟩), .v (.string ⟨#[]⟩), .v (.slice none 0 0), .v (.slice none 0 0)]), (90, .row 40 7 ((l.take j).map plainC).length false (coF ((l.take j).map plainC)))], [], 92⟩
      | ⟨1, _⟩ => ⟨[(0, .sl 7 l.length false (coF l)), (3, .own 90), (4, .v (.int .i64 (j : Int))), (5, .box 91 0), (6, .v (.int .i64 1))], [(91, .box 40 [.v (.string (kS ++ (l.getD (j : Int).toNat default).key)), .v (.bool (l.getD (j : Int).toNat default).h0), .v (.bool (l.getD (j : Int).toNat default).h1), .v (.string (if (l.getD (j : Int).toNat default).h0 = true then (l.getD (j : Int).toNat default).f0 else ⟨#[]⟩)), .v (.string ⟨#[]⟩), .own 95, .v (.slice none 0 0)]), (95, .row 9 1 ((l.getD (j : Int).toNat default).s0.take 10).length true (strF ((l.getD (j : Int).toNat default).s0.take 10))), (90, .row 40 7 ((l.take j).map plainC).length false (coF ((l.take j).map plainC)))], [], 97⟩
      | ⟨_ + 2, _⟩ => ⟨[(0, .sl 7 l.length false (coF l)), (3, .own 90), (4, .v (.int .i64 (j : Int))), (5, .box 91 0), (6, .v (.int .i64 2))], [(91, .box 40 [.v (.string (kS ++ (l.getD (j : Int).toNat default).key)), .v (.bool (l.getD (j : Int).toNat default).h0), .v (.bool (l.getD (j : Int).toNat default).h1), .v (.string (if (l.getD (j : Int).toNat default).h0 = true then (l.getD (j : Int).toNat default).f0 else ⟨#[]⟩)), .v (.string (if (l.getD (j : Int).toNat default).h1 = true then (l.getD (j : Int).toNat default).f1 else ⟨#[]⟩)), .own 95, .own 96]), (95, .row 9 1 ((l.getD (j : Int).toNat default).s0.take 10).length true (strF ((l.getD (j : Int).toNat default).s0.take 10))), (96, .row 9 1 ((l.getD (j : Int).toNat default).s1.take 10).length true (strF ((l.getD (j : Int).toNat default).s1.take 10))), (90, .row 40 7 ((l.take j).map plainC).length false (coF ((l.take j).map plainC)))], [], 99⟩) (fun n => 2 - n.1) ⟨0, Nat.zero_le _⟩ _
      (LeR.mk' [] _ _ _ rfl ⟨AEq.refl _, AEq.refl _, AEq.refl _, AEq.refl _, AEq.int rfl, trivial⟩ ⟨⟨_, rfl, OEq.refl _⟩, ⟨_, rfl, OEq.refl _⟩, trivial⟩ rfl) ?_
    rintro ⟨n, hn⟩
    obtain rfl | rfl | rfl : n = 0 ∨ n = 1 ∨ n = 2 := by omega
    · rcases q0 with _ | _
      · have hF : (if (l.getD (j : Int).toNat default).h0 = true then (l.getD (j : Int).toNat default).f0 else (⟨#[]⟩ : ByteArray)) = ⟨#[]⟩ := if_neg (by rw [hq0]; simp)
        repeat' ((conv => whnf); first | refine Spl.yes (by first | assumption | omega) ?_ | refine Spl.no (by first | assumption | omega) ?_ | refine Wr.i64 (by omega) (by omega) ?_ | refine Still.mk rfl rfl ?_ | refine InB.mk (inB_mk (by omega) (by omega)) ?_ | refine Req.mk (by omega) ?_ | refine Req.mk ⟨by first | omega | (dsimp only; omega), by first | omega | (dsimp only; omega)⟩ ?_ | refine InB.mk (inB_mk (by split <;> omega) (by split <;> omega)) ?_ | refine ARet.hdI ?_ | refine Spl.mk (fun _ => ?_) (fun _ => ?_) | refine InA.mk (inB_mk (by omega) (by omega)) ?_ | refine Wr.b64 ?_ | refine Wr.bu64 ?_ | refine Wr.bu32 ?_ | refine Wr.bu8 ?_ | refine Wr.u8 (by omega) (by omega) ?_ | refine Wr.u64 (by omega) (by omega) ?_ | refine Wr.u32 (by omega) (by omega) ?_ | refine Dv.pos (by omega) (by omega) ?_ | refine Rm.pos (by omega) (by omega) ?_ | refine ADraw.quiet follows_ok (by kernel_rfl) rfl ?_ | refine ADraw.sched (id := 5) lay_ok (awp_snd lay_ok _) [(0, none), (1, none), (2, none), (3, none), (4, none), (5, none), (6, none), (7, none), (8, none), (9, none), (10, none), (11, none), (12, some []), (13, some [10, 5, 4])] [(5, [4]), (11, [10, 5, 4]), (12, []), (13, [10, 5, 4])] follows_ok (by kernel_rfl) ?_ | refine ADraw.lex 70 lay_ok (awp_snd lay_ok _) follows_ok (by kernel_rfl) ?_ | refine Both.mk ?_ ?_ | exact LeC.mk rfl rfl rfl rfl rfl | refine BSpl.decY (by first | assumption | omega) ?_ | refine BSpl.decN (by first | assumption | omega) ?_ | refine BSpl.dec (fun _ => ?_) (fun _ => ?_) | refine BSpl.yes (by assumption) ?_ | refine BSpl.no (by assumption) ?_ | refine BSpl.mk (fun _ => ?_) (fun _ => ?_))
        conv => whnf
        refine ⟨⟨1, by omega⟩, _, LeR.mk' [(93, 95)] _ _ _ rfl ⟨AEq.refl _, AEq.refl _, AEq.refl _, AEq.refl _, AEq.int rfl, trivial⟩ ⟨⟨_, rfl, ?_⟩, ⟨_, rfl, rowE _⟩, ⟨_, rfl, OEq.refl _⟩, trivial⟩ rfl, by show 2 - 1 < 2 - 0; omega⟩
        rw [hF]
        exact OEq.refl _
      · have hF : (if (l.getD (j : Int).toNat default).h0 = true then (l.getD (j : Int).toNat default).f0 else (⟨#[]⟩ : ByteArray)) = (l.getD (j : Int).toNat default).f0 := if_pos hq0
        repeat' ((conv => whnf); first | refine Spl.yes (by first | assumption | omega) ?_ | refine Spl.no (by first | assumption | omega) ?_ | refine Wr.i64 (by omega) (by omega) ?_ | refine Still.mk rfl rfl ?_ | refine InB.mk (inB_mk (by omega) (by omega)) ?_ | refine Req.mk (by omega) ?_ | refine Req.mk ⟨by first | omega | (dsimp only; omega), by first | omega | (dsimp only; omega)⟩ ?_ | refine InB.mk (inB_mk (by split <;> omega) (by split <;> omega)) ?_ | refine ARet.hdI ?_ | refine Spl.mk (fun _ => ?_) (fun _ => ?_) | refine InA.mk (inB_mk (by omega) (by omega)) ?_ | refine Wr.b64 ?_ | refine Wr.bu64 ?_ | refine Wr.bu32 ?_ | refine Wr.bu8 ?_ | refine Wr.u8 (by omega) (by omega) ?_ | refine Wr.u64 (by omega) (by omega) ?_ | refine Wr.u32 (by omega) (by omega) ?_ | refine Dv.pos (by omega) (by omega) ?_ | refine Rm.pos (by omega) (by omega) ?_ | refine ADraw.quiet follows_ok (by kernel_rfl) rfl ?_ | refine ADraw.sched (id := 5) lay_ok (awp_snd lay_ok _) [(0, none), (1, none), (2, none), (3, none), (4, none), (5, none), (6, none), (7, none), (8, none), (9, none), (10, none), (11, none), (12, some []), (13, some [10, 5, 4])] [(5, [4]), (11, [10, 5, 4]), (12, []), (13, [10, 5, 4])] follows_ok (by kernel_rfl) ?_ | refine ADraw.lex 70 lay_ok (awp_snd lay_ok _) follows_ok (by kernel_rfl) ?_ | refine Both.mk ?_ ?_ | exact LeC.mk rfl rfl rfl rfl rfl | refine BSpl.decY (by first | assumption | omega) ?_ | refine BSpl.decN (by first | assumption | omega) ?_ | refine BSpl.dec (fun _ => ?_) (fun _ => ?_) | refine BSpl.yes (by assumption) ?_ | refine BSpl.no (by assumption) ?_ | refine BSpl.mk (fun _ => ?_) (fun _ => ?_))
        conv => whnf
        refine ⟨⟨1, by omega⟩, _, LeR.mk' [(93, 95)] _ _ _ rfl ⟨AEq.refl _, AEq.refl _, AEq.refl _, AEq.refl _, AEq.int rfl, trivial⟩ ⟨⟨_, rfl, ?_⟩, ⟨_, rfl, rowE _⟩, ⟨_, rfl, OEq.refl _⟩, trivial⟩ rfl, by show 2 - 1 < 2 - 0; omega⟩
        rw [hF]
        exact OEq.refl _
    · rcases q1 with _ | _
      · have hF : (if (l.getD (j : Int).toNat default).h1 = true then (l.getD (j : Int).toNat default).f1 else (⟨#[]⟩ : ByteArray)) = ⟨#[]⟩ := if_neg (by rw [hq1]; simp)
        repeat' ((conv => whnf); first | refine Spl.yes (by first | assumption | omega) ?_ | refine Spl.no (by first | assumption | omega) ?_ | refine Wr.i64 (by omega) (by omega) ?_ | refine Still.mk rfl rfl ?_ | refine InB.mk (inB_mk (by omega) (by omega)) ?_ | refine Req.mk (by omega) ?_ | refine Req.mk ⟨by first | omega | (dsimp only; omega), by first | omega | (dsimp only; omega)⟩ ?_ | refine InB.mk (inB_mk (by split <;> omega) (by split <;> omega)) ?_ | refine ARet.hdI ?_ | refine Spl.mk (fun _ => ?_) (fun _ => ?_) | refine InA.mk (inB_mk (by omega) (by omega)) ?_ | refine Wr.b64 ?_ | refine Wr.bu64 ?_ | refine Wr.bu32 ?_ | refine Wr.bu8 ?_ | refine Wr.u8 (by omega) (by omega) ?_ | refine Wr.u64 (by omega) (by omega) ?_ | refine Wr.u32 (by omega) (by omega) ?_ | refine Dv.pos (by omega) (by omega) ?_ | refine Rm.pos (by omega) (by omega) ?_ | refine ADraw.quiet follows_ok (by kernel_rfl) rfl ?_ | refine ADraw.sched (id := 5) lay_ok (awp_snd lay_ok _) [(0, none), (1, none), (2, none), (3, none), (4, none), (5, none), (6, none), (7, none), (8, none), (9, none), (10, none), (11, none), (12, some []), (13, some [10, 5, 4])] [(5, [4]), (11, [10, 5, 4]), (12, []), (13, [10, 5, 4])] follows_ok (by kernel_rfl) ?_ | refine ADraw.lex 70 lay_ok (awp_snd lay_ok _) follows_ok (by kernel_rfl) ?_ | refine Both.mk ?_ ?_ | exact LeC.mk rfl rfl rfl rfl rfl | refine BSpl.decY (by first | assumption | omega) ?_ | refine BSpl.decN (by first | assumption | omega) ?_ | refine BSpl.dec (fun _ => ?_) (fun _ => ?_) | refine BSpl.yes (by assumption) ?_ | refine BSpl.no (by assumption) ?_ | refine BSpl.mk (fun _ => ?_) (fun _ => ?_))
        conv => whnf
        refine ⟨⟨2, by omega⟩, _, LeR.mk' [(98, 96)] _ _ _ rfl ⟨AEq.refl _, AEq.refl _, AEq.refl _, AEq.refl _, AEq.int rfl, trivial⟩ ⟨⟨_, rfl, ?_⟩, ⟨_, rfl, OEq.refl _⟩, ⟨_, rfl, rowE _⟩, ⟨_, rfl, OEq.refl _⟩, trivial⟩ rfl, by show 2 - 2 < 2 - 1; omega⟩
        rw [hF]
        exact OEq.refl _
      · have hF : (if (l.getD (j : Int).toNat default).h1 = true then (l.getD (j : Int).toNat default).f1 else (⟨#[]⟩ : ByteArray)) = (l.getD (j : Int).toNat default).f1 := if_pos hq1
        repeat' ((conv => whnf); first | refine Spl.yes (by first | assumption | omega) ?_ | refine Spl.no (by first | assumption | omega) ?_ | refine Wr.i64 (by omega) (by omega) ?_ | refine Still.mk rfl rfl ?_ | refine InB.mk (inB_mk (by omega) (by omega)) ?_ | refine Req.mk (by omega) ?_ | refine Req.mk ⟨by first | omega | (dsimp only; omega), by first | omega | (dsimp only; omega)⟩ ?_ | refine InB.mk (inB_mk (by split <;> omega) (by split <;> omega)) ?_ | refine ARet.hdI ?_ | refine Spl.mk (fun _ => ?_) (fun _ => ?_) | refine InA.mk (inB_mk (by omega) (by omega)) ?_ | refine Wr.b64 ?_ | refine Wr.bu64 ?_ | refine Wr.bu32 ?_ | refine Wr.bu8 ?_ | refine Wr.u8 (by omega) (by omega) ?_ | refine Wr.u64 (by omega) (by omega) ?_ | refine Wr.u32 (by omega) (by omega) ?_ | refine Dv.pos (by omega) (by omega) ?_ | refine Rm.pos (by omega) (by omega) ?_ | refine ADraw.quiet follows_ok (by kernel_rfl) rfl ?_ | refine ADraw.sched (id := 5) lay_ok (awp_snd lay_ok _) [(0, none), (1, none), (2, none), (3, none), (4, none), (5, none), (6, none), (7, none), (8, none), (9, none), (10, none), (11, none), (12, some []), (13, some [10, 5, 4])] [(5, [4]), (11, [10, 5, 4]), (12, []), (13, [10, 5, 4])] follows_ok (by kernel_rfl) ?_ | refine ADraw.lex 70 lay_ok (awp_snd lay_ok _) follows_ok (by kernel_rfl) ?_ | refine Both.mk ?_ ?_ | exact LeC.mk rfl rfl rfl rfl rfl | refine BSpl.decY (by first | assumption | omega) ?_ | refine BSpl.decN (by first | assumption | omega) ?_ | refine BSpl.dec (fun _ => ?_) (fun _ => ?_) | refine BSpl.yes (by assumption) ?_ | refine BSpl.no (by assumption) ?_ | refine BSpl.mk (fun _ => ?_) (fun _ => ?_))
        conv => whnf
        refine ⟨⟨2, by omega⟩, _, LeR.mk' [(98, 96)] _ _ _ rfl ⟨AEq.refl _, AEq.refl _, AEq.refl _, AEq.refl _, AEq.int rfl, trivial⟩ ⟨⟨_, rfl, ?_⟩, ⟨_, rfl, OEq.refl _⟩, ⟨_, rfl, rowE _⟩, ⟨_, rfl, OEq.refl _⟩, trivial⟩ rfl, by show 2 - 2 < 2 - 1; omega⟩
        rw [hF]
        exact OEq.refl _
    · repeat' ((conv => whnf); first | refine Spl.yes (by first | assumption | omega) ?_ | refine Spl.no (by first | assumption | omega) ?_ | refine Wr.i64 (by omega) (by omega) ?_ | refine Still.mk rfl rfl ?_ | refine InB.mk (inB_mk (by omega) (by omega)) ?_ | refine Req.mk (by omega) ?_ | refine Req.mk ⟨by first | omega | (dsimp only; omega), by first | omega | (dsimp only; omega)⟩ ?_ | refine ARet.hdI ?_ | refine Spl.mk (fun _ => ?_) (fun _ => ?_) | refine InA.mk (inB_mk (by omega) (by omega)) ?_ | refine Wr.b64 ?_ | refine Wr.bu64 ?_ | refine Wr.bu32 ?_ | refine Wr.bu8 ?_ | refine Wr.u8 (by omega) (by omega) ?_ | refine Wr.u64 (by omega) (by omega) ?_ | refine Wr.u32 (by omega) (by omega) ?_ | refine Dv.pos (by omega) (by omega) ?_ | refine Rm.pos (by omega) (by omega) ?_ | refine ADraw.quiet follows_ok (by kernel_rfl) rfl ?_ | refine ADraw.sched (id := 5) lay_ok (awp_snd lay_ok _) [(0, none), (1, none), (2, none), (3, none), (4, none), (5, none), (6, none), (7, none), (8, none), (9, none), (10, none), (11, none), (12, some []), (13, some [10, 5, 4])] [(5, [4]), (11, [10, 5, 4]), (12, []), (13, [10, 5, 4])] follows_ok (by kernel_rfl) ?_ | refine ADraw.sched (id := 11) lay_ok (awp_snd lay_ok _) [(0, none), (2, none), (3, none), (4, none), (5, none), (6, none), (7, none), (8, none), (9, none), (10, none), (11, none), (12, none), (13, none), (14, none), (15, none), (16, none), (17, none), (18, none), (20, none), (1, some []), (19, some [17, 15, 8]), (21, none), (22, some [17, 15, 8])] [(1, []), (16, [15]), (17, [15]), (18, [17, 15, 8]), (19, [17, 15, 8]), (21, [17, 15, 8]), (22, [17, 15, 8])] follows_ok (by kernel_rfl) ?_ | refine BSpl.decY (by first | assumption | omega) ?_ | refine BSpl.decN (by first | assumption | omega) ?_ | refine BSpl.dec (fun _ => ?_) (fun _ => ?_) | refine BSpl.yes (by assumption) ?_ | refine BSpl.no (by assumption) ?_ | refine BSpl.mk (fun _ => ?_) (fun _ => ?_))
      conv => whnf
      refine ⟨⟨j + 1, hjl, by omega⟩, _, LeR.mk' [(100, 90)] _ _ _ rfl ⟨AEq.refl _, AEq.refl _, AEq.int rfl, trivial⟩ ⟨⟨_, rfl, OEq.rowF ?_ (fun m hm => ?_)⟩, trivial⟩ rfl, Nat.sub_succ_lt_self _ _ hjl⟩
      · show _ = ((l.take (j + 1)).map plainC).length
        rw [hg]
        simp only [List.length_append, List.length_cons, List.length_nil]
      · show _ = coF ((l.take (j + 1)).map plainC) m
        rw [hg]
        exact els_app1 (c := Cont.cs) rfl rfl m hm
  · rw [show l.take j = l.take 10 by
      rcases Nat.lt_or_ge j l.length with h | h
      · rw [show j = 10 by omega]
      · rw [List.take_of_length_le h, List.take_of_length_le (by omega)]] at *
    repeat' ((conv => whnf); first | refine Spl.yes (by first | assumption | omega) ?_ | refine Spl.no (by first | assumption | omega) ?_ | refine Wr.i64 (by omega) (by omega) ?_ | refine Still.mk rfl rfl ?_ | refine InB.mk (inB_mk (by omega) (by omega)) ?_ | refine Req.mk (by omega) ?_ | refine Req.mk ⟨by first | omega | (dsimp only; omega), by first | omega | (dsimp only; omega)⟩ ?_ | refine ARet.hdI ?_ | refine Spl.mk (fun _ => ?_) (fun _ => ?_) | refine InA.mk (inB_mk (by omega) (by omega)) ?_ | refine Wr.b64 ?_ | refine Wr.bu64 ?_ | refine Wr.bu32 ?_ | refine Wr.bu8 ?_ | refine Wr.u8 (by omega) (by omega) ?_ | refine Wr.u64 (by omega) (by omega) ?_ | refine Wr.u32 (by omega) (by omega) ?_ | refine Dv.pos (by omega) (by omega) ?_ | refine Rm.pos (by omega) (by omega) ?_ | refine ADraw.quiet follows_ok (by kernel_rfl) rfl ?_ | refine ADraw.sched (id := 5) lay_ok (awp_snd lay_ok _) [(0, none), (1, none), (2, none), (3, none), (4, none), (5, none), (6, none), (7, none), (8, none), (9, none), (10, none), (11, none), (12, some []), (13, some [10, 5, 4])] [(5, [4]), (11, [10, 5, 4]), (12, []), (13, [10, 5, 4])] follows_ok (by kernel_rfl) ?_ | refine ADraw.sched (id := 11) lay_ok (awp_snd lay_ok _) [(0, none), (2, none), (3, none), (4, none), (5, none), (6, none), (7, none), (8, none), (9, none), (10, none), (11, none), (12, none), (13, none), (14, none), (15, none), (16, none), (17, none), (18, none), (20, none), (1, some []), (19, some [17, 15, 8]), (21, none), (22, some [17, 15, 8])] [(1, []), (16, [15]), (17, [15]), (18, [17, 15, 8]), (19, [17, 15, 8]), (21, [17, 15, 8]), (22, [17, 15, 8])] follows_ok (by kernel_rfl) ?_ | refine BSpl.decY (by first | assumption | omega) ?_ | refine BSpl.decN (by first | assumption | omega) ?_ | refine BSpl.dec (fun _ => ?_) (fun _ => ?_) | refine BSpl.yes (by assumption) ?_ | refine BSpl.no (by assumption) ?_ | refine BSpl.mk (fun _ => ?_) (fun _ => ?_))
    all_goals (conv => whnf)
    all_goals exact AEqI.mk (AEq.refl _)
end Go.Proofs.Ytihjfndkgmjanaa
