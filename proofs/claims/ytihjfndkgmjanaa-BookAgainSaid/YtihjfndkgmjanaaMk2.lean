/-
  Makers of pasts: kithref08.Make.
-/
import Derived.Test.YtihjfndkgmjanaaMk1
namespace Go.Proofs.Ytihjfndkgmjanaa
open Go.RowKit

def setC (H : Nat → Clk) (r : Nat) (c : Clk) : Nat → Clk := fun i => bif Nat.beq i r then c else H i
def Clk.inc (c : Clk) : Nat → Clk
  | 0 => ⟨c.c0 + 1, c.c1, c.c2, c.c3, c.c4⟩
  | 1 => ⟨c.c0, c.c1 + 1, c.c2, c.c3, c.c4⟩
  | 2 => ⟨c.c0, c.c1, c.c2 + 1, c.c3, c.c4⟩
  | 3 => ⟨c.c0, c.c1, c.c2, c.c3 + 1, c.c4⟩
  | _ => ⟨c.c0, c.c1, c.c2, c.c3, c.c4 + 1⟩
def Clk.at (c : Clk) : Nat → Int
  | 0 => c.c0
  | 1 => c.c1
  | 2 => c.c2
  | 3 => c.c3
  | _ => c.c4
abbrev Mk := List Ev × (Nat → Clk)
def Ch0.ed (c : Ch0) : Ed := ⟨c.k, c.key, c.l, c.v⟩
def mkEvt (out : List Ev) (H : Nat → Clk) (r : Nat) (x : Ed) : Ev := ⟨(r : Int), (H r).at r + 1, H r, hgt out (H r), x.k, x.key, x.l, x.v⟩
def mkSync (s : Mk) (r f : Nat) : Mk := (s.1, setC s.2 r ((s.2 r).join (s.2 f)))
def mkEdit (s : Mk) (r : Nat) (x : Ed) : Mk := (s.1 ++ [mkEvt s.1 s.2 r x], setC s.2 r ((s.2 r).inc r))
def mkStep (s : Mk) (c : Ch0) : Mk :=
  if c.sy = true then mkSync s (c.r % 5).toNat (c.f % 5).toNat else mkEdit s (c.r % 5).toNat (fitEd c.ed)
def clk0 : Clk := ⟨0, 0, 0, 0, 0⟩
def mkS (l : List Ch0) : Mk := l.foldl mkStep ([], fun _ => clk0)
def makeL (l : List Ch0) : List Ev := (mkS l).1

/-- Bounds of a state. -/
def Clk.in (c : Clk) (M : Int) : Prop := (0 ≤ c.c0 ∧ c.c0 ≤ M) ∧ (0 ≤ c.c1 ∧ c.c1 ≤ M) ∧ (0 ≤ c.c2 ∧ c.c2 ≤ M) ∧ (0 ≤ c.c3 ∧ c.c3 ≤ M) ∧ (0 ≤ c.c4 ∧ c.c4 ≤ M)
def MkB (s : Mk) (n : Nat) : Prop := (∀ q, (s.2 q).in n) ∧ (∀ e ∈ s.1, 0 ≤ e.h ∧ e.h ≤ (n : Int)) ∧ s.1.length ≤ n
theorem Clk.in.mono {c : Clk} {M N : Int} (h : c.in M) (hMN : M ≤ N) : c.in N := by unfold Clk.in at *; omega
theorem Clk.in.join {a b : Clk} {M : Int} (ha : a.in M) (hb : b.in M) : (a.join b).in M := by
  unfold Clk.in at *
  unfold Clk.join mxI
  simp only
  refine ⟨?_, ?_, ?_, ?_, ?_⟩ <;> split <;> omega
theorem Clk.in.inc {a : Clk} {M : Int} (ha : a.in M) : ∀ r, (a.inc r).in (M + 1)
  | 0 => by unfold Clk.in Clk.inc at *; simp only; omega
  | 1 => by unfold Clk.in Clk.inc at *; simp only; omega
  | 2 => by unfold Clk.in Clk.inc at *; simp only; omega
  | 3 => by unfold Clk.in Clk.inc at *; simp only; omega
  | _ + 4 => by unfold Clk.in Clk.inc at *; simp only; omega
theorem setC_all {P : Clk → Prop} {H : Nat → Clk} {r : Nat} {c : Clk} (h : ∀ q, P (H q)) (hc : P c) (q : Nat) : P (setC H r c q) := by
  unfold setC
  cases Nat.beq q r with
  | true => exact hc
  | false => exact h q
theorem MkB.step {s : Mk} {n : Nat} (h : MkB s n) (c : Ch0) : MkB (mkStep s c) (n + 1) := by
  obtain ⟨h1, h2, h3⟩ := h
  have h1' : ∀ q, (s.2 q).in ((n + 1 : Nat) : Int) := fun q => (h1 q).mono (by omega)
  unfold mkStep
  split
  · exact ⟨fun q => setC_all (P := fun c => c.in ((n + 1 : Nat) : Int)) h1' ((h1' _).join (h1' _)) q, fun e he => by have := h2 e he; omega, by show s.1.length ≤ _; omega⟩
  · refine ⟨fun q => setC_all (P := fun c => c.in ((n + 1 : Nat) : Int)) h1' ?_ q, fun e he => ?_, ?_⟩
    · have := (h1 (c.r % 5).toNat).inc (c.r % 5).toNat
      exact this.mono (by omega)
    · rcases List.mem_append.1 he with he | he
      · have := h2 e he
        omega
      · rw [List.mem_singleton.1 he]
        have := hgt_bnd (c := s.2 (c.r % 5).toNat) (M := n) (by omega) h2
        show 0 ≤ hgt s.1 (s.2 (c.r % 5).toNat) ∧ hgt s.1 (s.2 (c.r % 5).toNat) ≤ ((n + 1 : Nat) : Int)
        omega
    · show (s.1 ++ [_]).length ≤ _
      rw [List.length_append, List.length_singleton]
      omega
theorem mkS_snoc (l : List Ch0) (c : Ch0) : mkS (l ++ [c]) = mkStep (mkS l) c := by rw [mkS, List.foldl_append]; rfl
theorem mkB_fold : ∀ (l : List Ch0) (s : Mk) (n : Nat), MkB s n → MkB (l.foldl mkStep s) (n + l.length)
  | [], _, _, h => h
  | c :: l, s, n, h => by
    have := mkB_fold l (mkStep s c) (n + 1) (h.step c)
    rw [List.foldl_cons, List.length_cons, show n + (l.length + 1) = n + 1 + l.length by omega]
    exact this
theorem mkB_of (l : List Ch0) : MkB (mkS l) l.length := by
  have := mkB_fold l ([], fun _ => clk0) 0 ⟨fun q => by simp [Clk.in, clk0], fun e he => (by cases he), by simp⟩
  rwa [Nat.zero_add] at this

abbrev haveV (H : Nat → Clk) : List AV := [.v (.int .i64 (H 0).c0), .v (.int .i64 (H 0).c1), .v (.int .i64 (H 0).c2), .v (.int .i64 (H 0).c3), .v (.int .i64 (H 0).c4),
  .v (.int .i64 (H 1).c0), .v (.int .i64 (H 1).c1), .v (.int .i64 (H 1).c2), .v (.int .i64 (H 1).c3), .v (.int .i64 (H 1).c4),
  .v (.int .i64 (H 2).c0), .v (.int .i64 (H 2).c1), .v (.int .i64 (H 2).c2), .v (.int .i64 (H 2).c3), .v (.int .i64 (H 2).c4),
  .v (.int .i64 (H 3).c0), .v (.int .i64 (H 3).c1), .v (.int .i64 (H 3).c2), .v (.int .i64 (H 3).c3), .v (.int .i64 (H 3).c4),
  .v (.int .i64 (H 4).c0), .v (.int .i64 (H 4).c1), .v (.int .i64 (H 4).c2), .v (.int .i64 (H 4).c3), .v (.int .i64 (H 4).c4)]
abbrev MkI (l : List Ch0) : Type := { x : Nat × Mk // x.1 ≤ l.length ∧ mkS (l.take x.1) = x.2 }
theorem mk_next {l : List Ch0} {j : Nat} {s : Mk} (hj : j < l.length) (hs : mkS (l.take j) = s) : mkS (l.take (j + 1)) = mkStep s (l.getD (j : Int).toNat default) := by
  rw [← hs]
  exact fold_take hj
theorem get_in {α : Type} {l : List α} {j : Nat} {d : α} (h : j < l.length) : l.getD (j : Int).toNat d ∈ l := by
  rw [Int.toNat_natCast, List.getD, List.getElem?_eq_getElem h]
  exact List.getElem_mem h
theorem len_app1 {α : Type} {l : List α} {x : α} : l.length + 1 = (l ++ [x]).length := by rw [List.length_append, List.length_singleton]
theorem int_five {x : Int} (_h : 0 ≤ x) : x % 5 = 0 ∨ x % 5 = 1 ∨ x % 5 = 2 ∨ x % 5 = 3 ∨ x % 5 = 4 := by omega

set_option maxHeartbeats 16000000 in
set_option maxRecDepth 100000 in
theorem make_spec (l : List Ch0) (hl : l.length ≤ 100000) (hr : ∀ c ∈ l, c.rng) :
    ASpec Try.prog 22 [.sl 7 l.length true (chF l)] (.sl 12 (makeL l).length true (evF (makeL l))) [] := by
  refine aspec_of lay_ok 134226173 Try.func22 rfl rfl rfl ?_
  repeat' ((conv => whnf); first | refine Spl.yes (by first | assumption | omega) ?_ | refine Spl.no (by first | assumption | omega) ?_ | refine Wr.i64 (by omega) (by omega) ?_ | refine Still.mk rfl rfl ?_ | refine InB.mk (inB_mk (by omega) (by omega)) ?_ | refine Req.mk (by omega) ?_ | refine Req.mk ⟨by first | omega | (dsimp only; omega), by first | omega | (dsimp only; omega)⟩ ?_ | refine ARet.hdI ?_ | refine Spl.mk (fun _ => ?_) (fun _ => ?_) | refine InA.mk (inB_mk (by omega) (by omega)) ?_ | refine Wr.b64 ?_ | refine Wr.bu64 ?_ | refine Wr.bu32 ?_ | refine Wr.bu8 ?_ | refine Wr.u8 (by omega) (by omega) ?_ | refine Wr.u64 (by omega) (by omega) ?_ | refine Wr.u32 (by omega) (by omega) ?_ | refine Dv.pos (by omega) (by omega) ?_ | refine Rm.pos (by omega) (by omega) ?_ | refine ADraw.quiet follows_ok (by kernel_rfl) rfl ?_ | refine ADraw.sched (id := 8) lay_ok (awp_snd lay_ok _) [(0, none), (1, none), (2, none), (3, none), (4, none), (5, none), (6, none), (7, none), (8, none), (9, none), (10, none), (11, none), (12, none), (13, some [12, 10, 9, 8, 3]), (14, none), (15, some [12, 10, 9, 8, 3])] [(9, [8]), (10, [9, 8]), (11, [10, 9, 8]), (12, [10, 9, 8]), (13, [12, 10, 9, 8, 3]), (14, [12, 10, 9, 8, 3]), (15, [12, 10, 9, 8, 3])] follows_ok (by kernel_rfl) ?_ | refine ADraw.sched (id := 10) lay_ok (awp_snd lay_ok _) [(0, none), (1, none), (2, none), (3, none), (4, none), (5, none), (6, none), (7, none), (8, none), (9, none), (10, none), (11, none), (12, none), (13, none), (14, none), (16, none), (17, none), (18, none), (19, none), (20, none), (21, none), (22, none), (23, none), (15, some [14]), (24, none), (25, some [23, 21, 19, 17, 14, 10, 7, 6]), (26, some [14, 23, 21, 19, 17, 10, 7, 6]), (27, none)] [(7, [6]), (15, [14]), (24, [23, 21, 19, 17, 14, 10, 7, 6]), (25, [23, 21, 19, 17, 14, 10, 7, 6]), (26, [14, 23, 21, 19, 17, 10, 7, 6]), (27, [14, 23, 21, 19, 17, 10, 7, 6])] follows_ok (by kernel_rfl) ?_ | refine ADraw.sched (id := 11) lay_ok (awp_snd lay_ok _) [(0, none), (1, none), (2, none), (3, none), (4, none), (5, none), (6, none), (7, none), (8, none), (9, none), (10, some [7, 6])] [(7, [6]), (9, [7, 6]), (10, [7, 6])] follows_ok (by kernel_rfl) ?_ | refine BSpl.decY (by first | assumption | omega) ?_ | refine BSpl.decN (by first | assumption | omega) ?_ | refine BSpl.dec (fun _ => ?_) (fun _ => ?_) | refine BSpl.yes (by assumption) ?_ | refine BSpl.no (by assumption) ?_ | refine BSpl.mk (fun _ => ?_) (fun _ => ?_))
  conv => whnf
  refine ALoop.mk (MkI l) (fun x => ⟨[(0, .sl 7 l.length true (chF l)), (3, .own 90), (4, .box 91 0), (5, .v (.int .i64 (x.1.1 : Int)))],
      [(90, .row 32 12 x.1.2.1.length true (evF x.1.2.1)), (91, .box 81 (haveV x.1.2.2))], [], 92⟩) (fun x => l.length - x.1.1) ⟨(0, ([], fun _ => clk0)), Nat.zero_le _, rfl⟩ _
    (LeR.mk' [(0, 90), (1, 91)] _ _ _ rfl ⟨AEq.refl _, AEq.refl _, AEq.refl _, AEq.int rfl, trivial⟩ ⟨⟨_, rfl, OEq.row rfl (fun i hi => absurd hi (Nat.not_lt_zero i))⟩, ⟨_, rfl, OEq.refl _⟩, trivial⟩ rfl) ?_
  rintro ⟨⟨j, T, H⟩, hj, hs⟩
  dsimp only at hj hs ⊢
  obtain ⟨b1, b2, b3⟩ := mkB_of (l.take j)
  have hlt : (l.take j).length ≤ 100000 := by rw [List.length_take]; omega
  rw [hs] at b1 b2 b3
  dsimp only at b1 b2 b3
  by_cases hjl : j < l.length
  · have hn := mk_next hjl hs
    have hrg : (l.getD (j : Int).toNat default).rng := hr _ (get_in hjl)
    obtain ⟨⟨hr0, hr1⟩, ⟨hf0, hf1⟩, _, _, _, _, hks, hvs⟩ := hrg
    clear hs hr
    have hT : T.length ≤ 100000 := by omega
    obtain ⟨q, hq⟩ : ∃ q, (l.getD (j : Int).toNat default).sy = q := ⟨_, rfl⟩
    rcases q with _ | _
    · rw [mkStep, if_neg (by rw [hq]; simp)] at hn
      have hfit := fit05_spec (l.getD (j : Int).toNat default).ed hks hvs
      have hhe := fun k => height_spec T (H k) (by omega) (fun e he => by have := b2 e he; omega)
      generalize fitEd (l.getD (j : Int).toNat default).ed = X at hfit hn
      obtain ⟨Xk, Xkey, Xl, Xv⟩ := X
      dsimp only [Ed.av, Ed.cs, Ch0.ed, Clk.av] at hfit hhe
      rcases int_five hr0 with e | e | e | e | e
      all_goals
        rw [e] at hn
      · have b := b1 0
        have hn : mkS (l.take (j + 1)) = (T ++ [mkEvt T H 0 ⟨Xk, Xkey, Xl, Xv⟩], setC H 0 ((H 0).inc 0)) := hn
        unfold Clk.in at b
        repeat' ((conv => whnf); first | refine Spl.yes (by first | assumption | omega) ?_ | refine Spl.no (by first | assumption | omega) ?_ | refine Wr.i64 (by omega) (by omega) ?_ | refine Still.mk rfl rfl ?_ | refine InB.mk (inB_mk (by omega) (by omega)) ?_ | refine Req.mk (by omega) ?_ | refine Req.mk ⟨by first | omega | (dsimp only; omega), by first | omega | (dsimp only; omega)⟩ ?_ | refine ACall.plain _ _ (hfit) (SubL.cons (.eq _) .nil) rfl ?_ | refine ACall.plain _ _ (hhe _) (SubL.cons (.eq _) (SubL.cons (.eq _) .nil)) rfl ?_ | refine Rm.is (by omega) (by omega) e ?_ | refine ARet.hdI ?_ | refine Spl.mk (fun _ => ?_) (fun _ => ?_) | refine InA.mk (inB_mk (by omega) (by omega)) ?_ | refine Wr.b64 ?_ | refine Wr.bu64 ?_ | refine Wr.bu32 ?_ | refine Wr.bu8 ?_ | refine Wr.u8 (by omega) (by omega) ?_ | refine Wr.u64 (by omega) (by omega) ?_ | refine Wr.u32 (by omega) (by omega) ?_ | refine Dv.pos (by omega) (by omega) ?_ | refine Rm.pos (by omega) (by omega) ?_ | refine ADraw.quiet follows_ok (by kernel_rfl) rfl ?_ | refine ADraw.sched (id := 8) lay_ok (awp_snd lay_ok _) [(0, none), (1, none), (2, none), (3, none), (4, none), (5, none), (6, none), (7, none), (8, none), (9, none), (10, none), (11, none), (12, none), (13, some [12, 10, 9, 8, 3]), (14, none), (15, some [12, 10, 9, 8, 3])] [(9, [8]), (10, [9, 8]), (11, [10, 9, 8]), (12, [10, 9, 8]), (13, [12, 10, 9, 8, 3]), (14, [12, 10, 9, 8, 3]), (15, [12, 10, 9, 8, 3])] follows_ok (by kernel_rfl) ?_ | refine ADraw.sched (id := 10) lay_ok (awp_snd lay_ok _) [(0, none), (1, none), (2, none), (3, none), (4, none), (5, none), (6, none), (7, none), (8, none), (9, none), (10, none), (11, none), (12, none), (13, none), (14, none), (16, none), (17, none), (18, none), (19, none), (20, none), (21, none), (22, none), (23, none), (15, some [14]), (24, none), (25, some [23, 21, 19, 17, 14, 10, 7, 6]), (26, some [14, 23, 21, 19, 17, 10, 7, 6]), (27, none)] [(7, [6]), (15, [14]), (24, [23, 21, 19, 17, 14, 10, 7, 6]), (25, [23, 21, 19, 17, 14, 10, 7, 6]), (26, [14, 23, 21, 19, 17, 10, 7, 6]), (27, [14, 23, 21, 19, 17, 10, 7, 6])] follows_ok (by kernel_rfl) ?_ | refine ADraw.sched (id := 11) lay_ok (awp_snd lay_ok _) [(0, none), (1, none), (2, none), (3, none), (4, none), (5, none), (6, none), (7, none), (8, none), (9, none), (10, some [7, 6])] [(7, [6]), (9, [7, 6]), (10, [7, 6])] follows_ok (by kernel_rfl) ?_ | refine BSpl.decY (by first | assumption | omega) ?_ | refine BSpl.decN (by first | assumption | omega) ?_ | refine BSpl.dec (fun _ => ?_) (fun _ => ?_) | refine BSpl.yes (by assumption) ?_ | refine BSpl.no (by assumption) ?_ | refine BSpl.mk (fun _ => ?_) (fun _ => ?_))
        conv => whnf
        refine ⟨⟨(j + 1, _), hjl, hn⟩, _, LeR.mk' [(94, 90)] _ _ _ rfl ⟨AEq.refl _, AEq.refl _, AEq.refl _, AEq.int rfl, trivial⟩ ⟨⟨_, rfl, OEq.row len_app1 (fun m hm => ?_)⟩, ⟨_, rfl, OEq.refl _⟩, trivial⟩ rfl, Nat.sub_succ_lt_self _ _ hjl⟩
        exact els_app1 (c := Ev.cs) (l := T) rfl rfl m hm
      · have b := b1 1
        have hn : mkS (l.take (j + 1)) = (T ++ [mkEvt T H 1 ⟨Xk, Xkey, Xl, Xv⟩], setC H 1 ((H 1).inc 1)) := hn
        unfold Clk.in at b
        repeat' ((conv => whnf); first | refine Spl.yes (by first | assumption | omega) ?_ | refine Spl.no (by first | assumption | omega) ?_ | refine Wr.i64 (by omega) (by omega) ?_ | refine Still.mk rfl rfl ?_ | refine InB.mk (inB_mk (by omega) (by omega)) ?_ | refine Req.mk (by omega) ?_ | refine Req.mk ⟨by first | omega | (dsimp only; omega), by first | omega | (dsimp only; omega)⟩ ?_ | refine ACall.plain _ _ (hfit) (SubL.cons (.eq _) .nil) rfl ?_ | refine ACall.plain _ _ (hhe _) (SubL.cons (.eq _) (SubL.cons (.eq _) .nil)) rfl ?_ | refine Rm.is (by omega) (by omega) e ?_ | refine ARet.hdI ?_ | refine Spl.mk (fun _ => ?_) (fun _ => ?_) | refine InA.mk (inB_mk (by omega) (by omega)) ?_ | refine Wr.b64 ?_ | refine Wr.bu64 ?_ | refine Wr.bu32 ?_ | refine Wr.bu8 ?_ | refine Wr.u8 (by omega) (by omega) ?_ | refine Wr.u64 (by omega) (by omega) ?_ | refine Wr.u32 (by omega) (by omega) ?_ | refine Dv.pos (by omega) (by omega) ?_ | refine Rm.pos (by omega) (by omega) ?_ | refine ADraw.quiet follows_ok (by kernel_rfl) rfl ?_ | refine ADraw.sched (id := 8) lay_ok (awp_snd lay_ok _) [(0, none), (1, none), (2, none), (3, none), (4, none), (5, none), (6, none), (7, none), (8, none), (9, none), (10, none), (11, none), (12, none), (13, some [12, 10, 9, 8, 3]), (14, none), (15, some [12, 10, 9, 8, 3])] [(9, [8]), (10, [9, 8]), (11, [10, 9, 8]), (12, [10, 9, 8]), (13, [12, 10, 9, 8, 3]), (14, [12, 10, 9, 8, 3]), (15, [12, 10, 9, 8, 3])] follows_ok (by kernel_rfl) ?_ | refine ADraw.sched (id := 10) lay_ok (awp_snd lay_ok _) [(0, none), (1, none), (2, none), (3, none), (4, none), (5, none), (6, none), (7, none), (8, none), (9, none), (10, none), (11, none), (12, none), (13, none), (14, none), (16, none), (17, none), (18, none), (19, none), (20, none), (21, none), (22, none), (23, none), (15, some [14]), (24, none), (25, some [23, 21, 19, 17, 14, 10, 7, 6]), (26, some [14, 23, 21, 19, 17, 10, 7, 6]), (27, none)] [(7, [6]), (15, [14]), (24, [23, 21, 19, 17, 14, 10, 7, 6]), (25, [23, 21, 19, 17, 14, 10, 7, 6]), (26, [14, 23, 21, 19, 17, 10, 7, 6]), (27, [14, 23, 21, 19, 17, 10, 7, 6])] follows_ok (by kernel_rfl) ?_ | refine ADraw.sched (id := 11) lay_ok (awp_snd lay_ok _) [(0, none), (1, none), (2, none), (3, none), (4, none), (5, none), (6, none), (7, none), (8, none), (9, none), (10, some [7, 6])] [(7, [6]), (9, [7, 6]), (10, [7, 6])] follows_ok (by kernel_rfl) ?_ | refine BSpl.decY (by first | assumption | omega) ?_ | refine BSpl.decN (by first | assumption | omega) ?_ | refine BSpl.dec (fun _ => ?_) (fun _ => ?_) | refine BSpl.yes (by assumption) ?_ | refine BSpl.no (by assumption) ?_ | refine BSpl.mk (fun _ => ?_) (fun _ => ?_))
        conv => whnf
        refine ⟨⟨(j + 1, _), hjl, hn⟩, _, LeR.mk' [(94, 90)] _ _ _ rfl ⟨AEq.refl _, AEq.refl _, AEq.refl _, AEq.int rfl, trivial⟩ ⟨⟨_, rfl, OEq.row len_app1 (fun m hm => ?_)⟩, ⟨_, rfl, OEq.refl _⟩, trivial⟩ rfl, Nat.sub_succ_lt_self _ _ hjl⟩
        exact els_app1 (c := Ev.cs) (l := T) rfl rfl m hm
      · have b := b1 2
        have hn : mkS (l.take (j + 1)) = (T ++ [mkEvt T H 2 ⟨Xk, Xkey, Xl, Xv⟩], setC H 2 ((H 2).inc 2)) := hn
        unfold Clk.in at b
        repeat' ((conv => whnf); first | refine Spl.yes (by first | assumption | omega) ?_ | refine Spl.no (by first | assumption | omega) ?_ | refine Wr.i64 (by omega) (by omega) ?_ | refine Still.mk rfl rfl ?_ | refine InB.mk (inB_mk (by omega) (by omega)) ?_ | refine Req.mk (by omega) ?_ | refine Req.mk ⟨by first | omega | (dsimp only; omega), by first | omega | (dsimp only; omega)⟩ ?_ | refine ACall.plain _ _ (hfit) (SubL.cons (.eq _) .nil) rfl ?_ | refine ACall.plain _ _ (hhe _) (SubL.cons (.eq _) (SubL.cons (.eq _) .nil)) rfl ?_ | refine Rm.is (by omega) (by omega) e ?_ | refine ARet.hdI ?_ | refine Spl.mk (fun _ => ?_) (fun _ => ?_) | refine InA.mk (inB_mk (by omega) (by omega)) ?_ | refine Wr.b64 ?_ | refine Wr.bu64 ?_ | refine Wr.bu32 ?_ | refine Wr.bu8 ?_ | refine Wr.u8 (by omega) (by omega) ?_ | refine Wr.u64 (by omega) (by omega) ?_ | refine Wr.u32 (by omega) (by omega) ?_ | refine Dv.pos (by omega) (by omega) ?_ | refine Rm.pos (by omega) (by omega) ?_ | refine ADraw.quiet follows_ok (by kernel_rfl) rfl ?_ | refine ADraw.sched (id := 8) lay_ok (awp_snd lay_ok _) [(0, none), (1, none), (2, none), (3, none), (4, none), (5, none), (6, none), (7, none), (8, none), (9, none), (10, none), (11, none), (12, none), (13, some [12, 10, 9, 8, 3]), (14, none), (15, some [12, 10, 9, 8, 3])] [(9, [8]), (10, [9, 8]), (11, [10, 9, 8]), (12, [10, 9, 8]), (13, [12, 10, 9, 8, 3]), (14, [12, 10, 9, 8, 3]), (15, [12, 10, 9, 8, 3])] follows_ok (by kernel_rfl) ?_ | refine ADraw.sched (id := 10) lay_ok (awp_snd lay_ok _) [(0, none), (1, none), (2, none), (3, none), (4, none), (5, none), (6, none), (7, none), (8, none), (9, none), (10, none), (11, none), (12, none), (13, none), (14, none), (16, none), (17, none), (18, none), (19, none), (20, none), (21, none), (22, none), (23, none), (15, some [14]), (24, none), (25, some [23, 21, 19, 17, 14, 10, 7, 6]), (26, some [14, 23, 21, 19, 17, 10, 7, 6]), (27, none)] [(7, [6]), (15, [14]), (24, [23, 21, 19, 17, 14, 10, 7, 6]), (25, [23, 21, 19, 17, 14, 10, 7, 6]), (26, [14, 23, 21, 19, 17, 10, 7, 6]), (27, [14, 23, 21, 19, 17, 10, 7, 6])] follows_ok (by kernel_rfl) ?_ | refine ADraw.sched (id := 11) lay_ok (awp_snd lay_ok _) [(0, none), (1, none), (2, none), (3, none), (4, none), (5, none), (6, none), (7, none), (8, none), (9, none), (10, some [7, 6])] [(7, [6]), (9, [7, 6]), (10, [7, 6])] follows_ok (by kernel_rfl) ?_ | refine BSpl.decY (by first | assumption | omega) ?_ | refine BSpl.decN (by first | assumption | omega) ?_ | refine BSpl.dec (fun _ => ?_) (fun _ => ?_) | refine BSpl.yes (by assumption) ?_ | refine BSpl.no (by assumption) ?_ | refine BSpl.mk (fun _ => ?_) (fun _ => ?_))
        conv => whnf
        refine ⟨⟨(j + 1, _), hjl, hn⟩, _, LeR.mk' [(94, 90)] _ _ _ rfl ⟨AEq.refl _, AEq.refl _, AEq.refl _, AEq.int rfl, trivial⟩ ⟨⟨_, rfl, OEq.row len_app1 (fun m hm => ?_)⟩, ⟨_, rfl, OEq.refl _⟩, trivial⟩ rfl, Nat.sub_succ_lt_self _ _ hjl⟩
        exact els_app1 (c := Ev.cs) (l := T) rfl rfl m hm
      · have b := b1 3
        have hn : mkS (l.take (j + 1)) = (T ++ [mkEvt T H 3 ⟨Xk, Xkey, Xl, Xv⟩], setC H 3 ((H 3).inc 3)) := hn
        unfold Clk.in at b
        repeat' ((conv => whnf); first | refine Spl.yes (by first | assumption | omega) ?_ | refine Spl.no (by first | assumption | omega) ?_ | refine Wr.i64 (by omega) (by omega) ?_ | refine Still.mk rfl rfl ?_ | refine InB.mk (inB_mk (by omega) (by omega)) ?_ | refine Req.mk (by omega) ?_ | refine Req.mk ⟨by first | omega | (dsimp only; omega), by first | omega | (dsimp only; omega)⟩ ?_ | refine ACall.plain _ _ (hfit) (SubL.cons (.eq _) .nil) rfl ?_ | refine ACall.plain _ _ (hhe _) (SubL.cons (.eq _) (SubL.cons (.eq _) .nil)) rfl ?_ | refine Rm.is (by omega) (by omega) e ?_ | refine ARet.hdI ?_ | refine Spl.mk (fun _ => ?_) (fun _ => ?_) | refine InA.mk (inB_mk (by omega) (by omega)) ?_ | refine Wr.b64 ?_ | refine Wr.bu64 ?_ | refine Wr.bu32 ?_ | refine Wr.bu8 ?_ | refine Wr.u8 (by omega) (by omega) ?_ | refine Wr.u64 (by omega) (by omega) ?_ | refine Wr.u32 (by omega) (by omega) ?_ | refine Dv.pos (by omega) (by omega) ?_ | refine Rm.pos (by omega) (by omega) ?_ | refine ADraw.quiet follows_ok (by kernel_rfl) rfl ?_ | refine ADraw.sched (id := 8) lay_ok (awp_snd lay_ok _) [(0, none), (1, none), (2, none), (3, none), (4, none), (5, none), (6, none), (7, none), (8, none), (9, none), (10, none), (11, none), (12, none), (13, some [12, 10, 9, 8, 3]), (14, none), (15, some [12, 10, 9, 8, 3])] [(9, [8]), (10, [9, 8]), (11, [10, 9, 8]), (12, [10, 9, 8]), (13, [12, 10, 9, 8, 3]), (14, [12, 10, 9, 8, 3]), (15, [12, 10, 9, 8, 3])] follows_ok (by kernel_rfl) ?_ | refine ADraw.sched (id := 10) lay_ok (awp_snd lay_ok _) [(0, none), (1, none), (2, none), (3, none), (4, none), (5, none), (6, none), (7, none), (8, none), (9, none), (10, none), (11, none), (12, none), (13, none), (14, none), (16, none), (17, none), (18, none), (19, none), (20, none), (21, none), (22, none), (23, none), (15, some [14]), (24, none), (25, some [23, 21, 19, 17, 14, 10, 7, 6]), (26, some [14, 23, 21, 19, 17, 10, 7, 6]), (27, none)] [(7, [6]), (15, [14]), (24, [23, 21, 19, 17, 14, 10, 7, 6]), (25, [23, 21, 19, 17, 14, 10, 7, 6]), (26, [14, 23, 21, 19, 17, 10, 7, 6]), (27, [14, 23, 21, 19, 17, 10, 7, 6])] follows_ok (by kernel_rfl) ?_ | refine ADraw.sched (id := 11) lay_ok (awp_snd lay_ok _) [(0, none), (1, none), (2, none), (3, none), (4, none), (5, none), (6, none), (7, none), (8, none), (9, none), (10, some [7, 6])] [(7, [6]), (9, [7, 6]), (10, [7, 6])] follows_ok (by kernel_rfl) ?_ | refine BSpl.decY (by first | assumption | omega) ?_ | refine BSpl.decN (by first | assumption | omega) ?_ | refine BSpl.dec (fun _ => ?_) (fun _ => ?_) | refine BSpl.yes (by assumption) ?_ | refine BSpl.no (by assumption) ?_ | refine BSpl.mk (fun _ => ?_) (fun _ => ?_))
        conv => whnf
        refine ⟨⟨(j + 1, _), hjl, hn⟩, _, LeR.mk' [(94, 90)] _ _ _ rfl ⟨AEq.refl _, AEq.refl _, AEq.refl _, AEq.int rfl, trivial⟩ ⟨⟨_, rfl, OEq.row len_app1 (fun m hm => ?_)⟩, ⟨_, rfl, OEq.refl _⟩, trivial⟩ rfl, Nat.sub_succ_lt_self _ _ hjl⟩
        exact els_app1 (c := Ev.cs) (l := T) rfl rfl m hm
      · have b := b1 4
        have hn : mkS (l.take (j + 1)) = (T ++ [mkEvt T H 4 ⟨Xk, Xkey, Xl, Xv⟩], setC H 4 ((H 4).inc 4)) := hn
        unfold Clk.in at b
        repeat' ((conv => whnf); first | refine Spl.yes (by first | assumption | omega) ?_ | refine Spl.no (by first | assumption | omega) ?_ | refine Wr.i64 (by omega) (by omega) ?_ | refine Still.mk rfl rfl ?_ | refine InB.mk (inB_mk (by omega) (by omega)) ?_ | refine Req.mk (by omega) ?_ | refine Req.mk ⟨by first | omega | (dsimp only; omega), by first | omega | (dsimp only; omega)⟩ ?_ | refine ACall.plain _ _ (hfit) (SubL.cons (.eq _) .nil) rfl ?_ | refine ACall.plain _ _ (hhe _) (SubL.cons (.eq _) (SubL.cons (.eq _) .nil)) rfl ?_ | refine Rm.is (by omega) (by omega) e ?_ | refine ARet.hdI ?_ | refine Spl.mk (fun _ => ?_) (fun _ => ?_) | refine InA.mk (inB_mk (by omega) (by omega)) ?_ | refine Wr.b64 ?_ | refine Wr.bu64 ?_ | refine Wr.bu32 ?_ | refine Wr.bu8 ?_ | refine Wr.u8 (by omega) (by omega) ?_ | refine Wr.u64 (by omega) (by omega) ?_ | refine Wr.u32 (by omega) (by omega) ?_ | refine Dv.pos (by omega) (by omega) ?_ | refine Rm.pos (by omega) (by omega) ?_ | refine ADraw.quiet follows_ok (by kernel_rfl) rfl ?_ | refine ADraw.sched (id := 8) lay_ok (awp_snd lay_ok _) [(0, none), (1, none), (2, none), (3, none), (4, none), (5, none), (6, none), (7, none), (8, none), (9, none), (10, none), (11, none), (12, none), (13, some [12, 10, 9, 8, 3]), (14, none), (15, some [12, 10, 9, 8, 3])] [(9, [8]), (10, [9, 8]), (11, [10, 9, 8]), (12, [10, 9, 8]), (13, [12, 10, 9, 8, 3]), (14, [12, 10, 9, 8, 3]), (15, [12, 10, 9, 8, 3])] follows_ok (by kernel_rfl) ?_ | refine ADraw.sched (id := 10) lay_ok (awp_snd lay_ok _) [(0, none), (1, none), (2, none), (3, none), (4, none), (5, none), (6, none), (7, none), (8, none), (9, none), (10, none), (11, none), (12, none), (13, none), (14, none), (16, none), (17, none), (18, none), (19, none), (20, none), (21, none), (22, none), (23, none), (15, some [14]), (24, none), (25, some [23, 21, 19, 17, 14, 10, 7, 6]), (26, some [14, 23, 21, 19, 17, 10, 7, 6]), (27, none)] [(7, [6]), (15, [14]), (24, [23, 21, 19, 17, 14, 10, 7, 6]), (25, [23, 21, 19, 17, 14, 10, 7, 6]), (26, [14, 23, 21, 19, 17, 10, 7, 6]), (27, [14, 23, 21, 19, 17, 10, 7, 6])] follows_ok (by kernel_rfl) ?_ | refine ADraw.sched (id := 11) lay_ok (awp_snd lay_ok _) [(0, none), (1, none), (2, none), (3, none), (4, none), (5, none), (6, none), (7, none), (8, none), (9, none), (10, some [7, 6])] [(7, [6]), (9, [7, 6]), (10, [7, 6])] follows_ok (by kernel_rfl) ?_ | refine BSpl.decY (by first | assumption | omega) ?_ | refine BSpl.decN (by first | assumption | omega) ?_ | refine BSpl.dec (fun _ => ?_) (fun _ => ?_) | refine BSpl.yes (by assumption) ?_ | refine BSpl.no (by assumption) ?_ | refine BSpl.mk (fun _ => ?_) (fun _ => ?_))
        conv => whnf
        refine ⟨⟨(j + 1, _), hjl, hn⟩, _, LeR.mk' [(94, 90)] _ _ _ rfl ⟨AEq.refl _, AEq.refl _, AEq.refl _, AEq.int rfl, trivial⟩ ⟨⟨_, rfl, OEq.row len_app1 (fun m hm => ?_)⟩, ⟨_, rfl, OEq.refl _⟩, trivial⟩ rfl, Nat.sub_succ_lt_self _ _ hjl⟩
        exact els_app1 (c := Ev.cs) (l := T) rfl rfl m hm
    · rw [mkStep, if_pos hq] at hn
      have hjo := fun r f => join_spec (H r) (H f)
      dsimp only [Clk.av, Clk.join] at hjo
      rcases int_five hr0 with e | e | e | e | e
      all_goals
        rw [e] at hn
        rcases int_five hf0 with e' | e' | e' | e' | e'
      all_goals
        rw [e'] at hn
      all_goals
        repeat' ((conv => whnf); first | refine Spl.yes (by first | assumption | omega) ?_ | refine Spl.no (by first | assumption | omega) ?_ | refine Wr.i64 (by omega) (by omega) ?_ | refine Still.mk rfl rfl ?_ | refine InB.mk (inB_mk (by omega) (by omega)) ?_ | refine Req.mk (by omega) ?_ | refine Req.mk ⟨by first | omega | (dsimp only; omega), by first | omega | (dsimp only; omega)⟩ ?_ | refine ACall.plain _ _ (hjo _ _) (SubL.cons (.eq _) (SubL.cons (.eq _) .nil)) rfl ?_ | refine Rm.is (by omega) (by omega) e ?_ | refine Rm.is (by omega) (by omega) e' ?_ | refine ARet.hdI ?_ | refine Spl.mk (fun _ => ?_) (fun _ => ?_) | refine InA.mk (inB_mk (by omega) (by omega)) ?_ | refine Wr.b64 ?_ | refine Wr.bu64 ?_ | refine Wr.bu32 ?_ | refine Wr.bu8 ?_ | refine Wr.u8 (by omega) (by omega) ?_ | refine Wr.u64 (by omega) (by omega) ?_ | refine Wr.u32 (by omega) (by omega) ?_ | refine Dv.pos (by omega) (by omega) ?_ | refine Rm.pos (by omega) (by omega) ?_ | refine ADraw.quiet follows_ok (by kernel_rfl) rfl ?_ | refine ADraw.sched (id := 8) lay_ok (awp_snd lay_ok _) [(0, none), (1, none), (2, none), (3, none), (4, none), (5, none), (6, none), (7, none), (8, none), (9, none), (10, none), (11, none), (12, none), (13, some [12, 10, 9, 8, 3]), (14, none), (15, some [12, 10, 9, 8, 3])] [(9, [8]), (10, [9, 8]), (11, [10, 9, 8]), (12, [10, 9, 8]), (13, [12, 10, 9, 8, 3]), (14, [12, 10, 9, 8, 3]), (15, [12, 10, 9, 8, 3])] follows_ok (by kernel_rfl) ?_ | refine ADraw.sched (id := 10) lay_ok (awp_snd lay_ok _) [(0, none), (1, none), (2, none), (3, none), (4, none), (5, none), (6, none), (7, none), (8, none), (9, none), (10, none), (11, none), (12, none), (13, none), (14, none), (16, none), (17, none), (18, none), (19, none), (20, none), (21, none), (22, none), (23, none), (15, some [14]), (24, none), (25, some [23, 21, 19, 17, 14, 10, 7, 6]), (26, some [14, 23, 21, 19, 17, 10, 7, 6]), (27, none)] [(7, [6]), (15, [14]), (24, [23, 21, 19, 17, 14, 10, 7, 6]), (25, [23, 21, 19, 17, 14, 10, 7, 6]), (26, [14, 23, 21, 19, 17, 10, 7, 6]), (27, [14, 23, 21, 19, 17, 10, 7, 6])] follows_ok (by kernel_rfl) ?_ | refine ADraw.sched (id := 11) lay_ok (awp_snd lay_ok _) [(0, none), (1, none), (2, none), (3, none), (4, none), (5, none), (6, none), (7, none), (8, none), (9, none), (10, some [7, 6])] [(7, [6]), (9, [7, 6]), (10, [7, 6])] follows_ok (by kernel_rfl) ?_ | refine BSpl.decY (by first | assumption | omega) ?_ | refine BSpl.decN (by first | assumption | omega) ?_ | refine BSpl.dec (fun _ => ?_) (fun _ => ?_) | refine BSpl.yes (by assumption) ?_ | refine BSpl.no (by assumption) ?_ | refine BSpl.mk (fun _ => ?_) (fun _ => ?_))
        conv => whnf
        exact ⟨⟨(j + 1, _), hjl, hn⟩, _, LeR.mk' [] _ _ _ rfl ⟨AEq.refl _, AEq.refl _, AEq.refl _, AEq.int rfl, trivial⟩ ⟨⟨_, rfl, OEq.refl _⟩, ⟨_, rfl, OEq.refl _⟩, trivial⟩ rfl, Nat.sub_succ_lt_self _ _ hjl⟩
  · rw [List.take_of_length_le (show l.length ≤ j by omega)] at hs
    have hR : makeL l = T := by rw [makeL, hs]
    rw [hR]
    repeat' ((conv => whnf); first | refine Spl.yes (by first | assumption | omega) ?_ | refine Spl.no (by first | assumption | omega) ?_ | refine Wr.i64 (by omega) (by omega) ?_ | refine Still.mk rfl rfl ?_ | refine InB.mk (inB_mk (by omega) (by omega)) ?_ | refine Req.mk (by omega) ?_ | refine Req.mk ⟨by first | omega | (dsimp only; omega), by first | omega | (dsimp only; omega)⟩ ?_ | refine ARet.hdI ?_ | refine Spl.mk (fun _ => ?_) (fun _ => ?_) | refine InA.mk (inB_mk (by omega) (by omega)) ?_ | refine Wr.b64 ?_ | refine Wr.bu64 ?_ | refine Wr.bu32 ?_ | refine Wr.bu8 ?_ | refine Wr.u8 (by omega) (by omega) ?_ | refine Wr.u64 (by omega) (by omega) ?_ | refine Wr.u32 (by omega) (by omega) ?_ | refine Dv.pos (by omega) (by omega) ?_ | refine Rm.pos (by omega) (by omega) ?_ | refine ADraw.quiet follows_ok (by kernel_rfl) rfl ?_ | refine ADraw.sched (id := 8) lay_ok (awp_snd lay_ok _) [(0, none), (1, none), (2, none), (3, none), (4, none), (5, none), (6, none), (7, none), (8, none), (9, none), (10, none), (11, none), (12, none), (13, some [12, 10, 9, 8, 3]), (14, none), (15, some [12, 10, 9, 8, 3])] [(9, [8]), (10, [9, 8]), (11, [10, 9, 8]), (12, [10, 9, 8]), (13, [12, 10, 9, 8, 3]), (14, [12, 10, 9, 8, 3]), (15, [12, 10, 9, 8, 3])] follows_ok (by kernel_rfl) ?_ | refine ADraw.sched (id := 10) lay_ok (awp_snd lay_ok _) [(0, none), (1, none), (2, none), (3, none), (4, none), (5, none), (6, none), (7, none), (8, none), (9, none), (10, none), (11, none), (12, none), (13, none), (14, none), (16, none), (17, none), (18, none), (19, none), (20, none), (21, none), (22, none), (23, none), (15, some [14]), (24, none), (25, some [23, 21, 19, 17, 14, 10, 7, 6]), (26, some [14, 23, 21, 19, 17, 10, 7, 6]), (27, none)] [(7, [6]), (15, [14]), (24, [23, 21, 19, 17, 14, 10, 7, 6]), (25, [23, 21, 19, 17, 14, 10, 7, 6]), (26, [14, 23, 21, 19, 17, 10, 7, 6]), (27, [14, 23, 21, 19, 17, 10, 7, 6])] follows_ok (by kernel_rfl) ?_ | refine ADraw.sched (id := 11) lay_ok (awp_snd lay_ok _) [(0, none), (1, none), (2, none), (3, none), (4, none), (5, none), (6, none), (7, none), (8, none), (9, none), (10, some [7, 6])] [(7, [6]), (9, [7, 6]), (10, [7, 6])] follows_ok (by kernel_rfl) ?_ | refine BSpl.decY (by first | assumption | omega) ?_ | refine BSpl.decN (by first | assumption | omega) ?_ | refine BSpl.dec (fun _ => ?_) (fun _ => ?_) | refine BSpl.yes (by assumption) ?_ | refine BSpl.no (by assumption) ?_ | refine BSpl.mk (fun _ => ?_) (fun _ => ?_))
    conv => whnf
    exact AEqI.mk (AEq.refl _)
end Go.Proofs.Ytihjfndkgmjanaa
