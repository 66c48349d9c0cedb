/-
  Makers of pasts: clocks joined and compared; how high; edits that may be.
-/
import Derived.Test.YtihjfndkgmjanaaBr1
import Derived.Test.YtihjfndkgmjanaaBkQ
namespace Go.Proofs.Ytihjfndkgmjanaa
open Go.RowKit

def mxI (a b : Int) : Int := if b > a then b else a
def Clk.join (a b : Clk) : Clk := ⟨mxI a.c0 b.c0, mxI a.c1 b.c1, mxI a.c2 b.c2, mxI a.c3 b.c3, mxI a.c4 b.c4⟩
def Clk.le (a b : Clk) : Bool := decide (a.c0 ≤ b.c0 ∧ a.c1 ≤ b.c1 ∧ a.c2 ≤ b.c2 ∧ a.c3 ≤ b.c3 ∧ a.c4 ≤ b.c4)

set_option maxRecDepth 100000 in
theorem join_spec (a b : Clk) : ASpec Try.prog 48 [a.av, b.av] (a.join b).av [] := by
  dsimp only [Clk.av, Clk.join]
  refine aspec_of lay_ok 639 Try.func48 rfl rfl rfl ?_
  repeat' ((conv => whnf); first | refine Spl.yes (by first | assumption | omega) ?_ | refine Spl.no (by first | assumption | omega) ?_ | refine Wr.i64 (by omega) (by omega) ?_ | refine Still.mk rfl rfl ?_ | refine InB.mk (inB_mk (by omega) (by omega)) ?_ | refine Req.mk (by omega) ?_ | refine Req.mk ⟨by first | omega | (dsimp only; omega), by first | omega | (dsimp only; omega)⟩ ?_ | refine ALoop.unr 6 6 rfl ?_ | refine ARet.hdI ?_ | refine Spl.mk (fun _ => ?_) (fun _ => ?_) | refine InA.mk (inB_mk (by omega) (by omega)) ?_ | refine Wr.b64 ?_ | refine Wr.bu64 ?_ | refine Wr.bu32 ?_ | refine Wr.bu8 ?_ | refine Wr.u8 (by omega) (by omega) ?_ | refine Wr.u64 (by omega) (by omega) ?_ | refine Wr.u32 (by omega) (by omega) ?_ | refine Dv.pos (by omega) (by omega) ?_ | refine Rm.pos (by omega) (by omega) ?_ | refine ADraw.quiet follows_ok (by kernel_rfl) rfl ?_ | refine ADraw.sched (id := 5) lay_ok (awp_snd lay_ok _) [(0, none), (1, none), (2, none), (3, none), (4, none), (5, none), (6, none), (7, none), (8, none), (9, some [7, 6, 3])] [(7, [6, 3]), (8, [7, 6, 3]), (9, [7, 6, 3])] follows_ok (by kernel_rfl) ?_ | refine BSpl.decY (by first | assumption | omega) ?_ | refine BSpl.decN (by first | assumption | omega) ?_ | refine BSpl.dec (fun _ => ?_) (fun _ => ?_) | refine BSpl.yes (by assumption) ?_ | refine BSpl.no (by assumption) ?_ | refine BSpl.mk (fun _ => ?_) (fun _ => ?_))
  conv => whnf
  exact AEqI.mk (AEq.refl _)
set_option maxRecDepth 100000 in
theorem lessEq_spec (a b : Clk) : ASpec Try.prog 51 [a.av, b.av] (.v (.bool (a.le b))) [] := by
  dsimp only [Clk.av]
  refine aspec_of lay_ok 65727 Try.func51 rfl rfl rfl ?_
  repeat' ((conv => whnf); first | refine Spl.yes (by first | assumption | omega) ?_ | refine Spl.no (by first | assumption | omega) ?_ | refine Wr.i64 (by omega) (by omega) ?_ | refine Still.mk rfl rfl ?_ | refine InB.mk (inB_mk (by omega) (by omega)) ?_ | refine Req.mk (by omega) ?_ | refine Req.mk ⟨by first | omega | (dsimp only; omega), by first | omega | (dsimp only; omega)⟩ ?_ | refine ALoop.unr 5 6 rfl ?_ | refine ARet.hdI ?_ | refine Spl.mk (fun _ => ?_) (fun _ => ?_) | refine InA.mk (inB_mk (by omega) (by omega)) ?_ | refine Wr.b64 ?_ | refine Wr.bu64 ?_ | refine Wr.bu32 ?_ | refine Wr.bu8 ?_ | refine Wr.u8 (by omega) (by omega) ?_ | refine Wr.u64 (by omega) (by omega) ?_ | refine Wr.u32 (by omega) (by omega) ?_ | refine Dv.pos (by omega) (by omega) ?_ | refine Rm.pos (by omega) (by omega) ?_ | refine ADraw.quiet follows_ok (by kernel_rfl) rfl ?_ | refine BSpl.decY (by first | assumption | omega) ?_ | refine BSpl.decN (by first | assumption | omega) ?_ | refine BSpl.dec (fun _ => ?_) (fun _ => ?_) | refine BSpl.yes (by assumption) ?_ | refine BSpl.no (by assumption) ?_ | refine BSpl.mk (fun _ => ?_) (fun _ => ?_))
  all_goals (conv => whnf)
  all_goals (refine AEqI.mk (AEq.of ?_))
  all_goals (unfold Clk.le; congr 2; simp; try omega)

/-! ### How high -/
def hStep (c : Clk) (s : Int × Bool) (e : Ev) : Int × Bool := if (hasB c e.r e.n && (!s.2 || decide (s.1 < e.h))) = true then (e.h, true) else s
def hgtF (c : Clk) (l : List Ev) : Int × Bool := l.foldl (hStep c) (0, false)
def hgt (l : List Ev) (c : Clk) : Int := (hgtF c l).1 + 1
theorem fold_take {α β : Type} [Inhabited α] {f : β → α → β} {b : β} {l : List α} {j : Nat} (h : j < l.length) : (l.take (j + 1)).foldl f b = f ((l.take j).foldl f b) (l.getD j default) := by
  rw [List.take_add_one, List.getElem?_eq_getElem h, List.getD, List.getElem?_eq_getElem h, List.foldl_append]
  rfl
theorem hgtF_bnd {c : Clk} {M : Int} (hM : 0 ≤ M) : ∀ (l : List Ev), (∀ e ∈ l, 0 ≤ e.h ∧ e.h ≤ M) → ∀ s : Int × Bool, 0 ≤ s.1 ∧ s.1 ≤ M → 0 ≤ (l.foldl (hStep c) s).1 ∧ (l.foldl (hStep c) s).1 ≤ M
  | [], _, s, hs => hs
  | e :: l, h, s, hs => by
    rw [List.foldl_cons]
    refine hgtF_bnd hM l (fun x hx => h x (List.mem_cons_of_mem _ hx)) _ ?_
    unfold hStep
    split
    · exact h e List.mem_cons_self
    · exact hs
theorem hgt_bnd {c : Clk} {M : Int} (hM : 0 ≤ M) {l : List Ev} (h : ∀ e ∈ l, 0 ≤ e.h ∧ e.h ≤ M) : 1 ≤ hgt l c ∧ hgt l c ≤ M + 1 := by
  have := hgtF_bnd (c := c) hM l h (0, false) ⟨by simp, hM⟩
  unfold hgt hgtF
  omega

set_option maxHeartbeats 8000000 in
set_option maxRecDepth 100000 in
theorem height_spec (l : List Ev) (c : Clk) (hl : l.length ≤ 1000000000) (hh : ∀ e ∈ l, 0 ≤ e.h ∧ e.h ≤ 1000000000) :
    ASpec Try.prog 27 [.sl 12 l.length true (evF l), c.av] (.v (.int .i64 (hgt l c))) [] := by
  dsimp only [Clk.av]
  refine aspec_of lay_ok 1099511632379 Try.func27 rfl rfl rfl ?_
  repeat' ((conv => whnf); first | refine Spl.yes (by first | assumption | omega) ?_ | refine Spl.no (by first | assumption | omega) ?_ | refine Wr.i64 (by omega) (by omega) ?_ | refine Still.mk rfl rfl ?_ | refine InB.mk (inB_mk (by omega) (by omega)) ?_ | refine Req.mk (by omega) ?_ | refine Req.mk ⟨by first | omega | (dsimp only; omega), by first | omega | (dsimp only; omega)⟩ ?_ | refine ARet.hdI ?_ | refine Spl.mk (fun _ => ?_) (fun _ => ?_) | refine InA.mk (inB_mk (by omega) (by omega)) ?_ | refine Wr.b64 ?_ | refine Wr.bu64 ?_ | refine Wr.bu32 ?_ | refine Wr.bu8 ?_ | refine Wr.u8 (by omega) (by omega) ?_ | refine Wr.u64 (by omega) (by omega) ?_ | refine Wr.u32 (by omega) (by omega) ?_ | refine Dv.pos (by omega) (by omega) ?_ | refine Rm.pos (by omega) (by omega) ?_ | refine ADraw.quiet follows_ok (by kernel_rfl) rfl ?_ | refine ADraw.sched (id := 6) lay_ok (awp_snd lay_ok _) [(0, none), (1, none), (2, none), (3, none), (4, none), (5, none), (6, none), (7, none), (8, none), (9, none), (10, none), (11, some [10, 5, 0]), (12, none)] [(11, [10, 5, 0]), (12, [10, 5, 0])] follows_ok (by kernel_rfl) ?_ | refine BSpl.decY (by first | assumption | omega) ?_ | refine BSpl.decN (by first | assumption | omega) ?_ | refine BSpl.dec (fun _ => ?_) (fun _ => ?_) | refine BSpl.yes (by assumption) ?_ | refine BSpl.no (by assumption) ?_ | refine BSpl.mk (fun _ => ?_) (fun _ => ?_))
  conv => whnf
  refine ALoop.mk { x : Nat × (Int × Bool) // x.1 ≤ l.length ∧ x.2 = hgtF c (l.take x.1) } (fun x => ⟨[(0, .sl 12 l.length true (evF l)), (3, .box 0 0), (5, .v (.int .i64 x.1.2.1)), (6, .v (.bool x.1.2.2)), (7, .v (.int .i64 (x.1.1 : Int)))],
      [(0, .box 30 c.cs)], [], 1⟩) (fun x => l.length - x.1.1) ⟨(0, (0, false)), Nat.zero_le _, rfl⟩ _
    (LeR.mk' [] _ _ _ rfl ⟨AEq.refl _, AEq.refl _, AEq.refl _, AEq.refl _, AEq.int rfl, trivial⟩ ⟨⟨_, rfl, OEq.refl _⟩, trivial⟩ rfl) ?_
  rintro ⟨⟨j, s⟩, hj, hs⟩
  dsimp only at hj hs ⊢
  have hb := hgtF_bnd (c := c) (M := 1000000000) (by omega) (l.take j) (fun e he => hh e (List.mem_of_mem_take he)) (0, false) (by simp)
  have hs' : s = (l.take j).foldl (hStep c) (0, false) := hs
  rw [← hs'] at hb
  by_cases hjl : j < l.length
  · have hhas := has3_spec c (l.getD (j : Int).toNat default).r (l.getD (j : Int).toNat default).n
    have hft : hgtF c (l.take (j + 1)) = hStep c s (l.getD (j : Int).toNat default) := by rw [hs]; exact fold_take hjl
    have hst : hStep c s (l.getD (j : Int).toNat default) = if (hasB c (l.getD (j : Int).toNat default).r (l.getD (j : Int).toNat default).n && (!s.2 || decide (s.1 < (l.getD (j : Int).toNat default).h))) = true then ((l.getD (j : Int).toNat default).h, true) else s := rfl
    rw [hst] at hft
    generalize hasB c (l.getD (j : Int).toNat default).r (l.getD (j : Int).toNat default).n = q at hhas hft
    clear hs' hst hs hh
    obtain ⟨s1, s2⟩ := s
    dsimp only at hb hft ⊢
    have k1 : q = true → s2 = false → ((l.getD (j : Int).toNat default).h, true) = hgtF c (l.take (j + 1)) := fun h1 h2 => by rw [hft, h1, h2]; simp
    have k2 : q = true → s1 < (l.getD (j : Int).toNat default).h → ((l.getD (j : Int).toNat default).h, true) = hgtF c (l.take (j + 1)) := fun h1 h2 => by rw [hft, h1, decide_eq_true h2]; simp
    have k3 : q = false → (s1, s2) = hgtF c (l.take (j + 1)) := fun h1 => by rw [hft, h1]; simp
    have k4 : s2 = true → ¬ s1 < (l.getD (j : Int).toNat default).h → (s1, s2) = hgtF c (l.take (j + 1)) := fun h1 h2 => by rw [hft, h1, decide_eq_false h2]; simp
    clear hft
    dsimp only [Clk.av, Clk.cs] at hhas ⊢
    repeat' ((conv => whnf); first | refine Spl.yes (by first | assumption | omega) ?_ | refine Spl.no (by first | assumption | omega) ?_ | refine Wr.i64 (by omega) (by omega) ?_ | refine Still.mk rfl rfl ?_ | refine InB.mk (inB_mk (by omega) (by omega)) ?_ | refine Req.mk (by omega) ?_ | refine Req.mk ⟨by first | omega | (dsimp only; omega), by first | omega | (dsimp only; omega)⟩ ?_ | refine ACall.plain _ _ (hhas) (SubL.cons (.eq _) (SubL.cons (.eq _) (SubL.cons (.eq _) .nil))) rfl ?_ | refine ARet.hdI ?_ | refine Spl.mk (fun _ => ?_) (fun _ => ?_) | refine InA.mk (inB_mk (by omega) (by omega)) ?_ | refine Wr.b64 ?_ | refine Wr.bu64 ?_ | refine Wr.bu32 ?_ | refine Wr.bu8 ?_ | refine Wr.u8 (by omega) (by omega) ?_ | refine Wr.u64 (by omega) (by omega) ?_ | refine Wr.u32 (by omega) (by omega) ?_ | refine Dv.pos (by omega) (by omega) ?_ | refine Rm.pos (by omega) (by omega) ?_ | refine ADraw.quiet follows_ok (by kernel_rfl) rfl ?_ | refine ADraw.sched (id := 6) lay_ok (awp_snd lay_ok _) [(0, none), (1, none), (2, none), (3, none), (4, none), (5, none), (6, none), (7, none), (8, none), (9, none), (10, none), (11, some [10, 5, 0]), (12, none)] [(11, [10, 5, 0]), (12, [10, 5, 0])] follows_ok (by kernel_rfl) ?_ | refine BSpl.decY (by first | assumption | omega) ?_ | refine BSpl.decN (by first | assumption | omega) ?_ | refine BSpl.dec (fun _ => ?_) (fun _ => ?_) | refine BSpl.yes (by assumption) ?_ | refine BSpl.no (by assumption) ?_ | refine BSpl.mk (fun _ => ?_) (fun _ => ?_))
    all_goals (conv => whnf)
    all_goals first
      | exact ⟨⟨(j + 1, (_, true)), hjl, by first | exact k1 (by assumption) (by assumption) | exact k2 (by assumption) (by omega)⟩, _, LeR.mk' [] _ _ _ rfl ⟨AEq.refl _, AEq.refl _, AEq.refl _, AEq.refl _, AEq.int rfl, trivial⟩ ⟨⟨_, rfl, OEq.refl _⟩, trivial⟩ rfl, Nat.sub_succ_lt_self _ _ hjl⟩
      | exact ⟨⟨(j + 1, (s1, s2)), hjl, by first | exact k3 (by assumption) | exact k4 (by assumption) (by omega)⟩, _, LeR.mk' [] _ _ _ rfl ⟨AEq.refl _, AEq.refl _, AEq.refl _, AEq.refl _, AEq.int rfl, trivial⟩ ⟨⟨_, rfl, OEq.refl _⟩, trivial⟩ rfl, Nat.sub_succ_lt_self _ _ hjl⟩
  · rw [List.take_of_length_le (show l.length ≤ j by omega)] at hs
    have hR : hgt l c = s.1 + 1 := by rw [hs]; rfl
    rw [hR]
    repeat' ((conv => whnf); first | refine Spl.yes (by first | assumption | omega) ?_ | refine Spl.no (by first | assumption | omega) ?_ | refine Wr.i64 (by omega) (by omega) ?_ | refine Still.mk rfl rfl ?_ | refine InB.mk (inB_mk (by omega) (by omega)) ?_ | refine Req.mk (by omega) ?_ | refine Req.mk ⟨by first | omega | (dsimp only; omega), by first | omega | (dsimp only; omega)⟩ ?_ | refine ARet.hdI ?_ | refine Spl.mk (fun _ => ?_) (fun _ => ?_) | refine InA.mk (inB_mk (by omega) (by omega)) ?_ | refine Wr.b64 ?_ | refine Wr.bu64 ?_ | refine Wr.bu32 ?_ | refine Wr.bu8 ?_ | refine Wr.u8 (by omega) (by omega) ?_ | refine Wr.u64 (by omega) (by omega) ?_ | refine Wr.u32 (by omega) (by omega) ?_ | refine Dv.pos (by omega) (by omega) ?_ | refine Rm.pos (by omega) (by omega) ?_ | refine ADraw.quiet follows_ok (by kernel_rfl) rfl ?_ | refine ADraw.sched (id := 6) lay_ok (awp_snd lay_ok _) [(0, none), (1, none), (2, none), (3, none), (4, none), (5, none), (6, none), (7, none), (8, none), (9, none), (10, none), (11, some [10, 5, 0]), (12, none)] [(11, [10, 5, 0]), (12, [10, 5, 0])] follows_ok (by kernel_rfl) ?_ | refine BSpl.decY (by first | assumption | omega) ?_ | refine BSpl.decN (by first | assumption | omega) ?_ | refine BSpl.dec (fun _ => ?_) (fun _ => ?_) | refine BSpl.yes (by assumption) ?_ | refine BSpl.no (by assumption) ?_ | refine BSpl.mk (fun _ => ?_) (fun _ => ?_))
    conv => whnf
    exact AEqI.mk (AEq.refl _)

/-! ### Edits that may be -/
def Ed.cs (e : Ed) : List AV := [.v (.int .i64 e.k), .v (.string e.key), .v (.int .i64 e.l), .v (.string e.v)]
def Ed.av (e : Ed) : AV := .agg e.cs
def sumB (l : List UInt8) : Nat := (l.map fun b => b.toNat).sum
theorem sumB_le : ∀ l : List UInt8, sumB l ≤ 255 * l.length
  | [] => by simp [sumB]
  | b :: l => by
    have := sumB_le l
    have := UInt8.toNat_lt b
    simp only [sumB, List.map_cons, List.sum_cons, List.length_cons] at *
    omega
theorem sumB_take {l : List UInt8} {j : Nat} (h : j < l.length) : sumB (l.take (j + 1)) = sumB (l.take j) + (l.getD j 0).toNat := by
  rw [List.take_add_one, List.getElem?_eq_getElem h, List.getD, List.getElem?_eq_getElem h, sumB, List.map_append, List.sum_append]
  simp [sumB]
theorem sumB_all {l : List UInt8} {j : Nat} (h : l.length ≤ j) : sumB (l.take j) = sumB l := by rw [List.take_of_length_le h]

def ks3 (n : Nat) : ByteArray := if (n : Int) % 3 = 0 then ⟨#[97, 110, 110]⟩ else if (n : Int) % 3 = 1 then ⟨#[98, 111, 98]⟩ else ⟨#[99, 121]⟩
def vs4 (n : Nat) : ByteArray := if (n : Int) % 4 = 0 then ⟨#[49]⟩ else if (n : Int) % 4 = 1 then ⟨#[116, 119, 111]⟩ else if (n : Int) % 4 = 2 then ⟨#[0, 255]⟩ else ⟨#[116, 119, 101, 108, 118, 101, 32, 98, 121, 116, 101, 115]⟩
def andI (x m : Int) : Int := IntKind.i64.wrap ((BitVec.ofInt IntKind.i64.bits x &&& BitVec.ofInt IntKind.i64.bits m).toNat : Int)
def m5 (x : Int) : Int := (x.tmod 5 + 5) % 5
def fitEd (e : Ed) : Ed :=
  if 2 < 1 + m5 e.k then ⟨1 + m5 e.k, ks3 (sumB e.key.data.toList), andI e.l 1, vs4 (sumB e.v.data.toList)⟩ else ⟨1 + m5 e.k, ks3 (sumB e.key.data.toList), 0, ⟨#[]⟩⟩

theorem tmod5 (k : Int) : -5 < k.tmod 5 ∧ k.tmod 5 < 5 := by
  have h1 := Int.tmod_lt_of_pos k (show (0 : Int) < 5 by decide)
  have h2 := Int.lt_tmod_of_pos k (show (0 : Int) < 5 by decide)
  omega
theorem andI_low (x : Int) (m : Nat) (hm : m ≤ 4294967296) : 0 ≤ andI x (m : Int) ∧ andI x (m : Int) ≤ m := by
  have h : (BitVec.ofInt 64 x &&& BitVec.ofInt 64 (m : Int)).toNat ≤ m := by
    rw [BitVec.toNat_and, BitVec.ofInt_natCast, BitVec.toNat_ofNat]
    exact Nat.le_trans Nat.and_le_right (Nat.mod_le _ _)
  show 0 ≤ IntKind.i64.wrap ((BitVec.ofInt 64 x &&& BitVec.ofInt 64 (m : Int)).toNat : Int) ∧ IntKind.i64.wrap ((BitVec.ofInt 64 x &&& BitVec.ofInt 64 (m : Int)).toNat : Int) ≤ m
  rw [IntKind.wrap_i64]
  omega
theorem andI_1 (x : Int) : 0 ≤ andI x 1 ∧ andI x 1 ≤ 1 := andI_low x 1 (by omega)
theorem Rm.m3 {a : Int} {K : Int → Prop} (h : 0 ≤ a) (h0 : a % 3 = 0 → K 0) (h1 : a % 3 = 1 → K 1) (h2 : a % 3 = 2 → K 2) : Rm a 3 K := by
  refine .pos h (by omega) ?_
  rcases (show a % 3 = 0 ∨ a % 3 = 1 ∨ a % 3 = 2 by omega) with e | e | e
  · rw [e]; exact h0 e
  · rw [e]; exact h1 e
  · rw [e]; exact h2 e
theorem Rm.m4 {a : Int} {K : Int → Prop} (h : 0 ≤ a) (h0 : a % 4 = 0 → K 0) (h1 : a % 4 = 1 → K 1) (h2 : a % 4 = 2 → K 2) (h3 : a % 4 = 3 → K 3) : Rm a 4 K := by
  refine .pos h (by omega) ?_
  rcases (show a % 4 = 0 ∨ a % 4 = 1 ∨ a % 4 = 2 ∨ a % 4 = 3 by omega) with e | e | e | e
  · rw [e]; exact h0 e
  · rw [e]; exact h1 e
  · rw [e]; exact h2 e
  · rw [e]; exact h3 e
theorem Rm.raw5 {a : Int} {K : Int → Prop} (h : K (a.tmod 5)) : Rm a 5 K := .raw (by decide) h
theorem Rm.is {a b c : Int} {K : Int → Prop} (h : 0 ≤ a) (hb : 0 < b) (hq : a % b = c) (k : K c) : Rm a b K := .pos h hb (by rw [hq]; exact k)

def keysV : List AV := [.v (.string ⟨#[97, 110, 110]⟩), .v (.string ⟨#[98, 111, 98]⟩), .v (.string ⟨#[99, 121]⟩)]
def valsV : List AV := [.v (.string ⟨#[49]⟩), .v (.string ⟨#[116, 119, 111]⟩), .v (.string ⟨#[0, 255]⟩), .v (.string ⟨#[116, 119, 101, 108, 118, 101, 32, 98, 121, 116, 101, 115]⟩)]
def edZ : List AV := [.v (.int .i64 0), .v (.string ⟨#[]⟩), .v (.int .i64 0), .v (.string ⟨#[]⟩)]

set_option maxHeartbeats 8000000 in
set_option maxRecDepth 100000 in
theorem fit05_spec (e : Ed) (hk : e.key.size ≤ 140737488355328) (hv : e.v.size ≤ 140737488355328) : ASpec Try.prog 49 [e.av] (fitEd e).av [] := by
  obtain ⟨k, key, l, v⟩ := e
  dsimp only at hk hv
  dsimp only [Ed.av, Ed.cs]
  obtain ⟨ht1, ht2⟩ := tmod5 k
  refine aspec_of lay_ok 9007200328549375 Try.func49 rfl rfl rfl ?_
  repeat' ((conv => whnf); first | refine Spl.yes (by first | assumption | omega) ?_ | refine Spl.no (by first | assumption | omega) ?_ | refine Wr.i64 (by omega) (by omega) ?_ | refine Still.mk rfl rfl ?_ | refine InB.mk (inB_mk (by omega) (by omega)) ?_ | refine Req.mk (by omega) ?_ | refine Req.mk ⟨by first | omega | (dsimp only; omega), by first | omega | (dsimp only; omega)⟩ ?_ | refine Spl.mk (fun _ => ?_) (fun _ => ?_) | refine InA.mk (inB_mk (by omega) (by omega)) ?_ | refine Wr.b64 ?_ | refine Wr.bu64 ?_ | refine Wr.bu32 ?_ | refine Wr.bu8 ?_ | refine Wr.u8 (by omega) (by omega) ?_ | refine Wr.u64 (by omega) (by omega) ?_ | refine Wr.u32 (by omega) (by omega) ?_ | refine Dv.pos (by omega) (by omega) ?_ | refine Rm.pos (by omega) (by omega) ?_ | refine ADraw.quiet follows_ok (by kernel_rfl) rfl ?_ | refine ADraw.sched (id := 13) lay_ok (awp_snd lay_ok _) [(0, none), (1, none), (2, none), (3, none), (4, none), (5, none), (6, none), (7, none), (8, none), (9, none), (10, none), (11, some []), (12, some [9, 7, 5, 4, 3, 2, 1])] [(2, [1]), (3, [2, 1]), (4, [3, 2, 1]), (5, [4, 3, 2, 1]), (8, [7]), (9, [7]), (10, [9, 7, 5, 4, 3, 2, 1]), (11, []), (12, [9, 7, 5, 4, 3, 2, 1])] follows_ok (by kernel_rfl) ?_ | refine BSpl.decY (by first | assumption | omega) ?_ | refine BSpl.decN (by first | assumption | omega) ?_ | refine BSpl.dec (fun _ => ?_) (fun _ => ?_) | refine BSpl.yes (by assumption) ?_ | refine BSpl.no (by assumption) ?_ | refine BSpl.mk (fun _ => ?_) (fun _ => ?_))
  conv => whnf
  refine ALoop.mk { j : Nat // j ≤ key.size } (fun j => ⟨[(1, .box 0 0), (2, .box 1 0), (3, .box 2 0), (4, .box 3 0), (5, .v (.int .i64 (sumB (key.data.toList.take j.1) : Int))), (6, .v (.int .i64 (j.1 : Int)))],
    [(0, .box 48 [.v (.int .i64 k), .v (.string key), .v (.int .i64 l), .v (.string v)]), (1, .box 48 edZ), (2, .box 57 keysV), (3, .box 93 valsV)], [], 4⟩) (fun j => key.size - j.1) ⟨0, Nat.zero_le _⟩ _
    (LeR.mk' [] _ _ _ rfl ⟨AEq.refl _, AEq.refl _, AEq.refl _, AEq.refl _, AEq.int (by simp [sumB]), AEq.int rfl, trivial⟩ ⟨⟨_, rfl, OEq.refl _⟩, ⟨_, rfl, OEq.refl _⟩, ⟨_, rfl, OEq.refl _⟩, ⟨_, rfl, OEq.refl _⟩, trivial⟩ rfl) ?_
  rintro ⟨j, hj⟩
  dsimp only
  have hb1 := sumB_le (key.data.toList.take j)
  rw [List.length_take] at hb1
  have hb2 := UInt8.toNat_lt (key.data.toList.getD (j : Int).toNat 0)
  repeat' ((conv => whnf); first | refine Spl.yes (by first | assumption | omega) ?_ | refine Spl.no (by first | assumption | omega) ?_ | refine Wr.i64 (by omega) (by omega) ?_ | refine Still.mk rfl rfl ?_ | refine InB.mk (inB_mk (by omega) (by omega)) ?_ | refine Req.mk (by omega) ?_ | refine Req.mk ⟨by first | omega | (dsimp only; omega), by first | omega | (dsimp only; omega)⟩ ?_ | refine Spl.mk (fun _ => ?_) (fun _ => ?_) | refine InA.mk (inB_mk (by omega) (by omega)) ?_ | refine Wr.b64 ?_ | refine Wr.bu64 ?_ | refine Wr.bu32 ?_ | refine Wr.bu8 ?_ | refine Wr.u8 (by omega) (by omega) ?_ | refine Wr.u64 (by omega) (by omega) ?_ | refine Wr.u32 (by omega) (by omega) ?_ | refine Dv.pos (by omega) (by omega) ?_ | refine Rm.pos (by omega) (by omega) ?_ | refine ADraw.quiet follows_ok (by kernel_rfl) rfl ?_ | refine ADraw.sched (id := 13) lay_ok (awp_snd lay_ok _) [(0, none), (1, none), (2, none), (3, none), (4, none), (5, none), (6, none), (7, none), (8, none), (9, none), (10, none), (11, some []), (12, some [9, 7, 5, 4, 3, 2, 1])] [(2, [1]), (3, [2, 1]), (4, [3, 2, 1]), (5, [4, 3, 2, 1]), (8, [7]), (9, [7]), (10, [9, 7, 5, 4, 3, 2, 1]), (11, []), (12, [9, 7, 5, 4, 3, 2, 1])] follows_ok (by kernel_rfl) ?_ | refine BSpl.decY (by first | assumption | omega) ?_ | refine BSpl.decN (by first | assumption | omega) ?_ | refine BSpl.dec (fun _ => ?_) (fun _ => ?_) | refine BSpl.yes (by assumption) ?_ | refine BSpl.no (by assumption) ?_ | refine BSpl.mk (fun _ => ?_) (fun _ => ?_))
  · rename_i hlt
    refine ⟨⟨j + 1, by omega⟩, _, LeR.mk' [] _ _ _ rfl ⟨AEq.refl _, AEq.refl _, AEq.refl _, AEq.refl _, AEq.int ?_, AEq.int ?_, trivial⟩ ⟨⟨_, rfl, OEq.refl _⟩, ⟨_, rfl, OEq.refl _⟩, ⟨_, rfl, OEq.refl _⟩, ⟨_, rfl, OEq.refl _⟩, trivial⟩ rfl, ?_⟩
    · rw [sumB_take (by rw [str_len]; omega)]
      simp
    · simp
    · show key.size - (j + 1) < key.size - j
      omega
  rename_i hge
  have hje : sumB (key.data.toList.take j) = sumB key.data.toList := sumB_all (by rw [str_len]; omega)
  rw [hje] at *
  clear hb2 hge hj hb1 hje
  have hb1 := sumB_le key.data.toList
  rw [str_len] at hb1
  conv => whnf
  refine ALoop.mk { j : Nat // j ≤ v.size } (fun j => ⟨[(1, .box 0 0), (2, .box 1 0), (3, .box 2 0), (4, .box 3 0), (5, .v (.int .i64 (sumB key.data.toList : Int))), (7, .v (.int .i64 (sumB (v.data.toList.take j.1) : Int))), (8, .v (.int .i64 (j.1 : Int)))],
    [(0, .box 48 [.v (.int .i64 k), .v (.string key), .v (.int .i64 l), .v (.string v)]), (1, .box 48 edZ), (2, .box 57 keysV), (3, .box 93 valsV)], [], 4⟩) (fun j => v.size - j.1) ⟨0, Nat.zero_le _⟩ _
    (LeR.mk' [] _ _ _ rfl ⟨AEq.refl _, AEq.refl _, AEq.refl _, AEq.refl _, AEq.refl _, AEq.int (by simp [sumB]), AEq.int rfl, trivial⟩ ⟨⟨_, rfl, OEq.refl _⟩, ⟨_, rfl, OEq.refl _⟩, ⟨_, rfl, OEq.refl _⟩, ⟨_, rfl, OEq.refl _⟩, trivial⟩ rfl) ?_
  rintro ⟨j, hj⟩
  dsimp only
  have hb3 := sumB_le (v.data.toList.take j)
  rw [List.length_take] at hb3
  have hb2 := UInt8.toNat_lt (v.data.toList.getD (j : Int).toNat 0)
  repeat' ((conv => whnf); first | refine Spl.yes (by first | assumption | omega) ?_ | refine Spl.no (by first | assumption | omega) ?_ | refine Wr.i64 (by omega) (by omega) ?_ | refine Still.mk rfl rfl ?_ | refine InB.mk (inB_mk (by omega) (by omega)) ?_ | refine Req.mk (by omega) ?_ | refine Req.mk ⟨by first | omega | (dsimp only; omega), by first | omega | (dsimp only; omega)⟩ ?_ | refine Rm.m3 (by omega) (fun _ => ?_) (fun _ => ?_) (fun _ => ?_) | refine Rm.m4 (by omega) (fun _ => ?_) (fun _ => ?_) (fun _ => ?_) (fun _ => ?_) | refine Rm.pos (by omega) (by omega) ?_ | refine Rm.raw5 ?_ | refine ARet.hdI ?_ | refine Spl.mk (fun _ => ?_) (fun _ => ?_) | refine InA.mk (inB_mk (by omega) (by omega)) ?_ | refine Wr.b64 ?_ | refine Wr.bu64 ?_ | refine Wr.bu32 ?_ | refine Wr.bu8 ?_ | refine Wr.u8 (by omega) (by omega) ?_ | refine Wr.u64 (by omega) (by omega) ?_ | refine Wr.u32 (by omega) (by omega) ?_ | refine Dv.pos (by omega) (by omega) ?_ | refine Rm.pos (by omega) (by omega) ?_ | refine ADraw.quiet follows_ok (by kernel_rfl) rfl ?_ | refine ADraw.sched (id := 13) lay_ok (awp_snd lay_ok _) [(0, none), (1, none), (2, none), (3, none), (4, none), (5, none), (6, none), (7, none), (8, none), (9, none), (10, none), (11, some []), (12, some [9, 7, 5, 4, 3, 2, 1])] [(2, [1]), (3, [2, 1]), (4, [3, 2, 1]), (5, [4, 3, 2, 1]), (8, [7]), (9, [7]), (10, [9, 7, 5, 4, 3, 2, 1]), (11, []), (12, [9, 7, 5, 4, 3, 2, 1])] follows_ok (by kernel_rfl) ?_ | refine BSpl.decY (by first | assumption | omega) ?_ | refine BSpl.decN (by first | assumption | omega) ?_ | refine BSpl.dec (fun _ => ?_) (fun _ => ?_) | refine BSpl.yes (by assumption) ?_ | refine BSpl.no (by assumption) ?_ | refine BSpl.mk (fun _ => ?_) (fun _ => ?_))
  · rename_i hlt
    refine ⟨⟨j + 1, by omega⟩, _, LeR.mk' [] _ _ _ rfl ⟨AEq.refl _, AEq.refl _, AEq.refl _, AEq.refl _, AEq.refl _, AEq.int ?_, AEq.int ?_, trivial⟩ ⟨⟨_, rfl, OEq.refl _⟩, ⟨_, rfl, OEq.refl _⟩, ⟨_, rfl, OEq.refl _⟩, ⟨_, rfl, OEq.refl _⟩, trivial⟩ rfl, ?_⟩
    · rw [sumB_take (by rw [str_len]; omega)]
      simp
    · simp
    · show v.size - (j + 1) < v.size - j
      omega
  all_goals (conv => whnf)
  all_goals refine AEqI.mk (AEq.of ?_)
  all_goals (rw [sumB_all (show v.data.toList.length ≤ j by rw [str_len]; omega)] at *)
  all_goals simp only [fitEd, ks3, vs4, m5, andI, *, if_true, if_false, Int.reduceEq, Int.one_ne_zero]
end Go.Proofs.Ytihjfndkgmjanaa
