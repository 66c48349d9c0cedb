/-
  What the makers of edits and events that may be compute (kithref05.Fit, kithref06.Fit).
-/
import Derived.Test.YtbmojelnkldecaaEvM
import Derived.Test.YtbmojelnkldecaaTxt
import Derived.Test.YtbmojelnkldecaaTkPlain
namespace Go.Proofs.Ytbmojelnkldecaa
open Go.RowKit

def sumB (l : List UInt8) : Nat := (l.map fun b => b.toNat).sum
theorem sumB_le : ∀ l : List UInt8, sumB l ≤ 255 * l.length
  | [] => by simp [sumB]
  | b :: l => by
    have := sumB_le l
    have := UInt8.toNat_lt b
    simp only [sumB, List.map_cons, List.sum_cons, List.length_cons] at *
    omega
theorem sumB_take {l : List UInt8} {j : Nat} (h : j < l.length) : sumB (l.take (j + 1)) = sumB (l.take j) + (l.getD j 0).toNat := by
  rw [List.take_add_one, List.getElem?_eq_getElem h, List.getD, List.getElem?_eq_getElem h, sumB, List.map_append, List.sum_append]
  simp [sumB]
theorem sumB_all {l : List UInt8} {j : Nat} (h : l.length ≤ j) : sumB (l.take j) = sumB l := by rw [List.take_of_length_le h]

def ks3 (n : Nat) : ByteArray := if (n : Int) % 3 = 0 then ⟨#[97, 110, 110]⟩ else if (n : Int) % 3 = 1 then ⟨#[98, 111, 98]⟩ else ⟨#[99, 121]⟩
def vs4 (n : Nat) : ByteArray := if (n : Int) % 4 = 0 then ⟨#[49]⟩ else if (n : Int) % 4 = 1 then ⟨#[116, 119, 111]⟩ else if (n : Int) % 4 = 2 then ⟨#[0, 255]⟩ else ⟨#[116, 119, 101, 108, 118, 101, 32, 98, 121, 116, 101, 115]⟩
def andI (x m : Int) : Int := IntKind.i64.wrap ((BitVec.ofInt IntKind.i64.bits x &&& BitVec.ofInt IntKind.i64.bits m).toNat : Int)
def m5 (x : Int) : Int := (x.tmod 5 + 5) % 5
def fitEd (e : Ed) : Ed :=
  if 2 < 1 + m5 e.k then ⟨1 + m5 e.k, ks3 (sumB e.key.data.toList), andI e.l 1, vs4 (sumB e.v.data.toList)⟩ else ⟨1 + m5 e.k, ks3 (sumB e.key.data.toList), 0, ⟨#[]⟩⟩

theorem tmod5 (k : Int) : -5 < k.tmod 5 ∧ k.tmod 5 < 5 := by
  have h1 := Int.tmod_lt_of_pos k (show (0 : Int) < 5 by decide)
  have h2 := Int.lt_tmod_of_pos k (show (0 : Int) < 5 by decide)
  omega
theorem andI_low (x : Int) (m : Nat) (hm : m ≤ 4294967296) : 0 ≤ andI x (m : Int) ∧ andI x (m : Int) ≤ m := by
  have h : (BitVec.ofInt 64 x &&& BitVec.ofInt 64 (m : Int)).toNat ≤ m := by
    rw [BitVec.toNat_and, BitVec.ofInt_natCast, BitVec.toNat_ofNat]
    exact Nat.le_trans Nat.and_le_right (Nat.mod_le _ _)
  show 0 ≤ IntKind.i64.wrap ((BitVec.ofInt 64 x &&& BitVec.ofInt 64 (m : Int)).toNat : Int) ∧ IntKind.i64.wrap ((BitVec.ofInt 64 x &&& BitVec.ofInt 64 (m : Int)).toNat : Int) ≤ m
  rw [IntKind.wrap_i64]
  omega

theorem andI_20 (x : Int) : 0 ≤ andI x 1048575 ∧ andI x 1048575 ≤ 1048575 := andI_low x 1048575 (by omega)
theorem andI_24 (x : Int) : 0 ≤ andI x 16777215 ∧ andI x 16777215 ≤ 16777215 := andI_low x 16777215 (by omega)
theorem andI_1 (x : Int) : 0 ≤ andI x 1 ∧ andI x 1 ≤ 1 := andI_low x 1 (by omega)
theorem Rm.m3 {a : Int} {K : Int → Prop} (h : 0 ≤ a) (h0 : a % 3 = 0 → K 0) (h1 : a % 3 = 1 → K 1) (h2 : a % 3 = 2 → K 2) : Rm a 3 K := by
  refine .pos h (by omega) ?_
  rcases (show a % 3 = 0 ∨ a % 3 = 1 ∨ a % 3 = 2 by omega) with e | e | e
  · rw [e]; exact h0 e
  · rw [e]; exact h1 e
  · rw [e]; exact h2 e
theorem Rm.m4 {a : Int} {K : Int → Prop} (h : 0 ≤ a) (h0 : a % 4 = 0 → K 0) (h1 : a % 4 = 1 → K 1) (h2 : a % 4 = 2 → K 2) (h3 : a % 4 = 3 → K 3) : Rm a 4 K := by
  refine .pos h (by omega) ?_
  rcases (show a % 4 = 0 ∨ a % 4 = 1 ∨ a % 4 = 2 ∨ a % 4 = 3 by omega) with e | e | e | e
  · rw [e]; exact h0 e
  · rw [e]; exact h1 e
  · rw [e]; exact h2 e
  · rw [e]; exact h3 e
theorem Rm.raw5 {a : Int} {K : Int → Prop} (h : K (a.tmod 5)) : Rm a 5 K := .raw (by decide) h

def keysV : List AV := [.v (.string ⟨#[97, 110, 110]⟩), .v (.string ⟨#[98, 111, 98]⟩), .v (.string ⟨#[99, 121]⟩)]
def valsV : List AV := [.v (.string ⟨#[49]⟩), .v (.string ⟨#[116, 119, 111]⟩), .v (.string ⟨#[0, 255]⟩), .v (.string ⟨#[116, 119, 101, 108, 118, 101, 32, 98, 121, 116, 101, 115]⟩)]
def edZ : List AV := [.v (.int .i64 0), .v (.string ⟨#[]⟩), .v (.int .i64 0), .v (.string ⟨#[]⟩)]

set_option maxHeartbeats 8000000 in
set_option maxRecDepth 100000 in
theorem fit05_spec (e : Ed) (hk : e.key.size ≤ 140737488355328) (hv : e.v.size ≤ 140737488355328) : ASpec Try.prog 43 [e.av] (fitEd e).av [] := by
  obtain ⟨k, key, l, v⟩ := e
  dsimp only at hk hv
  obtain ⟨ht1, ht2⟩ := tmod5 k
  refine aspec_of lay_ok 9007200328549375 Try.func43 rfl rfl rfl ?_
  repeat' ((conv => whnf); first | refine Spl.yes (by first | assumption | omega) ?_ | refine Spl.no (by first | assumption | omega) ?_ | refine Wr.i64 (by omega) (by omega) ?_ | refine Still.mk rfl rfl ?_ | refine InB.mk (inB_mk (by omega) (by omega)) ?_ | refine Req.mk (by omega) ?_ | refine Req.mk ⟨by first | omega | (dsimp only; omega), by first | omega | (dsimp only; omega)⟩ ?_ | refine Spl.mk (fun _ => ?_) (fun _ => ?_) | refine Wr.b64 ?_ | refine Wr.bu64 ?_ | refine Wr.bu32 ?_ | refine Wr.bu8 ?_ | refine Wr.u8 (by omega) (by omega) ?_ | refine Wr.u64 (by omega) (by omega) ?_ | refine Wr.u32 (by omega) (by omega) ?_ | refine Dv.pos (by omega) (by omega) ?_ | refine Rm.pos (by omega) (by omega) ?_ | refine ADraw.quiet follows_ok (by kernel_rfl) rfl ?_ | refine ADraw.sched (id := 13) lay_ok (awp_snd lay_ok _) [(0, none), (1, none), (2, none), (3, none), (4, none), (5, none), (6, none), (7, none), (8, none), (9, none), (10, none), (11, some []), (12, some [9, 7, 5, 4, 3, 2, 1])] [(2, [1]), (3, [2, 1]), (4, [3, 2, 1]), (5, [4, 3, 2, 1]), (8, [7]), (9, [7]), (10, [9, 7, 5, 4, 3, 2, 1]), (11, []), (12, [9, 7, 5, 4, 3, 2, 1])] follows_ok (by kernel_rfl) ?_ | refine BSpl.decY (by first | assumption | omega) ?_ | refine BSpl.decN (by first | assumption | omega) ?_ | refine BSpl.dec (fun _ => ?_) (fun _ => ?_) | refine BSpl.yes (by assumption) ?_ | refine BSpl.no (by assumption) ?_ | refine BSpl.mk (fun _ => ?_) (fun _ => ?_))
  conv => whnf
  refine ALoop.mk { j : Nat // j ≤ key.size } (fun j => ⟨[(1, .box 0 0), (2, .box 1 0), (3, .box 2 0), (4, .box 3 0), (5, .v (.int .i64 (sumB (key.data.toList.take j.1) : Int))), (6, .v (.int .i64 (j.1 : Int)))],
    [(0, .box 71 [.v (.int .i64 k), .v (.string key), .v (.int .i64 l), .v (.string v)]), (1, .box 71 edZ), (2, .box 103 keysV), (3, .box 104 valsV)], [], 4⟩) (fun j => key.size - j.1) ⟨0, Nat.zero_le _⟩ _
    (LeR.mk' [] _ _ _ rfl ⟨AEq.refl _, AEq.refl _, AEq.refl _, AEq.refl _, AEq.int (by simp [sumB]), AEq.int rfl, trivial⟩ ⟨⟨_, rfl, OEq.refl _⟩, ⟨_, rfl, OEq.refl _⟩, ⟨_, rfl, OEq.refl _⟩, ⟨_, rfl, OEq.refl _⟩, trivial⟩ rfl) ?_
  rintro ⟨j, hj⟩
  dsimp only
  have hb1 := sumB_le (key.data.toList.take j)
  rw [List.length_take] at hb1
  have hb2 := UInt8.toNat_lt (key.data.toList.getD (j : Int).toNat 0)
  repeat' ((conv => whnf); first | refine Spl.yes (by first | assumption | omega) ?_ | refine Spl.no (by first | assumption | omega) ?_ | refine Wr.i64 (by omega) (by omega) ?_ | refine Still.mk rfl rfl ?_ | refine InB.mk (inB_mk (by omega) (by omega)) ?_ | refine Req.mk (by omega) ?_ | refine Req.mk ⟨by first | omega | (dsimp only; omega), by first | omega | (dsimp only; omega)⟩ ?_ | refine Spl.mk (fun _ => ?_) (fun _ => ?_) | refine Wr.b64 ?_ | refine Wr.bu64 ?_ | refine Wr.bu32 ?_ | refine Wr.bu8 ?_ | refine Wr.u8 (by omega) (by omega) ?_ | refine Wr.u64 (by omega) (by omega) ?_ | refine Wr.u32 (by omega) (by omega) ?_ | refine Dv.pos (by omega) (by omega) ?_ | refine Rm.pos (by omega) (by omega) ?_ | refine ADraw.quiet follows_ok (by kernel_rfl) rfl ?_ | refine ADraw.sched (id := 13) lay_ok (awp_snd lay_ok _) [(0, none), (1, none), (2, none), (3, none), (4, none), (5, none), (6, none), (7, none), (8, none), (9, none), (10, none), (11, some []), (12, some [9, 7, 5, 4, 3, 2, 1])] [(2, [1]), (3, [2, 1]), (4, [3, 2, 1]), (5, [4, 3, 2, 1]), (8, [7]), (9, [7]), (10, [9, 7, 5, 4, 3, 2, 1]), (11, []), (12, [9, 7, 5, 4, 3, 2, 1])] follows_ok (by kernel_rfl) ?_ | refine BSpl.decY (by first | assumption | omega) ?_ | refine BSpl.decN (by first | assumption | omega) ?_ | refine BSpl.dec (fun _ => ?_) (fun _ => ?_) | refine BSpl.yes (by assumption) ?_ | refine BSpl.no (by assumption) ?_ | refine BSpl.mk (fun _ => ?_) (fun _ => ?_))
  · rename_i hlt
    refine ⟨⟨j + 1, by omega⟩, _, LeR.mk' [] _ _ _ rfl ⟨AEq.refl _, AEq.refl _, AEq.refl _, AEq.refl _, AEq.int ?_, AEq.int ?_, trivial⟩ ⟨⟨_, rfl, OEq.refl _⟩, ⟨_, rfl, OEq.refl _⟩, ⟨_, rfl, OEq.refl _⟩, ⟨_, rfl, OEq.refl _⟩, trivial⟩ rfl, ?_⟩
    · rw [sumB_take (by rw [str_len]; omega)]
      simp
    · simp
    · show key.size - (j + 1) < key.size - j
      omega
  rename_i hge
  have hje : sumB (key.data.toList.take j) = sumB key.data.toList := sumB_all (by rw [str_len]; omega)
  rw [hje] at *
  clear hb2 hge hj hb1 hje
  have hb1 := sumB_le key.data.toList
  rw [str_len] at hb1
  conv => whnf
  refine ALoop.mk { j : Nat // j ≤ v.size } (fun j => ⟨[(1, .box 0 0), (2, .box 1 0), (3, .box 2 0), (4, .box 3 0), (5, .v (.int .i64 (sumB key.data.toList : Int))), (7, .v (.int .i64 (sumB (v.data.toList.take j.1) : Int))), (8, .v (.int .i64 (j.1 : Int)))],
    [(0, .box 71 [.v (.int .i64 k), .v (.string key), .v (.int .i64 l), .v (.string v)]), (1, .box 71 edZ), (2, .box 103 keysV), (3, .box 104 valsV)], [], 4⟩) (fun j => v.size - j.1) ⟨0, Nat.zero_le _⟩ _
    (LeR.mk' [] _ _ _ rfl ⟨AEq.refl _, AEq.refl _, AEq.refl _, AEq.refl _, AEq.refl _, AEq.int (by simp [sumB]), AEq.int rfl, trivial⟩ ⟨⟨_, rfl, OEq.refl _⟩, ⟨_, rfl, OEq.refl _⟩, ⟨_, rfl, OEq.refl _⟩, ⟨_, rfl, OEq.refl _⟩, trivial⟩ rfl) ?_
  rintro ⟨j, hj⟩
  dsimp only
  have hb3 := sumB_le (v.data.toList.take j)
  rw [List.length_take] at hb3
  have hb2 := UInt8.toNat_lt (v.data.toList.getD (j : Int).toNat 0)
  repeat' ((conv => whnf); first | refine Spl.yes (by first | assumption | omega) ?_ | refine Spl.no (by first | assumption | omega) ?_ | refine Wr.i64 (by omega) (by omega) ?_ | refine Still.mk rfl rfl ?_ | refine InB.mk (inB_mk (by omega) (by omega)) ?_ | refine Req.mk (by omega) ?_ | refine Req.mk ⟨by first | omega | (dsimp only; omega), by first | omega | (dsimp only; omega)⟩ ?_ | refine Rm.m3 (by omega) (fun _ => ?_) (fun _ => ?_) (fun _ => ?_) | refine Rm.m4 (by omega) (fun _ => ?_) (fun _ => ?_) (fun _ => ?_) (fun _ => ?_) | refine Rm.pos (by omega) (by omega) ?_ | refine Rm.raw5 ?_ | refine ARet.hdI ?_ | refine Spl.mk (fun _ => ?_) (fun _ => ?_) | refine Wr.b64 ?_ | refine Wr.bu64 ?_ | refine Wr.bu32 ?_ | refine Wr.bu8 ?_ | refine Wr.u8 (by omega) (by omega) ?_ | refine Wr.u64 (by omega) (by omega) ?_ | refine Wr.u32 (by omega) (by omega) ?_ | refine Dv.pos (by omega) (by omega) ?_ | refine Rm.pos (by omega) (by omega) ?_ | refine ADraw.quiet follows_ok (by kernel_rfl) rfl ?_ | refine ADraw.sched (id := 13) lay_ok (awp_snd lay_ok _) [(0, none), (1, none), (2, none), (3, none), (4, none), (5, none), (6, none), (7, none), (8, none), (9, none), (10, none), (11, some []), (12, some [9, 7, 5, 4, 3, 2, 1])] [(2, [1]), (3, [2, 1]), (4, [3, 2, 1]), (5, [4, 3, 2, 1]), (8, [7]), (9, [7]), (10, [9, 7, 5, 4, 3, 2, 1]), (11, []), (12, [9, 7, 5, 4, 3, 2, 1])] follows_ok (by kernel_rfl) ?_ | refine BSpl.decY (by first | assumption | omega) ?_ | refine BSpl.decN (by first | assumption | omega) ?_ | refine BSpl.dec (fun _ => ?_) (fun _ => ?_) | refine BSpl.yes (by assumption) ?_ | refine BSpl.no (by assumption) ?_ | refine BSpl.mk (fun _ => ?_) (fun _ => ?_))
  · rename_i hlt
    refine ⟨⟨j + 1, by omega⟩, _, LeR.mk' [] _ _ _ rfl ⟨AEq.refl _, AEq.refl _, AEq.refl _, AEq.refl _, AEq.refl _, AEq.int ?_, AEq.int ?_, trivial⟩ ⟨⟨_, rfl, OEq.refl _⟩, ⟨_, rfl, OEq.refl _⟩, ⟨_, rfl, OEq.refl _⟩, ⟨_, rfl, OEq.refl _⟩, trivial⟩ rfl, ?_⟩
    · rw [sumB_take (by rw [str_len]; omega)]
      simp
    · simp
    · show v.size - (j + 1) < v.size - j
      omega
  all_goals (conv => whnf)
  all_goals refine AEqI.mk (AEq.of ?_)
  all_goals (rw [sumB_all (show v.data.toList.length ≤ j by rw [str_len]; omega)] at *)
  all_goals simp only [fitEd, ks3, vs4, m5, andI, Ed.av, *, if_true, if_false, Int.reduceEq, Int.one_ne_zero]

set_option maxRecDepth 100000 in
theorem ed06_spec (e : Ev) : ASpec Try.prog 44 [e.av] e.ed.av [] := by
  refine aspec_of lay_ok 7 Try.func44 rfl rfl rfl ?_
  repeat' ((conv => whnf); first | refine Spl.yes (by first | assumption | omega) ?_ | refine Spl.no (by first | assumption | omega) ?_ | refine Wr.i64 (by omega) (by omega) ?_ | refine Still.mk rfl rfl ?_ | refine InB.mk (inB_mk (by omega) (by omega)) ?_ | refine Req.mk (by omega) ?_ | refine Req.mk ⟨by first | omega | (dsimp only; omega), by first | omega | (dsimp only; omega)⟩ ?_ | refine ARet.hdI ?_ | refine Spl.mk (fun _ => ?_) (fun _ => ?_) | refine Wr.b64 ?_ | refine Wr.bu64 ?_ | refine Wr.bu32 ?_ | refine Wr.bu8 ?_ | refine Wr.u8 (by omega) (by omega) ?_ | refine Wr.u64 (by omega) (by omega) ?_ | refine Wr.u32 (by omega) (by omega) ?_ | refine Dv.pos (by omega) (by omega) ?_ | refine Rm.pos (by omega) (by omega) ?_ | refine ADraw.quiet follows_ok (by kernel_rfl) rfl ?_ | refine BSpl.decY (by first | assumption | omega) ?_ | refine BSpl.decN (by first | assumption | omega) ?_ | refine BSpl.dec (fun _ => ?_) (fun _ => ?_) | refine BSpl.yes (by assumption) ?_ | refine BSpl.no (by assumption) ?_ | refine BSpl.mk (fun _ => ?_) (fun _ => ?_))
  conv => whnf
  exact AEqI.mk (AEq.refl _)

def fitE (e : Ev) : Ev :=
  ⟨m5 e.r, 1 + andI e.n 1048575, Clk.put ⟨andI e.c.c0 1048575, andI e.c.c1 1048575, andI e.c.c2 1048575, andI e.c.c3 1048575, andI e.c.c4 1048575⟩ (m5 e.r) (1 + andI e.n 1048575 - 1),
    1 + andI e.h 16777215, (fitEd e.ed).k, (fitEd e.ed).key, (fitEd e.ed).l, (fitEd e.ed).v⟩

theorem Wr.a20 {x : Int} {K : Int → Prop} (h : K (1 + andI x 1048575)) : Wr (1 + IntKind.i64.wrap ((BitVec.ofInt IntKind.i64.bits x &&& BitVec.ofInt IntKind.i64.bits 1048575).toNat : Int)) K .i64 := by
  have := andI_20 x
  exact .i64 (show -9223372036854775808 ≤ 1 + andI x 1048575 by omega) (show 1 + andI x 1048575 ≤ 9223372036854775807 by omega) h
theorem Wr.a24 {x : Int} {K : Int → Prop} (h : K (1 + andI x 16777215)) : Wr (1 + IntKind.i64.wrap ((BitVec.ofInt IntKind.i64.bits x &&& BitVec.ofInt IntKind.i64.bits 16777215).toNat : Int)) K .i64 := by
  have := andI_24 x
  exact .i64 (show -9223372036854775808 ≤ 1 + andI x 16777215 by omega) (show 1 + andI x 16777215 ≤ 9223372036854775807 by omega) h
theorem Rm.m5 {a : Int} {K : Int → Prop} (h : 0 ≤ a) (h0 : a % 5 = 0 → K 0) (h1 : a % 5 = 1 → K 1) (h2 : a % 5 = 2 → K 2) (h3 : a % 5 = 3 → K 3) (h4 : a % 5 = 4 → K 4) : Rm a 5 K := by
  refine .pos h (by omega) ?_
  rcases (show a % 5 = 0 ∨ a % 5 = 1 ∨ a % 5 = 2 ∨ a % 5 = 3 ∨ a % 5 = 4 by omega) with e | e | e | e | e
  · rw [e]; exact h0 e
  · rw [e]; exact h1 e
  · rw [e]; exact h2 e
  · rw [e]; exact h3 e
  · rw [e]; exact h4 e

set_option maxHeartbeats 8000000 in
set_option maxRecDepth 100000 in
theorem fit06_spec (e : Ev) (hk : e.key.size ≤ 140737488355328) (hv : e.v.size ≤ 140737488355328) : ASpec Try.prog 17 [e.av] (fitE e).av [] := by
  have hfit := fit05_spec e.ed hk hv
  obtain ⟨ht1, ht2⟩ := tmod5 e.r
  have a0 := andI_20 e.n
  have a1 := andI_24 e.h
  refine aspec_of lay_ok 4294967359 Try.func17 rfl rfl rfl ?_
  repeat' ((conv => whnf); first | refine Spl.yes (by first | assumption | omega) ?_ | refine Spl.no (by first | assumption | omega) ?_ | refine Wr.i64 (by omega) (by omega) ?_ | refine Still.mk rfl rfl ?_ | refine InB.mk (inB_mk (by omega) (by omega)) ?_ | refine Req.mk (by omega) ?_ | refine Req.mk ⟨by first | omega | (dsimp only; omega), by first | omega | (dsimp only; omega)⟩ ?_ | refine ACall.plain _ _ (ed06_spec _) (SubL.cons (.eq _) .nil) rfl ?_ | refine ACall.plain _ _ (hfit) (SubL.cons (.eq _) .nil) rfl ?_ | refine Rm.m5 (by omega) (fun _ => ?_) (fun _ => ?_) (fun _ => ?_) (fun _ => ?_) (fun _ => ?_) | refine Rm.raw5 ?_ | refine Wr.a20 ?_ | refine Wr.a24 ?_ | refine ALoop.rounds 6 ?_ | refine ARet.hdI ?_ | refine Spl.mk (fun _ => ?_) (fun _ => ?_) | refine Wr.b64 ?_ | refine Wr.bu64 ?_ | refine Wr.bu32 ?_ | refine Wr.bu8 ?_ | refine Wr.u8 (by omega) (by omega) ?_ | refine Wr.u64 (by omega) (by omega) ?_ | refine Wr.u32 (by omega) (by omega) ?_ | refine Dv.pos (by omega) (by omega) ?_ | refine Rm.pos (by omega) (by omega) ?_ | refine ADraw.quiet follows_ok (by kernel_rfl) rfl ?_ | refine BSpl.decY (by first | assumption | omega) ?_ | refine BSpl.decN (by first | assumption | omega) ?_ | refine BSpl.dec (fun _ => ?_) (fun _ => ?_) | refine BSpl.yes (by assumption) ?_ | refine BSpl.no (by assumption) ?_ | refine BSpl.mk (fun _ => ?_) (fun _ => ?_))
  all_goals (conv => whnf)
  all_goals refine AEqI.mk (AEq.of ?_)
  all_goals (unfold fitE; rw [show m5 e.r = _ from ‹(e.r.tmod 5 + 5) % 5 = _›]; rfl)
end Go.Proofs.Ytbmojelnkldecaa
