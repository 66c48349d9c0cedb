/-
  Contacts as bytes: book.Bytes.
-/
import Derived.Test.YtihjfndkgmjanaaBkG
import Derived.Test.YtihjfndkgmjanaaBkVin
namespace Go.Proofs.Ytihjfndkgmjanaa
open Go.RowKit

def txtB (s : List UInt8) : List UInt8 := vput s.length ++ s
def hasP (h : Bool) (f : ByteArray) : List UInt8 := if h = true then 1 :: txtB f.data.toList else [0]
def setP (l : List (List UInt8)) : List UInt8 := vput l.length ++ l.flatMap txtB
def contP (c : Cont) : List UInt8 := txtB c.key.data.toList ++ (hasP c.h0 c.f0 ++ (hasP c.h1 c.f1 ++ (setP c.s0 ++ setP c.s1)))
def bytesC (l : List Cont) : List UInt8 := l.flatMap contP
def Cont.mod (c : Cont) : Prop := c.key.size ≤ 4294967296 ∧ c.f0.size ≤ 4294967296 ∧ c.f1.size ≤ 4294967296 ∧ (c.s0.length ≤ 4294967296 ∧ ∀ x ∈ c.s0, x.length ≤ 4294967296) ∧ c.s1.length ≤ 4294967296 ∧ ∀ x ∈ c.s1, x.length ≤ 4294967296

abbrev cpT (i : Nat) : AO := .box 25 [.own i]
abbrev rwT (l : List UInt8) : AO := .row 5 1 l.length true (bytesF l)
abbrev nmT : AO := .box 65 [.cf 30 0 0]

theorem take_flat {α : Type} {f : α → List UInt8} {l : List α} {k : Nat} {d : α} (h : k < l.length) : (l.take (k + 1)).flatMap f = (l.take k).flatMap f ++ f (l.getD k d) := by
  rw [List.take_add_one, List.getElem?_eq_getElem h, List.flatMap_append, List.getD, List.getElem?_eq_getElem h]
  simp
theorem getD_mem {α : Type} {l : List α} {k : Nat} {d : α} (h : k < l.length) : l.getD k d ∈ l := by
  rw [List.getD, List.getElem?_eq_getElem h]
  exact List.getElem_mem _
theorem eqR {X Y : List UInt8} (h : X = Y) : OEq (rwT X) (rwT Y) := by rw [h]; exact OEq.refl _

set_option maxRecDepth 100000 in
theorem numB_m (n : Nat) (l : List UInt8) {m : Nat} {F : Nat → List AV} (hF : IsB F l) (hm : m = l.length) (hn : n ≤ 4294967296) (hl : l.length + (vput n).length ≤ 140737488355328) :
    MSpec Try.prog 30 [(0, cpT 1), (1, .row 5 1 m true F)] [.v (.int .i64 (n : Int)), .box 0 0] (.tup []) [(0, cpT 2), (2, rwT (l ++ vput n))] := by
  subst hm
  unfold cpT rwT
  refine mspec_of lay_ok 3 10 Try.func30 rfl rfl rfl ?_
  repeat' ((conv => whnf); first | refine Spl.yes (by first | assumption | omega) ?_ | refine Spl.no (by first | assumption | omega) ?_ | refine Wr.i64 (by omega) (by omega) ?_ | refine Still.mk rfl rfl ?_ | refine InB.mk (inB_mk (by omega) (by omega)) ?_ | refine Req.mk (by omega) ?_ | refine Req.mk ⟨by first | omega | (dsimp only; omega), by first | omega | (dsimp only; omega)⟩ ?_ | refine ACall.fresh _ _ _ _ _ _ _ (vput_spec _ n hn) (SubL.cons (.eq _) .nil) rfl ?_ | refine Spl.mk (fun _ => ?_) (fun _ => ?_) | refine InA.mk (inB_mk (by omega) (by omega)) ?_ | refine Wr.b64 ?_ | refine Wr.bu64 ?_ | refine Wr.bu32 ?_ | refine Wr.bu8 ?_ | refine Wr.u8 (by omega) (by omega) ?_ | refine Wr.u64 (by omega) (by omega) ?_ | refine Wr.u32 (by omega) (by omega) ?_ | refine Dv.pos (by omega) (by omega) ?_ | refine Rm.pos (by omega) (by omega) ?_ | refine ADraw.quiet follows_ok (by kernel_rfl) rfl ?_ | refine ADraw.sched (id := 0) lay_ok (awp_snd lay_ok _) [(0, none), (1, none), (2, none), (3, some [2]), (4, some [2, 0]), (5, some [2, 0])] [(3, [2]), (4, [2, 0]), (5, [2, 0])] follows_ok (by kernel_rfl) ?_ | refine BSpl.decY (by first | assumption | omega) ?_ | refine BSpl.decN (by first | assumption | omega) ?_ | refine BSpl.dec (fun _ => ?_) (fun _ => ?_) | refine BSpl.yes (by assumption) ?_ | refine BSpl.no (by assumption) ?_ | refine BSpl.mk (fun _ => ?_) (fun _ => ?_))
  conv => whnf
  exact ⟨[(11, 2)], rfl, rfl, ⟨⟨_, rfl, OEq.refl _⟩, ⟨_, rfl, OEq.isB (hF.app (IsB.bytes _) rfl) (List.length_append ..).symm rfl⟩, trivial⟩, rfl, rfl, AEq.refl _⟩
set_option maxRecDepth 100000 in
theorem wordsB_m (s : ByteArray) (l : List UInt8) {m : Nat} {F : Nat → List AV} (hF : IsB F l) (hm : m = l.length) (hn : s.size ≤ 4294967296) (hl : l.length + (txtB s.data.toList).length ≤ 140737488355328) :
    MSpec Try.prog 32 [(0, cpT 2), (1, nmT), (2, .row 5 1 m true F)] [.v (.string s), .box 1 0, .box 0 0] (.tup []) [(0, cpT 3), (1, nmT), (3, rwT (l ++ txtB s.data.toList))] := by
  have hts : (txtB s.data.toList).length = (vput s.size).length + s.size := List.length_append ..
  have hnb := numB_m s.size l hF hm hn (by omega)
  have hla : (l ++ vput s.size).length = l.length + (vput s.size).length := List.length_append ..
  unfold cpT rwT nmT at *
  refine mspec_of lay_ok 7 10 Try.func32 rfl rfl rfl ?_
  repeat' ((conv => whnf); first | refine Spl.yes (by first | assumption | omega) ?_ | refine Spl.no (by first | assumption | omega) ?_ | refine Wr.i64 (by omega) (by omega) ?_ | refine Still.mk rfl rfl ?_ | refine InB.mk (inB_mk (by omega) (by omega)) ?_ | refine Req.mk (by omega) ?_ | refine Req.mk ⟨by first | omega | (dsimp only; omega), by first | omega | (dsimp only; omega)⟩ ?_ | refine ACall.chgR 2 [(0, _), (1, _)] (hnb) rfl ⟨rfl, rfl, trivial⟩ rfl rfl ?_ | refine Spl.mk (fun _ => ?_) (fun _ => ?_) | refine InA.mk (inB_mk (by omega) (by omega)) ?_ | refine Wr.b64 ?_ | refine Wr.bu64 ?_ | refine Wr.bu32 ?_ | refine Wr.bu8 ?_ | refine Wr.u8 (by omega) (by omega) ?_ | refine Wr.u64 (by omega) (by omega) ?_ | refine Wr.u32 (by omega) (by omega) ?_ | refine Dv.pos (by omega) (by omega) ?_ | refine Rm.pos (by omega) (by omega) ?_ | refine ADraw.quiet follows_ok (by kernel_rfl) rfl ?_ | refine BSpl.decY (by first | assumption | omega) ?_ | refine BSpl.decN (by first | assumption | omega) ?_ | refine BSpl.dec (fun _ => ?_) (fun _ => ?_) | refine BSpl.yes (by assumption) ?_ | refine BSpl.no (by assumption) ?_ | refine BSpl.mk (fun _ => ?_) (fun _ => ?_))
  conv => whnf
  exact ⟨[(11, 3)], rfl, rfl, ⟨⟨_, rfl, OEq.refl _⟩, ⟨_, rfl, OEq.refl _⟩, ⟨_, rfl, OEq.isB ((IsB.bytes (l ++ vput s.size)).app (IsB.str s) rfl) (List.length_append ..).symm (List.append_assoc ..)⟩, trivial⟩, rfl, rfl, AEq.refl _⟩

set_option maxHeartbeats 8000000 in
set_option maxRecDepth 100000 in
theorem bytes_spec (d : Nat) (l : List Cont) (sc : Bool) (hl : l.length ≤ 140737488355328) (hm : ∀ c ∈ l, c.mod) (hB : (bytesC l).length ≤ 140737488355328) :
    ASpec Try.prog 13 [.sl 7 l.length sc (coF l)] (.own d) [(d, rwT (bytesC l))] := by
  refine aspec_of lay_ok 1082834244936346557 Try.func13 rfl rfl rfl ?_
  repeat' ((conv => whnf); first | refine Spl.yes (by first | assumption | omega) ?_ | refine Spl.no (by first | assumption | omega) ?_ | refine Wr.i64 (by omega) (by omega) ?_ | refine Still.mk rfl rfl ?_ | refine InB.mk (inB_mk (by omega) (by omega)) ?_ | refine Req.mk (by omega) ?_ | refine Req.mk ⟨by first | omega | (dsimp only; omega), by first | omega | (dsimp only; omega)⟩ ?_ | refine Spl.mk (fun _ => ?_) (fun _ => ?_) | refine InA.mk (inB_mk (by omega) (by omega)) ?_ | refine Wr.b64 ?_ | refine Wr.bu64 ?_ | refine Wr.bu32 ?_ | refine Wr.bu8 ?_ | refine Wr.u8 (by omega) (by omega) ?_ | refine Wr.u64 (by omega) (by omega) ?_ | refine Wr.u32 (by omega) (by omega) ?_ | refine Dv.pos (by omega) (by omega) ?_ | refine Rm.pos (by omega) (by omega) ?_ | refine ADraw.quiet follows_ok (by kernel_rfl) rfl ?_ | refine BSpl.decY (by first | assumption | omega) ?_ | refine BSpl.decN (by first | assumption | omega) ?_ | refine BSpl.dec (fun _ => ?_) (fun _ => ?_) | refine BSpl.yes (by assumption) ?_ | refine BSpl.no (by assumption) ?_ | refine BSpl.mk (fun _ => ?_) (fun _ => ?_))
  conv => whnf
  refine ALoop.nilB 0 0 90 5 1 (bytesF []) (by omega) rfl rfl ?_
  conv => whnf
  refine ALoop.mk { j : Nat // j ≤ l.length } (fun j => ⟨[(3, .box 0 0), (4, .box 1 0), (5, .fn 32 [.box 1 0, .box 0 0]), (16, .sl 7 l.length sc (coF l)), (17, .v (.int .i64 (l.length : Int))), (18, .v (.int .i64 (j.1 : Int)))],
      [(0, cpT 90), (1, nmT), (90, rwT (bytesC (l.take j.1)))], [], 91⟩) (fun j => l.length - j.1) ⟨0, Nat.zero_le _⟩ _
    (LeR.mk' [] _ _ _ rfl ⟨AEq.refl _, AEq.refl _, AEq.refl _, AEq.refl _, AEq.int rfl, AEq.int rfl, trivial⟩ ⟨⟨_, rfl, OEq.refl _⟩, ⟨_, rfl, OEq.refl _⟩, ⟨_, rfl, OEq.refl _⟩, trivial⟩ rfl) ?_
  rintro ⟨j, hj⟩
  dsimp only
  by_cases hjl : j < l.length
  · have hg : bytesC (l.take (j + 1)) = bytesC (l.take j) ++ contP (l.getD (j : Int).toNat default) := by
      rw [show l.getD (j : Int).toNat default = l.getD j default from rfl, List.getD, List.getElem?_eq_getElem hjl, bytesC, List.take_add_one, List.getElem?_eq_getElem hjl, List.flatMap_append]
      simp [bytesC]
    have hle : (bytesC (l.take (j + 1))).length ≤ 140737488355328 := by
      have e : bytesC l = bytesC (l.take (j + 1)) ++ bytesC (l.drop (j + 1)) := by rw [bytesC, bytesC, bytesC, ← List.flatMap_append, List.take_append_drop]
      rw [e, List.length_append] at hB
      omega
    have hmj : (l.getD (j : Int).toNat default).mod := hm _ (by
      rw [show l.getD (j : Int).toNat default = l.getD j default from rfl, List.getD, List.getElem?_eq_getElem hjl]
      exact List.getElem_mem _)
    obtain ⟨mk, m0, m1, ⟨ml0, ms0⟩, ml1, ms1⟩ := hmj
    rw [hg, List.length_append] at hle
    have hcl : (contP (l.getD (j : Int).toNat default)).length = (txtB (l.getD (j : Int).toNat default).key.data.toList).length + ((hasP (l.getD (j : Int).toNat default).h0 (l.getD (j : Int).toNat default).f0).length + ((hasP (l.getD (j : Int).toNat default).h1 (l.getD (j : Int).toNat default).f1).length + ((setP (l.getD (j : Int).toNat default).s0).length + (setP (l.getD (j : Int).toNat default).s1).length))) := by
      simp only [contP, List.length_append]
    generalize bytesC (l.take j) = P at hg hle ⊢
    have hw1 := wordsB_m (l.getD (j : Int).toNat default).key P (IsB.bytes _) rfl mk (by omega)
    unfold cpT nmT rwT at hw1 ⊢
    repeat' ((conv => whnf); first | refine Spl.yes (by first | assumption | omega) ?_ | refine Spl.no (by first | assumption | omega) ?_ | refine Wr.i64 (by omega) (by omega) ?_ | refine Still.mk rfl rfl ?_ | refine InB.mk (inB_mk (by omega) (by omega)) ?_ | refine Req.mk (by omega) ?_ | refine Req.mk ⟨by first | omega | (dsimp only; omega), by first | omega | (dsimp only; omega)⟩ ?_ | refine ACall.chgR 3 [(0, _), (1, _), (2, _)] (hw1) rfl ⟨rfl, rfl, rfl, trivial⟩ rfl rfl ?_ | refine Spl.mk (fun _ => ?_) (fun _ => ?_) | refine InA.mk (inB_mk (by omega) (by omega)) ?_ | refine Wr.b64 ?_ | refine Wr.bu64 ?_ | refine Wr.bu32 ?_ | refine Wr.bu8 ?_ | refine Wr.u8 (by omega) (by omega) ?_ | refine Wr.u64 (by omega) (by omega) ?_ | refine Wr.u32 (by omega) (by omega) ?_ | refine Dv.pos (by omega) (by omega) ?_ | refine Rm.pos (by omega) (by omega) ?_ | refine ADraw.quiet follows_ok (by kernel_rfl) rfl ?_ | refine BSpl.decY (by first | assumption | omega) ?_ | refine BSpl.decN (by first | assumption | omega) ?_ | refine BSpl.dec (fun _ => ?_) (fun _ => ?_) | refine BSpl.yes (by assumption) ?_ | refine BSpl.no (by assumption) ?_ | refine BSpl.mk (fun _ => ?_) (fun _ => ?_))
    conv => whnf
    obtain ⟨R0, e_⟩ : ∃ R0, R0 = P ++ txtB (l.getD (j : Int).toNat default).key.data.toList := ⟨_, rfl⟩
    obtain ⟨R1, e0⟩ : ∃ R1, R1 = R0 ++ hasP (l.getD (j : Int).toNat default).h0 (l.getD (j : Int).toNat default).f0 := ⟨_, rfl⟩
    obtain ⟨R2, e1⟩ : ∃ R2, R2 = R1 ++ hasP (l.getD (j : Int).toNat default).h1 (l.getD (j : Int).toNat default).f1 := ⟨_, rfl⟩
    obtain ⟨R3, e2⟩ : ∃ R3, R3 = R2 ++ setP (l.getD (j : Int).toNat default).s0 := ⟨_, rfl⟩
    obtain ⟨R4, e3⟩ : ∃ R4, R4 = R3 ++ setP (l.getD (j : Int).toNat default).s1 := ⟨_, rfl⟩
    have hR4 : bytesC (l.take (j + 1)) = R4 := by
      rw [hg, e3, e2, e1, e0, e_, contP]
      simp only [List.append_assoc]
    have l0 : R0.length = P.length + (txtB (l.getD (j : Int).toNat default).key.data.toList).length := by rw [e_, List.length_append]
    have l1 : R1.length = R0.length + (hasP (l.getD (j : Int).toNat default).h0 (l.getD (j : Int).toNat default).f0).length := by rw [e0, List.length_append]
    have l2 : R2.length = R1.length + (hasP (l.getD (j : Int).toNat default).h1 (l.getD (j : Int).toNat default).f1).length := by rw [e1, List.length_append]
    have l3 : R3.length = R2.length + (setP (l.getD (j : Int).toNat default).s0).length := by rw [e2, List.length_append]
    have k0 : (setP (l.getD (j : Int).toNat default).s0).length = (vput (l.getD (j : Int).toNat default).s0.length).length + ((l.getD (j : Int).toNat default).s0.flatMap txtB).length := List.length_append ..
    have k1 : (setP (l.getD (j : Int).toNat default).s1).length = (vput (l.getD (j : Int).toNat default).s1.length).length + ((l.getD (j : Int).toNat default).s1.flatMap txtB).length := List.length_append ..
    clear hm hg
    obtain ⟨Rw, r0, r1, r2⟩ : ∃ Rw : Nat → List UInt8, Rw 0 = R0 ∧ Rw 1 = R1 ∧ Rw 2 = R2 := ⟨fun n => match n with | 0 => R0 | 1 => R1 | _ => R2, rfl, rfl, rfl⟩
    obtain ⟨Rv, v0, v1, v2⟩ : ∃ Rv : Nat → List UInt8, Rv 0 = R2 ∧ Rv 1 = R3 ∧ Rv 2 = R4 := ⟨fun n => match n with | 0 => R2 | 1 => R3 | _ => R4, rfl, rfl, rfl⟩
    refine ALoop.mk { n : Nat // n ≤ 2 } (fun n => ⟨[(3, .box 0 0), (4, .box 1 0), (5, .fn 32 [.box 1 0, .box 0 0]), (7, .box 91 0), (16, .sl 7 l.length sc (coF l)), (17, .v (.int .i64 (l.length : Int))), (18, .v (.int .i64 (j : Int))), (27, .agg [.v (.bool (l.getD (j : Int).toNat default).h0), .v (.bool (l.getD (j : Int).toNat default).h1)]), (28, .v (.int .i64 (n.1 : Int)))],
        [(0, cpT 90), (1, nmT), (91, .box 40 (l.getD (j : Int).toNat default).cs), (90, rwT (Rw n.1))], [], 92⟩) (fun n => 2 - n.1) ⟨0, Nat.zero_le _⟩ _
      (LeR.mk' [(92, 90)] _ _ _ rfl ⟨AEq.refl _, AEq.refl _, AEq.refl _, AEq.refl _, AEq.refl _, AEq.refl _, AEq.refl _, AEq.refl _, AEq.int rfl, trivial⟩ ⟨⟨_, rfl, OEq.refl _⟩, ⟨_, rfl, OEq.refl _⟩, ⟨_, rfl, OEq.refl _⟩, ⟨_, rfl, eqR (by rw [r0, e_])⟩, trivial⟩ rfl) ?_
    rintro ⟨n, hn⟩
    obtain rfl | rfl | rfl : n = 0 ∨ n = 1 ∨ n = 2 := by omega
    all_goals (dsimp only [Cont.cs]; first | rw [r0] | rw [r1] | rw [r2])
    all_goals (unfold cpT nmT rwT)
    · obtain ⟨q, hq⟩ : ∃ q, (l.getD (j : Int).toNat default).h0 = q := ⟨_, rfl⟩
      rcases q with _ | _
      · have hp : hasP (l.getD (j : Int).toNat default).h0 (l.getD (j : Int).toNat default).f0 = [0] := by rw [hq]; rfl
        have hpl : (hasP (l.getD (j : Int).toNat default).h0 (l.getD (j : Int).toNat default).f0).length = 1 := by rw [hp]; rfl
        repeat' ((conv => whnf); first | refine Spl.yes (by first | assumption | omega) ?_ | refine Spl.no (by first | assumption | omega) ?_ | refine Wr.i64 (by omega) (by omega) ?_ | refine Still.mk rfl rfl ?_ | refine InB.mk (inB_mk (by omega) (by omega)) ?_ | refine Req.mk (by omega) ?_ | refine Req.mk ⟨by first | omega | (dsimp only; omega), by first | omega | (dsimp only; omega)⟩ ?_ | refine Spl.mk (fun _ => ?_) (fun _ => ?_) | refine InA.mk (inB_mk (by omega) (by omega)) ?_ | refine Wr.b64 ?_ | refine Wr.bu64 ?_ | refine Wr.bu32 ?_ | refine Wr.bu8 ?_ | refine Wr.u8 (by omega) (by omega) ?_ | refine Wr.u64 (by omega) (by omega) ?_ | refine Wr.u32 (by omega) (by omega) ?_ | refine Dv.pos (by omega) (by omega) ?_ | refine Rm.pos (by omega) (by omega) ?_ | refine ADraw.quiet follows_ok (by kernel_rfl) rfl ?_ | refine BSpl.decY (by first | assumption | omega) ?_ | refine BSpl.decN (by first | assumption | omega) ?_ | refine BSpl.dec (fun _ => ?_) (fun _ => ?_) | refine BSpl.yes (by assumption) ?_ | refine BSpl.no (by assumption) ?_ | refine BSpl.mk (fun _ => ?_) (fun _ => ?_))
        conv => whnf
        refine ⟨⟨1, by omega⟩, _, LeR.mk' [(93, 90)] _ _ _ rfl ⟨AEq.refl _, AEq.refl _, AEq.refl _, AEq.refl _, AEq.refl _, AEq.refl _, AEq.refl _, AEq.refl _, AEq.int rfl, trivial⟩ ⟨⟨_, rfl, OEq.refl _⟩, ⟨_, rfl, OEq.refl _⟩, ⟨_, rfl, OEq.refl _⟩, ⟨_, rfl, ?_⟩, trivial⟩ rfl, by show 2 - 1 < 2 - 0; omega⟩
        exact OEq.isB ((IsB.bytes R0).app (IsB.one (by omega) (by omega)) rfl) (by simp) (by rw [r1, e0, hp]; rfl)
      · have hp : hasP (l.getD (j : Int).toNat default).h0 (l.getD (j : Int).toNat default).f0 = 1 :: txtB (l.getD (j : Int).toNat default).f0.data.toList := by rw [hq]; rfl
        have hpl : (hasP (l.getD (j : Int).toNat default).h0 (l.getD (j : Int).toNat default).f0).length = (txtB (l.getD (j : Int).toNat default).f0.data.toList).length + 1 := by rw [hp]; rfl
        have hw2 := fun m F (hF : IsB F (R0 ++ [byteOf' 1])) (hm : m = (R0 ++ [byteOf' 1]).length) => wordsB_m (l.getD (j : Int).toNat default).f0 (R0 ++ [byteOf' 1]) hF hm m0 (by rw [List.length_append, List.length_singleton]; omega)
        unfold cpT nmT rwT at hw2
        repeat' ((conv => whnf); first | refine Spl.yes (by first | assumption | omega) ?_ | refine Spl.no (by first | assumption | omega) ?_ | refine Wr.i64 (by omega) (by omega) ?_ | refine Still.mk rfl rfl ?_ | refine InB.mk (inB_mk (by omega) (by omega)) ?_ | refine Req.mk (by omega) ?_ | refine Req.mk ⟨by first | omega | (dsimp only; omega), by first | omega | (dsimp only; omega)⟩ ?_ | refine ACall.chgR 3 [(0, _), (1, _), (2, _)] (hw2 _ _ ((IsB.bytes R0).app (IsB.one (by omega) (by omega)) rfl) (by simp)) rfl ⟨rfl, rfl, rfl, trivial⟩ rfl rfl ?_ | refine Spl.mk (fun _ => ?_) (fun _ => ?_) | refine InA.mk (inB_mk (by omega) (by omega)) ?_ | refine Wr.b64 ?_ | refine Wr.bu64 ?_ | refine Wr.bu32 ?_ | refine Wr.bu8 ?_ | refine Wr.u8 (by omega) (by omega) ?_ | refine Wr.u64 (by omega) (by omega) ?_ | refine Wr.u32 (by omega) (by omega) ?_ | refine Dv.pos (by omega) (by omega) ?_ | refine Rm.pos (by omega) (by omega) ?_ | refine ADraw.quiet follows_ok (by kernel_rfl) rfl ?_ | refine BSpl.decY (by first | assumption | omega) ?_ | refine BSpl.decN (by first | assumption | omega) ?_ | refine BSpl.dec (fun _ => ?_) (fun _ => ?_) | refine BSpl.yes (by assumption) ?_ | refine BSpl.no (by assumption) ?_ | refine BSpl.mk (fun _ => ?_) (fun _ => ?_))
        conv => whnf
        refine ⟨⟨1, by omega⟩, _, LeR.mk' [(94, 90)] _ _ _ rfl ⟨AEq.refl _, AEq.refl _, AEq.refl _, AEq.refl _, AEq.refl _, AEq.refl _, AEq.refl _, AEq.refl _, AEq.int rfl, trivial⟩ ⟨⟨_, rfl, OEq.refl _⟩, ⟨_, rfl, OEq.refl _⟩, ⟨_, rfl, OEq.refl _⟩, ⟨_, rfl, ?_⟩, trivial⟩ rfl, by show 2 - 1 < 2 - 0; omega⟩
        exact eqR (by rw [r1, e0, hp, List.append_assoc]; rfl)
    · obtain ⟨q, hq⟩ : ∃ q, (l.getD (j : Int).toNat default).h1 = q := ⟨_, rfl⟩
      rcases q with _ | _
      · have hp : hasP (l.getD (j : Int).toNat default).h1 (l.getD (j : Int).toNat default).f1 = [0] := by rw [hq]; rfl
        have hpl : (hasP (l.getD (j : Int).toNat default).h1 (l.getD (j : Int).toNat default).f1).length = 1 := by rw [hp]; rfl
        repeat' ((conv => whnf); first | refine Spl.yes (by first | assumption | omega) ?_ | refine Spl.no (by first | assumption | omega) ?_ | refine Wr.i64 (by omega) (by omega) ?_ | refine Still.mk rfl rfl ?_ | refine InB.mk (inB_mk (by omega) (by omega)) ?_ | refine Req.mk (by omega) ?_ | refine Req.mk ⟨by first | omega | (dsimp only; omega), by first | omega | (dsimp only; omega)⟩ ?_ | refine Spl.mk (fun _ => ?_) (fun _ => ?_) | refine InA.mk (inB_mk (by omega) (by omega)) ?_ | refine Wr.b64 ?_ | refine Wr.bu64 ?_ | refine Wr.bu32 ?_ | refine Wr.bu8 ?_ | refine Wr.u8 (by omega) (by omega) ?_ | refine Wr.u64 (by omega) (by omega) ?_ | refine Wr.u32 (by omega) (by omega) ?_ | refine Dv.pos (by omega) (by omega) ?_ | refine Rm.pos (by omega) (by omega) ?_ | refine ADraw.quiet follows_ok (by kernel_rfl) rfl ?_ | refine BSpl.decY (by first | assumption | omega) ?_ | refine BSpl.decN (by first | assumption | omega) ?_ | refine BSpl.dec (fun _ => ?_) (fun _ => ?_) | refine BSpl.yes (by assumption) ?_ | refine BSpl.no (by assumption) ?_ | refine BSpl.mk (fun _ => ?_) (fun _ => ?_))
        conv => whnf
        refine ⟨⟨2, by omega⟩, _, LeR.mk' [(93, 90)] _ _ _ rfl ⟨AEq.refl _, AEq.refl _, AEq.refl _, AEq.refl _, AEq.refl _, AEq.refl _, AEq.refl _, AEq.refl _, AEq.int rfl, trivial⟩ ⟨⟨_, rfl, OEq.refl _⟩, ⟨_, rfl, OEq.refl _⟩, ⟨_, rfl, OEq.refl _⟩, ⟨_, rfl, ?_⟩, trivial⟩ rfl, by show 2 - 2 < 2 - 1; omega⟩
        exact OEq.isB ((IsB.bytes R1).app (IsB.one (by omega) (by omega)) rfl) (by simp) (by rw [r2, e1, hp]; rfl)
      · have hp : hasP (l.getD (j : Int).toNat default).h1 (l.getD (j : Int).toNat default).f1 = 1 :: txtB (l.getD (j : Int).toNat default).f1.data.toList := by rw [hq]; rfl
        have hpl : (hasP (l.getD (j : Int).toNat default).h1 (l.getD (j : Int).toNat default).f1).length = (txtB (l.getD (j : Int).toNat default).f1.data.toList).length + 1 := by rw [hp]; rfl
        have hw2 := fun m F (hF : IsB F (R1 ++ [byteOf' 1])) (hm : m = (R1 ++ [byteOf' 1]).length) => wordsB_m (l.getD (j : Int).toNat default).f1 (R1 ++ [byteOf' 1]) hF hm m1 (by rw [List.length_append, List.length_singleton]; omega)
        unfold cpT nmT rwT at hw2
        repeat' ((conv => whnf); first | refine Spl.yes (by first | assumption | omega) ?_ | refine Spl.no (by first | assumption | omega) ?_ | refine Wr.i64 (by omega) (by omega) ?_ | refine Still.mk rfl rfl ?_ | refine InB.mk (inB_mk (by omega) (by omega)) ?_ | refine Req.mk (by omega) ?_ | refine Req.mk ⟨by first | omega | (dsimp only; omega), by first | omega | (dsimp only; omega)⟩ ?_ | refine ACall.chgR 3 [(0, _), (1, _), (2, _)] (hw2 _ _ ((IsB.bytes R1).app (IsB.one (by omega) (by omega)) rfl) (by simp)) rfl ⟨rfl, rfl, rfl, trivial⟩ rfl rfl ?_ | refine Spl.mk (fun _ => ?_) (fun _ => ?_) | refine InA.mk (inB_mk (by omega) (by omega)) ?_ | refine Wr.b64 ?_ | refine Wr.bu64 ?_ | refine Wr.bu32 ?_ | refine Wr.bu8 ?_ | refine Wr.u8 (by omega) (by omega) ?_ | refine Wr.u64 (by omega) (by omega) ?_ | refine Wr.u32 (by omega) (by omega) ?_ | refine Dv.pos (by omega) (by omega) ?_ | refine Rm.pos (by omega) (by omega) ?_ | refine ADraw.quiet follows_ok (by kernel_rfl) rfl ?_ | refine BSpl.decY (by first | assumption | omega) ?_ | refine BSpl.decN (by first | assumption | omega) ?_ | refine BSpl.dec (fun _ => ?_) (fun _ => ?_) | refine BSpl.yes (by assumption) ?_ | refine BSpl.no (by assumption) ?_ | refine BSpl.mk (fun _ => ?_) (fun _ => ?_))
        conv => whnf
        refine ⟨⟨2, by omega⟩, _, LeR.mk' [(94, 90)] _ _ _ rfl ⟨AEq.refl _, AEq.refl _, AEq.refl _, AEq.refl _, AEq.refl _, AEq.refl _, AEq.refl _, AEq.refl _, AEq.int rfl, trivial⟩ ⟨⟨_, rfl, OEq.refl _⟩, ⟨_, rfl, OEq.refl _⟩, ⟨_, rfl, OEq.refl _⟩, ⟨_, rfl, ?_⟩, trivial⟩ rfl, by show 2 - 2 < 2 - 1; omega⟩
        exact eqR (by rw [r2, e1, hp, List.append_assoc]; rfl)
    · repeat' ((conv => whnf); first | refine Spl.yes (by first | assumption | omega) ?_ | refine Spl.no (by first | assumption | omega) ?_ | refine Wr.i64 (by omega) (by omega) ?_ | refine Still.mk rfl rfl ?_ | refine InB.mk (inB_mk (by omega) (by omega)) ?_ | refine Req.mk (by omega) ?_ | refine Req.mk ⟨by first | omega | (dsimp only; omega), by first | omega | (dsimp only; omega)⟩ ?_ | refine Spl.mk (fun _ => ?_) (fun _ => ?_) | refine InA.mk (inB_mk (by omega) (by omega)) ?_ | refine Wr.b64 ?_ | refine Wr.bu64 ?_ | refine Wr.bu32 ?_ | refine Wr.bu8 ?_ | refine Wr.u8 (by omega) (by omega) ?_ | refine Wr.u64 (by omega) (by omega) ?_ | refine Wr.u32 (by omega) (by omega) ?_ | refine Dv.pos (by omega) (by omega) ?_ | refine Rm.pos (by omega) (by omega) ?_ | refine ADraw.quiet follows_ok (by kernel_rfl) rfl ?_ | refine BSpl.decY (by first | assumption | omega) ?_ | refine BSpl.decN (by first | assumption | omega) ?_ | refine BSpl.dec (fun _ => ?_) (fun _ => ?_) | refine BSpl.yes (by assumption) ?_ | refine BSpl.no (by assumption) ?_ | refine BSpl.mk (fun _ => ?_) (fun _ => ?_))
      conv => whnf
      refine ALoop.mk { n : Nat // n ≤ 2 } (fun n => ⟨[(3, .box 0 0), (4, .box 1 0), (5, .fn 32 [.box 1 0, .box 0 0]), (7, .box 91 0), (16, .sl 7 l.length sc (coF l)), (17, .v (.int .i64 (l.length : Int))), (18, .v (.int .i64 (j : Int))), (48, .agg [.sl 1 (l.getD (j : Int).toNat default).s0.length true (strF (l.getD (j : Int).toNat default).s0), .sl 1 (l.getD (j : Int).toNat default).s1.length true (strF (l.getD (j : Int).toNat default).s1)]), (49, .v (.int .i64 (n.1 : Int)))],
          [(0, cpT 90), (1, nmT), (91, .box 40 (l.getD (j : Int).toNat default).cs), (90, rwT (Rv n.1))], [], 92⟩) (fun n => 2 - n.1) ⟨0, Nat.zero_le _⟩ _
        (LeR.mk' [] _ _ _ rfl ⟨AEq.refl _, AEq.refl _, AEq.refl _, AEq.refl _, AEq.refl _, AEq.refl _, AEq.refl _, AEq.refl _, AEq.int rfl, trivial⟩ ⟨⟨_, rfl, OEq.refl _⟩, ⟨_, rfl, OEq.refl _⟩, ⟨_, rfl, OEq.refl _⟩, ⟨_, rfl, eqR v0.symm⟩, trivial⟩ rfl) ?_
      rintro ⟨n, hn⟩
      obtain rfl | rfl | rfl : n = 0 ∨ n = 1 ∨ n = 2 := by omega
      all_goals (dsimp only [Cont.cs]; first | rw [v0] | rw [v1] | rw [v2])
      all_goals (unfold cpT nmT rwT)
      · have hnb := fun m F (hF : IsB F R2) (hm : m = R2.length) => numB_m (l.getD (j : Int).toNat default).s0.length R2 hF hm ml0 (by omega)
        unfold cpT rwT at hnb
        have hvl : (R2 ++ vput (l.getD (j : Int).toNat default).s0.length).length = R2.length + (vput (l.getD (j : Int).toNat default).s0.length).length := List.length_append ..
        repeat' ((conv => whnf); first | refine Spl.yes (by first | assumption | omega) ?_ | refine Spl.no (by first | assumption | omega) ?_ | refine Wr.i64 (by omega) (by omega) ?_ | refine Still.mk rfl rfl ?_ | refine InB.mk (inB_mk (by omega) (by omega)) ?_ | refine Req.mk (by omega) ?_ | refine Req.mk ⟨by first | omega | (dsimp only; omega), by first | omega | (dsimp only; omega)⟩ ?_ | refine ACall.chgR 2 [(0, _), (1, _)] (hnb _ _ (IsB.bytes _) rfl) rfl ⟨rfl, rfl, trivial⟩ rfl rfl ?_ | refine Spl.mk (fun _ => ?_) (fun _ => ?_) | refine InA.mk (inB_mk (by omega) (by omega)) ?_ | refine Wr.b64 ?_ | refine Wr.bu64 ?_ | refine Wr.bu32 ?_ | refine Wr.bu8 ?_ | refine Wr.u8 (by omega) (by omega) ?_ | refine Wr.u64 (by omega) (by omega) ?_ | refine Wr.u32 (by omega) (by omega) ?_ | refine Dv.pos (by omega) (by omega) ?_ | refine Rm.pos (by omega) (by omega) ?_ | refine ADraw.quiet follows_ok (by kernel_rfl) rfl ?_ | refine BSpl.decY (by first | assumption | omega) ?_ | refine BSpl.decN (by first | assumption | omega) ?_ | refine BSpl.dec (fun _ => ?_) (fun _ => ?_) | refine BSpl.yes (by assumption) ?_ | refine BSpl.no (by assumption) ?_ | refine BSpl.mk (fun _ => ?_) (fun _ => ?_))
        conv => whnf
        refine ALoop.mk { k : Nat // k ≤ (l.getD (j : Int).toNat default).s0.length } (fun k => ⟨[(3, .box 0 0), (4, .box 1 0), (5, .fn 32 [.box 1 0, .box 0 0]), (7, .box 91 0), (16, .sl 7 l.length sc (coF l)), (17, .v (.int .i64 (l.length : Int))), (18, .v (.int .i64 (j : Int))), (48, .agg [.sl 1 (l.getD (j : Int).toNat default).s0.length true (strF (l.getD (j : Int).toNat default).s0), .sl 1 (l.getD (j : Int).toNat default).s1.length true (strF (l.getD (j : Int).toNat default).s1)]), (49, .v (.int .i64 0)), (11, .sl 1 (l.getD (j : Int).toNat default).s0.length true (strF (l.getD (j : Int).toNat default).s0)), (56, .sl 1 (l.getD (j : Int).toNat default).s0.length true (strF (l.getD (j : Int).toNat default).s0)), (57, .v (.int .i64 ((l.getD (j : Int).toNat default).s0.length : Int))), (58, .v (.int .i64 (k.1 : Int)))],
            [(0, cpT 90), (1, nmT), (91, .box 40 (l.getD (j : Int).toNat default).cs), (90, rwT (R2 ++ vput (l.getD (j : Int).toNat default).s0.length ++ ((l.getD (j : Int).toNat default).s0.take k.1).flatMap txtB))], [], 92⟩) (fun k => (l.getD (j : Int).toNat default).s0.length - k.1) ⟨0, Nat.zero_le _⟩ _
          (LeR.mk' [(92, 90)] _ _ _ rfl ⟨AEq.refl _, AEq.refl _, AEq.refl _, AEq.refl _, AEq.refl _, AEq.refl _, AEq.refl _, AEq.refl _, AEq.int rfl, AEq.refl _, AEq.refl _, AEq.refl _, AEq.int rfl, trivial⟩ ⟨⟨_, rfl, OEq.refl _⟩, ⟨_, rfl, OEq.refl _⟩, ⟨_, rfl, OEq.refl _⟩, ⟨_, rfl, eqR (by simp)⟩, trivial⟩ rfl) ?_
        rintro ⟨k, hk⟩
        dsimp only
        by_cases hkl : k < (l.getD (j : Int).toNat default).s0.length
        · have hgk : ((l.getD (j : Int).toNat default).s0.take (k + 1)).flatMap txtB = ((l.getD (j : Int).toNat default).s0.take k).flatMap txtB ++ txtB ((l.getD (j : Int).toNat default).s0.getD (k : Int).toNat []) := take_flat hkl
          have hkle : (((l.getD (j : Int).toNat default).s0.take (k + 1)).flatMap txtB).length ≤ ((l.getD (j : Int).toNat default).s0.flatMap txtB).length := by
            have e : (l.getD (j : Int).toNat default).s0.flatMap txtB = ((l.getD (j : Int).toNat default).s0.take (k + 1)).flatMap txtB ++ ((l.getD (j : Int).toNat default).s0.drop (k + 1)).flatMap txtB := by rw [← List.flatMap_append, List.take_append_drop]
            rw [e, List.length_append]
            omega
          rw [hgk, List.length_append] at hkle
          have hmx : ((l.getD (j : Int).toNat default).s0.getD (k : Int).toNat []).length ≤ 4294967296 := ms0 _ (getD_mem hkl)
          generalize ((l.getD (j : Int).toNat default).s0.take k).flatMap txtB = T at hgk hkle ⊢
          have hwk := fun m F (hF : IsB F (R2 ++ vput (l.getD (j : Int).toNat default).s0.length ++ T)) (hm : m = (R2 ++ vput (l.getD (j : Int).toNat default).s0.length ++ T).length) => wordsB_m ⟨((l.getD (j : Int).toNat default).s0.getD (k : Int).toNat []).toArray⟩ (R2 ++ vput (l.getD (j : Int).toNat default).s0.length ++ T) hF hm hmx (by rw [List.length_append, hvl]; show _ + _ + (txtB ((l.getD (j : Int).toNat default).s0.getD (k : Int).toNat [])).length ≤ _; omega)
          unfold cpT nmT rwT at hwk ⊢
          repeat' ((conv => whnf); first | refine Spl.yes (by first | assumption | omega) ?_ | refine Spl.no (by first | assumption | omega) ?_ | refine Wr.i64 (by omega) (by omega) ?_ | refine Still.mk rfl rfl ?_ | refine InB.mk (inB_mk (by omega) (by omega)) ?_ | refine Req.mk (by omega) ?_ | refine Req.mk ⟨by first | omega | (dsimp only; omega), by first | omega | (dsimp only; omega)⟩ ?_ | refine ACall.chgR 3 [(0, _), (1, _), (2, _)] (hwk _ _ (IsB.bytes _) rfl) rfl ⟨rfl, rfl, rfl, trivial⟩ rfl rfl ?_ | refine Spl.mk (fun _ => ?_) (fun _ => ?_) | refine InA.mk (inB_mk (by omega) (by omega)) ?_ | refine Wr.b64 ?_ | refine Wr.bu64 ?_ | refine Wr.bu32 ?_ | refine Wr.bu8 ?_ | refine Wr.u8 (by omega) (by omega) ?_ | refine Wr.u64 (by omega) (by omega) ?_ | refine Wr.u32 (by omega) (by omega) ?_ | refine Dv.pos (by omega) (by omega) ?_ | refine Rm.pos (by omega) (by omega) ?_ | refine ADraw.quiet follows_ok (by kernel_rfl) rfl ?_ | refine BSpl.decY (by first | assumption | omega) ?_ | refine BSpl.decN (by first | assumption | omega) ?_ | refine BSpl.dec (fun _ => ?_) (fun _ => ?_) | refine BSpl.yes (by assumption) ?_ | refine BSpl.no (by assumption) ?_ | refine BSpl.mk (fun _ => ?_) (fun _ => ?_))
          conv => whnf
          refine ⟨⟨k + 1, hkl⟩, _, LeR.mk' [(92, 90)] _ _ _ rfl ⟨AEq.refl _, AEq.refl _, AEq.refl _, AEq.refl _, AEq.refl _, AEq.refl _, AEq.refl _, AEq.refl _, AEq.int rfl, AEq.refl _, AEq.refl _, AEq.refl _, AEq.int rfl, trivial⟩ ⟨⟨_, rfl, OEq.refl _⟩, ⟨_, rfl, OEq.refl _⟩, ⟨_, rfl, OEq.refl _⟩, ⟨_, rfl, ?_⟩, trivial⟩ rfl, Nat.sub_succ_lt_self _ _ hkl⟩
          exact eqR (by rw [hgk, List.append_assoc])
        · rw [List.take_of_length_le (show (l.getD (j : Int).toNat default).s0.length ≤ k by omega)]
          have ee : R2 ++ vput (l.getD (j : Int).toNat default).s0.length ++ (l.getD (j : Int).toNat default).s0.flatMap txtB = R3 := by rw [e2, setP, List.append_assoc]
          rw [ee]
          repeat' ((conv => whnf); first | refine Spl.yes (by first | assumption | omega) ?_ | refine Spl.no (by first | assumption | omega) ?_ | refine Wr.i64 (by omega) (by omega) ?_ | refine Still.mk rfl rfl ?_ | refine InB.mk (inB_mk (by omega) (by omega)) ?_ | refine Req.mk (by omega) ?_ | refine Req.mk ⟨by first | omega | (dsimp only; omega), by first | omega | (dsimp only; omega)⟩ ?_ | refine Spl.mk (fun _ => ?_) (fun _ => ?_) | refine InA.mk (inB_mk (by omega) (by omega)) ?_ | refine Wr.b64 ?_ | refine Wr.bu64 ?_ | refine Wr.bu32 ?_ | refine Wr.bu8 ?_ | refine Wr.u8 (by omega) (by omega) ?_ | refine Wr.u64 (by omega) (by omega) ?_ | refine Wr.u32 (by omega) (by omega) ?_ | refine Dv.pos (by omega) (by omega) ?_ | refine Rm.pos (by omega) (by omega) ?_ | refine ADraw.quiet follows_ok (by kernel_rfl) rfl ?_ | refine BSpl.decY (by first | assumption | omega) ?_ | refine BSpl.decN (by first | assumption | omega) ?_ | refine BSpl.dec (fun _ => ?_) (fun _ => ?_) | refine BSpl.yes (by assumption) ?_ | refine BSpl.no (by assumption) ?_ | refine BSpl.mk (fun _ => ?_) (fun _ => ?_))
          conv => whnf
          exact ⟨⟨1, by omega⟩, _, LeR.mk' [] _ _ _ rfl ⟨AEq.refl _, AEq.refl _, AEq.refl _, AEq.refl _, AEq.refl _, AEq.refl _, AEq.refl _, AEq.refl _, AEq.int rfl, trivial⟩ ⟨⟨_, rfl, OEq.refl _⟩, ⟨_, rfl, OEq.refl _⟩, ⟨_, rfl, OEq.refl _⟩, ⟨_, rfl, eqR v1.symm⟩, trivial⟩ rfl, by show 2 - 1 < 2 - 0; omega⟩
      · have hnb := fun m F (hF : IsB F R3) (hm : m = R3.length) => numB_m (l.getD (j : Int).toNat default).s1.length R3 hF hm ml1 (by omega)
        unfold cpT rwT at hnb
        have hvl : (R3 ++ vput (l.getD (j : Int).toNat default).s1.length).length = R3.length + (vput (l.getD (j : Int).toNat default).s1.length).length := List.length_append ..
        repeat' ((conv => whnf); first | refine Spl.yes (by first | assumption | omega) ?_ | refine Spl.no (by first | assumption | omega) ?_ | refine Wr.i64 (by omega) (by omega) ?_ | refine Still.mk rfl rfl ?_ | refine InB.mk (inB_mk (by omega) (by omega)) ?_ | refine Req.mk (by omega) ?_ | refine Req.mk ⟨by first | omega | (dsimp only; omega), by first | omega | (dsimp only; omega)⟩ ?_ | refine ACall.chgR 2 [(0, _), (1, _)] (hnb _ _ (IsB.bytes _) rfl) rfl ⟨rfl, rfl, trivial⟩ rfl rfl ?_ | refine Spl.mk (fun _ => ?_) (fun _ => ?_) | refine InA.mk (inB_mk (by omega) (by omega)) ?_ | refine Wr.b64 ?_ | refine Wr.bu64 ?_ | refine Wr.bu32 ?_ | refine Wr.bu8 ?_ | refine Wr.u8 (by omega) (by omega) ?_ | refine Wr.u64 (by omega) (by omega) ?_ | refine Wr.u32 (by omega) (by omega) ?_ | refine Dv.pos (by omega) (by omega) ?_ | refine Rm.pos (by omega) (by omega) ?_ | refine ADraw.quiet follows_ok (by kernel_rfl) rfl ?_ | refine BSpl.decY (by first | assumption | omega) ?_ | refine BSpl.decN (by first | assumption | omega) ?_ | refine BSpl.dec (fun _ => ?_) (fun _ => ?_) | refine BSpl.yes (by assumption) ?_ | refine BSpl.no (by assumption) ?_ | refine BSpl.mk (fun _ => ?_) (fun _ => ?_))
        conv => whnf
        refine ALoop.mk { k : Nat // k ≤ (l.getD (j : Int).toNat default).s1.length } (fun k => ⟨[(3, .box 0 0), (4, .box 1 0), (5, .fn 32 [.box 1 0, .box 0 0]), (7, .box 91 0), (16, .sl 7 l.length sc (coF l)), (17, .v (.int .i64 (l.length : Int))), (18, .v (.int .i64 (j : Int))), (48, .agg [.sl 1 (l.getD (j : Int).toNat default).s0.length true (strF (l.getD (j : Int).toNat default).s0), .sl 1 (l.getD (j : Int).toNat default).s1.length true (strF (l.getD (j : Int).toNat default).s1)]), (49, .v (.int .i64 1)), (11, .sl 1 (l.getD (j : Int).toNat default).s1.length true (strF (l.getD (j : Int).toNat default).s1)), (56, .sl 1 (l.getD (j : Int).toNat default).s1.length true (strF (l.getD (j : Int).toNat default).s1)), (57, .v (.int .i64 ((l.getD (j : Int).toNat default).s1.length : Int))), (58, .v (.int .i64 (k.1 : Int)))],
            [(0, cpT 90), (1, nmT), (91, .box 40 (l.getD (j : Int).toNat default).cs), (90, rwT (R3 ++ vput (l.getD (j : Int).toNat default).s1.length ++ ((l.getD (j : Int).toNat default).s1.take k.1).flatMap txtB))], [], 92⟩) (fun k => (l.getD (j : Int).toNat default).s1.length - k.1) ⟨0, Nat.zero_le _⟩ _
          (LeR.mk' [(92, 90)] _ _ _ rfl ⟨AEq.refl _, AEq.refl _, AEq.refl _, AEq.refl _, AEq.refl _, AEq.refl _, AEq.refl _, AEq.refl _, AEq.int rfl, AEq.refl _, AEq.refl _, AEq.refl _, AEq.int rfl, trivial⟩ ⟨⟨_, rfl, OEq.refl _⟩, ⟨_, rfl, OEq.refl _⟩, ⟨_, rfl, OEq.refl _⟩, ⟨_, rfl, eqR (by simp)⟩, trivial⟩ rfl) ?_
        rintro ⟨k, hk⟩
        dsimp only
        by_cases hkl : k < (l.getD (j : Int).toNat default).s1.length
        · have hgk : ((l.getD (j : Int).toNat default).s1.take (k + 1)).flatMap txtB = ((l.getD (j : Int).toNat default).s1.take k).flatMap txtB ++ txtB ((l.getD (j : Int).toNat default).s1.getD (k : Int).toNat []) := take_flat hkl
          have hkle : (((l.getD (j : Int).toNat default).s1.take (k + 1)).flatMap txtB).length ≤ ((l.getD (j : Int).toNat default).s1.flatMap txtB).length := by
            have e : (l.getD (j : Int).toNat default).s1.flatMap txtB = ((l.getD (j : Int).toNat default).s1.take (k + 1)).flatMap txtB ++ ((l.getD (j : Int).toNat default).s1.drop (k + 1)).flatMap txtB := by rw [← List.flatMap_append, List.take_append_drop]
            rw [e, List.length_append]
            omega
          rw [hgk, List.length_append] at hkle
          have hmx : ((l.getD (j : Int).toNat default).s1.getD (k : Int).toNat []).length ≤ 4294967296 := ms1 _ (getD_mem hkl)
          generalize ((l.getD (j : Int).toNat default).s1.take k).flatMap txtB = T at hgk hkle ⊢
          have hwk := fun m F (hF : IsB F (R3 ++ vput (l.getD (j : Int).toNat default).s1.length ++ T)) (hm : m = (R3 ++ vput (l.getD (j : Int).toNat default).s1.length ++ T).length) => wordsB_m ⟨((l.getD (j : Int).toNat default).s1.getD (k : Int).toNat []).toArray⟩ (R3 ++ vput (l.getD (j : Int).toNat default).s1.length ++ T) hF hm hmx (by rw [List.length_append, hvl]; show _ + _ + (txtB ((l.getD (j : Int).toNat default).s1.getD (k : Int).toNat [])).length ≤ _; omega)
          unfold cpT nmT rwT at hwk ⊢
          repeat' ((conv => whnf); first | refine Spl.yes (by first | assumption | omega) ?_ | refine Spl.no (by first | assumption | omega) ?_ | refine Wr.i64 (by omega) (by omega) ?_ | refine Still.mk rfl rfl ?_ | refine InB.mk (inB_mk (by omega) (by omega)) ?_ | refine Req.mk (by omega) ?_ | refine Req.mk ⟨by first | omega | (dsimp only; omega), by first | omega | (dsimp only; omega)⟩ ?_ | refine ACall.chgR 3 [(0, _), (1, _), (2, _)] (hwk _ _ (IsB.bytes _) rfl) rfl ⟨rfl, rfl, rfl, trivial⟩ rfl rfl ?_ | refine Spl.mk (fun _ => ?_) (fun _ => ?_) | refine InA.mk (inB_mk (by omega) (by omega)) ?_ | refine Wr.b64 ?_ | refine Wr.bu64 ?_ | refine Wr.bu32 ?_ | refine Wr.bu8 ?_ | refine Wr.u8 (by omega) (by omega) ?_ | refine Wr.u64 (by omega) (by omega) ?_ | refine Wr.u32 (by omega) (by omega) ?_ | refine Dv.pos (by omega) (by omega) ?_ | refine Rm.pos (by omega) (by omega) ?_ | refine ADraw.quiet follows_ok (by kernel_rfl) rfl ?_ | refine BSpl.decY (by first | assumption | omega) ?_ | refine BSpl.decN (by first | assumption | omega) ?_ | refine BSpl.dec (fun _ => ?_) (fun _ => ?_) | refine BSpl.yes (by assumption) ?_ | refine BSpl.no (by assumption) ?_ | refine BSpl.mk (fun _ => ?_) (fun _ => ?_))
          conv => whnf
          refine ⟨⟨k + 1, hkl⟩, _, LeR.mk' [(92, 90)] _ _ _ rfl ⟨AEq.refl _, AEq.refl _, AEq.refl _, AEq.refl _, AEq.refl _, AEq.refl _, AEq.refl _, AEq.refl _, AEq.int rfl, AEq.refl _, AEq.refl _, AEq.refl _, AEq.int rfl, trivial⟩ ⟨⟨_, rfl, OEq.refl _⟩, ⟨_, rfl, OEq.refl _⟩, ⟨_, rfl, OEq.refl _⟩, ⟨_, rfl, ?_⟩, trivial⟩ rfl, Nat.sub_succ_lt_self _ _ hkl⟩
          exact eqR (by rw [hgk, List.append_assoc])
        · rw [List.take_of_length_le (show (l.getD (j : Int).toNat default).s1.length ≤ k by omega)]
          have ee : R3 ++ vput (l.getD (j : Int).toNat default).s1.length ++ (l.getD (j : Int).toNat default).s1.flatMap txtB = R4 := by rw [e3, setP, List.append_assoc]
          rw [ee]
          repeat' ((conv => whnf); first | refine Spl.yes (by first | assumption | omega) ?_ | refine Spl.no (by first | assumption | omega) ?_ | refine Wr.i64 (by omega) (by omega) ?_ | refine Still.mk rfl rfl ?_ | refine InB.mk (inB_mk (by omega) (by omega)) ?_ | refine Req.mk (by omega) ?_ | refine Req.mk ⟨by first | omega | (dsimp only; omega), by first | omega | (dsimp only; omega)⟩ ?_ | refine Spl.mk (fun _ => ?_) (fun _ => ?_) | refine InA.mk (inB_mk (by omega) (by omega)) ?_ | refine Wr.b64 ?_ | refine Wr.bu64 ?_ | refine Wr.bu32 ?_ | refine Wr.bu8 ?_ | refine Wr.u8 (by omega) (by omega) ?_ | refine Wr.u64 (by omega) (by omega) ?_ | refine Wr.u32 (by omega) (by omega) ?_ | refine Dv.pos (by omega) (by omega) ?_ | refine Rm.pos (by omega) (by omega) ?_ | refine ADraw.quiet follows_ok (by kernel_rfl) rfl ?_ | refine BSpl.decY (by first | assumption | omega) ?_ | refine BSpl.decN (by first | assumption | omega) ?_ | refine BSpl.dec (fun _ => ?_) (fun _ => ?_) | refine BSpl.yes (by assumption) ?_ | refine BSpl.no (by assumption) ?_ | refine BSpl.mk (fun _ => ?_) (fun _ => ?_))
          conv => whnf
          exact ⟨⟨2, by omega⟩, _, LeR.mk' [] _ _ _ rfl ⟨AEq.refl _, AEq.refl _, AEq.refl _, AEq.refl _, AEq.refl _, AEq.refl _, AEq.refl _, AEq.refl _, AEq.int rfl, trivial⟩ ⟨⟨_, rfl, OEq.refl _⟩, ⟨_, rfl, OEq.refl _⟩, ⟨_, rfl, OEq.refl _⟩, ⟨_, rfl, eqR v2.symm⟩, trivial⟩ rfl, by show 2 - 2 < 2 - 1; omega⟩
      · repeat' ((conv => whnf); first | refine Spl.yes (by first | assumption | omega) ?_ | refine Spl.no (by first | assumption | omega) ?_ | refine Wr.i64 (by omega) (by omega) ?_ | refine Still.mk rfl rfl ?_ | refine InB.mk (inB_mk (by omega) (by omega)) ?_ | refine Req.mk (by omega) ?_ | refine Req.mk ⟨by first | omega | (dsimp only; omega), by first | omega | (dsimp only; omega)⟩ ?_ | refine Spl.mk (fun _ => ?_) (fun _ => ?_) | refine InA.mk (inB_mk (by omega) (by omega)) ?_ | refine Wr.b64 ?_ | refine Wr.bu64 ?_ | refine Wr.bu32 ?_ | refine Wr.bu8 ?_ | refine Wr.u8 (by omega) (by omega) ?_ | refine Wr.u64 (by omega) (by omega) ?_ | refine Wr.u32 (by omega) (by omega) ?_ | refine Dv.pos (by omega) (by omega) ?_ | refine Rm.pos (by omega) (by omega) ?_ | refine ADraw.quiet follows_ok (by kernel_rfl) rfl ?_ | refine BSpl.decY (by first | assumption | omega) ?_ | refine BSpl.decN (by first | assumption | omega) ?_ | refine BSpl.dec (fun _ => ?_) (fun _ => ?_) | refine BSpl.yes (by assumption) ?_ | refine BSpl.no (by assumption) ?_ | refine BSpl.mk (fun _ => ?_) (fun _ => ?_))
        conv => whnf
        exact ⟨⟨j + 1, hjl⟩, _, LeR.mk' [] _ _ _ rfl ⟨AEq.refl _, AEq.refl _, AEq.refl _, AEq.refl _, AEq.refl _, AEq.int rfl, trivial⟩ ⟨⟨_, rfl, OEq.refl _⟩, ⟨_, rfl, OEq.refl _⟩, ⟨_, rfl, eqR hR4.symm⟩, trivial⟩ rfl, Nat.sub_succ_lt_self _ _ hjl⟩
  · rw [List.take_of_length_le (show l.length ≤ j by omega)]
    unfold cpT nmT rwT
    repeat' ((conv => whnf); first | refine Spl.yes (by first | assumption | omega) ?_ | refine Spl.no (by first | assumption | omega) ?_ | refine Wr.i64 (by omega) (by omega) ?_ | refine Still.mk rfl rfl ?_ | refine InB.mk (inB_mk (by omega) (by omega)) ?_ | refine Req.mk (by omega) ?_ | refine Req.mk ⟨by first | omega | (dsimp only; omega), by first | omega | (dsimp only; omega)⟩ ?_ | refine Spl.mk (fun _ => ?_) (fun _ => ?_) | refine InA.mk (inB_mk (by omega) (by omega)) ?_ | refine Wr.b64 ?_ | refine Wr.bu64 ?_ | refine Wr.bu32 ?_ | refine Wr.bu8 ?_ | refine Wr.u8 (by omega) (by omega) ?_ | refine Wr.u64 (by omega) (by omega) ?_ | refine Wr.u32 (by omega) (by omega) ?_ | refine Dv.pos (by omega) (by omega) ?_ | refine Rm.pos (by omega) (by omega) ?_ | refine ADraw.quiet follows_ok (by kernel_rfl) rfl ?_ | refine BSpl.decY (by first | assumption | omega) ?_ | refine BSpl.decN (by first | assumption | omega) ?_ | refine BSpl.dec (fun _ => ?_) (fun _ => ?_) | refine BSpl.yes (by assumption) ?_ | refine BSpl.no (by assumption) ?_ | refine BSpl.mk (fun _ => ?_) (fun _ => ?_))
    conv => whnf
    exact ARet.ownX d rfl rfl (OEq.refl _) (AEq.refl _)
end Go.Proofs.Ytihjfndkgmjanaa
