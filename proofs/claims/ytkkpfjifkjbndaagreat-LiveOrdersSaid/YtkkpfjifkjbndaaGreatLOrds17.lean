/-
  Contracts of the walk: BkB1, BkP1, Few.
-/
import Derived.Test.YtkkpfjifkjbndaaGreatLOrds3
import Derived.Test.YtkkpfjifkjbndaaGreatLOrds16
/-
  Contacts as bytes: book.Bytes.
-/
namespace Go.Proofs.YtkkpfjifkjbndaaGreat
open Go.RowKit

def txtB (s : List UInt8) : List UInt8 := vput s.length ++ s
def hasP (h : Bool) (f : ByteArray) : List UInt8 := if h = true then 1 :: txtB f.data.toList else [0]
def setP (l : List (List UInt8)) : List UInt8 := vput l.length ++ l.flatMap txtB
def contP (c : Cont) : List UInt8 := txtB c.key.data.toList ++ (hasP c.h0 c.f0 ++ (hasP c.h1 c.f1 ++ (setP c.s0 ++ setP c.s1)))
def bytesC (l : List Cont) : List UInt8 := l.flatMap contP
def Cont.mod (c : Cont) : Prop := c.key.size ≤ 4294967296 ∧ c.f0.size ≤ 4294967296 ∧ c.f1.size ≤ 4294967296 ∧ (c.s0.length ≤ 4294967296 ∧ ∀ x ∈ c.s0, x.length ≤ 4294967296) ∧ c.s1.length ≤ 4294967296 ∧ ∀ x ∈ c.s1, x.length ≤ 4294967296

abbrev cpT (i : Nat) : AO := .box 23 [.own i]
abbrev rwT (l : List UInt8) : AO := .row 5 1 l.length true (bytesF l)
abbrev nmT : AO := .box 105 [.cf 44 0 0]

theorem take_flat {α : Type} {f : α → List UInt8} {l : List α} {k : Nat} {d : α} (h : k < l.length) : (l.take (k + 1)).flatMap f = (l.take k).flatMap f ++ f (l.getD k d) := by
  rw [List.take_add_one, List.getElem?_eq_getElem h, List.flatMap_append, List.getD, List.getElem?_eq_getElem h]
  simp
theorem getD_mem {α : Type} {l : List α} {k : Nat} {d : α} (h : k < l.length) : l.getD k d ∈ l := by
  rw [List.getD, List.getElem?_eq_getElem h]
  exact List.getElem_mem _
theorem eqR {X Y : List UInt8} (h : X = Y) : OEq (rwT X) (rwT Y) := by rw [h]; exact OEq.refl _

set_option maxRecDepth 100000 in
theorem numB_m (n : Nat) (l : List UInt8) {m : Nat} {F : Nat → List AV} (hF : IsB F l) (hm : m = l.length) (hn : n ≤ 4294967296) (hl : l.length + (vput n).length ≤ 140737488355328) :
    MSpec Tryz.prog 44 [(0, cpT 1), (1, .row 5 1 m true F)] [.v (.int .i64 (n : Int)), .box 0 0] (.tup []) [(0, cpT 2), (2, rwT (l ++ vput n))] := by
  subst hm
  unfold cpT rwT
  refine mspec_of lay_ok 3 10 Tryz.func44 rfl rfl rfl ?_
  repeat' ((conv => whnf); first | refine Spl.yes (by first | assumption | omega) ?_ | refine Spl.no (by first | assumption | omega) ?_ | refine Wr.i64 (by omega) (by omega) ?_ | refine Still.mk rfl rfl ?_ | refine InB.mk (inB_mk (by omega) (by omega)) ?_ | refine Req.mk (by omega) ?_ | refine Req.mk ⟨by first | omega | (dsimp only; omega), by first | omega | (dsimp only; omega)⟩ ?_ | refine ACall.fresh _ _ _ _ _ _ _ (vput_spec _ n hn) (SubL.cons (.eq _) .nil) rfl ?_ | refine Spl.mk (fun _ => ?_) (fun _ => ?_) | refine InA.mk (inB_mk (by omega) (by omega)) ?_ | refine Wr.b64 ?_ | refine Wr.bu64 ?_ | refine Wr.bu32 ?_ | refine Wr.bu8 ?_ | refine Wr.u8 (by omega) (by omega) ?_ | refine Wr.u64 (by omega) (by omega) ?_ | refine Wr.u32 (by omega) (by omega) ?_ | refine Dv.pos (by omega) (by omega) ?_ | refine Rm.pos (by omega) (by omega) ?_ | refine ADraw.quiet follows_ok (by kernel_rfl) rfl ?_ | refine ADraw.sched (id := 0) lay_ok (awp_snd lay_ok _) [(0, none), (1, none), (2, none), (3, some [2]), (4, some [2, 0]), (5, some [2, 0])] [(3, [2]), (4, [2, 0]), (5, [2, 0])] follows_ok (by kernel_rfl) ?_ | refine BSpl.decY (by first | assumption | omega) ?_ | refine BSpl.decN (by first | assumption | omega) ?_ | refine BSpl.dec (fun _ => ?_) (fun _ => ?_) | refine BSpl.yes (by assumption) ?_ | refine BSpl.no (by assumption) ?_ | refine BSpl.mk (fun _ => ?_) (fun _ => ?_))
  conv => whnf
  exact ⟨[(11, 2)], rfl, rfl, ⟨⟨_, rfl, OEq.refl _⟩, ⟨_, rfl, OEq.isB (hF.app (IsB.bytes _) rfl) (List.length_append ..).symm rfl⟩, trivial⟩, rfl, rfl, AEq.refl _⟩
set_option maxRecDepth 100000 in
theorem wordsB_m (s : ByteArray) (l : List UInt8) {m : Nat} {F : Nat → List AV} (hF : IsB F l) (hm : m = l.length) (hn : s.size ≤ 4294967296) (hl : l.length + (txtB s.data.toList).length ≤ 140737488355328) :
    MSpec Tryz.prog 46 [(0, cpT 2), (1, nmT), (2, .row 5 1 m true F)] [.v (.string s), .box 1 0, .box 0 0] (.tup []) [(0, cpT 3), (1, nmT), (3, rwT (l ++ txtB s.data.toList))] := by
  have hts : (txtB s.data.toList).length = (vput s.size).length + s.size := List.length_append ..
  have hnb := numB_m s.size l hF hm hn (by omega)
  have hla : (l ++ vput s.size).length = l.length + (vput s.size).length := List.length_append ..
  unfold cpT rwT nmT at *
  refine mspec_of lay_ok 7 10 Tryz.func46 rfl rfl rfl ?_
  repeat' ((conv => whnf); first | refine Spl.yes (by first | assumption | omega) ?_ | refine Spl.no (by first | assumption | omega) ?_ | refine Wr.i64 (by omega) (by omega) ?_ | refine Still.mk rfl rfl ?_ | refine InB.mk (inB_mk (by omega) (by omega)) ?_ | refine Req.mk (by omega) ?_ | refine Req.mk ⟨by first | omega | (dsimp only; omega), by first | omega | (dsimp only; omega)⟩ ?_ | refine ACall.chgR 2 [(0, _), (1, _)] (hnb) rfl ⟨rfl, rfl, trivial⟩ rfl rfl ?_ | refine Spl.mk (fun _ => ?_) (fun _ => ?_) | refine InA.mk (inB_mk (by omega) (by omega)) ?_ | refine Wr.b64 ?_ | refine Wr.bu64 ?_ | refine Wr.bu32 ?_ | refine Wr.bu8 ?_ | refine Wr.u8 (by omega) (by omega) ?_ | refine Wr.u64 (by omega) (by omega) ?_ | refine Wr.u32 (by omega) (by omega) ?_ | refine Dv.pos (by omega) (by omega) ?_ | refine Rm.pos (by omega) (by omega) ?_ | refine ADraw.quiet follows_ok (by kernel_rfl) rfl ?_ | refine BSpl.decY (by first | assumption | omega) ?_ | refine BSpl.decN (by first | assumption | omega) ?_ | refine BSpl.dec (fun _ => ?_) (fun _ => ?_) | refine BSpl.yes (by assumption) ?_ | refine BSpl.no (by assumption) ?_ | refine BSpl.mk (fun _ => ?_) (fun _ => ?_))
  conv => whnf
  exact ⟨[(11, 3)], rfl, rfl, ⟨⟨_, rfl, OEq.refl _⟩, ⟨_, rfl, OEq.refl _⟩, ⟨_, rfl, OEq.isB ((IsB.bytes (l ++ vput s.size)).app (IsB.str s) rfl) (List.length_append ..).symm (List.append_assoc ..)⟩, trivial⟩, rfl, rfl, AEq.refl _⟩

set_option maxHeartbeats 8000000 in
set_option maxRecDepth 100000 in
theorem bytes_spec (d : Nat) (l : List Cont) (sc : Bool) (hl : l.length ≤ 140737488355328) (hm : ∀ c ∈ l, c.mod) (hB : (bytesC l).length ≤ 140737488355328) :
    ASpec Tryz.prog 23 [.sl 7 l.length sc (coF l)] (.own d) [(d, rwT (bytesC l))] := by
  refine aspec_of lay_ok 1082834244936346557 Tryz.func23 rfl rfl rfl ?_
  repeat' ((conv => whnf); first | refine Spl.yes (by first | assumption | omega) ?_ | refine Spl.no (by first | assumption | omega) ?_ | refine Wr.i64 (by omega) (by omega) ?_ | refine Still.mk rfl rfl ?_ | refine InB.mk (inB_mk (by omega) (by omega)) ?_ | refine Req.mk (by omega) ?_ | refine Req.mk ⟨by first | omega | (dsimp only; omega), by first | omega | (dsimp only; omega)⟩ ?_ | refine Spl.mk (fun _ => ?_) (fun _ => ?_) | refine InA.mk (inB_mk (by omega) (by omega)) ?_ | refine Wr.b64 ?_ | refine Wr.bu64 ?_ | refine Wr.bu32 ?_ | refine Wr.bu8 ?_ | refine Wr.u8 (by omega) (by omega) ?_ | refine Wr.u64 (by omega) (by omega) ?_ | refine Wr.u32 (by omega) (by omega) ?_ | refine Dv.pos (by omega) (by omega) ?_ | refine Rm.pos (by omega) (by omega) ?_ | refine ADraw.quiet follows_ok (by kernel_rfl) rfl ?_ | refine BSpl.decY (by first | assumption | omega) ?_ | refine BSpl.decN (by first | assumption | omega) ?_ | refine BSpl.dec (fun _ => ?_) (fun _ => ?_) | refine BSpl.yes (by assumption) ?_ | refine BSpl.no (by assumption) ?_ | refine BSpl.mk (fun _ => ?_) (fun _ => ?_))
  conv => whnf
  refine ALoop.nilB 0 0 90 5 1 (bytesF []) (by omega) rfl rfl ?_
  conv => whnf
  refine ALoop.mk { j : Nat // j ≤ l.length } (fun j => ⟨[(3, .box 0 0), (4, .box 1 0), (5, .fn 46 [.box 1 0, .box 0 0]), (16, .sl 7 l.length sc (coF l)), (17, .v (.int .i64 (l.length : Int))), (18, .v (.int .i64 (j.1 : Int)))],
      [(0, cpT 90), (1, nmT), (90, rwT (bytesC (l.take j.1)))], [], 91⟩) (fun j => l.length - j.1) ⟨0, Nat.zero_le _⟩ _
    (LeR.mk' [] _ _ _ rfl ⟨AEq.refl _, AEq.refl _, AEq.refl _, AEq.refl _, AEq.int rfl, AEq.int rfl, trivial⟩ ⟨⟨_, rfl, OEq.refl _⟩, ⟨_, rfl, OEq.refl _⟩, ⟨_, rfl, OEq.refl _⟩, trivial⟩ rfl) ?_
  rintro ⟨j, hj⟩
  dsimp only
  by_cases hjl : j < l.length
  · have hg : bytesC (l.take (j + 1)) = bytesC (l.take j) ++ contP (l.getD (j : Int).toNat default) := by
      rw [show l.getD (j : Int).toNat default = l.getD j default from rfl, List.getD, List.getElem?_eq_getElem hjl, bytesC, List.take_add_one, List.getElem?_eq_getElem hjl, List.flatMap_append]
      simp [bytesC]
    have hle : (bytesC (l.take (j + 1))).length ≤ 140737488355328 := by
      have e : bytesC l = bytesC (l.take (j + 1)) ++ bytesC (l.drop (j + 1)) := by rw [bytesC, bytesC, bytesC, ← List.flatMap_append, List.take_append_drop]
      rw [e, List.length_append] at hB
      omega
    have hmj : (l.getD (j : Int).toNat default).mod := hm _ (by
      rw [show l.getD (j : Int).toNat default = l.getD j default from rfl, List.getD, List.getElem?_eq_getElem hjl]
      exact List.getElem_mem _)
    obtain ⟨mk, m0, m1, ⟨ml0, ms0⟩, ml1, ms1⟩ := hmj
    rw [hg, List.length_append] at hle
    have hcl : (contP (l.getD (j : Int).toNat default)).length = (txtB (l.getD (j : Int).toNat default).key.data.toList).length + ((hasP (l.getD (j : Int).toNat default).h0 (l.getD (j : Int).toNat default).f0).length + ((hasP (l.getD (j : Int).toNat default).h1 (l.getD (j : Int).toNat default).f1).length + ((setP (l.getD (j : Int).toNat default).s0).length + (setP (l.getD (j : Int).toNat default).s1).length))) := by
      simp only [contP, List.length_append]
    generalize bytesC (l.take j) = P at hg hle ⊢
    have hw1 := wordsB_m (l.getD (j : Int).toNat default).key P (IsB.bytes _) rfl mk (by omega)
    unfold cpT nmT rwT at hw1 ⊢
    repeat' ((conv => whnf); first | refine Spl.yes (by first | assumption | omega) ?_ | refine Spl.no (by first | assumption | omega) ?_ | refine Wr.i64 (by omega) (by omega) ?_ | refine Still.mk rfl rfl ?_ | refine InB.mk (inB_mk (by omega) (by omega)) ?_ | refine Req.mk (by omega) ?_ | refine Req.mk ⟨by first | omega | (dsimp only; omega), by first | omega | (dsimp only; omega)⟩ ?_ | refine ACall.chgR 3 [(0, _), (1, _), (2, _)] (hw1) rfl ⟨rfl, rfl, rfl, trivial⟩ rfl rfl ?_ | refine Spl.mk (fun _ => ?_) (fun _ => ?_) | refine InA.mk (inB_mk (by omega) (by omega)) ?_ | refine Wr.b64 ?_ | refine Wr.bu64 ?_ | refine Wr.bu32 ?_ | refine Wr.bu8 ?_ | refine Wr.u8 (by omega) (by omega) ?_ | refine Wr.u64 (by omega) (by omega) ?_ | refine Wr.u32 (by omega) (by omega) ?_ | refine Dv.pos (by omega) (by omega) ?_ | refine Rm.pos (by omega) (by omega) ?_ | refine ADraw.quiet follows_ok (by kernel_rfl) rfl ?_ | refine BSpl.decY (by first | assumption | omega) ?_ | refine BSpl.decN (by first | assumption | omega) ?_ | refine BSpl.dec (fun _ => ?_) (fun _ => ?_) | refine BSpl.yes (by assumption) ?_ | refine BSpl.no (by assumption) ?_ | refine BSpl.mk (fun _ => ?_) (fun _ => ?_))
    conv => whnf
    obtain ⟨R0, e_⟩ : ∃ R0, R0 = P ++ txtB (l.getD (j : Int).toNat default).key.data.toList := ⟨_, rfl⟩
    obtain ⟨R1, e0⟩ : ∃ R1, R1 = R0 ++ hasP (l.getD (j : Int).toNat default).h0 (l.getD (j : Int).toNat default).f0 := ⟨_, rfl⟩
    obtain ⟨R2, e1⟩ : ∃ R2, R2 = R1 ++ hasP (l.getD (j : Int).toNat default).h1 (l.getD (j : Int).toNat default).f1 := ⟨_, rfl⟩
    obtain ⟨R3, e2⟩ : ∃ R3, R3 = R2 ++ setP (l.getD (j : Int).toNat default).s0 := ⟨_, rfl⟩
    obtain ⟨R4, e3⟩ : ∃ R4, R4 = R3 ++ setP (l.getD (j : Int).toNat default).s1 := ⟨_, rfl⟩
    have hR4 : bytesC (l.take (j + 1)) = R4 := by
      rw [hg, e3, e2, e1, e0, e_, contP]
      simp only [List.append_assoc]
    have l0 : R0.length = P.length + (txtB (l.getD (j : Int).toNat default).key.data.toList).length := by rw [e_, List.length_append]
    have l1 : R1.length = R0.length + (hasP (l.getD (j : Int).toNat default).h0 (l.getD (j : Int).toNat default).f0).length := by rw [e0, List.length_append]
    have l2 : R2.length = R1.length + (hasP (l.getD (j : Int).toNat default).h1 (l.getD (j : Int).toNat default).f1).length := by rw [e1, List.length_append]
    have l3 : R3.length = R2.length + (setP (l.getD (j : Int).toNat default).s0).length := by rw [e2, List.length_append]
    have k0 : (setP (l.getD (j : Int).toNat default).s0).length = (vput (l.getD (j : Int).toNat default).s0.length).length + ((l.getD (j : Int).toNat default).s0.flatMap txtB).length := List.length_append ..
    have k1 : (setP (l.getD (j : Int).toNat default).s1).length = (vput (l.getD (j : Int).toNat default).s1.length).length + ((l.getD (j : Int).toNat default).s1.flatMap txtB).length := List.length_append ..
    clear hm hg
    obtain ⟨Rw, r0, r1, r2⟩ : ∃ Rw : Nat → List UInt8, Rw 0 = R0 ∧ Rw 1 = R1 ∧ Rw 2 = R2 := ⟨fun n => match n with | 0 => R0 | 1 => R1 | _ => R2, rfl, rfl, rfl⟩
    obtain ⟨Rv, v0, v1, v2⟩ : ∃ Rv : Nat → List UInt8, Rv 0 = R2 ∧ Rv 1 = R3 ∧ Rv 2 = R4 := ⟨fun n => match n with | 0 => R2 | 1 => R3 | _ => R4, rfl, rfl, rfl⟩
    refine ALoop.mk { n : Nat // n ≤ 2 } (fun n => ⟨[(3, .box 0 0), (4, .box 1 0), (5, .fn 46 [.box 1 0, .box 0 0]), (7, .box 91 0), (16, .sl 7 l.length sc (coF l)), (17, .v (.int .i64 (l.length : Int))), (18, .v (.int .i64 (j : Int))), (27, .agg [.v (.bool (l.getD (j : Int).toNat default).h0), .v (.bool (l.getD (j : Int).toNat default).h1)]), (28, .v (.int .i64 (n.1 : Int)))],
        [(0, cpT 90), (1, nmT), (91, .box 45 (l.getD (j : Int).toNat default).cs), (90, rwT (Rw n.1))], [], 92⟩) (fun n => 2 - n.1) ⟨0, Nat.zero_le _⟩ _
      (LeR.mk' [(92, 90)] _ _ _ rfl ⟨AEq.refl _, AEq.refl _, AEq.refl _, AEq.refl _, AEq.refl _, AEq.refl _, AEq.refl _, AEq.refl _, AEq.int rfl, trivial⟩ ⟨⟨_, rfl, OEq.refl _⟩, ⟨_, rfl, OEq.refl _⟩, ⟨_, rfl, OEq.refl _⟩, ⟨_, rfl, eqR (by rw [r0, e_])⟩, trivial⟩ rfl) ?_
    rintro ⟨n, hn⟩
    obtain rfl | rfl | rfl : n = 0 ∨ n = 1 ∨ n = 2 := by omega
    all_goals (dsimp only [Cont.cs]; first | rw [r0] | rw [r1] | rw [r2])
    all_goals (unfold cpT nmT rwT)
    · obtain ⟨q, hq⟩ : ∃ q, (l.getD (j : Int).toNat default).h0 = q := ⟨_, rfl⟩
      rcases q with _ | _
      · have hp : hasP (l.getD (j : Int).toNat default).h0 (l.getD (j : Int).toNat default).f0 = [0] := by rw [hq]; rfl
        have hpl : (hasP (l.getD (j : Int).toNat default).h0 (l.getD (j : Int).toNat default).f0).length = 1 := by rw [hp]; rfl
        repeat' ((conv => whnf); first | refine Spl.yes (by first | assumption | omega) ?_ | refine Spl.no (by first | assumption | omega) ?_ | refine Wr.i64 (by omega) (by omega) ?_ | refine Still.mk rfl rfl ?_ | refine InB.mk (inB_mk (by omega) (by omega)) ?_ | refine Req.mk (by omega) ?_ | refine Req.mk ⟨by first | omega | (dsimp only; omega), by first | omega | (dsimp only; omega)⟩ ?_ | refine Spl.mk (fun _ => ?_) (fun _ => ?_) | refine InA.mk (inB_mk (by omega) (by omega)) ?_ | refine Wr.b64 ?_ | refine Wr.bu64 ?_ | refine Wr.bu32 ?_ | refine Wr.bu8 ?_ | refine Wr.u8 (by omega) (by omega) ?_ | refine Wr.u64 (by omega) (by omega) ?_ | refine Wr.u32 (by omega) (by omega) ?_ | refine Dv.pos (by omega) (by omega) ?_ | refine Rm.pos (by omega) (by omega) ?_ | refine ADraw.quiet follows_ok (by kernel_rfl) rfl ?_ | refine BSpl.decY (by first | assumption | omega) ?_ | refine BSpl.decN (by first | assumption | omega) ?_ | refine BSpl.dec (fun _ => ?_) (fun _ => ?_) | refine BSpl.yes (by assumption) ?_ | refine BSpl.no (by assumption) ?_ | refine BSpl.mk (fun _ => ?_) (fun _ => ?_))
        conv => whnf
        refine ⟨⟨1, by omega⟩, _, LeR.mk' [(93, 90)] _ _ _ rfl ⟨AEq.refl _, AEq.refl _, AEq.refl _, AEq.refl _, AEq.refl _, AEq.refl _, AEq.refl _, AEq.refl _, AEq.int rfl, trivial⟩ ⟨⟨_, rfl, OEq.refl _⟩, ⟨_, rfl, OEq.refl _⟩, ⟨_, rfl, OEq.refl _⟩, ⟨_, rfl, ?_⟩, trivial⟩ rfl, by show 2 - 1 < 2 - 0; omega⟩
        exact OEq.isB ((IsB.bytes R0).app (IsB.one (by omega) (by omega)) rfl) (by simp) (by rw [r1, e0, hp]; rfl)
      · have hp : hasP (l.getD (j : Int).toNat default).h0 (l.getD (j : Int).toNat default).f0 = 1 :: txtB (l.getD (j : Int).toNat default).f0.data.toList := by rw [hq]; rfl
        have hpl : (hasP (l.getD (j : Int).toNat default).h0 (l.getD (j : Int).toNat default).f0).length = (txtB (l.getD (j : Int).toNat default).f0.data.toList).length + 1 := by rw [hp]; rfl
        have hw2 := fun m F (hF : IsB F (R0 ++ [byteOf' 1])) (hm : m = (R0 ++ [byteOf' 1]).length) => wordsB_m (l.getD (j : Int).toNat default).f0 (R0 ++ [byteOf' 1]) hF hm m0 (by rw [List.length_append, List.length_singleton]; omega)
        unfold cpT nmT rwT at hw2
        repeat' ((conv => whnf); first | refine Spl.yes (by first | assumption | omega) ?_ | refine Spl.no (by first | assumption | omega) ?_ | refine Wr.i64 (by omega) (by omega) ?_ | refine Still.mk rfl rfl ?_ | refine InB.mk (inB_mk (by omega) (by omega)) ?_ | refine Req.mk (by omega) ?_ | refine Req.mk ⟨by first | omega | (dsimp only; omega), by first | omega | (dsimp only; omega)⟩ ?_ | refine ACall.chgR 3 [(0, _), (1, _), (2, _)] (hw2 _ _ ((IsB.bytes R0).app (IsB.one (by omega) (by omega)) rfl) (by simp)) rfl ⟨rfl, rfl, rfl, trivial⟩ rfl rfl ?_ | refine Spl.mk (fun _ => ?_) (fun _ => ?_) | refine InA.mk (inB_mk (by omega) (by omega)) ?_ | refine Wr.b64 ?_ | refine Wr.bu64 ?_ | refine Wr.bu32 ?_ | refine Wr.bu8 ?_ | refine Wr.u8 (by omega) (by omega) ?_ | refine Wr.u64 (by omega) (by omega) ?_ | refine Wr.u32 (by omega) (by omega) ?_ | refine Dv.pos (by omega) (by omega) ?_ | refine Rm.pos (by omega) (by omega) ?_ | refine ADraw.quiet follows_ok (by kernel_rfl) rfl ?_ | refine BSpl.decY (by first | assumption | omega) ?_ | refine BSpl.decN (by first | assumption | omega) ?_ | refine BSpl.dec (fun _ => ?_) (fun _ => ?_) | refine BSpl.yes (by assumption) ?_ | refine BSpl.no (by assumption) ?_ | refine BSpl.mk (fun _ => ?_) (fun _ => ?_))
        conv => whnf
        refine ⟨⟨1, by omega⟩, _, LeR.mk' [(94, 90)] _ _ _ rfl ⟨AEq.refl _, AEq.refl _, AEq.refl _, AEq.refl _, AEq.refl _, AEq.refl _, AEq.refl _, AEq.refl _, AEq.int rfl, trivial⟩ ⟨⟨_, rfl, OEq.refl _⟩, ⟨_, rfl, OEq.refl _⟩, ⟨_, rfl, OEq.refl _⟩, ⟨_, rfl, ?_⟩, trivial⟩ rfl, by show 2 - 1 < 2 - 0; omega⟩
        exact eqR (by rw [r1, e0, hp, List.append_assoc]; rfl)
    · obtain ⟨q, hq⟩ : ∃ q, (l.getD (j : Int).toNat default).h1 = q := ⟨_, rfl⟩
      rcases q with _ | _
      · have hp : hasP (l.getD (j : Int).toNat default).h1 (l.getD (j : Int).toNat default).f1 = [0] := by rw [hq]; rfl
        have hpl : (hasP (l.getD (j : Int).toNat default).h1 (l.getD (j : Int).toNat default).f1).length = 1 := by rw [hp]; rfl
        repeat' ((conv => whnf); first | refine Spl.yes (by first | assumption | omega) ?_ | refine Spl.no (by first | assumption | omega) ?_ | refine Wr.i64 (by omega) (by omega) ?_ | refine Still.mk rfl rfl ?_ | refine InB.mk (inB_mk (by omega) (by omega)) ?_ | refine Req.mk (by omega) ?_ | refine Req.mk ⟨by first | omega | (dsimp only; omega), by first | omega | (dsimp only; omega)⟩ ?_ | refine Spl.mk (fun _ => ?_) (fun _ => ?_) | refine InA.mk (inB_mk (by omega) (by omega)) ?_ | refine Wr.b64 ?_ | refine Wr.bu64 ?_ | refine Wr.bu32 ?_ | refine Wr.bu8 ?_ | refine Wr.u8 (by omega) (by omega) ?_ | refine Wr.u64 (by omega) (by omega) ?_ | refine Wr.u32 (by omega) (by omega) ?_ | refine Dv.pos (by omega) (by omega) ?_ | refine Rm.pos (by omega) (by omega) ?_ | refine ADraw.quiet follows_ok (by kernel_rfl) rfl ?_ | refine BSpl.decY (by first | assumption | omega) ?_ | refine BSpl.decN (by first | assumption | omega) ?_ | refine BSpl.dec (fun _ => ?_) (fun _ => ?_) | refine BSpl.yes (by assumption) ?_ | refine BSpl.no (by assumption) ?_ | refine BSpl.mk (fun _ => ?_) (fun _ => ?_))
        conv => whnf
        refine ⟨⟨2, by omega⟩, _, LeR.mk' [(93, 90)] _ _ _ rfl ⟨AEq.refl _, AEq.refl _, AEq.refl _, AEq.refl _, AEq.refl _, AEq.refl _, AEq.refl _, AEq.refl _, AEq.int rfl, trivial⟩ ⟨⟨_, rfl, OEq.refl _⟩, ⟨_, rfl, OEq.refl _⟩, ⟨_, rfl, OEq.refl _⟩, ⟨_, rfl, ?_⟩, trivial⟩ rfl, by show 2 - 2 < 2 - 1; omega⟩
        exact OEq.isB ((IsB.bytes R1).app (IsB.one (by omega) (by omega)) rfl) (by simp) (by rw [r2, e1, hp]; rfl)
      · have hp : hasP (l.getD (j : Int).toNat default).h1 (l.getD (j : Int).toNat default).f1 = 1 :: txtB (l.getD (j : Int).toNat default).f1.data.toList := by rw [hq]; rfl
        have hpl : (hasP (l.getD (j : Int).toNat default).h1 (l.getD (j : Int).toNat default).f1).length = (txtB (l.getD (j : Int).toNat default).f1.data.toList).length + 1 := by rw [hp]; rfl
        have hw2 := fun m F (hF : IsB F (R1 ++ [byteOf' 1])) (hm : m = (R1 ++ [byteOf' 1]).length) => wordsB_m (l.getD (j : Int).toNat default).f1 (R1 ++ [byteOf' 1]) hF hm m1 (by rw [List.length_append, List.length_singleton]; omega)
        unfold cpT nmT rwT at hw2
        repeat' ((conv => whnf); first | refine Spl.yes (by first | assumption | omega) ?_ | refine Spl.no (by first | assumption | omega) ?_ | refine Wr.i64 (by omega) (by omega) ?_ | refine Still.mk rfl rfl ?_ | refine InB.mk (inB_mk (by omega) (by omega)) ?_ | refine Req.mk (by omega) ?_ | refine Req.mk ⟨by first | omega | (dsimp only; omega), by first | omega | (dsimp only; omega)⟩ ?_ | refine ACall.chgR 3 [(0, _), (1, _), (2, _)] (hw2 _ _ ((IsB.bytes R1).app (IsB.one (by omega) (by omega)) rfl) (by simp)) rfl ⟨rfl, rfl, rfl, trivial⟩ rfl rfl ?_ | refine Spl.mk (fun _ => ?_) (fun _ => ?_) | refine InA.mk (inB_mk (by omega) (by omega)) ?_ | refine Wr.b64 ?_ | refine Wr.bu64 ?_ | refine Wr.bu32 ?_ | refine Wr.bu8 ?_ | refine Wr.u8 (by omega) (by omega) ?_ | refine Wr.u64 (by omega) (by omega) ?_ | refine Wr.u32 (by omega) (by omega) ?_ | refine Dv.pos (by omega) (by omega) ?_ | refine Rm.pos (by omega) (by omega) ?_ | refine ADraw.quiet follows_ok (by kernel_rfl) rfl ?_ | refine BSpl.decY (by first | assumption | omega) ?_ | refine BSpl.decN (by first | assumption | omega) ?_ | refine BSpl.dec (fun _ => ?_) (fun _ => ?_) | refine BSpl.yes (by assumption) ?_ | refine BSpl.no (by assumption) ?_ | refine BSpl.mk (fun _ => ?_) (fun _ => ?_))
        conv => whnf
        refine ⟨⟨2, by omega⟩, _, LeR.mk' [(94, 90)] _ _ _ rfl ⟨AEq.refl _, AEq.refl _, AEq.refl _, AEq.refl _, AEq.refl _, AEq.refl _, AEq.refl _, AEq.refl _, AEq.int rfl, trivial⟩ ⟨⟨_, rfl, OEq.refl _⟩, ⟨_, rfl, OEq.refl _⟩, ⟨_, rfl, OEq.refl _⟩, ⟨_, rfl, ?_⟩, trivial⟩ rfl, by show 2 - 2 < 2 - 1; omega⟩
        exact eqR (by rw [r2, e1, hp, List.append_assoc]; rfl)
    · repeat' ((conv => whnf); first | refine Spl.yes (by first | assumption | omega) ?_ | refine Spl.no (by first | assumption | omega) ?_ | refine Wr.i64 (by omega) (by omega) ?_ | refine Still.mk rfl rfl ?_ | refine InB.mk (inB_mk (by omega) (by omega)) ?_ | refine Req.mk (by omega) ?_ | refine Req.mk ⟨by first | omega | (dsimp only; omega), by first | omega | (dsimp only; omega)⟩ ?_ | refine Spl.mk (fun _ => ?_) (fun _ => ?_) | refine InA.mk (inB_mk (by omega) (by omega)) ?_ | refine Wr.b64 ?_ | refine Wr.bu64 ?_ | refine Wr.bu32 ?_ | refine Wr.bu8 ?_ | refine Wr.u8 (by omega) (by omega) ?_ | refine Wr.u64 (by omega) (by omega) ?_ | refine Wr.u32 (by omega) (by omega) ?_ | refine Dv.pos (by omega) (by omega) ?_ | refine Rm.pos (by omega) (by omega) ?_ | refine ADraw.quiet follows_ok (by kernel_rfl) rfl ?_ | refine BSpl.decY (by first | assumption | omega) ?_ | refine BSpl.decN (by first | assumption | omega) ?_ | refine BSpl.dec (fun _ => ?_) (fun _ => ?_) | refine BSpl.yes (by assumption) ?_ | refine BSpl.no (by assumption) ?_ | refine BSpl.mk (fun _ => ?_) (fun _ => ?_))
      conv => whnf
      refine ALoop.mk { n : Nat // n ≤ 2 } (fun n => ⟨[(3, .box 0 0), (4, .box 1 0), (5, .fn 46 [.box 1 0, .box 0 0]), (7, .box 91 0), (16, .sl 7 l.length sc (coF l)), (17, .v (.int .i64 (l.length : Int))), (18, .v (.int .i64 (j : Int))), (48, .agg [.sl 1 (l.getD (j : Int).toNat default).s0.length true (strF (l.getD (j : Int).toNat default).s0), .sl 1 (l.getD (j : Int).toNat default).s1.length true (strF (l.getD (j : Int).toNat default).s1)]), (49, .v (.int .i64 (n.1 : Int)))],
          [(0, cpT 90), (1, nmT), (91, .box 45 (l.getD (j : Int).toNat default).cs), (90, rwT (Rv n.1))], [], 92⟩) (fun n => 2 - n.1) ⟨0, Nat.zero_le _⟩ _
        (LeR.mk' [] _ _ _ rfl ⟨AEq.refl _, AEq.refl _, AEq.refl _, AEq.refl _, AEq.refl _, AEq.refl _, AEq.refl _, AEq.refl _, AEq.int rfl, trivial⟩ ⟨⟨_, rfl, OEq.refl _⟩, ⟨_, rfl, OEq.refl _⟩, ⟨_, rfl, OEq.refl _⟩, ⟨_, rfl, eqR v0.symm⟩, trivial⟩ rfl) ?_
      rintro ⟨n, hn⟩
      obtain rfl | rfl | rfl : n = 0 ∨ n = 1 ∨ n = 2 := by omega
      all_goals (dsimp only [Cont.cs]; first | rw [v0] | rw [v1] | rw [v2])
      all_goals (unfold cpT nmT rwT)
      · have hnb := fun m F (hF : IsB F R2) (hm : m = R2.length) => numB_m (l.getD (j : Int).toNat default).s0.length R2 hF hm ml0 (by omega)
        unfold cpT rwT at hnb
        have hvl : (R2 ++ vput (l.getD (j : Int).toNat default).s0.length).length = R2.length + (vput (l.getD (j : Int).toNat default).s0.length).length := List.length_append ..
        repeat' ((conv => whnf); first | refine Spl.yes (by first | assumption | omega) ?_ | refine Spl.no (by first | assumption | omega) ?_ | refine Wr.i64 (by omega) (by omega) ?_ | refine Still.mk rfl rfl ?_ | refine InB.mk (inB_mk (by omega) (by omega)) ?_ | refine Req.mk (by omega) ?_ | refine Req.mk ⟨by first | omega | (dsimp only; omega), by first | omega | (dsimp only; omega)⟩ ?_ | refine ACall.chgR 2 [(0, _), (1, _)] (hnb _ _ (IsB.bytes _) rfl) rfl ⟨rfl, rfl, trivial⟩ rfl rfl ?_ | refine Spl.mk (fun _ => ?_) (fun _ => ?_) | refine InA.mk (inB_mk (by omega) (by omega)) ?_ | refine Wr.b64 ?_ | refine Wr.bu64 ?_ | refine Wr.bu32 ?_ | refine Wr.bu8 ?_ | refine Wr.u8 (by omega) (by omega) ?_ | refine Wr.u64 (by omega) (by omega) ?_ | refine Wr.u32 (by omega) (by omega) ?_ | refine Dv.pos (by omega) (by omega) ?_ | refine Rm.pos (by omega) (by omega) ?_ | refine ADraw.quiet follows_ok (by kernel_rfl) rfl ?_ | refine BSpl.decY (by first | assumption | omega) ?_ | refine BSpl.decN (by first | assumption | omega) ?_ | refine BSpl.dec (fun _ => ?_) (fun _ => ?_) | refine BSpl.yes (by assumption) ?_ | refine BSpl.no (by assumption) ?_ | refine BSpl.mk (fun _ => ?_) (fun _ => ?_))
        conv => whnf
        refine ALoop.mk { k : Nat // k ≤ (l.getD (j : Int).toNat default).s0.length } (fun k => ⟨[(3, .box 0 0), (4, .box 1 0), (5, .fn 46 [.box 1 0, .box 0 0]), (7, .box 91 0), (16, .sl 7 l.length sc (coF l)), (17, .v (.int .i64 (l.length : Int))), (18, .v (.int .i64 (j : Int))), (48, .agg [.sl 1 (l.getD (j : Int).toNat default).s0.length true (strF (l.getD (j : Int).toNat default).s0), .sl 1 (l.getD (j : Int).toNat default).s1.length true (strF (l.getD (j : Int).toNat default).s1)]), (49, .v (.int .i64 0)), (11, .sl 1 (l.getD (j : Int).toNat default).s0.length true (strF (l.getD (j : Int).toNat default).s0)), (56, .sl 1 (l.getD (j : Int).toNat default).s0.length true (strF (l.getD (j : Int).toNat default).s0)), (57, .v (.int .i64 ((l.getD (j : Int).toNat default).s0.length : Int))), (58, .v (.int .i64 (k.1 : Int)))],
            [(0, cpT 90), (1, nmT), (91, .box 45 (l.getD (j : Int).toNat default).cs), (90, rwT (R2 ++ vput (l.getD (j : Int).toNat default).s0.length ++ ((l.getD (j : Int).toNat default).s0.take k.1).flatMap txtB))], [], 92⟩) (fun k => (l.getD (j : Int).toNat default).s0.length - k.1) ⟨0, Nat.zero_le _⟩ _
          (LeR.mk' [(92, 90)] _ _ _ rfl ⟨AEq.refl _, AEq.refl _, AEq.refl _, AEq.refl _, AEq.refl _, AEq.refl _, AEq.refl _, AEq.refl _, AEq.int rfl, AEq.refl _, AEq.refl _, AEq.refl _, AEq.int rfl, trivial⟩ ⟨⟨_, rfl, OEq.refl _⟩, ⟨_, rfl, OEq.refl _⟩, ⟨_, rfl, OEq.refl _⟩, ⟨_, rfl, eqR (by simp)⟩, trivial⟩ rfl) ?_
        rintro ⟨k, hk⟩
        dsimp only
        by_cases hkl : k < (l.getD (j : Int).toNat default).s0.length
        · have hgk : ((l.getD (j : Int).toNat default).s0.take (k + 1)).flatMap txtB = ((l.getD (j : Int).toNat default).s0.take k).flatMap txtB ++ txtB ((l.getD (j : Int).toNat default).s0.getD (k : Int).toNat []) := take_flat hkl
          have hkle : (((l.getD (j : Int).toNat default).s0.take (k + 1)).flatMap txtB).length ≤ ((l.getD (j : Int).toNat default).s0.flatMap txtB).length := by
            have e : (l.getD (j : Int).toNat default).s0.flatMap txtB = ((l.getD (j : Int).toNat default).s0.take (k + 1)).flatMap txtB ++ ((l.getD (j : Int).toNat default).s0.drop (k + 1)).flatMap txtB := by rw [← List.flatMap_append, List.take_append_drop]
            rw [e, List.length_append]
            omega
          rw [hgk, List.length_append] at hkle
          have hmx : ((l.getD (j : Int).toNat default).s0.getD (k : Int).toNat []).length ≤ 4294967296 := ms0 _ (getD_mem hkl)
          generalize ((l.getD (j : Int).toNat default).s0.take k).flatMap txtB = T at hgk hkle ⊢
          have hwk := fun m F (hF : IsB F (R2 ++ vput (l.getD (j : Int).toNat default).s0.length ++ T)) (hm : m = (R2 ++ vput (l.getD (j : Int).toNat default).s0.length ++ T).length) => wordsB_m ⟨((l.getD (j : Int).toNat default).s0.getD (k : Int).toNat []).toArray⟩ (R2 ++ vput (l.getD (j : Int).toNat default).s0.length ++ T) hF hm hmx (by rw [List.length_append, hvl]; show _ + _ + (txtB ((l.getD (j : Int).toNat default).s0.getD (k : Int).toNat [])).length ≤ _; omega)
          unfold cpT nmT rwT at hwk ⊢
          repeat' ((conv => whnf); first | refine Spl.yes (by first | assumption | omega) ?_ | refine Spl.no (by first | assumption | omega) ?_ | refine Wr.i64 (by omega) (by omega) ?_ | refine Still.mk rfl rfl ?_ | refine InB.mk (inB_mk (by omega) (by omega)) ?_ | refine Req.mk (by omega) ?_ | refine Req.mk ⟨by first | omega | (dsimp only; omega), by first | omega | (dsimp only; omega)⟩ ?_ | refine ACall.chgR 3 [(0, _), (1, _), (2, _)] (hwk _ _ (IsB.bytes _) rfl) rfl ⟨rfl, rfl, rfl, trivial⟩ rfl rfl ?_ | refine Spl.mk (fun _ => ?_) (fun _ => ?_) | refine InA.mk (inB_mk (by omega) (by omega)) ?_ | refine Wr.b64 ?_ | refine Wr.bu64 ?_ | refine Wr.bu32 ?_ | refine Wr.bu8 ?_ | refine Wr.u8 (by omega) (by omega) ?_ | refine Wr.u64 (by omega) (by omega) ?_ | refine Wr.u32 (by omega) (by omega) ?_ | refine Dv.pos (by omega) (by omega) ?_ | refine Rm.pos (by omega) (by omega) ?_ | refine ADraw.quiet follows_ok (by kernel_rfl) rfl ?_ | refine BSpl.decY (by first | assumption | omega) ?_ | refine BSpl.decN (by first | assumption | omega) ?_ | refine BSpl.dec (fun _ => ?_) (fun _ => ?_) | refine BSpl.yes (by assumption) ?_ | refine BSpl.no (by assumption) ?_ | refine BSpl.mk (fun _ => ?_) (fun _ => ?_))
          conv => whnf
          refine ⟨⟨k + 1, hkl⟩, _, LeR.mk' [(92, 90)] _ _ _ rfl ⟨AEq.refl _, AEq.refl _, AEq.refl _, AEq.refl _, AEq.refl _, AEq.refl _, AEq.refl _, AEq.refl _, AEq.int rfl, AEq.refl _, AEq.refl _, AEq.refl _, AEq.int rfl, trivial⟩ ⟨⟨_, rfl, OEq.refl _⟩, ⟨_, rfl, OEq.refl _⟩, ⟨_, rfl, OEq.refl _⟩, ⟨_, rfl, ?_⟩, trivial⟩ rfl, Nat.sub_succ_lt_self _ _ hkl⟩
          exact eqR (by rw [hgk, List.append_assoc])
        · rw [List.take_of_length_le (show (l.getD (j : Int).toNat default).s0.length ≤ k by omega)]
          have ee : R2 ++ vput (l.getD (j : Int).toNat default).s0.length ++ (l.getD (j : Int).toNat default).s0.flatMap txtB = R3 := by rw [e2, setP, List.append_assoc]
          rw [ee]
          repeat' ((conv => whnf); first | refine Spl.yes (by first | assumption | omega) ?_ | refine Spl.no (by first | assumption | omega) ?_ | refine Wr.i64 (by omega) (by omega) ?_ | refine Still.mk rfl rfl ?_ | refine InB.mk (inB_mk (by omega) (by omega)) ?_ | refine Req.mk (by omega) ?_ | refine Req.mk ⟨by first | omega | (dsimp only; omega), by first | omega | (dsimp only; omega)⟩ ?_ | refine Spl.mk (fun _ => ?_) (fun _ => ?_) | refine InA.mk (inB_mk (by omega) (by omega)) ?_ | refine Wr.b64 ?_ | refine Wr.bu64 ?_ | refine Wr.bu32 ?_ | refine Wr.bu8 ?_ | refine Wr.u8 (by omega) (by omega) ?_ | refine Wr.u64 (by omega) (by omega) ?_ | refine Wr.u32 (by omega) (by omega) ?_ | refine Dv.pos (by omega) (by omega) ?_ | refine Rm.pos (by omega) (by omega) ?_ | refine ADraw.quiet follows_ok (by kernel_rfl) rfl ?_ | refine BSpl.decY (by first | assumption | omega) ?_ | refine BSpl.decN (by first | assumption | omega) ?_ | refine BSpl.dec (fun _ => ?_) (fun _ => ?_) | refine BSpl.yes (by assumption) ?_ | refine BSpl.no (by assumption) ?_ | refine BSpl.mk (fun _ => ?_) (fun _ => ?_))
          conv => whnf
          exact ⟨⟨1, by omega⟩, _, LeR.mk' [] _ _ _ rfl ⟨AEq.refl _, AEq.refl _, AEq.refl _, AEq.refl _, AEq.refl _, AEq.refl _, AEq.refl _, AEq.refl _, AEq.int rfl, trivial⟩ ⟨⟨_, rfl, OEq.refl _⟩, ⟨_, rfl, OEq.refl _⟩, ⟨_, rfl, OEq.refl _⟩, ⟨_, rfl, eqR v1.symm⟩, trivial⟩ rfl, by show 2 - 1 < 2 - 0; omega⟩
      · have hnb := fun m F (hF : IsB F R3) (hm : m = R3.length) => numB_m (l.getD (j : Int).toNat default).s1.length R3 hF hm ml1 (by omega)
        unfold cpT rwT at hnb
        have hvl : (R3 ++ vput (l.getD (j : Int).toNat default).s1.length).length = R3.length + (vput (l.getD (j : Int).toNat default).s1.length).length := List.length_append ..
        repeat' ((conv => whnf); first | refine Spl.yes (by first | assumption | omega) ?_ | refine Spl.no (by first | assumption | omega) ?_ | refine Wr.i64 (by omega) (by omega) ?_ | refine Still.mk rfl rfl ?_ | refine InB.mk (inB_mk (by omega) (by omega)) ?_ | refine Req.mk (by omega) ?_ | refine Req.mk ⟨by first | omega | (dsimp only; omega), by first | omega | (dsimp only; omega)⟩ ?_ | refine ACall.chgR 2 [(0, _), (1, _)] (hnb _ _ (IsB.bytes _) rfl) rfl ⟨rfl, rfl, trivial⟩ rfl rfl ?_ | refine Spl.mk (fun _ => ?_) (fun _ => ?_) | refine InA.mk (inB_mk (by omega) (by omega)) ?_ | refine Wr.b64 ?_ | refine Wr.bu64 ?_ | refine Wr.bu32 ?_ | refine Wr.bu8 ?_ | refine Wr.u8 (by omega) (by omega) ?_ | refine Wr.u64 (by omega) (by omega) ?_ | refine Wr.u32 (by omega) (by omega) ?_ | refine Dv.pos (by omega) (by omega) ?_ | refine Rm.pos (by omega) (by omega) ?_ | refine ADraw.quiet follows_ok (by kernel_rfl) rfl ?_ | refine BSpl.decY (by first | assumption | omega) ?_ | refine BSpl.decN (by first | assumption | omega) ?_ | refine BSpl.dec (fun _ => ?_) (fun _ => ?_) | refine BSpl.yes (by assumption) ?_ | refine BSpl.no (by assumption) ?_ | refine BSpl.mk (fun _ => ?_) (fun _ => ?_))
        conv => whnf
        refine ALoop.mk { k : Nat // k ≤ (l.getD (j : Int).toNat default).s1.length } (fun k => ⟨[(3, .box 0 0), (4, .box 1 0), (5, .fn 46 [.box 1 0, .box 0 0]), (7, .box 91 0), (16, .sl 7 l.length sc (coF l)), (17, .v (.int .i64 (l.length : Int))), (18, .v (.int .i64 (j : Int))), (48, .agg [.sl 1 (l.getD (j : Int).toNat default).s0.length true (strF (l.getD (j : Int).toNat default).s0), .sl 1 (l.getD (j : Int).toNat default).s1.length true (strF (l.getD (j : Int).toNat default).s1)]), (49, .v (.int .i64 1)), (11, .sl 1 (l.getD (j : Int).toNat default).s1.length true (strF (l.getD (j : Int).toNat default).s1)), (56, .sl 1 (l.getD (j : Int).toNat default).s1.length true (strF (l.getD (j : Int).toNat default).s1)), (57, .v (.int .i64 ((l.getD (j : Int).toNat default).s1.length : Int))), (58, .v (.int .i64 (k.1 : Int)))],
            [(0, cpT 90), (1, nmT), (91, .box 45 (l.getD (j : Int).toNat default).cs), (90, rwT (R3 ++ vput (l.getD (j : Int).toNat default).s1.length ++ ((l.getD (j : Int).toNat default).s1.take k.1).flatMap txtB))], [], 92⟩) (fun k => (l.getD (j : Int).toNat default).s1.length - k.1) ⟨0, Nat.zero_le _⟩ _
          (LeR.mk' [(92, 90)] _ _ _ rfl ⟨AEq.refl _, AEq.refl _, AEq.refl _, AEq.refl _, AEq.refl _, AEq.refl _, AEq.refl _, AEq.refl _, AEq.int rfl, AEq.refl _, AEq.refl _, AEq.refl _, AEq.int rfl, trivial⟩ ⟨⟨_, rfl, OEq.refl _⟩, ⟨_, rfl, OEq.refl _⟩, ⟨_, rfl, OEq.refl _⟩, ⟨_, rfl, eqR (by simp)⟩, trivial⟩ rfl) ?_
        rintro ⟨k, hk⟩
        dsimp only
        by_cases hkl : k < (l.getD (j : Int).toNat default).s1.length
        · have hgk : ((l.getD (j : Int).toNat default).s1.take (k + 1)).flatMap txtB = ((l.getD (j : Int).toNat default).s1.take k).flatMap txtB ++ txtB ((l.getD (j : Int).toNat default).s1.getD (k : Int).toNat []) := take_flat hkl
          have hkle : (((l.getD (j : Int).toNat default).s1.take (k + 1)).flatMap txtB).length ≤ ((l.getD (j : Int).toNat default).s1.flatMap txtB).length := by
            have e : (l.getD (j : Int).toNat default).s1.flatMap txtB = ((l.getD (j : Int).toNat default).s1.take (k + 1)).flatMap txtB ++ ((l.getD (j : Int).toNat default).s1.drop (k + 1)).flatMap txtB := by rw [← List.flatMap_append, List.take_append_drop]
            rw [e, List.length_append]
            omega
          rw [hgk, List.length_append] at hkle
          have hmx : ((l.getD (j : Int).toNat default).s1.getD (k : Int).toNat []).length ≤ 4294967296 := ms1 _ (getD_mem hkl)
          generalize ((l.getD (j : Int).toNat default).s1.take k).flatMap txtB = T at hgk hkle ⊢
          have hwk := fun m F (hF : IsB F (R3 ++ vput (l.getD (j : Int).toNat default).s1.length ++ T)) (hm : m = (R3 ++ vput (l.getD (j : Int).toNat default).s1.length ++ T).length) => wordsB_m ⟨((l.getD (j : Int).toNat default).s1.getD (k : Int).toNat []).toArray⟩ (R3 ++ vput (l.getD (j : Int).toNat default).s1.length ++ T) hF hm hmx (by rw [List.length_append, hvl]; show _ + _ + (txtB ((l.getD (j : Int).toNat default).s1.getD (k : Int).toNat [])).length ≤ _; omega)
          unfold cpT nmT rwT at hwk ⊢
          repeat' ((conv => whnf); first | refine Spl.yes (by first | assumption | omega) ?_ | refine Spl.no (by first | assumption | omega) ?_ | refine Wr.i64 (by omega) (by omega) ?_ | refine Still.mk rfl rfl ?_ | refine InB.mk (inB_mk (by omega) (by omega)) ?_ | refine Req.mk (by omega) ?_ | refine Req.mk ⟨by first | omega | (dsimp only; omega), by first | omega | (dsimp only; omega)⟩ ?_ | refine ACall.chgR 3 [(0, _), (1, _), (2, _)] (hwk _ _ (IsB.bytes _) rfl) rfl ⟨rfl, rfl, rfl, trivial⟩ rfl rfl ?_ | refine Spl.mk (fun _ => ?_) (fun _ => ?_) | refine InA.mk (inB_mk (by omega) (by omega)) ?_ | refine Wr.b64 ?_ | refine Wr.bu64 ?_ | refine Wr.bu32 ?_ | refine Wr.bu8 ?_ | refine Wr.u8 (by omega) (by omega) ?_ | refine Wr.u64 (by omega) (by omega) ?_ | refine Wr.u32 (by omega) (by omega) ?_ | refine Dv.pos (by omega) (by omega) ?_ | refine Rm.pos (by omega) (by omega) ?_ | refine ADraw.quiet follows_ok (by kernel_rfl) rfl ?_ | refine BSpl.decY (by first | assumption | omega) ?_ | refine BSpl.decN (by first | assumption | omega) ?_ | refine BSpl.dec (fun _ => ?_) (fun _ => ?_) | refine BSpl.yes (by assumption) ?_ | refine BSpl.no (by assumption) ?_ | refine BSpl.mk (fun _ => ?_) (fun _ => ?_))
          conv => whnf
          refine ⟨⟨k + 1, hkl⟩, _, LeR.mk' [(92, 90)] _ _ _ rfl ⟨AEq.refl _, AEq.refl _, AEq.refl _, AEq.refl _, AEq.refl _, AEq.refl _, AEq.refl _, AEq.refl _, AEq.int rfl, AEq.refl _, AEq.refl _, AEq.refl _, AEq.int rfl, trivial⟩ ⟨⟨_, rfl, OEq.refl _⟩, ⟨_, rfl, OEq.refl _⟩, ⟨_, rfl, OEq.refl _⟩, ⟨_, rfl, ?_⟩, trivial⟩ rfl, Nat.sub_succ_lt_self _ _ hkl⟩
          exact eqR (by rw [hgk, List.append_assoc])
        · rw [List.take_of_length_le (show (l.getD (j : Int).toNat default).s1.length ≤ k by omega)]
          have ee : R3 ++ vput (l.getD (j : Int).toNat default).s1.length ++ (l.getD (j : Int).toNat default).s1.flatMap txtB = R4 := by rw [e3, setP, List.append_assoc]
          rw [ee]
          repeat' ((conv => whnf); first | refine Spl.yes (by first | assumption | omega) ?_ | refine Spl.no (by first | assumption | omega) ?_ | refine Wr.i64 (by omega) (by omega) ?_ | refine Still.mk rfl rfl ?_ | refine InB.mk (inB_mk (by omega) (by omega)) ?_ | refine Req.mk (by omega) ?_ | refine Req.mk ⟨by first | omega | (dsimp only; omega), by first | omega | (dsimp only; omega)⟩ ?_ | refine Spl.mk (fun _ => ?_) (fun _ => ?_) | refine InA.mk (inB_mk (by omega) (by omega)) ?_ | refine Wr.b64 ?_ | refine Wr.bu64 ?_ | refine Wr.bu32 ?_ | refine Wr.bu8 ?_ | refine Wr.u8 (by omega) (by omega) ?_ | refine Wr.u64 (by omega) (by omega) ?_ | refine Wr.u32 (by omega) (by omega) ?_ | refine Dv.pos (by omega) (by omega) ?_ | refine Rm.pos (by omega) (by omega) ?_ | refine ADraw.quiet follows_ok (by kernel_rfl) rfl ?_ | refine BSpl.decY (by first | assumption | omega) ?_ | refine BSpl.decN (by first | assumption | omega) ?_ | refine BSpl.dec (fun _ => ?_) (fun _ => ?_) | refine BSpl.yes (by assumption) ?_ | refine BSpl.no (by assumption) ?_ | refine BSpl.mk (fun _ => ?_) (fun _ => ?_))
          conv => whnf
          exact ⟨⟨2, by omega⟩, _, LeR.mk' [] _ _ _ rfl ⟨AEq.refl _, AEq.refl _, AEq.refl _, AEq.refl _, AEq.refl _, AEq.refl _, AEq.refl _, AEq.refl _, AEq.int rfl, trivial⟩ ⟨⟨_, rfl, OEq.refl _⟩, ⟨_, rfl, OEq.refl _⟩, ⟨_, rfl, OEq.refl _⟩, ⟨_, rfl, eqR v2.symm⟩, trivial⟩ rfl, by show 2 - 2 < 2 - 1; omega⟩
      · repeat' ((conv => whnf); first | refine Spl.yes (by first | assumption | omega) ?_ | refine Spl.no (by first | assumption | omega) ?_ | refine Wr.i64 (by omega) (by omega) ?_ | refine Still.mk rfl rfl ?_ | refine InB.mk (inB_mk (by omega) (by omega)) ?_ | refine Req.mk (by omega) ?_ | refine Req.mk ⟨by first | omega | (dsimp only; omega), by first | omega | (dsimp only; omega)⟩ ?_ | refine Spl.mk (fun _ => ?_) (fun _ => ?_) | refine InA.mk (inB_mk (by omega) (by omega)) ?_ | refine Wr.b64 ?_ | refine Wr.bu64 ?_ | refine Wr.bu32 ?_ | refine Wr.bu8 ?_ | refine Wr.u8 (by omega) (by omega) ?_ | refine Wr.u64 (by omega) (by omega) ?_ | refine Wr.u32 (by omega) (by omega) ?_ | refine Dv.pos (by omega) (by omega) ?_ | refine Rm.pos (by omega) (by omega) ?_ | refine ADraw.quiet follows_ok (by kernel_rfl) rfl ?_ | refine BSpl.decY (by first | assumption | omega) ?_ | refine BSpl.decN (by first | assumption | omega) ?_ | refine BSpl.dec (fun _ => ?_) (fun _ => ?_) | refine BSpl.yes (by assumption) ?_ | refine BSpl.no (by assumption) ?_ | refine BSpl.mk (fun _ => ?_) (fun _ => ?_))
        conv => whnf
        exact ⟨⟨j + 1, hjl⟩, _, LeR.mk' [] _ _ _ rfl ⟨AEq.refl _, AEq.refl _, AEq.refl _, AEq.refl _, AEq.refl _, AEq.int rfl, trivial⟩ ⟨⟨_, rfl, OEq.refl _⟩, ⟨_, rfl, OEq.refl _⟩, ⟨_, rfl, eqR hR4.symm⟩, trivial⟩ rfl, Nat.sub_succ_lt_self _ _ hjl⟩
  · rw [List.take_of_length_le (show l.length ≤ j by omega)]
    unfold cpT nmT rwT
    repeat' ((conv => whnf); first | refine Spl.yes (by first | assumption | omega) ?_ | refine Spl.no (by first | assumption | omega) ?_ | refine Wr.i64 (by omega) (by omega) ?_ | refine Still.mk rfl rfl ?_ | refine InB.mk (inB_mk (by omega) (by omega)) ?_ | refine Req.mk (by omega) ?_ | refine Req.mk ⟨by first | omega | (dsimp only; omega), by first | omega | (dsimp only; omega)⟩ ?_ | refine Spl.mk (fun _ => ?_) (fun _ => ?_) | refine InA.mk (inB_mk (by omega) (by omega)) ?_ | refine Wr.b64 ?_ | refine Wr.bu64 ?_ | refine Wr.bu32 ?_ | refine Wr.bu8 ?_ | refine Wr.u8 (by omega) (by omega) ?_ | refine Wr.u64 (by omega) (by omega) ?_ | refine Wr.u32 (by omega) (by omega) ?_ | refine Dv.pos (by omega) (by omega) ?_ | refine Rm.pos (by omega) (by omega) ?_ | refine ADraw.quiet follows_ok (by kernel_rfl) rfl ?_ | refine BSpl.decY (by first | assumption | omega) ?_ | refine BSpl.decN (by first | assumption | omega) ?_ | refine BSpl.dec (fun _ => ?_) (fun _ => ?_) | refine BSpl.yes (by assumption) ?_ | refine BSpl.no (by assumption) ?_ | refine BSpl.mk (fun _ => ?_) (fun _ => ?_))
    conv => whnf
    exact ARet.ownX d rfl rfl (OEq.refl _) (AEq.refl _)
end Go.Proofs.YtkkpfjifkjbndaaGreat

/-
  Plain Lean: unlike contacts have unlike bytes; how many bytes they have.
-/
namespace Go.Proofs.YtkkpfjifkjbndaaGreat
open Go.RowKit

theorem u8_ne {a b : Nat} (ha : a < 128) (hb : 128 ≤ b) (hb' : b < 256) : UInt8.ofNat a ≠ UInt8.ofNat b := fun h => by
  have := congrArg UInt8.toNat h
  rw [UInt8.toNat_ofNat', UInt8.toNat_ofNat', Nat.mod_eq_of_lt (by omega), Nat.mod_eq_of_lt (by omega)] at this
  omega
theorem u8_inj {a b : Nat} (ha : a < 256) (hb : b < 256) (h : UInt8.ofNat a = UInt8.ofNat b) : a = b := by
  have := congrArg UInt8.toNat h
  rwa [UInt8.toNat_ofNat', UInt8.toNat_ofNat', Nat.mod_eq_of_lt (by omega), Nat.mod_eq_of_lt (by omega)] at this
theorem vputF_inj : ∀ {f n m : Nat} {r r' : List UInt8}, n < 128 ^ (f + 1) → m < 128 ^ (f + 1) → vputF f n ++ r = vputF f m ++ r' → n = m ∧ r = r'
  | 0, n, m, r, r', hn, hm, h => by
    simp only [vputF, List.cons_append, List.nil_append, List.cons.injEq] at h
    rw [Nat.zero_add, Nat.pow_one] at hn hm
    exact ⟨u8_inj (by omega) (by omega) h.1, h.2⟩
  | f + 1, n, m, r, r', hn, hm, h => by
    rw [vputF, vputF] at h
    split at h
    · split at h
      · simp only [List.cons_append, List.nil_append, List.cons.injEq] at h
        exact ⟨u8_inj (by omega) (by omega) h.1, h.2⟩
      · simp only [List.cons_append, List.nil_append, List.cons.injEq] at h
        exact absurd h.1 (u8_ne (by omega) (by omega) (by omega))
    · split at h
      · simp only [List.cons_append, List.nil_append, List.cons.injEq] at h
        exact absurd h.1.symm (u8_ne (by omega) (by omega) (by omega))
      · simp only [List.cons_append, List.cons.injEq] at h
        have h1 := u8_inj (by omega) (by omega) h.1
        rw [Nat.pow_succ] at hn hm
        obtain ⟨h2, h3⟩ := vputF_inj (Nat.div_lt_of_lt_mul (by omega)) (Nat.div_lt_of_lt_mul (by omega)) h.2
        exact ⟨by omega, h3⟩
theorem vput_inj {n m : Nat} {r r' : List UInt8} (hn : n ≤ 4294967296) (hm : m ≤ 4294967296) (h : vput n ++ r = vput m ++ r') : n = m ∧ r = r' := by
  have : 128 ^ (9 + 1) = 1180591620717411303424 := by decide
  exact vputF_inj (by omega) (by omega) h
theorem txt_inj {s t : List UInt8} {r r' : List UInt8} (hs : s.length ≤ 4294967296) (ht : t.length ≤ 4294967296) (h : txtB s ++ r = txtB t ++ r') : s = t ∧ r = r' := by
  unfold txtB at h
  rw [List.append_assoc, List.append_assoc] at h
  obtain ⟨h1, h2⟩ := vput_inj hs ht h
  exact List.append_inj h2 h1
theorem has_inj {h h' : Bool} {f f' : ByteArray} {r r' : List UInt8} (hf : f.size ≤ 4294967296) (hf' : f'.size ≤ 4294967296) (h0 : h = false → f = ⟨#[]⟩) (h0' : h' = false → f' = ⟨#[]⟩) (e : hasP h f ++ r = hasP h' f' ++ r') : h = h' ∧ f = f' ∧ r = r' := by
  cases h <;> cases h' <;> simp only [hasP, if_true, List.cons_append, List.nil_append, List.cons.injEq, Bool.false_eq_true, if_false] at e
  · exact ⟨rfl, by rw [h0 rfl, h0' rfl], e.2⟩
  · exact absurd e.1 (by decide)
  · exact absurd e.1 (by decide)
  · obtain ⟨e1, e2⟩ := txt_inj (show f.data.toList.length ≤ _ from hf) (show f'.data.toList.length ≤ _ from hf') e.2
    refine ⟨rfl, ?_, e2⟩
    cases f; cases f'
    congr
    exact Array.toList_inj.1 e1
theorem set_inj0 : ∀ {l l' : List (List UInt8)} {r r' : List UInt8}, l.length = l'.length → (∀ x ∈ l, x.length ≤ 4294967296) → (∀ x ∈ l', x.length ≤ 4294967296) → l.flatMap txtB ++ r = l'.flatMap txtB ++ r' → l = l' ∧ r = r'
  | [], [], _, _, _, _, _, h => ⟨rfl, h⟩
  | [], _ :: _, _, _, hl, _, _, _ => by simp at hl
  | _ :: _, [], _, _, hl, _, _, _ => by simp at hl
  | x :: l, y :: l', r, r', hl, h1, h2, h => by
    rw [List.flatMap_cons, List.flatMap_cons, List.append_assoc, List.append_assoc] at h
    obtain ⟨e1, e2⟩ := txt_inj (h1 x List.mem_cons_self) (h2 y List.mem_cons_self) h
    obtain ⟨e3, e4⟩ := set_inj0 (by simpa using hl) (fun z hz => h1 z (List.mem_cons_of_mem _ hz)) (fun z hz => h2 z (List.mem_cons_of_mem _ hz)) e2
    exact ⟨by rw [e1, e3], e4⟩
theorem set_inj {l l' : List (List UInt8)} {r r' : List UInt8} (hl : l.length ≤ 4294967296) (hl' : l'.length ≤ 4294967296) (h1 : ∀ x ∈ l, x.length ≤ 4294967296) (h2 : ∀ x ∈ l', x.length ≤ 4294967296) (h : setP l ++ r = setP l' ++ r') : l = l' ∧ r = r' := by
  unfold setP at h
  rw [List.append_assoc, List.append_assoc] at h
  obtain ⟨e1, e2⟩ := vput_inj hl hl' h
  exact set_inj0 e1 h1 h2 e2
/-- A contact of which fields that are not set are empty. -/
def Cont.neat (c : Cont) : Prop := (c.h0 = false → c.f0 = ⟨#[]⟩) ∧ (c.h1 = false → c.f1 = ⟨#[]⟩)
theorem cont_inj {a b : Cont} {r r' : List UInt8} (ma : a.mod) (mb : b.mod) (na : a.neat) (nb : b.neat) (h : contP a ++ r = contP b ++ r') : a = b ∧ r = r' := by
  obtain ⟨ak, a0, a1, ⟨al0, as0⟩, al1, as1⟩ := ma
  obtain ⟨bk, b0, b1, ⟨bl0, bs0⟩, bl1, bs1⟩ := mb
  unfold contP at h
  simp only [List.append_assoc] at h
  obtain ⟨e1, h⟩ := txt_inj (show a.key.data.toList.length ≤ _ from ak) (show b.key.data.toList.length ≤ _ from bk) h
  obtain ⟨e2, e3, h⟩ := has_inj a0 b0 na.1 nb.1 h
  obtain ⟨e4, e5, h⟩ := has_inj a1 b1 na.2 nb.2 h
  obtain ⟨e6, h⟩ := set_inj al0 bl0 as0 bs0 h
  obtain ⟨e7, h⟩ := set_inj al1 bl1 as1 bs1 h
  refine ⟨?_, h⟩
  obtain ⟨⟨ka⟩, x2, x3, x4, x5, x6, x7⟩ := a
  obtain ⟨⟨kb⟩, y2, y3, y4, y5, y6, y7⟩ := b
  simp only at e1 e2 e3 e4 e5 e6 e7
  rw [e2, e3, e4, e5, e6, e7, Array.toList_inj.1 e1]
theorem contP_ne (c : Cont) : contP c ≠ [] := fun h => by
  have h1 := congrArg List.length h
  have h2 := vputF_pos 9 c.key.data.toList.length
  simp only [contP, txtB, vput, List.length_append, List.length_nil] at h1
  omega
theorem bytes_inj : ∀ {a b : List Cont}, (∀ c ∈ a, c.mod ∧ c.neat) → (∀ c ∈ b, c.mod ∧ c.neat) → bytesC a = bytesC b → a = b
  | [], [], _, _, _ => rfl
  | [], y :: b, _, _, h => by
    exfalso
    rw [bytesC, bytesC, List.flatMap_nil, List.flatMap_cons] at h
    exact contP_ne y (List.append_eq_nil_iff.1 h.symm).1
  | x :: a, [], _, _, h => by
    exfalso
    rw [bytesC, bytesC, List.flatMap_nil, List.flatMap_cons] at h
    exact contP_ne x (List.append_eq_nil_iff.1 h).1
  | x :: a, y :: b, ha, hb, h => by
    rw [bytesC, bytesC, List.flatMap_cons, List.flatMap_cons] at h
    obtain ⟨e1, e2⟩ := cont_inj (ha x List.mem_cons_self).1 (hb y List.mem_cons_self).1 (ha x List.mem_cons_self).2 (hb y List.mem_cons_self).2 h
    rw [e1, bytes_inj (fun c hc => ha c (List.mem_cons_of_mem _ hc)) (fun c hc => hb c (List.mem_cons_of_mem _ hc)) e2]

/-! ### How much -/
def strW (s : List UInt8) : Nat := s.length + 1
def setW (l : List (List UInt8)) : Nat := (l.map strW).sum + 1
def contW (c : Cont) : Nat := (c.key.size + 1) + ((c.f0.size + 1) + ((c.f1.size + 1) + (setW c.s0 + setW c.s1)))
theorem sum_mem {α : Type} {m : α → Nat} : ∀ {l : List α} {x : α}, x ∈ l → m x ≤ (l.map m).sum
  | [], _, h => by cases h
  | y :: l, x, h => by
    rw [List.map_cons, List.sum_cons]
    rcases List.mem_cons.1 h with rfl | h
    · omega
    · have := sum_mem (m := m) h
      omega
theorem sum_len {α : Type} {m : α → Nat} (h1 : ∀ a, 1 ≤ m a) : ∀ l : List α, l.length ≤ (l.map m).sum
  | [] => Nat.le_refl _
  | y :: l => by
    rw [List.map_cons, List.sum_cons, List.length_cons]
    have := sum_len h1 l
    have := h1 y
    omega
theorem sum_le {α : Type} {m m' : α → Nat} (h : ∀ a, m a ≤ m' a) : ∀ l : List α, (l.map m).sum ≤ (l.map m').sum
  | [] => Nat.le_refl _
  | y :: l => by
    rw [List.map_cons, List.sum_cons, List.map_cons, List.sum_cons]
    have := sum_le h l
    have := h y
    omega
theorem sum_take {α : Type} {m : α → Nat} : ∀ (l : List α) (k : Nat), ((l.take k).map m).sum ≤ (l.map m).sum
  | [], k => by simp
  | y :: l, 0 => by simp
  | y :: l, k + 1 => by
    rw [List.take_succ_cons, List.map_cons, List.sum_cons, List.map_cons, List.sum_cons]
    have := sum_take (m := m) l k
    omega
theorem flat_len_le {α : Type} {m : α → Nat} {f : α → List UInt8} {c : Nat} (h : ∀ a, (f a).length ≤ c * m a) : ∀ l : List α, (l.flatMap f).length ≤ c * (l.map m).sum
  | [] => by simp
  | y :: l => by
    rw [List.flatMap_cons, List.length_append, List.map_cons, List.sum_cons, Nat.mul_add]
    have := flat_len_le h l
    have := h y
    omega
theorem txt_len (s : List UInt8) : (txtB s).length ≤ 10 * strW s := by
  have := vputF_le 9 s.length
  unfold txtB strW vput
  rw [List.length_append]
  omega
theorem set_len (l : List (List UInt8)) : (setP l).length ≤ 10 * setW l := by
  have h1 := vputF_le 9 l.length
  have h2 := flat_len_le txt_len l
  unfold setP setW vput
  rw [List.length_append]
  omega
theorem has_len (h : Bool) (f : ByteArray) : (hasP h f).length ≤ 11 * (f.size + 1) := by
  have := txt_len f.data.toList
  have e : strW f.data.toList = f.size + 1 := rfl
  unfold hasP
  split
  · rw [List.length_cons]
    omega
  · show 1 ≤ _
    omega
theorem cont_len (c : Cont) : (contP c).length ≤ 11 * contW c := by
  have h1 := txt_len c.key.data.toList
  have e : strW c.key.data.toList = c.key.size + 1 := rfl
  have h2 := has_len c.h0 c.f0
  have h3 := has_len c.h1 c.f1
  have h4 := set_len c.s0
  have h5 := set_len c.s1
  unfold contP contW
  simp only [List.length_append]
  omega
theorem contW_pos (c : Cont) : 1 ≤ contW c := by unfold contW; omega
theorem set_mem {l : List (List UInt8)} {k : Nat} (h : setW l ≤ k) : l.length ≤ k ∧ ∀ x ∈ l, x.length ≤ k := by
  unfold setW at h
  refine ⟨by have := sum_len (m := strW) (fun _ => by unfold strW; omega) l; omega, fun x hx => ?_⟩
  have := sum_mem (m := strW) hx
  unfold strW at this h
  omega
theorem mod_of {c : Cont} {k : Nat} (hk : k ≤ 4294967296) (h : contW c ≤ k) : c.mod := by
  have h0 := set_mem (l := c.s0) (k := k) (by unfold contW at h; omega)
  have h1 := set_mem (l := c.s1) (k := k) (by unfold contW at h; omega)
  unfold contW at h
  exact ⟨by omega, by omega, by omega, ⟨by omega, fun x hx => by have := h0.2 x hx; omega⟩, by omega, fun x hx => by have := h1.2 x hx; omega⟩
/-- Of contacts of small bulk: what their bytes ask for. -/
theorem bytes_small {l : List Cont} (h : (l.map contW).sum ≤ 100000000) : l.length ≤ 100000000 ∧ (∀ c ∈ l, c.mod) ∧ (bytesC l).length ≤ 140737488355328 := by
  refine ⟨?_, fun c hc => ?_, ?_⟩
  · have := sum_len contW_pos l
    omega
  · have := sum_mem (m := contW) hc
    exact mod_of (k := 100000000) (by omega) (by omega)
  · have := flat_len_le cont_len l
    unfold bytesC
    omega
end Go.Proofs.YtkkpfjifkjbndaaGreat

/-
  Plain Lean: how big what few events come to is.
-/
namespace Go.Proofs.YtkkpfjifkjbndaaGreat
open Go.RowKit

theorem uniq_few (l : List Str) : (uniq l).length ≤ l.length := by
  have := compact_le (l.mergeSort fun x y => decide (x ≤ y))
  rw [List.length_mergeSort] at this
  exact this
theorem sum_const {α : Type} {m : α → Nat} {k : Nat} : ∀ {l : List α}, (∀ x ∈ l, m x ≤ k) → (l.map m).sum ≤ l.length * k
  | [], _ => by simp
  | y :: l, h => by
    rw [List.map_cons, List.sum_cons, List.length_cons, Nat.add_mul]
    have := sum_const (m := m) (k := k) fun x hx => h x (List.mem_cons_of_mem _ hx)
    have := h y List.mem_cons_self
    omega
/-- Of contacts of bulk: what their bytes ask for. -/
theorem bytes_mid {l : List Cont} (h : (l.map contW).sum ≤ 4294967296) : l.length ≤ 4294967296 ∧ (∀ c ∈ l, c.mod) ∧ (bytesC l).length ≤ 140737488355328 := by
  refine ⟨?_, fun c hc => ?_, ?_⟩
  · have := sum_len contW_pos l
    omega
  · have := sum_mem (m := contW) hc
    exact mod_of (k := 4294967296) (by omega) (by omega)
  · have := flat_len_le cont_len l
    unfold bytesC
    omega
theorem vals_few {B : List Ev} {M : Nat} (h : ∀ e ∈ B, e.v.size ≤ M) : setW (valsF B) ≤ B.length * (M + 1) + 1 := by
  have h1 : (valsF B).length ≤ B.length := by
    have := uniq_few (B.map fun e => strL e.v)
    rwa [List.length_map] at this
  have h2 : ∀ x ∈ valsF B, strW x ≤ M + 1 := fun x hx => by
    have hx : x ∈ uniq (B.map fun e => strL e.v) := hx
    rw [(uniq_props _).2] at hx
    obtain ⟨e, he, rfl⟩ := List.mem_map.1 hx
    have := h e he
    show e.v.data.toList.length + 1 ≤ M + 1
    rw [Array.length_toList]
    exact Nat.succ_le_succ this
  have h3 := sum_const (m := strW) h2
  have h4 := Nat.mul_le_mul_right (M + 1) h1
  unfold setW
  omega
theorem field_few {A : List Ev} {M : Nat} (h : ∀ e ∈ A, e.v.size ≤ M) : (fieldF A).size ≤ M := by
  unfold fieldF
  split
  · exact Nat.zero_le _
  · show ((A.map fun e => strL e.v).getD (lastN (A.map stampE)) []).length ≤ M
    rw [List.getD]
    cases hx : (A.map fun e => strL e.v)[lastN (A.map stampE)]? with
    | none => exact Nat.zero_le _
    | some y =>
      obtain ⟨e, he, rfl⟩ := List.mem_map.1 (List.mem_of_getElem? hx)
      have := h e he
      show e.v.data.toList.length ≤ M
      rw [Array.length_toList]
      exact this
theorem cont_few {ws : List Ev} {key : ByteArray} {M n : Nat} (h : ∀ e ∈ ws, e.v.size ≤ M) (hk : key.size ≤ M) (hn : ws.length ≤ n) : contW (contactB key ws) ≤ 3 * (M + 1) + 2 * (n * (M + 1) + 1) := by
  have hs : ∀ m, ∀ e ∈ setsB key m ws, e.v.size ≤ M := fun m e he => h e (List.mem_filter.1 he).1
  have ha : ∀ m, ∀ e ∈ addsB key m ws, e.v.size ≤ M := fun m e he => h e (List.mem_filter.1 he).1
  have hl : ∀ m, (addsB key m ws).length ≤ n := fun m => Nat.le_trans (List.length_filter_le ..) hn
  have f0 := field_few (hs 0)
  have f1 := field_few (hs 1)
  have v0 := vals_few (ha 0)
  have v1 := vals_few (ha 1)
  have m0 := Nat.mul_le_mul_right (M + 1) (hl 0)
  have m1 := Nat.mul_le_mul_right (M + 1) (hl 1)
  unfold contW contactB
  simp only
  omega
theorem of_few {l : List Ev} {M n : Nat} (h : ∀ e ∈ l, e.key.size ≤ M ∧ e.v.size ≤ M) (hn : l.length ≤ n) : ((ofB l).map contW).sum ≤ n * (3 * (M + 1) + 2 * (n * (M + 1) + 1)) := by
  have hl : (ofB l).length ≤ n := by
    unfold ofB
    rw [List.length_map]
    have h1 : (keysB l).length ≤ ((livingB l).map fun e => strL e.key).length := uniq_few _
    have h2 : (livingB l).length ≤ l.length := List.length_filter_le ..
    rw [List.length_map] at h1
    omega
  have hc : ∀ c ∈ ofB l, contW c ≤ 3 * (M + 1) + 2 * (n * (M + 1) + 1) := fun c hc => by
    obtain ⟨k, hk, rfl⟩ := List.mem_map.1 hc
    have hk : k ∈ uniq ((livingB l).map fun e => strL e.key) := hk
    rw [(uniq_props _).2] at hk
    obtain ⟨e, he, rfl⟩ := List.mem_map.1 hk
    refine cont_few (fun e he => (h e (List.mem_filter.1 he).1).2) ?_ (Nat.le_trans (List.length_filter_le ..) hn)
    show e.key.data.toList.length ≤ M
    rw [Array.length_toList]
    exact (h e (List.mem_filter.1 he).1).1
  exact Nat.le_trans (sum_const hc) (Nat.mul_le_mul_right _ hl)
end Go.Proofs.YtkkpfjifkjbndaaGreat
