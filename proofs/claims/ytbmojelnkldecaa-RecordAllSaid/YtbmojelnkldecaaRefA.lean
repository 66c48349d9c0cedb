/-
  What the references of layers 1, 2, 5 and 6 put, seal, and let be.
-/
import Derived.Test.YtbmojelnkldecaaCrc
import Derived.Test.YtbmojelnkldecaaEvW
namespace Go.Proofs.Ytbmojelnkldecaa
open Go.RowKit

theorem vput_start' (n : Nat) (h : n ≤ 18446744073709551615) : ([] : List UInt8) ++ vputF 9 n = vput n ∧ n < 128 ^ (9 + 1) := ⟨rfl, by
  have : 128 ^ (9 + 1) = 1180591620717411303424 := by decide
  omega⟩
set_option maxRecDepth 100000 in
theorem rvput_spec (d n : Nat) (h1 : n ≤ 18446744073709551615) : ASpec Try.prog 59 [.v (.int .u64 (n : Int))] (.own d) [(d, .row 5 1 (vput n).length true (bytesF (vput n)))] := by
  have hst := vput_start' n h1
  refine aspec_of lay_ok 77 Try.func59 rfl rfl rfl ?_
  repeat' ((conv => whnf); first | refine Spl.yes (by first | assumption | omega) ?_ | refine Spl.no (by first | assumption | omega) ?_ | refine Wr.i64 (by omega) (by omega) ?_ | refine Still.mk rfl rfl ?_ | refine InB.mk (inB_mk (by omega) (by omega)) ?_ | refine Req.mk (by omega) ?_ | refine Req.mk ⟨by first | omega | (dsimp only; omega), by first | omega | (dsimp only; omega)⟩ ?_ | refine Spl.mk (fun _ => ?_) (fun _ => ?_) | refine Wr.b64 ?_ | refine Wr.bu64 ?_ | refine Wr.bu32 ?_ | refine Wr.bu8 ?_ | refine Wr.u8 (by omega) (by omega) ?_ | refine Wr.u64 (by omega) (by omega) ?_ | refine Wr.u32 (by omega) (by omega) ?_ | refine Dv.pos (by omega) (by omega) ?_ | refine Rm.pos (by omega) (by omega) ?_ | refine ADraw.quiet follows_ok (by kernel_rfl) rfl ?_ | refine BSpl.decY (by first | assumption | omega) ?_ | refine BSpl.decN (by first | assumption | omega) ?_ | refine BSpl.dec (fun _ => ?_) (fun _ => ?_) | refine BSpl.yes (by assumption) ?_ | refine BSpl.no (by assumption) ?_ | refine BSpl.mk (fun _ => ?_) (fun _ => ?_))
  refine ALoop.mk { x : List UInt8 × Nat × Nat // x.1 ++ vputF x.2.2 x.2.1 = vput n ∧ x.2.1 < 128 ^ (x.2.2 + 1) ∧ x.1.length ≤ 10 ∧ x.2.1 ≤ 18446744073709551615 }
    (fun x => ⟨[(0, .v (.int .u64 (x.1.2.1 : Int))), (3, .own 90)], [(90, .row 5 1 x.1.1.length true (bytesF x.1.1))], [], 91⟩) (fun x => x.1.2.1)
    ⟨([], n, 9), hst.1, hst.2, by simp, h1⟩ _ (LeR.auto _ _ _ rfl ⟨AEq.refl _, AEq.refl _, trivial⟩ ⟨⟨_, rfl, OEq.row rfl (fun i hi => absurd hi (Nat.not_lt_zero i))⟩, trivial⟩ rfl) ?_
  rintro ⟨⟨acc, m, f⟩, i1, i2, i3, i4⟩
  dsimp only at i1 i2 i3 i4 ⊢
  have hl : acc.length + (vputF f m).length ≤ 10 := by
    have := congrArg List.length i1
    have := vputF_le 9 n
    simp only [List.length_append, vput] at *
    omega
  have hp := vputF_pos f m
  repeat' ((conv => whnf); first | refine Spl.yes (by first | assumption | omega) ?_ | refine Spl.no (by first | assumption | omega) ?_ | refine Wr.i64 (by omega) (by omega) ?_ | refine Still.mk rfl rfl ?_ | refine InB.mk (inB_mk (by omega) (by omega)) ?_ | refine Req.mk (by omega) ?_ | refine Req.mk ⟨by first | omega | (dsimp only; omega), by first | omega | (dsimp only; omega)⟩ ?_ | refine Spl.mk (fun _ => ?_) (fun _ => ?_) | refine Wr.b64 ?_ | refine Wr.bu64 ?_ | refine Wr.bu32 ?_ | refine Wr.bu8 ?_ | refine Wr.u8 (by omega) (by omega) ?_ | refine Wr.u64 (by omega) (by omega) ?_ | refine Wr.u32 (by omega) (by omega) ?_ | refine Dv.pos (by omega) (by omega) ?_ | refine Rm.pos (by omega) (by omega) ?_ | refine ADraw.quiet follows_ok (by kernel_rfl) rfl ?_ | refine BSpl.decY (by first | assumption | omega) ?_ | refine BSpl.decN (by first | assumption | omega) ?_ | refine BSpl.dec (fun _ => ?_) (fun _ => ?_) | refine BSpl.yes (by assumption) ?_ | refine BSpl.no (by assumption) ?_ | refine BSpl.mk (fun _ => ?_) (fun _ => ?_))
  · obtain ⟨f', k1, k2⟩ := vput_round i1 i2 (by omega)
    refine ⟨⟨(acc ++ [UInt8.ofNat (m % 128 + 128)], m / 128, f'), k1, k2, by simp; omega, by dsimp only; omega⟩, _, LeR.auto _ _ _ rfl ⟨AEq.int (by dsimp only; omega), AEq.refl _, trivial⟩ ⟨⟨_, rfl, OEq.row (by simp) (els_app1 rfl ?_)⟩, trivial⟩ rfl, by show m / 128 < m; omega⟩
    simp only [chunk, bC, byte_nat (show m % 128 + 128 < 256 by omega)]
    rfl
  · have e := vput_last i1 (by omega)
    refine ARet.ownX d rfl rfl (OEq.row ?_ ?_) (AEq.refl _)
    · rw [← e]; simp
    · rw [← e]
      refine els_app1 rfl ?_
      simp only [chunk, bC, byte_nat (show m < 256 by omega)]
      rfl

set_option maxHeartbeats 2000000 in
set_option maxRecDepth 100000 in
theorem rstep_spec (r : Nat) (hr : r < 4294967296) (c : UInt8) : ASpec Try.prog 92 [.v (.int .u32 (r : Int)), .v (.int .u8 (c.toNat : Int))] (.v (.int .u32 (crcStep r c : Int))) [] := by
  have hc := UInt8.toNat_lt c
  have h0 : r ^^^ c.toNat < 4294967296 := Nat.xor_lt_two_pow (n := 32) (by omega) (by omega)
  refine aspec_of lay_ok 1052787 Try.func92 rfl rfl rfl ?_
  repeat' ((conv => whnf); first | refine Spl.yes (by first | assumption | omega) ?_ | refine Spl.no (by first | assumption | omega) ?_ | refine Wr.i64 (by omega) (by omega) ?_ | refine Still.mk rfl rfl ?_ | refine InB.mk (inB_mk (by omega) (by omega)) ?_ | refine Req.mk (by omega) ?_ | refine Req.mk ⟨by first | omega | (dsimp only; omega), by first | omega | (dsimp only; omega)⟩ ?_ | refine Spl.mk (fun _ => ?_) (fun _ => ?_) | refine Wr.b64 ?_ | refine Wr.bu64 ?_ | refine Wr.bu32 ?_ | refine Wr.bu8 ?_ | refine Wr.u8 (by omega) (by omega) ?_ | refine Wr.u64 (by omega) (by omega) ?_ | refine Wr.u32 (by omega) (by omega) ?_ | refine Dv.pos (by omega) (by omega) ?_ | refine Rm.pos (by omega) (by omega) ?_ | refine ADraw.quiet follows_ok (by kernel_rfl) rfl ?_ | refine BSpl.decY (by first | assumption | omega) ?_ | refine BSpl.decN (by first | assumption | omega) ?_ | refine BSpl.dec (fun _ => ?_) (fun _ => ?_) | refine BSpl.yes (by assumption) ?_ | refine BSpl.no (by assumption) ?_ | refine BSpl.mk (fun _ => ?_) (fun _ => ?_))
  conv => whnf
  refine ALoop.mk { j : Nat // j ≤ 8 } (fun j => ⟨[(0, .v (.int .u32 (stepK (r ^^^ c.toNat) j.1 : Int))), (5, .v (.int .i64 (j.1 : Int)))], [], [], 0⟩) (fun j => 8 - j.1) ⟨0, Nat.zero_le _⟩ _
    (LeR.mk' [] _ _ _ rfl ⟨AEq.int (xor32 hr (by omega)), AEq.int rfl, trivial⟩ trivial rfl) ?_
  rintro ⟨j, hj⟩
  dsimp only
  have hj2 := stepK_lt h0 j
  repeat' ((conv => whnf); first | refine Spl.yes (by first | assumption | omega) ?_ | refine Spl.no (by first | assumption | omega) ?_ | refine Wr.i64 (by omega) (by omega) ?_ | refine Still.mk rfl rfl ?_ | refine InB.mk (inB_mk (by omega) (by omega)) ?_ | refine Req.mk (by omega) ?_ | refine Req.mk ⟨by first | omega | (dsimp only; omega), by first | omega | (dsimp only; omega)⟩ ?_ | refine ARet.hdI ?_ | refine Spl.mk (fun _ => ?_) (fun _ => ?_) | refine Wr.b64 ?_ | refine Wr.bu64 ?_ | refine Wr.bu32 ?_ | refine Wr.bu8 ?_ | refine Wr.u8 (by omega) (by omega) ?_ | refine Wr.u64 (by omega) (by omega) ?_ | refine Wr.u32 (by omega) (by omega) ?_ | refine Dv.pos (by omega) (by omega) ?_ | refine Rm.pos (by omega) (by omega) ?_ | refine ADraw.quiet follows_ok (by kernel_rfl) rfl ?_ | refine BSpl.decY (by first | assumption | omega) ?_ | refine BSpl.decN (by first | assumption | omega) ?_ | refine BSpl.dec (fun _ => ?_) (fun _ => ?_) | refine BSpl.yes (by assumption) ?_ | refine BSpl.no (by assumption) ?_ | refine BSpl.mk (fun _ => ?_) (fun _ => ?_))
  · refine ⟨⟨j + 1, by omega⟩, _, LeR.mk' [] _ _ _ rfl ⟨AEq.int ?_, AEq.int rfl, trivial⟩ trivial rfl, by show 8 - (j + 1) < 8 - j; omega⟩
    show _ = ((stepBit (stepK (r ^^^ c.toNat) j) : Nat) : Int)
    unfold stepBit
    rw [if_pos (by omega), ← xor32 (by omega) (by omega)]
    rfl
  · refine ⟨⟨j + 1, by omega⟩, _, LeR.mk' [] _ _ _ rfl ⟨AEq.int ?_, AEq.int rfl, trivial⟩ trivial rfl, by show 8 - (j + 1) < 8 - j; omega⟩
    show _ = ((stepBit (stepK (r ^^^ c.toNat) j) : Nat) : Int)
    unfold stepBit
    rw [if_neg (by omega)]
    rfl
  · conv => whnf
    have : j = 8 := by omega
    subst this
    exact AEqI.mk (AEq.refl _)

theorem ones_sub {r : Nat} (h : r < 4294967296) : (4294967295 : Int) - (r : Int) = ((4294967295 ^^^ r : Nat) : Int) := by
  have e : (~~~ (BitVec.ofNat 32 r)).toNat = 4294967295 ^^^ r := by
    rw [← BitVec.allOnes_xor]
    simp [BitVec.toNat_xor, Nat.mod_eq_of_lt h]
  rw [BitVec.toNat_not] at e
  simp only [BitVec.toNat_ofNat, Nat.reducePow, Nat.mod_eq_of_lt h] at e
  omega

set_option maxHeartbeats 2000000 in
set_option maxRecDepth 100000 in
theorem rsum_spec {n : Nat} {F : Nat → List AV} (l : List UInt8) (hF : IsB F l) (hn : n = l.length) (hl : l.length ≤ 140737488355328) : ASpec Try.prog 82 [.sl 1 n true F] (.v (.int .u32 (crcSum l : Int))) [] := by
  refine ASpec.args (bvs := [.sl 1 l.length true (bytesF l)]) ?_ (.of (fun X u hu => AEq.isB (sc := true) hF hn X u hu) .nil)
  have hreg (j : Nat) : crcReg (l.take j) < 4294967296 := crcReg_lt _
  have hs (j : Nat) (c : UInt8) := rstep_spec (crcReg (l.take j)) (hreg j) c
  refine aspec_of lay_ok 285 Try.func82 rfl rfl rfl ?_
  repeat' ((conv => whnf); first | refine Spl.yes (by first | assumption | omega) ?_ | refine Spl.no (by first | assumption | omega) ?_ | refine Wr.i64 (by omega) (by omega) ?_ | refine Still.mk rfl rfl ?_ | refine InB.mk (inB_mk (by omega) (by omega)) ?_ | refine Req.mk (by omega) ?_ | refine Req.mk ⟨by first | omega | (dsimp only; omega), by first | omega | (dsimp only; omega)⟩ ?_ | refine Spl.mk (fun _ => ?_) (fun _ => ?_) | refine Wr.b64 ?_ | refine Wr.bu64 ?_ | refine Wr.bu32 ?_ | refine Wr.bu8 ?_ | refine Wr.u8 (by omega) (by omega) ?_ | refine Wr.u64 (by omega) (by omega) ?_ | refine Wr.u32 (by omega) (by omega) ?_ | refine Dv.pos (by omega) (by omega) ?_ | refine Rm.pos (by omega) (by omega) ?_ | refine ADraw.quiet follows_ok (by kernel_rfl) rfl ?_ | refine BSpl.decY (by first | assumption | omega) ?_ | refine BSpl.decN (by first | assumption | omega) ?_ | refine BSpl.dec (fun _ => ?_) (fun _ => ?_) | refine BSpl.yes (by assumption) ?_ | refine BSpl.no (by assumption) ?_ | refine BSpl.mk (fun _ => ?_) (fun _ => ?_))
  conv => whnf
  refine ALoop.mk { j : Nat // j ≤ l.length } (fun j => ⟨[(0, .sl 1 l.length true (bytesF l)), (3, .v (.int .u32 (crcReg (l.take j.1) : Int))), (4, .v (.int .i64 (j.1 : Int)))], [], [], 0⟩) (fun j => l.length - j.1) ⟨0, Nat.zero_le _⟩ _
    (LeR.mk' [] _ _ _ rfl ⟨AEq.refl _, AEq.int rfl, AEq.int rfl, trivial⟩ trivial rfl) ?_
  rintro ⟨j, hj⟩
  dsimp only
  have hjr := hreg j
  repeat' ((conv => whnf); first | refine Spl.yes (by first | assumption | omega) ?_ | refine Spl.no (by first | assumption | omega) ?_ | refine Wr.i64 (by omega) (by omega) ?_ | refine Still.mk rfl rfl ?_ | refine InB.mk (inB_mk (by omega) (by omega)) ?_ | refine Req.mk (by omega) ?_ | refine Req.mk ⟨by first | omega | (dsimp only; omega), by first | omega | (dsimp only; omega)⟩ ?_ | refine ACall.plain _ _ (hs j _) (SubL.cons (.eq _) (SubL.cons (.eq _) .nil)) rfl ?_ | refine ARet.hdI ?_ | refine Spl.mk (fun _ => ?_) (fun _ => ?_) | refine Wr.b64 ?_ | refine Wr.bu64 ?_ | refine Wr.bu32 ?_ | refine Wr.bu8 ?_ | refine Wr.u8 (by omega) (by omega) ?_ | refine Wr.u64 (by omega) (by omega) ?_ | refine Wr.u32 (by omega) (by omega) ?_ | refine Dv.pos (by omega) (by omega) ?_ | refine Rm.pos (by omega) (by omega) ?_ | refine ADraw.quiet follows_ok (by kernel_rfl) rfl ?_ | refine BSpl.decY (by first | assumption | omega) ?_ | refine BSpl.decN (by first | assumption | omega) ?_ | refine BSpl.dec (fun _ => ?_) (fun _ => ?_) | refine BSpl.yes (by assumption) ?_ | refine BSpl.no (by assumption) ?_ | refine BSpl.mk (fun _ => ?_) (fun _ => ?_))
  · refine ⟨⟨j + 1, by omega⟩, _, LeR.mk' [] _ _ _ rfl ⟨AEq.refl _, AEq.int ?_, AEq.int rfl, trivial⟩ trivial rfl, by show l.length - (j + 1) < l.length - j; omega⟩
    show _ = ((crcReg (l.take (j + 1)) : Nat) : Int)
    rw [crcReg_take (by omega)]
    rfl
  · conv => whnf
    refine AEqI.mk (AEq.int ?_)
    rw [ones_sub hjr, List.take_of_length_le (by omega)]
    rfl

theorem byteOf'_mod (s : Nat) (x : Int) (h : x = (s : Int)) : byteOf' (x % 256) = UInt8.ofNat s := by
  subst h
  apply UInt8.toNat_inj.1
  unfold byteOf'
  rw [UInt8.toNat_ofNat', UInt8.toNat_ofNat']
  omega

set_option maxHeartbeats 2000000 in
set_option maxRecDepth 100000 in
theorem rseal_spec (d : Nat) {n : Nat} {F : Nat → List AV} (l : List UInt8) (hF : IsB F l) (hn : n = l.length) (hl : l.length ≤ 1000000000) :
    ASpec Try.prog 61 [.sl 1 n true F] (.own d) [(d, .row 5 1 (sealB l).length true (bytesF (sealB l)))] := by
  refine ASpec.args (bvs := [.sl 1 l.length true (bytesF l)]) ?_ (.of (fun X u hu => AEq.isB (sc := true) hF hn X u hu) .nil)
  have ht := rsum_spec l (IsB.bytes l) rfl (by omega)
  have hlt := crcSum_lt l
  have hsb : sealB l = [] ++ l ++ [UInt8.ofNat (crcSum l)] ++ [UInt8.ofNat (crcSum l / 256)] ++ [UInt8.ofNat (crcSum l / 65536)] ++ [UInt8.ofNat (crcSum l / 16777216)] := by simp [sealB, crcTail]
  rw [hsb]
  generalize crcSum l = s at ht hlt
  have hb0 := byteOf'_mod s (s : Int) rfl
  have hb1 := byteOf'_mod (s / 256) ((s : Int) / 256) (by omega)
  have hb2 := byteOf'_mod (s / 65536) ((s : Int) / 256 / 256) (by omega)
  have hb3 := byteOf'_mod (s / 16777216) ((s : Int) / 256 / 256 / 256) (by omega)
  refine aspec_of lay_ok 4157 Try.func61 rfl rfl rfl ?_
  repeat' ((conv => whnf); first | refine Spl.yes (by first | assumption | omega) ?_ | refine Spl.no (by first | assumption | omega) ?_ | refine Wr.i64 (by omega) (by omega) ?_ | refine Still.mk rfl rfl ?_ | refine InB.mk (inB_mk (by omega) (by omega)) ?_ | refine Req.mk (by omega) ?_ | refine Req.mk ⟨by first | omega | (dsimp only; omega), by first | omega | (dsimp only; omega)⟩ ?_ | refine ACall.plain _ _ (ht) (SubL.cons (.eq _) .nil) rfl ?_ | refine ALoop.unr 5 5 rfl ?_ | refine Spl.mk (fun _ => ?_) (fun _ => ?_) | refine Wr.b64 ?_ | refine Wr.bu64 ?_ | refine Wr.bu32 ?_ | refine Wr.bu8 ?_ | refine Wr.u8 (by omega) (by omega) ?_ | refine Wr.u64 (by omega) (by omega) ?_ | refine Wr.u32 (by omega) (by omega) ?_ | refine Dv.pos (by omega) (by omega) ?_ | refine Rm.pos (by omega) (by omega) ?_ | refine ADraw.quiet follows_ok (by kernel_rfl) rfl ?_ | refine BSpl.decY (by first | assumption | omega) ?_ | refine BSpl.decN (by first | assumption | omega) ?_ | refine BSpl.dec (fun _ => ?_) (fun _ => ?_) | refine BSpl.yes (by assumption) ?_ | refine BSpl.no (by assumption) ?_ | refine BSpl.mk (fun _ => ?_) (fun _ => ?_))
  conv => whnf
  refine ARet.ownX d rfl rfl ?_ (AEq.refl _)
  rw [← hb0, ← hb1, ← hb2, ← hb3]
  refine OEq.isB (IsB.app (IsB.app (IsB.app (IsB.app (IsB.app (IsB.nil _) (IsB.bytes _) rfl) (IsB.one (by omega) (by omega)) ?_) (IsB.one (by omega) (by omega)) ?_) (IsB.one (by omega) (by omega)) ?_) (IsB.one (by omega) (by omega)) ?_) ?_ rfl
  all_goals simp

theorem labelE_11 (n : Int) : labelE n = 0 ∨ labelE n = 11 := by unfold labelE; split <;> simp
theorem keyE_10 (s : ByteArray) : keyE s = 0 ∨ keyE s = 10 := by unfold keyE; split <;> simp
theorem rlabel_spec (n : Int) : ASpec Try.prog 100 [.v (.int .i64 n)] (.v (.int .i64 (labelE n))) [] := by
  refine aspec_of lay_ok 261 Try.func100 rfl rfl rfl ?_
  repeat' ((conv => whnf); first | refine Spl.yes (by first | assumption | omega) ?_ | refine Spl.no (by first | assumption | omega) ?_ | refine Wr.i64 (by omega) (by omega) ?_ | refine Still.mk rfl rfl ?_ | refine InB.mk (inB_mk (by omega) (by omega)) ?_ | refine Req.mk (by omega) ?_ | refine Req.mk ⟨by first | omega | (dsimp only; omega), by first | omega | (dsimp only; omega)⟩ ?_ | refine Spl.mk (fun _ => ?_) (fun _ => ?_) | refine Wr.b64 ?_ | refine Wr.bu64 ?_ | refine Wr.bu32 ?_ | refine Wr.bu8 ?_ | refine Wr.u8 (by omega) (by omega) ?_ | refine Wr.u64 (by omega) (by omega) ?_ | refine Wr.u32 (by omega) (by omega) ?_ | refine Dv.pos (by omega) (by omega) ?_ | refine Rm.pos (by omega) (by omega) ?_ | refine ADraw.quiet follows_ok (by kernel_rfl) rfl ?_ | refine BSpl.decY (by first | assumption | omega) ?_ | refine BSpl.decN (by first | assumption | omega) ?_ | refine BSpl.dec (fun _ => ?_) (fun _ => ?_) | refine BSpl.yes (by assumption) ?_ | refine BSpl.no (by assumption) ?_ | refine BSpl.mk (fun _ => ?_) (fun _ => ?_))
  all_goals (refine ARet.int rfl ?_; unfold labelE; (first | rw [if_pos (by omega)] | rw [if_neg (by omega)]))
theorem rvalue_spec (s : ByteArray) : ASpec Try.prog 101 [.v (.string s)] (.v (.int .i64 (valueE s))) [] := by
  refine aspec_of lay_ok 1029 Try.func101 rfl rfl rfl ?_
  repeat' ((conv => whnf); first | refine Spl.yes (by first | assumption | omega) ?_ | refine Spl.no (by first | assumption | omega) ?_ | refine Wr.i64 (by omega) (by omega) ?_ | refine Still.mk rfl rfl ?_ | refine InB.mk (inB_mk (by omega) (by omega)) ?_ | refine Req.mk (by omega) ?_ | refine Req.mk ⟨by first | omega | (dsimp only; omega), by first | omega | (dsimp only; omega)⟩ ?_ | refine Spl.mk (fun _ => ?_) (fun _ => ?_) | refine Wr.b64 ?_ | refine Wr.bu64 ?_ | refine Wr.bu32 ?_ | refine Wr.bu8 ?_ | refine Wr.u8 (by omega) (by omega) ?_ | refine Wr.u64 (by omega) (by omega) ?_ | refine Wr.u32 (by omega) (by omega) ?_ | refine Dv.pos (by omega) (by omega) ?_ | refine Rm.pos (by omega) (by omega) ?_ | refine ADraw.quiet follows_ok (by kernel_rfl) rfl ?_ | refine BSpl.decY (by first | assumption | omega) ?_ | refine BSpl.decN (by first | assumption | omega) ?_ | refine BSpl.dec (fun _ => ?_) (fun _ => ?_) | refine BSpl.yes (by assumption) ?_ | refine BSpl.no (by assumption) ?_ | refine BSpl.mk (fun _ => ?_) (fun _ => ?_))
  all_goals (refine ARet.int rfl ?_; unfold valueE; (first | rw [if_pos (by omega)] | rw [if_neg (by omega)]))

theorem str_at {s : ByteArray} {j : Nat} (h : j < s.size) : (s.data.toList.getD j 0) = s[j]'h := by
  rw [List.getD, List.getElem?_eq_getElem (by rw [str_len]; exact h)]
  rfl
set_option maxHeartbeats 2000000 in
set_option maxRecDepth 100000 in
theorem rkey_spec (s : ByteArray) : ASpec Try.prog 96 [.v (.string s)] (.v (.int .i64 (keyE s))) [] := by
  refine aspec_of lay_ok 134252557 Try.func96 rfl rfl rfl ?_
  repeat' ((conv => whnf); first | refine Spl.yes (by first | assumption | omega) ?_ | refine Spl.no (by first | assumption | omega) ?_ | refine Wr.i64 (by omega) (by omega) ?_ | refine Still.mk rfl rfl ?_ | refine InB.mk (inB_mk (by omega) (by omega)) ?_ | refine Req.mk (by omega) ?_ | refine Req.mk ⟨by first | omega | (dsimp only; omega), by first | omega | (dsimp only; omega)⟩ ?_ | refine ARet.hdI ?_ | refine Spl.mk (fun _ => ?_) (fun _ => ?_) | refine Wr.b64 ?_ | refine Wr.bu64 ?_ | refine Wr.bu32 ?_ | refine Wr.bu8 ?_ | refine Wr.u8 (by omega) (by omega) ?_ | refine Wr.u64 (by omega) (by omega) ?_ | refine Wr.u32 (by omega) (by omega) ?_ | refine Dv.pos (by omega) (by omega) ?_ | refine Rm.pos (by omega) (by omega) ?_ | refine ADraw.quiet follows_ok (by kernel_rfl) rfl ?_ | refine BSpl.decY (by first | assumption | omega) ?_ | refine BSpl.decN (by first | assumption | omega) ?_ | refine BSpl.dec (fun _ => ?_) (fun _ => ?_) | refine BSpl.yes (by assumption) ?_ | refine BSpl.no (by assumption) ?_ | refine BSpl.mk (fun _ => ?_) (fun _ => ?_))
  all_goals (conv => whnf)
  · exact AEqI.mk (AEq.int (keyE_size (by omega)).symm)
  · exact AEqI.mk (AEq.int (keyE_size (by omega)).symm)
  · refine ALoop.mk { j : Nat // j ≤ s.size ∧ ∀ i (h : i < s.size), i < j → 97 ≤ (s[i]'h).toNat ∧ (s[i]'h).toNat ≤ 122 } (fun j => ⟨[(0, .v (.string s)), (3, .v (.int .i64 (j.1 : Int)))], [], [], 0⟩) (fun j => s.size - j.1) ⟨0, Nat.zero_le _, fun i _ h => absurd h (Nat.not_lt_zero i)⟩ _
      (LeR.mk' [] _ _ _ rfl ⟨AEq.refl _, AEq.int rfl, trivial⟩ trivial rfl) ?_
    rintro ⟨j, hj, hall⟩
    dsimp only
    repeat' ((conv => whnf); first | refine Spl.yes (by first | assumption | omega) ?_ | refine Spl.no (by first | assumption | omega) ?_ | refine Wr.i64 (by omega) (by omega) ?_ | refine Still.mk rfl rfl ?_ | refine InB.mk (inB_mk (by omega) (by omega)) ?_ | refine Req.mk (by omega) ?_ | refine Req.mk ⟨by first | omega | (dsimp only; omega), by first | omega | (dsimp only; omega)⟩ ?_ | refine ARet.hdI ?_ | refine Spl.mk (fun _ => ?_) (fun _ => ?_) | refine Wr.b64 ?_ | refine Wr.bu64 ?_ | refine Wr.bu32 ?_ | refine Wr.bu8 ?_ | refine Wr.u8 (by omega) (by omega) ?_ | refine Wr.u64 (by omega) (by omega) ?_ | refine Wr.u32 (by omega) (by omega) ?_ | refine Dv.pos (by omega) (by omega) ?_ | refine Rm.pos (by omega) (by omega) ?_ | refine ADraw.quiet follows_ok (by kernel_rfl) rfl ?_ | refine BSpl.decY (by first | assumption | omega) ?_ | refine BSpl.decN (by first | assumption | omega) ?_ | refine BSpl.dec (fun _ => ?_) (fun _ => ?_) | refine BSpl.yes (by assumption) ?_ | refine BSpl.no (by assumption) ?_ | refine BSpl.mk (fun _ => ?_) (fun _ => ?_))
    all_goals (conv => whnf)
    all_goals first
      | (have hjs : j < s.size := by omega
         have hsj : (s.data.toList.getD ((j : Int)).toNat 0).toNat = (s[j]'hjs).toNat := congrArg UInt8.toNat (str_at hjs)
         first
           | (refine ⟨⟨j + 1, by omega, fun i h hi => ?_⟩, _, LeR.mk' [] _ _ _ rfl ⟨AEq.refl _, AEq.int rfl, trivial⟩ trivial rfl, by show s.size - (j + 1) < s.size - j; omega⟩
              by_cases e : i = j
              · subst e; omega
              · exact hall i h (by omega))
           | (exact AEqI.mk (AEq.int (keyE_no hjs (by omega)).symm)))
      | exact AEqI.mk (AEq.int (keyE_ok (by omega) (by omega) (fun i h => hall i h (by omega))).symm)

set_option maxRecDepth 100000 in
theorem redit_spec (e : Ed) : ASpec Try.prog 91 [e.av] (.v (.int .i64 (editE e))) [] := by
  refine aspec_of lay_ok 4601168903 Try.func91 rfl rfl rfl ?_
  repeat' ((conv => whnf); first | refine Spl.yes (by first | assumption | omega) ?_ | refine Spl.no (by first | assumption | omega) ?_ | refine Wr.i64 (by omega) (by omega) ?_ | refine Still.mk rfl rfl ?_ | refine InB.mk (inB_mk (by omega) (by omega)) ?_ | refine Req.mk (by omega) ?_ | refine Req.mk ⟨by first | omega | (dsimp only; omega), by first | omega | (dsimp only; omega)⟩ ?_ | refine ACall.plain _ _ (rkey_spec _) (SubL.cons (.eq _) .nil) rfl ?_ | refine ACall.plain _ _ (rlabel_spec _) (SubL.cons (.eq _) .nil) rfl ?_ | refine ACall.plain _ _ (rvalue_spec _) (SubL.cons (.eq _) .nil) rfl ?_ | refine Spl.mk (fun _ => ?_) (fun _ => ?_) | refine Wr.b64 ?_ | refine Wr.bu64 ?_ | refine Wr.bu32 ?_ | refine Wr.bu8 ?_ | refine Wr.u8 (by omega) (by omega) ?_ | refine Wr.u64 (by omega) (by omega) ?_ | refine Wr.u32 (by omega) (by omega) ?_ | refine Dv.pos (by omega) (by omega) ?_ | refine Rm.pos (by omega) (by omega) ?_ | refine ADraw.quiet follows_ok (by kernel_rfl) rfl ?_ | refine BSpl.decY (by first | assumption | omega) ?_ | refine BSpl.decN (by first | assumption | omega) ?_ | refine BSpl.dec (fun _ => ?_) (fun _ => ?_) | refine BSpl.yes (by assumption) ?_ | refine BSpl.no (by assumption) ?_ | refine BSpl.mk (fun _ => ?_) (fun _ => ?_))
  all_goals (refine ARet.int rfl ?_; unfold editE; try have h0 := size_pos ‹_›)
  all_goals grind [size_zero, keyE_10, labelE_11]
theorem rin_spec (n a b : Int) : ASpec Try.prog 90 [.v (.int .i64 n), .v (.int .i64 a), .v (.int .i64 b)] (.v (.bool (decide (a ≤ n ∧ n ≤ b)))) [] := by
  refine aspec_of lay_ok 71 Try.func90 rfl rfl rfl ?_
  repeat' ((conv => whnf); first | refine Spl.yes (by first | assumption | omega) ?_ | refine Spl.no (by first | assumption | omega) ?_ | refine Wr.i64 (by omega) (by omega) ?_ | refine Still.mk rfl rfl ?_ | refine InB.mk (inB_mk (by omega) (by omega)) ?_ | refine Req.mk (by omega) ?_ | refine Req.mk ⟨by first | omega | (dsimp only; omega), by first | omega | (dsimp only; omega)⟩ ?_ | refine Spl.mk (fun _ => ?_) (fun _ => ?_) | refine Wr.b64 ?_ | refine Wr.bu64 ?_ | refine Wr.bu32 ?_ | refine Wr.bu8 ?_ | refine Wr.u8 (by omega) (by omega) ?_ | refine Wr.u64 (by omega) (by omega) ?_ | refine Wr.u32 (by omega) (by omega) ?_ | refine Dv.pos (by omega) (by omega) ?_ | refine Rm.pos (by omega) (by omega) ?_ | refine ADraw.quiet follows_ok (by kernel_rfl) rfl ?_ | refine BSpl.decY (by first | assumption | omega) ?_ | refine BSpl.decN (by first | assumption | omega) ?_ | refine BSpl.dec (fun _ => ?_) (fun _ => ?_) | refine BSpl.yes (by assumption) ?_ | refine BSpl.no (by assumption) ?_ | refine BSpl.mk (fun _ => ?_) (fun _ => ?_))
  all_goals (refine ARet.bool rfl ?_; simp [*])
theorem redt_spec (e : Ev) : ASpec Try.prog 44 [e.av] e.ed.av [] := by
  refine aspec_of lay_ok 7 Try.func44 rfl rfl rfl ?_
  repeat' ((conv => whnf); first | refine Spl.yes (by first | assumption | omega) ?_ | refine Spl.no (by first | assumption | omega) ?_ | refine Wr.i64 (by omega) (by omega) ?_ | refine Still.mk rfl rfl ?_ | refine InB.mk (inB_mk (by omega) (by omega)) ?_ | refine Req.mk (by omega) ?_ | refine Req.mk ⟨by first | omega | (dsimp only; omega), by first | omega | (dsimp only; omega)⟩ ?_ | refine ARet.hdI ?_ | refine Spl.mk (fun _ => ?_) (fun _ => ?_) | refine Wr.b64 ?_ | refine Wr.bu64 ?_ | refine Wr.bu32 ?_ | refine Wr.bu8 ?_ | refine Wr.u8 (by omega) (by omega) ?_ | refine Wr.u64 (by omega) (by omega) ?_ | refine Wr.u32 (by omega) (by omega) ?_ | refine Dv.pos (by omega) (by omega) ?_ | refine Rm.pos (by omega) (by omega) ?_ | refine ADraw.quiet follows_ok (by kernel_rfl) rfl ?_ | refine BSpl.decY (by first | assumption | omega) ?_ | refine BSpl.decN (by first | assumption | omega) ?_ | refine BSpl.dec (fun _ => ?_) (fun _ => ?_) | refine BSpl.yes (by assumption) ?_ | refine BSpl.no (by assumption) ?_ | refine BSpl.mk (fun _ => ?_) (fun _ => ?_))
  conv => whnf
  exact AEqI.mk (AEq.refl _)
end Go.Proofs.Ytbmojelnkldecaa
