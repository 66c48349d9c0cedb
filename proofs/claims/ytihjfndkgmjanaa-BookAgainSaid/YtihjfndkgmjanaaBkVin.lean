/-
  What package varint, and its reference, compute.
-/
import Derived.Test.YtihjfndkgmjanaaAmUse
import Derived.Test.YtihjfndkgmjanaaPlain
namespace Go.Proofs.Ytihjfndkgmjanaa
open Go.RowKit

theorem byte_nat {n : Nat} (h : n < 256) : ((UInt8.ofNat n).toNat : Int) = n := by
  rw [UInt8.toNat_ofNat', Nat.mod_eq_of_lt (by omega)]

set_option maxRecDepth 100000 in
theorem vput_spec (d n : Nat) (h1 : n ≤ 4294967296) : ASpec Try.prog 31 [.v (.int .u64 (n : Int))] (.own d) [(d, .row 5 1 (vput n).length true (bytesF (vput n)))] := by
  have hst := vput_start n h1
  refine aspec_of lay_ok 45 Try.func31 rfl rfl rfl ?_
  repeat' ((conv => whnf); first | refine Spl.yes (by first | assumption | omega) ?_ | refine Spl.no (by first | assumption | omega) ?_ | refine Wr.i64 (by omega) (by omega) ?_ | refine Still.mk rfl rfl ?_ | refine InB.mk (inB_mk (by omega) (by omega)) ?_ | refine Req.mk (by omega) ?_ | refine Req.mk ⟨by first | omega | (dsimp only; omega), by first | omega | (dsimp only; omega)⟩ ?_ | refine Spl.mk (fun _ => ?_) (fun _ => ?_) | refine InA.mk (inB_mk (by omega) (by omega)) ?_ | refine Wr.b64 ?_ | refine Wr.bu64 ?_ | refine Wr.bu32 ?_ | refine Wr.bu8 ?_ | refine Wr.u8 (by omega) (by omega) ?_ | refine Wr.u64 (by omega) (by omega) ?_ | refine Wr.u32 (by omega) (by omega) ?_ | refine Dv.pos (by omega) (by omega) ?_ | refine Rm.pos (by omega) (by omega) ?_ | refine ADraw.quiet follows_ok (by kernel_rfl) rfl ?_ | refine BSpl.decY (by first | assumption | omega) ?_ | refine BSpl.decN (by first | assumption | omega) ?_ | refine BSpl.dec (fun _ => ?_) (fun _ => ?_) | refine BSpl.yes (by assumption) ?_ | refine BSpl.no (by assumption) ?_ | refine BSpl.mk (fun _ => ?_) (fun _ => ?_))
  refine ALoop.nil 3 90 5 1 (bytesF []) rfl (by omega) ?_
  refine ALoop.mk { x : List UInt8 × Nat × Nat // x.1 ++ vputF x.2.2 x.2.1 = vput n ∧ x.2.1 < 128 ^ (x.2.2 + 1) ∧ x.1.length ≤ 10 ∧ x.2.1 ≤ 4294967296 }
    (fun x => ⟨[(0, .v (.int .u64 (x.1.2.1 : Int))), (3, .own 90)], [(90, .row 5 1 x.1.1.length true (bytesF x.1.1))], [], 91⟩) (fun x => x.1.2.1)
    ⟨([], n, 9), hst.1, hst.2, by simp, h1⟩ _ (LeR.auto _ _ _ rfl ⟨AEq.refl _, AEq.refl _, trivial⟩ ⟨⟨_, rfl, OEq.refl _⟩, trivial⟩ rfl) ?_
  rintro ⟨⟨acc, m, f⟩, i1, i2, i3, i4⟩
  dsimp only at i1 i2 i3 i4 ⊢
  have hl : acc.length + (vputF f m).length ≤ 10 := by
    have := congrArg List.length i1
    have := vputF_le 9 n
    simp only [List.length_append, vput] at *
    omega
  have hp := vputF_pos f m
  repeat' ((conv => whnf); first | refine Spl.yes (by first | assumption | omega) ?_ | refine Spl.no (by first | assumption | omega) ?_ | refine Wr.i64 (by omega) (by omega) ?_ | refine Still.mk rfl rfl ?_ | refine InB.mk (inB_mk (by omega) (by omega)) ?_ | refine Req.mk (by omega) ?_ | refine Req.mk ⟨by first | omega | (dsimp only; omega), by first | omega | (dsimp only; omega)⟩ ?_ | refine Spl.mk (fun _ => ?_) (fun _ => ?_) | refine InA.mk (inB_mk (by omega) (by omega)) ?_ | refine Wr.b64 ?_ | refine Wr.bu64 ?_ | refine Wr.bu32 ?_ | refine Wr.bu8 ?_ | refine Wr.u8 (by omega) (by omega) ?_ | refine Wr.u64 (by omega) (by omega) ?_ | refine Wr.u32 (by omega) (by omega) ?_ | refine Dv.pos (by omega) (by omega) ?_ | refine Rm.pos (by omega) (by omega) ?_ | refine ADraw.quiet follows_ok (by kernel_rfl) rfl ?_ | refine BSpl.decY (by first | assumption | omega) ?_ | refine BSpl.decN (by first | assumption | omega) ?_ | refine BSpl.dec (fun _ => ?_) (fun _ => ?_) | refine BSpl.yes (by assumption) ?_ | refine BSpl.no (by assumption) ?_ | refine BSpl.mk (fun _ => ?_) (fun _ => ?_))
  · obtain ⟨f', k1, k2⟩ := vput_round i1 i2 (by omega)
    refine ⟨⟨(acc ++ [UInt8.ofNat (m % 128 + 128)], m / 128, f'), k1, k2, by simp; omega, by dsimp only; omega⟩, _, LeR.auto _ _ _ rfl ⟨AEq.int (by dsimp only; omega), AEq.refl _, trivial⟩ ⟨⟨_, rfl, OEq.row (by simp) (els_app1 rfl ?_)⟩, trivial⟩ rfl, by show m / 128 < m; omega⟩
    simp only [chunk, bC, byte_nat (show m % 128 + 128 < 256 by omega)]
    rfl
  · have e := vput_last i1 (by omega)
    refine ARet.ownX d rfl rfl (OEq.row ?_ ?_) (AEq.refl _)
    · rw [← e]; simp
    · rw [← e]
      refine els_app1 rfl ?_
      simp only [chunk, bC, byte_nat (show m < 256 by omega)]
      rfl
end Go.Proofs.Ytihjfndkgmjanaa
