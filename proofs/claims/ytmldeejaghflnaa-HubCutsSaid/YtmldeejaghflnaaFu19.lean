/-
  Contracts of the walk: RefA, RefB, Ref7.
-/
import Derived.Test.YtmldeejaghflnaaFu8
import Derived.Test.YtmldeejaghflnaaFu9
import Derived.Test.YtmldeejaghflnaaFu10
/-
 What the references of layers 1,2,5 and 6 put,seal,and let be.
-/
namespace Go.Proofs.Ytmldeejaghflnaa
open Go.RowKit
theorem vput_start' (n : Nat) (h : n ≤ 18446744073709551615) : ([] : List UInt8) ++ vputF 9 n = vput n ∧ n < 128 ^ (9 + 1) := ⟨rfl,by
 have : 128 ^ (9 + 1) = 1180591620717411303424 := by decide
 omega⟩
set_option maxRecDepth 100000 in
theorem rvput_spec (d n : Nat) (h1 : n ≤ 18446744073709551615) : ASpec Try.prog 23 [.v (.int .u64 (n : Int))] (.own d) [(d, .row 5 1 (vput n).length true (bytesF (vput n)))] := by
 have hst := vput_start' n h1
 refine aspec_of lay_ok 77 Try.func23 rfl rfl rfl ?_
 repeat' ((conv => whnf); first | refine K1.a ?_ | refine K1.b ?_ | refine K1.c ?_ | refine K1.d ?_ | refine K1.e ?_ | refine K1.f ?_ | refine Spl.mk (fun _ => ?_) (fun _ => ?_) | refine SNil.mk (fun _ => ?_) ?_ | refine K1.g ?_ | refine ASl.frz ?_ | refine Wr.b64 ?_ | refine Wr.bu64 ?_ | refine Wr.bu32 ?_ | refine Wr.bu8 ?_ | refine K1.u8 ?_ | refine K1.u64 ?_ | refine K1.u32 ?_ | refine K1.h ?_ | refine K1.i ?_ | refine K1.q ?_ | refine K1.j ?_ | refine K1.k ?_ | refine BSpl.dec (fun _ => ?_) (fun _ => ?_) | refine K1.l ?_ | refine K1.n ?_ | refine BSpl.mk (fun _ => ?_) (fun _ => ?_))
 refine ALoop.mk { x : List UInt8 × Nat × Nat // x.1 ++ vputF x.2.2 x.2.1 = vput n ∧ x.2.1 < 128 ^ (x.2.2 + 1) ∧ x.1.length ≤ 10 ∧ x.2.1 ≤ 18446744073709551615 }
  (fun x => ⟨[(0, .v (.int .u64 (x.1.2.1 : Int))),(3, .own 90)],[(90, .row 5 1 x.1.1.length true (bytesF x.1.1))],[],91⟩) (fun x => x.1.2.1)
  ⟨([],n,9),hst.1,hst.2,by simp,h1⟩ _ (LeR.auto _ _ _ rfl ⟨AEq.refl _,AEq.refl _,trivial⟩ ⟨⟨_,rfl,OEq.row rfl (fun i hi => absurd hi (Nat.not_lt_zero i))⟩,trivial⟩ rfl) ?_
 rintro ⟨⟨acc,m,f⟩,i1,i2,i3,i4⟩
 dsimp only at i1 i2 i3 i4 ⊢
 have hl : acc.length + (vputF f m).length ≤ 10 := by
  have := congrArg List.length i1
  have := vputF_le 9 n
  simp only [List.length_append,vput] at *
  omega
 have hp := vputF_pos f m
 repeat' ((conv => whnf); first | refine K1.a ?_ | refine K1.b ?_ | refine K1.c ?_ | refine K1.d ?_ | refine K1.e ?_ | refine K1.f ?_ | refine Spl.mk (fun _ => ?_) (fun _ => ?_) | refine SNil.mk (fun _ => ?_) ?_ | refine K1.g ?_ | refine ASl.frz ?_ | refine Wr.b64 ?_ | refine Wr.bu64 ?_ | refine Wr.bu32 ?_ | refine Wr.bu8 ?_ | refine K1.u8 ?_ | refine K1.u64 ?_ | refine K1.u32 ?_ | refine K1.h ?_ | refine K1.i ?_ | refine K1.q ?_ | refine K1.j ?_ | refine K1.k ?_ | refine BSpl.dec (fun _ => ?_) (fun _ => ?_) | refine K1.l ?_ | refine K1.n ?_ | refine BSpl.mk (fun _ => ?_) (fun _ => ?_))
 · obtain ⟨f',k1,k2⟩ := vput_round i1 i2 (by omega)
   refine ⟨⟨(acc ++ [UInt8.ofNat (m % 128 + 128)],m / 128,f'),k1,k2,by simp; omega,by dsimp only; omega⟩,_,LeR.auto _ _ _ rfl ⟨AEq.int (by dsimp only; omega),AEq.refl _,trivial⟩ ⟨⟨_,rfl,OEq.row (by simp) (els_app1 rfl ?_)⟩,trivial⟩ rfl,by show m / 128 < m; omega⟩
   simp only [chunk,bC,byte_nat (show m % 128 + 128 < 256 by omega)]
   rfl
 · have e := vput_last i1 (by omega)
   refine ARet.ownX d rfl rfl (OEq.row ?_ ?_) (AEq.refl _)
   · rw [← e]; simp
   · rw [← e]
     refine els_app1 rfl ?_
     simp only [chunk,bC,byte_nat (show m < 256 by omega)]
     rfl
set_option maxHeartbeats 2000000 in
set_option maxRecDepth 100000 in
theorem rstep_spec (r : Nat) (hr : r < 4294967296) (c : UInt8) : ASpec Try.prog 73 [.v (.int .u32 (r : Int)), .v (.int .u8 (c.toNat : Int))] (.v (.int .u32 (crcStep r c : Int))) [] := by
 have hc := UInt8.toNat_lt c
 have h0 : r ^^^ c.toNat < 4294967296 := Nat.xor_lt_two_pow (n := 32) (by omega) (by omega)
 refine aspec_of lay_ok 1052787 Try.func73 rfl rfl rfl ?_
 repeat' ((conv => whnf); first | refine K1.a ?_ | refine K1.b ?_ | refine K1.c ?_ | refine K1.d ?_ | refine K1.e ?_ | refine K1.f ?_ | refine Spl.mk (fun _ => ?_) (fun _ => ?_) | refine SNil.mk (fun _ => ?_) ?_ | refine K1.g ?_ | refine ASl.frz ?_ | refine Wr.b64 ?_ | refine Wr.bu64 ?_ | refine Wr.bu32 ?_ | refine Wr.bu8 ?_ | refine K1.u8 ?_ | refine K1.u64 ?_ | refine K1.u32 ?_ | refine K1.h ?_ | refine K1.i ?_ | refine K1.q ?_ | refine K1.j ?_ | refine K1.k ?_ | refine BSpl.dec (fun _ => ?_) (fun _ => ?_) | refine K1.l ?_ | refine K1.n ?_ | refine BSpl.mk (fun _ => ?_) (fun _ => ?_))
 conv => whnf
 refine ALoop.mk { j : Nat // j ≤ 8 } (fun j => ⟨[(0, .v (.int .u32 (stepK (r ^^^ c.toNat) j.1 : Int))),(5, .v (.int .i64 (j.1 : Int)))],[],[],0⟩) (fun j => 8 - j.1) ⟨0,Nat.zero_le _⟩ _
  (LeR.mk' [] _ _ _ rfl ⟨AEq.int (xor32 hr (by omega)),AEq.int rfl,trivial⟩ trivial rfl) ?_
 rintro ⟨j,hj⟩
 dsimp only
 have hj2 := stepK_lt h0 j
 repeat' ((conv => whnf); first | refine K1.a ?_ | refine K1.b ?_ | refine K1.c ?_ | refine K1.d ?_ | refine K1.e ?_ | refine K1.f ?_ | refine ARet.hdI ?_ | refine Spl.mk (fun _ => ?_) (fun _ => ?_) | refine SNil.mk (fun _ => ?_) ?_ | refine K1.g ?_ | refine ASl.frz ?_ | refine Wr.b64 ?_ | refine Wr.bu64 ?_ | refine Wr.bu32 ?_ | refine Wr.bu8 ?_ | refine K1.u8 ?_ | refine K1.u64 ?_ | refine K1.u32 ?_ | refine K1.h ?_ | refine K1.i ?_ | refine K1.q ?_ | refine K1.j ?_ | refine K1.k ?_ | refine BSpl.dec (fun _ => ?_) (fun _ => ?_) | refine K1.l ?_ | refine K1.n ?_ | refine BSpl.mk (fun _ => ?_) (fun _ => ?_))
 · refine ⟨⟨j + 1,by omega⟩,_,LeR.mk' [] _ _ _ rfl ⟨AEq.int ?_,AEq.int rfl,trivial⟩ trivial rfl,by show 8 - (j + 1) < 8 - j; omega⟩
   show _ = ((stepBit (stepK (r ^^^ c.toNat) j) : Nat) : Int)
   unfold stepBit
   rw [if_pos (by omega),← xor32 (by omega) (by omega)]
   rfl
 · refine ⟨⟨j + 1,by omega⟩,_,LeR.mk' [] _ _ _ rfl ⟨AEq.int ?_,AEq.int rfl,trivial⟩ trivial rfl,by show 8 - (j + 1) < 8 - j; omega⟩
   show _ = ((stepBit (stepK (r ^^^ c.toNat) j) : Nat) : Int)
   unfold stepBit
   rw [if_neg (by omega)]
   rfl
 · conv => whnf
   have : j = 8 := by omega
   subst this
   exact AEqI.mk (AEq.refl _)
theorem ones_sub {r : Nat} (h : r < 4294967296) : (4294967295 : Int) - (r : Int) = ((4294967295 ^^^ r : Nat) : Int) := by
 have e : (~~~ (BitVec.ofNat 32 r)).toNat = 4294967295 ^^^ r := by
  rw [← BitVec.allOnes_xor]
  simp [BitVec.toNat_xor,Nat.mod_eq_of_lt h]
 rw [BitVec.toNat_not] at e
 simp only [BitVec.toNat_ofNat,Nat.reducePow,Nat.mod_eq_of_lt h] at e
 omega
set_option maxHeartbeats 2000000 in
set_option maxRecDepth 100000 in
theorem rsum_spec {n : Nat} {F : Nat → List AV} (l : List UInt8) (hF : IsB F l) (hn : n = l.length) (hl : l.length ≤ 140737488355328) : ASpec Try.prog 47 [.sl 1 n true F] (.v (.int .u32 (crcSum l : Int))) [] := by
 refine ASpec.args (bvs := [.sl 1 l.length true (bytesF l)]) ?_ (.of (fun X u hu => AEq.isB (sc := true) hF hn X u hu) .nil)
 have hreg (j : Nat) : crcReg (l.take j) < 4294967296 := crcReg_lt _
 have hs (j : Nat) (c : UInt8) := rstep_spec (crcReg (l.take j)) (hreg j) c
 refine aspec_of lay_ok 285 Try.func47 rfl rfl rfl ?_
 repeat' ((conv => whnf); first | refine K1.a ?_ | refine K1.b ?_ | refine K1.c ?_ | refine K1.d ?_ | refine K1.e ?_ | refine K1.f ?_ | refine Spl.mk (fun _ => ?_) (fun _ => ?_) | refine SNil.mk (fun _ => ?_) ?_ | refine K1.g ?_ | refine ASl.frz ?_ | refine Wr.b64 ?_ | refine Wr.bu64 ?_ | refine Wr.bu32 ?_ | refine Wr.bu8 ?_ | refine K1.u8 ?_ | refine K1.u64 ?_ | refine K1.u32 ?_ | refine K1.h ?_ | refine K1.i ?_ | refine K1.q ?_ | refine K1.j ?_ | refine K1.k ?_ | refine BSpl.dec (fun _ => ?_) (fun _ => ?_) | refine K1.l ?_ | refine K1.n ?_ | refine BSpl.mk (fun _ => ?_) (fun _ => ?_))
 conv => whnf
 refine ALoop.mk { j : Nat // j ≤ l.length } (fun j => ⟨[(0, .sl 1 l.length true (bytesF l)),(3, .v (.int .u32 (crcReg (l.take j.1) : Int))),(4, .v (.int .i64 (j.1 : Int)))],[],[],0⟩) (fun j => l.length - j.1) ⟨0,Nat.zero_le _⟩ _
  (LeR.mk' [] _ _ _ rfl ⟨AEq.refl _,AEq.int rfl,AEq.int rfl,trivial⟩ trivial rfl) ?_
 rintro ⟨j,hj⟩
 dsimp only
 have hjr := hreg j
 repeat' ((conv => whnf); first | refine K1.a ?_ | refine K1.b ?_ | refine K1.c ?_ | refine K1.d ?_ | refine K1.e ?_ | refine K1.f ?_ | refine ACall.plain _ _ (hs j _) (SubL.cons (.eq _) (SubL.cons (.eq _) .nil)) rfl ?_ | refine ARet.hdI ?_ | refine Spl.mk (fun _ => ?_) (fun _ => ?_) | refine SNil.mk (fun _ => ?_) ?_ | refine K1.g ?_ | refine ASl.frz ?_ | refine Wr.b64 ?_ | refine Wr.bu64 ?_ | refine Wr.bu32 ?_ | refine Wr.bu8 ?_ | refine K1.u8 ?_ | refine K1.u64 ?_ | refine K1.u32 ?_ | refine K1.h ?_ | refine K1.i ?_ | refine K1.q ?_ | refine K1.j ?_ | refine K1.k ?_ | refine BSpl.dec (fun _ => ?_) (fun _ => ?_) | refine K1.l ?_ | refine K1.n ?_ | refine BSpl.mk (fun _ => ?_) (fun _ => ?_))
 · refine ⟨⟨j + 1,by omega⟩,_,LeR.mk' [] _ _ _ rfl ⟨AEq.refl _,AEq.int ?_,AEq.int rfl,trivial⟩ trivial rfl,by show l.length - (j + 1) < l.length - j; omega⟩
   show _ = ((crcReg (l.take (j + 1)) : Nat) : Int)
   rw [crcReg_take (by omega)]
   rfl
 · conv => whnf
   refine AEqI.mk (AEq.int ?_)
   rw [ones_sub hjr,List.take_of_length_le (by omega)]
   rfl
theorem byteOf'_mod (s : Nat) (x : Int) (h : x = (s : Int)) : byteOf' (x % 256) = UInt8.ofNat s := by
 subst h
 apply UInt8.toNat_inj.1
 unfold byteOf'
 rw [UInt8.toNat_ofNat',UInt8.toNat_ofNat']
 omega
set_option maxHeartbeats 2000000 in
set_option maxRecDepth 100000 in
theorem rseal_spec (d : Nat) {n : Nat} {F : Nat → List AV} (l : List UInt8) (hF : IsB F l) (hn : n = l.length) (hl : l.length ≤ 1000000000) :
  ASpec Try.prog 25 [.sl 1 n true F] (.own d) [(d, .row 5 1 (sealB l).length true (bytesF (sealB l)))] := by
 refine ASpec.args (bvs := [.sl 1 l.length true (bytesF l)]) ?_ (.of (fun X u hu => AEq.isB (sc := true) hF hn X u hu) .nil)
 have ht := rsum_spec l (IsB.bytes l) rfl (by omega)
 have hlt := crcSum_lt l
 have hsb : sealB l = [] ++ l ++ [UInt8.ofNat (crcSum l)] ++ [UInt8.ofNat (crcSum l / 256)] ++ [UInt8.ofNat (crcSum l / 65536)] ++ [UInt8.ofNat (crcSum l / 16777216)] := by simp [sealB,crcTail]
 rw [hsb]
 generalize crcSum l = s at ht hlt
 have hb0 := byteOf'_mod s (s : Int) rfl
 have hb1 := byteOf'_mod (s / 256) ((s : Int) / 256) (by omega)
 have hb2 := byteOf'_mod (s / 65536) ((s : Int) / 256 / 256) (by omega)
 have hb3 := byteOf'_mod (s / 16777216) ((s : Int) / 256 / 256 / 256) (by omega)
 refine aspec_of lay_ok 4157 Try.func25 rfl rfl rfl ?_
 repeat' ((conv => whnf); first | refine K1.a ?_ | refine K1.b ?_ | refine K1.c ?_ | refine K1.d ?_ | refine K1.e ?_ | refine K1.f ?_ | refine ACall.plain _ _ (ht) (SubL.cons (.eq _) .nil) rfl ?_ | refine ALoop.unr 5 5 rfl ?_ | refine Spl.mk (fun _ => ?_) (fun _ => ?_) | refine SNil.mk (fun _ => ?_) ?_ | refine K1.g ?_ | refine ASl.frz ?_ | refine Wr.b64 ?_ | refine Wr.bu64 ?_ | refine Wr.bu32 ?_ | refine Wr.bu8 ?_ | refine K1.u8 ?_ | refine K1.u64 ?_ | refine K1.u32 ?_ | refine K1.h ?_ | refine K1.i ?_ | refine K1.q ?_ | refine K1.j ?_ | refine K1.k ?_ | refine BSpl.dec (fun _ => ?_) (fun _ => ?_) | refine K1.l ?_ | refine K1.n ?_ | refine BSpl.mk (fun _ => ?_) (fun _ => ?_))
 conv => whnf
 refine ARet.ownX d rfl rfl ?_ (AEq.refl _)
 rw [← hb0,← hb1,← hb2,← hb3]
 refine OEq.isB (IsB.app (IsB.app (IsB.app (IsB.app (IsB.app (IsB.nil _) (IsB.bytes _) rfl) (IsB.one (by omega) (by omega)) ?_) (IsB.one (by omega) (by omega)) ?_) (IsB.one (by omega) (by omega)) ?_) (IsB.one (by omega) (by omega)) ?_) ?_ rfl
 all_goals simp
theorem labelE_11 (n : Int) : labelE n = 0 ∨ labelE n = 11 := by unfold labelE; split <;> simp
theorem keyE_10 (s : ByteArray) : keyE s = 0 ∨ keyE s = 10 := by unfold keyE; split <;> simp
theorem rlabel_spec (n : Int) : ASpec Try.prog 88 [.v (.int .i64 n)] (.v (.int .i64 (labelE n))) [] := by
 refine aspec_of lay_ok 261 Try.func88 rfl rfl rfl ?_
 repeat' ((conv => whnf); first | refine K1.a ?_ | refine K1.b ?_ | refine K1.c ?_ | refine K1.d ?_ | refine K1.e ?_ | refine K1.f ?_ | refine Spl.mk (fun _ => ?_) (fun _ => ?_) | refine SNil.mk (fun _ => ?_) ?_ | refine K1.g ?_ | refine ASl.frz ?_ | refine Wr.b64 ?_ | refine Wr.bu64 ?_ | refine Wr.bu32 ?_ | refine Wr.bu8 ?_ | refine K1.u8 ?_ | refine K1.u64 ?_ | refine K1.u32 ?_ | refine K1.h ?_ | refine K1.i ?_ | refine K1.q ?_ | refine K1.j ?_ | refine K1.k ?_ | refine BSpl.dec (fun _ => ?_) (fun _ => ?_) | refine K1.l ?_ | refine K1.n ?_ | refine BSpl.mk (fun _ => ?_) (fun _ => ?_))
 all_goals (refine ARet.int rfl ?_; unfold labelE; (first | rw [if_pos (by omega)] | rw [if_neg (by omega)]))
theorem rvalue_spec (s : ByteArray) : ASpec Try.prog 89 [.v (.string s)] (.v (.int .i64 (valueE s))) [] := by
 refine aspec_of lay_ok 1029 Try.func89 rfl rfl rfl ?_
 repeat' ((conv => whnf); first | refine K1.a ?_ | refine K1.b ?_ | refine K1.c ?_ | refine K1.d ?_ | refine K1.e ?_ | refine K1.f ?_ | refine Spl.mk (fun _ => ?_) (fun _ => ?_) | refine SNil.mk (fun _ => ?_) ?_ | refine K1.g ?_ | refine ASl.frz ?_ | refine Wr.b64 ?_ | refine Wr.bu64 ?_ | refine Wr.bu32 ?_ | refine Wr.bu8 ?_ | refine K1.u8 ?_ | refine K1.u64 ?_ | refine K1.u32 ?_ | refine K1.h ?_ | refine K1.i ?_ | refine K1.q ?_ | refine K1.j ?_ | refine K1.k ?_ | refine BSpl.dec (fun _ => ?_) (fun _ => ?_) | refine K1.l ?_ | refine K1.n ?_ | refine BSpl.mk (fun _ => ?_) (fun _ => ?_))
 all_goals (refine ARet.int rfl ?_; unfold valueE; (first | rw [if_pos (by omega)] | rw [if_neg (by omega)]))
theorem str_at {s : ByteArray} {j : Nat} (h : j < s.size) : (s.data.toList.getD j 0) = s[j]'h := by
 rw [List.getD,List.getElem?_eq_getElem (by rw [str_len]; exact h)]
 rfl
set_option maxHeartbeats 2000000 in
set_option maxRecDepth 100000 in
theorem rkey_spec (s : ByteArray) : ASpec Try.prog 87 [.v (.string s)] (.v (.int .i64 (keyE s))) [] := by
 refine aspec_of lay_ok 134252557 Try.func87 rfl rfl rfl ?_
 repeat' ((conv => whnf); first | refine K1.a ?_ | refine K1.b ?_ | refine K1.c ?_ | refine K1.d ?_ | refine K1.e ?_ | refine K1.f ?_ | refine ARet.hdI ?_ | refine Spl.mk (fun _ => ?_) (fun _ => ?_) | refine SNil.mk (fun _ => ?_) ?_ | refine K1.g ?_ | refine ASl.frz ?_ | refine Wr.b64 ?_ | refine Wr.bu64 ?_ | refine Wr.bu32 ?_ | refine Wr.bu8 ?_ | refine K1.u8 ?_ | refine K1.u64 ?_ | refine K1.u32 ?_ | refine K1.h ?_ | refine K1.i ?_ | refine K1.q ?_ | refine K1.j ?_ | refine K1.k ?_ | refine BSpl.dec (fun _ => ?_) (fun _ => ?_) | refine K1.l ?_ | refine K1.n ?_ | refine BSpl.mk (fun _ => ?_) (fun _ => ?_))
 all_goals (conv => whnf)
 · exact AEqI.mk (AEq.int (keyE_size (by omega)).symm)
 · exact AEqI.mk (AEq.int (keyE_size (by omega)).symm)
 · refine ALoop.mk { j : Nat // j ≤ s.size ∧ ∀ i (h : i < s.size),i < j → 97 ≤ (s[i]'h).toNat ∧ (s[i]'h).toNat ≤ 122 } (fun j => ⟨[(0, .v (.string s)),(3, .v (.int .i64 (j.1 : Int)))],[],[],0⟩) (fun j => s.size - j.1) ⟨0,Nat.zero_le _,fun i _ h => absurd h (Nat.not_lt_zero i)⟩ _
    (LeR.mk' [] _ _ _ rfl ⟨AEq.refl _,AEq.int rfl,trivial⟩ trivial rfl) ?_
   rintro ⟨j,hj,hall⟩
   dsimp only
   repeat' ((conv => whnf); first | refine K1.a ?_ | refine K1.b ?_ | refine K1.c ?_ | refine K1.d ?_ | refine K1.e ?_ | refine K1.f ?_ | refine ARet.hdI ?_ | refine Spl.mk (fun _ => ?_) (fun _ => ?_) | refine SNil.mk (fun _ => ?_) ?_ | refine K1.g ?_ | refine ASl.frz ?_ | refine Wr.b64 ?_ | refine Wr.bu64 ?_ | refine Wr.bu32 ?_ | refine Wr.bu8 ?_ | refine K1.u8 ?_ | refine K1.u64 ?_ | refine K1.u32 ?_ | refine K1.h ?_ | refine K1.i ?_ | refine K1.q ?_ | refine K1.j ?_ | refine K1.k ?_ | refine BSpl.dec (fun _ => ?_) (fun _ => ?_) | refine K1.l ?_ | refine K1.n ?_ | refine BSpl.mk (fun _ => ?_) (fun _ => ?_))
   all_goals (conv => whnf)
   all_goals first
     | (have hjs : j < s.size := by omega
        have hsj : (s.data.toList.getD ((j : Int)).toNat 0).toNat = (s[j]'hjs).toNat := congrArg UInt8.toNat (str_at hjs)
        first
          | (refine ⟨⟨j + 1,by omega,fun i h hi => ?_⟩,_,LeR.mk' [] _ _ _ rfl ⟨AEq.refl _,AEq.int rfl,trivial⟩ trivial rfl,by show s.size - (j + 1) < s.size - j; omega⟩
             by_cases e : i = j
             · subst e; omega
             · exact hall i h (by omega))
          | (exact AEqI.mk (AEq.int (keyE_no hjs (by omega)).symm)))
     | exact AEqI.mk (AEq.int (keyE_ok (by omega) (by omega) (fun i h => hall i h (by omega))).symm)
set_option maxRecDepth 100000 in
theorem redit_spec (e : Ed) : ASpec Try.prog 71 [e.av] (.v (.int .i64 (editE e))) [] := by
 refine aspec_of lay_ok 4601168903 Try.func71 rfl rfl rfl ?_
 repeat' ((conv => whnf); first | refine K1.a ?_ | refine K1.b ?_ | refine K1.c ?_ | refine K1.d ?_ | refine K1.e ?_ | refine K1.f ?_ | refine ACall.plain _ _ (rkey_spec _) (SubL.cons (.eq _) .nil) rfl ?_ | refine ACall.plain _ _ (rlabel_spec _) (SubL.cons (.eq _) .nil) rfl ?_ | refine ACall.plain _ _ (rvalue_spec _) (SubL.cons (.eq _) .nil) rfl ?_ | refine Spl.mk (fun _ => ?_) (fun _ => ?_) | refine SNil.mk (fun _ => ?_) ?_ | refine K1.g ?_ | refine ASl.frz ?_ | refine Wr.b64 ?_ | refine Wr.bu64 ?_ | refine Wr.bu32 ?_ | refine Wr.bu8 ?_ | refine K1.u8 ?_ | refine K1.u64 ?_ | refine K1.u32 ?_ | refine K1.h ?_ | refine K1.i ?_ | refine K1.q ?_ | refine K1.j ?_ | refine K1.k ?_ | refine BSpl.dec (fun _ => ?_) (fun _ => ?_) | refine K1.l ?_ | refine K1.n ?_ | refine BSpl.mk (fun _ => ?_) (fun _ => ?_))
 all_goals (refine ARet.int rfl ?_; unfold editE; try have h0 := size_pos ‹_›)
 all_goals grind [size_zero,keyE_10,labelE_11]
theorem rin_spec (n a b : Int) : ASpec Try.prog 70 [.v (.int .i64 n), .v (.int .i64 a), .v (.int .i64 b)] (.v (.bool (decide (a ≤ n ∧ n ≤ b)))) [] := by
 refine aspec_of lay_ok 71 Try.func70 rfl rfl rfl ?_
 repeat' ((conv => whnf); first | refine K1.a ?_ | refine K1.b ?_ | refine K1.c ?_ | refine K1.d ?_ | refine K1.e ?_ | refine K1.f ?_ | refine Spl.mk (fun _ => ?_) (fun _ => ?_) | refine SNil.mk (fun _ => ?_) ?_ | refine K1.g ?_ | refine ASl.frz ?_ | refine Wr.b64 ?_ | refine Wr.bu64 ?_ | refine Wr.bu32 ?_ | refine Wr.bu8 ?_ | refine K1.u8 ?_ | refine K1.u64 ?_ | refine K1.u32 ?_ | refine K1.h ?_ | refine K1.i ?_ | refine K1.q ?_ | refine K1.j ?_ | refine K1.k ?_ | refine BSpl.dec (fun _ => ?_) (fun _ => ?_) | refine K1.l ?_ | refine K1.n ?_ | refine BSpl.mk (fun _ => ?_) (fun _ => ?_))
 all_goals (refine ARet.bool rfl ?_; simp [*])
theorem redt_spec (e : Ev) : ASpec Try.prog 72 [e.av] e.ed.av [] := by
 refine aspec_of lay_ok 7 Try.func72 rfl rfl rfl ?_
 repeat' ((conv => whnf); first | refine K1.a ?_ | refine K1.b ?_ | refine K1.c ?_ | refine K1.d ?_ | refine K1.e ?_ | refine K1.f ?_ | refine ARet.hdI ?_ | refine Spl.mk (fun _ => ?_) (fun _ => ?_) | refine SNil.mk (fun _ => ?_) ?_ | refine K1.g ?_ | refine ASl.frz ?_ | refine Wr.b64 ?_ | refine Wr.bu64 ?_ | refine Wr.bu32 ?_ | refine Wr.bu8 ?_ | refine K1.u8 ?_ | refine K1.u64 ?_ | refine K1.u32 ?_ | refine K1.h ?_ | refine K1.i ?_ | refine K1.q ?_ | refine K1.j ?_ | refine K1.k ?_ | refine BSpl.dec (fun _ => ?_) (fun _ => ?_) | refine K1.l ?_ | refine K1.n ?_ | refine BSpl.mk (fun _ => ?_) (fun _ => ?_))
 conv => whnf
 exact AEqI.mk (AEq.refl _)
end Go.Proofs.Ytmldeejaghflnaa

/-
 What the references of layers 6 and 18 let be and put.
-/
namespace Go.Proofs.Ytmldeejaghflnaa
open Go.RowKit
set_option maxHeartbeats 2000000 in
set_option maxRecDepth 100000 in
theorem rmay_spec (e : Ev) : ASpec Try.prog 46 [e.av] (.v (.int .i64 (mayE e))) [] := by
 obtain ⟨r,n,⟨c0,c1,c2,c3,c4⟩,h,k,key,l,v⟩ := e
 dsimp only [Ev.av,Ev.cs]
 by_cases hr : 0 ≤ r ∧ r ≤ 4
 · rcases (show r = 0 ∨ r = 1 ∨ r = 2 ∨ r = 3 ∨ r = 4 by omega) with rfl | rfl | rfl | rfl | rfl
   all_goals
    refine aspec_of lay_ok 1104880336911 Try.func46 rfl rfl rfl ?_
    repeat' ((conv => whnf); first | refine K1.a ?_ | refine K1.b ?_ | refine K1.c ?_ | refine K1.d ?_ | refine K1.e ?_ | refine K1.f ?_ | refine ACall.plain _ _ (rin_spec _ _ _) (SubL.cons (.eq _) (SubL.cons (.eq _) (SubL.cons (.eq _) .nil))) rfl ?_ | refine ACall.plain _ _ (redt_spec ⟨_,n,⟨c0,c1,c2,c3,c4⟩,h,k,key,l,v⟩) (SubL.cons (.eq _) .nil) rfl ?_ | refine ACall.plain _ _ (redit_spec ⟨k,key,l,v⟩) (SubL.cons (.eq _) .nil) rfl ?_ | refine ALoop.unr 3 6 rfl ?_ | refine Spl.mk (fun _ => ?_) (fun _ => ?_) | refine SNil.mk (fun _ => ?_) ?_ | refine K1.g ?_ | refine ASl.frz ?_ | refine Wr.b64 ?_ | refine Wr.bu64 ?_ | refine Wr.bu32 ?_ | refine Wr.bu8 ?_ | refine K1.u8 ?_ | refine K1.u64 ?_ | refine K1.u32 ?_ | refine K1.h ?_ | refine K1.i ?_ | refine K1.q ?_ | refine ADraw.sched (id := 1) lay_ok (awp_snd lay_ok _) [(0,none),(1,none),(2,some [1]),(3,none),(4,none),(5,none),(6,none),(7,some [1,6]),(8,none),(9,none),(10,none),(11,none),(12,none),(13,some [1,6,12]),(14,none),(15,none),(16,none),(17,none),(18,none),(19,none),(20,none),(21,none),(22,none),(23,none),(24,none),(25,none),(26,none)] [(2,[1]),(3,[1]),(4,[1]),(5,[1]),(6,[1]),(7,[1,6]),(8,[1,6]),(9,[1,6]),(10,[1,6]),(11,[1,6]),(12,[1,6]),(13,[1,6,12]),(14,[1,6,12]),(15,[1,6,12]),(16,[1,6,12]),(17,[1,6,12]),(18,[1,6,12]),(19,[1,6,12]),(20,[1,6,12]),(21,[1,6,12]),(22,[1,6,12]),(23,[1,6,12]),(24,[1,6,12]),(25,[1,6,12]),(26,[1,6,12])] follows_ok (by kernel_rfl) ?_ | refine K1.j ?_ | refine K1.k ?_ | refine BSpl.dec (fun _ => ?_) (fun _ => ?_) | refine K1.l ?_ | refine K1.n ?_ | refine BSpl.mk (fun _ => ?_) (fun _ => ?_))
    all_goals refine ARet.int rfl ?_
    all_goals first | (simp [mayE,okN,withinB,Clk.get,Ev.ed, *]; done) | (simp [mayE,okN,withinB,Clk.get,Ev.ed, *]; omega)
 · refine aspec_of lay_ok 1104880336911 Try.func46 rfl rfl rfl ?_
   repeat' ((conv => whnf); first | refine K1.a ?_ | refine K1.b ?_ | refine K1.c ?_ | refine K1.d ?_ | refine K1.e ?_ | refine K1.f ?_ | refine ACall.plain _ _ (rin_spec _ _ _) (SubL.cons (.eq _) (SubL.cons (.eq _) (SubL.cons (.eq _) .nil))) rfl ?_ | refine ACall.plain _ _ (redt_spec ⟨r,n,⟨c0,c1,c2,c3,c4⟩,h,k,key,l,v⟩) (SubL.cons (.eq _) .nil) rfl ?_ | refine ACall.plain _ _ (redit_spec ⟨k,key,l,v⟩) (SubL.cons (.eq _) .nil) rfl ?_ | refine ALoop.unr 3 6 rfl ?_ | refine Spl.mk (fun _ => ?_) (fun _ => ?_) | refine SNil.mk (fun _ => ?_) ?_ | refine K1.g ?_ | refine ASl.frz ?_ | refine Wr.b64 ?_ | refine Wr.bu64 ?_ | refine Wr.bu32 ?_ | refine Wr.bu8 ?_ | refine K1.u8 ?_ | refine K1.u64 ?_ | refine K1.u32 ?_ | refine K1.h ?_ | refine K1.i ?_ | refine K1.q ?_ | refine ADraw.sched (id := 1) lay_ok (awp_snd lay_ok _) [(0,none),(1,none),(2,some [1]),(3,none),(4,none),(5,none),(6,none),(7,some [1,6]),(8,none),(9,none),(10,none),(11,none),(12,none),(13,some [1,6,12]),(14,none),(15,none),(16,none),(17,none),(18,none),(19,none),(20,none),(21,none),(22,none),(23,none),(24,none),(25,none),(26,none)] [(2,[1]),(3,[1]),(4,[1]),(5,[1]),(6,[1]),(7,[1,6]),(8,[1,6]),(9,[1,6]),(10,[1,6]),(11,[1,6]),(12,[1,6]),(13,[1,6,12]),(14,[1,6,12]),(15,[1,6,12]),(16,[1,6,12]),(17,[1,6,12]),(18,[1,6,12]),(19,[1,6,12]),(20,[1,6,12]),(21,[1,6,12]),(22,[1,6,12]),(23,[1,6,12]),(24,[1,6,12]),(25,[1,6,12]),(26,[1,6,12])] follows_ok (by kernel_rfl) ?_ | refine K1.j ?_ | refine K1.k ?_ | refine BSpl.dec (fun _ => ?_) (fun _ => ?_) | refine K1.l ?_ | refine K1.n ?_ | refine BSpl.mk (fun _ => ?_) (fun _ => ?_))
   all_goals refine ARet.int rfl ?_
   all_goals (simp [mayE,withinB]; omega)
set_option maxHeartbeats 4000000 in
set_option maxRecDepth 100000 in
theorem rput_yes (d : Nat) (e : Ev) (h : mayE e = 0) : ASpec Try.prog 24 [e.av] (.tup [.own d, .v (.int .i64 0)]) [(d, .row 5 1 (evBytes e).length true (bytesF (evBytes e)))] := by
 have m := mayE_zero h
 have g := editE_zero m.ed
 have hm := rmay_spec e
 rw [h] at hm
 obtain ⟨r,n,⟨c0,c1,c2,c3,c4⟩,hh,k,key,l,v⟩ := e
 obtain ⟨r0,r4,n1,n2,h1,h2,a0,a1,a2,a3,a4,own,ed⟩ := m
 dsimp only [Ev.ed] at r0 r4 n1 n2 h1 h2 a0 a1 a2 a3 a4 g
 obtain ⟨g1,g2,g3,g4,g5,g6,g7⟩ := g
 have g8 : v.size ≤ 12 ∧ 0 ≤ l ∧ l ≤ 1 := by
  cases hl : isLong k with
  | true => have := g6 hl; omega
  | false => have := g7 hl; omega
 have hk : (isLong k = true ∧ 2 < k) ∨ (isLong k = false ∧ k ≤ 2) := by
  unfold isLong
  rcases (show k = 1 ∨ k = 2 ∨ k = 3 ∨ k = 4 ∨ k = 5 by omega) with rfl | rfl | rfl | rfl | rfl <;> decide
 clear own ed g6 g7
 obtain ⟨n,rfl⟩ := Int.eq_ofNat_of_zero_le (show 0 ≤ n by omega)
 obtain ⟨hh,rfl⟩ := Int.eq_ofNat_of_zero_le (show 0 ≤ hh by omega)
 obtain ⟨c0,rfl⟩ := Int.eq_ofNat_of_zero_le a0.1
 obtain ⟨c1,rfl⟩ := Int.eq_ofNat_of_zero_le a1.1
 obtain ⟨c2,rfl⟩ := Int.eq_ofNat_of_zero_le a2.1
 obtain ⟨c3,rfl⟩ := Int.eq_ofNat_of_zero_le a3.1
 obtain ⟨c4,rfl⟩ := Int.eq_ofNat_of_zero_le a4.1
 have q (x : Nat) : (vput x).length ≤ 10 := vputF_le 9 x
 have q0 := q n
 have q1 := q hh
 have q2 := q c0
 have q3 := q c1
 have q4 := q c2
 have q5 := q c3
 have q6 := q c4
 clear q
 dsimp only [Ev.av,Ev.cs] at hm ⊢
 rcases hk with ⟨hl,hk⟩ | ⟨hl,hk⟩
 all_goals
  rcases (show r = 0 ∨ r = 1 ∨ r = 2 ∨ r = 3 ∨ r = 4 by omega) with rfl | rfl | rfl | rfl | rfl
 all_goals
  refine aspec_of lay_ok 576460756665500799 Try.func24 rfl rfl rfl ?_
  repeat' ((conv => whnf); first | refine K1.a ?_ | refine K1.b ?_ | refine K1.c ?_ | refine K1.d ?_ | refine K1.e ?_ | refine K1.f ?_ | refine ACall.plain _ _ (hm) (SubL.cons (.eq _) .nil) rfl ?_ | refine ACall.fresh _ _ _ _ _ _ _ (rvput_spec _ _ (by omega)) (SubL.cons (.eq _) .nil) rfl ?_ | refine ALoop.unr 6 6 rfl ?_ | refine Spl.mk (fun _ => ?_) (fun _ => ?_) | refine SNil.mk (fun _ => ?_) ?_ | refine K1.g ?_ | refine ASl.frz ?_ | refine Wr.b64 ?_ | refine Wr.bu64 ?_ | refine Wr.bu32 ?_ | refine Wr.bu8 ?_ | refine K1.u8 ?_ | refine K1.u64 ?_ | refine K1.u32 ?_ | refine K1.h ?_ | refine K1.i ?_ | refine K1.q ?_ | refine ADraw.sched (id := 12) lay_ok (awp_snd lay_ok _) [(0,none),(1,none),(2,none),(3,none),(4,none),(7,none),(8,none),(5,some [4,2]),(6,some [4,2]),(9,some [4,2,8]),(10,none)] [(3,[2]),(4,[2]),(5,[4,2]),(6,[4,2]),(9,[4,2,8]),(10,[4,2,8])] follows_ok (by kernel_rfl) ?_ | refine ADraw.sched (id := 14) lay_ok (awp_snd lay_ok _) [(0,none),(1,none),(2,none),(3,none),(4,none),(5,none),(6,none),(7,none),(10,none),(11,none),(8,some [7,5,3,2]),(9,some [7,5,3,2]),(12,some [7,5,3,2,11]),(13,none)] [(3,[2]),(6,[5]),(7,[5]),(8,[7,5,3,2]),(9,[7,5,3,2]),(12,[7,5,3,2,11]),(13,[7,5,3,2,11])] follows_ok (by kernel_rfl) ?_ | refine K1.j ?_ | refine K1.k ?_ | refine BSpl.dec (fun _ => ?_) (fun _ => ?_) | refine K1.l ?_ | refine K1.n ?_ | refine BSpl.mk (fun _ => ?_) (fun _ => ?_))
  all_goals (refine ARet.ownX d rfl rfl ?_ (AEq.refl _); apply OEq.isB)
  all_goals (try (repeat' (first | exact IsB.bytes _ | exact IsB.str _ | exact IsB.one (by omega) (by omega) | exact IsB.two (by omega) (by omega) (by omega) (by omega) | apply IsB.app)))
  all_goals first
    | (simp only [List.length_append,List.length_cons,List.length_nil,str_len]; try omega; done)
    | (simp [evBytes,others,words,vputI,byteOf,byteOf', *]; done)
end Go.Proofs.Ytmldeejaghflnaa

/-
 What the reference of layer 7 lets be and puts.
-/
namespace Go.Proofs.Ytmldeejaghflnaa
open Go.RowKit
theorem r07in_spec (n : Int) : ASpec Try.prog 44 [.v (.int .i64 n)] (.v (.bool (okN n))) [] := by
 refine aspec_of lay_ok 5 Try.func44 rfl rfl rfl ?_
 repeat' ((conv => whnf); first | refine K1.a ?_ | refine K1.b ?_ | refine K1.c ?_ | refine K1.d ?_ | refine K1.e ?_ | refine K1.f ?_ | refine ARet.hdI ?_ | refine Spl.mk (fun _ => ?_) (fun _ => ?_) | refine SNil.mk (fun _ => ?_) ?_ | refine K1.g ?_ | refine ASl.frz ?_ | refine Wr.b64 ?_ | refine Wr.bu64 ?_ | refine Wr.bu32 ?_ | refine Wr.bu8 ?_ | refine K1.u8 ?_ | refine K1.u64 ?_ | refine K1.u32 ?_ | refine K1.h ?_ | refine K1.i ?_ | refine K1.q ?_ | refine K1.j ?_ | refine K1.k ?_ | refine BSpl.dec (fun _ => ?_) (fun _ => ?_) | refine K1.l ?_ | refine K1.n ?_ | refine BSpl.mk (fun _ => ?_) (fun _ => ?_))
 all_goals (conv => whnf)
 all_goals (refine AEqI.mk (AEq.of ?_))
 all_goals simp [okN,withinB, *]
theorem r07clock_spec (c0 c1 c2 c3 c4 : Int) : ASpec Try.prog 45 [.agg [.v (.int .i64 c0), .v (.int .i64 c1), .v (.int .i64 c2), .v (.int .i64 c3), .v (.int .i64 c4)]] (.v (.bool (okC ⟨c0,c1,c2,c3,c4⟩))) [] := by
 refine aspec_of lay_ok 4143 Try.func45 rfl rfl rfl ?_
 repeat' ((conv => whnf); first | refine K1.a ?_ | refine K1.b ?_ | refine K1.c ?_ | refine K1.d ?_ | refine K1.e ?_ | refine K1.f ?_ | refine ACall.plain _ _ (r07in_spec _) (SubL.cons (.eq _) .nil) rfl ?_ | refine ALoop.unr 3 6 rfl ?_ | refine ARet.hdI ?_ | refine Spl.mk (fun _ => ?_) (fun _ => ?_) | refine SNil.mk (fun _ => ?_) ?_ | refine K1.g ?_ | refine ASl.frz ?_ | refine Wr.b64 ?_ | refine Wr.bu64 ?_ | refine Wr.bu32 ?_ | refine Wr.bu8 ?_ | refine K1.u8 ?_ | refine K1.u64 ?_ | refine K1.u32 ?_ | refine K1.h ?_ | refine K1.i ?_ | refine K1.q ?_ | refine K1.j ?_ | refine K1.k ?_ | refine BSpl.dec (fun _ => ?_) (fun _ => ?_) | refine K1.l ?_ | refine K1.n ?_ | refine BSpl.mk (fun _ => ?_) (fun _ => ?_))
 all_goals (conv => whnf)
 all_goals (refine AEqI.mk (AEq.of ?_))
 all_goals simp [okC, *]
set_option maxHeartbeats 4000000 in
set_option maxRecDepth 100000 in
theorem r07events_spec (l : List Ev) (hl : l.length ≤ 140737488355328) : ASpec Try.prog 43 [.sl 12 l.length true (evF l)] (.v (.bool (l.all (fun e => decide (mayE e = 0)) && decide (l.length ≤ 20)))) [] := by
 refine aspec_of lay_ok 32909 Try.func43 rfl rfl rfl ?_
 repeat' ((conv => whnf); first | refine K1.a ?_ | refine K1.b ?_ | refine K1.c ?_ | refine K1.d ?_ | refine K1.e ?_ | refine K1.f ?_ | refine ARet.hdI ?_ | refine Spl.mk (fun _ => ?_) (fun _ => ?_) | refine SNil.mk (fun _ => ?_) ?_ | refine K1.g ?_ | refine ASl.frz ?_ | refine Wr.b64 ?_ | refine Wr.bu64 ?_ | refine Wr.bu32 ?_ | refine Wr.bu8 ?_ | refine K1.u8 ?_ | refine K1.u64 ?_ | refine K1.u32 ?_ | refine K1.h ?_ | refine K1.i ?_ | refine K1.q ?_ | refine K1.j ?_ | refine K1.k ?_ | refine BSpl.dec (fun _ => ?_) (fun _ => ?_) | refine K1.l ?_ | refine K1.n ?_ | refine BSpl.mk (fun _ => ?_) (fun _ => ?_))
 conv => whnf
 refine ALoop.mk { j : Nat // j ≤ l.length ∧ ∀ i,i < j → mayE (l.getD i default) = 0 } (fun j => ⟨[(0, .sl 12 l.length true (evF l)),(3, .v (.int .i64 (j.1 : Int)))],[],[],4⟩) (fun j => l.length - j.1) ⟨0,Nat.zero_le _,fun i h => absurd h (Nat.not_lt_zero i)⟩ _
  (LeR.mk' [] _ _ _ rfl ⟨AEq.refl _,AEq.int rfl,trivial⟩ trivial rfl) ?_
 rintro ⟨j,hj,hall⟩
 dsimp only
 repeat' ((conv => whnf); first | refine K1.a ?_ | refine K1.b ?_ | refine K1.c ?_ | refine K1.d ?_ | refine K1.e ?_ | refine K1.f ?_ | refine ACall.plain _ _ (rmay_spec (l.getD (j : Int).toNat default)) (SubL.cons (.eq _) .nil) rfl ?_ | refine ARet.hdI ?_ | refine Spl.mk (fun _ => ?_) (fun _ => ?_) | refine SNil.mk (fun _ => ?_) ?_ | refine K1.g ?_ | refine ASl.frz ?_ | refine Wr.b64 ?_ | refine Wr.bu64 ?_ | refine Wr.bu32 ?_ | refine Wr.bu8 ?_ | refine K1.u8 ?_ | refine K1.u64 ?_ | refine K1.u32 ?_ | refine K1.h ?_ | refine K1.i ?_ | refine K1.q ?_ | refine K1.j ?_ | refine K1.k ?_ | refine BSpl.dec (fun _ => ?_) (fun _ => ?_) | refine K1.l ?_ | refine K1.n ?_ | refine BSpl.mk (fun _ => ?_) (fun _ => ?_))
 all_goals (conv => whnf)
 all_goals first
   | (refine ⟨⟨j + 1,by omega,fun i hi => ?_⟩,_,LeR.mk' [] _ _ _ rfl ⟨AEq.refl _,AEq.int rfl,trivial⟩ trivial rfl,by show l.length - (j + 1) < l.length - j; omega⟩
      rcases Nat.lt_or_ge i j with h | h
      · exact hall i h
      · rw [show i = j by omega]
        exact ‹mayE (l.getD (j : Int).toNat default) = 0›)
   | (refine AEqI.mk (AEq.of ?_)
      have hno := all_no (l := l) (j := j) (by omega) ‹¬ mayE (l.getD (j : Int).toNat default) = 0›
      simp [hno])
   | (refine AEqI.mk (AEq.of ?_)
      have hyes := all_yes (l := l) (fun i hi => hall i (by omega))
      rw [hyes,Bool.true_and]
      first
        | rw [decide_eq_true (show l.length ≤ 20 by omega)]
        | rw [decide_eq_false (show ¬ l.length ≤ 20 by omega)])
theorem all_evOk1 (l : List Ev) (r : Int) : l.all (evOk 1 r) = (l.all (fun e => decide (mayE e = 0)) && l.all (fun e => decide (e.r = r))) := by
 induction l with
 | nil => rfl
 | cons e l ih =>
   simp only [List.all_cons,ih,evOk]
   cases decide (mayE e = 0) <;> cases decide (e.r = r) <;> simp
theorem all_evOk4 (l : List Ev) {k : Int} (hk : k ≠ 1) (r : Int) : l.all (evOk k r) = l.all (fun e => decide (mayE e = 0)) := by
 induction l with
 | nil => rfl
 | cons e l ih => simp only [List.all_cons,ih,evOk,decide_eq_true hk,Bool.true_or,Bool.and_true]
theorem allr_no {l : List Ev} {j : Nat} {r : Int} (hj : j < l.length) (h : ¬ (l.getD j default).r = r) : l.all (fun e => decide (e.r = r)) = false := allF_no (p := fun e => decide (e.r = r)) hj (decide_eq_false h)
theorem allr_yes {l : List Ev} {r : Int} (h : ∀ i,i < l.length → (l.getD i default).r = r) : l.all (fun e => decide (e.r = r)) = true := allF_yes (p := fun e => decide (e.r = r)) fun i hi => decide_eq_true (h i hi)
theorem clkZ_no' {c : Clk} (h : ¬ c = clk0) : clkZ c = false := by
 cases hc : clkZ c with
 | false => rfl
 | true => exact absurd ((clkZ_iff c).1 hc) h
set_option maxHeartbeats 8000000 in
set_option maxRecDepth 100000 in
theorem r07may_spec (x : Rc) (hl : x.ev.length ≤ 140737488355328) : ASpec Try.prog 22 [x.av] (.v (.bool (mayF x))) [] := by
 obtain ⟨k,r,u,⟨c0,c1,c2,c3,c4⟩,ev⟩ := x
 dsimp only at hl
 have hevs := r07events_spec ev hl
 obtain ⟨A,hA⟩ : ∃ A,A = ev.all (fun e => decide (mayE e = 0)) := ⟨_,rfl⟩
 rw [← hA] at hevs
 obtain ⟨B,hB⟩ : ∃ B,B = (A && decide (ev.length ≤ 20)) := ⟨_,rfl⟩
 rw [← hB] at hevs
 have ok0 : okN 0 = true := rfl
 rcases (show k = 1 ∨ k = 2 ∨ (k = 3 ∨ k = 5) ∨ k = 4 ∨ ¬ (1 ≤ k ∧ k ≤ 5) by omega) with rfl | rfl | hk | rfl | hk
 · have hm : mayF ⟨1,r,u,⟨c0,c1,c2,c3,c4⟩,ev⟩ = (decide (0 ≤ r) && decide (r < 5) && decide (u = 0) && clkZ ⟨c0,c1,c2,c3,c4⟩ && B && decide (ev.length ≠ 0) && ev.all (fun e => decide (e.r = r))) := by
    rw [Bool.eq_iff_iff]
    simp only [mayF,all_evOk1,← hA,hB,Bool.and_eq_true,Bool.or_eq_true,decide_eq_true_eq,shK,shU,shC,shE,clkZ_iff]
    constructor
    · intro h; simp at h ⊢; grind
    · intro h
      obtain ⟨⟨⟨⟨⟨⟨h1,h2⟩,h3⟩,h4⟩,h5⟩,h6⟩,h7⟩ := h
      simp only [clk0,Clk.mk.injEq] at h4
      obtain ⟨rfl,rfl,rfl,rfl,rfl⟩ := h4
      simp [h1,h2,h3,h5,h6,h7,okN,okC,clk0,withinB]
   rw [hm]
   clear hm hB hA
   dsimp only [Rc.av,Rc.cs]
   refine aspec_of lay_ok 151124950824965567680543 Try.func22 rfl rfl rfl ?_
   repeat' ((conv => whnf); first | refine K1.a ?_ | refine K1.b ?_ | refine K1.c ?_ | refine K1.d ?_ | refine K1.e ?_ | refine K1.f ?_ | refine ACall.plain _ _ (r07in_spec _) (SubL.cons (.eq _) .nil) rfl ?_ | refine ACall.plain _ _ (hevs) (SubL.cons (.eq _) .nil) rfl ?_ | refine EqA.mk (Clk.vs ⟨c0,c1,c2,c3,c4⟩) (Clk.vs clk0) (Clk.mk c0 c1 c2 c3 c4 = clk0) rfl rfl (clk_eq _ _) ?_ | refine ARet.hdI ?_ | refine Spl.mk (fun _ => ?_) (fun _ => ?_) | refine SNil.mk (fun _ => ?_) ?_ | refine K1.g ?_ | refine ASl.frz ?_ | refine Wr.b64 ?_ | refine Wr.bu64 ?_ | refine Wr.bu32 ?_ | refine Wr.bu8 ?_ | refine K1.u8 ?_ | refine K1.u64 ?_ | refine K1.u32 ?_ | refine K1.h ?_ | refine K1.i ?_ | refine K1.q ?_ | refine K1.j ?_ | refine K1.k ?_ | refine BSpl.dec (fun _ => ?_) (fun _ => ?_) | refine K1.l ?_ | refine K1.n ?_ | refine BSpl.mk (fun _ => ?_) (fun _ => ?_))
   all_goals (conv => whnf)
   all_goals first
     | (refine AEqI.mk (AEq.of ?_); simp; omega)
     | refine ALoop.mk { j : Nat // j ≤ ev.length ∧ ∀ i,i < j → (ev.getD i default).r = r } (fun j => ⟨[(1, .box 0 0),(3, .v (.bool _)),(4, .v (.int .i64 (j.1 : Int)))],
        [(0, .box 40 [.v (.int .i64 1), .v (.int .i64 r), .v (.int .i64 u), .v (.int .i64 c0), .v (.int .i64 c1), .v (.int .i64 c2), .v (.int .i64 c3), .v (.int .i64 c4), .sl 12 ev.length true (evF ev)])],[],4⟩) (fun j => ev.length - j.1) ⟨0,Nat.zero_le _,fun i h => absurd h (Nat.not_lt_zero i)⟩ _
        (LeR.mk' [] _ _ _ rfl ⟨AEq.refl _,AEq.refl _,AEq.int rfl,trivial⟩ ⟨⟨_,rfl,OEq.refl _⟩,trivial⟩ rfl) ?_
   all_goals (rintro ⟨j,hj,hall⟩; dsimp only)
   all_goals repeat' ((conv => whnf); first | refine K1.a ?_ | refine K1.b ?_ | refine K1.c ?_ | refine K1.d ?_ | refine K1.e ?_ | refine K1.f ?_ | refine ACall.plain _ _ (hevs) (SubL.cons (.eq _) .nil) rfl ?_ | refine ARet.hdI ?_ | refine Spl.mk (fun _ => ?_) (fun _ => ?_) | refine SNil.mk (fun _ => ?_) ?_ | refine K1.g ?_ | refine ASl.frz ?_ | refine Wr.b64 ?_ | refine Wr.bu64 ?_ | refine Wr.bu32 ?_ | refine Wr.bu8 ?_ | refine K1.u8 ?_ | refine K1.u64 ?_ | refine K1.u32 ?_ | refine K1.h ?_ | refine K1.i ?_ | refine K1.q ?_ | refine K1.j ?_ | refine K1.k ?_ | refine BSpl.dec (fun _ => ?_) (fun _ => ?_) | refine K1.l ?_ | refine K1.n ?_ | refine BSpl.mk (fun _ => ?_) (fun _ => ?_))
   all_goals (conv => whnf)
   all_goals first
     | (refine ⟨⟨j + 1,by omega,fun i hi => ?_⟩,_,LeR.mk' [] _ _ _ rfl ⟨AEq.refl _,AEq.refl _,AEq.int rfl,trivial⟩ ⟨⟨_,rfl,OEq.refl _⟩,trivial⟩ rfl,by show ev.length - (j + 1) < ev.length - j; omega⟩
        rcases Nat.lt_or_ge i j with h | h
        · exact hall i h
        · rw [show i = j by omega]
          exact ‹(ev.getD (j : Int).toNat default).r = r›)
     | (refine AEqI.mk (AEq.of ?_)
        rw [allr_no (l := ev) (j := j) (r := r) (by omega) ‹¬ (ev.getD (j : Int).toNat default).r = r›,Bool.and_false])
     | (refine AEqI.mk (AEq.of ?_)
        rw [allr_yes (l := ev) (r := r) (fun i hi => hall i (by omega)),Bool.and_true]
        first
          | (rw [clkZ_no' ‹¬ Clk.mk c0 c1 c2 c3 c4 = clk0›]; simp; done)
          | (rw [(clkZ_iff _).2 ‹Clk.mk c0 c1 c2 c3 c4 = clk0›]; simp [-List.length_eq_zero_iff, *] <;> omega)
          | (simp [-List.length_eq_zero_iff, *]; done)
          | (simp [-List.length_eq_zero_iff, *]; omega))
 · have hm : mayF ⟨2,r,u,⟨c0,c1,c2,c3,c4⟩,ev⟩ = (decide (0 ≤ r) && decide (r < 5) && okN u && clkZ ⟨c0,c1,c2,c3,c4⟩ && decide (ev.length = 0)) := by
    rw [Bool.eq_iff_iff]
    simp only [mayF,Bool.and_eq_true,Bool.or_eq_true,decide_eq_true_eq,shK,shU,shC,shE,clkZ_iff]
    constructor
    · intro h; simp at h ⊢; grind
    · intro h
      obtain ⟨⟨⟨⟨h1,h2⟩,h3⟩,h4⟩,h5⟩ := h
      have h5 := List.eq_nil_of_length_eq_zero h5
      subst h5
      simp only [clk0,Clk.mk.injEq] at h4
      obtain ⟨rfl,rfl,rfl,rfl,rfl⟩ := h4
      simp [h1,h2,h3,okC,clk0,ok0]
   rw [hm]
   clear hm hB hA
   dsimp only [Rc.av,Rc.cs]
   refine aspec_of lay_ok 151124950824965567680543 Try.func22 rfl rfl rfl ?_
   repeat' ((conv => whnf); first | refine K1.a ?_ | refine K1.b ?_ | refine K1.c ?_ | refine K1.d ?_ | refine K1.e ?_ | refine K1.f ?_ | refine ACall.plain _ _ (r07in_spec _) (SubL.cons (.eq _) .nil) rfl ?_ | refine EqA.mk (Clk.vs ⟨c0,c1,c2,c3,c4⟩) (Clk.vs clk0) (Clk.mk c0 c1 c2 c3 c4 = clk0) rfl rfl (clk_eq _ _) ?_ | refine ARet.hdI ?_ | refine Spl.mk (fun _ => ?_) (fun _ => ?_) | refine SNil.mk (fun _ => ?_) ?_ | refine K1.g ?_ | refine ASl.frz ?_ | refine Wr.b64 ?_ | refine Wr.bu64 ?_ | refine Wr.bu32 ?_ | refine Wr.bu8 ?_ | refine K1.u8 ?_ | refine K1.u64 ?_ | refine K1.u32 ?_ | refine K1.h ?_ | refine K1.i ?_ | refine K1.q ?_ | refine K1.j ?_ | refine K1.k ?_ | refine BSpl.dec (fun _ => ?_) (fun _ => ?_) | refine K1.l ?_ | refine K1.n ?_ | refine BSpl.mk (fun _ => ?_) (fun _ => ?_))
   all_goals (conv => whnf)
   all_goals (refine AEqI.mk (AEq.of ?_))
   all_goals first
     | (simp [-List.length_eq_zero_iff, *] <;> omega; done)
     | (rw [clkZ_no' ‹¬ Clk.mk c0 c1 c2 c3 c4 = clk0›]; simp; done)
     | (rw [(clkZ_iff _).2 ‹Clk.mk c0 c1 c2 c3 c4 = clk0›]; simp [-List.length_eq_zero_iff, *] <;> omega)
 · have hm : mayF ⟨k,r,u,⟨c0,c1,c2,c3,c4⟩,ev⟩ = (decide (0 ≤ r) && decide (r < 5) && decide (u = 0) && okC ⟨c0,c1,c2,c3,c4⟩ && decide (ev.length = 0)) := by
    rw [Bool.eq_iff_iff]
    simp only [mayF,Bool.and_eq_true,Bool.or_eq_true,decide_eq_true_eq,shK,shU,shC,shE,clkZ_iff]
    constructor
    · intro h; rcases hk with rfl | rfl <;> (simp at h ⊢; grind)
    · intro h
      obtain ⟨⟨⟨⟨h1,h2⟩,h3⟩,h4⟩,h5⟩ := h
      have h5 := List.eq_nil_of_length_eq_zero h5
      subst h5
      rcases hk with rfl | rfl <;> simp [h1,h2,h3,h4,ok0]
   rw [hm]
   clear hm hB hA
   have hclk := r07clock_spec c0 c1 c2 c3 c4
   dsimp only [Rc.av,Rc.cs]
   rcases hk with rfl | rfl
   all_goals
    refine aspec_of lay_ok 151124950824965567680543 Try.func22 rfl rfl rfl ?_
    repeat' ((conv => whnf); first | refine K1.a ?_ | refine K1.b ?_ | refine K1.c ?_ | refine K1.d ?_ | refine K1.e ?_ | refine K1.f ?_ | refine ACall.plain _ _ (r07in_spec _) (SubL.cons (.eq _) .nil) rfl ?_ | refine ACall.plain _ _ (hclk) (SubL.cons (.eq _) .nil) rfl ?_ | refine EqA.mk (Clk.vs ⟨c0,c1,c2,c3,c4⟩) (Clk.vs clk0) (Clk.mk c0 c1 c2 c3 c4 = clk0) rfl rfl (clk_eq _ _) ?_ | refine ARet.hdI ?_ | refine Spl.mk (fun _ => ?_) (fun _ => ?_) | refine SNil.mk (fun _ => ?_) ?_ | refine K1.g ?_ | refine ASl.frz ?_ | refine Wr.b64 ?_ | refine Wr.bu64 ?_ | refine Wr.bu32 ?_ | refine Wr.bu8 ?_ | refine K1.u8 ?_ | refine K1.u64 ?_ | refine K1.u32 ?_ | refine K1.h ?_ | refine K1.i ?_ | refine K1.q ?_ | refine K1.j ?_ | refine K1.k ?_ | refine BSpl.dec (fun _ => ?_) (fun _ => ?_) | refine K1.l ?_ | refine K1.n ?_ | refine BSpl.mk (fun _ => ?_) (fun _ => ?_))
    all_goals (conv => whnf)
    all_goals (refine AEqI.mk (AEq.of ?_))
    all_goals first
      | (simp [-List.length_eq_zero_iff, *] <;> omega; done)
      | (simp only [‹okC _ = _›]; simp [-List.length_eq_zero_iff] <;> omega)
 · have hm : mayF ⟨4,r,u,⟨c0,c1,c2,c3,c4⟩,ev⟩ = (decide (0 ≤ r) && decide (r < 5) && decide (u = 0) && clkZ ⟨c0,c1,c2,c3,c4⟩ && B) := by
    rw [Bool.eq_iff_iff]
    simp only [mayF,all_evOk4 ev (show (4 : Int) ≠ 1 by decide),← hA,hB,Bool.and_eq_true,Bool.or_eq_true,decide_eq_true_eq,shK,shU,shC,shE,clkZ_iff]
    constructor
    · intro h; simp at h ⊢; grind
    · intro h
      obtain ⟨⟨⟨⟨h1,h2⟩,h3⟩,h4⟩,h5⟩ := h
      simp only [clk0,Clk.mk.injEq] at h4
      obtain ⟨rfl,rfl,rfl,rfl,rfl⟩ := h4
      simp [h1,h2,h3,h5,okN,okC,clk0,withinB]
   rw [hm]
   clear hm hB hA
   dsimp only [Rc.av,Rc.cs]
   refine aspec_of lay_ok 151124950824965567680543 Try.func22 rfl rfl rfl ?_
   repeat' ((conv => whnf); first | refine K1.a ?_ | refine K1.b ?_ | refine K1.c ?_ | refine K1.d ?_ | refine K1.e ?_ | refine K1.f ?_ | refine ACall.plain _ _ (r07in_spec _) (SubL.cons (.eq _) .nil) rfl ?_ | refine ACall.plain _ _ (hevs) (SubL.cons (.eq _) .nil) rfl ?_ | refine EqA.mk (Clk.vs ⟨c0,c1,c2,c3,c4⟩) (Clk.vs clk0) (Clk.mk c0 c1 c2 c3 c4 = clk0) rfl rfl (clk_eq _ _) ?_ | refine ARet.hdI ?_ | refine Spl.mk (fun _ => ?_) (fun _ => ?_) | refine SNil.mk (fun _ => ?_) ?_ | refine K1.g ?_ | refine ASl.frz ?_ | refine Wr.b64 ?_ | refine Wr.bu64 ?_ | refine Wr.bu32 ?_ | refine Wr.bu8 ?_ | refine K1.u8 ?_ | refine K1.u64 ?_ | refine K1.u32 ?_ | refine K1.h ?_ | refine K1.i ?_ | refine K1.q ?_ | refine K1.j ?_ | refine K1.k ?_ | refine BSpl.dec (fun _ => ?_) (fun _ => ?_) | refine K1.l ?_ | refine K1.n ?_ | refine BSpl.mk (fun _ => ?_) (fun _ => ?_))
   all_goals (conv => whnf)
   all_goals (refine AEqI.mk (AEq.of ?_))
   all_goals first
     | (simp [-List.length_eq_zero_iff, *] <;> omega; done)
     | (rw [clkZ_no' ‹¬ Clk.mk c0 c1 c2 c3 c4 = clk0›]; simp; done)
     | (rw [(clkZ_iff _).2 ‹Clk.mk c0 c1 c2 c3 c4 = clk0›]; simp [-List.length_eq_zero_iff, *] <;> omega)
 · have hm : mayF ⟨k,r,u,⟨c0,c1,c2,c3,c4⟩,ev⟩ = false := by
    simp only [mayF,shK,decide_eq_false hk,Bool.false_and]
   rw [hm]
   clear hm hB hA
   dsimp only [Rc.av,Rc.cs]
   refine aspec_of lay_ok 151124950824965567680543 Try.func22 rfl rfl rfl ?_
   repeat' ((conv => whnf); first | refine K1.a ?_ | refine K1.b ?_ | refine K1.c ?_ | refine K1.d ?_ | refine K1.e ?_ | refine K1.f ?_ | refine ACall.plain _ _ (r07in_spec _) (SubL.cons (.eq _) .nil) rfl ?_ | refine EqA.mk (Clk.vs ⟨c0,c1,c2,c3,c4⟩) (Clk.vs clk0) (Clk.mk c0 c1 c2 c3 c4 = clk0) rfl rfl (clk_eq _ _) ?_ | refine ARet.hdI ?_ | refine Spl.mk (fun _ => ?_) (fun _ => ?_) | refine SNil.mk (fun _ => ?_) ?_ | refine K1.g ?_ | refine ASl.frz ?_ | refine Wr.b64 ?_ | refine Wr.bu64 ?_ | refine Wr.bu32 ?_ | refine Wr.bu8 ?_ | refine K1.u8 ?_ | refine K1.u64 ?_ | refine K1.u32 ?_ | refine K1.h ?_ | refine K1.i ?_ | refine K1.q ?_ | refine K1.j ?_ | refine K1.k ?_ | refine BSpl.dec (fun _ => ?_) (fun _ => ?_) | refine K1.l ?_ | refine K1.n ?_ | refine BSpl.mk (fun _ => ?_) (fun _ => ?_))
   all_goals (conv => whnf)
   all_goals exact AEqI.mk (AEq.refl _)
set_option maxHeartbeats 8000000 in
set_option maxRecDepth 100000 in
theorem r07Put_e (d : Nat) (x : Rc) (h : mayF x = true) (hk : x.k = 1 ∨ x.k = 4) :
  ASpec Try.prog 13 [x.av] (.tup [.own d, .v (.int .i64 0)]) [(d, .row 5 1 (frBytes x).length true (bytesF (frBytes x)))] := by
 have m := mayF_of h
 have hm := r07may_spec x (by have := m.l; omega)
 rw [h] at hm
 obtain ⟨k,r,u,c,ev⟩ := x
 obtain ⟨mk,mr,mu,mu0,mc0,me0,mc,ml,m1,mev0⟩ := m
 dsimp only at mk mr mu ml mc mu0 mc0 me0 mev0 m1 hk
 have mev := evOk_may mev0
 have hat : ∀ j,j < ev.length → mayE (ev.getD j default) = 0 := fun j hj => may_at mev hj
 have h44 : ∀ j,j < ev.length → (evBytes (ev.getD j default)).length ≤ 44 := fun j hj => evBytes_len (hat j hj)
 have hlen : ∀ j,(evsB (ev.take j)).length ≤ 44 * j := fun j => Nat.le_trans (evsB_len fun e he => may_mem mev e (List.mem_of_mem_take he)) (Nat.mul_le_mul_left _ (by rw [List.length_take]; omega))
 obtain ⟨kk,hkk⟩ : ∃ kk,kk = k := ⟨_,rfl⟩
 have hmore : ∀ j,(([byteOf' kk,byteOf' r] ++ [byteOf' (ev.length : Int)]) ++ evsB (ev.take j)).length = 3 + (evsB (ev.take j)).length := fun j => by simp; omega
 rcases hk with rfl | rfl
 all_goals
  dsimp only [Rc.av,Rc.cs] at hm ⊢
  refine aspec_of lay_ok 612630291106760959 Try.func13 rfl rfl rfl ?_
  repeat' ((conv => whnf); first | refine K1.a ?_ | refine K1.b ?_ | refine K1.c ?_ | refine K1.d ?_ | refine K1.e ?_ | refine K1.f ?_ | refine ACall.plain _ _ (hm) (SubL.cons (.eq _) .nil) rfl ?_ | refine Spl.mk (fun _ => ?_) (fun _ => ?_) | refine SNil.mk (fun _ => ?_) ?_ | refine K1.g ?_ | refine ASl.frz ?_ | refine Wr.b64 ?_ | refine Wr.bu64 ?_ | refine Wr.bu32 ?_ | refine Wr.bu8 ?_ | refine K1.u8 ?_ | refine K1.u64 ?_ | refine K1.u32 ?_ | refine K1.h ?_ | refine K1.i ?_ | refine K1.q ?_ | refine K1.j ?_ | refine K1.k ?_ | refine BSpl.dec (fun _ => ?_) (fun _ => ?_) | refine K1.l ?_ | refine K1.n ?_ | refine BSpl.mk (fun _ => ?_) (fun _ => ?_))
  conv => whnf
  refine ALoop.mk { j : Nat // j ≤ ev.length } (fun j => ⟨[(1, .box 0 0),(4, .own 90),(6, .v (.int .i64 (j.1 : Int)))],
    [(0, .box 40 [.v (.int .i64 kk), .v (.int .i64 r), .v (.int .i64 u), .v (.int .i64 c.c0), .v (.int .i64 c.c1), .v (.int .i64 c.c2), .v (.int .i64 c.c3), .v (.int .i64 c.c4), .sl 12 ev.length true (evF ev)]),(90, .row 5 1 (([byteOf' kk,byteOf' r] ++ [byteOf' (ev.length : Int)]) ++ evsB (ev.take j.1)).length true (bytesF (([byteOf' kk,byteOf' r] ++ [byteOf' (ev.length : Int)]) ++ evsB (ev.take j.1))))],[],91⟩) (fun j => ev.length - j.1) ⟨0,Nat.zero_le _⟩ _
    (LeR.mk' [(3,90)] _ _ _ rfl ⟨AEq.refl _,AEq.refl _,AEq.int rfl,trivial⟩ ⟨⟨_,rfl,by rw [hkk]; exact OEq.refl _⟩,⟨_,rfl,OEq.isB (IsB.app (IsB.two (by omega) (by omega) (by omega) (by omega)) (IsB.one (by omega) (by omega)) rfl) (by simp <;> omega) (by simp [evsB,hkk])⟩,trivial⟩ rfl) ?_
  rintro ⟨j,hj⟩
  dsimp only
  have h44j := h44 (j : Int).toNat
  have hmj := hmore j
  have hlj := hlen j
  have hsl := sealB_len (vput (([byteOf' kk,byteOf' r] ++ [byteOf' (ev.length : Int)]) ++ evsB (ev.take j)).length ++ (([byteOf' kk,byteOf' r] ++ [byteOf' (ev.length : Int)]) ++ evsB (ev.take j)))
  have hvs : (vput (([byteOf' kk,byteOf' r] ++ [byteOf' (ev.length : Int)]) ++ evsB (ev.take j)).length).length ≤ 10 := vputF_le 9 _
  repeat' ((conv => whnf); first | refine K1.a ?_ | refine K1.b ?_ | refine K1.c ?_ | refine K1.d ?_ | refine K1.e ?_ | refine K1.f ?_ | refine ACall.fresh _ _ _ _ _ _ _ (rput_yes _ (ev.getD (j : Int).toNat default) (hat _ (by omega))) (SubL.cons (.eq _) .nil) rfl ?_ | refine ACall.fresh _ _ _ _ _ _ _ (rvput_spec _ (([byteOf' kk,byteOf' r] ++ [byteOf' (ev.length : Int)]) ++ evsB (ev.take j)).length (by omega)) (SubL.cons (.eq _) .nil) rfl ?_ | refine ACall.fresh _ _ _ _ _ _ _ (rseal_spec _ (vput (([byteOf' kk,byteOf' r] ++ [byteOf' (ev.length : Int)]) ++ evsB (ev.take j)).length ++ (([byteOf' kk,byteOf' r] ++ [byteOf' (ev.length : Int)]) ++ evsB (ev.take j))) (IsB.app (IsB.bytes _) (IsB.bytes _) rfl) List.length_append.symm (by rw [List.length_append]; omega)) (SubL.cons (.eq _) .nil) rfl ?_ | refine Spl.mk (fun _ => ?_) (fun _ => ?_) | refine SNil.mk (fun _ => ?_) ?_ | refine K1.g ?_ | refine ASl.frz ?_ | refine Wr.b64 ?_ | refine Wr.bu64 ?_ | refine Wr.bu32 ?_ | refine Wr.bu8 ?_ | refine K1.u8 ?_ | refine K1.u64 ?_ | refine K1.u32 ?_ | refine K1.h ?_ | refine K1.i ?_ | refine K1.q ?_ | refine K1.j ?_ | refine K1.k ?_ | refine BSpl.dec (fun _ => ?_) (fun _ => ?_) | refine K1.l ?_ | refine K1.n ?_ | refine BSpl.mk (fun _ => ?_) (fun _ => ?_))
  · conv => whnf
    refine ⟨⟨j + 1,by omega⟩,_,LeR.mk' [(92,90)] _ _ _ rfl ⟨AEq.refl _,AEq.refl _,AEq.int rfl,trivial⟩ ⟨⟨_,rfl,OEq.refl _⟩,⟨_,rfl,OEq.isB (IsB.app (IsB.bytes _) (IsB.bytes _) rfl) List.length_append.symm ?_⟩,trivial⟩ rfl,by show ev.length - (j + 1) < ev.length - j; omega⟩
    rw [evsB_take (by omega),List.append_assoc]
    rfl
  · conv => whnf
    refine ARet.ownX d rfl rfl ?_ (AEq.refl _)
    refine OEq.isB (IsB.bytes _) rfl ?_
    rw [List.take_of_length_le (by omega)]
    unfold frBytes frBody
    simp [hkk,shE,shU,shC,byteOf,byteOf']
set_option maxHeartbeats 8000000 in
set_option maxRecDepth 100000 in
theorem r07Put_u (d : Nat) (x : Rc) (h : mayF x = true) (hk : x.k = 2) :
  ASpec Try.prog 13 [x.av] (.tup [.own d, .v (.int .i64 0)]) [(d, .row 5 1 (frBytes x).length true (bytesF (frBytes x)))] := by
 have m := mayF_of h
 have hm := r07may_spec x (by have := m.l; omega)
 rw [h] at hm
 obtain ⟨k,r,u,c,ev⟩ := x
 obtain ⟨mk,mr,mu,mu0,mc0,me0,mc,ml,m1,mev0⟩ := m
 dsimp only at mk mr mu ml mc mu0 mc0 me0 mev0 m1 hk
 obtain ⟨kk,hkk⟩ : ∃ kk,kk = k := ⟨_,rfl⟩
 obtain ⟨un,rfl,hun⟩ := okN_of mu
 have hvu : (vput un).length ≤ 10 := vputF_le 9 _
 have hmore : ([byteOf' kk,byteOf' r] ++ vput un).length = 2 + (vput un).length := by simp; omega
 have hsl := sealB_len (vput (2 + (vput un).length) ++ ([byteOf' kk,byteOf' r] ++ vput un))
 have hvs : (vput (2 + (vput un).length)).length ≤ 10 := vputF_le 9 _
 subst hk
 have hP : IsB (appF 2 (chunk 1 [.v (.int .u8 2), .v (.int .u8 r)]) (bytesF (vput un))) ([byteOf' kk,byteOf' r] ++ vput un) := hkk ▸ IsB.app (IsB.two (by omega) (by omega) (by omega) (by omega)) (IsB.bytes _) rfl
 have hn : 2 + (vput un).length = ([byteOf' kk,byteOf' r] ++ vput un).length := by omega
 dsimp only [Rc.av,Rc.cs] at hm ⊢
 refine aspec_of lay_ok 612630291106760959 Try.func13 rfl rfl rfl ?_
 repeat' ((conv => whnf); first | refine K1.a ?_ | refine K1.b ?_ | refine K1.c ?_ | refine K1.d ?_ | refine K1.e ?_ | refine K1.f ?_ | refine ACall.plain _ _ (hm) (SubL.cons (.eq _) .nil) rfl ?_ | refine ACall.fresh _ _ _ _ _ _ _ (rvput_spec _ un (by omega)) (SubL.cons (.eq _) .nil) rfl ?_ | refine ACall.fresh _ _ _ _ _ _ _ (rvput_spec _ (2 + (vput un).length) (by omega)) (SubL.cons (.eq _) .nil) rfl ?_ | refine ACall.fresh _ _ _ _ _ _ _ (rseal_spec _ (vput (2 + (vput un).length) ++ ([byteOf' kk,byteOf' r] ++ vput un)) (IsB.app (IsB.bytes _) hP rfl) (by rw [List.length_append,← hn]) (by rw [List.length_append,← hn]; omega)) (SubL.cons (.eq _) .nil) rfl ?_ | refine Spl.mk (fun _ => ?_) (fun _ => ?_) | refine SNil.mk (fun _ => ?_) ?_ | refine K1.g ?_ | refine ASl.frz ?_ | refine Wr.b64 ?_ | refine Wr.bu64 ?_ | refine Wr.bu32 ?_ | refine Wr.bu8 ?_ | refine K1.u8 ?_ | refine K1.u64 ?_ | refine K1.u32 ?_ | refine K1.h ?_ | refine K1.i ?_ | refine K1.q ?_ | refine K1.j ?_ | refine K1.k ?_ | refine BSpl.dec (fun _ => ?_) (fun _ => ?_) | refine K1.l ?_ | refine K1.n ?_ | refine BSpl.mk (fun _ => ?_) (fun _ => ?_))
 conv => whnf
 refine ARet.ownX d rfl rfl ?_ (AEq.refl _)
 refine OEq.isB (IsB.bytes _) rfl ?_
 rw [hn]
 unfold frBytes frBody
 simp [hkk,shE,shU,shC,byteOf,byteOf',vputI]
set_option maxHeartbeats 8000000 in
set_option maxRecDepth 100000 in
theorem r07Put_c (d : Nat) (x : Rc) (h : mayF x = true) (hk : x.k = 3 ∨ x.k = 5) :
  ASpec Try.prog 13 [x.av] (.tup [.own d, .v (.int .i64 0)]) [(d, .row 5 1 (frBytes x).length true (bytesF (frBytes x)))] := by
 have m := mayF_of h
 have hm := r07may_spec x (by have := m.l; omega)
 rw [h] at hm
 obtain ⟨k,r,u,⟨c0,c1,c2,c3,c4⟩,ev⟩ := x
 obtain ⟨mk,mr,mu,mu0,mc0,me0,⟨m0,m1,m2,m3,m4⟩,ml,mone,mev0⟩ := m
 dsimp only at mk mr mu ml m0 m1 m2 m3 m4 mu0 mc0 me0 mev0 mone hk
 obtain ⟨kk,hkk⟩ : ∃ kk,kk = k := ⟨_,rfl⟩
 obtain ⟨c0,rfl,hc0⟩ := okN_of m0
 obtain ⟨c1,rfl,hc1⟩ := okN_of m1
 obtain ⟨c2,rfl,hc2⟩ := okN_of m2
 obtain ⟨c3,rfl,hc3⟩ := okN_of m3
 obtain ⟨c4,rfl,hc4⟩ := okN_of m4
 have q0 : (vput c0).length ≤ 10 := vputF_le 9 _
 have q1 : (vput c1).length ≤ 10 := vputF_le 9 _
 have q2 : (vput c2).length ≤ 10 := vputF_le 9 _
 have q3 : (vput c3).length ≤ 10 := vputF_le 9 _
 have q4 : (vput c4).length ≤ 10 := vputF_le 9 _
 obtain ⟨n,hn0⟩ : ∃ n,n = 2 + (vput c0).length + (vput c1).length + (vput c2).length + (vput c3).length + (vput c4).length := ⟨_,rfl⟩
 have hn : n = ([byteOf' kk,byteOf' r] ++ vput c0 ++ vput c1 ++ vput c2 ++ vput c3 ++ vput c4).length := by rw [hn0]; simp; omega
 have hvs : (vput (2 + (vput c0).length + (vput c1).length + (vput c2).length + (vput c3).length + (vput c4).length)).length ≤ 10 := vputF_le 9 _
 have hsl := sealB_len (vput (2 + (vput c0).length + (vput c1).length + (vput c2).length + (vput c3).length + (vput c4).length) ++ ([byteOf' kk,byteOf' r] ++ vput c0 ++ vput c1 ++ vput c2 ++ vput c3 ++ vput c4))
 rcases hk with rfl | rfl
 all_goals
  have hP := IsB.app (IsB.app (IsB.app (IsB.app (IsB.app (IsB.two (x := kk) (y := r) (by omega) (by omega) (by omega) (by omega)) (IsB.bytes (vput c0)) rfl) (IsB.bytes (vput c1)) (n := 2 + (vput c0).length) (by simp <;> omega)) (IsB.bytes (vput c2)) (n := 2 + (vput c0).length + (vput c1).length) (by simp <;> omega)) (IsB.bytes (vput c3)) (n := 2 + (vput c0).length + (vput c1).length + (vput c2).length) (by simp <;> omega)) (IsB.bytes (vput c4)) (n := 2 + (vput c0).length + (vput c1).length + (vput c2).length + (vput c3).length) (by simp <;> omega)
  rw [hkk] at hP hn
  dsimp only [Rc.av,Rc.cs] at hm ⊢
  refine aspec_of lay_ok 612630291106760959 Try.func13 rfl rfl rfl ?_
  repeat' ((conv => whnf); first | refine K1.a ?_ | refine K1.b ?_ | refine K1.c ?_ | refine K1.d ?_ | refine K1.e ?_ | refine K1.f ?_ | refine ACall.plain _ _ (hm) (SubL.cons (.eq _) .nil) rfl ?_ | refine ACall.fresh _ _ _ _ _ _ _ (rvput_spec _ c0 (by omega)) (SubL.cons (.eq _) .nil) rfl ?_ | refine ACall.fresh _ _ _ _ _ _ _ (rvput_spec _ c1 (by omega)) (SubL.cons (.eq _) .nil) rfl ?_ | refine ACall.fresh _ _ _ _ _ _ _ (rvput_spec _ c2 (by omega)) (SubL.cons (.eq _) .nil) rfl ?_ | refine ACall.fresh _ _ _ _ _ _ _ (rvput_spec _ c3 (by omega)) (SubL.cons (.eq _) .nil) rfl ?_ | refine ACall.fresh _ _ _ _ _ _ _ (rvput_spec _ c4 (by omega)) (SubL.cons (.eq _) .nil) rfl ?_ | refine ACall.fresh _ _ _ _ _ _ _ (rvput_spec _ (2 + (vput c0).length + (vput c1).length + (vput c2).length + (vput c3).length + (vput c4).length) (by omega)) (SubL.cons (.eq _) .nil) rfl ?_ | refine ACall.fresh _ _ _ _ _ _ _ (rseal_spec _ (vput (2 + (vput c0).length + (vput c1).length + (vput c2).length + (vput c3).length + (vput c4).length) ++ ([byteOf' _,byteOf' r] ++ vput c0 ++ vput c1 ++ vput c2 ++ vput c3 ++ vput c4)) (IsB.app (IsB.bytes _) hP rfl) (by rw [List.length_append,← hn,hn0]) (by rw [List.length_append,← hn,hn0]; omega)) (SubL.cons (.eq _) .nil) rfl ?_ | refine ALoop.unr 5 6 rfl ?_ | refine Spl.mk (fun _ => ?_) (fun _ => ?_) | refine SNil.mk (fun _ => ?_) ?_ | refine K1.g ?_ | refine ASl.frz ?_ | refine Wr.b64 ?_ | refine Wr.bu64 ?_ | refine Wr.bu32 ?_ | refine Wr.bu8 ?_ | refine K1.u8 ?_ | refine K1.u64 ?_ | refine K1.u32 ?_ | refine K1.h ?_ | refine K1.i ?_ | refine K1.q ?_ | refine K1.j ?_ | refine K1.k ?_ | refine BSpl.dec (fun _ => ?_) (fun _ => ?_) | refine K1.l ?_ | refine K1.n ?_ | refine BSpl.mk (fun _ => ?_) (fun _ => ?_))
  conv => whnf
  refine ARet.ownX d rfl rfl ?_ (AEq.refl _)
  refine OEq.isB (IsB.bytes _) rfl ?_
  rw [← hn0,hn]
  unfold frBytes frBody
  simp [shE,shU,shC,byteOf,byteOf',vputI,clkB]
theorem r07Put_yes (d : Nat) (x : Rc) (h : mayF x = true) :
  ASpec Try.prog 13 [x.av] (.tup [.own d, .v (.int .i64 0)]) [(d, .row 5 1 (frBytes x).length true (bytesF (frBytes x)))] := by
 have m := (mayF_of h).k
 rcases (show x.k = 1 ∨ x.k = 2 ∨ x.k = 3 ∨ x.k = 4 ∨ x.k = 5 by omega) with hk | hk | hk | hk | hk
 · exact r07Put_e d x h (.inl hk)
 · exact r07Put_u d x h hk
 · exact r07Put_c d x h (.inl hk)
 · exact r07Put_e d x h (.inr hk)
 · exact r07Put_c d x h (.inr hk)
end Go.Proofs.Ytmldeejaghflnaa
