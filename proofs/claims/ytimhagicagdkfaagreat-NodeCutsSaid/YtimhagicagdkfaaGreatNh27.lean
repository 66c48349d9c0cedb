/-
  Contracts of the walk:RefA,RefB,Ref7,NeR.
-/
import Derived.Test.YtimhagicagdkfaaGreatNh12
import Derived.Test.YtimhagicagdkfaaGreatNh13
import Derived.Test.YtimhagicagdkfaaGreatNh26
set_option maxHeartbeats 16000000
set_option maxRecDepth 100000
set_option linter.unusedVariables false
set_option linter.unusedSimpArgs false
namespace Go.Proofs.YtimhagicagdkfaaGreat
section
open Go.RowKit
theorem Qh (n:Nat) (h:n≤18446744073709551615):([]:List UInt8)++gJ 9 n=ak n∧n<128^(9+1):=⟨rfl,by
 have:128^(9+1)=1180591620717411303424:=by decide
 omega⟩
theorem dR (d n:Nat) (h1:n≤18446744073709551615):aH Tryz.prog 35 [.v (.int .u64 (n:Int))] (.own d) [(d,.row 5 1 (ak n).length true (aU (ak n)))]:=by
 have hst:=Qh n h1
 refine K1.E 0x4d Tryz.func35 ?_
 repeat' ((conv=>whnf);first|refine K1.w ?_|refine K1.u ?_|refine K1.z ?_|refine K1.y (fun _=>?_) (fun _=>?_)|fail)
 refine aN.mk {x:List UInt8×Nat×Nat//x.1++gJ x.2.2 x.2.1=ak n∧x.2.1<128^(x.2.2+1)∧x.1.length≤10∧x.2.1≤18446744073709551615}
  (fun x=>⟨[(0,.v (.int .u64 (x.1.2.1:Int))),(3,.own 90)],[(90,.row 5 1 x.1.1.length true (aU x.1.1))],[],91⟩) (fun x=>x.1.2.1)
  ⟨([],n,9),hst.1,hst.2,by simp,h1⟩ _ (dL.auto _ _ _ rfl ⟨aj,aj,trivial⟩ ⟨⟨_,rfl,bW.row rfl (fun i hi=>absurd hi (Nat.not_lt_zero i))⟩,trivial⟩ rfl) ?_
 rintro⟨⟨acc,m,f⟩,i1,i2,i3,i4⟩
 dsimp only at i1 i2 i3 i4⊢
 have hl:acc.length+(gJ f m).length≤10:=by
  have:=congrArg List.length i1
  have:=bD 9 n
  simp only[List.length_append,ak]at*
  omega
 have hp:=yg f m
 repeat' ((conv=>whnf);first|refine K1.w ?_|refine K1.u ?_|refine K1.z ?_|refine K1.y (fun _=>?_) (fun _=>?_)|fail)
 · obtain⟨f',k1,k2⟩:=Gw i1 i2 (by omega)
   refine⟨⟨(acc++[UInt8.ofNat (m%128+128)],m/128,f'),k1,k2,by simp;omega,by dsimp only;omega⟩,_,dL.auto _ _ _ rfl ⟨aS.int (by dsimp only;omega),aj,trivial⟩ ⟨⟨_,rfl,bW.row (by simp) (bJ rfl ?_)⟩,trivial⟩ rfl,by show m/128<m;omega⟩
   simp only[chunk,bC,BD (show m%128+128<256 by omega)]
   rfl
 · have e:=JG i1 (by omega)
   refine aJ.oz d rfl rfl (bW.row ?_ ?_) (aj)
   · rw[←e];simp
   · rw[←e]
     refine bJ rfl ?_
     simp only[chunk,bC,BD (show m<256 by omega)]
     rfl
theorem SS (r:Nat) (hr:r<4294967296) (c:UInt8):aH Tryz.prog 105 [.v (.int .u32 (r:Int)),.v (.int .u8 (c.toNat:Int))] (.v (.int .u32 (yx r c:Int))) []:=by
 have hc:=UInt8.toNat_lt c
 have h0:r^^^c.toNat<4294967296:=Nat.xor_lt_two_pow (n:=32) (by omega) (by omega)
 refine K1.E 0x101073 Tryz.func105 ?_
 repeat' ((conv=>whnf);first|refine K1.w ?_|refine K1.u ?_|refine K1.z ?_|refine K1.y (fun _=>?_) (fun _=>?_)|fail)
 conv=>whnf
 refine aN.mk {j:Nat//j≤8} (fun j=>⟨[(0,.v (.int .u32 (Bv (r^^^c.toNat) j.1:Int))),(5,.v (.int .i64 (j.1:Int)))],[],[],0⟩) (fun j=>8-j.1) ⟨0,Nat.zero_le _⟩ _
  (dL.mk' [] _ _ _ rfl ⟨aS.int (OZ hr (by omega)),aS.int rfl,trivial⟩ trivial rfl) ?_
 rintro⟨j,hj⟩
 dsimp only
 have hj2:=Bz h0 j
 repeat' ((conv=>whnf);first|refine K1.w ?_|refine K1.u ?_|refine aJ.dO ?_|refine K1.z ?_|refine K1.y (fun _=>?_) (fun _=>?_)|fail)
 · refine⟨⟨j+1,by omega⟩,_,dL.mk' [] _ _ _ rfl ⟨aS.int ?_,aS.int rfl,trivial⟩ trivial rfl,by show 8-(j+1)<8-j;omega⟩
   show _=((nH (Bv (r^^^c.toNat) j):Nat):Int)
   unfold nH
   rw[if_pos (by omega),←OZ (by omega) (by omega)]
   rfl
 · refine⟨⟨j+1,by omega⟩,_,dL.mk' [] _ _ _ rfl ⟨aS.int ?_,aS.int rfl,trivial⟩ trivial rfl,by show 8-(j+1)<8-j;omega⟩
   show _=((nH (Bv (r^^^c.toNat) j):Nat):Int)
   unfold nH
   rw[if_neg (by omega)]
   rfl
 · conv=>whnf
   have:j=8:=by omega
   subst this
   exact bF.mk (aj)
theorem aal {r:Nat} (h:r<4294967296):(4294967295:Int)-(r:Int)=((4294967295^^^r:Nat):Int):=by
 have e:(~~~ (BitVec.ofNat 32 r)).toNat=4294967295^^^r:=by
  rw[←BitVec.allOnes_xor]
  simp[BitVec.toNat_xor,Nat.mod_eq_of_lt h]
 rw[BitVec.toNat_not]at e
 simp only[BitVec.toNat_ofNat,Nat.reducePow,Nat.mod_eq_of_lt h]at e
 omega
theorem W9 {n:Nat} {F:Nat→List AV} (l:List UInt8) (hF:bg F l) (hn:n=l.length) (hl:l.length≤140737488355328):aH Tryz.prog 71 [.sl 1 n true F] (.v (.int .u32 (jX l:Int))) []:=by
 refine aH.args (bvs:=[.sl 1 l.length true (aU l)]) ?_ (.of (fun X u hu=>aS.nT (sc:=true) hF hn X u hu) .nil)
 have YZ (j:Nat):nI (l.take j)<4294967296:=Dh _
 have hs (j:Nat) (c:UInt8):=SS (nI (l.take j)) (YZ j) c
 refine K1.E 0x11d Tryz.func71 ?_
 repeat' ((conv=>whnf);first|refine K1.w ?_|refine K1.u ?_|refine K1.z ?_|refine K1.y (fun _=>?_) (fun _=>?_)|fail)
 conv=>whnf
 refine aN.mk {j:Nat//j≤l.length} (fun j=>⟨[(0,.sl 1 l.length true (aU l)),(3,.v (.int .u32 (nI (l.take j.1):Int))),(4,.v (.int .i64 (j.1:Int)))],[],[],0⟩) (fun j=>l.length-j.1) ⟨0,Nat.zero_le _⟩ _
  (dL.mk' [] _ _ _ rfl ⟨aj,aS.int rfl,aS.int rfl,trivial⟩ trivial rfl) ?_
 rintro⟨j,hj⟩
 dsimp only
 have hjr:=YZ j
 repeat' ((conv=>whnf);first|refine K1.w ?_|refine K1.u ?_|refine K1.P1 (hs j _) rfl ?_|refine aJ.dO ?_|refine K1.z ?_|refine K1.y (fun _=>?_) (fun _=>?_)|fail)
 · refine⟨⟨j+1,by omega⟩,_,dL.mk' [] _ _ _ rfl ⟨aj,aS.int ?_,aS.int rfl,trivial⟩ trivial rfl,by show l.length-(j+1)<l.length-j;omega⟩
   show _=((nI (l.take (j+1)):Nat):Int)
   rw[D8 (by omega)]
   rfl
 · conv=>whnf
   refine bF.mk (aS.int ?_)
   rw[aal hjr,List.take_of_length_le (by omega)]
   rfl
theorem rZ (s:Nat) (x:Int) (h:x=(s:Int)):byteOf' (x%256)=UInt8.ofNat s:=by
 subst h
 apply UInt8.toNat_inj.1
 unfold byteOf'
 rw[UInt8.toNat_ofNat',UInt8.toNat_ofNat']
 omega
theorem mD (d:Nat) {n:Nat} {F:Nat→List AV} (l:List UInt8) (hF:bg F l) (hn:n=l.length) (hl:l.length≤1000000000):
  aH Tryz.prog 37 [.sl 1 n true F] (.own d) [(d,.row 5 1 (dW l).length true (aU (dW l)))]:=by
 refine aH.args (bvs:=[.sl 1 l.length true (aU l)]) ?_ (.of (fun X u hu=>aS.nT (sc:=true) hF hn X u hu) .nil)
 have ht:=W9 l (bg.bytes l) rfl (by omega)
 have hlt:=JW l
 have hsb:dW l=[]++l++[UInt8.ofNat (jX l)]++[UInt8.ofNat (jX l/256)]++[UInt8.ofNat (jX l/65536)]++[UInt8.ofNat (jX l/16777216)]:=by simp[dW,qc]
 rw[hsb]
 generalize jX l=s at ht hlt
 have hb0:=rZ s (s:Int) rfl
 have hb1:=rZ (s/256) ((s:Int)/256) (by omega)
 have hb2:=rZ (s/65536) ((s:Int)/256/256) (by omega)
 have hb3:=rZ (s/16777216) ((s:Int)/256/256/256) (by omega)
 refine K1.E 0x103d Tryz.func37 ?_
 repeat' ((conv=>whnf);first|refine K1.w ?_|refine K1.u ?_|refine K1.P1 ht rfl ?_|refine aN.qY 5 5 rfl ?_|refine K1.z ?_|refine K1.y (fun _=>?_) (fun _=>?_)|fail)
 conv=>whnf
 refine aJ.oz d rfl rfl ?_ (aj)
 rw[←hb0,←hb1,←hb2,←hb3]
 refine bW.nT (bg.app (bg.app (bg.app (bg.app (bg.app (bg.nil _) (bg.bytes _) rfl) (bg.one (by omega) (by omega)) ?_) (bg.one (by omega) (by omega)) ?_) (bg.one (by omega) (by omega)) ?_) (bg.one (by omega) (by omega)) ?_) ?_ rfl
 all_goals simp
theorem Xa (n:Int):l7 n=0∨l7 n=11:=by unfold l7;split<;>simp
theorem abZ (s:ByteArray):keyE s=0∨keyE s=10:=by unfold keyE;split<;>simp
theorem Qi (n:Int):aH Tryz.prog 136 [.v (.int .i64 n)] (.v (.int .i64 (l7 n))) []:=by
 refine K1.E 0x105 Tryz.func136 ?_
 repeat' ((conv=>whnf);first|refine K1.w ?_|refine K1.u ?_|refine K1.z ?_|refine K1.y (fun _=>?_) (fun _=>?_)|fail)
 all_goals(refine aJ.int rfl ?_;unfold l7;(first|rw[if_pos (by omega)]|rw[if_neg (by omega)]))
theorem Qj (s:ByteArray):aH Tryz.prog 137 [.v (.string s)] (.v (.int .i64 (fA s))) []:=by
 refine K1.E 0x405 Tryz.func137 ?_
 repeat' ((conv=>whnf);first|refine K1.w ?_|refine K1.u ?_|refine K1.z ?_|refine K1.y (fun _=>?_) (fun _=>?_)|fail)
 all_goals(refine aJ.int rfl ?_;unfold fA;(first|rw[if_pos (by omega)]|rw[if_neg (by omega)]))
theorem adF {s:ByteArray} {j:Nat} (h:j<s.size):(s.data.toList.getD j 0)=s[j]'h:=by
 rw[List.getD,List.getElem?_eq_getElem (by rw[rH];exact h)]
 rfl
theorem Xb (s:ByteArray):aH Tryz.prog 135 [.v (.string s)] (.v (.int .i64 (keyE s))) []:=by
 refine K1.E 0x800880d Tryz.func135 ?_
 repeat' ((conv=>whnf);first|refine K1.w ?_|refine K1.u ?_|refine aJ.dO ?_|refine K1.z ?_|refine K1.y (fun _=>?_) (fun _=>?_)|fail)
 all_goals(conv=>whnf)
 · exact bF.mk (aS.int (yj (by omega)).symm)
 · exact bF.mk (aS.int (yj (by omega)).symm)
 · refine aN.mk {j:Nat//j≤s.size∧ ∀i (h:i<s.size),i<j→97≤(s[i]'h).toNat∧(s[i]'h).toNat≤122} (fun j=>⟨[(0,.v (.string s)),(3,.v (.int .i64 (j.1:Int)))],[],[],0⟩) (fun j=>s.size-j.1) ⟨0,Nat.zero_le _,fun i _ h=>absurd h (Nat.not_lt_zero i)⟩ _
    (dL.mk' [] _ _ _ rfl ⟨aj,aS.int rfl,trivial⟩ trivial rfl) ?_
   rintro⟨j,hj,hall⟩
   dsimp only
   repeat' ((conv=>whnf);first|refine K1.w ?_|refine K1.u ?_|refine aJ.dO ?_|refine K1.z ?_|refine K1.y (fun _=>?_) (fun _=>?_)|fail)
   all_goals(conv=>whnf)
   all_goals first
     | (have hjs:j<s.size:=by omega
        have hsj:(s.data.toList.getD ((j:Int)).toNat 0).toNat=(s[j]'hjs).toNat:=congrArg UInt8.toNat (adF hjs)
        first
          | (refine⟨⟨j+1,by omega,fun i h hi=>?_⟩,_,dL.mk' [] _ _ _ rfl ⟨aj,aS.int rfl,trivial⟩ trivial rfl,by show s.size-(j+1)<s.size-j;omega⟩
             by_cases e:i=j
             · subst e;omega
             · exact hall i h (by omega))
          |(exact bF.mk (aS.int (ER hjs (by omega)).symm)))
     |exact bF.mk (aS.int (TW (by omega) (by omega) (fun i h=>hall i h (by omega))).symm)
theorem IE (e:Ed):aH Tryz.prog 104 [e.av] (.v (.int .i64 (jJ e))) []:=by
 refine K1.E 0x112404407 Tryz.func104 ?_
 repeat' ((conv=>whnf);first|refine K1.w ?_|refine K1.u ?_|refine K1.P1 (Xb _) rfl ?_|refine K1.P1 (Qi _) rfl ?_|refine K1.P1 (Qj _) rfl ?_|refine K1.z ?_|refine K1.y (fun _=>?_) (fun _=>?_)|fail)
 all_goals(refine aJ.int rfl ?_;unfold jJ;try have h0:=size_pos ‹_›)
 all_goals grind [JI,abZ,Xa]
theorem Qk (n a b:Int):aH Tryz.prog 103 [.v (.int .i64 n),.v (.int .i64 a),.v (.int .i64 b)] (.v (.bool (decide (a≤n∧n≤b)))) []:=by
 refine K1.E 0x47 Tryz.func103 ?_
 repeat' ((conv=>whnf);first|refine K1.w ?_|refine K1.u ?_|refine K1.z ?_|refine K1.y (fun _=>?_) (fun _=>?_)|fail)
 all_goals(refine aJ.bool rfl ?_;simp[*])
theorem KN (e:Ev):aH Tryz.prog 66 [e.av] e.ed.av []:=by
 refine K1.E 0x7 Tryz.func66 ?_
 repeat' ((conv=>whnf);first|refine K1.w ?_|refine K1.u ?_|refine aJ.dO ?_|refine K1.z ?_|refine K1.y (fun _=>?_) (fun _=>?_)|fail)
 conv=>whnf
 exact bF.mk (aj)
end
section
open Go.RowKit
theorem DL (e:Ev):aH Tryz.prog 70 [e.av] (.v (.int .i64 (eG e))) []:=by
 obtain⟨r,n,⟨c0,c1,c2,c3,c4⟩,h,k,key,l,v⟩:=e
 dsimp only[Ev.av,Ev.cs]
 by_cases hr:0≤r∧r≤4
 · rcases(show r=0∨r=1∨r=2∨r=3∨r=4 by omega)with rfl|rfl|rfl|rfl|rfl
   all_goals
    refine K1.E 0x1014000000f Tryz.func70 ?_
    repeat' ((conv=>whnf);first|refine K1.w ?_|refine K1.u ?_|refine K1.P1 (Qk _ _ _) rfl ?_|refine K1.P1 (KN ⟨_,n,⟨c0,c1,c2,c3,c4⟩,h,k,key,l,v⟩) rfl ?_|refine K1.P1 (IE ⟨k,key,l,v⟩) rfl ?_|refine aN.qY 3 6 rfl ?_|refine K1.o (id:=1) [(0,none),(1,none),(2,some [1]),(3,none),(4,none),(5,none),(6,none),(7,some [1,6]),(8,none),(9,none),(10,none),(11,none),(12,none),(13,some [1,6,12]),(14,none),(15,none),(16,none),(17,none),(18,none),(19,none),(20,none),(21,none),(22,none),(23,none),(24,none),(25,none),(26,none)] [(2,[1]),(3,[1]),(4,[1]),(5,[1]),(6,[1]),(7,[1,6]),(8,[1,6]),(9,[1,6]),(10,[1,6]),(11,[1,6]),(12,[1,6]),(13,[1,6,12]),(14,[1,6,12]),(15,[1,6,12]),(16,[1,6,12]),(17,[1,6,12]),(18,[1,6,12]),(19,[1,6,12]),(20,[1,6,12]),(21,[1,6,12]),(22,[1,6,12]),(23,[1,6,12]),(24,[1,6,12]),(25,[1,6,12]),(26,[1,6,12])] ?_|refine K1.z ?_|refine K1.y (fun _=>?_) (fun _=>?_)|fail)
    all_goals refine aJ.int rfl ?_
    all_goals first|(simp[eG,nV,fQ,aW.get,Ev.ed, *];done)|(simp[eG,nV,fQ,aW.get,Ev.ed, *];omega)
 · refine K1.E 0x1014000000f Tryz.func70 ?_
   repeat' ((conv=>whnf);first|refine K1.w ?_|refine K1.u ?_|refine K1.P1 (Qk _ _ _) rfl ?_|refine K1.P1 (KN ⟨r,n,⟨c0,c1,c2,c3,c4⟩,h,k,key,l,v⟩) rfl ?_|refine K1.P1 (IE ⟨k,key,l,v⟩) rfl ?_|refine aN.qY 3 6 rfl ?_|refine K1.o (id:=1) [(0,none),(1,none),(2,some [1]),(3,none),(4,none),(5,none),(6,none),(7,some [1,6]),(8,none),(9,none),(10,none),(11,none),(12,none),(13,some [1,6,12]),(14,none),(15,none),(16,none),(17,none),(18,none),(19,none),(20,none),(21,none),(22,none),(23,none),(24,none),(25,none),(26,none)] [(2,[1]),(3,[1]),(4,[1]),(5,[1]),(6,[1]),(7,[1,6]),(8,[1,6]),(9,[1,6]),(10,[1,6]),(11,[1,6]),(12,[1,6]),(13,[1,6,12]),(14,[1,6,12]),(15,[1,6,12]),(16,[1,6,12]),(17,[1,6,12]),(18,[1,6,12]),(19,[1,6,12]),(20,[1,6,12]),(21,[1,6,12]),(22,[1,6,12]),(23,[1,6,12]),(24,[1,6,12]),(25,[1,6,12]),(26,[1,6,12])] ?_|refine K1.z ?_|refine K1.y (fun _=>?_) (fun _=>?_)|fail)
   all_goals refine aJ.int rfl ?_
   all_goals(simp[eG,fQ];omega)
theorem IG (d:Nat) (e:Ev) (h:eG e=0):aH Tryz.prog 36 [e.av] (.dF [.own d,.v (.int .i64 0)]) [(d,.row 5 1 (aT e).length true (aU (aT e)))]:=by
 have m:=yh h
 have g:=qI m.ed
 have hm:=DL e
 rw[h]at hm
 obtain⟨r,n,⟨c0,c1,c2,c3,c4⟩,hh,k,key,l,v⟩:=e
 obtain⟨r0,r4,n1,n2,h1,h2,a0,a1,a2,a3,a4,own,ed⟩:=m
 dsimp only[Ev.ed]at r0 r4 n1 n2 h1 h2 a0 a1 a2 a3 a4 g
 obtain⟨g1,g2,g3,g4,g5,g6,g7⟩:=g
 have g8:v.size≤12∧0≤l∧l≤1:=by
  cases hl:dN k with
  |true=>have:=g6 hl;omega
  |false=>have:=g7 hl;omega
 have hk:(dN k=true∧2<k)∨(dN k=false∧k≤2):=by
  unfold dN
  rcases(show k=1∨k=2∨k=3∨k=4∨k=5 by omega)with rfl|rfl|rfl|rfl|rfl<;>decide
 clear own ed g6 g7
 obtain⟨n,rfl⟩:=Int.eq_ofNat_of_zero_le (show 0≤n by omega)
 obtain⟨hh,rfl⟩:=Int.eq_ofNat_of_zero_le (show 0≤hh by omega)
 obtain⟨c0,rfl⟩:=Int.eq_ofNat_of_zero_le a0.1
 obtain⟨c1,rfl⟩:=Int.eq_ofNat_of_zero_le a1.1
 obtain⟨c2,rfl⟩:=Int.eq_ofNat_of_zero_le a2.1
 obtain⟨c3,rfl⟩:=Int.eq_ofNat_of_zero_le a3.1
 obtain⟨c4,rfl⟩:=Int.eq_ofNat_of_zero_le a4.1
 have q (x:Nat):(ak x).length≤10:=bD 9 x
 have q0:=q n
 have q1:=q hh
 have q2:=q c0
 have q3:=q c1
 have q4:=q c2
 have q5:=q c3
 have q6:=q c4
 clear q
 dsimp only[Ev.av,Ev.cs]at hm⊢
 rcases hk with⟨hl,hk⟩|⟨hl,hk⟩
 all_goals
  rcases(show r=0∨r=1∨r=2∨r=3∨r=4 by omega)with rfl|rfl|rfl|rfl|rfl
 all_goals
  refine K1.E 0x80000010400047f Tryz.func36 ?_
  repeat' ((conv=>whnf);first|refine K1.w ?_|refine K1.u ?_|refine K1.P1 hm rfl ?_|refine K1.F1 (dR _ _ (by omega)) rfl ?_|refine aN.qY 6 6 rfl ?_|refine K1.o (id:=12) [(0,none),(1,none),(2,none),(3,none),(4,none),(7,none),(8,none),(5,some [4,2]),(6,some [4,2]),(9,some [4,2,8]),(10,none)] [(3,[2]),(4,[2]),(5,[4,2]),(6,[4,2]),(9,[4,2,8]),(10,[4,2,8])] ?_|refine K1.o (id:=14) [(0,none),(1,none),(2,none),(3,none),(4,none),(5,none),(6,none),(7,none),(10,none),(11,none),(8,some [7,5,3,2]),(9,some [7,5,3,2]),(12,some [7,5,3,2,11]),(13,none)] [(3,[2]),(6,[5]),(7,[5]),(8,[7,5,3,2]),(9,[7,5,3,2]),(12,[7,5,3,2,11]),(13,[7,5,3,2,11])] ?_|refine K1.z ?_|refine K1.y (fun _=>?_) (fun _=>?_)|fail)
  all_goals(refine aJ.oz d rfl rfl ?_ (aj);apply bW.nT)
  all_goals(try(repeat' (first|exact bg.bytes _|exact bg.str _|exact bg.one (by omega) (by omega)|exact bg.two (by omega) (by omega) (by omega) (by omega)|apply bg.app)))
  all_goals first
    |(simp only[List.length_append,List.length_cons,List.length_nil,rH];try omega;done)
    |(simp[aT,others,words,iF,byteOf,byteOf', *];done)
end
section
open Go.RowKit
theorem oJ (n:Int):aH Tryz.prog 68 [.v (.int .i64 n)] (.v (.bool (nV n))) []:=by
 refine K1.E 0x5 Tryz.func68 ?_
 repeat' ((conv=>whnf);first|refine K1.w ?_|refine K1.u ?_|refine aJ.dO ?_|refine K1.z ?_|refine K1.y (fun _=>?_) (fun _=>?_)|fail)
 all_goals(conv=>whnf)
 all_goals(refine bF.mk (aS.of ?_))
 all_goals simp[nV,fQ, *]
theorem Jj (c0 c1 c2 c3 c4:Int):aH Tryz.prog 69 [.agg [.v (.int .i64 c0),.v (.int .i64 c1),.v (.int .i64 c2),.v (.int .i64 c3),.v (.int .i64 c4)]] (.v (.bool (OX ⟨c0,c1,c2,c3,c4⟩))) []:=by
 refine K1.E 0x102f Tryz.func69 ?_
 repeat' ((conv=>whnf);first|refine K1.w ?_|refine K1.u ?_|refine K1.P1 (oJ _) rfl ?_|refine aN.qY 3 6 rfl ?_|refine aJ.dO ?_|refine K1.z ?_|refine K1.y (fun _=>?_) (fun _=>?_)|fail)
 all_goals(conv=>whnf)
 all_goals(refine bF.mk (aS.of ?_))
 all_goals simp[OX, *]
theorem II (l:List Ev) (hl:l.length≤140737488355328):aH Tryz.prog 67 [.sl 12 l.length true (dX l)] (.v (.bool (l.all (fun e=>decide (eG e=0))&&decide (l.length≤20)))) []:=by
 refine K1.E 0x808d Tryz.func67 ?_
 repeat' ((conv=>whnf);first|refine K1.w ?_|refine K1.u ?_|refine aJ.dO ?_|refine K1.z ?_|refine K1.y (fun _=>?_) (fun _=>?_)|fail)
 conv=>whnf
 refine aN.mk {j:Nat//j≤l.length∧ ∀i,i<j→eG (l.getD i default)=0} (fun j=>⟨[(0,.sl 12 l.length true (dX l)),(3,.v (.int .i64 (j.1:Int)))],[],[],4⟩) (fun j=>l.length-j.1) ⟨0,Nat.zero_le _,fun i h=>absurd h (Nat.not_lt_zero i)⟩ _
  (dL.mk' [] _ _ _ rfl ⟨aj,aS.int rfl,trivial⟩ trivial rfl) ?_
 rintro⟨j,hj,hall⟩
 dsimp only
 repeat' ((conv=>whnf);first|refine K1.w ?_|refine K1.u ?_|refine K1.P1 (DL (l.getD (j:Int).toNat default)) rfl ?_|refine aJ.dO ?_|refine K1.z ?_|refine K1.y (fun _=>?_) (fun _=>?_)|fail)
 all_goals(conv=>whnf)
 all_goals first
   | (refine⟨⟨j+1,by omega,fun i hi=>?_⟩,_,dL.mk' [] _ _ _ rfl ⟨aj,aS.int rfl,trivial⟩ trivial rfl,by show l.length-(j+1)<l.length-j;omega⟩
      rcases Nat.lt_or_ge i j with h|h
      · exact hall i h
      · rw[show i=j by omega]
        exact ‹eG (l.getD (j:Int).toNat default)=0›)
   | (refine bF.mk (aS.of ?_)
      have hno:=RD (l:=l) (j:=j) (by omega) ‹¬eG (l.getD (j:Int).toNat default)=0›
      simp[hno])
   | (refine bF.mk (aS.of ?_)
      have hyes:=MC (l:=l) (fun i hi=>hall i (by omega))
      rw[hyes,Bool.true_and]
      first
        |rw[decide_eq_true (show l.length≤20 by omega)]
        |rw[decide_eq_false (show¬l.length≤20 by omega)])
theorem Xc (l:List Ev) (r:Int):l.all (tZ 1 r)=(l.all (fun e=>decide (eG e=0))&&l.all (fun e=>decide (e.r=r))):=by
 induction l with
 |nil=>rfl
 | cons e l ih=>
   simp only[List.all_cons,ih,tZ]
   cases decide (eG e=0)<;>cases decide (e.r=r)<;>simp
theorem Xd (l:List Ev) {k:Int} (hk:k≠1) (r:Int):l.all (tZ k r)=l.all (fun e=>decide (eG e=0)):=by
 induction l with
 |nil=>rfl
 |cons e l ih=>simp only[List.all_cons,ih,tZ,decide_eq_true hk,Bool.true_or,Bool.and_true]
theorem ab1 {l:List Ev} {j:Nat} {r:Int} (hj:j<l.length) (h: ¬ (l.getD j default).r=r):l.all (fun e=>decide (e.r=r))=false:=MH (p:=fun e=>decide (e.r=r)) hj (decide_eq_false h)
theorem aam {l:List Ev} {r:Int} (h: ∀i,i<l.length→(l.getD i default).r=r):l.all (fun e=>decide (e.r=r))=true:=O7 (p:=fun e=>decide (e.r=r)) fun i hi=>decide_eq_true (h i hi)
theorem IJ {c:aW} (h: ¬c=bY):G5 c=false:=by
 cases hc:G5 c with
 |false=>rfl
 |true=>exact absurd ((iG c).1 hc) h
theorem xI (x:Rc) (hl:x.ev.length≤140737488355328):aH Tryz.prog 34 [x.av] (.v (.bool (jY x))) []:=by
 obtain⟨k,r,u,⟨c0,c1,c2,c3,c4⟩,ev⟩:=x
 dsimp only at hl
 have hevs:=II ev hl
 obtain⟨A,hA⟩: ∃A,A=ev.all (fun e=>decide (eG e=0)):=⟨_,rfl⟩
 rw[←hA]at hevs
 obtain⟨B,hB⟩: ∃B,B=(A&&decide (ev.length≤20)):=⟨_,rfl⟩
 rw[←hB]at hevs
 have ok0:nV 0=true:=rfl
 rcases(show k=1∨k=2∨(k=3∨k=5)∨k=4∨ ¬ (1≤k∧k≤5) by omega)with rfl|rfl|hk|rfl|hk
 · have hm:jY ⟨1,r,u,⟨c0,c1,c2,c3,c4⟩,ev⟩=(decide (0≤r)&&decide (r<5)&&decide (u=0)&&G5 ⟨c0,c1,c2,c3,c4⟩&&B&&decide (ev.length≠0)&&ev.all (fun e=>decide (e.r=r))):=by
    rw[Bool.eq_iff_iff]
    simp only[jY,Xc,←hA,hB,Bool.and_eq_true,Bool.or_eq_true,decide_eq_true_eq,Qp,zK,zL,zJ,iG]
    constructor
    · intro h;simp at h⊢;grind
    · intro h
      obtain⟨⟨⟨⟨⟨⟨h1,h2⟩,h3⟩,h4⟩,h5⟩,h6⟩,h7⟩:=h
      simp only[bY,aW.mk.injEq]at h4
      obtain⟨rfl,rfl,rfl,rfl,rfl⟩:=h4
      simp[h1,h2,h3,h5,h6,h7,nV,OX,bY,fQ]
   rw[hm]
   clear hm hB hA
   dsimp only[Rc.av,Rc.cs]
   refine K1.E 0x200080000100210c101f Tryz.func34 ?_
   repeat' ((conv=>whnf);first|refine K1.w ?_|refine K1.u ?_|refine K1.P1 (oJ _) rfl ?_|refine K1.P1 hevs rfl ?_|refine vg.mk (aW.vs ⟨c0,c1,c2,c3,c4⟩) (aW.vs bY) (aW.mk c0 c1 c2 c3 c4=bY) rfl rfl (fZ _ _) ?_|refine aJ.dO ?_|refine K1.z ?_|refine K1.y (fun _=>?_) (fun _=>?_)|fail)
   all_goals(conv=>whnf)
   all_goals first
     |(refine bF.mk (aS.of ?_);simp;omega)
     |refine aN.mk {j:Nat//j≤ev.length∧ ∀i,i<j→(ev.getD i default).r=r} (fun j=>⟨[(1,.box 0 0),(3,.v (.bool _)),(4,.v (.int .i64 (j.1:Int)))],
        [(0,.box 47 [.v (.int .i64 1),.v (.int .i64 r),.v (.int .i64 u),.v (.int .i64 c0),.v (.int .i64 c1),.v (.int .i64 c2),.v (.int .i64 c3),.v (.int .i64 c4),.sl 12 ev.length true (dX ev)])],[],4⟩) (fun j=>ev.length-j.1) ⟨0,Nat.zero_le _,fun i h=>absurd h (Nat.not_lt_zero i)⟩ _
        (dL.mk' [] _ _ _ rfl ⟨aj,aj,aS.int rfl,trivial⟩ ⟨aF rfl,trivial⟩ rfl) ?_
   all_goals(rintro⟨j,hj,hall⟩;dsimp only)
   all_goals repeat' ((conv=>whnf);first|refine K1.w ?_|refine K1.u ?_|refine K1.P1 hevs rfl ?_|refine aJ.dO ?_|refine K1.z ?_|refine K1.y (fun _=>?_) (fun _=>?_)|fail)
   all_goals(conv=>whnf)
   all_goals first
     | (refine⟨⟨j+1,by omega,fun i hi=>?_⟩,_,dL.mk' [] _ _ _ rfl ⟨aj,aj,aS.int rfl,trivial⟩ ⟨aF rfl,trivial⟩ rfl,by show ev.length-(j+1)<ev.length-j;omega⟩
        rcases Nat.lt_or_ge i j with h|h
        · exact hall i h
        · rw[show i=j by omega]
          exact ‹(ev.getD (j:Int).toNat default).r=r›)
     | (refine bF.mk (aS.of ?_)
        rw[ab1 (l:=ev) (j:=j) (r:=r) (by omega) ‹¬ (ev.getD (j:Int).toNat default).r=r›,Bool.and_false])
     | (refine bF.mk (aS.of ?_)
        rw[aam (l:=ev) (r:=r) (fun i hi=>hall i (by omega)),Bool.and_true]
        first
          |(rw[IJ ‹¬aW.mk c0 c1 c2 c3 c4=bY›];simp;done)
          |(rw[(iG _).2 ‹aW.mk c0 c1 c2 c3 c4=bY›];simp[-List.length_eq_zero_iff, *]<;>omega)
          |(simp[-List.length_eq_zero_iff, *];done)
          |(simp[-List.length_eq_zero_iff, *];omega))
 · have hm:jY ⟨2,r,u,⟨c0,c1,c2,c3,c4⟩,ev⟩=(decide (0≤r)&&decide (r<5)&&nV u&&G5 ⟨c0,c1,c2,c3,c4⟩&&decide (ev.length=0)):=by
    rw[Bool.eq_iff_iff]
    simp only[jY,Bool.and_eq_true,Bool.or_eq_true,decide_eq_true_eq,Qp,zK,zL,zJ,iG]
    constructor
    · intro h;simp at h⊢;grind
    · intro h
      obtain⟨⟨⟨⟨h1,h2⟩,h3⟩,h4⟩,h5⟩:=h
      have h5:=List.eq_nil_of_length_eq_zero h5
      subst h5
      simp only[bY,aW.mk.injEq]at h4
      obtain⟨rfl,rfl,rfl,rfl,rfl⟩:=h4
      simp[h1,h2,h3,OX,bY,ok0]
   rw[hm]
   clear hm hB hA
   dsimp only[Rc.av,Rc.cs]
   refine K1.E 0x200080000100210c101f Tryz.func34 ?_
   repeat' ((conv=>whnf);first|refine K1.w ?_|refine K1.u ?_|refine K1.P1 (oJ _) rfl ?_|refine vg.mk (aW.vs ⟨c0,c1,c2,c3,c4⟩) (aW.vs bY) (aW.mk c0 c1 c2 c3 c4=bY) rfl rfl (fZ _ _) ?_|refine aJ.dO ?_|refine K1.z ?_|refine K1.y (fun _=>?_) (fun _=>?_)|fail)
   all_goals(conv=>whnf)
   all_goals(refine bF.mk (aS.of ?_))
   all_goals first
     |(simp[-List.length_eq_zero_iff, *]<;>omega;done)
     |(rw[IJ ‹¬aW.mk c0 c1 c2 c3 c4=bY›];simp;done)
     |(rw[(iG _).2 ‹aW.mk c0 c1 c2 c3 c4=bY›];simp[-List.length_eq_zero_iff, *]<;>omega)
 · have hm:jY ⟨k,r,u,⟨c0,c1,c2,c3,c4⟩,ev⟩=(decide (0≤r)&&decide (r<5)&&decide (u=0)&&OX ⟨c0,c1,c2,c3,c4⟩&&decide (ev.length=0)):=by
    rw[Bool.eq_iff_iff]
    simp only[jY,Bool.and_eq_true,Bool.or_eq_true,decide_eq_true_eq,Qp,zK,zL,zJ,iG]
    constructor
    · intro h;rcases hk with rfl|rfl<;>(simp at h⊢;grind)
    · intro h
      obtain⟨⟨⟨⟨h1,h2⟩,h3⟩,h4⟩,h5⟩:=h
      have h5:=List.eq_nil_of_length_eq_zero h5
      subst h5
      rcases hk with rfl|rfl<;>simp[h1,h2,h3,h4,ok0]
   rw[hm]
   clear hm hB hA
   have zW:=Jj c0 c1 c2 c3 c4
   dsimp only[Rc.av,Rc.cs]
   rcases hk with rfl|rfl
   all_goals
    refine K1.E 0x200080000100210c101f Tryz.func34 ?_
    repeat' ((conv=>whnf);first|refine K1.w ?_|refine K1.u ?_|refine K1.P1 (oJ _) rfl ?_|refine K1.P1 zW rfl ?_|refine vg.mk (aW.vs ⟨c0,c1,c2,c3,c4⟩) (aW.vs bY) (aW.mk c0 c1 c2 c3 c4=bY) rfl rfl (fZ _ _) ?_|refine aJ.dO ?_|refine K1.z ?_|refine K1.y (fun _=>?_) (fun _=>?_)|fail)
    all_goals(conv=>whnf)
    all_goals(refine bF.mk (aS.of ?_))
    all_goals first
      |(simp[-List.length_eq_zero_iff, *]<;>omega;done)
      |(simp only[‹OX _=_›];simp[-List.length_eq_zero_iff]<;>omega)
 · have hm:jY ⟨4,r,u,⟨c0,c1,c2,c3,c4⟩,ev⟩=(decide (0≤r)&&decide (r<5)&&decide (u=0)&&G5 ⟨c0,c1,c2,c3,c4⟩&&B):=by
    rw[Bool.eq_iff_iff]
    simp only[jY,Xd ev (show(4:Int)≠1 by decide),←hA,hB,Bool.and_eq_true,Bool.or_eq_true,decide_eq_true_eq,Qp,zK,zL,zJ,iG]
    constructor
    · intro h;simp at h⊢;grind
    · intro h
      obtain⟨⟨⟨⟨h1,h2⟩,h3⟩,h4⟩,h5⟩:=h
      simp only[bY,aW.mk.injEq]at h4
      obtain⟨rfl,rfl,rfl,rfl,rfl⟩:=h4
      simp[h1,h2,h3,h5,nV,OX,bY,fQ]
   rw[hm]
   clear hm hB hA
   dsimp only[Rc.av,Rc.cs]
   refine K1.E 0x200080000100210c101f Tryz.func34 ?_
   repeat' ((conv=>whnf);first|refine K1.w ?_|refine K1.u ?_|refine K1.P1 (oJ _) rfl ?_|refine K1.P1 hevs rfl ?_|refine vg.mk (aW.vs ⟨c0,c1,c2,c3,c4⟩) (aW.vs bY) (aW.mk c0 c1 c2 c3 c4=bY) rfl rfl (fZ _ _) ?_|refine aJ.dO ?_|refine K1.z ?_|refine K1.y (fun _=>?_) (fun _=>?_)|fail)
   all_goals(conv=>whnf)
   all_goals(refine bF.mk (aS.of ?_))
   all_goals first
     |(simp[-List.length_eq_zero_iff, *]<;>omega;done)
     |(rw[IJ ‹¬aW.mk c0 c1 c2 c3 c4=bY›];simp;done)
     |(rw[(iG _).2 ‹aW.mk c0 c1 c2 c3 c4=bY›];simp[-List.length_eq_zero_iff, *]<;>omega)
 · have hm:jY ⟨k,r,u,⟨c0,c1,c2,c3,c4⟩,ev⟩=false:=by
    simp only[jY,Qp,decide_eq_false hk,Bool.false_and]
   rw[hm]
   clear hm hB hA
   dsimp only[Rc.av,Rc.cs]
   refine K1.E 0x200080000100210c101f Tryz.func34 ?_
   repeat' ((conv=>whnf);first|refine K1.w ?_|refine K1.u ?_|refine K1.P1 (oJ _) rfl ?_|refine vg.mk (aW.vs ⟨c0,c1,c2,c3,c4⟩) (aW.vs bY) (aW.mk c0 c1 c2 c3 c4=bY) rfl rfl (fZ _ _) ?_|refine aJ.dO ?_|refine K1.z ?_|refine K1.y (fun _=>?_) (fun _=>?_)|fail)
   all_goals(conv=>whnf)
   all_goals exact bF.mk (aj)
theorem Ql (d:Nat) (x:Rc) (h:jY x=true) (hk:x.k=1∨x.k=4):
  aH Tryz.prog 15 [x.av] (.dF [.own d,.v (.int .i64 0)]) [(d,.row 5 1 (cO x).length true (aU (cO x)))]:=by
 have m:=oN h
 have hm:=xI x (by have:=m.l;omega)
 rw[h]at hm
 obtain⟨k,r,u,c,ev⟩:=x
 obtain⟨mk,mr,mu,sU,qV,me0,mc,ml,m1,yN⟩:=m
 dsimp only at mk mr mu ml mc sU qV me0 yN m1 hk
 have wP:=BF yN
 have hat: ∀j,j<ev.length→eG (ev.getD j default)=0:=fun j hj=>Dn wP hj
 have Y4: ∀j,j<ev.length→(aT (ev.getD j default)).length≤44:=fun j hj=>kV (hat j hj)
 have hlen: ∀j,(dY (ev.take j)).length≤44*j:=fun j=>Nat.le_trans (pq fun e he=>nJ wP e (List.mem_of_mem_take he)) (Nat.mul_le_mul_left _ (by rw[List.length_take];omega))
 obtain⟨kk,hkk⟩: ∃kk,kk=k:=⟨_,rfl⟩
 have hmore: ∀j,(([byteOf' kk,byteOf' r]++[byteOf' (ev.length:Int)])++dY (ev.take j)).length=3+(dY (ev.take j)).length:=fun j=>by simp;omega
 rcases hk with rfl|rfl
 all_goals
  dsimp only[Rc.av,Rc.cs]at hm⊢
  refine K1.E 0x8808001001008ff Tryz.func15 ?_
  repeat' ((conv=>whnf);first|refine K1.w ?_|refine K1.u ?_|refine K1.P1 hm rfl ?_|refine K1.z ?_|refine K1.y (fun _=>?_) (fun _=>?_)|fail)
  conv=>whnf
  refine aN.mk {j:Nat//j≤ev.length} (fun j=>⟨[(1,.box 0 0),(4,.own 90),(6,.v (.int .i64 (j.1:Int)))],
    [(0,.box 47 [.v (.int .i64 kk),.v (.int .i64 r),.v (.int .i64 u),.v (.int .i64 c.c0),.v (.int .i64 c.c1),.v (.int .i64 c.c2),.v (.int .i64 c.c3),.v (.int .i64 c.c4),.sl 12 ev.length true (dX ev)]),(90,.row 5 1 (([byteOf' kk,byteOf' r]++[byteOf' (ev.length:Int)])++dY (ev.take j.1)).length true (aU (([byteOf' kk,byteOf' r]++[byteOf' (ev.length:Int)])++dY (ev.take j.1))))],[],91⟩) (fun j=>ev.length-j.1) ⟨0,Nat.zero_le _⟩ _
    (dL.mk' [(3,90)] _ _ _ rfl ⟨aj,aj,aS.int rfl,trivial⟩ ⟨⟨_,rfl,by rw[hkk];exact bW.refl _⟩,⟨_,rfl,bW.nT (bg.app (bg.two (by omega) (by omega) (by omega) (by omega)) (bg.one (by omega) (by omega)) rfl) (by simp<;>omega) (by simp[dY,hkk])⟩,trivial⟩ rfl) ?_
  rintro⟨j,hj⟩
  dsimp only
  have Y5:=Y4 (j:Int).toNat
  have hmj:=hmore j
  have hlj:=hlen j
  have hsl:=dB (ak (([byteOf' kk,byteOf' r]++[byteOf' (ev.length:Int)])++dY (ev.take j)).length++(([byteOf' kk,byteOf' r]++[byteOf' (ev.length:Int)])++dY (ev.take j)))
  have hvs:(ak (([byteOf' kk,byteOf' r]++[byteOf' (ev.length:Int)])++dY (ev.take j)).length).length≤10:=bD 9 _
  repeat' ((conv=>whnf);first|refine K1.w ?_|refine K1.u ?_|refine K1.F1 (IG _ (ev.getD (j:Int).toNat default) (hat _ (by omega))) rfl ?_|refine K1.F1 (dR _ (([byteOf' kk,byteOf' r]++[byteOf' (ev.length:Int)])++dY (ev.take j)).length (by omega)) rfl ?_|refine K1.F1 (mD _ (ak (([byteOf' kk,byteOf' r]++[byteOf' (ev.length:Int)])++dY (ev.take j)).length++(([byteOf' kk,byteOf' r]++[byteOf' (ev.length:Int)])++dY (ev.take j))) (bg.app (bg.bytes _) (bg.bytes _) rfl) List.length_append.symm (by rw[List.length_append];omega)) rfl ?_|refine K1.z ?_|refine K1.y (fun _=>?_) (fun _=>?_)|fail)
  · conv=>whnf
    refine⟨⟨j+1,by omega⟩,_,dL.mk' [(92,90)] _ _ _ rfl ⟨aj,aj,aS.int rfl,trivial⟩ ⟨aF rfl,⟨_,rfl,bW.nT (bg.app (bg.bytes _) (bg.bytes _) rfl) List.length_append.symm ?_⟩,trivial⟩ rfl,by show ev.length-(j+1)<ev.length-j;omega⟩
    rw[qo (by omega),List.append_assoc]
    rfl
  · conv=>whnf
    refine aJ.oz d rfl rfl ?_ (aj)
    refine bW.nT (bg.bytes _) rfl ?_
    rw[List.take_of_length_le (by omega)]
    unfold cO jZ
    simp[hkk,zJ,zK,zL,byteOf,byteOf']
theorem aan (d:Nat) (x:Rc) (h:jY x=true) (hk:x.k=2):
  aH Tryz.prog 15 [x.av] (.dF [.own d,.v (.int .i64 0)]) [(d,.row 5 1 (cO x).length true (aU (cO x)))]:=by
 have m:=oN h
 have hm:=xI x (by have:=m.l;omega)
 rw[h]at hm
 obtain⟨k,r,u,c,ev⟩:=x
 obtain⟨mk,mr,mu,sU,qV,me0,mc,ml,m1,yN⟩:=m
 dsimp only at mk mr mu ml mc sU qV me0 yN m1 hk
 obtain⟨kk,hkk⟩: ∃kk,kk=k:=⟨_,rfl⟩
 obtain⟨un,rfl,hun⟩:=eU mu
 have hvu:(ak un).length≤10:=bD 9 _
 have hmore:([byteOf' kk,byteOf' r]++ak un).length=2+(ak un).length:=by simp;omega
 have hsl:=dB (ak (2+(ak un).length)++([byteOf' kk,byteOf' r]++ak un))
 have hvs:(ak (2+(ak un).length)).length≤10:=bD 9 _
 subst hk
 have hP:bg (pR 2 (chunk 1 [.v (.int .u8 2),.v (.int .u8 r)]) (aU (ak un))) ([byteOf' kk,byteOf' r]++ak un):=hkk▸bg.app (bg.two (by omega) (by omega) (by omega) (by omega)) (bg.bytes _) rfl
 have hn:2+(ak un).length=([byteOf' kk,byteOf' r]++ak un).length:=by omega
 dsimp only[Rc.av,Rc.cs]at hm⊢
 refine K1.E 0x8808001001008ff Tryz.func15 ?_
 repeat' ((conv=>whnf);first|refine K1.w ?_|refine K1.u ?_|refine K1.P1 hm rfl ?_|refine K1.F1 (dR _ un (by omega)) rfl ?_|refine K1.F1 (dR _ (2+(ak un).length) (by omega)) rfl ?_|refine K1.F1 (mD _ (ak (2+(ak un).length)++([byteOf' kk,byteOf' r]++ak un)) (bg.app (bg.bytes _) hP rfl) (by rw[List.length_append,←hn]) (by rw[List.length_append,←hn];omega)) rfl ?_|refine K1.z ?_|refine K1.y (fun _=>?_) (fun _=>?_)|fail)
 conv=>whnf
 refine aJ.oz d rfl rfl ?_ (aj)
 refine bW.nT (bg.bytes _) rfl ?_
 rw[hn]
 unfold cO jZ
 simp[hkk,zJ,zK,zL,byteOf,byteOf',iF]
theorem Qm (d:Nat) (x:Rc) (h:jY x=true) (hk:x.k=3∨x.k=5):
  aH Tryz.prog 15 [x.av] (.dF [.own d,.v (.int .i64 0)]) [(d,.row 5 1 (cO x).length true (aU (cO x)))]:=by
 have m:=oN h
 have hm:=xI x (by have:=m.l;omega)
 rw[h]at hm
 obtain⟨k,r,u,⟨c0,c1,c2,c3,c4⟩,ev⟩:=x
 obtain⟨mk,mr,mu,sU,qV,me0,⟨m0,m1,m2,m3,m4⟩,ml,G7,yN⟩:=m
 dsimp only at mk mr mu ml m0 m1 m2 m3 m4 sU qV me0 yN G7 hk
 obtain⟨kk,hkk⟩: ∃kk,kk=k:=⟨_,rfl⟩
 obtain⟨c0,rfl,hc0⟩:=eU m0
 obtain⟨c1,rfl,hc1⟩:=eU m1
 obtain⟨c2,rfl,hc2⟩:=eU m2
 obtain⟨c3,rfl,hc3⟩:=eU m3
 obtain⟨c4,rfl,hc4⟩:=eU m4
 have q0:(ak c0).length≤10:=bD 9 _
 have q1:(ak c1).length≤10:=bD 9 _
 have q2:(ak c2).length≤10:=bD 9 _
 have q3:(ak c3).length≤10:=bD 9 _
 have q4:(ak c4).length≤10:=bD 9 _
 obtain⟨n,hn0⟩: ∃n,n=2+(ak c0).length+(ak c1).length+(ak c2).length+(ak c3).length+(ak c4).length:=⟨_,rfl⟩
 have hn:n=([byteOf' kk,byteOf' r]++ak c0++ak c1++ak c2++ak c3++ak c4).length:=by rw[hn0];simp;omega
 have hvs:(ak (2+(ak c0).length+(ak c1).length+(ak c2).length+(ak c3).length+(ak c4).length)).length≤10:=bD 9 _
 have hsl:=dB (ak (2+(ak c0).length+(ak c1).length+(ak c2).length+(ak c3).length+(ak c4).length)++([byteOf' kk,byteOf' r]++ak c0++ak c1++ak c2++ak c3++ak c4))
 rcases hk with rfl|rfl
 all_goals
  have hP:=bg.app (bg.app (bg.app (bg.app (bg.app (bg.two (x:=kk) (y:=r) (by omega) (by omega) (by omega) (by omega)) (bg.bytes (ak c0)) rfl) (bg.bytes (ak c1)) (n:=2+(ak c0).length) (by simp<;>omega)) (bg.bytes (ak c2)) (n:=2+(ak c0).length+(ak c1).length) (by simp<;>omega)) (bg.bytes (ak c3)) (n:=2+(ak c0).length+(ak c1).length+(ak c2).length) (by simp<;>omega)) (bg.bytes (ak c4)) (n:=2+(ak c0).length+(ak c1).length+(ak c2).length+(ak c3).length) (by simp<;>omega)
  rw[hkk]at hP hn
  dsimp only[Rc.av,Rc.cs]at hm⊢
  refine K1.E 0x8808001001008ff Tryz.func15 ?_
  repeat' ((conv=>whnf);first|refine K1.w ?_|refine K1.u ?_|refine K1.P1 hm rfl ?_|refine K1.F1 (dR _ c0 (by omega)) rfl ?_|refine K1.F1 (dR _ c1 (by omega)) rfl ?_|refine K1.F1 (dR _ c2 (by omega)) rfl ?_|refine K1.F1 (dR _ c3 (by omega)) rfl ?_|refine K1.F1 (dR _ c4 (by omega)) rfl ?_|refine K1.F1 (dR _ (2+(ak c0).length+(ak c1).length+(ak c2).length+(ak c3).length+(ak c4).length) (by omega)) rfl ?_|refine K1.F1 (mD _ (ak (2+(ak c0).length+(ak c1).length+(ak c2).length+(ak c3).length+(ak c4).length)++([byteOf' _,byteOf' r]++ak c0++ak c1++ak c2++ak c3++ak c4)) (bg.app (bg.bytes _) hP rfl) (by rw[List.length_append,←hn,hn0]) (by rw[List.length_append,←hn,hn0];omega)) rfl ?_|refine aN.qY 5 6 rfl ?_|refine K1.z ?_|refine K1.y (fun _=>?_) (fun _=>?_)|fail)
  conv=>whnf
  refine aJ.oz d rfl rfl ?_ (aj)
  refine bW.nT (bg.bytes _) rfl ?_
  rw[←hn0,hn]
  unfold cO jZ
  simp[zJ,zK,zL,byteOf,byteOf',iF,yM]
theorem IK (d:Nat) (x:Rc) (h:jY x=true):
  aH Tryz.prog 15 [x.av] (.dF [.own d,.v (.int .i64 0)]) [(d,.row 5 1 (cO x).length true (aU (cO x)))]:=by
 have m:=(oN h).k
 rcases(show x.k=1∨x.k=2∨x.k=3∨x.k=4∨x.k=5 by omega)with hk|hk|hk|hk|hk
 · exact Ql d x h (.inl hk)
 · exact aan d x h hk
 · exact Qm d x h (.inl hk)
 · exact Ql d x h (.inr hk)
 · exact Qm d x h (.inr hk)
end
section
open Go.RowKit
theorem ab2 (x:Rc) (h:jY x=true) (he:x.ev=[]):aH Tryz.prog 15 [.agg [.v (.int .i64 x.k),.v (.int .i64 x.r),.v (.int .i64 x.u),.v (.int .i64 x.c.c0),.v (.int .i64 x.c.c1),.v (.int .i64 x.c.c2),.v (.int .i64 x.c.c3),.v (.int .i64 x.c.c4),iP]] (.dF [.sl 1 (cO x).length true (aU (cO x)),.v (.int .i64 0)]) []:=
 (IK 0 x h).thaw.args (.of (fun X u hu=>by
  obtain⟨us,e,ha⟩:=hu
  exact⟨us,e,aI.qJ (k:=8) rfl (x:=iP) (y:= .sl 12 x.ev.length true (dX x.ev)) (fun X u hu=>by
   rw[show x.ev.length=0 from ae4 he]
   exact C1.iP (s:=12) (by decide) (show C1 X (.v (.slice none 0 0)) u from hu)) ha⟩) .nil)
end
end Go.Proofs.YtimhagicagdkfaaGreat
