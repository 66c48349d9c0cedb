/-
  Contracts of the walk:Crc,Rec,LvP,LvQ,LvR,LvS,LvT,LvV,LvW,LvY.
-/
import Derived.Test.YtifjccndenojlaaGreatWf20
import Derived.Test.YtifjccndenojlaaGreatWf9
import Derived.Laws.BitsAllLaws
import Derived.Laws.StructEq
import Derived.Laws.Cover2
import Derived.Test.YtifjccndenojlaaGreatWf12
import Derived.Test.YtifjccndenojlaaGreatWf18
import Derived.Test.YtifjccndenojlaaGreatWf19
import Derived.Test.YtifjccndenojlaaGreatWf14
import Derived.Test.YtifjccndenojlaaGreatWf15
import Derived.Test.YtifjccndenojlaaGreatWf11
import Derived.Test.YtifjccndenojlaaGreatWf6
import Derived.Test.YtifjccndenojlaaGreatWf17
set_option maxHeartbeats 16000000
set_option maxRecDepth 100000
set_option linter.unusedVariables false
set_option linter.unusedSimpArgs false
namespace Go.Proofs.YtifjccndenojlaaGreat
open Go.RowKit
open Go.Proofs.Tryz
variable{q:ByteArray}{K:ByteArray->List Ev}{e:Ev}{P:List Ev}{ss:List Str}{l:List UInt8}{a j k r:Nat}{F:Nat->List AV}
def jh(r:Nat):Nat:=if r%2=1 then(r/2)^^^3988292384 else r/2
def uD(r:Nat):Nat->Nat
 |0=>r
 |j+1=>jh (uD r j)
def xO(r:Nat)(c:UInt8):Nat:=uD (r^^^c.toNat) 8
def l9(l:List UInt8):Nat:=l.foldl xO 4294967295
def lF(l:List UInt8):Nat:=4294967295^^^l9 l
def nJ(l:List UInt8):List UInt8:=[UInt8.ofNat (lF l),UInt8.ofNat (lF l/256),UInt8.ofNat (lF l/65536),UInt8.ofNat (lF l/16777216)]
def dZ(l:List UInt8):List UInt8:=l++nJ l
theorem Dc(h:r<4294967296):jh r<4294967296:=by
 unfold jh;split
 ·exact aqR (n:=32) o_ o_
 ·omega
theorem EO{r:Nat}(h:r<4294967296):∀j,uD r j<4294967296
 |0=>h
 |j+1=>Dc (EO h j)
theorem YN(h:r<4294967296)(c:UInt8):xO r c<4294967296:=by
 have:=apv c;exact EO (aqR (n:=32) o_ o_) 8
theorem V5:∀(l:List UInt8)(r:Nat),r<4294967296->l.foldl xO r<4294967296
 |[],_,h=>h
 |c::l,_,h=>V5 l _ (YN h c)
theorem PU(l:List UInt8):l9 l<4294967296:=V5 l _ o_
theorem PV(l:List UInt8):lF l<4294967296:=aqR (n:=32) o_ (PU l)
theorem eU(l:List UInt8):(dZ l).length=l.length+4:=by simp[dZ,nJ]
theorem afV{b:Nat}(ha:a<4294967296)(hb:b<4294967296):IntKind.u32.wrap ((BitVec.ofInt IntKind.u32.bits (a:Int)^^^BitVec.ofInt IntKind.u32.bits (b:Int)).toNat:Int)=((a^^^b:Nat):Int):=
 u32_xor_nat a b ha hb
theorem and1(ha:a<4294967296):IntKind.u32.wrap ((BitVec.ofInt IntKind.u32.bits (a:Int)&&&BitVec.ofInt IntKind.u32.bits (1:Int)).toNat:Int)=((a%2:Nat):Int):=by
 have h:IntKind.u32.wrap ((BitVec.ofInt IntKind.u32.bits (a:Int)&&&BitVec.ofInt IntKind.u32.bits ((1:Nat):Int)).toNat:Int)=((a&&&1:Nat):Int):=u32_and_nat a 1 ha o_;rw[Nat.and_one_is_mod]at h;exact h
theorem oC.and1{a:Nat}(ha:a<4294967296){A B:Prop}(h1:a%2=1->A)(h2:¬a%2=1->B):oC (IntKind.u32.wrap ((BitVec.ofInt IntKind.u32.bits (a:Int)&&&BitVec.ofInt IntKind.u32.bits (1:Int)).toNat:Int)=1) A B:=by
 have e:=_root_.Go.Proofs.YtifjccndenojlaaGreat.and1 ha;rw[e];refine⟨λ h=>h1 o_,λ h=>h2 o_⟩
theorem amC(a:Nat):(a:Int).fdiv (2^min (Int.toNat 1) IntKind.u32.bits)=((a/2:Nat):Int):=by
 show(a:Int).fdiv (2:Int)=_;rw[Int.fdiv_eq_ediv_of_nonneg _ o_];omega
theorem acg(r:Nat)(hr:r<4294967296)(c:UInt8):aH prog 204 [.v (.int .u32 (r:Int)),.v (.int .u8 (c.toNat:Int))] (.v (.int .u32 (xO r c:Int))) []:=by
 have hc:=apv c;have h0:r^^^c.toNat<4294967296:=aqR (n:=32) o_ o_;refine K1.E 0x2613 func204 ?_;repeat' ((conv=>whnf);first|refine K1.u ?_|fail)
 conv=>whnf
 refine aI.mk {j:Nat//j<=8} (λ j=>⟨[(0,.v (.int .u32 (uD (r^^^c.toNat) j.1:Int))),(9,.v (.int .i64 (j.1:Int)))],[],[],0⟩) (λ j=>8-j.1) ⟨0,aoB _⟩ _
  (dO.mk' [] _ _ _ rfl ⟨aY.int (afV hr o_),aY.int rfl,trivial⟩ trivial rfl) ?_
 rintro⟨j,hj⟩;dsimp only;have hj2:=EO h0 j;repeat' ((conv=>whnf);first|refine K1.u ?_|refine oC.and1 hj2 (λ _=>?_) (λ _=>?_)|refine aU.fF ?_|refine K1.y (λ _=>?_) (λ _=>?_)|fail)
 ·rename_i h1;refine⟨⟨j+1,o_⟩,_,dO.mk' [] _ _ _ rfl ⟨aY.int ?_,aY.int rfl,trivial⟩ trivial rfl,by show 8-(j+1)<8-j;omega⟩;show _=((jh (uD (r^^^c.toNat) j):Nat):Int);unfold jh;rw[if_pos h1,<-afV o_ o_,<-amC];rfl
 ·rename_i h1;refine⟨⟨j+1,o_⟩,_,dO.mk' [] _ _ _ rfl ⟨aY.int ?_,aY.int rfl,trivial⟩ trivial rfl,by show 8-(j+1)<8-j;omega⟩;show _=((jh (uD (r^^^c.toNat) j):Nat):Int);unfold jh;rw[if_neg h1];exact amC _
 ·conv=>whnf
  have:j=8:=o_
  subst this;exact bn.mk (au)
theorem V6(h:j<l.length):l9 (l.take (j+1))=xO (l9 (l.take j)) (l.getD j 0):=by
 rw[apB,aom h,List.getD,aom h,l9,apO];rfl
theorem Wr.anH{s:Nat}{m:Int}{K:Int->Prop}(h:K (IntKind.u8.wrap ((s:Int).fdiv m))):Wr ((s:Int).fdiv m) K .u8:= .raw .u8 h
theorem afW{n:Nat}(l:List UInt8)(hF:bG F l)(hn:n=l.length)(hl:l.length<=140737488355328):aH prog 173 [.sl 1 n true F] (.v (.int .u32 (lF l:Int))) []:=by
 refine aH.args (bvs:=[.sl 1 l.length true (aO l)]) ?_ (.of (λ X u hu=>aY.wS (sc:=true) hF hn X u hu) .nil);have amD (j:Nat):l9 (l.take j)<4294967296:=PU _;have hs (j:Nat) (c:UInt8):=acg (l9 (l.take j)) (amD j) c;refine K1.E 0x3ed func173 ?_
 conv=>whnf
 refine aI.mk {j:Nat//j<=l.length} (λ j=>⟨[(3,.v (.int .u32 (l9 (l.take j.1):Int))),(6,.sl 1 l.length true (aO l)),(7,.v (.int .i64 (l.length:Int))),(8,.v (.int .i64 (j.1:Int)))],[],[],0⟩) (λ j=>l.length-j.1) ⟨0,aoB _⟩ _
  (dO.mk' [] _ _ _ rfl ⟨aY.int rfl,au,au,aY.int rfl,trivial⟩ trivial rfl) ?_
 rintro⟨j,hj⟩;dsimp only;repeat' ((conv=>whnf);first|refine K1.u ?_|refine K1.P1 (hs j _) ?_|refine aU.fF ?_|refine K1.y (λ _=>?_) (λ _=>?_)|fail)
 ·refine⟨⟨j+1,o_⟩,_,dO.mk' [] _ _ _ rfl ⟨aY.int ?_,au,au,aY.int rfl,trivial⟩ trivial rfl,by show l.length-(j+1)<l.length-j;omega⟩;show _=((l9 (l.take (j+1)):Nat):Int);rw[V6 o_];rfl
 ·conv=>whnf
  refine bn.mk (aY.int ?_);show IntKind.u32.wrap ((BitVec.ofInt IntKind.u32.bits ((4294967295:Nat):Int)^^^BitVec.ofInt IntKind.u32.bits (l9 (l.take j):Int)).toNat:Int)=_;rw[afV o_ (amD j),aoF o_];rfl
def u8C(n:Nat):AV:= .v (.int .u8 ((UInt8.ofNat n).toNat:Int))
def YO(s:Nat):List AV:=[u8C s,u8C (s/256),u8C (s/65536),u8C (s/16777216)]
theorem alj(n:Nat)(m:Nat):IntKind.u8.wrap ((n:Int).fdiv ((m:Nat):Int))=((UInt8.ofNat (n/m)).toNat:Int):=by
 rw[IntKind.wrap_u8,Int.fdiv_eq_ediv_of_nonneg _ (Int.natCast_nonneg m),apS];simp
theorem u8V(n:Nat)(m:Nat):AV.v (.int .u8 (IntKind.u8.wrap ((n:Int).fdiv ((m:Nat):Int))))=u8C (n/m):=by rw[alj];rfl
theorem Gw{n:Nat}(l:List UInt8)(hF:bG F l)(hn:n=l.length)(hl:l.length<=140737488355328):aH prog 140 [.sl 1 n true F] (.agg (YO (lF l))) []:=by
 have hs:=PV l;have hss:=afW l hF hn hl;generalize lF l=s at hs hss;refine K1.E 0x33d func140 ?_;repeat' ((conv=>whnf);first|refine K1.u ?_|refine K1.P1 hss ?_|refine aI.rounds 5 ?_|refine aU.fF ?_|refine Wr.anH ?_|refine K1.z ?_|fail)
 conv=>whnf
 refine bn.mk (aY.of (congrArg AV.agg ?_));unfold YO;rw[<-u8V s 256,<-u8V s 65536,<-u8V s 16777216,show u8C s=AV.v (.int .u8 (IntKind.u8.wrap ((s:Int).fdiv ((1:Nat):Int)))) by rw[u8V,Nat.div_one]];rfl
theorem aaA(a0 a1 a2 a3 b0 b1 b2 b3:Int):zf prog 237 [.int .u8 a0,.int .u8 a1,.int .u8 a2,.int .u8 a3] [.int .u8 b0,.int .u8 b1,.int .u8 b2,.int .u8 b3] (a0=b0/\a1=b1/\a2=b2/\a3=b3):=by
 refine⟨by kernel_rfl,λ w=>⟨decide (a0=b0/\a1=b1/\a2=b2/\a3=b3),by rw[decide_eq_true_eq], ?_⟩⟩;show(Op.equalIn 10000 237 (.agg #[.int .u8 a0,.int .u8 a1,.int .u8 a2,.int .u8 a3]) (.agg #[.int .u8 b0,.int .u8 b1,.int .u8 b2,.int .u8 b3])).run prog w=_;rw[show(10000:Nat)=9999+1 from rfl,Op.equalIn];simp only[aoy,run_underlying Tryz.underlying237,aow];simp only[apL,Std.Legacy.Range.size,aqo,aqi,Nat.div_one,aq1,aq2,List.forIn_cons,List.forIn_nil];have u3:=Tryz.underlying5;have a3':=Tryz.isAgg5;have z3:=Tryz.sizeOf5;go_simp;repeat' split
 all_goals simp_all
theorem afX(l:List UInt8):bG (chunk 1 (YO (lF l))) (nJ l):=by
 intro i hi;have:i=0\/i=1\/i=2\/i=3:=by simp[nJ]at hi;omega
 rcases this with rfl|rfl|rfl|rfl<;>rfl
theorem ql(d:Nat){n:Nat}(l:List UInt8)(hF:bG F l)(hn:n=l.length)(hl:l.length<=1000000000):
  aH prog 94 [.sl 1 n true F] (.own d) [(d,.row 5 1 (dZ l).length true (aO (dZ l)))]:=by
 refine aH.args (bvs:=[.sl 1 l.length true (aO l)]) ?_ (.of (λ X u hu=>aY.wS (sc:=true) hF hn X u hu) .nil);have ht:=Gw l (bG.bytes l) rfl o_;refine K1.E 0x1d func94 ?_;repeat' ((conv=>whnf);first|refine K1.u ?_|refine K1.P1 ht ?_|refine AMk.none rfl o_ (by dsimp only;omega) o_ ?_|refine K1.z ?_|fail)
 conv=>whnf
 refine aU.uV d rfl rfl ?_ (au);apply dK.wS (l:=[]++l++nJ l)
 ·exact bG.app (bG.app (bG.nil _) (bG.bytes _) rfl) (afX l) s_
 ·simp[nJ]
 ·rfl
theorem EP(m:List UInt8)(k:Nat)(hk:k=m.length)(i:Nat):(((dZ m).getD (k+i) default).toNat:Int)=(((nJ m).getD i default).toNat:Int):=by
 subst hk;unfold dZ;rw[List.getD,ao2 o_,Nat.add_sub_cancel_left,List.getD]
def mY(l:List UInt8):Prop:=4<=l.length/\l=dZ (l.take (l.length-4))
theorem PW(d:Nat){n:Nat}(m:List UInt8)(hF:bG F (dZ m))(hn:n=(dZ m).length)(hl:m.length<=1000000000):
  aH prog 143 [.sl 1 n true F] (.bI [.own d,.v (.bool true)]) [(d,.row 5 1 m.length true (aO m))]:=by
 refine aH.args (bvs:=[.sl 1 (dZ m).length true (aO (dZ m))]) ?_ (.of (λ X u hu=>aY.wS (sc:=true) hF hn X u hu) .nil);have hlen:=eU m;have htk:(dZ m).take m.length=m:=by simp[dZ]
 have hFm:bG (aO (dZ m)) m:=λ i hi=>by have:=(bG.bytes (dZ m)).take m.length i;rw[htk]at this;exact this hi
 refine K1.E 0x20001d func143 ?_;repeat' ((conv=>whnf);first|refine K1.u ?_|refine K1.P1 (Gw m hFm o_ o_) ?_ rfl rfl|refine Ub.mk [.int .u8 _,.int .u8 _,.int .u8 _,.int .u8 _] [.int .u8 _,.int .u8 _,.int .u8 _,.int .u8 _] _ rfl rfl (aaA _ _ _ _ _ _ _ _) (oC.yes ⟨EP m _ o_ 0,EP m _ o_ 1,EP m _ o_ 2,EP m _ o_ 3⟩ ?_)|refine K1.o (id:=2) (nN [0,1,2,3,4,5,6,7,8,9,10] ((11,some [1])::nN [12,13] [])) ?_|fail)
 conv=>whnf
 refine aU.uV d rfl rfl ?_ (au);apply dK.wS (l:=[]++m)
 ·exact bG.app (bG.nil _) hFm rfl
 ·simp;omega
 ·rfl
theorem SG{a b:UInt8}(h:(a.toNat:Int)=(b.toNat:Int)):a=b:=UInt8.toNat_inj.1 o_
theorem amE(h:l.length=k+4):l.drop k=[l.getD (k+0) default,l.getD (k+1) default,l.getD (k+2) default,l.getD (k+3) default]:=by
 apply aqZ
 ·simp[h]
 ·intro i h1 h2;have hi:i<4:=by simpa using h2
  rw[List.getElem_drop];rcases(show i=0\/i=1\/i=2\/i=3 by omega)with rfl|rfl|rfl|rfl<;>simp[List.getD,h]
theorem aiN(h:l.length=k+4)(e:((l.getD (k+0) default).toNat:Int)=((UInt8.ofNat (lF (l.take k))).toNat:Int)/\((l.getD (k+1) default).toNat:Int)=((UInt8.ofNat (lF (l.take k)/256)).toNat:Int)/\
  ((l.getD (k+2) default).toNat:Int)=((UInt8.ofNat (lF (l.take k)/65536)).toNat:Int)/\((l.getD (k+3) default).toNat:Int)=((UInt8.ofNat (lF (l.take k)/16777216)).toNat:Int)):mY l:=by
 obtain⟨e0,e1,e2,e3⟩:=e;refine⟨o_, ?_⟩;rw[show l.length-4=k by omega];unfold dZ nJ;conv=>lhs;rw[<-apu k l,amE h]
 rw[SG e0,SG e1,SG e2,SG e3]
theorem aaB{n:Nat}(l:List UInt8)(h:¬mY l)(hF:bG F l)(hn:n=l.length)(hl:l.length<=1000000000):
  aH prog 143 [.sl 1 n true F] (.bI [.v (.slice none 0 0),.v (.bool false)]) []:=by
 refine aH.args (bvs:=[.sl 1 l.length true (aO l)]) ?_ (.of (λ X u hu=>aY.wS (sc:=true) hF hn X u hu) .nil);have hso (k:Nat) (hk:l.length=k+4):=λ e=>h (aiN (k:=k) hk e);refine K1.E 0x20001d func143 ?_;repeat' ((conv=>whnf);first|refine K1.u ?_|refine K1.P1 (Gw (l.take (l.length-4)) ((bG.bytes l).take _) (by rw[aou];omega) (by rw[aou];omega)) ?_ rfl rfl|refine Ub.mk [.int .u8 _,.int .u8 _,.int .u8 _,.int .u8 _] [.int .u8 _,.int .u8 _,.int .u8 _,.int .u8 _] _ rfl rfl (aaA _ _ _ _ _ _ _ _) (oC.no (λ e=>?_) ?_)|refine aU.fF ?_|refine K1.o (id:=2) (nN [0,1,2,3,4,5,6,7,8,9,10] ((11,some [1])::nN [12,13] [])) ?_|refine K1.y (λ _=>?_) (λ _=>?_)|fail)
 ·conv=>whnf
  exact bn.mk (au)
 ·have hk:((l.length:Int)-4).toNat=l.length-4:=o_
  rw[hk]at e;exact hso (l.length-4) o_ e
 ·conv=>whnf
  exact bn.mk (au)
theorem gy(k:Int):aH prog 128 [.v (.int .i64 k)] (.bI [.v (.bool (FD k)),.v (.bool (FH k)),.v (.bool (FI k)),.v (.bool (rcK k))]) []:=by
 refine K1.E 0xa8fd func128 ?_;repeat' ((conv=>whnf);first|refine aU.fF ?_|refine K1.y (λ _=>?_) (λ _=>?_)|fail)
 all_goals(conv=>whnf)
 all_goals(refine bn.mk (aY.of ?_))
 all_goals first|(subst_vars;rfl)|(simp[FD,FH,FI,rcK, *];omega)
theorem SH(n:Int):aH prog 160 [.v (.int .i64 n)] (.v (.bool (qE n))) []:=by
 refine K1.E 0x5 func160 ?_;repeat' ((conv=>whnf);first|refine aU.fF ?_|refine K1.y (λ _=>?_) (λ _=>?_)|fail)
 all_goals(conv=>whnf)
 all_goals(refine bn.mk (aY.of ?_))
 all_goals simp[qE,jf, *]
theorem alk{l:List Ev}(hj:j<l.length)(h:¬eH (l.getD j default)=0):l.all (λ e=>decide (eH e=0))=false:=by
 rw[List.all_eq_false];refine⟨l[j],ao1 hj, ?_⟩;rw[List.getD,aom hj]at h;simpa using h
theorem aiO{l:List Ev}(h:∀i,i<l.length->eH (l.getD i default)=0):l.all (λ e=>decide (eH e=0))=true:=by
 rw[aoD];intro e he;obtain⟨i,hi,rfl⟩:=List.mem_iff_getElem.1 he;have:=h i hi;rw[List.getD,aom hi]at this;simpa using this
theorem H8(k:Int)(h:¬ (1<=k/\k<=6)):aH prog 128 [.v (.int .i64 k)] (.bI [.v (.bool false),.v (.bool false),.v (.bool false),.v (.bool false)]) []:=by
 have:=gy k;rw[show FD k=false by simp[FD];omega,show FH k=false by simp[FH];omega,show FI k=false by simp[FI];omega,show rcK k=false by simp[rcK];omega]at this;exact this
theorem tC(x:Rc)(hl:x.ev.length<=140737488355328):aH prog 127 [x.av] (.v (.bool (iH x))) []:=by
 obtain⟨k,r,u,⟨c0,c1,c2,c3,c4⟩,ev⟩:=x;dsimp only at hl;rcases(show k=1\/k=2\/k=3\/k=4\/k=5\/k=6\/ ¬ (1<=k/\k<=6) by omega)with rfl|rfl|rfl|rfl|rfl|rfl|hk;all_goals dsimp only[Rc.av,Rc.cs]
 all_goals
  refine K1.E 0x10f4000000474000000057f func127 ?_;repeat' ((conv=>whnf);first|refine K1.u ?_|refine K1.P1 (H8 _ hk) ?_|refine K1.P1 (gy _) ?_|refine K1.P1 (SH _) ?_|refine aI.yP 45 6 rfl ?_|refine Ub.mk (aV.vs ⟨c0,c1,c2,c3,c4⟩) (aV.vs aW) (aV.mk c0 c1 c2 c3 c4=aW) rfl rfl (Gl _ _) ?_|refine aU.fF ?_|refine K1.z ?_|refine K1.y (λ _=>?_) (λ _=>?_)|fail)
  all_goals(conv=>whnf)
  all_goals first
   |refine bn.mk (aY.of ?_)
   |refine aI.mk {j:Nat//j<=ev.length/\ ∀i,i<j->eH (ev.getD i default)=0} (λ j=>⟨[(1,.box 0 0),(80,.sl 12 ev.length true (dI ev)),(81,.v (.int .i64 (ev.length:Int))),(82,.v (.int .i64 (j.1:Int)))],
     [(0,.box 127 [.v (.int .i64 _),.v (.int .i64 r),.v (.int .i64 u),.v (.int .i64 c0),.v (.int .i64 c1),.v (.int .i64 c2),.v (.int .i64 c3),.v (.int .i64 c4),.sl 12 ev.length true (dI ev)])],[],4⟩) (λ j=>ev.length-j.1) ⟨0,aoB _,λ i h=>absurd h (aoM i)⟩ _
     (dO.mk' [] _ _ _ rfl ⟨au,au,au,aY.int rfl,trivial⟩ ⟨ay rfl,trivial⟩ rfl) ?_
  all_goals try(simp[iH,rcK,FD,FH,FI,Pv,vZ,-List.length_eq_zero_iff, *]<;>omega;done)
  all_goals(rintro⟨j,hj,hall⟩;dsimp only)
  all_goals repeat' ((conv=>whnf);first|refine K1.u ?_|refine K1.P1 (oN (ev.getD (j:Int).toNat default)) ?_|refine aU.fF ?_|refine K1.y (λ _=>?_) (λ _=>?_)|fail)
  all_goals first
   |(conv=>whnf
     refine⟨⟨j+1,o_,λ i hi=>?_⟩,_,dO.mk' [] _ _ _ rfl ⟨au,au,au,aY.int rfl,trivial⟩ ⟨ay rfl,trivial⟩ rfl,by show ev.length-(j+1)<ev.length-j;omega⟩;rcases aoP i j with h|h
     ·exact hall i h
     ·rw[show i=j by omega];exact ‹eH (ev.getD (j:Int).toNat default)=0›)
   |(conv=>whnf
     refine bn.mk (aY.of ?_);have hno:=alk (l:=ev) (j:=j) o_ ‹¬eH (ev.getD (j:Int).toNat default)=0›;simp[iH,hno])
   |(conv=>whnf
     refine bn.mk (aY.of ?_);have hyes:=aiO (l:=ev) (λ i hi=>hall i o_);simp[iH,show qE 0=true from rfl,rcK,FD,FH,FI,Pv,vZ,-List.length_eq_zero_iff, *]<;>omega)
def gZ(l:List Ev):List UInt8:=l.flatMap fC
def ER(c:aV):List UInt8:=ig c.c0++ig c.c1++ig c.c2++ig c.c3++ig c.c4
def fE(x:Rc):List UInt8:=
 [byteOf x.k,byteOf x.r]++(if FD x.k then ig x.u else [])++(if FI x.k then ER x.c else [])++(if FH x.k then aN x.ev.length++gZ x.ev else [])
def aB(x:Rc):List UInt8:=aN (dZ (fE x)).length++dZ (fE x)
theorem afY(x:Rc)(hl:x.ev.length<=140737488355328)(h:iH x=false):aH prog 86 [x.av] (.bI [.v (.slice none 0 0),.v (.int .i64 1)]) []:=by
 have hm:=tC x hl;rw[h]at hm;refine K1.E 0x403c0203a040004f57f func86 ?_;repeat' ((conv=>whnf);first|refine K1.P1 hm ?_|refine aU.fF ?_|fail)
 conv=>whnf
 exact bn.mk (au)
inductive afZ(l:List Ev)(e:Ev):Prop where
 |own (r:Ev) (rs:List Ev) (h:kY l e=r::rs) (hs:aj prog 134 [(0,jT l)] [.own 0,e.av] (.own 1) [(1,jT (r::rs))])
 |same (h:kY l e=l) (hs:aj prog 134 [(0,jT l)] [.own 0,e.av] (.own 0) [(0,jT l)])
 |nil (h:kY l e=[]) (hs:aj prog 134 [(0,jT l)] [.own 0,e.av] (.v (.slice none 0 0)) [])
theorem Bj(kind:Int)(same:Ev->Bool)(e:Ev)(l:List Ev):sW kind same e l=l.filter (dY kind same e):=by
 unfold sW;refine ao4 λ a _=>?_;unfold dY;cases decide (a.k=kind)<;>cases same a<;>cases aP a e<;>rfl
theorem ES(l:List Ev)(e:Ev):uq l e=l.any (KW e):=by
 unfold uq;refine any_congr λ a _=>?_;rfl
theorem alm(l:List Ev):(l.filter λ a=>decide (a.k=1)||uq l a)=l.filter (tq l):=by
 refine ao4 λ a _=>?_;unfold tq;rw[ES]
theorem ET{l:List Ev}{m:List Ev}(h:kY l e=m++[e])(hs:aj prog 134 [(0,jT l)] [.own 0,e.av] (.own 1) [(1,jT (m++[e]))]):afZ l e:=by
 cases hm:m++[e]with
 |nil=>simp at hm
 |cons r rs=>rw[hm]at h hs;exact .own r rs h hs
theorem af0(l:List Ev)(e:Ev)(hk:1<=e.k/\e.k<=5)(hl:l.length<=1000000000):afZ l e:=by
 rcases(show e.k=1\/e.k=2\/e.k=3\/e.k=4\/e.k=5 by omega)with h|h|h|h|h
 ·exact ET (m:=l) (by unfold kY;rw[if_pos h]) (ala l e h hl)
 ·have hw:kY l e=(l.filter (dY 1 (λ _=>true) e)).filter (tq (l.filter (dY 1 (λ _=>true) e))):=by
   unfold kY;rw[if_neg o_,if_pos h,Bj,alm]
  cases hr:l.filter (dY 1 (λ _=>true) e)with
  |nil=>rw[hr]at hw;exact .nil hw (abV l e h hr hl)
  |cons r rs=>
   rw[hr]at hw;cases hx:(r::rs).filter (tq (r::rs))with
   |nil=>rw[hx]at hw;exact .nil hw (abU l e h r rs hr hx hl)
   |cons x xs=>rw[hx]at hw;exact .own x xs hw (abT l e h r rs hr x xs hx hl)
 ·cases hc:l.any (KW e)with
  |false=>exact .same (by unfold kY;rw[if_neg o_,if_neg o_,if_pos h,ES,hc];rfl) (afv l e h hc hl)
  |true=>
   have hw:kY l e=l.filter (dY 3 (λ a=>decide (a.l=e.l)) e)++[e]:=by
    unfold kY;rw[if_neg o_,if_neg o_,if_pos h,ES,hc,if_pos rfl,Bj];rfl
   cases hr:l.filter (dY 3 (λ a=>decide (a.l=e.l)) e)with
   |nil=>rw[hr]at hw;exact ET hw (ab8 l e h hc hr hl)
   |cons r rs=>rw[hr]at hw;exact ET hw (abQ l e h hc r rs hr hl)
 ·cases hc:l.any (KW e)with
  |false=>exact .same (by unfold kY;rw[if_neg o_,if_neg o_,if_neg o_,if_neg o_,ES,hc];rfl) (afw l e h hc hl)
  |true=>
   have hw:kY l e=l.filter (dY 4 (λ a=>decide (a.l=e.l)&&decide (a.v=e.v)) e)++[e]:=by
    unfold kY;rw[if_neg o_,if_neg o_,if_neg o_,if_neg o_,ES,hc,if_pos rfl,Bj];rfl
   cases hr:l.filter (dY 4 (λ a=>decide (a.l=e.l)&&decide (a.v=e.v)) e)with
   |nil=>rw[hr]at hw;exact ET hw (ab9 l e h hc hr hl)
   |cons r rs=>rw[hr]at hw;exact ET hw (abP l e h hc r rs hr hl)
 ·have hw:kY l e=l.filter (dY 4 (λ a=>decide (a.l=e.l)&&decide (a.v=e.v)) e):=by
   unfold kY;rw[if_neg o_,if_neg o_,if_neg o_,if_pos h,Bj];rfl
  cases hr:l.filter (dY 4 (λ a=>decide (a.l=e.l)&&decide (a.v=e.v)) e)with
  |nil=>rw[hr]at hw;exact .nil hw (abS l e h hr hl)
  |cons r rs=>rw[hr]at hw;exact .own r rs hw (abR l e h r rs hr hl)
theorem LC(w:World):(zeroValue 104).run prog w= .ok (.slice none 0 0) w:=by
 have h:(prog.info? 104).bind (·.zero)=some (.slice none 0 0):=by kernel_rfl
 cases hi:prog.info? 104 with
 |none=>rw[hi]at h;cases h
 |some info=>
  rw[hi]at h;have h:info.zero=_:=h;simp[zeroValue,typeInfo,hi,h]
theorem af2(h:eH e=0):1<=e.k/\e.k<=5:=by
 unfold eH at h;split at h
 ·omega
 ·split at h
  ·omega
  ·split at h
   ·omega
   ·unfold lS at h;grind [Ev.ed]
def NU(K:ByteArray->List Ev)(e:Ev):ByteArray->List Ev:=λ q=>if q=e.key then kY (K e.key) e else K q
theorem dK.st{d:Int}{m:AV}{x y:Int}(h:x=y):dK (.box 179 [.v (.int .u32 d),.v (.int .i32 0),.v (.int .u32 0),m,.v (.int .i64 x)]) (.box 179 [.v (.int .u32 d),.v (.int .i32 0),.v (.int .u32 0),m,.v (.int .i64 y)]):=by rw[h];exact dK.refl _
theorem ach(K:ByteArray->List Ev)(n:Int)(e:Ev)(hm:eH e=0)(hl:(K e.key).length<=1000000000)(h0:0<=n)(h1:n<=1000000000000)(kv:List (ByteArray×List Ev))(r:Ev)(rs:List Ev)
  (hr:rs.length<=1000000000)(hs:aj prog 134 [(0,jT (K e.key))] [.own 0,e.av] (.own 1) [(1,jT (r::rs))]):
  aj prog 89 [(0,stB 1 (.own 1) n),(1,.mp jB [(e.key,some 2)] (fA kv)),(2,jT (K e.key))] [.box 0 0,e.av] (.v (.int .i64 0)) [(0,stB 1 (.own 1) (n+((r::rs).length-(K e.key).length))),(1,.mp jB [(e.key,some 3)] (fA kv)),(3,jT (r::rs))]:=by
 have hmay:=oN e;rw[hm]at hmay;generalize K e.key=l at*;generalize fA kv=rv at*;obtain⟨er,en,ec,eh,ek,KZ,el,ev⟩:=e;dsimp only[Ev.av,Ev.cs,stB,jT,List.length_cons]at hmay hs⊢;refine K1.M 0x80000008ff func89 10 ?_;repeat' ((conv=>whnf);first|refine K1.u ?_|refine K1.P1 hmay ?_|refine bZ.done 0 rfl rfl ?_|refine bZ.add 0 4 rfl rfl o_ o_ ?_|refine ZN.mk LC ?_|refine Ju.mk 0 2 _ rfl rfl ?_|refine bZ.hdr bQ (dM bQ _) 6 2 ⟨_,_,func134,rfl,rfl⟩ rfl rfl (λ A c=>bZ.Ro 1 [(0,_)] hs rfl ⟨rfl,trivial⟩ rfl rfl ?_)|refine K1.o (id:=10) (nN [0,1,2,3,4,5,6] [(7,some [5,3,1,0])]) ?_|fail)
 all_goals(conv=>whnf)
 exact⟨[(12,3)],rfl,rfl,⟨⟨_,rfl,dK.st o_⟩,ay rfl,ay rfl,trivial⟩,rfl,rfl,au⟩
theorem YP(l:List Ev)(n:Int)(e:Ev)(hm:eH e=0)(hl:l.length<=1000000000)(h0:0<=n)(h1:n<=1000000000000)(kv:List (ByteArray×List Ev))(hn:0<l.length)
  (hs:aj prog 134 [(0,jT l)] [.own 0,e.av] (.own 0) [(0,jT l)]):
  aj prog 89 [(0,stB 1 (.own 1) n),(1,.mp jB [(e.key,some 2)] (fA kv)),(2,jT l)] [.box 0 0,e.av] (.v (.int .i64 0)) [(0,stB 1 (.own 1) n),(1,.mp jB [(e.key,some 2)] (fA kv)),(2,jT l)]:=by
 have hmay:=oN e;rw[hm]at hmay;generalize fA kv=rv at*;obtain⟨er,en,ec,eh,ek,KZ,el,ev⟩:=e;dsimp only[Ev.av,Ev.cs,stB,jT]at hmay hs⊢;refine K1.M 0x80000008ff func89 10 ?_;repeat' ((conv=>whnf);first|refine K1.u ?_|refine K1.P1 hmay ?_|refine bZ.done 0 rfl rfl ?_|refine bZ.add 0 4 rfl rfl o_ o_ ?_|refine ZN.mk LC ?_|refine Ju.mk 0 2 _ rfl rfl ?_|refine bZ.hdr bQ (dM bQ _) 6 2 ⟨_,_,func134,rfl,rfl⟩ rfl rfl (λ A c=>bZ.Ro 1 [(0,_)] hs rfl ⟨rfl,trivial⟩ rfl rfl ?_)|refine K1.o (id:=10) (nN [0,1,2,3,4,5,6] [(7,some [5,3,1,0])]) ?_|fail)
 all_goals(conv=>whnf)
 exact⟨[],rfl,rfl,⟨⟨_,rfl,dK.st o_⟩,ay rfl,ay rfl,trivial⟩,rfl,rfl,au⟩
theorem V7(l:List Ev)(n:Int)(e:Ev)(hm:eH e=0)(h0:0<=n)(h1:n<=1000000000000)(kv:List (ByteArray×List Ev))(hn:l=[])
  (hs:aj prog 134 [(0,jT l)] [.own 0,e.av] (.own 0) [(0,jT l)]):
  aj prog 89 [(0,stB 1 (.own 1) n),(1,.mp jB [(e.key,some 2)] (fA kv)),(2,jT l)] [.box 0 0,e.av] (.v (.int .i64 0)) [(0,stB 1 (.own 1) n),(1,.mp jB [(e.key,some 3)] (fA kv)),(3,jT [])]:=by
 have hmay:=oN e;rw[hm]at hmay;subst hn;generalize fA kv=rv at*;obtain⟨er,en,ec,eh,ek,KZ,el,ev⟩:=e;dsimp only[Ev.av,Ev.cs,stB,jT,List.length_nil]at hmay hs⊢;refine K1.M 0x80000008ff func89 10 ?_;repeat' ((conv=>whnf);first|refine K1.u ?_|refine K1.P1 hmay ?_|refine bZ.done 0 rfl rfl ?_|refine bZ.add 0 4 rfl rfl o_ o_ ?_|refine ZN.mk LC ?_|refine Ju.mk 0 2 _ rfl rfl ?_|refine bZ.hdr bQ (dM bQ _) 6 2 ⟨_,_,func134,rfl,rfl⟩ rfl rfl (λ A c=>bZ.Ro 1 [(0,_)] hs rfl ⟨rfl,trivial⟩ rfl rfl ?_)|refine K1.o (id:=9) (nN [0,1,2,3,4,5] [(6,some [5,3,1,0])]) ?_|fail)
 all_goals(conv=>whnf)
 first
  |exact⟨[(13,3)],rfl,rfl,⟨⟨_,rfl,dK.st o_⟩,ay rfl,⟨_,rfl,dK.row rfl (λ m hm=>absurd hm (aoM m))⟩,trivial⟩,rfl,rfl,au⟩
  |fail
theorem apply_nil(l:List Ev)(n:Int)(e:Ev)(hm:eH e=0)(hl:l.length<=1000000000)(h0:0<=n)(h1:n<=1000000000000)(kv:List (ByteArray×List Ev))
  (hs:aj prog 134 [(0,jT l)] [.own 0,e.av] (.v (.slice none 0 0)) []):
  aj prog 89 [(0,stB 1 (.own 1) n),(1,.mp jB [(e.key,some 2)] (fA kv)),(2,jT l)] [.box 0 0,e.av] (.v (.int .i64 0)) [(0,stB 1 (.own 1) (n-l.length)),(1,.mp jB [(e.key,some 3)] (fA kv)),(3,jT [])]:=by
 have hmay:=oN e;rw[hm]at hmay;generalize fA kv=rv at*;obtain⟨er,en,ec,eh,ek,KZ,el,ev⟩:=e;dsimp only[Ev.av,Ev.cs,stB,jT,List.length_nil]at hmay hs⊢;refine K1.M 0x80000008ff func89 10 ?_;repeat' ((conv=>whnf);first|refine K1.u ?_|refine K1.P1 hmay ?_|refine bZ.done 0 rfl rfl ?_|refine bZ.add 0 4 rfl rfl o_ o_ ?_|refine ZN.mk LC ?_|refine Ju.mk 0 2 _ rfl rfl ?_|refine bZ.hdr bQ (dM bQ _) 6 2 ⟨_,_,func134,rfl,rfl⟩ rfl rfl (λ A c=>bZ.Ro 1 [(0,_)] hs rfl ⟨rfl,trivial⟩ rfl rfl ?_)|refine K1.o (id:=9) (nN [0,1,2,3,4,5] [(6,some [5,3,1,0])]) ?_|fail)
 all_goals(conv=>whnf)
 first
  |exact⟨[(13,3)],rfl,rfl,⟨⟨_,rfl,dK.st o_⟩,ay rfl,⟨_,rfl,dK.row rfl (λ m hm=>absurd hm (aoM m))⟩,trivial⟩,rfl,rfl,au⟩
  |fail
theorem aci(n:Int):aj prog 133 [(0,.box 179 [.v (.int .u32 0),.v (.int .i32 1),.v (.int .u32 0),.v (.map none),.v (.int .i64 n)]),(1,.box 105 [.box 0 0])] [.box 1 0] (.bI [])
  [(0,.box 179 [.v (.int .u32 0),.v (.int .i32 1),.v (.int .u32 0),.own 2,.v (.int .i64 n)]),(1,.box 105 [.box 0 0]),(2,.mp jB [] [])]:=by
 refine K1.M 0x1 func133 10 ?_;repeat' ((conv=>whnf);first|refine akA.mk [] List.nodup_nil ?_|fail)
 all_goals(conv=>whnf)
 first
  |exact⟨[(10,2)],rfl,rfl,⟨ay rfl,ay rfl,ay rfl,trivial⟩,rfl,rfl,au⟩
  |fail
theorem amF(n:Int):aj prog 132 [(0,stB 0 (.v (.map none)) n),(1,.box 105 [.box 0 0])] [.box 0 0,.fn 133 [.box 1 0]] (.bI []) [(0,stB 1 (.own 2) n),(1,.box 105 [.box 0 0]),(2,.mp jB [] [])]:=
 aiB _ _ [.v (.int .u32 0),.v (.map none),.v (.int .i64 n)] [.v (.int .u32 0),.own 2,.v (.int .i64 n)] [.box 0 0] _ (aci n) rfl
theorem aiP(n:Int)(e:Ev)(hm:eH e=0)(h0:0<=n)(h1:n<=1000000000000)(r:Ev)(rs:List Ev)(hr:rs.length<=1000000000)
  (hs:aj prog 134 [(0,jT [])] [.own 0,e.av] (.own 1) [(1,jT (r::rs))]):
  aj prog 89 [(0,stB 0 (.v (.map none)) n)] [.box 0 0,e.av] (.v (.int .i64 0)) [(0,stB 1 (.own 1) (n+(r::rs).length)),(1,.mp jB [(e.key,some 3)] (fA [])),(3,jT (r::rs))]:=by
 have hmay:=oN e;rw[hm]at hmay;have hdo:=amF n;obtain⟨er,en,ec,eh,ek,KZ,el,ev⟩:=e;dsimp only[Ev.av,Ev.cs,stB,jT,List.length_cons,List.length_nil,fA,List.map_nil]at hmay hs hdo⊢;refine K1.M 0x80000008ff func89 10 ?_;repeat' ((conv=>whnf);first|refine K1.u ?_|refine K1.P1 hmay ?_|refine bZ.thn bQ (dM bQ _) ⟨_,_,func132,rfl,rfl⟩ (bZ.Ro 2 [(0,_),(1,_)] hdo rfl ⟨rfl,rfl,trivial⟩ rfl rfl ⟨_,afr.foc (e:=83) (s:=12) (f:=dI []) (k:=KZ) 12 13 d_ rfl s_, ?_⟩)|refine bZ.add 0 4 rfl rfl o_ o_ ?_|refine ZN.mk LC ?_|refine Ju.mk 0 13 _ rfl rfl ?_|refine bZ.hdr bQ (dM bQ _) 6 13 ⟨_,_,func134,rfl,rfl⟩ rfl rfl (λ A c=>bZ.Ro 1 [(0,_)] hs rfl ⟨rfl,trivial⟩ rfl rfl ?_)|refine K1.o (id:=10) (nN [0,1,2,3,4,5,6] [(7,some [5,3,1,0])]) ?_|fail)
 all_goals(conv=>whnf)
 first
  |exact⟨[(12,1),(14,3)],rfl,rfl,⟨⟨_,rfl,dK.st o_⟩,ay rfl,⟨_,rfl,dK.row rfl (λ m hm=>rfl)⟩,trivial⟩,rfl,rfl,au⟩
  |fail
theorem af4(n:Int)(e:Ev)(hm:eH e=0)(h0:0<=n)(h1:n<=1000000000000)
  (hs:aj prog 134 [(0,jT [])] [.own 0,e.av] (.own 0) [(0,jT [])]\/aj prog 134 [(0,jT [])] [.own 0,e.av] (.v (.slice none 0 0)) []):
  aj prog 89 [(0,stB 0 (.v (.map none)) n)] [.box 0 0,e.av] (.v (.int .i64 0)) [(0,stB 1 (.own 1) n),(1,.mp jB [(e.key,some 3)] (fA [])),(3,jT [])]:=by
 have hmay:=oN e;rw[hm]at hmay;have hdo:=amF n;obtain⟨er,en,ec,eh,ek,KZ,el,ev⟩:=e;dsimp only[Ev.av,Ev.cs,stB,jT,List.length_cons,List.length_nil,fA,List.map_nil]at hmay hs hdo⊢;rcases hs with hs|hs;all_goals
  refine K1.M 0x80000008ff func89 10 ?_;repeat' ((conv=>whnf);first|refine K1.u ?_|refine K1.P1 hmay ?_|refine bZ.thn bQ (dM bQ _) ⟨_,_,func132,rfl,rfl⟩ (bZ.Ro 2 [(0,_),(1,_)] hdo rfl ⟨rfl,rfl,trivial⟩ rfl rfl ⟨_,afr.foc (e:=83) (s:=12) (f:=dI []) (k:=KZ) 12 13 d_ rfl s_, ?_⟩)|refine bZ.add 0 4 rfl rfl o_ o_ ?_|refine ZN.mk LC ?_|refine Ju.mk 0 13 _ rfl rfl ?_|refine bZ.hdr bQ (dM bQ _) 6 13 ⟨_,_,func134,rfl,rfl⟩ rfl rfl (λ A c=>bZ.Ro 1 [(0,_)] hs rfl ⟨rfl,trivial⟩ rfl rfl ?_)|refine K1.o (id:=9) (nN [0,1,2,3,4,5] [(6,some [5,3,1,0])]) ?_|fail)
  all_goals(conv=>whnf)
  first
   |exact⟨[(12,1),(15,3)],rfl,rfl,⟨⟨_,rfl,dK.st o_⟩,ay rfl,⟨_,rfl,dK.row rfl (λ m hm=>absurd hm (aoM m))⟩,trivial⟩,rfl,rfl,au⟩
   |fail
theorem acj(l:List Ev)(e:Ev):(kY l e).length<=l.length+1:=by
 have d:∀k s,(sW k s e l).length<=l.length:=λ k s=>aoI _ _;unfold kY;split
 ·simp
 ·split
  ·exact ao7 (aoI _ _) (ao7 (d _ _) o_)
  ·split
   ·split
    ·have:=d 3 (zK e);simp;exact this
    ·omega
   ·split
    ·have:=d 4 (ru e);omega
    ·split
     ·have:=d 4 (ru e);simp;exact this
     ·omega
theorem af5(h:eH e=0):e.key.size<=9223372036854775807:=by
 unfold eH at h;split at h
 ·omega
 ·split at h
  ·omega
  ·split at h
   ·omega
   ·unfold lS at h;split at h
    ·omega
    ·split at h
     ·rename_i hk;exact absurd h hk
     ·rename_i hk;have hk:keyE e.key=0:=aqV.1 hk;unfold keyE at hk;split at hk
      ·rename_i hh;omega
      ·omega
theorem LD(K:ByteArray->List Ev)(e:Ev):NU K e e.key=kY (K e.key) e:=by simp[NU]
theorem SI(h:q≠e.key):NU K e q=K q:=by simp[NU,h]
def V8(K:ByteArray->List Ev)(n:Int)(e:Ev):Int:=n+((kY (K e.key) e).length-(K e.key).length)
theorem aiQ(K:ByteArray->List Ev)(n:Int)(m0:Nat)(e:Ev)(hm:eH e=0)(hl:(K e.key).length<1000000000)(h0:0<=n)(h1:n<=1000000000000):
  aj prog 89 [(0,.obs (yF K n m0))] [.box 0 0,e.av] (.v (.int .i64 0)) [(0,.obs (yF (NU K e) (V8 K n e) (m0+1)))]:=by
 have hks:=af5 hm;have hW:=af0 (K e.key) e (af2 hm) o_;have hlen:=acj (K e.key) e;refine aj.opn (ho:=[]) ⟨_,_,func89,rfl,rfl⟩ (VG K n m0 e.key) (λ y=>?_) rfl;cases y with
 |new h=>
  have hz:K e.key=[]:=h e.key;unfold V8;rw[hz]at hW hlen⊢;simp only[aor];have hcl:∀(l:List Ev)(m:Int),kY [] e=l->Closes [(0,stB 1 (.own 1) m),(1,.mp jB [(e.key,some 3)] (fA [])),(3,jT l)] 0 (yF (NU K e) m (m0+1)):=λ l m hl'=>
   EH (NU K e) m _ 3 o_ e.key l [] s_ s_ (λ q hq=>by rw[SI hq,h q];rfl) (by rw[LD,hz,hl']) s_ (λ p hp=>by cases hp) hks
  cases hW with
  |own r rs he hs=>
   refine⟨_,hcl (r::rs) _ he,rfl,rfl, ?_⟩;rw[he]at hlen⊢;have:=aiP n e hm h0 h1 r rs (by simp at hlen;simp[hlen]) hs;simp only[aoZ,Int.natCast_zero,Int.sub_zero]at this⊢;exact this
  |same he hs=>
   refine⟨_,hcl [] _ he,rfl,rfl, ?_⟩;rw[he];have:=af4 n e hm h0 h1 (.inl hs);rw[show n+((([]:List Ev).length:Int)-(([]:List Ev).length:Int))=n by simp];exact this
  |nil he hs=>
   refine⟨_,hcl [] _ he,rfl,rfl, ?_⟩;rw[he];have:=af4 n e hm h0 h1 (.inr hs);rw[show n+((([]:List Ev).length:Int)-(([]:List Ev).length:Int))=n by simp];exact this
 |old kv hn hk he hmm hky=>
  simp only[aor];have hcl:∀(l:List Ev)(m:Int)(j:Nat),2<=j->kY (K e.key) e=l->Closes [(0,stB 1 (.own 1) m),(1,.mp jB [(e.key,some j)] (fA kv)),(j,jT l)] 0 (yF (NU K e) m (m0+1)):=λ l m j hj hl'=>
   EH (NU K e) m _ j hj e.key l kv hn hk (λ q hq=>by rw[SI hq,he q hq]) (by rw[LD,hl']) o_ hky hks
  unfold V8;cases hW with
  |own r rs hq hs=>
   refine⟨_,hcl (r::rs) _ 3 o_ hq,rfl,rfl, ?_⟩;rw[hq]at hlen⊢;exact ach K n e hm o_ h0 h1 kv r rs (by simp at hlen;omega) hs
  |same hq hs=>
   rw[hq,show n+(((K e.key).length:Int)-((K e.key).length:Int))=n by omega];by_cases hp:0<(K e.key).length
   ·exact⟨_,hcl (K e.key) _ 2 o_ hq,rfl,rfl,YP (K e.key) n e hm o_ h0 h1 kv hp hs⟩
   ·have hp:K e.key=[]:=aoz o_;refine⟨_,hcl [] _ 3 o_ (hq.trans hp),rfl,rfl,V7 (K e.key) n e hm h0 h1 kv hp hs⟩
  |nil hq hs=>
   refine⟨_,hcl [] _ 3 o_ hq,rfl,rfl, ?_⟩;have:=apply_nil (K e.key) n e hm o_ h0 h1 kv hs;rw[hq,show n+((([]:List Ev).length:Int)-((K e.key).length:Int))=n-((K e.key).length:Int) by simp;omega];exact this
theorem amG:aj prog 107 [] [] (.box 0 0) [(0,.obs (yF (λ _=>[]) 0 0))]:=by
 refine aj.cls (hs':=[(0,stB 0 (.v (.map none)) 0)]) (ho:=[]) (PI _ 0 0 λ _=>rfl) ?_ rfl;dsimp only[stB,List.append_nil];refine K1.M 0x1 func107 10 ?_
 all_goals(conv=>whnf)
 exact⟨[(10,0)],rfl,rfl,⟨ay rfl,trivial⟩,rfl,rfl,au⟩
theorem NV(K:ByteArray->List Ev)(n:Int)(m:Nat)(y:aj7 K m):Closes (vg K n m y) 0 (yF K n m):=by
 cases y with
 |new h=>exact PI K n m h
 |old kv h=>exact Closes.pack (vg K n m) (.old kv h) rfl λ X hok=>Sj (hok _ aol)
section
open Go.RowKit Go.Maps Go.Sort Go.Shelf
structure aiR(rs:List (ByteArray×RW))(ss:List (List UInt8)):Prop where
 up:ss.Pairwise (·< ·)
 mem:∀x∈ss,∃p∈rs,dU p.1=x
 all:∀p∈rs,0<p.2.n->dU p.1∈ss
 len:ss.length<=rs.length
theorem aiS{l:List (List UInt8)}(hn:l.Nodup):(l.mergeSort λ x y=>decide (x<=y)).Pairwise (·< ·):=by
 have tr:∀a b c:List UInt8,leB a b=true->leB b c=true->leB a c=true:=λ a b c h1 h2=>by simp only[leB,decide_eq_true_eq]at*;exact List.le_trans h1 h2
 have to:∀a b:List UInt8,(leB a b||leB b a)=true:=λ a b=>by simp only[leB,apf,decide_eq_true_eq];exact List.le_total a b
 have h1:=List.pairwise_mergeSort tr to l;have h2:(l.mergeSort leB).Nodup:=(List.mergeSort_perm l leB).nodup_iff.2 hn;refine(h1.and h2).imp λ{a b} h=>?_;simp only[leB,decide_eq_true_eq]at h;rcases Decidable.em (a<b)with h'|h'
 ·exact h'
 ·exact absurd (List.le_antisymm h.1 (List.not_lt.1 h')) h.2
def Ia:Value->Option (DataW Unit×List MemPlace):=λ _=>some (.nil,[])
def aaC(v:Value):List UInt8:=match v with| .string b=>dU b|_=>[]
theorem aln{X:CX}{i:Nat}{t:TypeId}{rs:List (ByteArray×RW)}(h:aT X i (.mp t [] rs))(hky:∀p∈rs,p.1.size<=9223372036854775807)(hl:rs.length<=9223372036854775807):
  ∃b hs D0,X.ρ i= .tuple (.map (some b):: .map (some b)::hs).toArray/\X.w.ownsMap prog 9 Ia b rs.length D0/\Maps.size D0<=rs.length/\(strKeys D0).length<=rs.length/\(strKeys D0).Nodup/\(∀x∈strKeys D0,∃p∈rs,dU p.1=x)/\ ∀p∈rs,0<p.2.n->dU p.1∈strKeys D0:=by
 obtain⟨b,es,c,vs,hs,e,hh,hi,hr,hp,hn,hst⟩:=h;have hvs:vs=[]:=hi;subst hvs;simp only[ap1,aoN]at hp hn;have hent:∀x∈es.toList,∃p∈rs,x.key= .string p.1:=λ x hx=>by
  have:(x.key,x.val)∈mV (rs.map (·.1)) hs:=hp.mem_iff.1 (aoR.2 ⟨x,hx,rfl⟩);obtain⟨j,k,v,h1,_,h3,_⟩:=zo this;obtain⟨p,hp',rfl⟩:=aoR.1 (ao3 h1);exact⟨p,hp',congrArg Prod.fst h3⟩
 have hsz:es.size<=rs.length:=by
  have h1:=hp.length_eq;have h2:∀(ks:List ByteArray)(vs:List Value),(mV ks vs).length<=ks.length:=by
   intro ks;induction ks with
   |nil=>intro vs;simp[mV]
   |cons k ks ih=>
    intro vs;cases vs with
    |nil=>simp[mV]
    |cons v vs=>
     rw[lq,aop,aoE];have:=ih vs;have:(Ir k v).length<=1:=by unfold Ir;split<;>simp
     omega
  have:=h2 (rs.map (·.1)) hs;simp at h1 this;omega
 have hkey:∀x∈es.toList,WideElems.rd prog 9 Ia x=some (.string (aaC x.key),.nil):=λ x hx=>by
  obtain⟨p,hp',hk⟩:=hent x hx;have:=WideMaps.keyOf_string_mk (P:=prog) Tryz.underlying9 (hky p hp');unfold WideElems.rd;rw[hk];simp[this,Ia,aaC,dU]
 have F:WideElems.Fit prog 9 Ia es c:=⟨ao7 hsz hl,hst,λ x hx=>⟨_,hkey x hx⟩⟩;have hmap:es.toList.map (WideElems.rg prog 9 Ia)=es.toList.map λ x=>(Lit.string (aaC x.key),DataW.nil):=List.map_congr_left λ x hx=>WideElems.rg_of (hkey x hx);have hperm:(strKeys (.map ((es.toList.map (WideElems.rg prog 9 Ia)).foldr DataW.insert []):DataW Unit)).Perm (es.toList.map λ x=>aaC x.key):=by
  show(((es.toList.map (WideElems.rg prog 9 Ia)).foldr DataW.insert []).map λ p=>strOf p.1).Perm _;refine((WideShapes.sorted_perm _).map _).trans (.of_eq ?_);rw[hmap,List.map_map];rfl
 have hinj:∀a b:ByteArray,dU a=dU b->a=b:=λ a b h=>by
  have:a.data=b.data:=Array.toList_inj.1 h;cases a;cases b;simp at this;rw[this]
 refine⟨b,hs,_,e,⟨es,c,hh,F,hsz,rfl⟩, ?_,by rw[hperm.length_eq];simpa using hsz,hperm.nodup_iff.2 ?_,λ x hx=>?_,λ p hp' hpos=>?_⟩
 ·show((es.toList.map (WideElems.rg prog 9 Ia)).foldr DataW.insert []).length<=_;rw[(WideShapes.sorted_perm _).length_eq];simpa using hsz
 ·refine List.pairwise_map.2 (((MapKept.stamped_iff es c).1 hst).2.2.imp_of_mem λ{x y} hx hy hne he=>hne ?_);obtain⟨p,_,h1⟩:=hent x hx;obtain⟨q,_,h2⟩:=hent y hy;rw[h1,h2]at he⊢;exact congrArg Value.string (hinj _ _ he)
 ·obtain⟨y,hy,rfl⟩:=aoR.1 (hperm.mem_iff.1 hx);obtain⟨p,hp',hk⟩:=hent y hy;exact⟨p,hp',by rw[hk];rfl⟩
 ·obtain⟨j,hj⟩:=List.getElem?_of_mem hp';obtain⟨v,hv,hpos'⟩:∃v,hs[j]? =some v/\ ∀a b,v≠ .slice none a b:=by
   have key:∀(rs:List (ByteArray×RW))(hs:List Value)(j:Nat),jv X rs hs->rs[j]? =some p-> ∃v,hs[j]? =some v/\ ∀a b,v≠ .slice none a b:=by
    intro rs;induction rs with
    |nil=>intro hs j _ h;simp at h
    |cons q rs ih=>
     rintro hs j ⟨v,q',e,hrow,hq⟩ h;subst e;cases j with
     |zero=>
      simp at h;subst h;refine⟨v,rfl,λ a b hv=>?_⟩;obtain⟨us,hown,_⟩:=hrow;rcases hown.2 with⟨_,hz⟩|⟨g,cap,cur,hv',_⟩
      ·omega
      ·rw[hv']at hv;cases hv
     |succ j=>exact ih q' j hq (by simpa using h)
   exact key _ _ _ hr hj
  have hin:=QZ (ks:=rs.map (·.1)) (k:=p.1) (i:=j) (by rw[ao0,hj];rfl) hv hpos';obtain⟨x,hx,hxe⟩:=aoR.1 (hp.mem_iff.2 hin);refine hperm.mem_iff.2 (aoR.2 ⟨x,hx, ?_⟩);rw[show x.key= .string p.1 from congrArg Prod.fst hxe];rfl
end
section
open Go.RowKit Go.Maps Go.Sort Go.Shelf
theorem aiT{X:CX}{base:Nat}{v:Value}{l:List (List UInt8)}(h:X.w.ownsRow base 9 1 v l.length (l.map encStr)):pJ X v 9 1 l.length true (iD l):=by
 refine⟨l.map encStr,⟨h.1,h.2.imp id λ⟨g,cap,cur,h1,_,h2⟩=>⟨g,cap,cur,h1,aoB _,h2⟩⟩,o_,λ _ _=>rfl,λ _ x hx=>?_,aeR l⟩;rw[zJ]at hx;obtain⟨y,_,rfl⟩:=aoR.1 hx;exact⟨_,rfl⟩
theorem Rel.strRow{g:Base}{N:Nat}{bs:List (Array Value)}{ρ:Nat->Value}{a:Act}{w w':World}{st:AS}(R:Rel g N bs ρ a w st)(d:Nat){v:Value}{l:List (List UInt8)}(h:w'.ownsRow w.heap.size 9 1 v l.length (l.map encStr))(hb:Below w.heap.size w w'):
  Rel g N bs (cu ρ d v) a w' (st.obj d d (.row 9 1 l.length true (iD l)))/\dJ v=v:=by
 have hv:∀X:CX,X.w=w'->pJ X v 9 1 l.length true (iD l):=λ X hX=>aiT (base:=w.heap.size) (by rw[hX];exact h);have hh:dJ v=v:=by
  obtain⟨us,ho,_⟩:=hv ⟨w',λ _=>False,λ _=>undef⟩ rfl;exact eY ho
 refine⟨R.obj d d (R.below.then hb R.below.size) hb.size (λ b hlt _=>hb.block b hlt) (λ b hbl=>?_) (λ _=>?_) ?_,hh⟩
 ·rcases h.2 with⟨rfl,_⟩|⟨g,cap,cur,rfl,hge,_⟩
  ·simp[blks,iQ]at hbl
  ·simp[blks,iQ]at hbl;subst hbl;exact .inl hge
 ·show pJ _ (cu ρ d v d) _ _ _ _ _;rw[show cu ρ d v d=v by simp[cu]];exact hv _ rfl
 ·rcases h.2 with⟨rfl,_⟩|⟨g,cap,cur,rfl,hge,_⟩<;>simp[blks,iQ]
theorem V9{X:CX}{h:List (Nat×AO)}{ib b:Nat}{t:TypeId}{cs:List AV}{args:List Value}{f:FuncId}(_ho:∀p∈h,aT X p.1 p.2)(_hb:aK ib h=some (.box t cs))(e:X.ρ ib= .pointer (some ⟨b,0,none⟩))(hargs:aG (C2 X) [.fn f [.box ib 0]] args):args=[.func (.func f) #[] #[.pointer (some ⟨b,0,none⟩)]]:=by
 cases args with
 |nil=>have:=hargs.1;simp at this
 |cons a0 tl=>
  cases tl with
  |cons=>have:=hargs.1;simp at this
  |nil=>
   obtain⟨cs,h0,hcs⟩:∃us:List Value,a0= .func (.func f) #[] us.toArray/\aG (C0 X) [.box ib 0] us:=hargs.2 0 _ _ rfl rfl;subst h0;cases cs with
   |nil=>have:=hcs.1;simp at this
   |cons p tl=>
    cases tl with
    |cons=>have:=hcs.1;simp at this
    |nil=>
     obtain⟨b0,h1,h2⟩:∃b0,dJ (X.ρ ib)= .pointer (some ⟨b0,0,none⟩)/\p= .pointer (some ⟨b0,0,none⟩):=hcs.2 0 _ _ rfl rfl;rw[e]at h1;cases h1;subst h2;rfl
theorem bZ.sorted{L:Lay}{W:Walk}{d:Nat}{st:AS}{K:AV->AS->Prop}(j ib id:Nat){t mt:TypeId}{rs:List (ByteArray×RW)}(hb:aK ib st.heap=some (.box t [.own id]))(hf:aK id st.heap=some (.mp mt [] rs))(hky:∀p∈rs,p.1.size<=9223372036854775807)(hl:rs.length<=1000000000)
  (hK:∀ss,aiR rs ss->K (.own j) (st.obj j j (.row 9 1 ss.length true (iD ss)))):
  bZ prog L W d 82 [.fn 122 [.box ib 0]] st K:=by
 refine .sem ⟨_,_,func82,rfl,rfl⟩ λ g N bs ρ a w args R hargs=>?_;obtain⟨b,us,e,hh,hc⟩:=R.objs _ (aA hb);obtain⟨bm,hs,D0,em,hown,hsz,hlk,hnd,hmem,hall⟩:=aln (R.objs _ (aA hf)) hky o_;have e:ρ ib=_:=e;have em:ρ id=_:=em;have hh:w.heap[b]? =_:=hh;have hown:w.ownsMap _ _ _ _ _ _:=hown;obtain⟨u,hu,hxu⟩:=hc.get (i:=0) rfl;have hxu:u=dJ (ρ id):=hxu;rw[em]at hxu;have hxu:u= .map (some bm):=hxu;subst hxu;have hcell:w.cell? ⟨b,0,none⟩=some (.map (some bm)):=(oV (i:=0) hh).1.trans hu;have hlt:b<w.heap.size:=by
  rcases aoP b w.heap.size with h'|h'
  ·exact h'
  ·rw[apU h']at hh;cases hh
 obtain rfl:=V9 R.objs hb e hargs;have hseq:SeqGives Fence.wide 2 prog 122 #[.pointer (some ⟨b,0,none⟩)] encStr (λ ss=>ss.Perm (strKeys D0)) (Maps.size D0) w:=
  AnyZ.keys_gives (ρ:=Tryz.keys83_ren) {Tryz.keys83 with} Fence.wide _ trivial rfl o_ b bm rs.length D0 w hlt hcell hown
 have hso:=AnyZ.sorted_in Tryz.sorted82 Fence.wide 5 trivial trivial trivial trivial rfl o_ (Tryz.sorts82 _) (enters_of func121 (by kernel_rfl) rfl) 122 #[.pointer (some ⟨b,0,none⟩)] trivial (enters_of func122 (by kernel_rfl) rfl) _ _ (ao7 hsz (by unfold maxLen;omega)) o_ w hseq;refine(callsIn_wide.1 hso).mono ?_;rintro e0 w' ⟨v,ss,rfl,hS,hrow,_,hbel⟩;have hlen:(ss.mergeSort λ x y=>decide (x<=y)).length=ss.length:=apX ..;rw[<-hlen]at hrow;obtain⟨R',hv⟩:=R.strRow j hrow hbel;have hp:(ss.mergeSort λ x y=>decide (x<=y)).Perm (strKeys D0):=(List.mergeSort_perm _ _).trans hS;refine⟨v,_,_,_,rfl,hK _ ⟨aiS (hS.nodup_iff.2 hnd),λ x hx=>hmem x (hp.mem_iff.1 hx),λ p hp' hpos=>hp.mem_iff.2 (hall p hp' hpos),by rw[hp.length_eq];exact hlk⟩,R', ?_⟩;show v=dJ (cu ρ j v j);rw[show cu ρ j v j=v by simp[cu],hv]
theorem bZ.aiU{L:Lay}{W:Walk}{d:Nat}{st:AS}{K:AV->AS->Prop}(j ib:Nat){t:TypeId}(hb:aK ib st.heap=some (.box t [.v (.map none)]))
  (hK:K (.own j) (st.obj j j (.row 9 1 0 true (iD [])))):
  bZ prog L W d 82 [.fn 122 [.box ib 0]] st K:=by
 refine .sem ⟨_,_,func82,rfl,rfl⟩ λ g N bs ρ a w args R hargs=>?_;obtain⟨b,us,e,hh,hc⟩:=R.objs _ (aA hb);have e:ρ ib=_:=e;have hh:w.heap[b]? =_:=hh;obtain⟨u,hu,hxu⟩:=hc.get (i:=0) rfl;have hxu:u= .map none:=hxu;subst hxu;have hcell:w.cell? ⟨b,0,none⟩=some (.map none):=(oV (i:=0) hh).1.trans hu;have hlt:b<w.heap.size:=by
  rcases aoP b w.heap.size with h'|h'
  ·exact h'
  ·rw[apU h']at hh;cases hh
 obtain rfl:=V9 R.objs hb e hargs;have hseq:SeqGives Fence.wide 2 prog 122 #[.pointer (some ⟨b,0,none⟩)] encStr (λ ss:List (List UInt8)=>ss=[]) 0 w:=
  AnyZ.keys_gives_nil (ρ:=Tryz.keys83_ren) {Tryz.keys83 with} Fence.wide _ trivial rfl b w hlt hcell
 have hso:=AnyZ.sorted_in Tryz.sorted82 Fence.wide 5 trivial trivial trivial trivial rfl o_ (Tryz.sorts82 _) (enters_of func121 (by kernel_rfl) rfl) 122 #[.pointer (some ⟨b,0,none⟩)] trivial (enters_of func122 (by kernel_rfl) rfl) _ 0 (aoB _) o_ w hseq;refine(callsIn_wide.1 hso).mono ?_;rintro e0 w' ⟨v,ss,rfl,rfl,hrow,_,hbel⟩;rw[List.mergeSort_nil]at hrow;have hrow:w'.ownsRow w.heap.size 9 1 v ([]:List (List UInt8)).length (([]:List (List UInt8)).map encStr):=hrow;obtain⟨R',hv⟩:=R.strRow (l:=[]) j hrow hbel;refine⟨v,_,_,_,rfl,hK,R', ?_⟩;show v=dJ (cu ρ j v j);rw[show cu ρ j v j=v by simp[cu],hv]
end
theorem aiV:pz []=[]:=by
 rw[of_same (l:=[]) (key:=⟨#[]⟩) (λ x hx=>by cases hx)];rfl
def Ue(K:ByteArray->List Ev)(ss:List Str):List Cont:=ss.flatMap λ k=>pz (K (keyS k))
theorem af6{i:Nat}(h:i<ss.length):Ue K (ss.take (i+1))=Ue K (ss.take i)++pz (K (keyS (ss.getD i []))):=by
 unfold Ue;rw[apB,aqv,List.getD,aom h];simp
theorem alo(i:Nat):(Ue K (ss.take i)).length<=(Ue K ss).length:=by
 have:Ue K ss=Ue K (ss.take i)++Ue K (ss.drop i):=by
  unfold Ue;rw[<-aqv,apu]
 rw[this,aop];omega
inductive YQ(K:ByteArray->List Ev)(m:Nat)(ss:List Str)(kv0:List (ByteArray×List Ev)):Type where
 |key (i:Nat) (k:ByteArray) (kv:List (ByteArray×List Ev)) (hi:i<ss.length) (hk:k=keyS (ss.getD i [])) (h:FOK K m k (ss.map keyS) kv) (hp:kv0.Perm ((k,K k)::kv))
 |done
def YQ.n{K:ByteArray->List Ev}{m:Nat}{ss:List Str}{kv0:List (ByteArray×List Ev)}:YQ K m ss kv0->Nat
 | .key i .. =>ss.length-i
 | .done=>0
def IG(ss:List Str)(i:Nat):List (Nat×AV):=[(0,.box 0 0),(3,.own 90),(11,.own 11),(12,.v (.int .i64 (ss.length:Int))),(13,.v (.int .i64 (i:Int)))]
def II(K:ByteArray->List Ev)(ss:List Str)(i:Nat):List (Nat×AO):=[(90,.row 68 7 (Ue K (ss.take i)).length false (F8 (Ue K (ss.take i)))),(11,.row 9 1 ss.length true (iD ss))]
def af7(K:ByteArray->List Ev)(n:Int)(m:Nat)(ss:List Str)(kv0:List (ByteArray×List Ev)):YQ K m ss kv0->AS
 | .key i k kv _ _ _ _=>⟨IG ss i,(0,stB 1 (.own 1) n)::(1,.mp jB [(k,some 2)] (fA kv))::(2,jT (K k))::II K ss i,[[(0,.box 0 0),(1,.own 1)]],91⟩
 | .done=>⟨IG ss ss.length,(0,stB 1 (.own 1) n)::(1,.mp jB [] (fA kv0))::II K ss ss.length,[[(0,.box 0 0),(1,.own 1)]],91⟩
theorem alp{m:Nat}{kv:List (ByteArray×List Ev)}(h:KV K m kv)(hq:K q≠[]):∃p∈fA kv,p.1=q/\0<p.2.n:=by
 by_cases hm:q∈kv.map (·.1)
 ·obtain⟨pre,l,post,rfl,hn⟩:=A8 hm;have:K q=l:=by rw[h.eq,Ba hn];simp[oW]
  refine⟨(q,rwE l),by simp[fA],rfl, ?_⟩;rw[this]at hq;exact List.length_pos_iff.2 hq
 ·exact absurd (by rw[h.eq,CS hm]) hq
theorem alq(K:ByteArray->List Ev)(n:Int)(m:Nat)(O:List Cont)(hK:∀k,(K k).length<=1000000000)(hm:m<=1000000000)(hOl:O.length<=1000000000)
  (hO:∀ss:List Str,ss.Pairwise (·< ·)->(∀k,K (keyS k)≠[]->k∈ss)->Ue K ss=O):
  aj prog 45 [(0,.obs (yF K n m))] [.box 0 0] (.own 3) [(0,.obs (yF K n m)),(3,.row 68 7 O.length false (F8 O))]:=by
 refine aj.opn (ho:=[(3,.row 68 7 O.length false (F8 O))]) ⟨_,_,func45,rfl,rfl⟩ (Opens.pack (vg K n m)) (λ y=>⟨_,NV K n m y, ?_⟩) rfl;cases y with
 |new h=>
  refine⟨rfl,rfl, ?_⟩;have hO0:O=[]:=(hO [] List.Pairwise.nil λ k hk=>absurd (h _) hk).symm;subst hO0;simp only[vg,ao6,aoN];dsimp only[stB];refine K1.M 0x782d func45 10 ?_;repeat' ((conv=>whnf);first|refine K1.I 0x7 func83 ?_|refine bZ.aiU 11 10 rfl ?_|fail)
  conv=>whnf
  refine aI.nil 3 90 68 7 (F8 []) rfl o_ ?_;conv=>whnf
  refine aI.rounds 1 ?_;repeat' ((conv=>whnf);first|refine K1.u ?_|fail)
  conv=>whnf
  exact⟨[(90,3)],rfl,rfl,⟨ay rfl,⟨_,rfl,dK.aif rfl (λ i hi=>absurd hi (aoM i))⟩,trivial⟩,rfl,rfl,au⟩
 |old kv h=>
  refine⟨rfl,rfl, ?_⟩;have hky:∀p∈fA kv,p.1.size<=9223372036854775807:=λ p hp=>by
   obtain⟨q,hq,rfl⟩:=aoR.1 hp;exact h.ky q hq
  have hln:(fA kv).length<=1000000000:=by
   unfold fA;rw[aoO];exact ao7 h.ln hm
  simp only[vg,ao6,aoN];dsimp only[stB];refine K1.M 0x782d func45 10 ?_;repeat' ((conv=>whnf);first|refine K1.I 0x7 func83 ?_|refine bZ.sorted 11 10 1 rfl rfl hky hln (λ ss hss=>?_)|fail)
  have hks:∀x∈ss.map keyS,x∈kv.map (·.1):=λ x hx=>by
   obtain⟨k,hk,rfl⟩:=aoR.1 hx;obtain⟨p,hp,e⟩:=hss.mem k hk;rw[<-PG];exact aoR.2 ⟨p,hp,by rw[<-e];exact Vl rfl⟩
  have hO':Ue K ss=O:=hO ss hss.up λ k hk=>by
   obtain⟨p,hp,e,hpos⟩:=alp h hk;have:=hss.all p hp hpos;rwa [e,ab3]at this
  have hsl:ss.length<=1000000000:=ao7 hss.len hln;have hle:=λ i=>alo (K:=K) (ss:=ss) i;rw[hO']at hle;conv=>whnf
  refine aI.nil 3 90 68 7 (F8 []) rfl o_ ?_;conv=>whnf
  refine aI.imp ⟨IG ss 0,(0,stB 1 (.own 1) n)::(1,.mp jB [] (fA kv))::II K ss 0,[[(0,.box 0 0),(1,.own 1)]],91⟩
   (yN.leR (σ:=[]) ?_) ?_
  ·dsimp only[IG,II];exact dO.mk' [] _ _ _ rfl ⟨au,au,au,aY.int rfl,aY.int rfl,trivial⟩ ⟨ay rfl,ay rfl,⟨_,rfl,dK.aif rfl (λ i hi=>absurd hi (aoM i))⟩,ay rfl,trivial⟩ rfl
  have hst:∃x0:YQ K m ss kv,yN ⟨IG ss 0,(0,stB 1 (.own 1) n)::(1,.mp jB [] (fA kv))::II K ss 0,[[(0,.box 0 0),(1,.own 1)]],91⟩ (af7 K n m ss kv x0):=by
   by_cases hz:0<ss.length
   ·obtain⟨kv',hf,hpp,hI⟩:=abO (sl:=IG ss 0) (back:=[[(0,.box 0 0),(1,.own 1)]]) (b:=91) (n:=n) (H:=II K ss 0) h hks (k':=keyS (ss.getD 0 [])) (aoR.2 ⟨_,by rw[List.getD,aom hz];exact ao1 hz,rfl⟩) rfl rfl rfl;exact⟨.key 0 _ kv' hz rfl hf hpp,hI⟩
   ·have hn:ss=[]:=aoz o_;subst hn;exact⟨.done,yN.refl _⟩
  obtain⟨x0,hI0⟩:=hst;refine aI.mkI (YQ K m ss kv) (af7 K n m ss kv) YQ.n x0 hI0 ?_;clear x0 hI0;intro x;cases x with
  |done=>
   dsimp only[af7,IG,II];rw[aoF (aoH _),hO'];repeat' ((conv=>whnf);first|refine K1.u ?_|fail)
   conv=>whnf
   exact⟨[(1,1),(90,3)],rfl,rfl,⟨ay rfl,ay rfl,ay rfl,trivial⟩,rfl,rfl,au⟩
  |key i k kv' hi hk hf hp=>
   have hof:=anC (K k) (hK k);have hsn:=af6 (K:=K) hi;rw[<-hk]at hsn;have hb:(Ue K (ss.take i)).length+(pz (K k)).length<=1000000000:=by
    have:=hle (i+1);rw[hsn,aop]at this;omega
   have hJ:∃y:YQ K m ss kv,yN ⟨IG ss (i+1),(0,stB 1 (.own 1) n)::(1,.mp jB [(k,some 2)] (fA kv'))::(2,jT (K k))::II K ss (i+1),[[(0,.box 0 0),(1,.own 1)]],91⟩ (af7 K n m ss kv y)/\y.n<ss.length-i:=by
    by_cases hl:i+1<ss.length
    ·obtain⟨kv2,hf2,hpp,hI⟩:=afu (sl:=IG ss (i+1)) (back:=[[(0,.box 0 0),(1,.own 1)]]) (b:=91) (n:=n) (H:=II K ss (i+1)) hf (k':=keyS (ss.getD (i+1) [])) (aoR.2 ⟨_,by rw[List.getD,aom hl];exact ao1 hl,rfl⟩) rfl rfl rfl;exact⟨.key (i+1) _ kv2 hl rfl hf2 (hp.trans hpp),hI,by show ss.length-(i+1)<_;omega⟩
    ·have e:ss.length=i+1:=o_
     refine⟨.done, ?_,by show 0<_;omega⟩;show yN _ ⟨IG ss ss.length,(0,stB 1 (.own 1) n)::(1,.mp jB [] (fA kv))::II K ss ss.length,[[(0,.box 0 0),(1,.own 1)]],91⟩;rw[e];exact(PL rfl rfl rfl).trans (aft hp.symm rfl rfl rfl)
   obtain⟨y,hI,hy⟩:=hJ;dsimp only[af7,IG,II,stB,jT];repeat' ((conv=>whnf);first|refine K1.w ?_|refine K1.a ?_|refine K1.C 1 [(0,_)] (hof) rfl ?_|refine ZN.mk LC ?_|refine Ju.mk 0 2 _ rfl (by rw[hk];rfl) ?_|refine vK.mk (λ _=>?_) (λ _=>?_))
   rotate_left
   ·exact absurd (show Nat.ble _ _=false by assumption) (by rw[aqD,Nat.ble_eq];omega)
   conv=>whnf
   refine⟨y,yN.trans (yN.leR (σ:=[(92,90)]) ?_) hI,hy⟩;dsimp only[IG,II];refine dO.mk' [(92,90)] _ _ _ rfl ⟨au,au,au,au,aY.int rfl,trivial⟩ ⟨ay rfl,ay rfl,ay rfl,⟨_,rfl,dK.row ?_ (λ m hm=>?_)⟩,ay rfl,trivial⟩ rfl
   ·show _=(Ue K (ss.take (i+1))).length;rw[hsn,aop]
   ·show _=F8 (Ue K (ss.take (i+1))) m;rw[hsn];exact els_app (c:=Cont.cs) rfl m
theorem af8(t:Gg (nX (eqK e.key) P) e):NU (iO P) e=iO (P++[e]):=by
 funext q
 by_cases h:q=e.key
 ·subst h;rw[LD,Lj t]
 ·rw[SI h,H7 h]
theorem aaD{f g:Str->Nat}{k0:Str}:∀{ks:List Str},ks.Nodup->k0∈ks->(∀k,k≠k0->g k=f k)->(ks.map g).sum+f k0=(ks.map f).sum+g k0
 |[],_,h,_=>by cases h
 |k::ks,hn,hk,h=>by
  obtain⟨h1,h2⟩:=apj.1 hn;simp only[apd,List.sum_cons];by_cases e:k=k0
  ·subst e;have:ks.map g=ks.map f:=List.map_congr_left λ x hx=>h x λ e=>h1 (e▸hx);rw[this];omega
  ·have:=aaD h2 ((aot.1 hk).resolve_left λ h=>e h.symm) h;have:=h k e;omega
theorem acn(t:Gg (nX (eqK e.key) P) e):V8 (iO P) (qF P) e=qF (P++[e]):=by
 have hu:=jG ((P++[e]).map λ x:Ev=>dU x.key);generalize uniq ((P++[e]).map λ x:Ev=>dU x.key)=ks at hu;have hn:ks.Nodup:=hu.1.imp λ h=>by rintro rfl;exact List.lt_irrefl _ h
 have hm:∀x∈P++[e],dU x.key∈ks:=λ x hx=>(hu.2 _).2 (aoR.2 ⟨x,hx,rfl⟩);have h1:=Gu _ P hn λ x hx=>hm x (aoT _ (aoA.1 hx).1);have h2:=Gu _ (P++[e]) hn λ x hx=>hm x (aoA.1 hx).1;have h3:=aaD (f:=λ k=>(iO P (keyS k)).length) (g:=λ k=>(iO (P++[e]) (keyS k)).length) (k0:=dU e.key) hn (hm e s_) λ k hk=>by
  rw[H7 λ h=>hk (by rw[<-h];rfl)]
 unfold V8;have hk:keyS (dU e.key)=e.key:=Vl rfl;rw[hk,Lj t]at h3;omega
theorem aaE(P:List Ev)(key:ByteArray):(iO P key).length<=P.length:=
 ao7 (aoI _ _) (aoI _ _)
theorem af9(hp:∀key,YK (nX (eqK key) P) key)(hs:ss.Pairwise (·< ·))(hm:∀k,iO P (keyS k)≠[]->k∈ss):Ue (iO P) ss=pz P:=by
 have h:=ab5 hp (ks:=ss.filter λ k=>decide (iO P (keyS k)≠[])) (hs.filter _) λ k=>by
  rw[aoA];simp only[decide_eq_true_eq];exact⟨λ h=>h.2,λ h=>⟨hm k h,h⟩⟩
 rw[<-h];unfold Ue;have key:∀l:List Str,l.flatMap (λ k=>pz (iO P (keyS k)))=(l.filter λ k=>decide (iO P (keyS k)≠[])).flatMap λ k=>pz (iO P (keyS k)):=by
  intro l;induction l with
  |nil=>rfl
  |cons k l ih=>
   rw[apa,apo,ih];by_cases hk:iO P (keyS k)=[]
   ·rw[if_neg (by simpa using hk),hk,aiV];rfl
   ·rw[if_pos (by simpa using hk),apa]
 exact key ss
end Go.Proofs.YtifjccndenojlaaGreat
