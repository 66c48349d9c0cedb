/-
  Contracts of the walk:Crc,Rec,LvP,LvQ,LvR,LvS,LvT,LvV,LvW,LvY.
-/
import Derived.Test.YtkimgljckickcaaGreatRa19
import Derived.Test.YtkimgljckickcaaGreatRa9
import Derived.Laws.BitsAllLaws
import Derived.Laws.StructEq
import Derived.Laws.Cover2
import Derived.Test.YtkimgljckickcaaGreatRa12
import Derived.Test.YtkimgljckickcaaGreatRa17
import Derived.Test.YtkimgljckickcaaGreatRa18
import Derived.Test.YtkimgljckickcaaGreatRa14
import Derived.Test.YtkimgljckickcaaGreatRa15
import Derived.Test.YtkimgljckickcaaGreatRa11
import Derived.Test.YtkimgljckickcaaGreatRa6
import Derived.Test.YtkimgljckickcaaGreatRa20
set_option maxHeartbeats 16000000
set_option maxRecDepth 100000
set_option linter.unusedVariables false
set_option linter.unusedSimpArgs false
namespace Go.Proofs.YtkimgljckickcaaGreat
open Go.RowKit
open Go.Proofs.Tryz
variable{q:ByteArray}{K:ByteArray->List Ev}{e:Ev}{P:List Ev}{ss:List Str}{l:List UInt8}{a j k r:Nat}{F:Nat->List AV}
def jc(r:Nat):Nat:=if r%2=1 then(r/2)^^^3988292384 else r/2
def tY(r:Nat):Nat->Nat
 |0=>r
 |j+1=>jc (tY r j)
def wW(r:Nat)(c:UInt8):Nat:=tY (r^^^c.toNat) 8
def lN(l:List UInt8):Nat:=l.foldl wW 4294967295
def kW(l:List UInt8):Nat:=4294967295^^^lN l
def ng(l:List UInt8):List UInt8:=[UInt8.ofNat (kW l),UInt8.ofNat (kW l/256),UInt8.ofNat (kW l/65536),UInt8.ofNat (kW l/16777216)]
def dP(l:List UInt8):List UInt8:=l++ng l
theorem BP(h:r<4294967296):jc r<4294967296:=by
 unfold jc;split
 ·exact apr (n:=32) o_ o_
 ·omega
theorem Eb{r:Nat}(h:r<4294967296):∀j,tY r j<4294967296
 |0=>h
 |j+1=>BP (Eb h j)
theorem Xq(h:r<4294967296)(c:UInt8):wW r c<4294967296:=by
 have:=an3 c;exact Eb (apr (n:=32) o_ o_) 8
theorem UQ:∀(l:List UInt8)(r:Nat),r<4294967296->l.foldl wW r<4294967296
 |[],_,h=>h
 |c::l,_,h=>UQ l _ (Xq h c)
theorem Oi(l:List UInt8):lN l<4294967296:=UQ l _ o_
theorem Oj(l:List UInt8):kW l<4294967296:=apr (n:=32) o_ (Oi l)
theorem dW(l:List UInt8):(dP l).length=l.length+4:=by simp[dP,ng]
theorem aey{b:Nat}(ha:a<4294967296)(hb:b<4294967296):IntKind.u32.wrap ((BitVec.ofInt IntKind.u32.bits (a:Int)^^^BitVec.ofInt IntKind.u32.bits (b:Int)).toNat:Int)=((a^^^b:Nat):Int):=
 u32_xor_nat a b ha hb
theorem and1(ha:a<4294967296):IntKind.u32.wrap ((BitVec.ofInt IntKind.u32.bits (a:Int)&&&BitVec.ofInt IntKind.u32.bits (1:Int)).toNat:Int)=((a%2:Nat):Int):=by
 have h:IntKind.u32.wrap ((BitVec.ofInt IntKind.u32.bits (a:Int)&&&BitVec.ofInt IntKind.u32.bits ((1:Nat):Int)).toNat:Int)=((a&&&1:Nat):Int):=u32_and_nat a 1 ha o_;rw[Nat.and_one_is_mod]at h;exact h
theorem nR.and1{a:Nat}(ha:a<4294967296){A B:Prop}(h1:a%2=1->A)(h2:¬a%2=1->B):nR (IntKind.u32.wrap ((BitVec.ofInt IntKind.u32.bits (a:Int)&&&BitVec.ofInt IntKind.u32.bits (1:Int)).toNat:Int)=1) A B:=by
 have e:=_root_.Go.Proofs.YtkimgljckickcaaGreat.and1 ha;rw[e];refine⟨λ h=>h1 o_,λ h=>h2 o_⟩
theorem akZ(a:Nat):(a:Int).fdiv (2^min (Int.toNat 1) IntKind.u32.bits)=((a/2:Nat):Int):=by
 show(a:Int).fdiv (2:Int)=_;rw[Int.fdiv_eq_ediv_of_nonneg _ o_];omega
theorem aaU(r:Nat)(hr:r<4294967296)(c:UInt8):aF prog 240 [.v (.int .u32 (r:Int)),.v (.int .u8 (c.toNat:Int))] (.v (.int .u32 (wW r c:Int))) []:=by
 have hc:=an3 c;have h0:r^^^c.toNat<4294967296:=apr (n:=32) o_ o_;refine K1.E 0x2613 func240 ?_;repeat' ((conv=>whnf);first|refine K1.u ?_|fail)
 conv=>whnf
 refine aI.mk {j:Nat//j<=8} (λ j=>⟨[(0,.v (.int .u32 (tY (r^^^c.toNat) j.1:Int))),(9,.v (.int .i64 (j.1:Int)))],[],[],0⟩) (λ j=>8-j.1) ⟨0,ane _⟩ _
  (dZ.mk' [] _ _ _ rfl ⟨dJ.int (aey hr o_),dJ.int rfl,trivial⟩ trivial rfl) ?_
 rintro⟨j,hj⟩;dsimp only;have hj2:=Eb h0 j;repeat' ((conv=>whnf);first|refine K1.u ?_|refine nR.and1 hj2 (λ _=>?_) (λ _=>?_)|refine aT.fH ?_|refine K1.y (λ _=>?_) (λ _=>?_)|fail)
 ·rename_i h1;refine⟨⟨j+1,o_⟩,_,dZ.mk' [] _ _ _ rfl ⟨dJ.int ?_,dJ.int rfl,trivial⟩ trivial rfl,by show 8-(j+1)<8-j;omega⟩;show _=((jc (tY (r^^^c.toNat) j):Nat):Int);unfold jc;rw[if_pos h1,<-aey o_ o_,<-akZ];rfl
 ·rename_i h1;refine⟨⟨j+1,o_⟩,_,dZ.mk' [] _ _ _ rfl ⟨dJ.int ?_,dJ.int rfl,trivial⟩ trivial rfl,by show 8-(j+1)<8-j;omega⟩;show _=((jc (tY (r^^^c.toNat) j):Nat):Int);unfold jc;rw[if_neg h1];exact akZ _
 ·conv=>whnf
  have:j=8:=o_
  subst this;exact bF.mk (bY)
theorem UR(h:j<l.length):lN (l.take (j+1))=wW (lN (l.take j)) (l.getD j 0):=by
 rw[aoa,amX h,List.getD,amX h,lN,aoj];rfl
theorem Wr.ama{s:Nat}{m:Int}{K:Int->Prop}(h:K (IntKind.u8.wrap ((s:Int).fdiv m))):Wr ((s:Int).fdiv m) K .u8:= .raw .u8 h
theorem aez{n:Nat}(l:List UInt8)(hF:bg F l)(hn:n=l.length)(hl:l.length<=140737488355328):aF prog 226 [.sl 1 n true F] (.v (.int .u32 (kW l:Int))) []:=by
 refine aF.args (bvs:=[.sl 1 l.length true (aO l)]) ?_ (.of (λ X u hu=>dJ.vX (sc:=true) hF hn X u hu) .nil);have ak0 (j:Nat):lN (l.take j)<4294967296:=Oi _;have hs (j:Nat) (c:UInt8):=aaU (lN (l.take j)) (ak0 j) c;refine K1.E 0x3ed func226 ?_
 conv=>whnf
 refine aI.mk {j:Nat//j<=l.length} (λ j=>⟨[(3,.v (.int .u32 (lN (l.take j.1):Int))),(6,.sl 1 l.length true (aO l)),(7,.v (.int .i64 (l.length:Int))),(8,.v (.int .i64 (j.1:Int)))],[],[],0⟩) (λ j=>l.length-j.1) ⟨0,ane _⟩ _
  (dZ.mk' [] _ _ _ rfl gQ trivial rfl) ?_
 rintro⟨j,hj⟩;dsimp only;repeat' ((conv=>whnf);first|refine K1.u ?_|refine K1.P1 (hs j _) ?_|refine aT.fH ?_|refine K1.y (λ _=>?_) (λ _=>?_)|fail)
 ·refine⟨⟨j+1,o_⟩,_,dZ.mk' [] _ _ _ rfl ⟨dJ.int ?_,bY,bY,dJ.int rfl,trivial⟩ trivial rfl,by show l.length-(j+1)<l.length-j;omega⟩;show _=((lN (l.take (j+1)):Nat):Int);rw[UR o_];rfl
 ·conv=>whnf
  refine bF.mk (dJ.int ?_);show IntKind.u32.wrap ((BitVec.ofInt IntKind.u32.bits ((4294967295:Nat):Int)^^^BitVec.ofInt IntKind.u32.bits (lN (l.take j):Int)).toNat:Int)=_;rw[aey o_ (ak0 j),anf o_];rfl
def u8C(n:Nat):AV:= .v (.int .u8 ((UInt8.ofNat n).toNat:Int))
def Xr(s:Nat):List AV:=[u8C s,u8C (s/256),u8C (s/65536),u8C (s/16777216)]
theorem ajE(n:Nat)(m:Nat):IntKind.u8.wrap ((n:Int).fdiv ((m:Nat):Int))=((UInt8.ofNat (n/m)).toNat:Int):=by
 rw[IntKind.wrap_u8,Int.fdiv_eq_ediv_of_nonneg _ (Int.natCast_nonneg m),aoE];simp
theorem u8V(n:Nat)(m:Nat):AV.v (.int .u8 (IntKind.u8.wrap ((n:Int).fdiv ((m:Nat):Int))))=u8C (n/m):=by rw[ajE];rfl
theorem FK{n:Nat}(l:List UInt8)(hF:bg F l)(hn:n=l.length)(hl:l.length<=140737488355328):aF prog 194 [.sl 1 n true F] (.agg (Xr (kW l))) []:=by
 have hs:=Oj l;have hss:=aez l hF hn hl;generalize kW l=s at hs hss;refine K1.E 0x33d func194 ?_;repeat' ((conv=>whnf);first|refine K1.u ?_|refine K1.P1 hss ?_|refine aI.rounds 5 ?_|refine aT.fH ?_|refine Wr.ama ?_|refine K1.z ?_|fail)
 conv=>whnf
 refine bF.mk (dJ.of (congrArg AV.agg ?_));unfold Xr;rw[<-u8V s 256,<-u8V s 65536,<-u8V s 16777216,show u8C s=AV.v (.int .u8 (IntKind.u8.wrap ((s:Int).fdiv ((1:Nat):Int)))) by rw[u8V,Nat.div_one]];rfl
theorem Y6(a0 a1 a2 a3 b0 b1 b2 b3:Int):EN prog 301 [.int .u8 a0,.int .u8 a1,.int .u8 a2,.int .u8 a3] [.int .u8 b0,.int .u8 b1,.int .u8 b2,.int .u8 b3] (a0=b0/\a1=b1/\a2=b2/\a3=b3):=by
 refine⟨by kernel_rfl,λ w=>⟨decide (a0=b0/\a1=b1/\a2=b2/\a3=b3),by rw[decide_eq_true_eq], ?_⟩⟩;show(Op.equalIn 10000 301 (.agg #[.int .u8 a0,.int .u8 a1,.int .u8 a2,.int .u8 a3]) (.agg #[.int .u8 b0,.int .u8 b1,.int .u8 b2,.int .u8 b3])).run prog w=_;rw[show(10000:Nat)=9999+1 from rfl,Op.equalIn];simp only[am',run_underlying Tryz.underlying301,am8];simp only[Std.Legacy.Range.forIn_eq_forIn_range',Std.Legacy.Range.size,apk,apq,Nat.div_one,List.range'_succ,List.range'_zero,List.forIn_cons,List.forIn_nil];have u3:=Tryz.underlying5;have a3':=Tryz.isAgg5;have z3:=Tryz.sizeOf5;go_simp;repeat' split
 all_goals simp_all
theorem aeA(l:List UInt8):bg (chunk 1 (Xr (kW l))) (ng l):=by
 intro i hi;have:i=0\/i=1\/i=2\/i=3:=by simp[ng]at hi;omega
 rcases this with rfl|rfl|rfl|rfl<;>rfl
theorem pz(d:Nat){n:Nat}(l:List UInt8)(hF:bg F l)(hn:n=l.length)(hl:l.length<=1000000000):
  aF prog 137 [.sl 1 n true F] (.own d) [(d,.row 5 1 (dP l).length true (aO (dP l)))]:=by
 refine aF.args (bvs:=[.sl 1 l.length true (aO l)]) ?_ (.of (λ X u hu=>dJ.vX (sc:=true) hF hn X u hu) .nil);have ht:=FK l (bg.bytes l) rfl o_;refine K1.E 0x1d func137 ?_;repeat' ((conv=>whnf);first|refine K1.u ?_|refine K1.P1 ht ?_|refine AMk.none rfl o_ (by dsimp only;omega) o_ ?_|refine K1.z ?_|fail)
 conv=>whnf
 refine aT.uX d rfl rfl ?_ (bY);apply dK.vX (l:=[]++l++ng l)
 ·exact bg.app (bg.app (bg.nil _) (bg.bytes _) rfl) (aeA l) s_
 ·simp[ng]
 ·rfl
theorem Ec(m:List UInt8)(k:Nat)(hk:k=m.length)(i:Nat):(((dP m).getD (k+i) default).toNat:Int)=(((ng m).getD i default).toNat:Int):=by
 subst hk;unfold dP;rw[List.getD,anI o_,Nat.add_sub_cancel_left,List.getD]
def mO(l:List UInt8):Prop:=4<=l.length/\l=dP (l.take (l.length-4))
theorem Ol(d:Nat){n:Nat}(m:List UInt8)(hF:bg F (dP m))(hn:n=(dP m).length)(hl:m.length<=1000000000):
  aF prog 195 [.sl 1 n true F] (.aZ [.own d,.v (.bool true)]) [(d,.row 5 1 m.length true (aO m))]:=by
 refine aF.args (bvs:=[.sl 1 (dP m).length true (aO (dP m))]) ?_ (.of (λ X u hu=>dJ.vX (sc:=true) hF hn X u hu) .nil);have hlen:=dW m;have htk:(dP m).take m.length=m:=by simp[dP]
 have hFm:bg (aO (dP m)) m:=λ i hi=>by have:=(bg.bytes (dP m)).take m.length i;rw[htk]at this;exact this hi
 refine K1.E 0x20001d func195 ?_;repeat' ((conv=>whnf);first|refine K1.u ?_|refine K1.P1 (FK m hFm o_ o_) ?_ rfl rfl|refine ZI.mk [.int .u8 _,.int .u8 _,.int .u8 _,.int .u8 _] [.int .u8 _,.int .u8 _,.int .u8 _,.int .u8 _] _ rfl rfl (Y6 _ _ _ _ _ _ _ _) (nR.yes ⟨Ec m _ o_ 0,Ec m _ o_ 1,Ec m _ o_ 2,Ec m _ o_ 3⟩ ?_)|refine K1.o (id:=2) (nN [0,1,2,3,4,5,6,7,8,9,10] ((11,some [1])::nN [12,13] [])) ?_|fail)
 conv=>whnf
 refine aT.uX d rfl rfl ?_ (bY);apply dK.vX (l:=[]++m)
 ·exact bg.app (bg.nil _) hFm rfl
 ·simp;omega
 ·rfl
theorem QF{a b:UInt8}(h:(a.toNat:Int)=(b.toNat:Int)):a=b:=UInt8.toNat_inj.1 o_
theorem ak1(h:l.length=k+4):l.drop k=[l.getD (k+0) default,l.getD (k+1) default,l.getD (k+2) default,l.getD (k+3) default]:=by
 apply List.ext_getElem
 ·simp[h]
 ·intro i h1 h2;have hi:i<4:=by simpa using h2
  rw[List.getElem_drop];rcases(show i=0\/i=1\/i=2\/i=3 by omega)with rfl|rfl|rfl|rfl<;>simp[List.getD,h]
theorem ahd(h:l.length=k+4)(e:((l.getD (k+0) default).toNat:Int)=((UInt8.ofNat (kW (l.take k))).toNat:Int)/\((l.getD (k+1) default).toNat:Int)=((UInt8.ofNat (kW (l.take k)/256)).toNat:Int)/\
  ((l.getD (k+2) default).toNat:Int)=((UInt8.ofNat (kW (l.take k)/65536)).toNat:Int)/\((l.getD (k+3) default).toNat:Int)=((UInt8.ofNat (kW (l.take k)/16777216)).toNat:Int)):mO l:=by
 obtain⟨e0,e1,e2,e3⟩:=e;refine⟨o_, ?_⟩;rw[show l.length-4=k by omega];unfold dP ng;conv=>lhs;rw[<-an8 k l,ak1 h]
 rw[QF e0,QF e1,QF e2,QF e3]
theorem Y7{n:Nat}(l:List UInt8)(h:¬mO l)(hF:bg F l)(hn:n=l.length)(hl:l.length<=1000000000):
  aF prog 195 [.sl 1 n true F] (.aZ [.v (.slice none 0 0),.v (.bool false)]) []:=by
 refine aF.args (bvs:=[.sl 1 l.length true (aO l)]) ?_ (.of (λ X u hu=>dJ.vX (sc:=true) hF hn X u hu) .nil);have hso (k:Nat) (hk:l.length=k+4):=λ e=>h (ahd (k:=k) hk e);refine K1.E 0x20001d func195 ?_;repeat' ((conv=>whnf);first|refine K1.u ?_|refine K1.P1 (FK (l.take (l.length-4)) ((bg.bytes l).take _) (by rw[am5];omega) (by rw[am5];omega)) ?_ rfl rfl|refine ZI.mk [.int .u8 _,.int .u8 _,.int .u8 _,.int .u8 _] [.int .u8 _,.int .u8 _,.int .u8 _,.int .u8 _] _ rfl rfl (Y6 _ _ _ _ _ _ _ _) (nR.no (λ e=>?_) ?_)|refine aT.fH ?_|refine K1.o (id:=2) (nN [0,1,2,3,4,5,6,7,8,9,10] ((11,some [1])::nN [12,13] [])) ?_|refine K1.y (λ _=>?_) (λ _=>?_)|fail)
 ·conv=>whnf
  exact bF.mk (bY)
 ·have hk:((l.length:Int)-4).toNat=l.length-4:=o_
  rw[hk]at e;exact hso (l.length-4) o_ e
 ·conv=>whnf
  exact bF.mk (bY)
theorem fO(k:Int):aF prog 184 [.v (.int .i64 k)] (.aZ [.v (.bool (EH k)),.v (.bool (EI k)),.v (.bool (EJ k)),.v (.bool (rcK k))]) []:=by
 refine K1.E 0xa8fd func184 ?_;repeat' ((conv=>whnf);first|refine aT.fH ?_|refine K1.y (λ _=>?_) (λ _=>?_)|fail)
 all_goals(conv=>whnf)
 all_goals(refine bF.mk (dJ.of ?_))
 all_goals first|(subst_vars;rfl)|(simp[EH,EI,EJ,rcK, *];omega)
theorem QG(n:Int):aF prog 214 [.v (.int .i64 n)] (.v (.bool (pR n))) []:=by
 refine K1.E 0x5 func214 ?_;repeat' ((conv=>whnf);first|refine aT.fH ?_|refine K1.y (λ _=>?_) (λ _=>?_)|fail)
 all_goals(conv=>whnf)
 all_goals(refine bF.mk (dJ.of ?_))
 all_goals simp[pR,iY, *]
theorem ajF{l:List Ev}(hj:j<l.length)(h:¬dU (l.getD j default)=0):l.all (λ e=>decide (dU e=0))=false:=by
 rw[List.all_eq_false];refine⟨l[j],anH hj, ?_⟩;rw[List.getD,amX hj]at h;simpa using h
theorem ahe{l:List Ev}(h:∀i,i<l.length->dU (l.getD i default)=0):l.all (λ e=>decide (dU e=0))=true:=by
 rw[anh];intro e he;obtain⟨i,hi,rfl⟩:=List.mem_iff_getElem.1 he;have:=h i hi;rw[List.getD,amX hi]at this;simpa using this
theorem Gy(k:Int)(h:¬ (1<=k/\k<=6)):aF prog 184 [.v (.int .i64 k)] (.aZ [.v (.bool false),.v (.bool false),.v (.bool false),.v (.bool false)]) []:=by
 have:=fO k;rw[show EH k=false by simp[EH];omega,show EI k=false by simp[EI];omega,show EJ k=false by simp[EJ];omega,show rcK k=false by simp[rcK];omega]at this;exact this
theorem sH(x:Rc)(hl:x.ev.length<=140737488355328):aF prog 183 [x.av] (.v (.bool (iE x))) []:=by
 obtain⟨k,r,u,⟨c0,c1,c2,c3,c4⟩,ev⟩:=x;dsimp only at hl;rcases(show k=1\/k=2\/k=3\/k=4\/k=5\/k=6\/ ¬ (1<=k/\k<=6) by omega)with rfl|rfl|rfl|rfl|rfl|rfl|hk;all_goals dsimp only[Rc.av,Rc.cs]
 all_goals
  refine K1.E 0x10f4000000474000000057f func183 ?_;repeat' ((conv=>whnf);first|refine K1.u ?_|refine K1.P1 (Gy _ hk) ?_|refine K1.P1 (fO _) ?_|refine K1.P1 (QG _) ?_|refine aI.Au 45 6 rfl ?_|refine ZI.mk (aS.vs ⟨c0,c1,c2,c3,c4⟩) (aS.vs aV) (aS.mk c0 c1 c2 c3 c4=aV) rfl rfl (Fq _ _) ?_|refine aT.fH ?_|refine K1.z ?_|refine K1.y (λ _=>?_) (λ _=>?_)|fail)
  all_goals(conv=>whnf)
  all_goals first
   |refine bF.mk (dJ.of ?_)
   |refine aI.mk {j:Nat//j<=ev.length/\ ∀i,i<j->dU (ev.getD i default)=0} (λ j=>⟨[(1,.box 0 0),(80,.sl 12 ev.length true (dA ev)),(81,.v (.int .i64 (ev.length:Int))),(82,.v (.int .i64 (j.1:Int)))],
     [(0,.box 168 [.v (.int .i64 _),.v (.int .i64 r),.v (.int .i64 u),.v (.int .i64 c0),.v (.int .i64 c1),.v (.int .i64 c2),.v (.int .i64 c3),.v (.int .i64 c4),.sl 12 ev.length true (dA ev)])],[],4⟩) (λ j=>ev.length-j.1) ⟨0,ane _,λ i h=>absurd h (anA i)⟩ _
     (dZ.mk' [] _ _ _ rfl gQ nM rfl) ?_
  all_goals try(simp[iE,rcK,EH,EI,EJ,NW,vG,-List.length_eq_zero_iff, *]<;>omega;done)
  all_goals(rintro⟨j,hj,hall⟩;dsimp only)
  all_goals repeat' ((conv=>whnf);first|refine K1.u ?_|refine K1.P1 (oh (ev.getD (j:Int).toNat default)) ?_|refine aT.fH ?_|refine K1.y (λ _=>?_) (λ _=>?_)|fail)
  all_goals first
   |(conv=>whnf
     refine⟨⟨j+1,o_,λ i hi=>?_⟩,_,dZ.mk' [] _ _ _ rfl gQ nM rfl,by show ev.length-(j+1)<ev.length-j;omega⟩;rcases anr i j with h|h
     ·exact hall i h
     ·rw[show i=j by omega];exact ‹dU (ev.getD (j:Int).toNat default)=0›)
   |(conv=>whnf
     refine bF.mk (dJ.of ?_);have hno:=ajF (l:=ev) (j:=j) o_ ‹¬dU (ev.getD (j:Int).toNat default)=0›;simp[iE,hno])
   |(conv=>whnf
     refine bF.mk (dJ.of ?_);have hyes:=ahe (l:=ev) (λ i hi=>hall i o_);simp[iE,show pR 0=true from rfl,rcK,EH,EI,EJ,NW,vG,-List.length_eq_zero_iff, *]<;>omega)
def gJ(l:List Ev):List UInt8:=l.flatMap eH
def Ee(c:aS):List UInt8:=gU c.c0++gU c.c1++gU c.c2++gU c.c3++gU c.c4
def eY(x:Rc):List UInt8:=
 [byteOf x.k,byteOf x.r]++(if EH x.k then gU x.u else [])++(if EJ x.k then Ee x.c else [])++(if EI x.k then aK x.ev.length++gJ x.ev else [])
def ay(x:Rc):List UInt8:=aK (dP (eY x)).length++dP (eY x)
theorem aeB(x:Rc)(hl:x.ev.length<=140737488355328)(h:iE x=false):aF prog 130 [x.av] (.aZ [.v (.slice none 0 0),.v (.int .i64 1)]) []:=by
 have hm:=sH x hl;rw[h]at hm;refine K1.E 0x403c0203a040004f57f func130 ?_;repeat' ((conv=>whnf);first|refine K1.P1 hm ?_|refine aT.fH ?_|fail)
 conv=>whnf
 exact bF.mk (bY)
inductive aeC(l:List Ev)(e:Ev):Prop where
 |own (r:Ev) (rs:List Ev) (h:kP l e=r::rs) (hs:aj prog 188 [(0,jM l)] [.own 0,e.av] (.own 1) [(1,jM (r::rs))])
 |same (h:kP l e=l) (hs:aj prog 188 [(0,jM l)] [.own 0,e.av] (.own 0) [(0,jM l)])
 |nil (h:kP l e=[]) (hs:aj prog 188 [(0,jM l)] [.own 0,e.av] (.v (.slice none 0 0)) [])
theorem Ag(kind:Int)(same:Ev->Bool)(e:Ev)(l:List Ev):su kind same e l=l.filter (dO kind same e):=by
 unfold su;refine anF λ a _=>?_;unfold dO;cases decide (a.k=kind)<;>cases same a<;>cases aJ a e<;>rfl
theorem Ef(l:List Ev)(e:Ev):tK l e=l.any (JL e):=by
 unfold tK;refine any_congr λ a _=>?_;rfl
theorem ajG(l:List Ev):(l.filter λ a=>decide (a.k=1)||tK l a)=l.filter (sF l):=by
 refine anF λ a _=>?_;unfold sF;rw[Ef]
theorem Eh{l:List Ev}{m:List Ev}(h:kP l e=m++[e])(hs:aj prog 188 [(0,jM l)] [.own 0,e.av] (.own 1) [(1,jM (m++[e]))]):aeC l e:=by
 cases hm:m++[e]with
 |nil=>simp at hm
 |cons r rs=>rw[hm]at h hs;exact .own r rs h hs
theorem aeD(l:List Ev)(e:Ev)(hk:1<=e.k/\e.k<=5)(hl:l.length<=1000000000):aeC l e:=by
 rcases(show e.k=1\/e.k=2\/e.k=3\/e.k=4\/e.k=5 by omega)with h|h|h|h|h
 ·exact Eh (m:=l) (by unfold kP;rw[if_pos h]) (ajw l e h hl)
 ·have hw:kP l e=(l.filter (dO 1 (λ _=>true) e)).filter (sF (l.filter (dO 1 (λ _=>true) e))):=by
   unfold kP;rw[if_neg o_,if_pos h,Ag,ajG]
  cases hr:l.filter (dO 1 (λ _=>true) e)with
  |nil=>rw[hr]at hw;exact .nil hw (aaD l e h hr hl)
  |cons r rs=>
   rw[hr]at hw;cases hx:(r::rs).filter (sF (r::rs))with
   |nil=>rw[hx]at hw;exact .nil hw (aaC l e h r rs hr hx hl)
   |cons x xs=>rw[hx]at hw;exact .own x xs hw (aaB l e h r rs hr x xs hx hl)
 ·cases hc:l.any (JL e)with
  |false=>exact .same (by unfold kP;rw[if_neg o_,if_neg o_,if_pos h,Ef,hc];rfl) (aeb l e h hc hl)
  |true=>
   have hw:kP l e=l.filter (dO 3 (λ a=>decide (a.l=e.l)) e)++[e]:=by
    unfold kP;rw[if_neg o_,if_neg o_,if_pos h,Ef,hc,if_pos rfl,Ag];rfl
   cases hr:l.filter (dO 3 (λ a=>decide (a.l=e.l)) e)with
   |nil=>rw[hr]at hw;exact Eh hw (aaJ l e h hc hr hl)
   |cons r rs=>rw[hr]at hw;exact Eh hw (aay l e h hc r rs hr hl)
 ·cases hc:l.any (JL e)with
  |false=>exact .same (by unfold kP;rw[if_neg o_,if_neg o_,if_neg o_,if_neg o_,Ef,hc];rfl) (aec l e h hc hl)
  |true=>
   have hw:kP l e=l.filter (dO 4 (λ a=>decide (a.l=e.l)&&decide (a.v=e.v)) e)++[e]:=by
    unfold kP;rw[if_neg o_,if_neg o_,if_neg o_,if_neg o_,Ef,hc,if_pos rfl,Ag];rfl
   cases hr:l.filter (dO 4 (λ a=>decide (a.l=e.l)&&decide (a.v=e.v)) e)with
   |nil=>rw[hr]at hw;exact Eh hw (aaK l e h hc hr hl)
   |cons r rs=>rw[hr]at hw;exact Eh hw (aax l e h hc r rs hr hl)
 ·have hw:kP l e=l.filter (dO 4 (λ a=>decide (a.l=e.l)&&decide (a.v=e.v)) e):=by
   unfold kP;rw[if_neg o_,if_neg o_,if_neg o_,if_pos h,Ag];rfl
  cases hr:l.filter (dO 4 (λ a=>decide (a.l=e.l)&&decide (a.v=e.v)) e)with
  |nil=>rw[hr]at hw;exact .nil hw (aaA l e h hr hl)
  |cons r rs=>rw[hr]at hw;exact .own r rs hw (aaz l e h r rs hr hl)
theorem J7(w:World):(zeroValue 75).run prog w= .ok (.slice none 0 0) w:=by
 have h:(prog.info? 75).bind (·.zero)=some (.slice none 0 0):=by kernel_rfl
 cases hi:prog.info? 75 with
 |none=>rw[hi]at h;cases h
 |some info=>
  rw[hi]at h;have h:info.zero=_:=h;simp[zeroValue,typeInfo,hi,h]
theorem aeE(h:dU e=0):1<=e.k/\e.k<=5:=by
 unfold dU at h;split at h
 ·omega
 ·split at h
  ·omega
  ·split at h
   ·omega
   ·unfold lF at h;grind [Ev.ed]
def L6(K:ByteArray->List Ev)(e:Ev):ByteArray->List Ev:=λ q=>if q=e.key then kP (K e.key) e else K q
theorem dK.st{d:Int}{m:AV}{x y:Int}(h:x=y):dK (.box 237 [.v (.int .u32 d),.v (.int .i32 0),.v (.int .u32 0),m,.v (.int .i64 x)]) (.box 237 [.v (.int .u32 d),.v (.int .i32 0),.v (.int .u32 0),m,.v (.int .i64 y)]):=by rw[h];exact dK.refl _
theorem aaV(K:ByteArray->List Ev)(n:Int)(e:Ev)(hm:dU e=0)(hl:(K e.key).length<=1000000000)(h0:0<=n)(h1:n<=1000000000000)(kv:List (ByteArray×List Ev))(r:Ev)(rs:List Ev)
  (hr:rs.length<=1000000000)(hs:aj prog 188 [(0,jM (K e.key))] [.own 0,e.av] (.own 1) [(1,jM (r::rs))]):
  aj prog 133 [(0,stB 1 (.own 1) n),(1,.mp jr [(e.key,some 2)] (eG kv)),(2,jM (K e.key))] [.box 0 0,e.av] (.v (.int .i64 0)) [(0,stB 1 (.own 1) (n+((r::rs).length-(K e.key).length))),(1,.mp jr [(e.key,some 3)] (eG kv)),(3,jM (r::rs))]:=by
 have hmay:=oh e;rw[hm]at hmay;generalize K e.key=l at*;generalize eG kv=rv at*;obtain⟨er,en,ec,eh,ek,Ut,el,ev⟩:=e;dsimp only[Ev.av,Ev.cs,stB,jM,List.length_cons]at hmay hs⊢;refine K1.M 0x80000008ff func133 10 ?_;repeat' ((conv=>whnf);first|refine K1.u ?_|refine K1.P1 hmay ?_|refine bQ.done 0 rfl rfl ?_|refine bQ.add 0 4 rfl rfl o_ o_ ?_|refine ZN.mk J7 ?_|refine Ir.mk 0 2 _ rfl rfl ?_|refine bQ.hdr bU (dS bU _) 6 2 ⟨_,_,func188,rfl,rfl⟩ rfl rfl (λ A c=>bQ.Qb 1 [(0,_)] hs rfl ⟨rfl,trivial⟩ rfl rfl ?_)|refine K1.o (id:=10) (nN [0,1,2,3,4,5,6] [(7,some [5,3,1,0])]) ?_|fail)
 all_goals(conv=>whnf)
 exact⟨[(12,3)],rfl,rfl,⟨⟨_,rfl,dK.st o_⟩,dB rfl,dB rfl,trivial⟩,rfl,rfl,bY⟩
theorem Xt(l:List Ev)(n:Int)(e:Ev)(hm:dU e=0)(hl:l.length<=1000000000)(h0:0<=n)(h1:n<=1000000000000)(kv:List (ByteArray×List Ev))(hn:0<l.length)
  (hs:aj prog 188 [(0,jM l)] [.own 0,e.av] (.own 0) [(0,jM l)]):
  aj prog 133 [(0,stB 1 (.own 1) n),(1,.mp jr [(e.key,some 2)] (eG kv)),(2,jM l)] [.box 0 0,e.av] (.v (.int .i64 0)) [(0,stB 1 (.own 1) n),(1,.mp jr [(e.key,some 2)] (eG kv)),(2,jM l)]:=by
 have hmay:=oh e;rw[hm]at hmay;generalize eG kv=rv at*;obtain⟨er,en,ec,eh,ek,Ut,el,ev⟩:=e;dsimp only[Ev.av,Ev.cs,stB,jM]at hmay hs⊢;refine K1.M 0x80000008ff func133 10 ?_;repeat' ((conv=>whnf);first|refine K1.u ?_|refine K1.P1 hmay ?_|refine bQ.done 0 rfl rfl ?_|refine bQ.add 0 4 rfl rfl o_ o_ ?_|refine ZN.mk J7 ?_|refine Ir.mk 0 2 _ rfl rfl ?_|refine bQ.hdr bU (dS bU _) 6 2 ⟨_,_,func188,rfl,rfl⟩ rfl rfl (λ A c=>bQ.Qb 1 [(0,_)] hs rfl ⟨rfl,trivial⟩ rfl rfl ?_)|refine K1.o (id:=10) (nN [0,1,2,3,4,5,6] [(7,some [5,3,1,0])]) ?_|fail)
 all_goals(conv=>whnf)
 exact⟨[],rfl,rfl,⟨⟨_,rfl,dK.st o_⟩,dB rfl,dB rfl,trivial⟩,rfl,rfl,bY⟩
theorem UU(l:List Ev)(n:Int)(e:Ev)(hm:dU e=0)(h0:0<=n)(h1:n<=1000000000000)(kv:List (ByteArray×List Ev))(hn:l=[])
  (hs:aj prog 188 [(0,jM l)] [.own 0,e.av] (.own 0) [(0,jM l)]):
  aj prog 133 [(0,stB 1 (.own 1) n),(1,.mp jr [(e.key,some 2)] (eG kv)),(2,jM l)] [.box 0 0,e.av] (.v (.int .i64 0)) [(0,stB 1 (.own 1) n),(1,.mp jr [(e.key,some 3)] (eG kv)),(3,jM [])]:=by
 have hmay:=oh e;rw[hm]at hmay;subst hn;generalize eG kv=rv at*;obtain⟨er,en,ec,eh,ek,Ut,el,ev⟩:=e;dsimp only[Ev.av,Ev.cs,stB,jM,List.length_nil]at hmay hs⊢;refine K1.M 0x80000008ff func133 10 ?_;repeat' ((conv=>whnf);first|refine K1.u ?_|refine K1.P1 hmay ?_|refine bQ.done 0 rfl rfl ?_|refine bQ.add 0 4 rfl rfl o_ o_ ?_|refine ZN.mk J7 ?_|refine Ir.mk 0 2 _ rfl rfl ?_|refine bQ.hdr bU (dS bU _) 6 2 ⟨_,_,func188,rfl,rfl⟩ rfl rfl (λ A c=>bQ.Qb 1 [(0,_)] hs rfl ⟨rfl,trivial⟩ rfl rfl ?_)|refine K1.o (id:=9) (nN [0,1,2,3,4,5] [(6,some [5,3,1,0])]) ?_|fail)
 all_goals(conv=>whnf)
 first
  |exact⟨[(13,3)],rfl,rfl,⟨⟨_,rfl,dK.st o_⟩,dB rfl,⟨_,rfl,dK.row rfl (λ m hm=>absurd hm (anA m))⟩,trivial⟩,rfl,rfl,bY⟩
  |fail
theorem apply_nil(l:List Ev)(n:Int)(e:Ev)(hm:dU e=0)(hl:l.length<=1000000000)(h0:0<=n)(h1:n<=1000000000000)(kv:List (ByteArray×List Ev))
  (hs:aj prog 188 [(0,jM l)] [.own 0,e.av] (.v (.slice none 0 0)) []):
  aj prog 133 [(0,stB 1 (.own 1) n),(1,.mp jr [(e.key,some 2)] (eG kv)),(2,jM l)] [.box 0 0,e.av] (.v (.int .i64 0)) [(0,stB 1 (.own 1) (n-l.length)),(1,.mp jr [(e.key,some 3)] (eG kv)),(3,jM [])]:=by
 have hmay:=oh e;rw[hm]at hmay;generalize eG kv=rv at*;obtain⟨er,en,ec,eh,ek,Ut,el,ev⟩:=e;dsimp only[Ev.av,Ev.cs,stB,jM,List.length_nil]at hmay hs⊢;refine K1.M 0x80000008ff func133 10 ?_;repeat' ((conv=>whnf);first|refine K1.u ?_|refine K1.P1 hmay ?_|refine bQ.done 0 rfl rfl ?_|refine bQ.add 0 4 rfl rfl o_ o_ ?_|refine ZN.mk J7 ?_|refine Ir.mk 0 2 _ rfl rfl ?_|refine bQ.hdr bU (dS bU _) 6 2 ⟨_,_,func188,rfl,rfl⟩ rfl rfl (λ A c=>bQ.Qb 1 [(0,_)] hs rfl ⟨rfl,trivial⟩ rfl rfl ?_)|refine K1.o (id:=9) (nN [0,1,2,3,4,5] [(6,some [5,3,1,0])]) ?_|fail)
 all_goals(conv=>whnf)
 first
  |exact⟨[(13,3)],rfl,rfl,⟨⟨_,rfl,dK.st o_⟩,dB rfl,⟨_,rfl,dK.row rfl (λ m hm=>absurd hm (anA m))⟩,trivial⟩,rfl,rfl,bY⟩
  |fail
theorem aaW(n:Int):aj prog 187 [(0,.box 237 [.v (.int .u32 0),.v (.int .i32 1),.v (.int .u32 0),.v (.map none),.v (.int .i64 n)]),(1,.box 148 [.box 0 0])] [.box 1 0] (.aZ [])
  [(0,.box 237 [.v (.int .u32 0),.v (.int .i32 1),.v (.int .u32 0),.own 2,.v (.int .i64 n)]),(1,.box 148 [.box 0 0]),(2,.mp jr [] [])]:=by
 refine K1.M 0x1 func187 10 ?_;repeat' ((conv=>whnf);first|refine aiV.mk [] List.nodup_nil ?_|fail)
 all_goals(conv=>whnf)
 first
  |exact iF [(10,2)]
  |fail
theorem ak2(n:Int):aj prog 186 [(0,stB 0 (.v (.map none)) n),(1,.box 148 [.box 0 0])] [.box 0 0,.fn 187 [.box 1 0]] (.aZ []) [(0,stB 1 (.own 2) n),(1,.box 148 [.box 0 0]),(2,.mp jr [] [])]:=
 ag3 _ _ [.v (.int .u32 0),.v (.map none),.v (.int .i64 n)] [.v (.int .u32 0),.own 2,.v (.int .i64 n)] [.box 0 0] _ (aaW n) rfl
theorem ahf(n:Int)(e:Ev)(hm:dU e=0)(h0:0<=n)(h1:n<=1000000000000)(r:Ev)(rs:List Ev)(hr:rs.length<=1000000000)
  (hs:aj prog 188 [(0,jM [])] [.own 0,e.av] (.own 1) [(1,jM (r::rs))]):
  aj prog 133 [(0,stB 0 (.v (.map none)) n)] [.box 0 0,e.av] (.v (.int .i64 0)) [(0,stB 1 (.own 1) (n+(r::rs).length)),(1,.mp jr [(e.key,some 3)] (eG [])),(3,jM (r::rs))]:=by
 have hmay:=oh e;rw[hm]at hmay;have hdo:=ak2 n;obtain⟨er,en,ec,eh,ek,Ut,el,ev⟩:=e;dsimp only[Ev.av,Ev.cs,stB,jM,List.length_cons,List.length_nil,eG,List.map_nil]at hmay hs hdo⊢;refine K1.M 0x80000008ff func133 10 ?_;repeat' ((conv=>whnf);first|refine K1.u ?_|refine K1.P1 hmay ?_|refine bQ.thn bU (dS bU _) ⟨_,_,func186,rfl,rfl⟩ (bQ.Qb 2 [(0,_),(1,_)] hdo rfl ⟨rfl,rfl,trivial⟩ rfl rfl ⟨_,ad7.foc (e:=74) (s:=12) (f:=dA []) (k:=Ut) 12 13 d_ rfl s_, ?_⟩)|refine bQ.add 0 4 rfl rfl o_ o_ ?_|refine ZN.mk J7 ?_|refine Ir.mk 0 13 _ rfl rfl ?_|refine bQ.hdr bU (dS bU _) 6 13 ⟨_,_,func188,rfl,rfl⟩ rfl rfl (λ A c=>bQ.Qb 1 [(0,_)] hs rfl ⟨rfl,trivial⟩ rfl rfl ?_)|refine K1.o (id:=10) (nN [0,1,2,3,4,5,6] [(7,some [5,3,1,0])]) ?_|fail)
 all_goals(conv=>whnf)
 first
  |exact⟨[(12,1),(14,3)],rfl,rfl,⟨⟨_,rfl,dK.st o_⟩,dB rfl,⟨_,rfl,dK.row rfl (λ m hm=>rfl)⟩,trivial⟩,rfl,rfl,bY⟩
  |fail
theorem aeF(n:Int)(e:Ev)(hm:dU e=0)(h0:0<=n)(h1:n<=1000000000000)
  (hs:aj prog 188 [(0,jM [])] [.own 0,e.av] (.own 0) [(0,jM [])]\/aj prog 188 [(0,jM [])] [.own 0,e.av] (.v (.slice none 0 0)) []):
  aj prog 133 [(0,stB 0 (.v (.map none)) n)] [.box 0 0,e.av] (.v (.int .i64 0)) [(0,stB 1 (.own 1) n),(1,.mp jr [(e.key,some 3)] (eG [])),(3,jM [])]:=by
 have hmay:=oh e;rw[hm]at hmay;have hdo:=ak2 n;obtain⟨er,en,ec,eh,ek,Ut,el,ev⟩:=e;dsimp only[Ev.av,Ev.cs,stB,jM,List.length_cons,List.length_nil,eG,List.map_nil]at hmay hs hdo⊢;rcases hs with hs|hs;all_goals
  refine K1.M 0x80000008ff func133 10 ?_;repeat' ((conv=>whnf);first|refine K1.u ?_|refine K1.P1 hmay ?_|refine bQ.thn bU (dS bU _) ⟨_,_,func186,rfl,rfl⟩ (bQ.Qb 2 [(0,_),(1,_)] hdo rfl ⟨rfl,rfl,trivial⟩ rfl rfl ⟨_,ad7.foc (e:=74) (s:=12) (f:=dA []) (k:=Ut) 12 13 d_ rfl s_, ?_⟩)|refine bQ.add 0 4 rfl rfl o_ o_ ?_|refine ZN.mk J7 ?_|refine Ir.mk 0 13 _ rfl rfl ?_|refine bQ.hdr bU (dS bU _) 6 13 ⟨_,_,func188,rfl,rfl⟩ rfl rfl (λ A c=>bQ.Qb 1 [(0,_)] hs rfl ⟨rfl,trivial⟩ rfl rfl ?_)|refine K1.o (id:=9) (nN [0,1,2,3,4,5] [(6,some [5,3,1,0])]) ?_|fail)
  all_goals(conv=>whnf)
  first
   |exact⟨[(12,1),(15,3)],rfl,rfl,⟨⟨_,rfl,dK.st o_⟩,dB rfl,⟨_,rfl,dK.row rfl (λ m hm=>absurd hm (anA m))⟩,trivial⟩,rfl,rfl,bY⟩
   |fail
theorem aaX(l:List Ev)(e:Ev):(kP l e).length<=l.length+1:=by
 have d:∀k s,(su k s e l).length<=l.length:=λ k s=>anj _ _;unfold kP;split
 ·simp
 ·split
  ·exact anK (anj _ _) (anK (d _ _) o_)
  ·split
   ·split
    ·have:=d 3 (yS e);simp;exact this
    ·omega
   ·split
    ·have:=d 4 (qG e);omega
    ·split
     ·have:=d 4 (qG e);simp;exact this
     ·omega
theorem aeG(h:dU e=0):e.key.size<=9223372036854775807:=by
 unfold dU at h;split at h
 ·omega
 ·split at h
  ·omega
  ·split at h
   ·omega
   ·unfold lF at h;split at h
    ·omega
    ·split at h
     ·rename_i hk;exact absurd h hk
     ·rename_i hk;have hk:keyE e.key=0:=apu.1 hk;unfold keyE at hk;split at hk
      ·rename_i hh;omega
      ·omega
theorem J8(K:ByteArray->List Ev)(e:Ev):L6 K e e.key=kP (K e.key) e:=by simp[L6]
theorem QH(h:q≠e.key):L6 K e q=K q:=by simp[L6,h]
def UW(K:ByteArray->List Ev)(n:Int)(e:Ev):Int:=n+((kP (K e.key) e).length-(K e.key).length)
theorem ahg(K:ByteArray->List Ev)(n:Int)(m0:Nat)(e:Ev)(hm:dU e=0)(hl:(K e.key).length<1000000000)(h0:0<=n)(h1:n<=1000000000000):
  aj prog 133 [(0,.obs (xR K n m0))] [.box 0 0,e.av] (.v (.int .i64 0)) [(0,.obs (xR (L6 K e) (UW K n e) (m0+1)))]:=by
 have hks:=aeG hm;have hW:=aeD (K e.key) e (aeE hm) o_;have hlen:=aaX (K e.key) e;refine aj.opn (ho:=[]) ⟨_,_,func133,rfl,rfl⟩ (Uo K n m0 e.key) (λ y=>?_) rfl;cases y with
 |new h=>
  have hz:K e.key=[]:=h e.key;unfold UW;rw[hz]at hW hlen⊢;simp only[am2];have hcl:∀(l:List Ev)(m:Int),kP [] e=l->Closes [(0,stB 1 (.own 1) m),(1,.mp jr [(e.key,some 3)] (eG [])),(3,jM l)] 0 (xR (L6 K e) m (m0+1)):=λ l m hl'=>
   DZ (L6 K e) m _ 3 o_ e.key l [] s_ s_ (λ q hq=>by rw[QH hq,h q];rfl) (by rw[J8,hz,hl']) s_ (λ p hp=>by cases hp) hks
  cases hW with
  |own r rs he hs=>
   refine⟨_,hcl (r::rs) _ he,rfl,rfl, ?_⟩;rw[he]at hlen⊢;have:=ahf n e hm h0 h1 r rs (by simp at hlen;simp[hlen]) hs;simp only[anD,Int.natCast_zero,Int.sub_zero]at this⊢;exact this
  |same he hs=>
   refine⟨_,hcl [] _ he,rfl,rfl, ?_⟩;rw[he];have:=aeF n e hm h0 h1 (.inl hs);rw[show n+((([]:List Ev).length:Int)-(([]:List Ev).length:Int))=n by simp];exact this
  |nil he hs=>
   refine⟨_,hcl [] _ he,rfl,rfl, ?_⟩;rw[he];have:=aeF n e hm h0 h1 (.inr hs);rw[show n+((([]:List Ev).length:Int)-(([]:List Ev).length:Int))=n by simp];exact this
 |old kv hn hk he hmm hky=>
  simp only[am2];have hcl:∀(l:List Ev)(m:Int)(j:Nat),2<=j->kP (K e.key) e=l->Closes [(0,stB 1 (.own 1) m),(1,.mp jr [(e.key,some j)] (eG kv)),(j,jM l)] 0 (xR (L6 K e) m (m0+1)):=λ l m j hj hl'=>
   DZ (L6 K e) m _ j hj e.key l kv hn hk (λ q hq=>by rw[QH hq,he q hq]) (by rw[J8,hl']) o_ hky hks
  unfold UW;cases hW with
  |own r rs hq hs=>
   refine⟨_,hcl (r::rs) _ 3 o_ hq,rfl,rfl, ?_⟩;rw[hq]at hlen⊢;exact aaV K n e hm o_ h0 h1 kv r rs (by simp at hlen;omega) hs
  |same hq hs=>
   rw[hq,show n+(((K e.key).length:Int)-((K e.key).length:Int))=n by omega];by_cases hp:0<(K e.key).length
   ·exact⟨_,hcl (K e.key) _ 2 o_ hq,rfl,rfl,Xt (K e.key) n e hm o_ h0 h1 kv hp hs⟩
   ·have hp:K e.key=[]:=am9 o_;refine⟨_,hcl [] _ 3 o_ (hq.trans hp),rfl,rfl,UU (K e.key) n e hm h0 h1 kv hp hs⟩
  |nil hq hs=>
   refine⟨_,hcl [] _ 3 o_ hq,rfl,rfl, ?_⟩;have:=apply_nil (K e.key) n e hm o_ h0 h1 kv hs;rw[hq,show n+((([]:List Ev).length:Int)-((K e.key).length:Int))=n-((K e.key).length:Int) by simp;omega];exact this
theorem ak3:aj prog 177 [] [] (.box 0 0) [(0,.obs (xR (λ _=>[]) 0 0))]:=by
 refine aj.cls (hs':=[(0,stB 0 (.v (.map none)) 0)]) (ho:=[]) (Ob _ 0 0 λ _=>rfl) ?_ rfl;dsimp only[stB,List.append_nil];refine K1.M 0x1 func177 10 ?_
 all_goals(conv=>whnf)
 exact iF [(10,0)]
theorem L8(K:ByteArray->List Ev)(n:Int)(m:Nat)(y:aiA K m):Closes (uK K n m y) 0 (xR K n m):=by
 cases y with
 |new h=>exact Ob K n m h
 |old kv h=>exact Closes.pack (uK K n m) (.old kv h) rfl λ X hok=>Qx (hok _ amW)
section
open Go.RowKit Go.Maps Go.Sort Go.Shelf
structure ahh(rs:List (ByteArray×RW))(ss:List (List UInt8)):Prop where
 up:ss.Pairwise (·< ·)
 mem:∀x∈ss,∃p∈rs,dM p.1=x
 all:∀p∈rs,0<p.2.n->dM p.1∈ss
 len:ss.length<=rs.length
theorem ahi{l:List (List UInt8)}(hn:l.Nodup):(l.mergeSort λ x y=>decide (x<=y)).Pairwise (·< ·):=by
 have tr:∀a b c:List UInt8,leB a b=true->leB b c=true->leB a c=true:=λ a b c h1 h2=>by simp only[leB,decide_eq_true_eq]at*;exact List.le_trans h1 h2
 have to:∀a b:List UInt8,(leB a b||leB b a)=true:=λ a b=>by simp only[leB,anT,decide_eq_true_eq];exact List.le_total a b
 have h1:=List.pairwise_mergeSort tr to l;have h2:(l.mergeSort leB).Nodup:=(List.mergeSort_perm l leB).nodup_iff.2 hn;refine(h1.and h2).imp λ{a b} h=>?_;simp only[leB,decide_eq_true_eq]at h;rcases Decidable.em (a<b)with h'|h'
 ·exact h'
 ·exact absurd (List.le_antisymm h.1 (List.not_lt.1 h')) h.2
def Gz:Value->Option (DataW Unit×List MemPlace):=λ _=>some (.nil,[])
def Y8(v:Value):List UInt8:=match v with| .string b=>dM b|_=>[]
theorem ajH{X:CX}{i:Nat}{t:TypeId}{rs:List (ByteArray×RW)}(h:aQ X i (.mp t [] rs))(hky:∀p∈rs,p.1.size<=9223372036854775807)(hl:rs.length<=9223372036854775807):
  ∃b hs D0,X.ρ i= .tuple (.map (some b):: .map (some b)::hs).toArray/\X.w.ownsMap prog 9 Gz b rs.length D0/\Maps.size D0<=rs.length/\(strKeys D0).length<=rs.length/\(strKeys D0).Nodup/\(∀x∈strKeys D0,∃p∈rs,dM p.1=x)/\ ∀p∈rs,0<p.2.n->dM p.1∈strKeys D0:=by
 obtain⟨b,es,c,vs,hs,e,hh,hi,hr,hp,hn,hst⟩:=h;have hvs:vs=[]:=hi;subst hvs;simp only[aox,ano]at hp hn;have hent:∀x∈es.toList,∃p∈rs,x.key= .string p.1:=λ x hx=>by
  have:(x.key,x.val)∈mF (rs.map (·.1)) hs:=hp.mem_iff.1 (ant.2 ⟨x,hx,rfl⟩);obtain⟨j,k,v,h1,_,h3,_⟩:=yE this;obtain⟨p,hp',rfl⟩:=ant.1 (anG h1);exact⟨p,hp',congrArg Prod.fst h3⟩
 have hsz:es.size<=rs.length:=by
  have h1:=hp.length_eq;have h2:∀(ks:List ByteArray)(vs:List Value),(mF ks vs).length<=ks.length:=by
   intro ks;induction ks with
   |nil=>intro vs;simp[mF]
   |cons k ks ih=>
    intro vs;cases vs with
    |nil=>simp[mF]
    |cons v vs=>
     rw[kS,am0,anb];have:=ih vs;have:(G5 k v).length<=1:=by unfold G5;split<;>simp
     omega
  have:=h2 (rs.map (·.1)) hs;simp at h1 this;omega
 have hkey:∀x∈es.toList,WideElems.rd prog 9 Gz x=some (.string (Y8 x.key),.nil):=λ x hx=>by
  obtain⟨p,hp',hk⟩:=hent x hx;have:=WideMaps.keyOf_string_mk (P:=prog) Tryz.underlying9 (hky p hp');unfold WideElems.rd;rw[hk];simp[this,Gz,Y8,dM]
 have F:WideElems.Fit prog 9 Gz es c:=⟨anK hsz hl,hst,λ x hx=>⟨_,hkey x hx⟩⟩;have hmap:es.toList.map (WideElems.rg prog 9 Gz)=es.toList.map λ x=>(Lit.string (Y8 x.key),DataW.nil):=List.map_congr_left λ x hx=>WideElems.rg_of (hkey x hx);have hperm:(strKeys (.map ((es.toList.map (WideElems.rg prog 9 Gz)).foldr DataW.insert []):DataW Unit)).Perm (es.toList.map λ x=>Y8 x.key):=by
  show(((es.toList.map (WideElems.rg prog 9 Gz)).foldr DataW.insert []).map λ p=>strOf p.1).Perm _;refine((WideShapes.sorted_perm _).map _).trans (.of_eq ?_);rw[hmap,List.map_map];rfl
 have hinj:∀a b:ByteArray,dM a=dM b->a=b:=λ a b h=>by
  have:a.data=b.data:=Array.toList_inj.1 h;cases a;cases b;simp at this;rw[this]
 refine⟨b,hs,_,e,⟨es,c,hh,F,hsz,rfl⟩, ?_,by rw[hperm.length_eq];simpa using hsz,hperm.nodup_iff.2 ?_,λ x hx=>?_,λ p hp' hpos=>?_⟩
 ·show((es.toList.map (WideElems.rg prog 9 Gz)).foldr DataW.insert []).length<=_;rw[(WideShapes.sorted_perm _).length_eq];simpa using hsz
 ·refine List.pairwise_map.2 (((MapKept.stamped_iff es c).1 hst).2.2.imp_of_mem λ{x y} hx hy hne he=>hne ?_);obtain⟨p,_,h1⟩:=hent x hx;obtain⟨q,_,h2⟩:=hent y hy;rw[h1,h2]at he⊢;exact congrArg Value.string (hinj _ _ he)
 ·obtain⟨y,hy,rfl⟩:=ant.1 (hperm.mem_iff.1 hx);obtain⟨p,hp',hk⟩:=hent y hy;exact⟨p,hp',by rw[hk];rfl⟩
 ·obtain⟨j,hj⟩:=List.getElem?_of_mem hp';obtain⟨v,hv,hpos'⟩:∃v,hs[j]? =some v/\ ∀a b,v≠ .slice none a b:=by
   have key:∀(rs:List (ByteArray×RW))(hs:List Value)(j:Nat),jl X rs hs->rs[j]? =some p-> ∃v,hs[j]? =some v/\ ∀a b,v≠ .slice none a b:=by
    intro rs;induction rs with
    |nil=>intro hs j _ h;simp at h
    |cons q rs ih=>
     rintro hs j ⟨v,q',e,hrow,hq⟩ h;subst e;cases j with
     |zero=>
      simp at h;subst h;refine⟨v,rfl,λ a b hv=>?_⟩;obtain⟨us,hown,_⟩:=hrow;rcases hown.2 with⟨_,hz⟩|⟨g,cap,cur,hv',_⟩
      ·omega
      ·rw[hv']at hv;cases hv
     |succ j=>exact ih q' j hq (by simpa using h)
   exact key _ _ _ hr hj
  have hin:=PU (ks:=rs.map (·.1)) (k:=p.1) (i:=j) (by rw[anE,hj];rfl) hv hpos';obtain⟨x,hx,hxe⟩:=ant.1 (hp.mem_iff.2 hin);refine hperm.mem_iff.2 (ant.2 ⟨x,hx, ?_⟩);rw[show x.key= .string p.1 from congrArg Prod.fst hxe];rfl
end
section
open Go.RowKit Go.Maps Go.Sort Go.Shelf
theorem ahj{X:CX}{base:Nat}{v:Value}{l:List (List UInt8)}(h:X.w.ownsRow base 9 1 v l.length (l.map encStr)):oO X v 9 1 l.length true (jh l):=by
 refine⟨l.map encStr,⟨h.1,h.2.imp id λ⟨g,cap,cur,h1,_,h2⟩=>⟨g,cap,cur,h1,ane _,h2⟩⟩,o_,λ _ _=>rfl,λ _ x hx=>?_,adu l⟩;rw[yR]at hx;obtain⟨y,_,rfl⟩:=ant.1 hx;exact⟨_,rfl⟩
theorem Rel.strRow{g:Base}{N:Nat}{bs:List (Array Value)}{ρ:Nat->Value}{a:Act}{w w':World}{st:AS}(R:Rel g N bs ρ a w st)(d:Nat){v:Value}{l:List (List UInt8)}(h:w'.ownsRow w.heap.size 9 1 v l.length (l.map encStr))(hb:Below w.heap.size w w'):
  Rel g N bs (bZ ρ d v) a w' (st.obj d d (.row 9 1 l.length true (jh l)))/\dD v=v:=by
 have hv:∀X:CX,X.w=w'->oO X v 9 1 l.length true (jh l):=λ X hX=>ahj (base:=w.heap.size) (by rw[hX];exact h);have hh:dD v=v:=by
  obtain⟨us,ho,_⟩:=hv ⟨w',λ _=>False,λ _=>undef⟩ rfl;exact dY ho
 refine⟨R.obj d d (R.below.then hb R.below.size) hb.size (λ b hlt _=>hb.block b hlt) (λ b hbl=>?_) (λ _=>?_) ?_,hh⟩
 ·rcases h.2 with⟨rfl,_⟩|⟨g,cap,cur,rfl,hge,_⟩
  ·simp[blks,iK]at hbl
  ·simp[blks,iK]at hbl;subst hbl;exact .inl hge
 ·show oO _ (bZ ρ d v d) _ _ _ _ _;rw[show bZ ρ d v d=v by simp[bZ]];exact hv _ rfl
 ·rcases h.2 with⟨rfl,_⟩|⟨g,cap,cur,rfl,hge,_⟩<;>simp[blks,iK]
theorem UY{X:CX}{h:List (Nat×AO)}{ib b:Nat}{t:TypeId}{cs:List AV}{args:List Value}{f:FuncId}(_ho:∀p∈h,aQ X p.1 p.2)(_hb:aG ib h=some (.box t cs))(e:X.ρ ib= .pointer (some ⟨b,0,none⟩))(hargs:aC (C2 X) [.fn f [.box ib 0]] args):args=[.func (.func f) #[] #[.pointer (some ⟨b,0,none⟩)]]:=by
 cases args with
 |nil=>have:=hargs.1;simp at this
 |cons a0 tl=>
  cases tl with
  |cons=>have:=hargs.1;simp at this
  |nil=>
   obtain⟨cs,h0,hcs⟩:∃us:List Value,a0= .func (.func f) #[] us.toArray/\aC (C0 X) [.box ib 0] us:=hargs.2 0 _ _ rfl rfl;subst h0;cases cs with
   |nil=>have:=hcs.1;simp at this
   |cons p tl=>
    cases tl with
    |cons=>have:=hcs.1;simp at this
    |nil=>
     obtain⟨b0,h1,h2⟩:∃b0,dD (X.ρ ib)= .pointer (some ⟨b0,0,none⟩)/\p= .pointer (some ⟨b0,0,none⟩):=hcs.2 0 _ _ rfl rfl;rw[e]at h1;cases h1;subst h2;rfl
theorem bQ.sorted{L:Lay}{W:Walk}{d:Nat}{st:AS}{K:AV->AS->Prop}(j ib id:Nat){t mt:TypeId}{rs:List (ByteArray×RW)}(hb:aG ib st.heap=some (.box t [.own id]))(hf:aG id st.heap=some (.mp mt [] rs))(hky:∀p∈rs,p.1.size<=9223372036854775807)(hl:rs.length<=1000000000)
  (hK:∀ss,ahh rs ss->K (.own j) (st.obj j j (.row 9 1 ss.length true (jh ss)))):
  bQ prog L W d 128 [.fn 182 [.box ib 0]] st K:=by
 refine .sem ⟨_,_,func128,rfl,rfl⟩ λ g N bs ρ a w args R hargs=>?_;obtain⟨b,us,e,hh,hc⟩:=R.objs _ (au hb);obtain⟨bm,hs,D0,em,hown,hsz,hlk,hnd,hmem,hall⟩:=ajH (R.objs _ (au hf)) hky o_;have e:ρ ib=_:=e;have em:ρ id=_:=em;have hh:w.heap[b]? =_:=hh;have hown:w.ownsMap _ _ _ _ _ _:=hown;obtain⟨u,hu,hxu⟩:=hc.get (i:=0) rfl;have hxu:u=dD (ρ id):=hxu;rw[em]at hxu;have hxu:u= .map (some bm):=hxu;subst hxu;have hcell:w.cell? ⟨b,0,none⟩=some (.map (some bm)):=(oG (i:=0) hh).1.trans hu;have hlt:b<w.heap.size:=by
  rcases anr b w.heap.size with h'|h'
  ·exact h'
  ·rw[aoA h']at hh;cases hh
 obtain rfl:=UY R.objs hb e hargs;have hseq:SeqGives Fence.wide 2 prog 182 #[.pointer (some ⟨b,0,none⟩)] encStr (λ ss=>ss.Perm (strKeys D0)) (Maps.size D0) w:=
  AnyZ.keys_gives (ρ:=Tryz.keys129_ren) {Tryz.keys129 with} Fence.wide _ trivial rfl o_ b bm rs.length D0 w hlt hcell hown
 have hso:=AnyZ.sorted_in Tryz.sorted128 Fence.wide 5 trivial trivial trivial trivial rfl o_ (Tryz.sorts128 _) (enters_of func59 (by kernel_rfl) rfl) 182 #[.pointer (some ⟨b,0,none⟩)] trivial (enters_of func182 (by kernel_rfl) rfl) _ _ (anK hsz (by unfold maxLen;omega)) o_ w hseq;refine(callsIn_wide.1 hso).mono ?_;rintro e0 w' ⟨v,ss,rfl,hS,hrow,_,hbel⟩;have hlen:(ss.mergeSort λ x y=>decide (x<=y)).length=ss.length:=aou ..;rw[<-hlen]at hrow;obtain⟨R',hv⟩:=R.strRow j hrow hbel;have hp:(ss.mergeSort λ x y=>decide (x<=y)).Perm (strKeys D0):=(List.mergeSort_perm _ _).trans hS;refine⟨v,_,_,_,rfl,hK _ ⟨ahi (hS.nodup_iff.2 hnd),λ x hx=>hmem x (hp.mem_iff.1 hx),λ p hp' hpos=>hp.mem_iff.2 (hall p hp' hpos),by rw[hp.length_eq];exact hlk⟩,R', ?_⟩;show v=dD (bZ ρ j v j);rw[show bZ ρ j v j=v by simp[bZ],hv]
theorem bQ.ahk{L:Lay}{W:Walk}{d:Nat}{st:AS}{K:AV->AS->Prop}(j ib:Nat){t:TypeId}(hb:aG ib st.heap=some (.box t [.v (.map none)]))
  (hK:K (.own j) (st.obj j j (.row 9 1 0 true (jh [])))):
  bQ prog L W d 128 [.fn 182 [.box ib 0]] st K:=by
 refine .sem ⟨_,_,func128,rfl,rfl⟩ λ g N bs ρ a w args R hargs=>?_;obtain⟨b,us,e,hh,hc⟩:=R.objs _ (au hb);have e:ρ ib=_:=e;have hh:w.heap[b]? =_:=hh;obtain⟨u,hu,hxu⟩:=hc.get (i:=0) rfl;have hxu:u= .map none:=hxu;subst hxu;have hcell:w.cell? ⟨b,0,none⟩=some (.map none):=(oG (i:=0) hh).1.trans hu;have hlt:b<w.heap.size:=by
  rcases anr b w.heap.size with h'|h'
  ·exact h'
  ·rw[aoA h']at hh;cases hh
 obtain rfl:=UY R.objs hb e hargs;have hseq:SeqGives Fence.wide 2 prog 182 #[.pointer (some ⟨b,0,none⟩)] encStr (λ ss:List (List UInt8)=>ss=[]) 0 w:=
  AnyZ.keys_gives_nil (ρ:=Tryz.keys129_ren) {Tryz.keys129 with} Fence.wide _ trivial rfl b w hlt hcell
 have hso:=AnyZ.sorted_in Tryz.sorted128 Fence.wide 5 trivial trivial trivial trivial rfl o_ (Tryz.sorts128 _) (enters_of func59 (by kernel_rfl) rfl) 182 #[.pointer (some ⟨b,0,none⟩)] trivial (enters_of func182 (by kernel_rfl) rfl) _ 0 (ane _) o_ w hseq;refine(callsIn_wide.1 hso).mono ?_;rintro e0 w' ⟨v,ss,rfl,rfl,hrow,_,hbel⟩;rw[List.mergeSort_nil]at hrow;have hrow:w'.ownsRow w.heap.size 9 1 v ([]:List (List UInt8)).length (([]:List (List UInt8)).map encStr):=hrow;obtain⟨R',hv⟩:=R.strRow (l:=[]) j hrow hbel;refine⟨v,_,_,_,rfl,hK,R', ?_⟩;show v=dD (bZ ρ j v j);rw[show bZ ρ j v j=v by simp[bZ],hv]
end
theorem ahl:qV []=[]:=by
 rw[of_same (l:=[]) (key:=⟨#[]⟩) (λ x hx=>by cases hx)];rfl
def RJ(K:ByteArray->List Ev)(ss:List Str):List Cont:=ss.flatMap λ k=>qV (K (keyS k))
theorem aeH{i:Nat}(h:i<ss.length):RJ K (ss.take (i+1))=RJ K (ss.take i)++qV (K (keyS (ss.getD i []))):=by
 unfold RJ;rw[aoa,ao0,List.getD,amX h];simp
theorem ajI(i:Nat):(RJ K (ss.take i)).length<=(RJ K ss).length:=by
 have:RJ K ss=RJ K (ss.take i)++RJ K (ss.drop i):=by
  unfold RJ;rw[<-ao0,an8]
 rw[this,am0];omega
inductive Xu(K:ByteArray->List Ev)(m:Nat)(ss:List Str)(kv0:List (ByteArray×List Ev)):Type where
 |key (i:Nat) (k:ByteArray) (kv:List (ByteArray×List Ev)) (hi:i<ss.length) (hk:k=keyS (ss.getD i [])) (h:FOK K m k (ss.map keyS) kv) (hp:kv0.Perm ((k,K k)::kv))
 |done
def Xu.n{K:ByteArray->List Ev}{m:Nat}{ss:List Str}{kv0:List (ByteArray×List Ev)}:Xu K m ss kv0->Nat
 | .key i .. =>ss.length-i
 | .done=>0
def Hf(ss:List Str)(i:Nat):List (Nat×AV):=[(0,.box 0 0),(3,.own 90),(11,.own 11),(12,.v (.int .i64 (ss.length:Int))),(13,.v (.int .i64 (i:Int)))]
def Hg(K:ByteArray->List Ev)(ss:List Str)(i:Nat):List (Nat×AO):=[(90,.row 86 7 (RJ K (ss.take i)).length false (TQ (RJ K (ss.take i)))),(11,.row 9 1 ss.length true (jh ss))]
def aeI(K:ByteArray->List Ev)(n:Int)(m:Nat)(ss:List Str)(kv0:List (ByteArray×List Ev)):Xu K m ss kv0->AS
 | .key i k kv _ _ _ _=>⟨Hf ss i,(0,stB 1 (.own 1) n)::(1,.mp jr [(k,some 2)] (eG kv))::(2,jM (K k))::Hg K ss i,[[(0,.box 0 0),(1,.own 1)]],91⟩
 | .done=>⟨Hf ss ss.length,(0,stB 1 (.own 1) n)::(1,.mp jr [] (eG kv0))::Hg K ss ss.length,[[(0,.box 0 0),(1,.own 1)]],91⟩
theorem ajJ{m:Nat}{kv:List (ByteArray×List Ev)}(h:KV K m kv)(hq:K q≠[]):∃p∈eG kv,p.1=q/\0<p.2.n:=by
 by_cases hm:q∈kv.map (·.1)
 ·obtain⟨pre,l,post,rfl,hn⟩:=zZ hm;have:K q=l:=by rw[h.eq,Aa hn];simp[oH]
  refine⟨(q,rwE l),by simp[eG],rfl, ?_⟩;rw[this]at hq;exact List.length_pos_iff.2 hq
 ·exact absurd (by rw[h.eq,BJ hm]) hq
theorem ajK(K:ByteArray->List Ev)(n:Int)(m:Nat)(O:List Cont)(hK:∀k,(K k).length<=1000000000)(hm:m<=1000000000)(hOl:O.length<=1000000000)
  (hO:∀ss:List Str,ss.Pairwise (·< ·)->(∀k,K (keyS k)≠[]->k∈ss)->RJ K ss=O):
  aj prog 79 [(0,.obs (xR K n m))] [.box 0 0] (.own 3) [(0,.obs (xR K n m)),(3,.row 86 7 O.length false (TQ O))]:=by
 refine aj.opn (ho:=[(3,.row 86 7 O.length false (TQ O))]) ⟨_,_,func79,rfl,rfl⟩ (Opens.pack (uK K n m)) (λ y=>⟨_,L8 K n m y, ?_⟩) rfl;cases y with
 |new h=>
  refine⟨rfl,rfl, ?_⟩;have hO0:O=[]:=(hO [] List.Pairwise.nil λ k hk=>absurd (h _) hk).symm;subst hO0;simp only[uK,anJ,ano];dsimp only[stB];refine K1.M 0x782d func79 10 ?_;repeat' ((conv=>whnf);first|refine K1.I 0x7 func129 ?_|refine bQ.ahk 11 10 rfl ?_|fail)
  conv=>whnf
  refine aI.nil 3 90 86 7 (TQ []) rfl o_ ?_;conv=>whnf
  refine aI.rounds 1 ?_;repeat' ((conv=>whnf);first|refine K1.u ?_|fail)
  conv=>whnf
  exact⟨[(90,3)],rfl,rfl,⟨dB rfl,⟨_,rfl,dK.ajd rfl (λ i hi=>absurd hi (anA i))⟩,trivial⟩,rfl,rfl,bY⟩
 |old kv h=>
  refine⟨rfl,rfl, ?_⟩;have hky:∀p∈eG kv,p.1.size<=9223372036854775807:=λ p hp=>by
   obtain⟨q,hq,rfl⟩:=ant.1 hp;exact h.ky q hq
  have hln:(eG kv).length<=1000000000:=by
   unfold eG;rw[anu];exact anK h.ln hm
  simp only[uK,anJ,ano];dsimp only[stB];refine K1.M 0x782d func79 10 ?_;repeat' ((conv=>whnf);first|refine K1.I 0x7 func129 ?_|refine bQ.sorted 11 10 1 rfl rfl hky hln (λ ss hss=>?_)|fail)
  have hks:∀x∈ss.map keyS,x∈kv.map (·.1):=λ x hx=>by
   obtain⟨k,hk,rfl⟩:=ant.1 hx;obtain⟨p,hp,e⟩:=hss.mem k hk;rw[<-Oa];exact ant.2 ⟨p,hp,by rw[<-e];exact TT rfl⟩
  have hO':RJ K ss=O:=hO ss hss.up λ k hk=>by
   obtain⟨p,hp,e,hpos⟩:=ajJ h hk;have:=hss.all p hp hpos;rwa [e,aaP]at this
  have hsl:ss.length<=1000000000:=anK hss.len hln;have hle:=λ i=>ajI (K:=K) (ss:=ss) i;rw[hO']at hle;conv=>whnf
  refine aI.nil 3 90 86 7 (TQ []) rfl o_ ?_;conv=>whnf
  refine aI.imp ⟨Hf ss 0,(0,stB 1 (.own 1) n)::(1,.mp jr [] (eG kv))::Hg K ss 0,[[(0,.box 0 0),(1,.own 1)]],91⟩
   (xO.leR (σ:=[]) ?_) ?_
  ·dsimp only[Hf,Hg];exact dZ.mk' [] _ _ _ rfl gQ ⟨dB rfl,dB rfl,⟨_,rfl,dK.ajd rfl (λ i hi=>absurd hi (anA i))⟩,dB rfl,trivial⟩ rfl
  have hst:∃x0:Xu K m ss kv,xO ⟨Hf ss 0,(0,stB 1 (.own 1) n)::(1,.mp jr [] (eG kv))::Hg K ss 0,[[(0,.box 0 0),(1,.own 1)]],91⟩ (aeI K n m ss kv x0):=by
   by_cases hz:0<ss.length
   ·obtain⟨kv',hf,hpp,hI⟩:=aaw (sl:=Hf ss 0) (back:=[[(0,.box 0 0),(1,.own 1)]]) (b:=91) (n:=n) (H:=Hg K ss 0) h hks (k':=keyS (ss.getD 0 [])) (ant.2 ⟨_,by rw[List.getD,amX hz];exact anH hz,rfl⟩) rfl rfl rfl;exact⟨.key 0 _ kv' hz rfl hf hpp,hI⟩
   ·have hn:ss=[]:=am9 o_;subst hn;exact⟨.done,xO.refl _⟩
  obtain⟨x0,hI0⟩:=hst;refine aI.mkI (Xu K m ss kv) (aeI K n m ss kv) Xu.n x0 hI0 ?_;clear x0 hI0;intro x;cases x with
  |done=>
   dsimp only[aeI,Hf,Hg];rw[anf (ani _),hO'];repeat' ((conv=>whnf);first|refine K1.u ?_|fail)
   conv=>whnf
   exact iF [(1,1),(90,3)]
  |key i k kv' hi hk hf hp=>
   have hof:=al4 (K k) (hK k);have hsn:=aeH (K:=K) hi;rw[<-hk]at hsn;have hb:(RJ K (ss.take i)).length+(qV (K k)).length<=1000000000:=by
    have:=hle (i+1);rw[hsn,am0]at this;omega
   have hJ:∃y:Xu K m ss kv,xO ⟨Hf ss (i+1),(0,stB 1 (.own 1) n)::(1,.mp jr [(k,some 2)] (eG kv'))::(2,jM (K k))::Hg K ss (i+1),[[(0,.box 0 0),(1,.own 1)]],91⟩ (aeI K n m ss kv y)/\y.n<ss.length-i:=by
    by_cases hl:i+1<ss.length
    ·obtain⟨kv2,hf2,hpp,hI⟩:=aea (sl:=Hf ss (i+1)) (back:=[[(0,.box 0 0),(1,.own 1)]]) (b:=91) (n:=n) (H:=Hg K ss (i+1)) hf (k':=keyS (ss.getD (i+1) [])) (ant.2 ⟨_,by rw[List.getD,amX hl];exact anH hl,rfl⟩) rfl rfl rfl;exact⟨.key (i+1) _ kv2 hl rfl hf2 (hp.trans hpp),hI,by show ss.length-(i+1)<_;omega⟩
    ·have e:ss.length=i+1:=o_
     refine⟨.done, ?_,by show 0<_;omega⟩;show xO _ ⟨Hf ss ss.length,(0,stB 1 (.own 1) n)::(1,.mp jr [] (eG kv))::Hg K ss ss.length,[[(0,.box 0 0),(1,.own 1)]],91⟩;rw[e];exact(Oe rfl rfl rfl).trans (ad9 hp.symm rfl rfl rfl)
   obtain⟨y,hI,hy⟩:=hJ;dsimp only[aeI,Hf,Hg,stB,jM];repeat' ((conv=>whnf);first|refine K1.w ?_|refine K1.a ?_|refine K1.C 1 [(0,_)] (hof) rfl ?_|refine ZN.mk J7 ?_|refine Ir.mk 0 2 _ rfl (by rw[hk];rfl) ?_|refine uS.mk (λ _=>?_) (λ _=>?_))
   rotate_left
   ·exact absurd (show Nat.ble _ _=false by assumption) (by rw[ao9,Nat.ble_eq];omega)
   conv=>whnf
   refine⟨y,xO.trans (xO.leR (σ:=[(92,90)]) ?_) hI,hy⟩;dsimp only[Hf,Hg];refine dZ.mk' [(92,90)] _ _ _ rfl gQ ⟨dB rfl,dB rfl,dB rfl,⟨_,rfl,dK.row ?_ (λ m hm=>?_)⟩,dB rfl,trivial⟩ rfl
   ·show _=(RJ K (ss.take (i+1))).length;rw[hsn,am0]
   ·show _=TQ (RJ K (ss.take (i+1))) m;rw[hsn];exact els_app (c:=Cont.cs) rfl m
theorem aeJ(t:Fe (nO (eqK e.key) P) e):L6 (iI P) e=iI (P++[e]):=by
 funext q
 by_cases h:q=e.key
 ·subst h;rw[J8,JY t]
 ·rw[QH h,Gx h]
theorem Y9{f g:Str->Nat}{k0:Str}:∀{ks:List Str},ks.Nodup->k0∈ks->(∀k,k≠k0->g k=f k)->(ks.map g).sum+f k0=(ks.map f).sum+g k0
 |[],_,h,_=>by cases h
 |k::ks,hn,hk,h=>by
  obtain⟨h1,h2⟩:=an1.1 hn;simp only[anS,List.sum_cons];by_cases e:k=k0
  ·subst e;have:ks.map g=ks.map f:=List.map_congr_left λ x hx=>h x λ e=>h1 (e▸hx);rw[this];omega
  ·have:=Y9 h2 ((am4.1 hk).resolve_left λ h=>e h.symm) h;have:=h k e;omega
theorem aaY(t:Fe (nO (eqK e.key) P) e):UW (iI P) (pU P) e=pU (P++[e]):=by
 have hu:=jA ((P++[e]).map λ x:Ev=>dM x.key);generalize uniq ((P++[e]).map λ x:Ev=>dM x.key)=ks at hu;have hn:ks.Nodup:=hu.1.imp λ h=>by rintro rfl;exact List.lt_irrefl _ h
 have hm:∀x∈P++[e],dM x.key∈ks:=λ x hx=>(hu.2 _).2 (ant.2 ⟨x,hx,rfl⟩);have h1:=FH _ P hn λ x hx=>hm x (anv _ (ana.1 hx).1);have h2:=FH _ (P++[e]) hn λ x hx=>hm x (ana.1 hx).1;have h3:=Y9 (f:=λ k=>(iI P (keyS k)).length) (g:=λ k=>(iI (P++[e]) (keyS k)).length) (k0:=dM e.key) hn (hm e s_) λ k hk=>by
  rw[Gx λ h=>hk (by rw[<-h];rfl)]
 unfold UW;have hk:keyS (dM e.key)=e.key:=TT rfl;rw[hk,JY t]at h3;omega
theorem Za(P:List Ev)(key:ByteArray):(iI P key).length<=P.length:=
 anK (anj _ _) (anj _ _)
theorem aeK(hp:∀key,Xo (nO (eqK key) P) key)(hs:ss.Pairwise (·< ·))(hm:∀k,iI P (keyS k)≠[]->k∈ss):RJ (iI P) ss=qV P:=by
 have h:=aaR hp (ks:=ss.filter λ k=>decide (iI P (keyS k)≠[])) (hs.filter _) λ k=>by
  rw[ana];simp only[decide_eq_true_eq];exact⟨λ h=>h.2,λ h=>⟨hm k h,h⟩⟩
 rw[<-h];unfold RJ;have key:∀l:List Str,l.flatMap (λ k=>qV (iI P (keyS k)))=(l.filter λ k=>decide (iI P (keyS k)≠[])).flatMap λ k=>qV (iI P (keyS k)):=by
  intro l;induction l with
  |nil=>rfl
  |cons k l ih=>
   rw[anN,anX,ih];by_cases hk:iI P (keyS k)=[]
   ·rw[if_neg (by simpa using hk),hk,ahl];rfl
   ·rw[if_pos (by simpa using hk),anN]
 exact key ss
end Go.Proofs.YtkimgljckickcaaGreat
