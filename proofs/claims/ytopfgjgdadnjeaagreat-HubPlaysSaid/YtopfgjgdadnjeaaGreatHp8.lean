/-
  Contracts of the walk:Tk,Crc,Vin,EvW,EvEq,Rec,FitA,FitP,RecP.
-/
import Derived.Test.YtopfgjgdadnjeaaGreatHp7
import Derived.Laws.BitsAllLaws
import Derived.Laws.StructEq
import Derived.Laws.Cover2
import Derived.Test.YtopfgjgdadnjeaaGreatHp1
set_option maxHeartbeats 16000000
set_option maxRecDepth 100000
set_option linter.unusedVariables false
set_option linter.unusedSimpArgs false
namespace Go.Proofs.YtopfgjgdadnjeaaGreat
open Go.RowKit
variable{hi lo x:Int}{K:Int->Prop}{bs l:List UInt8}{a j k n r:Nat}{F:Nat->List AV}{s:Sq}
theorem aS.drop{F:Nat->List AV}{l:List UInt8}(h:aS F l)(k:Nat):aS (λ i=>F (k+i)) (l.drop k):=by
 intro i hi;rw[List.length_drop]at hi;show F (k+i)=bC ((l.drop k).getD i default);rw[h (k+i) (by omega)];show bC (l.getD (k+i) default)=_;congr 1;simp
theorem aS.take{F:Nat->List AV}{l:List UInt8}(h:aS F l)(k:Nat):aS F (l.take k):=by
 intro i hi;rw[List.length_take]at hi;show F i=bC ((l.take k).getD i default);rw[h i (by omega)];show bC (l.getD i default)=_;congr 1;simp[show i<k by omega]
theorem bI.lH{sc:Bool}(h:aS F l)(hn:n=l.length):bI (.sl 1 n sc F) (.sl 1 l.length sc (aG l)):=bI.sl hn λ i hi=>h i (by omega)
theorem Fg:∀l:List UInt8,flat l.length (aG l)=l.map λ b=> .v (.int .u8 (b.toNat:Int))
 |[]=>rfl
 |b::l=>by
  show aG (b::l) 0++flat l.length (λ i=>aG (b::l) (i+1))=_;rw[List.map_cons,<-Fg l];rfl
theorem aN.vals{R:AV->Value->Prop}(hR:∀x u,R (.v x) u->u=x):∀{xs us:List Value},aN R (xs.map .v) us->us=xs
 |[],us,h=>by
  have:=h.1;simp at this;exact List.eq_nil_of_length_eq_zero this.symm
 |x::xs,[],h=>by have:=h.1;simp at this
 |x::xs,u::us,h=>by
  have h0:u=x:=hR x u (h.2 0 _ _ rfl rfl);have:=aN.vals hR (xs:=xs) (us:=us) ⟨by simpa using h.1,λ i a b ha hb=>h.2 (i+1) a b (by simpa using ha) (by simpa using hb)⟩;rw[h0,this]
theorem Bs.of{K:List UInt8->Prop}(l:List UInt8)(hF:aS F l)(hn:n=l.length)(h:K l):Bs n F K:= .mk l hn (λ i hi=>hF i (by omega)) h
theorem acT:(default:UInt8)=0:=rfl
theorem O5{P:Program}{f:FuncId}{r:AV}(he:Enters P f)(h:∀(A:Option Addr)(n c:Nat)(w:World),Rd w w.heap.size 1 A n (l.map bV)->n=l.length->n<=c->
  Calls P f #[.slice A n c] w λ e w'=> ∃u,e= .returned u/\Below w.heap.size w w'/\ ∀X,C2 X r u)(hF:aS F l)(hn:n=l.length):aC P f [.sl 1 n true F] r []:=by
 refine⟨he,λ w keep args hkeep hargs=>?_⟩;obtain⟨u,rfl,hu⟩:=Ad hargs;have hu:PC w keep (.sl 1 l.length true (aG l)) u:=bI.lH hF hn ⟨w,keep,λ _=>undef⟩ u hu;cases hu with
 |sl _ _ _ _ A c us hs hnc hc hl hf hsc hpc hr=>
  have hall:aN (PC w keep) (flat l.length (aG l)) us:=⟨by rw[hl];exact mP hf,hpc⟩;have e1:flat l.length (aG l)=(l.map bV).map .v:=by rw[Fg,List.map_map];rfl
  rw[e1]at hall;have e2:us=l.map bV:=aN.vals (λ x u h=>by cases h;rfl) hall;subst e2;have hRd:Rd w w.heap.size 1 A l.length (l.map bV):=by
   refine⟨by simp,λ hpos=>?_⟩;rcases hr with h0|⟨b,o,hA,hk,hcell⟩
   ·omega
   ·exact⟨b,o,hA,hkeep b hk,hcell⟩
  refine(h A l.length c w hRd rfl hnc).mono ?_;rintro e w' ⟨v,h1,h2,h3⟩;exact⟨v,λ _=>undef,h1,h2,h3 _,(λ p hp=>by cases hp),by simp[ah],(λ b hb=>by simp[ah]at hb)⟩
theorem C2.acU(X:CX)(a b c:Value):C2 X (.bJ [.v a,.v b,.v c]) (.tuple #[a,b,c]):=⟨[a,b,c],rfl,aN.cons (R:=C1 X) (show C1 X (.v a) a from rfl) (aN.cons (R:=C1 X) (show C1 X (.v b) b from rfl) (aN.cons (R:=C1 X) (show C1 X (.v c) c from rfl) aN.nil))⟩
theorem iW(l:List UInt8)(hF:aS F l)(hn:n=l.length):aC Tryz.prog 69 [.sl 1 n true F] (.bJ [.v (.int .u64 ((dH l).1:Int)),.v (.int .i64 ((dH l).2.1:Int)),.v (.int .i64 (dH l).2.2)]) []:=
 O5 ⟨_,_,Tryz.func69,rfl,rfl⟩ (λ A n c w h h1 h2=>(SQ A n c l w h h1 h2).mono λ e w' ⟨h3,h4⟩=>⟨_,h3,by rw[h4];exact Below.refl _ _,λ X=>C2.acU X _ _ _⟩) hF hn
def eT(x:Int):AO:= .box 28 [.v (.int .i64 x)]
def iT(u:Nat):AO:= .box 3 [.v (.int .i64 (u:Int))]
def bT(bs:List UInt8):AO:= .box 45 [.sl 1 bs.length true (aG bs)]
theorem Wx(bs:List UInt8)(u:Nat)(x lo hi:Int)(hl:bs.length<=1000000000):
  au Tryz.prog 121 [(0,eT x),(1,iT u),(2,bT bs)] [.v (.int .i64 lo),.v (.int .i64 hi),.box 0 0,.box 1 0,.box 2 0]
   (.v (.int .i64 (dA bs lo hi (u,x)).1)) [(0,eT (dA bs lo hi (u,x)).2.2),(1,iT (dA bs lo hi (u,x)).2.1),(2,bT bs)]:=by
 unfold eT iT bT;refine K1.M 0x4005019f Tryz.func121 10 ?_;repeat' ((conv=>whnf);first|refine K1.u ?_|refine K1.P1 (wz _ _ _) ?_|refine K1.z ?_|refine K1.y (λ _=>?_) (λ _=>?_)|fail)
 all_goals(conv=>whnf)
 all_goals(refine Dt.auto rfl rfl ⟨⟨_,rfl,fP.box1 ?_⟩,⟨_,rfl,fP.box1 ?_⟩,aY rfl,trivial⟩ rfl rfl (bI.int ?_))
 all_goals(unfold dA;simp only[acT,Int.toNat_natCast]at*;grind)
theorem SS(bs:List UInt8)(u:Nat)(x lo hi:Int)(hu:u<=bs.length)(hl:bs.length<=1000000000)(h0:0<=lo)(h1:lo<=hi)(h2:hi<=16777216):
  au Tryz.prog 123 [(0,eT x),(1,iT u),(2,bT bs)] [.v (.int .i64 lo),.v (.int .i64 hi),.box 0 0,.box 2 0,.box 1 0]
   (.v (.int .i64 (dB bs lo hi (u,x)).1)) [(0,eT (dB bs lo hi (u,x)).2.2),(1,iT (dB bs lo hi (u,x)).2.1),(2,bT bs)]:=by
 unfold eT iT bT;have hv:=wB (bs.drop u);rw[List.length_drop]at hv;refine K1.M 0x140000179f Tryz.func123 10 ?_;repeat' ((conv=>whnf);first|refine K1.u ?_|refine K1.P1 (iW (bs.drop u) ((aS.bytes bs).drop _) (by simp)) ?_ rfl rfl|refine K1.z ?_|refine K1.y (λ _=>?_) (λ _=>?_)|fail)
 all_goals(conv=>whnf)
 all_goals(refine Dt.auto rfl rfl ⟨⟨_,rfl,fP.box1 ?_⟩,⟨_,rfl,fP.box1 ?_⟩,aY rfl,trivial⟩ rfl rfl (bI.int ?_))
 all_goals(unfold dB;grind)
theorem SV(bs:List UInt8)(u:Nat)(x sz:Int)(hu:u<=bs.length)(hl:bs.length<=1000000000)(h0:0<=sz)(h2:sz<=16777216):
  au Tryz.prog 124 [(0,eT x),(1,iT u),(2,bT bs)] [.v (.int .i64 sz),.fn 133 [],.box 0 0,.box 2 0,.box 1 0]
   (.v (.string (dY bs sz keyE (u,x)).1)) [(0,eT (dY bs sz keyE (u,x)).2.2),(1,iT (dY bs sz keyE (u,x)).2.1),(2,bT bs)]:=by
 unfold eT iT bT;obtain⟨z,rfl⟩:=Int.eq_ofNat_of_zero_le h0;refine K1.M 0x40014019f Tryz.func124 10 ?_;repeat' ((conv=>whnf);first|refine K1.u ?_|refine K1.P1 (LY _) ?_|refine Bs.of ((bs.drop u).take z) (((aS.bytes bs).drop _).take _) (by simp;omega) ?_|refine K1.z ?_|refine K1.y (λ _=>?_) (λ _=>?_)|fail)
 all_goals(conv=>whnf)
 all_goals(refine Dt.auto rfl rfl ⟨⟨_,rfl,fP.box1 ?_⟩,⟨_,rfl,fP.box1 ?_⟩,aY rfl,trivial⟩ rfl rfl (bI.str ?_))
 all_goals(unfold dY;first|(simp only[Du,Int.toNat_natCast]at*;grind)|grind)
theorem SX(bs:List UInt8)(u:Nat)(x sz:Int)(hu:u<=bs.length)(hl:bs.length<=1000000000)(h0:0<=sz)(h2:sz<=16777216):
  au Tryz.prog 124 [(0,eT x),(1,iT u),(2,bT bs)] [.v (.int .i64 sz),.fn 134 [],.box 0 0,.box 2 0,.box 1 0]
   (.v (.string (dY bs sz gI (u,x)).1)) [(0,eT (dY bs sz gI (u,x)).2.2),(1,iT (dY bs sz gI (u,x)).2.1),(2,bT bs)]:=by
 unfold eT iT bT;obtain⟨z,rfl⟩:=Int.eq_ofNat_of_zero_le h0;refine K1.M 0x40014019f Tryz.func124 10 ?_;repeat' ((conv=>whnf);first|refine K1.u ?_|refine K1.P1 (E8 _) ?_|refine Bs.of ((bs.drop u).take z) (((aS.bytes bs).drop _).take _) (by simp;omega) ?_|refine K1.z ?_|refine K1.y (λ _=>?_) (λ _=>?_)|fail)
 all_goals(conv=>whnf)
 all_goals(refine Dt.auto rfl rfl ⟨⟨_,rfl,fP.box1 ?_⟩,⟨_,rfl,fP.box1 ?_⟩,aY rfl,trivial⟩ rfl rfl (bI.str ?_))
 all_goals(unfold dY;first|(simp only[Du,Int.toNat_natCast]at*;grind)|grind)
theorem Y2(h:s.1<=bs.length):(dB bs lo hi s).2.1<=bs.length:=by
 have hv:=wB (bs.drop s.1);rw[List.length_drop]at hv;unfold dB;grind
theorem Wy{sz:Int}{may:ByteArray->Int}(h:s.1<=bs.length):(dY bs sz may s).2.1<=bs.length:=by unfold dY;grind
theorem aaX:0<=(dA bs lo hi s).1/\(dA bs lo hi s).1<=255:=by
 unfold dA;have:=UInt8.toNat_lt (bs.getD s.1 0);grind
theorem Ai(bs:List UInt8)(s s':Sq)(lo hi c:Int)(h:dA bs lo hi s=(c,s'))(hl:bs.length<=1000000000):
  au Tryz.prog 121 [(0,eT s.2),(1,iT s.1),(2,bT bs)] [.v (.int .i64 lo),.v (.int .i64 hi),.box 0 0,.box 1 0,.box 2 0]
   (.v (.int .i64 c)) [(0,eT s'.2),(1,iT s'.1),(2,bT bs)]:=by
 have:=Wx bs s.1 s.2 lo hi hl;rw[show(s.1,s.2)=s from rfl,h]at this;exact this
theorem sW(bs:List UInt8)(s s':Sq)(lo hi c:Int)(h:dB bs lo hi s=(c,s'))(hu:s.1<=bs.length)(hl:bs.length<=1000000000)(h0:0<=lo)(h1:lo<=hi)(h2:hi<=16777216):
  au Tryz.prog 123 [(0,eT s.2),(1,iT s.1),(2,bT bs)] [.v (.int .i64 lo),.v (.int .i64 hi),.box 0 0,.box 2 0,.box 1 0]
   (.v (.int .i64 c)) [(0,eT s'.2),(1,iT s'.1),(2,bT bs)]:=by
 have:=SS bs s.1 s.2 lo hi hu hl h0 h1 h2;rw[show(s.1,s.2)=s from rfl,h]at this;exact this
theorem WA(bs:List UInt8)(s s':Sq)(sz:Int)(c:ByteArray)(h:dY bs sz keyE s=(c,s'))(hu:s.1<=bs.length)(hl:bs.length<=1000000000)(h0:0<=sz/\sz<=255):
  au Tryz.prog 124 [(0,eT s.2),(1,iT s.1),(2,bT bs)] [.v (.int .i64 sz),.fn 133 [],.box 0 0,.box 2 0,.box 1 0]
   (.v (.string c)) [(0,eT s'.2),(1,iT s'.1),(2,bT bs)]:=by
 have:=SV bs s.1 s.2 sz hu hl h0.1 (by omega);rw[show(s.1,s.2)=s from rfl,h]at this;exact this
theorem WB(bs:List UInt8)(s s':Sq)(sz:Int)(c:ByteArray)(h:dY bs sz gI s=(c,s'))(hu:s.1<=bs.length)(hl:bs.length<=1000000000)(h0:0<=sz/\sz<=255):
  au Tryz.prog 124 [(0,eT s.2),(1,iT s.1),(2,bT bs)] [.v (.int .i64 sz),.fn 134 [],.box 0 0,.box 2 0,.box 1 0]
   (.v (.string c)) [(0,eT s'.2),(1,iT s'.1),(2,bT bs)]:=by
 have:=SX bs s.1 s.2 sz hu hl h0.1 (by omega);rw[show(s.1,s.2)=s from rfl,h]at this;exact this
def mX(r:Nat):Nat:=if r%2=1 then(r/2)^^^3988292384 else r/2
def Aj(r:Nat):Nat->Nat
 |0=>r
 |j+1=>mX (Aj r j)
def xJ(r:Nat)(c:UInt8):Nat:=Aj (r^^^c.toNat) 8
def mY(l:List UInt8):Nat:=l.foldl xJ 4294967295
def jS(l:List UInt8):Nat:=4294967295^^^mY l
def pR(l:List UInt8):List UInt8:=[UInt8.ofNat (jS l),UInt8.ofNat (jS l/256),UInt8.ofNat (jS l/65536),UInt8.ofNat (jS l/16777216)]
def dF(l:List UInt8):List UInt8:=l++pR l
theorem O6(h:r<4294967296):mX r<4294967296:=by
 unfold mX;split
 ·exact Nat.xor_lt_two_pow (n:=32) (by omega) (by omega)
 ·omega
theorem Ak{r:Nat}(h:r<4294967296):∀j,Aj r j<4294967296
 |0=>h
 |j+1=>O6 (Ak h j)
theorem O7(h:r<4294967296)(c:UInt8):xJ r c<4294967296:=by
 have:=UInt8.toNat_lt c;exact Ak (Nat.xor_lt_two_pow (n:=32) (by omega) (by omega)) 8
theorem LZ:∀(l:List UInt8)(r:Nat),r<4294967296->l.foldl xJ r<4294967296
 |[],_,h=>h
 |c::l,_,h=>LZ l _ (O7 h c)
theorem BI(l:List UInt8):mY l<4294967296:=LZ l _ (by omega)
theorem Ib(l:List UInt8):jS l<4294967296:=Nat.xor_lt_two_pow (n:=32) (by omega) (BI l)
theorem bP(l:List UInt8):(dF l).length=l.length+4:=by simp[dF,pR]
theorem L6{b:Nat}(ha:a<4294967296)(hb:b<4294967296):IntKind.u32.wrap ((BitVec.ofInt IntKind.u32.bits (a:Int)^^^BitVec.ofInt IntKind.u32.bits (b:Int)).toNat:Int)=((a^^^b:Nat):Int):=
 u32_xor_nat a b ha hb
theorem and1(ha:a<4294967296):IntKind.u32.wrap ((BitVec.ofInt IntKind.u32.bits (a:Int)&&&BitVec.ofInt IntKind.u32.bits (1:Int)).toNat:Int)=((a%2:Nat):Int):=by
 have h:IntKind.u32.wrap ((BitVec.ofInt IntKind.u32.bits (a:Int)&&&BitVec.ofInt IntKind.u32.bits ((1:Nat):Int)).toNat:Int)=((a&&&1:Nat):Int):=u32_and_nat a 1 ha (by omega);rw[Nat.and_one_is_mod]at h;exact h
theorem lD.and1{a:Nat}(ha:a<4294967296){A B:Prop}(h1:a%2=1->A)(h2:¬a%2=1->B):lD (IntKind.u32.wrap ((BitVec.ofInt IntKind.u32.bits (a:Int)&&&BitVec.ofInt IntKind.u32.bits (1:Int)).toNat:Int)=1) A B:=by
 have e:=_root_.Go.Proofs.YtopfgjgdadnjeaaGreat.and1 ha;rw[e];refine⟨λ h=>h1 (by omega),λ h=>h2 (by omega)⟩
theorem ab4(a:Nat):(a:Int).fdiv (2^min (Int.toNat 1) IntKind.u32.bits)=((a/2:Nat):Int):=by
 show(a:Int).fdiv (2:Int)=_;rw[Int.fdiv_eq_ediv_of_nonneg _ (by omega)];omega
theorem SY(r:Nat)(hr:r<4294967296)(c:UInt8):aC Tryz.prog 120 [.v (.int .u32 (r:Int)),.v (.int .u8 (c.toNat:Int))] (.v (.int .u32 (xJ r c:Int))) []:=by
 have hc:=UInt8.toNat_lt c;have h0:r^^^c.toNat<4294967296:=Nat.xor_lt_two_pow (n:=32) (by omega) (by omega);refine K1.E 0x2613 Tryz.func120 ?_;repeat' ((conv=>whnf);first|refine K1.u ?_|refine K1.z ?_|refine K1.y (λ _=>?_) (λ _=>?_)|fail)
 conv=>whnf
 refine aK.mk {j:Nat//j<=8} (λ j=>⟨[(0,.v (.int .u32 (Aj (r^^^c.toNat) j.1:Int))),(9,.v (.int .i64 (j.1:Int)))],[],[],0⟩) (λ j=>8-j.1) ⟨0,Nat.zero_le _⟩ _
  (iw.mk' [] _ _ _ rfl ⟨bI.int (L6 hr (by omega)),bI.int rfl,trivial⟩ trivial rfl) ?_
 rintro⟨j,hj⟩;dsimp only;have hj2:=Ak h0 j;repeat' ((conv=>whnf);first|refine K1.u ?_|refine lD.and1 hj2 (λ _=>?_) (λ _=>?_)|refine aO.dW ?_|refine K1.z ?_|refine K1.y (λ _=>?_) (λ _=>?_)|fail)
 ·rename_i h1;refine⟨⟨j+1,by omega⟩,_,iw.mk' [] _ _ _ rfl ⟨bI.int ?_,bI.int rfl,trivial⟩ trivial rfl,by show 8-(j+1)<8-j;omega⟩;show _=((mX (Aj (r^^^c.toNat) j):Nat):Int);unfold mX;rw[if_pos h1,<-L6 (by omega) (by omega),<-ab4];rfl
 ·rename_i h1;refine⟨⟨j+1,by omega⟩,_,iw.mk' [] _ _ _ rfl ⟨bI.int ?_,bI.int rfl,trivial⟩ trivial rfl,by show 8-(j+1)<8-j;omega⟩;show _=((mX (Aj (r^^^c.toNat) j):Nat):Int);unfold mX;rw[if_neg h1];exact ab4 _
 ·conv=>whnf
  have:j=8:=by omega
  subst this;exact aW.mk (aP)
theorem CV(h:j<l.length):mY (l.take (j+1))=xJ (mY (l.take j)) (l.getD j 0):=by
 rw[List.take_add_one,List.getElem?_eq_getElem h,List.getD,List.getElem?_eq_getElem h,mY,List.foldl_append];rfl
theorem Wr.acV{s:Nat}{m:Int}(h:K (IntKind.u8.wrap ((s:Int).fdiv m))):Wr ((s:Int).fdiv m) K .u8:= .raw .u8 h
theorem WC(l:List UInt8)(hF:aS F l)(hn:n=l.length)(hl:l.length<=140737488355328):aC Tryz.prog 102 [.sl 1 n true F] (.v (.int .u32 (jS l:Int))) []:=by
 refine aC.args (bvs:=[.sl 1 l.length true (aG l)]) ?_ (.of (λ X u hu=>bI.lH (sc:=true) hF hn X u hu) .nil);have WE (j:Nat):mY (l.take j)<4294967296:=BI _;have hs (j:Nat) (c:UInt8):=SY (mY (l.take j)) (WE j) c;refine K1.E 0x3ed Tryz.func102 ?_;repeat' ((conv=>whnf);first|refine K1.u ?_|refine K1.z ?_|refine K1.y (λ _=>?_) (λ _=>?_)|fail)
 conv=>whnf
 refine aK.mk {j:Nat//j<=l.length} (λ j=>⟨[(3,.v (.int .u32 (mY (l.take j.1):Int))),(6,.sl 1 l.length true (aG l)),(7,.v (.int .i64 (l.length:Int))),(8,.v (.int .i64 (j.1:Int)))],[],[],0⟩) (λ j=>l.length-j.1) ⟨0,Nat.zero_le _⟩ _
  (iw.mk' [] _ _ _ rfl ⟨bI.int rfl,aP,aP,bI.int rfl,trivial⟩ trivial rfl) ?_
 rintro⟨j,hj⟩;dsimp only;repeat' ((conv=>whnf);first|refine K1.u ?_|refine K1.P1 (hs j _) ?_|refine aO.dW ?_|refine K1.z ?_|refine K1.y (λ _=>?_) (λ _=>?_)|fail)
 ·refine⟨⟨j+1,by omega⟩,_,iw.mk' [] _ _ _ rfl ⟨bI.int ?_,aP,aP,bI.int rfl,trivial⟩ trivial rfl,by show l.length-(j+1)<l.length-j;omega⟩;show _=((mY (l.take (j+1)):Nat):Int);rw[CV (by omega)];rfl
 ·conv=>whnf
  refine aW.mk (bI.int ?_);show IntKind.u32.wrap ((BitVec.ofInt IntKind.u32.bits ((4294967295:Nat):Int)^^^BitVec.ofInt IntKind.u32.bits (mY (l.take j):Int)).toNat:Int)=_;rw[L6 (by omega) (WE j),List.take_of_length_le (by omega)];rfl
def u8C(n:Nat):AV:= .v (.int .u8 ((UInt8.ofNat n).toNat:Int))
def O8(s:Nat):List AV:=[u8C s,u8C (s/256),u8C (s/65536),u8C (s/16777216)]
theorem aaY(n:Nat)(m:Nat):IntKind.u8.wrap ((n:Int).fdiv ((m:Nat):Int))=((UInt8.ofNat (n/m)).toNat:Int):=by
 rw[IntKind.wrap_u8,Int.fdiv_eq_ediv_of_nonneg _ (Int.natCast_nonneg m),UInt8.toNat_ofNat'];simp
theorem u8V(n:Nat)(m:Nat):AV.v (.int .u8 (IntKind.u8.wrap ((n:Int).fdiv ((m:Nat):Int))))=u8C (n/m):=by rw[aaY];rfl
theorem BJ(l:List UInt8)(hF:aS F l)(hn:n=l.length)(hl:l.length<=140737488355328):aC Tryz.prog 68 [.sl 1 n true F] (.agg (O8 (jS l))) []:=by
 have hs:=Ib l;have hss:=WC l hF hn hl;generalize jS l=s at hs hss;refine K1.E 0x33d Tryz.func68 ?_;repeat' ((conv=>whnf);first|refine K1.u ?_|refine K1.P1 hss ?_|refine aK.rounds 5 ?_|refine aO.dW ?_|refine Wr.acV ?_|refine K1.z ?_|refine K1.y (λ _=>?_) (λ _=>?_)|fail)
 conv=>whnf
 refine aW.mk (bI.of (congrArg AV.agg ?_));unfold O8;rw[<-u8V s 256,<-u8V s 65536,<-u8V s 16777216,show u8C s=AV.v (.int .u8 (IntKind.u8.wrap ((s:Int).fdiv ((1:Nat):Int)))) by rw[u8V,Nat.div_one]];rfl
theorem QS(a0 a1 a2 a3 b0 b1 b2 b3:Int):Jb Tryz.prog 119 [.int .u8 a0,.int .u8 a1,.int .u8 a2,.int .u8 a3] [.int .u8 b0,.int .u8 b1,.int .u8 b2,.int .u8 b3] (a0=b0/\a1=b1/\a2=b2/\a3=b3):=by
 refine⟨by kernel_rfl,λ w=>⟨decide (a0=b0/\a1=b1/\a2=b2/\a3=b3),by rw[decide_eq_true_eq], ?_⟩⟩;show(Op.equalIn 10000 119 (.agg #[.int .u8 a0,.int .u8 a1,.int .u8 a2,.int .u8 a3]) (.agg #[.int .u8 b0,.int .u8 b1,.int .u8 b2,.int .u8 b3])).run Tryz.prog w=_;rw[show(10000:Nat)=9999+1 from rfl,Op.equalIn];simp only[Sem.run_bind,run_underlying Tryz.underlying119,Result.andThen_ok];simp only[Std.Legacy.Range.forIn_eq_forIn_range',Std.Legacy.Range.size,Nat.sub_zero,Nat.add_sub_cancel,Nat.div_one,List.range'_succ,List.range'_zero,List.forIn_cons,List.forIn_nil];have u3:=Tryz.underlying5;have a3':=Tryz.isAgg5;have z3:=Tryz.sizeOf5;go_simp;repeat' split
 all_goals simp_all
theorem WG(l:List UInt8):aS (chunk 1 (O8 (jS l))) (pR l):=by
 intro i hi;have:i=0\/i=1\/i=2\/i=3:=by simp[pR]at hi;omega
 rcases this with rfl|rfl|rfl|rfl<;>rfl
theorem nU(d:Nat)(l:List UInt8)(hF:aS F l)(hn:n=l.length)(hl:l.length<=1000000000):
  aC Tryz.prog 76 [.sl 1 n true F] (.own d) [(d,.row 5 1 (dF l).length true (aG (dF l)))]:=by
 refine aC.args (bvs:=[.sl 1 l.length true (aG l)]) ?_ (.of (λ X u hu=>bI.lH (sc:=true) hF hn X u hu) .nil);have ht:=BJ l (aS.bytes l) rfl (by omega);refine K1.E 0x1d Tryz.func76 ?_;repeat' ((conv=>whnf);first|refine K1.u ?_|refine K1.P1 ht ?_|refine Vd.none rfl (by omega) (by dsimp only;omega) (by omega) ?_|refine K1.z ?_|refine K1.y (λ _=>?_) (λ _=>?_)|fail)
 conv=>whnf
 refine aO.o8 d rfl rfl ?_ (aP);apply fP.lH (l:=[]++l++pR l)
 ·exact aS.app (aS.app (aS.nil _) (aS.bytes _) rfl) (WG l) (by simp)
 ·simp[pR]
 ·rfl
theorem Am(m:List UInt8)(k:Nat)(hk:k=m.length)(i:Nat):(((dF m).getD (k+i) default).toNat:Int)=(((pR m).getD i default).toNat:Int):=by
 subst hk;unfold dF;rw[List.getD,List.getElem?_append_right (by omega),Nat.add_sub_cancel_left,List.getD]
def nV(l:List UInt8):Prop:=4<=l.length/\l=dF (l.take (l.length-4))
theorem Ic(d:Nat)(m:List UInt8)(hF:aS F (dF m))(hn:n=(dF m).length)(hl:m.length<=1000000000):
  aC Tryz.prog 37 [.sl 1 n true F] (.bJ [.own d,.v (.bool true)]) [(d,.row 5 1 m.length true (aG m))]:=by
 refine aC.args (bvs:=[.sl 1 (dF m).length true (aG (dF m))]) ?_ (.of (λ X u hu=>bI.lH (sc:=true) hF hn X u hu) .nil);have hlen:=bP m;have htk:(dF m).take m.length=m:=by simp[dF]
 have hFm:aS (aG (dF m)) m:=λ i hi=>by have:=(aS.bytes (dF m)).take m.length i;rw[htk]at this;exact this hi
 refine K1.E 0x20001d Tryz.func37 ?_;repeat' ((conv=>whnf);first|refine K1.u ?_|refine K1.P1 (BJ m hFm (by omega) (by omega)) ?_ rfl rfl|refine GZ.mk [.int .u8 _,.int .u8 _,.int .u8 _,.int .u8 _] [.int .u8 _,.int .u8 _,.int .u8 _,.int .u8 _] _ rfl rfl (QS _ _ _ _ _ _ _ _) (lD.yes ⟨Am m _ (by omega) 0,Am m _ (by omega) 1,Am m _ (by omega) 2,Am m _ (by omega) 3⟩ ?_)|refine K1.o (id:=2) (nN [0,1,2,3,4,5,6,7,8,9,10] ((11,some [1])::nN [12,13] [])) ?_|refine K1.z ?_|refine K1.y (λ _=>?_) (λ _=>?_)|fail)
 conv=>whnf
 refine aO.o8 d rfl rfl ?_ (aP);apply fP.lH (l:=[]++m)
 ·exact aS.app (aS.nil _) hFm rfl
 ·simp;omega
 ·rfl
theorem JG{a b:UInt8}(h:(a.toNat:Int)=(b.toNat:Int)):a=b:=UInt8.toNat_inj.1 (by omega)
theorem ab5(h:l.length=k+4):l.drop k=[l.getD (k+0) default,l.getD (k+1) default,l.getD (k+2) default,l.getD (k+3) default]:=by
 apply List.ext_getElem
 ·simp[h]
 ·intro i h1 h2;have hi:i<4:=by simpa using h2
  rw[List.getElem_drop];rcases(show i=0\/i=1\/i=2\/i=3 by omega)with rfl|rfl|rfl|rfl<;>simp[List.getD,h]
theorem Y3(h:l.length=k+4)(e:((l.getD (k+0) default).toNat:Int)=((UInt8.ofNat (jS (l.take k))).toNat:Int)/\((l.getD (k+1) default).toNat:Int)=((UInt8.ofNat (jS (l.take k)/256)).toNat:Int)/\
  ((l.getD (k+2) default).toNat:Int)=((UInt8.ofNat (jS (l.take k)/65536)).toNat:Int)/\((l.getD (k+3) default).toNat:Int)=((UInt8.ofNat (jS (l.take k)/16777216)).toNat:Int)):nV l:=by
 obtain⟨e0,e1,e2,e3⟩:=e;refine⟨by omega, ?_⟩;rw[show l.length-4=k by omega];unfold dF pR;conv=>lhs;rw[<-List.take_append_drop k l,ab5 h]
 rw[JG e0,JG e1,JG e2,JG e3]
theorem QT(l:List UInt8)(h:¬nV l)(hF:aS F l)(hn:n=l.length)(hl:l.length<=1000000000):
  aC Tryz.prog 37 [.sl 1 n true F] (.bJ [.v (.slice none 0 0),.v (.bool false)]) []:=by
 refine aC.args (bvs:=[.sl 1 l.length true (aG l)]) ?_ (.of (λ X u hu=>bI.lH (sc:=true) hF hn X u hu) .nil);have hso (k:Nat) (hk:l.length=k+4):=λ e=>h (Y3 (k:=k) hk e);refine K1.E 0x20001d Tryz.func37 ?_;repeat' ((conv=>whnf);first|refine K1.u ?_|refine K1.P1 (BJ (l.take (l.length-4)) ((aS.bytes l).take _) (by rw[List.length_take];omega) (by rw[List.length_take];omega)) ?_ rfl rfl|refine GZ.mk [.int .u8 _,.int .u8 _,.int .u8 _,.int .u8 _] [.int .u8 _,.int .u8 _,.int .u8 _,.int .u8 _] _ rfl rfl (QS _ _ _ _ _ _ _ _) (lD.no (λ e=>?_) ?_)|refine aO.dW ?_|refine K1.o (id:=2) (nN [0,1,2,3,4,5,6,7,8,9,10] ((11,some [1])::nN [12,13] [])) ?_|refine K1.z ?_|refine K1.y (λ _=>?_) (λ _=>?_)|fail)
 ·conv=>whnf
  exact aW.mk (aP)
 ·have hk:((l.length:Int)-4).toNat=l.length-4:=by omega
  rw[hk]at e;exact hso (l.length-4) (by omega) e
 ·conv=>whnf
  exact aW.mk (aP)
theorem Ap(h:n<256):((UInt8.ofNat n).toNat:Int)=n:=by
 rw[UInt8.toNat_ofNat',Nat.mod_eq_of_lt (by omega)]
theorem dX(d n:Nat)(h1:n<=4294967296):aC Tryz.prog 75 [.v (.int .u64 (n:Int))] (.own d) [(d,.row 5 1 (ak n).length true (aG (ak n)))]:=by
 have hst:=Ol n h1;refine K1.E 0x2d Tryz.func75 ?_;repeat' ((conv=>whnf);first|refine K1.u ?_|refine K1.z ?_|refine K1.y (λ _=>?_) (λ _=>?_)|fail)
 refine aK.nil 3 90 5 1 (aG []) rfl (by omega) ?_;refine aK.mk {x:List UInt8×Nat×Nat//x.1++fE x.2.2 x.2.1=ak n/\x.2.1<128^(x.2.2+1)/\x.1.length<=10/\x.2.1<=4294967296}
  (λ x=>⟨[(0,.v (.int .u64 (x.1.2.1:Int))),(3,.own 90)],[(90,.row 5 1 x.1.1.length true (aG x.1.1))],[],91⟩) (λ x=>x.1.2.1)
  ⟨([],n,9),hst.1,hst.2,by simp,h1⟩ _ (iw.auto _ _ _ rfl ⟨aP,aP,trivial⟩ ⟨aY rfl,trivial⟩ rfl) ?_
 rintro⟨⟨acc,m,f⟩,i1,i2,i3,i4⟩;dsimp only at i1 i2 i3 i4⊢;have hl:acc.length+(fE f m).length<=10:=by
  have:=congrArg List.length i1;have:=aX 9 n;simp only[List.length_append,ak]at*;omega
 have hp:=sG f m;repeat' ((conv=>whnf);first|refine K1.u ?_|refine K1.z ?_|refine K1.y (λ _=>?_) (λ _=>?_)|fail)
 ·obtain⟨f',k1,k2⟩:=DZ i1 i2 (by omega);refine⟨⟨(acc++[UInt8.ofNat (m%128+128)],m/128,f'),k1,k2,by simp;omega,by dsimp only;omega⟩,_,iw.auto _ _ _ rfl ⟨bI.int (by dsimp only;omega),aP,trivial⟩ ⟨⟨_,rfl,fP.row (by simp) (jX rfl ?_)⟩,trivial⟩ rfl,by show m/128<m;omega⟩;simp only[chunk,bC,Ap (show m%128+128<256 by omega)];rfl
 ·have e:=GY i1 (by omega);refine aO.o8 d rfl rfl (fP.row ?_ ?_) (aP)
  ·rw[<-e];simp
  ·rw[<-e];refine jX rfl ?_;simp only[chunk,bC,Ap (show m<256 by omega)];rfl
theorem uH(d:Nat)(e:Ev)(h:fH e=0):aC Tryz.prog 74 [e.av] (.bJ [.own d,.v (.int .i64 0)]) [(d,.row 5 1 (dK e).length true (aG (dK e)))]:=by
 have m:=lV h;have g:=um m.ed;obtain⟨r,n,⟨c0,c1,c2,c3,c4⟩,hh,k,key,l,v⟩:=e;obtain⟨r0,r4,n1,n2,h1,h2,a0,a1,a2,a3,a4,own,ed⟩:=m;dsimp only[Ev.ed]at r0 r4 n1 n2 h1 h2 a0 a1 a2 a3 a4 g;obtain⟨g1,g2,g3,g4,g5,g6,g7⟩:=g;have g8:v.size<=12/\0<=l/\l<=1:=by
  cases hl:cu k with
  |true=>have:=g6 hl;omega
  |false=>have:=g7 hl;omega
 clear own ed;obtain⟨n,rfl⟩:=Int.eq_ofNat_of_zero_le (show 0<=n by omega);obtain⟨hh,rfl⟩:=Int.eq_ofNat_of_zero_le (show 0<=hh by omega);obtain⟨c0,rfl⟩:=Int.eq_ofNat_of_zero_le a0.1;obtain⟨c1,rfl⟩:=Int.eq_ofNat_of_zero_le a1.1;obtain⟨c2,rfl⟩:=Int.eq_ofNat_of_zero_le a2.1;obtain⟨c3,rfl⟩:=Int.eq_ofNat_of_zero_le a3.1;obtain⟨c4,rfl⟩:=Int.eq_ofNat_of_zero_le a4.1;have q (x:Nat):(ak x).length<=10:=aX 9 x;have q0:=q n;have q1:=q hh;have q2:=q c0;have q3:=q c1;have q4:=q c2;have q5:=q c3;have q6:=q c4;clear q;dsimp only[Ev.av,Ev.cs];rcases(show r=0\/r=1\/r=2\/r=3\/r=4 by omega)with rfl|rfl|rfl|rfl|rfl;all_goals
  refine K1.E 0x100020e00023ff Tryz.func74 ?_;repeat' ((conv=>whnf);first|refine K1.u ?_|refine K1.P1 (Fa ⟨_,(n:Int),⟨(c0:Int),(c1:Int),(c2:Int),(c3:Int),(c4:Int)⟩,(hh:Int),k,key,l,v⟩) ?_|refine K1.F1 (dX _ _ (by omega)) ?_ rfl rfl|refine K1.P1 (CU _) ?_|refine aK.rounds 6 ?_|refine K1.I 0x3 Tryz.func106 ?_|refine K1.I 0x3 Tryz.func107 ?_|refine K1.o (id:=0) (nN [0,1,2] [(3,some [2]),(4,some [2,0]),(5,some [2,0])]) ?_|refine K1.z ?_|refine K1.y (λ _=>?_) (λ _=>?_)|fail)
  all_goals(refine aO.o8 d rfl rfl ?_ (aP);apply fP.lH)
  all_goals(try(repeat' (first|exact aS.bytes _|exact aS.str _|exact aS.one (by omega) (by omega)|exact aS.two (by omega) (by omega) (by omega) (by omega)|apply aS.app)))
  all_goals first
   |(simp only[List.length_append,List.length_cons,List.length_nil,JE];try omega;done)
   |(simp[dK,others,words,gu,byteOf,byteOf', *];done)
def dD.vs(c:dD):List Value:=[.int .i64 c.c0,.int .i64 c.c1,.int .i64 c.c2,.int .i64 c.c3,.int .i64 c.c4]
def Ev.vs(e:Ev):List Value:=[.int .i64 e.r,.int .i64 e.n,.int .i64 e.c.c0,.int .i64 e.c.c1,.int .i64 e.c.c2,.int .i64 e.c.c3,.int .i64 e.c.c4,.int .i64 e.h,.int .i64 e.k,.string e.key,.int .i64 e.l,.string e.v]
theorem Fh(n:Nat)(a0 a1 a2 a3 a4 b0 b1 b2 b3 b4:Int)(w:World):(Op.equalIn (n+2) 36 (.agg #[.int .i64 a0,.int .i64 a1,.int .i64 a2,.int .i64 a3,.int .i64 a4]) (.agg #[.int .i64 b0,.int .i64 b1,.int .i64 b2,.int .i64 b3,.int .i64 b4])).run Tryz.prog w=
  .ok (decide (a0=b0/\a1=b1/\a2=b2/\a3=b3/\a4=b4)) w:=by
 rw[Op.equalIn];simp only[Sem.run_bind,run_underlying Tryz.underlying36,Result.andThen_ok];simp only[Std.Legacy.Range.forIn_eq_forIn_range',Std.Legacy.Range.size,Nat.sub_zero,Nat.add_sub_cancel,Nat.div_one,List.range'_succ,List.range'_zero,List.forIn_cons,List.forIn_nil];have u3:=Tryz.underlying3;have a3:=Tryz.isAgg3;have z3:=Tryz.sizeOf3;go_simp;repeat' split
 all_goals simp_all
theorem dD.eq_iff(a b:dD):(a.c0=b.c0/\a.c1=b.c1/\a.c2=b.c2/\a.c3=b.c3/\a.c4=b.c4)↔a=b:=by
 obtain⟨a0,a1,a2,a3,a4⟩:=a;obtain⟨b0,b1,b2,b3,b4⟩:=b;simp
theorem S9:Tryz.prog.eqGuardType Tryz.prog.depth 36=false:=by kernel_rfl
theorem mZ(a b:dD):Jb Tryz.prog 36 a.vs b.vs (a=b):=
 ⟨S9,λ w=>⟨_,by rw[decide_eq_true_eq,dD.eq_iff],Fh 9998 _ _ _ _ _ _ _ _ _ _ w⟩⟩
theorem Ev.eq_iff(a b:Ev):(a.r=b.r/\a.n=b.n/\(a.c.c0=b.c.c0/\a.c.c1=b.c.c1/\a.c.c2=b.c.c2/\a.c.c3=b.c.c3/\a.c.c4=b.c.c4)/\a.h=b.h/\a.k=b.k/\a.key=b.key/\a.l=b.l/\a.v=b.v)↔a=b:=by
 rw[dD.eq_iff];obtain⟨a0,a1,a2,a3,a4,a5,a6,a7⟩:=a;obtain⟨b0,b1,b2,b3,b4,b5,b6,b7⟩:=b;simp
theorem gG(k:Int):aC Tryz.prog 116 [.v (.int .i64 k)] (.bJ [.v (.bool (yQ k)),.v (.bool (yR k)),.v (.bool (yS k)),.v (.bool (UW k))]) []:=by
 refine K1.E 0xa8fd Tryz.func116 ?_;repeat' ((conv=>whnf);first|refine K1.u ?_|refine aO.dW ?_|refine K1.z ?_|refine K1.y (λ _=>?_) (λ _=>?_)|fail)
 all_goals(conv=>whnf)
 all_goals(refine aW.mk (bI.of ?_))
 all_goals first|(subst_vars;rfl)|(simp[yQ,yR,yS,UW, *];omega)
theorem JH(n:Int):aC Tryz.prog 132 [.v (.int .i64 n)] (.v (.bool (qp n))) []:=by
 refine K1.E 0x5 Tryz.func132 ?_;repeat' ((conv=>whnf);first|refine K1.u ?_|refine aO.dW ?_|refine K1.z ?_|refine K1.y (λ _=>?_) (λ _=>?_)|fail)
 all_goals(conv=>whnf)
 all_goals(refine aW.mk (bI.of ?_))
 all_goals simp[qp,iJ, *]
theorem O9{l:List Ev}(hj:j<l.length)(h:¬fH (l.getD j default)=0):l.all (λ e=>decide (fH e=0))=false:=by
 rw[List.all_eq_false];refine⟨l[j],List.getElem_mem hj, ?_⟩;rw[List.getD,List.getElem?_eq_getElem hj]at h;simpa using h
theorem JI{l:List Ev}(h:∀i,i<l.length->fH (l.getD i default)=0):l.all (λ e=>decide (fH e=0))=true:=by
 rw[List.all_eq_true];intro e he;obtain⟨i,hi,rfl⟩:=List.mem_iff_getElem.1 he;have:=h i hi;rw[List.getD,List.getElem?_eq_getElem hi]at this;simpa using this
theorem CW(k:Int)(h:¬ (1<=k/\k<=6)):aC Tryz.prog 116 [.v (.int .i64 k)] (.bJ [.v (.bool false),.v (.bool false),.v (.bool false),.v (.bool false)]) []:=by
 have:=gG k;rw[show yQ k=false by simp[yQ];omega,show yR k=false by simp[yR];omega,show yS k=false by simp[yS];omega,show UW k=false by simp[UW];omega]at this;exact this
theorem qB(x:Rc)(hl:x.ev.length<=140737488355328):aC Tryz.prog 115 [x.av] (.v (.bool (jR x))) []:=by
 obtain⟨k,r,u,⟨c0,c1,c2,c3,c4⟩,ev⟩:=x;dsimp only at hl;rcases(show k=1\/k=2\/k=3\/k=4\/k=5\/k=6\/ ¬ (1<=k/\k<=6) by omega)with rfl|rfl|rfl|rfl|rfl|rfl|hk;all_goals dsimp only[Rc.av,Rc.cs]
 all_goals
  refine K1.E 0x10f4000000474000000057f Tryz.func115 ?_;repeat' ((conv=>whnf);first|refine K1.u ?_|refine K1.P1 (CW _ hk) ?_|refine K1.P1 (gG _) ?_|refine K1.P1 (JH _) ?_|refine aK.jA 45 6 rfl ?_|refine GZ.mk (dD.vs ⟨c0,c1,c2,c3,c4⟩) (dD.vs aJ) (dD.mk c0 c1 c2 c3 c4=aJ) rfl rfl (mZ _ _) ?_|refine aO.dW ?_|refine K1.z ?_|refine K1.y (λ _=>?_) (λ _=>?_)|fail)
  all_goals(conv=>whnf)
  all_goals first
   |refine aW.mk (bI.of ?_)
   |refine aK.mk {j:Nat//j<=ev.length/\ ∀i,i<j->fH (ev.getD i default)=0} (λ j=>⟨[(1,.box 0 0),(80,.sl 12 ev.length true (jH ev)),(81,.v (.int .i64 (ev.length:Int))),(82,.v (.int .i64 (j.1:Int)))],
     [(0,.box 95 [.v (.int .i64 _),.v (.int .i64 r),.v (.int .i64 u),.v (.int .i64 c0),.v (.int .i64 c1),.v (.int .i64 c2),.v (.int .i64 c3),.v (.int .i64 c4),.sl 12 ev.length true (jH ev)])],[],4⟩) (λ j=>ev.length-j.1) ⟨0,Nat.zero_le _,λ i h=>absurd h (Nat.not_lt_zero i)⟩ _
     (iw.mk' [] _ _ _ rfl ⟨aP,aP,aP,bI.int rfl,trivial⟩ ⟨aY rfl,trivial⟩ rfl) ?_
  all_goals try(simp[jR,UW,yQ,yR,yS,BG,iH,-List.length_eq_zero_iff, *]<;>omega;done)
  all_goals(rintro⟨j,hj,hall⟩;dsimp only)
  all_goals repeat' ((conv=>whnf);first|refine K1.u ?_|refine K1.P1 (Fa (ev.getD (j:Int).toNat default)) ?_|refine aO.dW ?_|refine K1.z ?_|refine K1.y (λ _=>?_) (λ _=>?_)|fail)
  all_goals first
   |(conv=>whnf
     refine⟨⟨j+1,by omega,λ i hi=>?_⟩,_,iw.mk' [] _ _ _ rfl ⟨aP,aP,aP,bI.int rfl,trivial⟩ ⟨aY rfl,trivial⟩ rfl,by show ev.length-(j+1)<ev.length-j;omega⟩;rcases Nat.lt_or_ge i j with h|h
     ·exact hall i h
     ·rw[show i=j by omega];exact ‹fH (ev.getD (j:Int).toNat default)=0›)
   |(conv=>whnf
     refine aW.mk (bI.of ?_);have hno:=O9 (l:=ev) (j:=j) (by omega) ‹¬fH (ev.getD (j:Int).toNat default)=0›;simp[jR,hno])
   |(conv=>whnf
     refine aW.mk (bI.of ?_);have hyes:=JI (l:=ev) (λ i hi=>hall i (by omega));simp[jR,show qp 0=true from rfl,UW,yQ,yR,yS,BG,iH,-List.length_eq_zero_iff, *]<;>omega)
def dJ(l:List Ev):List UInt8:=l.flatMap dK
def vw(c:dD):List UInt8:=gu c.c0++gu c.c1++gu c.c2++gu c.c3++gu c.c4
def eU(x:Rc):List UInt8:=
 [byteOf x.k,byteOf x.r]++(if yQ x.k then gu x.u else [])++(if yS x.k then vw x.c else [])++(if yR x.k then ak x.ev.length++dJ x.ev else [])
def aH(x:Rc):List UInt8:=ak (dF (eU x)).length++dF (eU x)
theorem WH(x:Rc)(hl:x.ev.length<=140737488355328)(h:jR x=false):aC Tryz.prog 95 [x.av] (.bJ [.v (.slice none 0 0),.v (.int .i64 1)]) []:=by
 have hm:=qB x hl;rw[h]at hm;refine K1.E 0x403c0203a040004f57f Tryz.func95 ?_;repeat' ((conv=>whnf);first|refine K1.u ?_|refine K1.P1 hm ?_|refine aO.dW ?_|refine K1.z ?_|refine K1.y (λ _=>?_) (λ _=>?_)|fail)
 conv=>whnf
 exact aW.mk (aP)
def wC(x m:Int):Int:=IntKind.i64.wrap ((BitVec.ofInt IntKind.i64.bits x&&&BitVec.ofInt IntKind.i64.bits m).toNat:Int)
theorem L8(x:Int)(m:Nat)(hm:m<=4294967296):0<=wC x (m:Int)/\wC x (m:Int)<=m:=by
 have h:(BitVec.ofInt 64 x&&&BitVec.ofInt 64 (m:Int)).toNat<=m:=by
  rw[BitVec.toNat_and,BitVec.ofInt_natCast,BitVec.toNat_ofNat];exact Nat.le_trans Nat.and_le_right (Nat.mod_le _ _)
 show 0<=IntKind.i64.wrap ((BitVec.ofInt 64 x&&&BitVec.ofInt 64 (m:Int)).toNat:Int)/\IntKind.i64.wrap ((BitVec.ofInt 64 x&&&BitVec.ofInt 64 (m:Int)).toNat:Int)<=m;rw[IntKind.wrap_i64];omega
theorem Y4(x:Int):0<=wC x 1048575/\wC x 1048575<=1048575:=L8 x 1048575 (by omega)
theorem Y5(x:Int):0<=wC x 16777215/\wC x 16777215<=16777215:=L8 x 16777215 (by omega)
theorem Rm.m3{a:Int}(h:0<=a)(h0:a%3=0->K 0)(h1:a%3=1->K 1)(h2:a%3=2->K 2):Rm a 3 K:=by
 refine .pos h (by omega) ?_;rcases(show a%3=0\/a%3=1\/a%3=2 by omega)with e|e|e
 ·rw[e];exact h0 e
 ·rw[e];exact h1 e
 ·rw[e];exact h2 e
theorem Rm.m4{a:Int}(h:0<=a)(h0:a%4=0->K 0)(h1:a%4=1->K 1)(h2:a%4=2->K 2)(h3:a%4=3->K 3):Rm a 4 K:=by
 refine .pos h (by omega) ?_;rcases(show a%4=0\/a%4=1\/a%4=2\/a%4=3 by omega)with e|e|e|e
 ·rw[e];exact h0 e
 ·rw[e];exact h1 e
 ·rw[e];exact h2 e
 ·rw[e];exact h3 e
theorem Wr.a20(h:K (1+wC x 1048575)):Wr (1+IntKind.i64.wrap ((BitVec.ofInt IntKind.i64.bits x&&&BitVec.ofInt IntKind.i64.bits 1048575).toNat:Int)) K .i64:=by
 have:=Y4 x;exact .i64 (show-9223372036854775808<=1+wC x 1048575 by omega) (show 1+wC x 1048575<=9223372036854775807 by omega) h
theorem Wr.a24(h:K (1+wC x 16777215)):Wr (1+IntKind.i64.wrap ((BitVec.ofInt IntKind.i64.bits x&&&BitVec.ofInt IntKind.i64.bits 16777215).toNat:Int)) K .i64:=by
 have:=Y5 x;exact .i64 (show-9223372036854775808<=1+wC x 16777215 by omega) (show 1+wC x 16777215<=9223372036854775807 by omega) h
theorem BK:∀(f n k:Nat),n<128^(k+1)->(fE f n).length<=k+1
 |0,n,k,_=>by simp[fE]
 |f+1,n,k,h=>by
  unfold fE;split
  ·simp
  ·cases k with
   |zero=>simp at h;omega
   |succ k=>
    have:=BK f (n/128) k (by rw[Nat.pow_succ]at h;exact Nat.div_lt_of_lt_mul (by rw[Nat.mul_comm];exact h));simp only[List.length_cons];omega
theorem ab6(h:n<=1048576):(ak n).length<=3:=BK 9 n 2 (by omega)
theorem ab7(h:n<=16777216):(ak n).length<=4:=BK 9 n 3 (by omega)
theorem BL{n:Int}(h:n<=1048576):(gu n).length<=3:=ab6 (by omega)
theorem aaZ{n:Int}(h:n<=16777216):(gu n).length<=4:=ab7 (by omega)
theorem Ie(s:ByteArray):(words s).length=1+s.size:=by
 unfold words;rw[List.length_cons,Array.length_toList];show s.size+1=_;omega
theorem kL{e:Ev}(h:fH e=0):(dK e).length<=44:=by
 have m:=lV h;obtain⟨k1,k2,s1,s2,_,hl,hs⟩:=um m.ed;have hn:=BL (n:=e.n) (by have:=m.n2;omega);have hh:=aaZ (n:=e.h) (by have:=m.h2;omega);have c0:=BL m.a0.2;have c1:=BL m.a1.2;have c2:=BL m.a2.2;have c3:=BL m.a3.2;have c4:=BL m.a4.2;have r0:=m.r0;have r4:=m.r4;have hv:(if cu e.k then byteOf e.l::words e.v else []).length<=14:=by
  split
  ·rename_i h;have:=hl h;simp only[List.length_cons,Ie,Ev.ed]at this⊢;omega
  ·simp
 have ho:((others e).flatMap gu).length<=12:=by
  unfold others;rcases(show e.r=0\/e.r=1\/e.r=2\/e.r=3\/e.r=4 by omega)with h|h|h|h|h<;>simp[h]<;>omega
 unfold dK;simp only[List.length_append,List.length_cons,List.length_nil,Ie];have:e.key.size<=8:=s2;omega
theorem oM{l:List Ev}(h:∀e∈l,fH e=0):(dJ l).length<=44*l.length:=by
 induction l with
 |nil=>simp[dJ]
 |cons e l ih=>
  have h1:=kL (h e (by simp));have h2:=ih λ x hx=>h x (by simp[hx]);simp only[dJ,List.flatMap_cons,List.length_append,List.length_cons]at*;omega
theorem nX{l:List Ev}(h:j<l.length):dJ (l.take (j+1))=dJ (l.take j)++dK (l.getD j default):=by
 rw[List.take_add_one,List.getElem?_eq_getElem h,List.getD,List.getElem?_eq_getElem h,dJ,List.flatMap_append];simp[dJ]
theorem BM{l:List Ev}(h:l.all (λ e=>decide (fH e=0))=true)(hj:j<l.length):fH (l.getD j default)=0:=by
 rw[List.getD,List.getElem?_eq_getElem hj];simpa using List.all_eq_true.1 h l[j] (List.getElem_mem hj)
theorem lM{l:List Ev}(h:l.all (λ e=>decide (fH e=0))=true):∀e∈l,fH e=0:=λ e he=>by simpa using List.all_eq_true.1 h e he
theorem dR{n:Int}(h:qp n=true):∃m:Nat,n=m/\m<=1048576:=by
 have:=fZ h;exact⟨n.toNat,by omega,by omega⟩
structure acW(x:Rc):Prop where
 k:1<=x.k/\x.k<=6
 r:0<=x.r/\x.r<5
 u:qp x.u=true
 l:x.ev.length<=4096
 c:qp x.c.c0=true/\qp x.c.c1=true/\qp x.c.c2=true/\qp x.c.c3=true/\qp x.c.c4=true
 u0:yQ x.k=true\/x.u=0
 c0:yS x.k=true\/x.c=aJ
 e0:yR x.k=true\/x.ev.length=0
 ev:x.ev.all (λ e=>decide (fH e=0))=true
 one:x.k≠1\/x.ev.length=1
theorem lN{x:Rc}(h:jR x=true):acW x:=by
 simp only[jR,Bool.and_eq_true,Bool.or_eq_true,decide_eq_true_eq,iH,BG,UW]at h;obtain⟨⟨⟨⟨⟨⟨⟨⟨⟨⟨h1,h2⟩,h3⟩,h4⟩,h5⟩,⟨⟨⟨h6,h7⟩,h8⟩,h9⟩,h10⟩,h11⟩,h12⟩,h13⟩,h14⟩,h15⟩:=h;exact⟨h1,⟨h2,h3⟩,h4,h5,⟨h6,h7,h8,h9,h10⟩,h11,h12,h13,h14,h15⟩
theorem JJ(d:Nat)(x:Rc)(h:jR x=true)(hk:x.k=1\/x.k=2\/x.k=5):
  aC Tryz.prog 95 [x.av] (.bJ [.own d,.v (.int .i64 0)]) [(d,.row 5 1 (aH x).length true (aG (aH x)))]:=by
 have m:=lN h;have hm:=qB x (by have:=m.l;omega);rw[h]at hm;obtain⟨k,r,u,c,ev⟩:=x;obtain⟨mk,mr,mu,ml,mc,nY,nH,me0,uj,m1⟩:=m;dsimp only at mk mr mu ml mc nY nH me0 uj m1 hk;have hat:∀j,j<ev.length->fH (ev.getD j default)=0:=λ j hj=>BM uj hj;have WI:∀j,j<ev.length->(dK (ev.getD j default)).length<=44:=λ j hj=>kL (hat j hj);have hlen:∀j,(dJ (ev.take j)).length<=44*j:=λ j=>Nat.le_trans (oM λ e he=>lM uj e (List.mem_of_mem_take he)) (Nat.mul_le_mul_left _ (by rw[List.length_take];omega));have hv:(ak ev.length).length<=10:=aX 9 _;obtain⟨kk,hkk⟩:∃kk,kk=k:=⟨_,rfl⟩;have hmore:∀j,([byteOf' kk,byteOf' r]++ak ev.length++dJ (ev.take j)).length=2+(ak ev.length).length+(dJ (ev.take j)).length:=λ j=>by simp;omega
 rcases hk with rfl|rfl|rfl;all_goals
  dsimp only[Rc.av,Rc.cs]at hm⊢;refine K1.E 0x403c0203a040004f57f Tryz.func95 ?_;repeat' ((conv=>whnf);first|refine K1.u ?_|refine K1.P1 hm ?_|refine K1.P1 (gG _) ?_|refine K1.F1 (dX _ ev.length (by omega)) ?_ rfl rfl|refine K1.z ?_|refine K1.y (λ _=>?_) (λ _=>?_)|fail)
  conv=>whnf
  refine aK.mk {j:Nat//j<=ev.length} (λ j=>⟨[(1,.box 0 0),(8,.own 90),(62,.sl 12 ev.length true (jH ev)),(63,.v (.int .i64 (ev.length:Int))),(64,.v (.int .i64 (j.1:Int)))],
   [(90,.row 5 1 ([byteOf' kk,byteOf' r]++ak ev.length++dJ (ev.take j.1)).length true (aG ([byteOf' kk,byteOf' r]++ak ev.length++dJ (ev.take j.1))))],[],91⟩) (λ j=>ev.length-j.1) ⟨0,Nat.zero_le _⟩ _
   (iw.mk' [(3,90)] _ _ _ rfl ⟨aP,aP,aP,aP,bI.int rfl,trivial⟩ ⟨⟨_,rfl,fP.lH (aS.app (aS.two (by omega) (by omega) (by omega) (by omega)) (aS.bytes _) rfl) (by simp<;>omega) (by simp[dJ,hkk])⟩,trivial⟩ rfl) ?_
  rintro⟨j,hj⟩;dsimp only;have WJ:=WI (j:Int).toNat;have hmj:=hmore j;have hlj:=hlen j;have hsl:=bP ([byteOf' kk,byteOf' r]++ak ev.length++dJ (ev.take j));have hvs:(ak (dF ([byteOf' kk,byteOf' r]++ak ev.length++dJ (ev.take j))).length).length<=10:=aX 9 _;repeat' ((conv=>whnf);first|refine K1.u ?_|refine K1.F1 (uH _ (ev.getD (j:Int).toNat default) (hat _ (by omega))) ?_ rfl rfl|refine K1.F1 (nU _ ([byteOf' kk,byteOf' r]++ak ev.length++dJ (ev.take j)) (aS.bytes _) rfl (by omega)) ?_ rfl rfl|refine K1.F1 (dX _ (dF ([byteOf' kk,byteOf' r]++ak ev.length++dJ (ev.take j))).length (by rw[bP];omega)) ?_ rfl rfl|refine K1.z ?_|refine K1.y (λ _=>?_) (λ _=>?_)|fail)
  ·conv=>whnf
   refine⟨⟨j+1,by omega⟩,_,iw.mk' [(93,90)] _ _ _ rfl ⟨aP,aP,aP,aP,bI.int rfl,trivial⟩ ⟨⟨_,rfl,fP.lH (aS.app (aS.bytes _) (aS.bytes _) rfl) List.length_append.symm ?_⟩,trivial⟩ rfl,by show ev.length-(j+1)<ev.length-j;omega⟩;rw[nX (by omega),List.append_assoc];rfl
  ·conv=>whnf
   refine aO.o8 d rfl rfl ?_ (aP);refine fP.lH (aS.app (aS.bytes _) (aS.bytes _) rfl) List.length_append.symm ?_;rw[List.take_of_length_le (by omega)];unfold aH eU;simp[hkk,yQ,yR,yS,byteOf,byteOf']
theorem WL(d:Nat)(x:Rc)(h:jR x=true)(hk:x.k=4):
  aC Tryz.prog 95 [x.av] (.bJ [.own d,.v (.int .i64 0)]) [(d,.row 5 1 (aH x).length true (aG (aH x)))]:=by
 have m:=lN h;have hm:=qB x (by have:=m.l;omega);rw[h]at hm;obtain⟨k,r,u,c,ev⟩:=x;obtain⟨mk,mr,mu,ml,mc,nY,nH,me0,uj,m1⟩:=m;dsimp only at mk mr mu ml mc nY nH me0 uj m1 hk;have hat:∀j,j<ev.length->fH (ev.getD j default)=0:=λ j hj=>BM uj hj;have WI:∀j,j<ev.length->(dK (ev.getD j default)).length<=44:=λ j hj=>kL (hat j hj);have hlen:∀j,(dJ (ev.take j)).length<=44*j:=λ j=>Nat.le_trans (oM λ e he=>lM uj e (List.mem_of_mem_take he)) (Nat.mul_le_mul_left _ (by rw[List.length_take];omega));have hv:(ak ev.length).length<=10:=aX 9 _;obtain⟨kk,hkk⟩:∃kk,kk=k:=⟨_,rfl⟩;obtain⟨un,rfl,hun⟩:=dR mu;have hvu:(ak un).length<=10:=aX 9 _;have hmore:∀j,([byteOf' kk,byteOf' r]++ak un++ak ev.length++dJ (ev.take j)).length=2+(ak un).length+(ak ev.length).length+(dJ (ev.take j)).length:=λ j=>by simp;omega
 subst hk;all_goals
  dsimp only[Rc.av,Rc.cs]at hm⊢;refine K1.E 0x403c0203a040004f57f Tryz.func95 ?_;repeat' ((conv=>whnf);first|refine K1.u ?_|refine K1.P1 hm ?_|refine K1.P1 (gG _) ?_|refine K1.F1 (dX _ un (by omega)) ?_ rfl rfl|refine K1.F1 (dX _ ev.length (by omega)) ?_ rfl rfl|refine K1.z ?_|refine K1.y (λ _=>?_) (λ _=>?_)|fail)
  conv=>whnf
  refine aK.mk {j:Nat//j<=ev.length} (λ j=>⟨[(1,.box 0 0),(8,.own 90),(62,.sl 12 ev.length true (jH ev)),(63,.v (.int .i64 (ev.length:Int))),(64,.v (.int .i64 (j.1:Int)))],
   [(90,.row 5 1 ([byteOf' kk,byteOf' r]++ak un++ak ev.length++dJ (ev.take j.1)).length true (aG ([byteOf' kk,byteOf' r]++ak un++ak ev.length++dJ (ev.take j.1))))],[],91⟩) (λ j=>ev.length-j.1) ⟨0,Nat.zero_le _⟩ _
   (iw.mk' [(5,90)] _ _ _ rfl ⟨aP,aP,aP,aP,bI.int rfl,trivial⟩ ⟨⟨_,rfl,fP.lH (aS.app (aS.app (aS.two (by omega) (by omega) (by omega) (by omega)) (aS.bytes _) rfl) (aS.bytes _) (by simp<;>omega)) (by simp<;>omega) (by simp[dJ,hkk])⟩,trivial⟩ rfl) ?_
  rintro⟨j,hj⟩;dsimp only;have WJ:=WI (j:Int).toNat;have hmj:=hmore j;have hlj:=hlen j;have hsl:=bP ([byteOf' kk,byteOf' r]++ak un++ak ev.length++dJ (ev.take j));have hvs:(ak (dF ([byteOf' kk,byteOf' r]++ak un++ak ev.length++dJ (ev.take j))).length).length<=10:=aX 9 _;repeat' ((conv=>whnf);first|refine K1.u ?_|refine K1.F1 (uH _ (ev.getD (j:Int).toNat default) (hat _ (by omega))) ?_ rfl rfl|refine K1.F1 (nU _ ([byteOf' kk,byteOf' r]++ak un++ak ev.length++dJ (ev.take j)) (aS.bytes _) rfl (by omega)) ?_ rfl rfl|refine K1.F1 (dX _ (dF ([byteOf' kk,byteOf' r]++ak un++ak ev.length++dJ (ev.take j))).length (by rw[bP];omega)) ?_ rfl rfl|refine K1.z ?_|refine K1.y (λ _=>?_) (λ _=>?_)|fail)
  ·conv=>whnf
   refine⟨⟨j+1,by omega⟩,_,iw.mk' [(93,90)] _ _ _ rfl ⟨aP,aP,aP,aP,bI.int rfl,trivial⟩ ⟨⟨_,rfl,fP.lH (aS.app (aS.bytes _) (aS.bytes _) rfl) List.length_append.symm ?_⟩,trivial⟩ rfl,by show ev.length-(j+1)<ev.length-j;omega⟩;rw[nX (by omega),List.append_assoc];rfl
  ·conv=>whnf
   refine aO.o8 d rfl rfl ?_ (aP);refine fP.lH (aS.app (aS.bytes _) (aS.bytes _) rfl) List.length_append.symm ?_;rw[List.take_of_length_le (by omega)];unfold aH eU;simp[hkk,yQ,yR,yS,byteOf,byteOf',gu]
theorem Y6(d:Nat)(x:Rc)(h:jR x=true)(hk:x.k=3):
  aC Tryz.prog 95 [x.av] (.bJ [.own d,.v (.int .i64 0)]) [(d,.row 5 1 (aH x).length true (aG (aH x)))]:=by
 have m:=lN h;have hm:=qB x (by have:=m.l;omega);rw[h]at hm;obtain⟨k,r,u,c,ev⟩:=x;obtain⟨mk,mr,mu,ml,mc,nY,nH,me0,uj,m1⟩:=m;dsimp only at mk mr mu ml mc nY nH me0 uj m1 hk;obtain⟨kk,hkk⟩:∃kk,kk=k:=⟨_,rfl⟩;obtain⟨un,rfl,hun⟩:=dR mu;have hvu:(ak un).length<=10:=aX 9 _;have hmore:([byteOf' kk,byteOf' r]++ak un).length=2+(ak un).length:=by simp;omega
 have hsl:=bP ([byteOf' kk,byteOf' r]++ak un);have hvs:(ak (dF ([byteOf' kk,byteOf' r]++ak un)).length).length<=10:=aX 9 _;subst hk;dsimp only[Rc.av,Rc.cs]at hm⊢;refine K1.E 0x403c0203a040004f57f Tryz.func95 ?_;repeat' ((conv=>whnf);first|refine K1.u ?_|refine K1.P1 hm ?_|refine K1.P1 (gG _) ?_|refine K1.F1 (dX _ un (by omega)) ?_ rfl rfl|refine K1.F1 (nU _ ([byteOf' kk,byteOf' r]++ak un) (hkk▸aS.app (aS.two (by omega) (by omega) (by omega) (by omega)) (aS.bytes _) rfl) (by simp<;>omega) (by omega)) ?_ rfl rfl|refine K1.F1 (dX _ (dF ([byteOf' kk,byteOf' r]++ak un)).length (by rw[bP];omega)) ?_ rfl rfl|refine K1.z ?_|refine K1.y (λ _=>?_) (λ _=>?_)|fail)
 conv=>whnf
 refine aO.o8 d rfl rfl ?_ (aP);refine fP.lH (aS.app (aS.bytes _) (aS.bytes _) rfl) List.length_append.symm ?_;unfold aH eU;simp[hkk,yQ,yR,yS,byteOf,byteOf',gu]
theorem Y7(d:Nat)(x:Rc)(h:jR x=true)(hk:x.k=6):
  aC Tryz.prog 95 [x.av] (.bJ [.own d,.v (.int .i64 0)]) [(d,.row 5 1 (aH x).length true (aG (aH x)))]:=by
 have m:=lN h;have hm:=qB x (by have:=m.l;omega);rw[h]at hm;obtain⟨k,r,u,⟨c0,c1,c2,c3,c4⟩,ev⟩:=x;obtain⟨mk,mr,mu,ml,⟨m0,m1,m2,m3,m4⟩,nY,nH,me0,uj,Aq⟩:=m;dsimp only at mk mr mu ml m0 m1 m2 m3 m4 nY nH me0 uj Aq hk;obtain⟨kk,hkk⟩:∃kk,kk=k:=⟨_,rfl⟩;obtain⟨c0,rfl,hc0⟩:=dR m0;obtain⟨c1,rfl,hc1⟩:=dR m1;obtain⟨c2,rfl,hc2⟩:=dR m2;obtain⟨c3,rfl,hc3⟩:=dR m3;obtain⟨c4,rfl,hc4⟩:=dR m4;have q0:(ak c0).length<=10:=aX 9 _;have q1:(ak c1).length<=10:=aX 9 _;have q2:(ak c2).length<=10:=aX 9 _;have q3:(ak c3).length<=10:=aX 9 _;have q4:(ak c4).length<=10:=aX 9 _;have hmore:([byteOf' kk,byteOf' r]++ak c0++ak c1++ak c2++ak c3++ak c4).length=2+(ak c0).length+(ak c1).length+(ak c2).length+(ak c3).length+(ak c4).length:=by simp;omega
 have hsl:=bP ([byteOf' kk,byteOf' r]++ak c0++ak c1++ak c2++ak c3++ak c4);have hvs:(ak (dF ([byteOf' kk,byteOf' r]++ak c0++ak c1++ak c2++ak c3++ak c4)).length).length<=10:=aX 9 _;subst hk;dsimp only[Rc.av,Rc.cs]at hm⊢;refine K1.E 0x403c0203a040004f57f Tryz.func95 ?_;repeat' ((conv=>whnf);first|refine K1.u ?_|refine K1.P1 hm ?_|refine K1.P1 (gG _) ?_|refine K1.F1 (dX _ c0 (by omega)) ?_ rfl rfl|refine K1.F1 (dX _ c1 (by omega)) ?_ rfl rfl|refine K1.F1 (dX _ c2 (by omega)) ?_ rfl rfl|refine K1.F1 (dX _ c3 (by omega)) ?_ rfl rfl|refine K1.F1 (dX _ c4 (by omega)) ?_ rfl rfl|refine K1.F1 (nU _ ([byteOf' kk,byteOf' r]++ak c0++ak c1++ak c2++ak c3++ak c4) (hkk▸aS.app (aS.app (aS.app (aS.app (aS.app (aS.two (by omega) (by omega) (by omega) (by omega)) (aS.bytes _) rfl) (aS.bytes _) (by simp<;>omega)) (aS.bytes _) (by simp<;>omega)) (aS.bytes _) (by simp<;>omega)) (aS.bytes _) (by simp<;>omega)) (by simp<;>omega) (by omega)) ?_ rfl rfl|refine K1.F1 (dX _ (dF ([byteOf' kk,byteOf' r]++ak c0++ak c1++ak c2++ak c3++ak c4)).length (by rw[bP];omega)) ?_ rfl rfl|refine aK.jA 44 6 rfl ?_|refine K1.z ?_|refine K1.y (λ _=>?_) (λ _=>?_)|fail)
 conv=>whnf
 refine aO.o8 d rfl rfl ?_ (aP);refine fP.lH (aS.app (aS.bytes _) (aS.bytes _) rfl) List.length_append.symm ?_;unfold aH eU;simp[hkk,yQ,yR,yS,byteOf,byteOf',gu,vw]
theorem Ig(d:Nat)(x:Rc)(h:jR x=true):
  aC Tryz.prog 95 [x.av] (.bJ [.own d,.v (.int .i64 0)]) [(d,.row 5 1 (aH x).length true (aG (aH x)))]:=by
 have m:=(lN h).k;rcases(show x.k=1\/x.k=2\/x.k=3\/x.k=4\/x.k=5\/x.k=6 by omega)with hk|hk|hk|hk|hk|hk
 ·exact JJ d x h (.inl hk)
 ·exact JJ d x h (.inr (.inl hk))
 ·exact Y6 d x h hk
 ·exact WL d x h hk
 ·exact JJ d x h (.inr (.inr hk))
 ·exact Y7 d x h hk
end Go.Proofs.YtopfgjgdadnjeaaGreat
