/-
  Contracts of the walk:HyM,CrcLaw,Turn,HyT,HbU,NdIa,AmR,HyV,HyU,HyW,OpenJ,HnC.
-/
import Derived.Test.YtopfgjgdadnjeaaGreatHp23
import Derived.Test.YtopfgjgdadnjeaaGreatHp8
import Derived.Test.YtopfgjgdadnjeaaGreatHp22
import Derived.Test.YtopfgjgdadnjeaaGreatHp9
import Derived.Test.YtopfgjgdadnjeaaGreatHp14
import Derived.Test.YtopfgjgdadnjeaaGreatHp7
import Derived.Test.YtopfgjgdadnjeaaGreatHp17
set_option maxHeartbeats 16000000
set_option maxRecDepth 100000
set_option linter.unusedVariables false
set_option linter.unusedSimpArgs false
namespace Go.Proofs.YtopfgjgdadnjeaaGreat
open Go.RowKit
variable{h h':Hb}{w:Int}{res:JZ}{bD:List AV}{l:List Ev}{Q:List UInt8}{i k n q r s:Nat}{F:Nat->List AV}{x:Rc}{y':Ry}{y:gX}
theorem abw{y:Ry}{r:JZ}(ha:(bD.all (rD (λ _=>false) 0))=true)
  (hm:au Tryz.prog 27 (qN y ()) bD (F8 r) (qN y' ()++l7 r)\/au Tryz.prog 27 (qN y ()) bD (F8 r) (IX y'++l7 r)\/au Tryz.prog 27 (qN y ()) bD (F8 r) (Ci 2 y'++l7 r)):
  au Tryz.prog 27 [(0,.obs (qm y))] bD (F8 r) ((0,.obs (qm y'))::l7 r):=by
 have hE:Enters Tryz.prog 27:=⟨_,_,Tryz.func27,rfl,rfl⟩;cases r with
 |inl x=>
  rcases hm with hm|hm|hm
  ·exact sD hE (lJ y') hm rfl (by rw[ha];rfl)
  ·exact sD hE (IY y') hm rfl (by rw[ha];rfl)
  ·exact sD hE (IW y') hm rfl (by rw[ha];rfl)
 |inr q=>
  obtain⟨r,w⟩:=q;rcases hm with hm|hm|hm
  ·exact sD hE (lJ y') hm rfl (by rw[ha];rfl)
  ·exact sD hE (IY y') hm rfl (by rw[ha];rfl)
  ·exact sD hE (IW y') hm rfl (by rw[ha];rfl)
theorem UK(hx:iC x=true)(he:x.ev=[]):uU x (bg x):=λ d=>by
 have:=qJ d x hx;obtain⟨k,r,u,c,ev⟩:=x;dsimp only at he;subst he;exact this.args (.of (λ X u hu=>C1.pF hu) .nil)
theorem Qj(hx:jR x=true)(he:x.ev=[]):rP x (aH x):=λ d=>by
 have:=Gl d x hx;obtain⟨k,r,u,c,ev⟩:=x;dsimp only at he;subst he;exact this.args (.of (λ X u hu=>C1.pF hu) .nil)
theorem UL(y y':Ry)(b:List UInt8)(res:JZ)(hr:l9 k h y)(ht:PX y b=(y',res))(hb:b.length<=1000000000)(hF:aS F b)(hn:n=b.length):
  au Tryz.prog 27 [(0,.obs (qm y))] [.box 0 0,.sl 1 n true F] (F8 res) ((0,.obs (qm y'))::l7 res):=by
 refine abw rfl ?_;obtain⟨hyn,hn1,Oj⟩:=Qi hr.may;have hB:=hr.B;have hG:=hr.G;have hmc:=hr.may;clear hr;unfold PX at ht;by_cases hup:y.up=false
 ·rw[if_pos hup]at ht;cases ht;exact .inl (by rw[show l7 (.inl 18)=[]from rfl,List.append_nil];exact Ko y hup)
 ·rw[if_neg hup]at ht;have hup:y.up=true:=by simpa using hup
  obtain⟨⟨z,x⟩,htk⟩:∃q,gV b=q:=⟨_,rfl⟩;have hft:jO n F z.k z.r z.u z.c z.ev x:=X6 b htk hb hF hn;rw[htk]at ht;dsimp only at ht;by_cases hx:x≠0
  ·rw[if_pos hx]at ht;cases ht;have:=Di y hup x z.k z.r z.u z.c z.ev hft (.inl hx);rw[if_neg hx]at this;exact .inl (by rw[show l7 (.inl x)=[]from rfl,List.append_nil];exact this)
  ·rw[if_neg hx]at ht;have hx:x=0:=by simpa using hx
   subst hx;have hm:=iP (zA htk);have hr0:=hm.r;unfold J3 at ht;by_cases hrn:y.c.n<=z.r
   ·rw[if_pos hrn]at ht;cases ht;have:=Di y hup 0 z.k z.r z.u z.c z.ev hft (.inr hrn);rw[if_pos rfl]at this;exact .inl (by rw[show l7 (.inl 23)=[]from rfl,List.append_nil];exact this)
   ·rw[if_neg hrn]at ht;have hcp:kU y.c y.p:=NU y.c y.p hB.p5 hB.a5 hB.s;obtain⟨k,zr,u,c,ev⟩:=z;dsimp only at ht hft hm hr0 hrn;obtain⟨r,rfl⟩:∃r:Nat,zr=(r:Int):=⟨zr.toNat,by omega⟩;have kC:r<5:=by omega
    have Ym:r<y.n:=by omega
    have hrn:(r:Int)<y.c.n:=by omega
    by_cases hk1:k=1
    ·subst hk1;rw[if_pos rfl]at ht;have hall:∀e∈ev,fH e=0/\e.r=(r:Int):=λ e he=>by
      have:=List.all_eq_true.1 hm.ev e he;simpa[pU]using this
     have hev:EvB ev:=⟨by have:=hm.l;dsimp only at this;omega,λ j=>by
      rcases Nat.lt_or_ge j ev.length with hj|hj
      ·have hz:=lV (hall _ (getD_mem (d:=default) hj)).1;have z1:=hz.n1;have z2:=hz.n2;omega
      ·rw[show ev.getD j default=default by simp[List.getD,List.getElem?_eq_none hj]];decide⟩
     have hrl:r<(toP y.n y.p).sh.length:=by rw[(rQ hB).1];exact Ym
     have hGp:=Rf (hG.s r hrl) hall;have hsB:FV (gB y.c.w (y.p.ps.getD r default) ev).1:=XQ (hB.s _ (getD_mem (by have:=hB.p5;omega))) (r:=r) (by rw[tN Ym hB]at hGp;exact hGp);obtain⟨⟨p',m,e⟩,hp⟩:∃q,iQ y.c.w y.n r ev y.p=q:=⟨_,rfl⟩;have hpu:pz y.c y.p p' r ev m e:=Uz y.c y.p y.n r Ym Oj hyn hB ev hev (λ j hj=>(hall _ (getD_mem hj)).2) p' m e hp;have hml:e=0->m=((gB y.c.w (y.p.ps.getD r default) ev).1.l.length:Int):=λ he=>by
      unfold iQ at hp;split at hp
      ·simp only[Prod.mk.injEq]at hp;exact hp.2.1.symm
      ·rename_i h;simp only[Prod.mk.injEq]at hp;exact absurd (hp.2.2.trans he) h
     have hme:e≠0->m=0/\p'=y.p:=λ he=>by
      unfold iQ at hp;split at hp
      ·simp only[Prod.mk.injEq]at hp;exact absurd hp.2.2.symm he
      ·simp only[Prod.mk.injEq]at hp;exact⟨hp.2.1.symm,hp.1.symm⟩
     unfold Gf at ht;simp only[Int.toNat_natCast]at ht;rw[hp]at ht;dsimp only at ht;by_cases he:e≠0
     ·rw[if_pos he]at ht;cases ht;obtain⟨rfl,rfl⟩:=hme he;exact .inr (.inl (by rw[show l7 (.inl e)=[]from rfl,List.append_nil];exact N8 y hup r u e c ev _ hft hrn hcp hpu he))
     ·rw[if_neg he]at ht;have he:e=0:=by simpa using he
      subst he;have hml:=hml rfl;have hm1:=hsB.ln;have hw:=UK (XM (r:=(r:Int)) (m:=m) (by omega) (by omega) (by omega) (by omega)) rfl;by_cases hmg:m>((y.p.ps.getD r default).l.length:Int)
      ·rw[if_pos hmg]at ht;have hmr:=PV (r:=(r:Int)) (l:=ev) (by omega) (by omega) (by have:=hm.l;dsimp only at this;omega) λ e he=>(hall e he).1;have hv:sF ⟨5,(r:Int),0,aJ,ev⟩ (aH ⟨5,(r:Int),0,aJ,ev⟩):=λ d=>Gl d _ hmr;cases hct:y.cuts with
       |false=>
        unfold jy at ht;rw[hct]at ht;simp only[Bool.not_false,Bool.true_eq_false,if_false,true_or,if_true,hup,Bool.and_self]at ht;cases ht;exact .inr (.inr (Qg y hup r kC u m c ev p' hft hrn hcp hpu hmg hw hv hct))
       |true=>
        unfold jy at ht;rw[hct]at ht;simp only[Bool.not_true,if_true,hup,Bool.and_false,Bool.true_eq_false,false_or]at ht;by_cases hk:((aH ⟨5,(r:Int),0,aJ,ev⟩).length:Int)<=y.keep
        ·rw[if_pos hk]at ht;cases ht;exact .inr (.inr (by rw[show l7 (.inl 18)=[]from rfl,List.append_nil];exact N9 y hup r kC u m c ev p' hft hrn hcp hpu hmg hv hct hk))
        ·rw[if_neg hk]at ht;cases ht;exact .inr (.inl (by rw[show l7 (.inl 18)=[]from rfl,List.append_nil];exact Kt y hup r kC u m c ev p' hft hrn hcp hpu hmg hv hct hk))
      ·rw[if_neg hmg]at ht;cases ht;exact .inr (.inl (Kr y hup r kC u m c ev p' hft hrn hcp hpu hmg hw))
    ·rw[if_neg hk1]at ht;by_cases hk3:k=3
     ·subst hk3;rw[if_pos rfl]at ht;simp only[Int.toNat_natCast]at ht;cases ht;have hfe:Ku y.c y.p r c _:=Qa y.c y.p y.n r Ym hyn hB c;have he:=FX r c (y.p.ps.take y.n) 0;have hfm:=zl (w:=y.c.w) (r:=r) (c:=c) (l:=(y.p.ps.take y.n).map toS) (i:=0) λ s hs=>by
       obtain⟨i,hi,rfl⟩:=List.getElem_of_mem hs;have:=hG.s i hi;rw[show(toP y.n y.p).sh.getD i default=((y.p.ps.take y.n).map toS)[i] by
        show((y.p.ps.take y.n).map toS).getD i default=_;rw[List.getD,List.getElem?_eq_getElem hi];rfl]at this
       exact⟨this.k,this.may⟩
      have hw4:=(Yc hmc).2;have hl:=(rQ hB).1;have hfl:(jT r c 0 ((y.p.ps.take y.n).map toS)).length<=20:=by
       have h1:=hfm.1;have h2:y.c.w*((toP y.n y.p).sh.length:Int)<=4*((toP y.n y.p).sh.length:Int):=Int.mul_le_mul_of_nonneg_right hw4 (by omega);have h1:((jT r c 0 ((y.p.ps.take y.n).map toS)).length:Int)<=y.c.w*((toP y.n y.p).sh.length:Int):=h1;omega
      rw[he]at hfm hfl;have hw:Kv ⟨4,(r:Int),0,aJ,pW r c 0 (y.p.ps.take y.n)⟩ _:=λ d=>qJ d _ (XO (r:=(r:Int)) (by omega) (by omega) hfl hfm.2);exact .inr (.inl (Yg y hup r u c ev _ hft hrn hcp hfe hw))
     ·rw[if_neg hk3]at ht;by_cases hk5:k=5
      ·subst hk5;rw[if_pos rfl]at ht;have hok:BG c=true:=by
        have:=hm.c;simp only[BG,this.1,this.2.1,this.2.2.1,this.2.2.2.1,this.2.2.2.2,Bool.and_self]
       have hmr:=PW (r:=(r:Int)) (c:=c) (by omega) (by omega) hok;have hv:=Qj hmr rfl;have hak:Bc y.c y.p (rG y.n y.p r c) r c:=X7 y.c y.p y.n r Ym Oj hyn hB.p5 hB.a5 c;unfold NC at ht;simp only[Int.toNat_natCast]at ht;by_cases hs:(y.p.dS.getD r aJ).jn c=y.p.dS.getD r aJ
       ·rw[if_neg (λ h=>h hs)]at ht;cases ht;exact .inr (.inl (by rw[show l7 (.inl 0)=[]from rfl,List.append_nil];exact Oa y hup r kC u c ev _ hft hrn hcp hak hs))
       ·rw[if_pos hs]at ht;cases hct:y.cuts with
        |false=>
         unfold jy at ht;rw[hct]at ht;simp only[Bool.not_false,Bool.true_eq_false,if_false,true_or,if_true,hup,Bool.and_self]at ht;cases ht;exact .inr (.inr (by rw[show l7 (.inl 0)=[]from rfl,List.append_nil];exact UF y hup r kC u c ev _ hft hrn hcp hak hs hv hct))
        |true=>
         unfold jy at ht;rw[hct]at ht;simp only[Bool.not_true,if_true,hup,Bool.and_false,Bool.true_eq_false,false_or]at ht;by_cases hk:((aH ⟨6,(r:Int),0,c,[]⟩).length:Int)<=y.keep
         ·rw[if_pos hk]at ht;cases ht;exact .inr (.inr (by rw[show l7 (.inl 18)=[]from rfl,List.append_nil];exact Qh y hup r kC u c ev _ hft hrn hcp hak hs hv hct hk))
         ·rw[if_neg hk]at ht;cases ht;exact .inr (.inl (by rw[show l7 (.inl 18)=[]from rfl,List.append_nil];exact Ob y hup r kC u c ev _ hft hrn hcp hak hs hv hct hk))
      ·rw[if_neg hk5]at ht;cases ht;exact .inr (.inl (by rw[show l7 (.inl 23)=[]from rfl,List.append_nil];exact Kq y hup k r u c ev hft hrn hk1 hk3 hk5 hcp))

def Gp(l:List UInt8)(q:Nat):List UInt8:=l.set (q/8) (l.getD (q/8) default^^^UInt8.ofNat (2^(q%8)))
def nD(l:List UInt8)(k m:Nat):Nat->List UInt8
 |0=>l
 |i+1=>if m.testBit i=true then Gp (nD l k m i) (k+i)else nD l k m i
theorem UM(l:List UInt8)(q:Nat):(Gp l q).length=l.length:=by simp[Gp]
theorem xR(l:List UInt8)(k m:Nat):∀i,(nD l k m i).length=l.length
 |0=>rfl
 |i+1=>by
  unfold nD;split
  ·rw[UM,xR l k m i]
  ·exact xR l k m i
theorem abx(h:n<8):(UInt8.ofNat (2^n)).toNat=2^n:=by
 rw[UInt8.toNat_ofNat',Nat.mod_eq_of_lt];exact Nat.pow_lt_pow_right (by omega) h
theorem lD.bit{m:Nat}(hm:m<4294967296)(hi:i<32){A B:Prop}(h1:m.testBit i=true->A)(h2:¬m.testBit i=true->B):lD (IntKind.u32.wrap ((BitVec.ofInt IntKind.u32.bits ((m:Int).fdiv (2^min (Int.toNat (i:Int)) IntKind.u32.bits))&&&BitVec.ofInt IntKind.u32.bits (1:Int)).toNat:Int)=1) A B:=by
 have e1:(m:Int).fdiv (2^min (Int.toNat (i:Int)) IntKind.u32.bits)=((m/2^i:Nat):Int):=by
  have:min (Int.toNat (i:Int)) IntKind.u32.bits=i:=by show min (Int.toNat (i:Int)) 32=i;omega
  rw[this,Int.fdiv_eq_ediv_of_nonneg _ (Int.pow_nonneg (by omega))];push_cast;rfl
 have hlt:m/2^i<4294967296:=Nat.lt_of_le_of_lt (Nat.div_le_self _ _) hm;rw[e1,_root_.Go.Proofs.YtopfgjgdadnjeaaGreat.and1 hlt];have e2:m.testBit i=decide (m/2^i%2=1):=by rw[Nat.testBit_eq_decide_div_mod_eq]
 rw[e2,decide_eq_true_eq]at h1 h2;exact⟨λ h=>h1 (by omega),λ h=>h2 (by omega)⟩
theorem Wr.shl{b:Int}(hb:b=(q:Int))(h:q<8){K:Int->Prop}(k:K ((2^q:Nat):Int)):Wr (1*2^min (Int.toNat b) IntKind.u8.bits) K .u8:=by
 subst hb;have hp:2^q<=2^7:=Nat.pow_le_pow_right (by omega) (by omega);have e:(1*2^min (Int.toNat (q:Int)) IntKind.u8.bits:Int)=((2^q:Nat):Int):=by
  have:min (Int.toNat (q:Int)) IntKind.u8.bits=q:=by show min (Int.toNat (q:Int)) 8=q;omega
  rw[this,Int.one_mul];push_cast;rfl
 have h0:(0:Int)<=((2^q:Nat):Int):=Int.natCast_nonneg _;rw[e];exact .u8 (by omega) (by omega) k
theorem Yn(l:List UInt8)(q:Nat){j:Nat}(hj:j=q/8)(hq:q/8<l.length){v:Int}(hv:v=((l.getD (q/8) default^^^UInt8.ofNat (2^(q%8))).toNat:Int))(mm:Nat):
  (bif Nat.beq mm j then [AV.v (.int .u8 v)]else aG l mm)=aG (Gp l q) mm:=by
 subst hj hv;unfold Gp;show _=bC ((l.set (q/8) _).getD mm default);rw[List.getD_eq_getElem?_getD (l:=l.set _ _),List.getElem?_set];cases hb:Nat.beq mm (q/8)with
 |true=>
  obtain rfl:=Nat.eq_of_beq_eq_true hb;rw[if_pos rfl,if_pos hq];rfl
 |false=>
  have hne:q/8≠mm:=λ e=>by subst e;rw[Nat.beq_refl]at hb;cases hb
  rw[if_neg hne];rfl
theorem ac3(c:UInt8)(h:q<8):IntKind.u8.wrap ((BitVec.ofInt IntKind.u8.bits (c.toNat:Int)^^^BitVec.ofInt IntKind.u8.bits ((2^q:Nat):Int)).toNat:Int)=((c^^^UInt8.ofNat (2^q)).toNat:Int):=by
 have hp:2^q<=2^7:=Nat.pow_le_pow_right (by omega) (by omega);have hc:=UInt8.toNat_lt c;rw[UInt8.toNat_xor,abx h];exact u8_xor_nat c.toNat (2^q) hc (by omega)
theorem Kw(c:dD):aC Tryz.prog 20 [.agg (jM c)] (.agg (jM (Gz c))) []:=by
 dsimp only[jM,Gz];refine K1.E 0x2f Tryz.func20 ?_;repeat' ((conv=>whnf);first|refine K1.u ?_|refine aK.rounds 6 ?_|refine aO.dW ?_|refine K1.z ?_|refine K1.y (λ _=>?_) (λ _=>?_)|fail)
 conv=>whnf
 exact aW.mk (aP)
theorem uf(x:Rc)(hl:x.ev.length<=140737488355328):∃(Q:List UInt8) (e:Int),Q.length<=2048/\aC Tryz.prog 13 [x.av] (.bJ [.sl 1 Q.length true (aG Q),.v (.int .i64 e)]) []:=by
 cases hm:iC x with
 |true=>exact⟨bg x,0,CZ x hm,(qJ 0 x hm).thaw⟩
 |false=>exact⟨[],1,by simp,(IU x hl hm).res (bI.acp (.of (λ _ _ h=>C1.aa3 h) (.same .nil)))⟩
def Yo(P:List UInt8)(k m:Nat):List UInt8:=nD P k m (min 32 (8*P.length-k))
theorem GU(P:List UInt8)(at' mask:Int)(hl:P.length<=1000000)(_hat: -9223372036854775808<=at'/\at'<=9223372036854775807)(hm:0<=mask/\mask<=4294967295):
  ∃w:List UInt8,w.length=P.length/\ ∀d,aC Tryz.prog 26 [.sl 1 P.length true (aG P),.v (.int .i64 at'),.v (.int .u32 mask)] (.own d) [(d,fJ w)]:=by
 obtain⟨m,rfl⟩:∃m:Nat,mask=(m:Int):=⟨mask.toNat,by omega⟩;by_cases h0:P.length=0
 ·refine⟨P,rfl,λ d=>?_⟩;dsimp only[fJ];refine K1.E 0x408000407c7 Tryz.func26 ?_;repeat' ((conv=>whnf);first|refine K1.u ?_|refine K1.o (id:=10) (nN [0,1,2,3,4,5,6,7,8,9,10,11,12,13,14,15,16,17,18] [(19,some [17,16,15,14,11,9,8,4,3])]) ?_|refine K1.z ?_|refine K1.y (λ _=>?_) (λ _=>?_)|fail)
  all_goals(conv=>whnf)
  refine aO.o8 d rfl rfl ?_ (aP);exact fP.row (by omega) λ i hi=>absurd hi (by omega)
 have ht1:=Int.tmod_lt_of_pos at' (b:=8*((0+P.length:Nat):Int)) (by omega);have ht2: -(8*((0+P.length:Nat):Int))<at'.tmod (8*((0+P.length:Nat):Int)):=by
  rcases Int.le_total 0 at' with h|h
  ·have:=Int.tmod_nonneg (8*((0+P.length:Nat):Int)) h;omega
  ·have h3:=Int.tmod_lt_of_pos (-at') (b:=8*((0+P.length:Nat):Int)) (by omega);rw[Int.neg_tmod]at h3;omega
 obtain⟨k,hk,hk0⟩:∃k:Nat,(at'.tmod (8*((0+P.length:Nat):Int))+8*((0+P.length:Nat):Int))%(8*((0+P.length:Nat):Int))=(k:Int)/\k<8*P.length:=by
  have h1:=Int.emod_nonneg (at'.tmod (8*((0+P.length:Nat):Int))+8*((0+P.length:Nat):Int)) (b:=8*((0+P.length:Nat):Int)) (by omega);have h2:=Int.emod_lt_of_pos (at'.tmod (8*((0+P.length:Nat):Int))+8*((0+P.length:Nat):Int)) (b:=8*((0+P.length:Nat):Int)) (by omega);exact⟨((at'.tmod (8*((0+P.length:Nat):Int))+8*((0+P.length:Nat):Int))%(8*((0+P.length:Nat):Int))).toNat,by omega,by omega⟩
 refine⟨Yo P k m,xR _ _ _ _,λ d=>?_⟩;dsimp only[fJ];refine K1.E 0x408000407c7 Tryz.func26 ?_;repeat' ((conv=>whnf);first|refine K1.u ?_|refine Rm.is (c:=(k:Int)) (by omega) (by omega) hk ?_|refine Rm.raw (by omega) ?_|refine K1.o (id:=10) (nN [0,1,2,3,4,5,6,7,8,9,10,11,12,13,14,15,16,17,18] [(19,some [17,16,15,14,11,9,8,4,3])]) ?_|refine K1.z ?_|refine K1.y (λ _=>?_) (λ _=>?_)|fail)
 conv=>whnf
 have e8:bI (.v (.int .i64 (8*((0+P.length:Nat):Int)))) (.v (.int .i64 (8*(P.length:Int)))):=bI.int (by omega);refine aK.mk {i:Nat//i<=32/\k+i<=8*P.length} (λ i=>⟨[(10,.v (.int .i64 (i.1:Int))),(9,.v (.int .i64 (k:Int))),(8,.v (.int .i64 (8*(P.length:Int)))),(7,.own 1),(2,.v (.int .u32 (m:Int)))],
  [(1,.row 5 1 P.length true (aG (nD P k m i.1)))],[],2⟩) (λ i=>32-i.1) ⟨0,by omega,by omega⟩ _
  (iw.mk' [] _ _ _ rfl ⟨bI.int rfl,aP,e8,aP,aP,trivial⟩ ⟨⟨_,rfl,fP.row (by omega) (λ i hi=>aS.app (aS.nil _) (aS.bytes P) rfl i (by simpa using hi))⟩,trivial⟩ rfl) ?_
 rintro⟨i,hi,hki⟩;dsimp only;have hend:¬ (i<32/\k+i<8*P.length)->Yo P k m=nD P k m i:=λ h=>by unfold Yo;rw[show min 32 (8*P.length-k)=i by omega]
 have hlen:=xR P k m i;have hnext:m.testBit i=true->nD P k m (i+1)=Gp (nD P k m i) (k+i):=λ h=>by show(if _ then _ else _)=_;rw[if_pos h]
 have Yp:¬m.testBit i=true->nD P k m (i+1)=nD P k m i:=λ h=>by show(if _ then _ else _)=_;rw[if_neg h]
 have hrow:∀j:Nat,j=(k+i)/8->(k+i)/8<(nD P k m i).length-> ∀mm,(bif Nat.beq mm j then [AV.v (.int .u8 (IntKind.u8.wrap ((BitVec.ofInt IntKind.u8.bits (((nD P k m i).getD j default).toNat:Int)^^^BitVec.ofInt IntKind.u8.bits ((2^((k+i)%8):Nat):Int)).toNat:Int)))]else aG (nD P k m i) mm)=aG (Gp (nD P k m i) (k+i)) mm:=by
  intro j hj hq;subst hj;exact Yn (nD P k m i) (k+i) rfl hq (ac3 _ (by omega))
 generalize nD P k m i=T at hlen hrow hnext Yp hend⊢;have ac4:k+i<8*P.length->Nat.ble (((k:Int)+(i:Int))/8).toNat.succ P.length=true:=λ h=>Nat.ble_eq_true_of_le (by omega);clear hk e8;repeat' ((conv=>whnf);first|refine K1.u ?_|refine lD.bit (by omega) (by omega) (λ _=>?_) (λ _=>?_)|refine Wr.shl (q:=(k+i)%8) (by omega) (by omega) ?_|refine zI.yes (ac4 (by omega)) ?_|refine K1.o (id:=10) (nN [0,1,2,3,4,5,6,7,8,9,10,11,12,13,14,15,16,17,18] [(19,some [17,16,15,14,11,9,8,4,3])]) ?_|refine K1.z ?_|refine K1.y (λ _=>?_) (λ _=>?_)|fail)
 all_goals(conv=>whnf)
 ·refine⟨⟨i+1,by omega,by omega⟩,_,iw.mk' [] _ _ _ rfl ⟨bI.int rfl,aP,aP,aP,aP,trivial⟩ ⟨⟨_,rfl,fP.row rfl (λ mm _=>?_)⟩,trivial⟩ rfl,by show 32-(i+1)<32-i;omega⟩;show _=aG (nD P k m (i+1)) mm;rw[hnext ‹_›];exact hrow _ (by omega) (by omega) mm
 ·refine⟨⟨i+1,by omega,by omega⟩,_,iw.mk' [] _ _ _ rfl ⟨bI.int rfl,aP,aP,aP,aP,trivial⟩ ⟨⟨_,rfl,fP.row rfl (λ mm _=>?_)⟩,trivial⟩ rfl,by show 32-(i+1)<32-i;omega⟩;show _=aG (nD P k m (i+1)) mm;rw[Yp ‹_›]
 all_goals
  refine aO.o8 d rfl rfl ?_ (aP);rw[hend (by omega)];exact fP.row hlen.symm λ _ _=>rfl
theorem Qk(h:Hb):au Tryz.prog 21 [(0,.obs (oh h))] [.box 0 0] (.bJ []) [(0,.obs (oh ⟨false,h.c,h.p,⟨h.d.bs,true,false,h.d.keep⟩⟩))]:=by
 refine BQ (ho:=[]) ⟨_,_,Tryz.func21,rfl,rfl⟩ ?_ rfl;rw[List.append_nil];obtain⟨up,c,p,d⟩:=h;dsimp only[ji,hbB,uQ,fJ];refine K1.M 0x1 Tryz.func21 40 ?_;repeat' ((conv=>whnf);first|refine K1.u ?_|refine K1.I 0x85 Tryz.func47 ?_|refine K1.I 0x1 Tryz.func48 ?_|refine K1.z ?_|refine K1.y (λ _=>?_) (λ _=>?_)|fail)
 all_goals(conv=>whnf)
 exact⟨[],rfl,rfl,⟨aY rfl,aY rfl,aY rfl,aY rfl,trivial⟩,rfl,rfl,aP⟩
theorem qM.five(hr:r<5){K:Nat->Prop}(h0:r=0->K 0)(h1:r=1->K 1)(h2:r=2->K 2)(h3:r=3->K 3)(h4:r=4->K 4):qM (r:Int) 5 K:=by
 rcases(show r=0\/r=1\/r=2\/r=3\/r=4 by omega)with rfl|rfl|rfl|rfl|rfl
 ·exact .lit 0 rfl rfl (h0 rfl)
 ·exact .lit 1 rfl rfl (h1 rfl)
 ·exact .lit 2 rfl rfl (h2 rfl)
 ·exact .lit 3 rfl rfl (h3 rfl)
 ·exact .lit 4 rfl rfl (h4 rfl)
theorem au.acv{P:Program}{f:FuncId}{hin hout:List (Nat×AO)}{x z:Value}(k:Nat){e:TypeId}(hM:au P f hin bD (.bJ [.v x,.v (.slice none 0 0),.v z]) hout)(hs:0<s)
  (hb:(iF hout hout&& !(bW k hout)&& !(bW k hin))=true):au P f hin bD (.bJ [.v x,.own k,.v z]) (hout++[(k,.row e s 0 true F)]):=by
 simp only[Bool.and_eq_true,Bool.not_eq_true']at hb;obtain⟨⟨hcl,hne⟩,hni⟩:=hb;refine⟨hM.1,λ w keep ρ args hkeep oH hnd hbl hargs=>(hM.2 w keep ρ args hkeep oH hnd hbl hargs).mono ?_⟩;rintro e0 w' ⟨u,rZ,rfl,hbel,hfix,hc,QG,hnd',hnew⟩;let nG:Nat->Value:=λ i=>if i=k then .slice none 0 0 else rZ i
 have e4k:nG k= .slice none 0 0:=by simp[nG]
 have e4:∀i,bW i hout=true->nG i=rZ i:=λ i hi=>by
  have:i≠k:=by rintro rfl;rw[hne]at hi;cases hi
  simp[nG,this]
 have hb4:ah nG (hout++[(k,.row e s 0 true F)])=ah rZ hout:=by
  rw[dQ,gq λ p hp=>e4 p.1 (cO.2 ⟨p,hp,rfl⟩)];have:ah nG [(k,.row e s 0 true F)]=[]:=by
   rw[yw];dsimp only;rw[e4k];rfl
  rw[this,List.append_nil]
 have hk4:∀b,aI (ig w keep (λ b=>b∈ah ρ hin)) w' rZ hout b->aI (ig w keep (λ b=>b∈ah ρ hin)) w' nG (hout++[(k,.row e s 0 true F)]) b:=
  λ b ⟨h1,h2,h3⟩=>⟨h1,h2,λ h=>h3 (by rw[hb4]at h;exact h)⟩
 refine⟨u,nG,rfl,hbel,λ p hp x hx eq=>?_, ?_,λ p hp=>?_,by rw[hb4];exact hnd',λ b hb=>hnew b (by rw[hb4]at hb;exact hb)⟩
 ·have hpk:p.1≠k:=λ h=>by
   rw[<-h,cO.2 ⟨p,hp,rfl⟩]at hni;cases hni
  rcases List.mem_append.1 hx with hx|hx
  ·have:=hfix p hp x hx eq;rw[show nG p.1=rZ p.1 by simp[nG,hpk]];exact this
  ·obtain rfl:=List.mem_singleton.1 hx;exact absurd eq.symm hpk
 ·obtain⟨us,eu,hu⟩:=hc;refine⟨us,eu,hu.1,λ i y v hy hv=>?_⟩;match i,hy with
  |0,hy=>cases hy;exact hu.2 0 _ v rfl hv
  |1,hy=>
   cases hy;have:v= .slice none 0 0:=hu.2 1 _ v rfl hv;show v=fM (nG k);rw[e4k,this];rfl
  |2,hy=>cases hy;exact hu.2 2 _ v rfl hv
 ·rcases List.mem_append.1 hp with hp|hp
  ·exact bn.over (X:=aB (ig w keep (λ b=>b∈ah ρ hin)) w' rZ hout) (Y:=aB (ig w keep (λ b=>b∈ah ρ hin)) w' nG (hout++[(k,AO.row e s 0 true F)])) hk4 rfl e4 (cO.2 ⟨p,hp,rfl⟩) (lX hcl p hp) (QG p hp)
  ·obtain rfl:=List.mem_singleton.1 hp;show xZ _ (nG k) e s 0 true F;rw[e4k];exact⟨[],World.ownsRow_nil w' _ _ _,hs,λ i hi=>absurd hi (Nat.not_lt_zero i),(λ _ x hx=>by cases hx),aN.nil⟩
def vH(j:Nat):List (Nat×AO)->Nat
 |[]=>0
 |(i,_)::l=>bif Nat.beq i j then 0 else vH j l+1
theorem kS.Ky{st:AS}{B:List (Nat×AO)}{o:OB}(b' j:Nat)(hC:Closes B i o)(he:(st.heap.drop (vH j st.heap)).take B.length=B)
  (hb:((st.heap.take (vH j st.heap)++st.heap.drop (vH j st.heap+B.length)).all (λ p=>PS (λ k=>bW k (st.heap.take (vH j st.heap)++st.heap.drop (vH j st.heap+B.length))) i p.2)&& !bW i (st.heap.take (vH j st.heap)++st.heap.drop (vH j st.heap+B.length)))=true):
  kS (nJ (λ k=>bW k (st.heap.take (vH j st.heap)++st.heap.drop (vH j st.heap+B.length))) i) st ⟨qw (safe (λ k=>bW k (st.heap.take (vH j st.heap)++st.heap.drop (vH j st.heap+B.length))) i) st.sl,(i,.obs o)::(st.heap.take (vH j st.heap)++st.heap.drop (vH j st.heap+B.length)),st.back.map (qw (safe (λ k=>bW k (st.heap.take (vH j st.heap)++st.heap.drop (vH j st.heap+B.length))) i)),b'⟩:=by
 refine kS.close b' hC ?_ hb;conv=>lhs;rw[<-List.take_append_drop (vH j st.heap) st.heap,<-List.take_append_drop B.length (st.heap.drop (vH j st.heap)),he,List.drop_drop]
 exact List.perm_append_comm_assoc _ _ _
abbrev Ans:=Int×List UInt8×Int
def aby(a:Ans):AV:= .bJ [.v (.int .i64 a.1),.own 1,.v (.int .i64 a.2.2)]
def Yq(h h':Hb)(Q:List UInt8)(a:Ans):Prop:= ∀n F,aS F Q->n=Q.length->au Tryz.prog 12 [(0,.obs (oh h))] [.box 0 0,.sl 1 n true F] (aby a) [(0,.obs (oh h')),(1,fJ a.2.1)]
def Yr(y y':Ry)(Q:List UInt8)(a:Ans):Prop:= ∀n F,aS F Q->n=Q.length->au Tryz.prog 27 [(0,.obs (qm y))] [.box 0 0,.sl 1 n true F] (aby a) [(0,.obs (qm y')),(1,fJ a.2.1)]
def Yt:JZ->Ans
 | .inl x=>(-1,[],x)
 | .inr (r,w)=>((r:Int),w,0)
theorem Z4(hg:HbG h)(ht:qI h Q=(h',res)):Yq h h' Q (Yt res):=λ n F hF hn=>by
 have:=II h h' Q res hg ht hF hn;cases res with
 |inl x=>exact au.acv 1 this (by decide) rfl
 |inr q=>exact this
theorem Z5{y:Ry}(hr:l9 k h y)(ht:PX y Q=(y',res))(hl:Q.length<=1000000000):Yr y y' Q (Yt res):=λ n F hF hn=>by
 have:=UL y y' Q res hr ht hl hF hn;cases res with
 |inl x=>exact au.acv 1 this (by decide) rfl
 |inr q=>exact this
def Dj(h h':Hb)(y y':Ry)(o:Opn):Prop:=au Tryz.prog 9 [(0,.obs (qm y)),(7,.obs (oh h))] [.box 7 0,.box 0 0,o.av] (.v (.bool true)) [(0,.obs (qm y')),(7,.obs (oh h'))]
theorem UN(y:Ry):Closes (KF 9 y.c y.p++[(0,Dx y.c 9 y.up y.cuts y.keep)]) 0 (qm y):=
 Closes.sub ((jZ y.c y.p).ren [(0,9),(20,20),(21,21),(22,22),(23,23),(24,24),(30,30),(31,31),(32,32),(33,33),(34,34)] rfl rfl) (lJ y) rfl
def aaq{r:Nat}(_:r<5)(y:Ry)(oc:List AV)(L:List Ev)(H:OB):AS:=
 ⟨[(0,.box 7 0),(1,.box 0 0),(5,.box 50 0),(7,.v (.int .i64 (r:Int))),(8,.box 80 0)],
  [(80,.box 52 [.v (.int .i64 1),.v (.int .i64 (r:Int)),.v (.int .i64 0),.v (.int .i64 0),.v (.int .i64 0),.v (.int .i64 0),.v (.int .i64 0),.v (.int .i64 0),.sl 12 L.length true (jH L)]),(50,.box 39 oc)]++(KF 9 y.c y.p++[(0,Dx y.c 9 y.up y.cuts y.keep),(7,.obs H)]),[[(0,.own 0),(1,.own 7)]],81⟩
structure acw(h h':Hb)(y y':Ry)(o:Opn)(q r:Nat)(L:List Ev)(Q B:List UInt8)(a:Ans)(x:Int):Prop where
 ev:aC Tryz.prog 19 [.v (.int .i64 (r:Int)),.v (.int .i64 ((y.p.ps.getD r default).l.length:Int)),o.av] (AX 1 r 0 aJ L) []
 ck:aC Tryz.prog 20 [.agg (jM o.clock)] (.agg (jM (Gz o.clock))) []
 p1:(q=0\/q=1\/q=5)->aC Tryz.prog 13 [Rc.av ⟨1,r,0,aJ,L⟩] (.bJ [.sl 1 Q.length true (aG Q),.v (.int .i64 x)]) []
 p2:q=2->aC Tryz.prog 13 [Rc.nilA ⟨3,r,0,Gz o.clock,[]⟩] (.bJ [.sl 1 Q.length true (aG Q),.v (.int .i64 x)]) []
 p3:(q=3\/q=4)->aC Tryz.prog 13 [Rc.nilA ⟨5,r,0,Gz o.clock,[]⟩] (.bJ [.sl 1 Q.length true (aG Q),.v (.int .i64 x)]) []
 p9:q=9->aC Tryz.prog 13 [Rc.nilA ⟨2,r,o.many,aJ,[]⟩] (.bJ [.sl 1 Q.length true (aG Q),.v (.int .i64 x)]) []
 tu:q=5-> ∀d,aC Tryz.prog 26 [.sl 1 Q.length true (aG Q),.v (.int .i64 o.bit),.v (.int .u32 o.mask)] (.own d) [(d,fJ B)]
 hq:(q≠5/\q≠6/\q≠7/\q≠8)->Yq h h' Q a
 yq:(q≠5/\q≠6/\q≠7/\q≠8)->Yr y y' Q a
 h5:q=5->Yq h h' B a
 y5:q=5->Yr y y' B a
 h6:q=6->au Tryz.prog 21 [(0,.obs (oh h))] [.box 0 0] (.bJ []) [(0,.obs (oh h'))]
 y6:q=6->au Tryz.prog 22 [(0,.obs (qm y))] [.box 0 0] (.bJ []) [(0,.obs (qm y'))]
 h7:q=7->au Tryz.prog 16 [(0,.obs (oh h))] [.box 0 0] (.v (.int .i64 x)) [(0,.obs (oh h'))]
 y7:q=7->au Tryz.prog 23 [(0,.obs (qm y))] [.box 0 0] (.v (.int .i64 x)) [(0,.obs (qm y'))]
 h8:q=8->au Tryz.prog 24 [(0,.obs (oh h))] [.box 0 0,.v (.int .i64 o.keep)] (.bJ []) [(0,.obs (oh h'))]
 y8:q=8->au Tryz.prog 25 [(0,.obs (qm y))] [.box 0 0,.v (.int .i64 o.keep)] (.bJ []) [(0,.obs (qm y'))]
structure Opn.rng(o:Opn):Prop where
 kind:0<=o.kind/\o.kind<=255
 r:0<=o.r/\o.r<=255
 many:0<=o.many/\o.many<=255
 back:0<=o.back/\o.back<=255
 bit: -9223372036854775808<=o.bit/\o.bit<=9223372036854775807
 mask:0<=o.mask/\o.mask<=4294967295
theorem Ql{y:Ry}{o:Opn}{L:List Ev}{B:List UInt8}{a:Ans}{x:Int}(kC:r<5)(hor:o.r%5=(r:Int))(ho:o.rng)(hk:o.kind%10=(q:Int))(hc:acw h h' y y' o q r L Q B a x)(hQ:Q.length<=2048)(hB:B.length<=2048):Dj h h' y y' o:=by
 have hop1:Opens (qm y) 0 λ _:Unit=>qN y ():=Opens.pack (qN y);have hop2:=ku y.c y.p;have hcl:=UN y;obtain⟨hk0,hr0,hm0,_,_,_⟩:=ho;obtain⟨ev,ck,p1,p2,p3,p9,tu,hq,yq,h5,y5,h6,y6,h7,y7,h8,y8⟩:=hc;unfold Dj;unfold Yq at hq h5;unfold Yr at yq y5;generalize oh h'=H' at*;generalize oh h=H at*;generalize qm y'=Y' at*;generalize qm y=Y at*;obtain⟨c,p,up,cuts,keep⟩:=y;obtain⟨ok,oR,om,ob,⟨c0,c1,c2,c3,c4⟩,okp,obt,omk⟩:=o;obtain⟨a1,w,a3⟩:=a;have hq10:q<10:=by dsimp only at hk;omega
 dsimp only[qN,Ci,Dx,KF,AU,FY,rH,bU,fJ,aby,qQ,jM,gX.s,List.cons_append,List.nil_append,Opn.av,Opn.cs,AX,aJ,Gz,Rc.av,Rc.cs,Rc.nilA]at*;refine K1.MI 0x20004010208081800001fbe7 Tryz.func9 50 ((kS.open 50 hop1 (List.Perm.refl _) rfl).trans (kS.open 50 hop2 (List.Perm.refl _) rfl)).imp ?_;repeat' ((conv=>whnf);first|refine gU.fin rfl ?_|refine gU.pick _ _ rfl rfl ?_|refine gU.one _ _ rfl rfl rfl ?_|refine gU.fork _ _ _ _ rfl rfl rfl rfl ?_ ?_|refine gU.XJ _ _ _ _ _ _ rfl rfl rfl rfl rfl ?_ ?_ ?_|refine K1.u ?_|refine K1.P1 ev ?_|refine K1.P1 ck ?_|refine K1.P1 (p1 (by omega)) ?_ rfl rfl|refine K1.P1 (p2 (by omega)) ?_ rfl rfl|refine K1.P1 (p3 (by omega)) ?_ rfl rfl|refine K1.P1 (p9 (by omega)) ?_ rfl rfl|refine K1.F1 (tu (by omega) _) ?_ rfl rfl|refine K1.C 1 [(0,_)] (hq (by omega) _ _ (by first|exact aS.bytes _|exact aS.app (aS.nil _) (aS.bytes _) rfl) (by omega)) rfl ?_ rfl rfl rfl|refine K1.C 1 [(0,_)] (yq (by omega) _ _ (aS.bytes _) rfl) rfl ?_ rfl rfl rfl|refine K1.C 1 [(0,_)] (h5 (by omega) _ _ (by first|exact aS.bytes _|exact aS.app (aS.nil _) (aS.bytes _) rfl) (by omega)) rfl ?_ rfl rfl rfl|refine K1.C 1 [(0,_)] (y5 (by omega) _ _ (aS.bytes _) rfl) rfl ?_ rfl rfl rfl|refine K1.C 1 [(0,_)] (h6 (by omega)) rfl ?_ rfl rfl rfl|refine K1.C 1 [(0,_)] (y6 (by omega)) rfl ?_ rfl rfl rfl|refine K1.C 1 [(0,_)] (h7 (by omega)) rfl ?_ rfl rfl rfl|refine K1.C 1 [(0,_)] (y7 (by omega)) rfl ?_ rfl rfl rfl|refine K1.C 1 [(0,_)] (h8 (by omega)) rfl ?_ rfl rfl rfl|refine K1.C 1 [(0,_)] (y8 (by omega)) rfl ?_ rfl rfl rfl|refine fV.G5 cZ (fF cZ _) ⟨_,_,Tryz.func12,rfl,rfl⟩ 82 rfl ?_|refine fV.G5 cZ (fF cZ _) ⟨_,_,Tryz.func12,rfl,rfl⟩ 83 rfl ?_|refine fV.G5 cZ (fF cZ _) ⟨_,_,Tryz.func12,rfl,rfl⟩ 84 rfl ?_|refine fV.imp cZ (fF cZ _) ⟨_,_,Tryz.func27,rfl,rfl⟩ (kS.Ky 95 9 hcl rfl rfl) rfl ?_|refine fV.imp cZ (fF cZ _) ⟨_,_,Tryz.func22,rfl,rfl⟩ (kS.Ky 95 9 hcl rfl rfl) rfl ?_|refine fV.imp cZ (fF cZ _) ⟨_,_,Tryz.func23,rfl,rfl⟩ (kS.Ky 95 9 hcl rfl rfl) rfl ?_|refine fV.imp cZ (fF cZ _) ⟨_,_,Tryz.func25,rfl,rfl⟩ (kS.Ky 95 9 hcl rfl rfl) rfl ?_|refine fV.G5 cZ (fF cZ _) ⟨_,_,Tryz.func27,rfl,rfl⟩ 81 rfl ?_|refine fV.G5 cZ (fF cZ _) ⟨_,_,Tryz.func27,rfl,rfl⟩ 82 rfl ?_|refine Bs.of w (aS.bytes _) rfl ?_|refine lD.yes rfl ?_|refine Rm.is hr0.1 (by omega) hor ?_|refine Rm.is hk0.1 (by omega) hk ?_|(refine qM.five kC (λ h=>?_) (λ h=>?_) (λ h=>?_) (λ h=>?_) (λ h=>?_)<;>subst h)|(refine kG.abd 0x20004010208081800001fbe7 (id:=2) cZ (fF cZ _) (aaq kC ⟨c,p,up,cuts,keep⟩ [.v (.int .u8 ok),.v (.int .u8 oR),.v (.int .u8 om),.v (.int .u8 ob),.v (.int .i64 c0),.v (.int .i64 c1),.v (.int .i64 c2),.v (.int .i64 c3),.v (.int .i64 c4),.v (.int .i64 okp),.v (.int .i64 obt),.v (.int .u32 omk)] L H) nT (by kernel_rfl) 18 _ rfl rfl ?_ ?_<;>dsimp only[aaq,KF,AU,FY,rH,bU,qQ,jM,Dx,gX.s,List.cons_append,List.nil_append])|refine K1.o (id:=14) (nN [0,1,2,3,4,5,6,7,8,9,10,11,12,13,14,15,16,17,18,19,20,21,22,23] ((24,some [15,13,11,10,6,7,4,2,21,19])::nN [25,26] [])) ?_|refine K1.o (id:=24) (nN [0,1,2,3,4,5,6,7,8,9,10,11,13,14,15,16,17,18,19,20,21,22] ((12,some [11,9,5,6,3,1])::nN [23,24,25,26,27,28,29,30,31] ((32,some [11,9,5,6,3,1,23,22,18,19,16,14,29,27])::nN [33,34] []))) ?_|refine K1.z ?_|refine K1.y (λ _=>?_) (λ _=>?_)|fail)
 all_goals(conv=>whnf)
 all_goals first
  |exact⟨[],rfl,rfl,⟨aY rfl,aY rfl,trivial⟩,rfl,rfl,aP⟩
  |(refine⟨[(51,80)],iw.mk' _ _ _ _ rfl ?_ ?_ rfl⟩<;>repeat' first|exact trivial|refine⟨aP, ?_⟩|refine⟨aY rfl, ?_⟩)
theorem Z7(hB:Dw n y)(hz:∀i,n<=i->y.dS.getD i aJ=aJ):(toP n y).sit=pq n y:=by
 have h5:=hB.n5;have h1:=hB.n1;have l0:=hB.s;refine gX.five (C:=λ y=>(∀s∈y.ps,FV s)->(∀i,n<=i->y.dS.getD i aJ=aJ)->(toP n y).sit=pq n y) y hB.p5 hB.a5 ?_ l0 hz;clear l0 hz hB;intro s0 s1 s2 s3 s4 a0 a1 a2 a3 a4 hs hz;have e0:=oD (hs s0 (by simp));have e1:=oD (hs s1 (by simp));have e2:=oD (hs s2 (by simp));have e3:=oD (hs s3 (by simp));have e4:=oD (hs s4 (by simp));have z1:=hz 1;have z2:=hz 2;have z3:=hz 3;have z4:=hz 4;clear hs hz;rcases(show n=1\/n=2\/n=3\/n=4\/n=5 by omega)with rfl|rfl|rfl|rfl|rfl<;>simp[toP,Pt.sit,pq,atN,gX.s,e0,e1,e2,e3,e4]at z1 z2 z3 z4⊢;all_goals simp_all [toS]
theorem I8{s:Nat}:∀{l:List dD}{a:Int},yZ s a l<=a/\ ∀x∈l,yZ s a l<=x.at s
 |[],a=>⟨Int.le_refl _,λ _ h=>by cases h⟩
 |c::l,a=>by
  have ih:=I8 (s:=s) (l:=l) (a:=mnI a (c.at s));have h1:mnI a (c.at s)<=a/\mnI a (c.at s)<=c.at s:=by unfold mnI;split<;>omega
  refine⟨Int.le_trans ih.1 h1.1,λ x hx=>?_⟩;rcases List.mem_cons.1 hx with rfl|hx
  ·exact Int.le_trans ih.1 h1.2
  ·exact ih.2 x hx
theorem UO(a5:y.dS.length=5)(h5:n<=5)(hr:r<n):wP n y s<=(y.dS.getD r aJ).at s:=by
 refine I8.2 _ ?_;rw[List.getD_eq_getElem?_getD,List.getElem?_eq_getElem (by omega)];exact List.mem_take_iff_getElem.2 ⟨r,by omega,rfl⟩
structure qL(n:Nat)(y:gX):Prop where
 z:∀i,n<=i->y.dS.getD i aJ=aJ
 le:∀s,s<n-> ∀r,r<n->(y.s s).cuts<=(y.dS.getD r aJ).at s
structure Mon(n:Nat)(y y':gX):Prop where
 c:∀s,s<n->(y.s s).cuts<=(y'.s s).cuts
 l:∀s,s<n->(y.s s).l.length<=(y'.s s).l.length
 a:∀r s,(y.dS.getD r aJ).at s<=(y'.dS.getD r aJ).at s
theorem Mon.refl:Mon n y y:=⟨λ _ _=>Int.le_refl _,λ _ _=>Nat.le_refl _,λ _ _=>Int.le_refl _⟩
theorem Mon.trans{a b c:gX}(h:Mon n a b)(k:Mon n b c):Mon n a c:=
 ⟨λ s hs=>Int.le_trans (h.c s hs) (k.c s hs),λ s hs=>Nat.le_trans (h.l s hs) (k.l s hs),λ r s=>Int.le_trans (h.a r s) (k.a r s)⟩
theorem Qm(p5:y.ps.length=5)(hi:i<5):(lq n y s).s i=if i=s then IE (y.s i) (wP n y s)else y.s i:=by
 show(dL _ s y.ps).getD i default=_;rw[kR (by omega)];rfl
theorem Oc(p5:y.ps.length=5)(a5:y.dS.length=5)(h5:n<=5)(h:qL n y):qL n (lq n y s)/\Mon n y (lq n y s):=by
 have hg:∀x:AQ,∀m,x.cuts<=qG x m/\(qG x m<=x.cuts\/qG x m<=m):=λ x m=>by unfold qG;split<;>(try split)<;>omega
 refine⟨⟨h.z,λ i hi r hr=>?_⟩,λ i hi=>?_,λ i hi=>?_,λ _ _=>Int.le_refl _⟩
 ·have h1:=h.le i hi r hr;rw[Qm p5 (by omega)];split
  ·rename_i e;subst e;have h2:=UO a5 h5 hr (s:=i);have h3:=(hg (y.s i) (wP n y i)).2;show qG (y.s i) (wP n y i)<=(y.dS.getD r aJ).at i;omega
  ·exact h1
 ·rw[Qm p5 (by omega)];split
  ·exact(hg _ _).1
  ·exact Int.le_refl _
 ·rw[Qm p5 (by omega)];split<;>exact Nat.le_refl _
theorem Gq{s:AQ}:(gB w s l).1.cuts=s.cuts/\s.l.length<=(gB w s l).1.l.length:=by
 unfold gB;split
 ·split
  ·exact⟨rfl,Nat.le_refl _⟩
  ·exact⟨rfl,by rw[List.length_append];omega⟩
 ·exact⟨rfl,Nat.le_refl _⟩
theorem I9(p5:y.ps.length=5)(a5:y.dS.length=5)(h5:n<=5)(h:qL n y):qL n (iQ w n r l y).1/\Mon n y (iQ w n r l y).1:=by
 unfold iQ;split
 ·have hs:∀i,i<5->(⟨dL (λ _=>(gB w (y.ps.getD r default) l).1) r y.ps,y.dS⟩:gX).s i=if i=r then(gB w (y.s i) l).1 else y.s i:=λ i hi=>by
   show(dL _ r y.ps).getD i default=_;rw[kR (by omega)];split
   ·rename_i e;rw[e];rfl
   ·rfl
  have hm:Mon n y ⟨dL (λ _=>(gB w (y.ps.getD r default) l).1) r y.ps,y.dS⟩:=⟨λ i hi=>by
   rw[hs i (by omega)];split
   ·rw[Gq.1];exact Int.le_refl _
   ·exact Int.le_refl _,λ i hi=>by
   rw[hs i (by omega)];split
   ·exact Gq.2
   ·exact Nat.le_refl _,λ _ _=>Int.le_refl _⟩
  have hk:qL n ⟨dL (λ _=>(gB w (y.ps.getD r default) l).1) r y.ps,y.dS⟩:=⟨h.z,λ i hi q hq=>by
   rw[hs i (by omega)];have:=h.le i hi q hq;split
   ·rw[Gq.1];exact this
   ·exact this⟩
  have:=Oc (n:=n) (s:=r) (y:=⟨dL (λ _=>(gB w (y.ps.getD r default) l).1) r y.ps,y.dS⟩) (by show(dL _ _ _).length=5;rw[dI];exact p5) a5 h5 hk;exact⟨this.1,hm.trans this.2⟩
 ·exact⟨h,Mon.refl⟩
theorem Oe{n:Nat}(h5:n<=5):∀(L:List Nat){y:gX},y.ps.length=5->y.dS.length=5->qL n y->qL n (L.foldl (λ y s=>lq n y s) y)/\Mon n y (L.foldl (λ y s=>lq n y s) y)
 |[],_,_,_,h=>⟨h,Mon.refl⟩
 |s::L,y,p5,a5,h=>by
  have h1:=Oc (s:=s) p5 a5 h5 h;have hl:=tY (n:=n) (s:=s) p5 a5;have h2:=Oe h5 L hl.1 hl.2 h1.1;exact⟨h2.1,h1.2.trans h2.2⟩
theorem acy(a b:dD)(s:Nat):a.at s<=(a.jn b).at s:=by
 have h:∀x y:Int,x<=PI x y:=λ x y=>by unfold PI;split<;>omega
 match s with
 |0=>exact h _ _
 |1=>exact h _ _
 |2=>exact h _ _
 |3=>exact h _ _
 |4=>exact h _ _
 |s+5=>first|exact h _ _|exact Int.le_refl _
theorem Og{k:dD}(p5:y.ps.length=5)(a5:y.dS.length=5)(h5:n<=5)(hr:r<n)(h:qL n y):qL n (rG n y r k)/\Mon n y (rG n y r k):=by
 have ha:∀i,i<5->(dL (λ t=>t.jn k) r y.dS).getD i aJ=if i=r then(y.dS.getD i aJ).jn k else y.dS.getD i aJ:=λ i hi=>kR (by omega)
 have hge:∀q s,(y.dS.getD q aJ).at s<=((dL (λ t=>t.jn k) r y.dS).getD q aJ).at s:=λ q s=>by
  rcases Nat.lt_or_ge q 5 with h|h
  ·rw[ha q h];split
   ·exact acy _ _ _
   ·exact Int.le_refl _
  ·rw[List.getD_eq_getElem?_getD,List.getD_eq_getElem?_getD,List.getElem?_eq_none (by omega),List.getElem?_eq_none (by rw[dI];omega)];exact Int.le_refl _
 have hk:qL n ⟨y.ps,dL (λ t=>t.jn k) r y.dS⟩:=⟨λ i hi=>by
  have hz:=h.z i hi;rcases Nat.lt_or_ge i 5 with h'|h'
  ·show(dL _ r y.dS).getD i aJ=aJ;rw[ha i h',if_neg (by omega)];exact hz
  ·show(dL _ r y.dS).getD i aJ=aJ;rw[List.getD_eq_getElem?_getD,List.getElem?_eq_none (by rw[dI];omega)];rfl,λ s hs q hq=>Int.le_trans (h.le s hs q hq) (hge q s)⟩
 have hm:Mon n y ⟨y.ps,dL (λ t=>t.jn k) r y.dS⟩:=⟨λ _ _=>Int.le_refl _,λ _ _=>Nat.le_refl _,hge⟩;have:=Oe h5 (List.range n) (y:=⟨y.ps,dL (λ t=>t.jn k) r y.dS⟩) p5 (by show(dL _ _ _).length=5;rw[dI];exact a5) hk;exact⟨this.1,hm.trans this.2⟩
theorem Z8{y:Ry}{b:List UInt8}(hB:Dw y.n y.p)(hn:y.c.n=(y.n:Int))(h:qL y.n y.p)(ht:PX y b=(y',res)):y'.c=y.c/\qL y.n y'.p/\Mon y.n y.p y'.p:=by
 have p5:=hB.p5;have a5:=hB.a5;have h5:=hB.n5;have same:∀{z:Ry},z.c=y.c->z.p=y.p->z.c=y.c/\qL y.n z.p/\Mon y.n y.p z.p:=λ hc hp=>⟨hc,by rw[hp];exact h,by rw[hp];exact Mon.refl⟩;have wr:∀(x:Rc)(p:gX),(qL y.n p/\Mon y.n y.p p)->(jy y x p).1.c=y.c/\qL y.n (jy y x p).1.p/\Mon y.n y.p (jy y x p).1.p:=λ x p hp=>by
  refine⟨rfl, ?_⟩;show qL y.n (if _ then p else y.p)/\Mon y.n y.p (if _ then p else y.p);split
  ·exact hp
  ·exact⟨h,Mon.refl⟩
 unfold PX at ht;split at ht
 ·cases ht;exact same rfl rfl
 split at ht
 ·cases ht;exact same rfl rfl
 rename_i hx;obtain⟨⟨z,x⟩,htk⟩:∃q,gV b=q:=⟨_,rfl⟩;rw[htk]at ht hx;have hx:x=0:=by simpa using hx
 subst hx;have hm:=iP (zA htk);have hr0:=hm.r;unfold J3 at ht;split at ht
 ·cases ht;exact same rfl rfl
 rename_i hrn;have hrn:z.r.toNat<y.n:=by
  have hrn:¬y.c.n<=z.r:=hrn;omega
 split at ht
 ·unfold Gf at ht;split at ht
  ·cases ht;exact same rfl rfl
  split at ht
  ·split at ht
   ·cases ht;exact wr _ _ (I9 p5 a5 h5 h)
   ·cases ht;exact wr _ _ (I9 p5 a5 h5 h)
  ·cases ht;exact same rfl rfl
 split at ht
 ·cases ht;exact same rfl rfl
 split at ht
 ·unfold NC at ht;split at ht
  ·split at ht
   ·cases ht;exact wr _ _ (Og p5 a5 h5 hrn h)
   ·cases ht;exact wr _ _ (Og p5 a5 h5 hrn h)
  ·cases ht;exact same rfl rfl
 ·cases ht;exact same rfl rfl
theorem UQ{y:Ry}(hr:l9 k h y)(hk:k<=1000)(hi:qL y.n y.p)(o:Opn)(ho:o.rng):∃h' y',l9 (k+1) h' y'/\y'.c=y.c/\qL y.n y'.p/\Mon y.n y.p y'.p/\Dj h h' y y' o:=by
 obtain⟨hyn,hn1,Oj⟩:=Qi hr.may;obtain⟨r,hor⟩:∃r:Nat,o.r%5=(r:Int):=⟨(o.r%5).toNat,by have:=ho.r;omega⟩;obtain⟨q,hq⟩:∃q:Nat,o.kind%10=(q:Int):=⟨(o.kind%10).toNat,by have:=ho.kind;omega⟩;have kC:r<5:=by omega
 have hq10:q<10:=by omega
 have hln:FV (y.p.ps.getD r default):=hr.B.s _ (getD_mem (by have:=hr.B.p5;omega));have hev:=NZ r kC ((y.p.ps.getD r default).l.length:Int) o (by have:=hln.ln;omega) ho.many ho.back;have hL:(wX r (Ba ((y.p.ps.getD r default).l.length:Int) o.back) (1+(o.many%5).toNat)).length<=5:=by
  rw[qo];omega
 generalize wX r (Ba ((y.p.ps.getD r default).l.length:Int) o.back) (1+(o.many%5).toNat)=L at hev hL;have hck:=Kw o.clock;have nil:∀{k:Int}{r:Int}{u:Int}{c:dD}{R:AV}{H:List (Nat×AO)},aC Tryz.prog 13 [Rc.av ⟨k,r,u,c,[]⟩] R H->aC Tryz.prog 13 [Rc.nilA ⟨k,r,u,c,[]⟩] R H:=λ h=>h.args (.of (λ X u hu=>C1.pF hu) .nil);have tk:∀(B:List UInt8),B.length<=2048-> ∃h' y' a,Yq h h' B a/\Yr y y' B a/\l9 (k+1) h' y'/\y'.c=y.c/\qL y.n y'.p/\Mon y.n y.p y'.p:=λ B hB=>by
  obtain⟨h',y',res,t1,t2,t3⟩:=Yj hr hk B;obtain⟨i1,i2,i3⟩:=Z8 hr.B hyn hi t2;exact⟨h',y',Yt res,Z4 hr.g t1,Z5 hr t2 (by omega),t3,i1,i2,i3⟩
 have go:∀(Q:List UInt8)(x:Int),Q.length<=2048->(q≠5/\q≠6/\q≠7/\q≠8)->
   ((q=0\/q=1\/q=5)->aC Tryz.prog 13 [Rc.av ⟨1,r,0,aJ,L⟩] (.bJ [.sl 1 Q.length true (aG Q),.v (.int .i64 x)]) [])->
   (q=2->aC Tryz.prog 13 [Rc.nilA ⟨3,r,0,Gz o.clock,[]⟩] (.bJ [.sl 1 Q.length true (aG Q),.v (.int .i64 x)]) [])->
   ((q=3\/q=4)->aC Tryz.prog 13 [Rc.nilA ⟨5,r,0,Gz o.clock,[]⟩] (.bJ [.sl 1 Q.length true (aG Q),.v (.int .i64 x)]) [])->
   (q=9->aC Tryz.prog 13 [Rc.nilA ⟨2,r,o.many,aJ,[]⟩] (.bJ [.sl 1 Q.length true (aG Q),.v (.int .i64 x)]) [])->
   ∃h' y',l9 (k+1) h' y'/\y'.c=y.c/\qL y.n y'.p/\Mon y.n y.p y'.p/\Dj h h' y y' o:=λ Q x hQ hne p1 p2 p3 p9=>by
  obtain⟨h',y',a,t1,t2,t3,t4,t5,t6⟩:=tk Q hQ;exact⟨h',y',t3,t4,t5,t6,Ql kC hor ho hq ⟨hev,hck,p1,p2,p3,p9,λ h=>absurd h hne.1,λ _=>t1,λ _=>t2,λ h=>absurd h hne.1,λ h=>absurd h hne.1,λ h=>absurd h hne.2.1,λ h=>absurd h hne.2.1,λ h=>absurd h hne.2.2.1,λ h=>absurd h hne.2.2.1,λ h=>absurd h hne.2.2.2,λ h=>absurd h hne.2.2.2⟩ hQ hQ⟩
 have no:∀(h':Hb)(y':Ry)(x:Int),l9 (k+1) h' y'->y'.c=y.c->y'.p=y.p->(q=6\/q=7\/q=8)->
   (q=6->au Tryz.prog 21 [(0,.obs (oh h))] [.box 0 0] (.bJ []) [(0,.obs (oh h'))])->
   (q=6->au Tryz.prog 22 [(0,.obs (qm y))] [.box 0 0] (.bJ []) [(0,.obs (qm y'))])->
   (q=7->au Tryz.prog 16 [(0,.obs (oh h))] [.box 0 0] (.v (.int .i64 x)) [(0,.obs (oh h'))])->
   (q=7->au Tryz.prog 23 [(0,.obs (qm y))] [.box 0 0] (.v (.int .i64 x)) [(0,.obs (qm y'))])->
   (q=8->au Tryz.prog 24 [(0,.obs (oh h))] [.box 0 0,.v (.int .i64 o.keep)] (.bJ []) [(0,.obs (oh h'))])->
   (q=8->au Tryz.prog 25 [(0,.obs (qm y))] [.box 0 0,.v (.int .i64 o.keep)] (.bJ []) [(0,.obs (qm y'))])->
   ∃h' y',l9 (k+1) h' y'/\y'.c=y.c/\qL y.n y'.p/\Mon y.n y.p y'.p/\Dj h h' y y' o:=λ h' y' x t3 t4 t5 hne a6 b6 a7 b7 a8 b8=>
  ⟨h',y',t3,t4,by rw[t5];exact hi,by rw[t5];exact Mon.refl,Ql (Q:=[]) (B:=[]) (a:=(0,[],0)) kC hor ho hq ⟨hev,hck,λ h=>by omega,λ h=>by omega,λ h=>by omega,λ h=>by omega,λ h=>by omega,λ h=>by omega,λ h=>by omega,λ h=>by omega,λ h=>by omega,a6,b6,a7,b7,a8,b8⟩ (by decide) (by decide)⟩
 have hm:=hr.mono (show k<=k+1 by omega);rcases(show(q=0\/q=1)\/q=2\/(q=3\/q=4)\/q=5\/q=6\/q=7\/q=8\/q=9 by omega)with e|e|e|e|e|e|e|e
 ·obtain⟨Q,x,hQ,hp⟩:=uf ⟨1,(r:Int),0,aJ,L⟩ (by dsimp only;omega);exact go Q x hQ (by omega) (λ _=>hp) (λ h=>by omega) (λ h=>by omega) (λ h=>by omega)
 ·obtain⟨Q,x,hQ,hp⟩:=uf ⟨3,(r:Int),0,Gz o.clock,[]⟩ (by simp);exact go Q x hQ (by omega) (λ h=>by omega) (λ _=>nil hp) (λ h=>by omega) (λ h=>by omega)
 ·obtain⟨Q,x,hQ,hp⟩:=uf ⟨5,(r:Int),0,Gz o.clock,[]⟩ (by simp);exact go Q x hQ (by omega) (λ h=>by omega) (λ h=>by omega) (λ _=>nil hp) (λ h=>by omega)
 ·obtain⟨Q,x,hQ,hp⟩:=uf ⟨1,(r:Int),0,aJ,L⟩ (by dsimp only;omega);obtain⟨B,hB,ht⟩:=GU Q o.bit o.mask (by omega) ho.bit ho.mask;obtain⟨h',y',a,t1,t2,t3,t4,t5,t6⟩:=tk B (by omega);exact⟨h',y',t3,t4,t5,t6,Ql kC hor ho hq ⟨hev,hck,λ _=>hp,λ h=>by omega,λ h=>by omega,λ h=>by omega,λ _=>ht,λ h=>by omega,λ h=>by omega,λ _=>t1,λ _=>t2,λ h=>by omega,λ h=>by omega,λ h=>by omega,λ h=>by omega,λ h=>by omega,λ h=>by omega⟩ hQ (by omega)⟩
 ·exact no (Yl h) (Yk y) 0 (UH hm) rfl rfl (.inl e) (λ _=>Qk h) (λ _=>Qb y) (λ h=>by omega) (λ h=>by omega) (λ h=>by omega) (λ h=>by omega)
 ·have hs:=Qc y;by_cases hup:h.up=true
  ·have e2:rstart y=(y,19):=by unfold rstart;rw[<-hr.up,hup];rfl
   rw[e2]at hs;exact no h y 19 hm rfl rfl (.inr (.inl e)) (λ h=>by omega) (λ h=>by omega) (λ _=>Nq h hup) (λ _=>hs) (λ h=>by omega) (λ h=>by omega)
  ·have hup:h.up=false:=by simpa using hup
   obtain⟨l,t,d1,d2,d3,_⟩:=hr.disk;obtain⟨s1,s2⟩:=UJ hm hup d1 d3 d2;have hc:=hr.c;have e2:(rstart y).1.c=y.c/\(rstart y).1.p=y.p:=by unfold rstart;split<;>exact⟨rfl,rfl⟩
   rw[s2]at hs;exact no _ (rstart y).1 0 s1 e2.1 e2.2 (.inr (.inl e)) (λ h=>by omega) (λ h=>by omega) (λ _=>PN h y.n (by rw[hc];exact hyn) hn1 Oj hup l t d1 (by rw[hc];exact d2) (by have:=hr.g.bs;omega)) (λ _=>hs) (λ h=>by omega) (λ h=>by omega)
 ·exact no (acu h o.keep) (acs y o.keep) 0 (ZY hm _) rfl rfl (.inr (.inr e)) (λ h=>by omega) (λ h=>by omega) (λ h=>by omega) (λ h=>by omega) (λ _=>Xo h o.keep) (λ _=>X8 y o.keep)
 ·obtain⟨Q,x,hQ,hp⟩:=uf ⟨2,(r:Int),o.many,aJ,[]⟩ (by simp);exact go Q x hQ (by omega) (λ h=>by omega) (λ h=>by omega) (λ h=>by omega) (λ _=>nil hp)
section
open Go.ChangeShapes Go.WideShapes Go.ChangeAt Go.RowKit
instance:Inhabited Opn:=⟨⟨0,0,0,0,aJ,0,0,0⟩⟩
abbrev opF(l:List Opn):Nat->List AV:=qP Opn.cs l
theorem acz:Sh 39 (λ bD=> ∃o:Opn,bD=o.cs/\o.rng):=
 (I5 Tryz.underlying39 (by kernel_rfl) rfl (.cons (nC Tryz.underlying5) (.cons (nC Tryz.underlying5) (.cons (nC Tryz.underlying5) (.cons (nC Tryz.underlying5) (.cons abt (.cons (nC Tryz.underlying3) (.cons (nC Tryz.underlying3) (.cons (nC Tryz.underlying37) .nil))))))))).imp λ bD h=>by
  obtain⟨_,_,rfl,⟨a,rfl,ha⟩,_,_,rfl,⟨b,rfl,hb⟩,_,_,rfl,⟨c,rfl,hc⟩,_,_,rfl,⟨d,rfl,hd⟩,_,_,rfl,⟨e,rfl⟩,_,_,rfl,⟨f,rfl,_⟩,_,_,rfl,⟨g,rfl,hg⟩,_,_,rfl,⟨i,rfl,hi⟩,rfl⟩:=h;have u8:∀{n:Int},(Lit.int .u8 n).wf=true->0<=n/\n<=255:=λ h=>by simpa[Lit.wf,IntKind.min,IntKind.max,IntKind.signed,IntKind.bits]using h
  exact⟨⟨a,b,c,d,e,f,g,i⟩,rfl,u8 ha,u8 hb,u8 hc,u8 hd,qK hg,by simpa[Lit.wf,IntKind.min,IntKind.max,IntKind.signed,IntKind.bits]using hi⟩
theorem abz:Sh 24 (λ bD=> ∃l:List Opn,bD=[.sl 12 l.length true (opF l)]/\(∀o∈l,o.rng)/\l.length<=140737488355328):=
 Yb (s:=12) (c:=Opn.cs) (good:=Opn.rng) true Tryz.underlying24 (by kernel_rfl) (by omega) (of_decide_eq_true (by kernel_rfl)) (λ _=>rfl)
  (λ _ a x hx=>by
   simp only[Opn.cs,List.mem_cons,List.not_mem_nil,or_false]at hx;rcases hx with rfl|rfl|rfl|rfl|rfl|rfl|rfl|rfl|rfl|rfl|rfl|rfl<;>exact⟨_,rfl⟩) acz
section
variable{H:Type}{enc:TypeId×Value->H}{w:World}{spare:Nat->Bool}{held:Bool}{v:Value}{d:DataW H}{p:List MemPlace}{r:Reach}{b0:Nat}
theorem RG(hv:Value.okWide Tryz.prog w r b0 24 v)(h:DataW.Trod enc Tryz.prog w 0 spare held 24 v d p)(hw:∀n∈d.weights Tryz.prog 24,n<=reachBytes):∃l:List Opn,(∀o∈l,o.rng)/\l.length<=140737488355328/\C1 ⟨w,allOf w,λ _=>undef⟩ (.sl 12 l.length true (opF l)) v:=by
 obtain⟨a,n,c,rfl⟩:=okWide_slice Tryz.underlying24 hv;obtain⟨x,⟨l,e,hl,hm⟩,hc⟩:=ZR abz (λ _ ⟨l,e,_⟩=>by rw[e];rfl) h hw rfl;cases e;exact⟨l,hl,hm,hc⟩
end
end
end Go.Proofs.YtopfgjgdadnjeaaGreat
