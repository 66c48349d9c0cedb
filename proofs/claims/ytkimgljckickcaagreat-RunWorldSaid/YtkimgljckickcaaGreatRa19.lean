/-
  Contracts of the walk:Tk.
-/
import Derived.Test.YtkimgljckickcaaGreatRa9
set_option maxHeartbeats 16000000
set_option maxRecDepth 100000
set_option linter.unusedVariables false
set_option linter.unusedSimpArgs false
namespace Go.Proofs.YtkimgljckickcaaGreat
open Go.RowKit
open Go.Proofs.Tryz
variable{hi lo:Int}{bs l:List UInt8}{n:Nat}{F:Nat->List AV}{s:Sq}
theorem bg.drop{F:Nat->List AV}{l:List UInt8}(h:bg F l)(k:Nat):bg (λ i=>F (k+i)) (l.drop k):=by
 intro i hi;rw[anl]at hi;show F (k+i)=bC ((l.drop k).getD i default);rw[h (k+i) o_];show bC (l.getD (k+i) default)=_;congr 1;simp
theorem bg.take{F:Nat->List AV}{l:List UInt8}(h:bg F l)(k:Nat):bg F (l.take k):=by
 intro i hi;rw[am5]at hi;show F i=bC ((l.take k).getD i default);rw[h i o_];show bC (l.getD i default)=_;congr 1;simp[show i<k by omega]
theorem dJ.vX{sc:Bool}(h:bg F l)(hn:n=l.length):dJ (.sl 1 n sc F) (.sl 1 l.length sc (aO l)):=dJ.sl hn λ i hi=>h i o_
theorem JW:∀l:List UInt8,flat l.length (aO l)=l.map λ b=> .v (.int .u8 (b.toNat:Int))
 |[]=>rfl
 |b::l=>by
  show aO (b::l) 0++flat l.length (λ i=>aO (b::l) (i+1))=_;rw[anS,<-JW l];rfl
theorem aC.vals{R:AV->Value->Prop}(hR:∀x u,R (.v x) u->u=x):∀{xs us:List Value},aC R (xs.map .v) us->us=xs
 |[],us,h=>by
  have:=h.1;simp at this;exact am9 this.symm
 |x::xs,[],h=>by have:=h.1;simp at this
 |x::xs,u::us,h=>by
  have h0:u=x:=hR x u (h.2 0 _ _ rfl rfl);have:=aC.vals hR (xs:=xs) (us:=us) ⟨by simpa using h.1,λ i a b ha hb=>h.2 (i+1) a b (by simpa using ha) (by simpa using hb)⟩;rw[h0,this]
theorem Bs.of{K:List UInt8->Prop}(l:List UInt8)(hF:bg F l)(hn:n=l.length)(h:K l):Bs n F K:= .mk l hn (λ i hi=>hF i o_) h
theorem al7:(default:UInt8)=0:=rfl
theorem Xn{P:Program}{f:FuncId}{r:AV}(he:Enters P f)(h:∀(A:Option Addr)(n c:Nat)(w:World),Rd w w.heap.size 1 A n (l.map bV)->n=l.length->n<=c->
  Calls P f #[.slice A n c] w λ e w'=> ∃u,e= .returned u/\Below w.heap.size w w'/\ ∀X,C2 X r u)(hF:bg F l)(hn:n=l.length):aF P f [.sl 1 n true F] r []:=by
 refine⟨he,λ w keep args hkeep hargs=>?_⟩;obtain⟨u,rfl,hu⟩:=qR hargs;have hu:PC w keep (.sl 1 l.length true (aO l)) u:=dJ.vX hF hn ⟨w,keep,λ _=>undef⟩ u hu;cases hu with
 |sl _ _ _ _ A c us hs hnc hc hl hf hsc hpc hr=>
  have hall:aC (PC w keep) (flat l.length (aO l)) us:=⟨by rw[hl];exact nX hf,hpc⟩;have e1:flat l.length (aO l)=(l.map bV).map .v:=by rw[JW,List.map_map];rfl
  rw[e1]at hall;have e2:us=l.map bV:=aC.vals (λ x u h=>by cases h;rfl) hall;subst e2;have hRd:Rd w w.heap.size 1 A l.length (l.map bV):=by
   refine⟨s_,λ hpos=>?_⟩;rcases hr with h0|⟨b,o,hA,hk,hcell⟩
   ·omega
   ·exact⟨b,o,hA,hkeep b hk,hcell⟩
  refine(h A l.length c w hRd rfl hnc).mono ?_;rintro e w' ⟨v,h1,h2,h3⟩;exact⟨v,λ _=>undef,h1,h2,h3 _,(λ p hp=>by cases hp),by simp[ah],(λ b hb=>by simp[ah]at hb)⟩
theorem C2.al8(X:CX)(a b c:Value):C2 X (.aZ [.v a,.v b,.v c]) (.tuple #[a,b,c]):=⟨[a,b,c],rfl,aC.cons (R:=C1 X) (show C1 X (.v a) a from rfl) (aC.cons (R:=C1 X) (show C1 X (.v b) b from rfl) (aC.cons (R:=C1 X) (show C1 X (.v c) c from rfl) aC.nil))⟩
theorem iR(l:List UInt8)(hF:bg F l)(hn:n=l.length):aF prog 211 [.sl 1 n true F] (.aZ [.v (.int .u64 ((bW l).1:Int)),.v (.int .i64 ((bW l).2.1:Int)),.v (.int .i64 (bW l).2.2)]) []:=
 Xn ⟨_,_,func211,rfl,rfl⟩ (λ A n c w h h1 h2=>(aae A n c l w h h1 h2).mono λ e w' ⟨h3,h4⟩=>⟨_,h3,by rw[h4];exact aob _ _,λ X=>C2.al8 X _ _ _⟩) hF hn
def eT(x:Int):AO:= .box 39 [.v (.int .i64 x)]
def iT(u:Nat):AO:= .box 3 [.v (.int .i64 (u:Int))]
def bT(bs:List UInt8):AO:= .box 69 [.sl 1 bs.length true (aO bs)]
theorem aem(bs:List UInt8)(u:Nat)(x lo hi:Int)(hl:bs.length<=1000000000):
  aj prog 247 [(0,eT x),(1,iT u),(2,bT bs)] [.v (.int .i64 lo),.v (.int .i64 hi),.box 0 0,.box 1 0,.box 2 0]
   (.v (.int .i64 (gZ bs lo hi (u,x)).1)) [(0,eT (gZ bs lo hi (u,x)).2.2),(1,iT (gZ bs lo hi (u,x)).2.1),(2,bT bs)]:=by
 unfold eT iT bT;refine K1.M 0x4005019f func247 10 ?_;repeat' ((conv=>whnf);first|refine K1.u ?_|refine K1.P1 (yP _ _ _) ?_|refine K1.y (λ _=>?_) (λ _=>?_)|fail)
 all_goals(conv=>whnf)
 all_goals(refine Qa.auto rfl rfl ⟨⟨_,rfl,dK.box1 ?_⟩,⟨_,rfl,dK.box1 ?_⟩,dB rfl,trivial⟩ rfl rfl (dJ.int ?_))
 all_goals(unfold gZ;simp only[al7,anP]at*;grind)
theorem aaL(bs:List UInt8)(u:Nat)(x lo hi:Int)(hu:u<=bs.length)(hl:bs.length<=1000000000)(h0:0<=lo)(h1:lo<=hi)(h2:hi<=16777216):
  aj prog 248 [(0,eT x),(1,iT u),(2,bT bs)] [.v (.int .i64 lo),.v (.int .i64 hi),.box 0 0,.box 2 0,.box 1 0]
   (.v (.int .i64 (jo bs lo hi (u,x)).1)) [(0,eT (jo bs lo hi (u,x)).2.2),(1,iT (jo bs lo hi (u,x)).2.1),(2,bT bs)]:=by
 unfold eT iT bT;have hv:=yQ (bs.drop u);rw[anl]at hv;refine K1.M 0x140000179f func248 10 ?_;repeat' ((conv=>whnf);first|refine K1.u ?_|refine K1.P1 (iR (bs.drop u) ((bg.bytes bs).drop _) s_) ?_ rfl rfl|refine K1.y (λ _=>?_) (λ _=>?_)|fail)
 all_goals(conv=>whnf)
 all_goals(refine Qa.auto rfl rfl ⟨⟨_,rfl,dK.box1 ?_⟩,⟨_,rfl,dK.box1 ?_⟩,dB rfl,trivial⟩ rfl rfl (dJ.int ?_))
 all_goals(unfold jo;grind)
theorem aaM(bs:List UInt8)(u:Nat)(x sz:Int)(hu:u<=bs.length)(hl:bs.length<=1000000000)(h0:0<=sz)(h2:sz<=16777216):
  aj prog 249 [(0,eT x),(1,iT u),(2,bT bs)] [.v (.int .i64 sz),.fn 167 [],.box 0 0,.box 2 0,.box 1 0]
   (.v (.string (je bs sz keyE (u,x)).1)) [(0,eT (je bs sz keyE (u,x)).2.2),(1,iT (je bs sz keyE (u,x)).2.1),(2,bT bs)]:=by
 unfold eT iT bT;obtain⟨z,rfl⟩:=anO h0;refine K1.M 0x40014019f func249 10 ?_;repeat' ((conv=>whnf);first|refine K1.u ?_|refine K1.P1 (TL _) ?_|refine Bs.of ((bs.drop u).take z) (((bg.bytes bs).drop _).take _) (by simp;omega) ?_|refine K1.y (λ _=>?_) (λ _=>?_)|fail)
 all_goals(conv=>whnf)
 all_goals(refine Qa.auto rfl rfl ⟨⟨_,rfl,dK.box1 ?_⟩,⟨_,rfl,dK.box1 ?_⟩,dB rfl,trivial⟩ rfl rfl (dJ.str ?_))
 all_goals(unfold je;first|(simp only[LQ,anP]at*;grind)|fail)
theorem aaN(bs:List UInt8)(u:Nat)(x sz:Int)(hu:u<=bs.length)(hl:bs.length<=1000000000)(h0:0<=sz)(h2:sz<=16777216):
  aj prog 249 [(0,eT x),(1,iT u),(2,bT bs)] [.v (.int .i64 sz),.fn 169 [],.box 0 0,.box 2 0,.box 1 0]
   (.v (.string (je bs sz lD (u,x)).1)) [(0,eT (je bs sz lD (u,x)).2.2),(1,iT (je bs sz lD (u,x)).2.1),(2,bT bs)]:=by
 unfold eT iT bT;obtain⟨z,rfl⟩:=anO h0;refine K1.M 0x40014019f func249 10 ?_;repeat' ((conv=>whnf);first|refine K1.u ?_|refine K1.P1 (Jp _) ?_|refine Bs.of ((bs.drop u).take z) (((bg.bytes bs).drop _).take _) (by simp;omega) ?_|refine K1.y (λ _=>?_) (λ _=>?_)|fail)
 all_goals(conv=>whnf)
 all_goals(refine Qa.auto rfl rfl ⟨⟨_,rfl,dK.box1 ?_⟩,⟨_,rfl,dK.box1 ?_⟩,dB rfl,trivial⟩ rfl rfl (dJ.str ?_))
 all_goals(unfold je;first|(simp only[LQ,anP]at*;grind)|fail)
theorem ag9(h:s.1<=bs.length):(jo bs lo hi s).2.1<=bs.length:=by
 have hv:=yQ (bs.drop s.1);rw[anl]at hv;unfold jo;grind
theorem aen{sz:Int}{may:ByteArray->Int}(h:s.1<=bs.length):(je bs sz may s).2.1<=bs.length:=by unfold je;grind
theorem ajC:0<=(gZ bs lo hi s).1/\(gZ bs lo hi s).1<=255:=by
 unfold gZ;have:=an3 (bs.getD s.1 0);grind
theorem D9(bs:List UInt8)(s s':Sq)(lo hi c:Int)(h:gZ bs lo hi s=(c,s'))(hl:bs.length<=1000000000):
  aj prog 247 [(0,eT s.2),(1,iT s.1),(2,bT bs)] [.v (.int .i64 lo),.v (.int .i64 hi),.box 0 0,.box 1 0,.box 2 0]
   (.v (.int .i64 c)) [(0,eT s'.2),(1,iT s'.1),(2,bT bs)]:=by
 have:=aem bs s.1 s.2 lo hi hl;rw[show(s.1,s.2)=s from rfl,h]at this;exact this
theorem vK(bs:List UInt8)(s s':Sq)(lo hi c:Int)(h:jo bs lo hi s=(c,s'))(hu:s.1<=bs.length)(hl:bs.length<=1000000000)(h0:0<=lo)(h1:lo<=hi)(h2:hi<=16777216):
  aj prog 248 [(0,eT s.2),(1,iT s.1),(2,bT bs)] [.v (.int .i64 lo),.v (.int .i64 hi),.box 0 0,.box 2 0,.box 1 0]
   (.v (.int .i64 c)) [(0,eT s'.2),(1,iT s'.1),(2,bT bs)]:=by
 have:=aaL bs s.1 s.2 lo hi hu hl h0 h1 h2;rw[show(s.1,s.2)=s from rfl,h]at this;exact this
theorem aeo(bs:List UInt8)(s s':Sq)(sz:Int)(c:ByteArray)(h:je bs sz keyE s=(c,s'))(hu:s.1<=bs.length)(hl:bs.length<=1000000000)(h0:0<=sz/\sz<=255):
  aj prog 249 [(0,eT s.2),(1,iT s.1),(2,bT bs)] [.v (.int .i64 sz),.fn 167 [],.box 0 0,.box 2 0,.box 1 0]
   (.v (.string c)) [(0,eT s'.2),(1,iT s'.1),(2,bT bs)]:=by
 have:=aaM bs s.1 s.2 sz hu hl h0.1 o_;rw[show(s.1,s.2)=s from rfl,h]at this;exact this
theorem aep(bs:List UInt8)(s s':Sq)(sz:Int)(c:ByteArray)(h:je bs sz lD s=(c,s'))(hu:s.1<=bs.length)(hl:bs.length<=1000000000)(h0:0<=sz/\sz<=255):
  aj prog 249 [(0,eT s.2),(1,iT s.1),(2,bT bs)] [.v (.int .i64 sz),.fn 169 [],.box 0 0,.box 2 0,.box 1 0]
   (.v (.string c)) [(0,eT s'.2),(1,iT s'.1),(2,bT bs)]:=by
 have:=aaN bs s.1 s.2 sz hu hl h0.1 o_;rw[show(s.1,s.2)=s from rfl,h]at this;exact this
end Go.Proofs.YtkimgljckickcaaGreat
