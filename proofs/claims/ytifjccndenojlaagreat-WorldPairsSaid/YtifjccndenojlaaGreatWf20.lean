/-
  Contracts of the walk:Tk.
-/
import Derived.Test.YtifjccndenojlaaGreatWf9
set_option maxHeartbeats 16000000
set_option maxRecDepth 100000
set_option linter.unusedVariables false
set_option linter.unusedSimpArgs false
namespace Go.Proofs.YtifjccndenojlaaGreat
open Go.RowKit
open Go.Proofs.Tryz
variable{hi lo:Int}{bs l:List UInt8}{n:Nat}{F:Nat->List AV}{s:Sq}
theorem bG.drop{F:Nat->List AV}{l:List UInt8}(h:bG F l)(k:Nat):bG (λ i=>F (k+i)) (l.drop k):=by
 intro i hi;rw[aoK]at hi;show F (k+i)=bC ((l.drop k).getD i default);rw[h (k+i) o_];show bC (l.getD (k+i) default)=_;congr 1;simp
theorem bG.take{F:Nat->List AV}{l:List UInt8}(h:bG F l)(k:Nat):bG F (l.take k):=by
 intro i hi;rw[aou]at hi;show F i=bC ((l.take k).getD i default);rw[h i o_];show bC (l.getD i default)=_;congr 1;simp[show i<k by omega]
theorem aY.wS{sc:Bool}(h:bG F l)(hn:n=l.length):aY (.sl 1 n sc F) (.sl 1 l.length sc (aO l)):=aY.sl hn λ i hi=>h i o_
theorem Lu:∀l:List UInt8,flat l.length (aO l)=l.map λ b=> .v (.int .u8 (b.toNat:Int))
 |[]=>rfl
 |b::l=>by
  show aO (b::l) 0++flat l.length (λ i=>aO (b::l) (i+1))=_;rw[apd,<-Lu l];rfl
theorem aG.vals{R:AV->Value->Prop}(hR:∀x u,R (.v x) u->u=x):∀{xs us:List Value},aG R (xs.map .v) us->us=xs
 |[],us,h=>by
  have:=h.1;simp at this;exact aoz this.symm
 |x::xs,[],h=>by have:=h.1;simp at this
 |x::xs,u::us,h=>by
  have h0:u=x:=hR x u (h.2 0 _ _ rfl rfl);have:=aG.vals hR (xs:=xs) (us:=us) ⟨by simpa using h.1,λ i a b ha hb=>h.2 (i+1) a b (by simpa using ha) (by simpa using hb)⟩;rw[h0,this]
theorem Bs.of{K:List UInt8->Prop}(l:List UInt8)(hF:bG F l)(hn:n=l.length)(h:K l):Bs n F K:= .mk l hn (λ i hi=>hF i o_) h
theorem anF:(default:UInt8)=0:=rfl
theorem YM{P:Program}{f:FuncId}{r:AV}(he:Enters P f)(h:∀(A:Option Addr)(n c:Nat)(w:World),Rd w w.heap.size 1 A n (l.map bV)->n=l.length->n<=c->
  Calls P f #[.slice A n c] w λ e w'=> ∃u,e= .returned u/\Below w.heap.size w w'/\ ∀X,C2 X r u)(hF:bG F l)(hn:n=l.length):aH P f [.sl 1 n true F] r []:=by
 refine⟨he,λ w keep args hkeep hargs=>?_⟩;obtain⟨u,rfl,hu⟩:=rM hargs;have hu:PC w keep (.sl 1 l.length true (aO l)) u:=aY.wS hF hn ⟨w,keep,λ _=>undef⟩ u hu;cases hu with
 |sl _ _ _ _ A c us hs hnc hc hl hf hsc hpc hr=>
  have hall:aG (PC w keep) (flat l.length (aO l)) us:=⟨by rw[hl];exact oJ hf,hpc⟩;have e1:flat l.length (aO l)=(l.map bV).map .v:=by rw[Lu,List.map_map];rfl
  rw[e1]at hall;have e2:us=l.map bV:=aG.vals (λ x u h=>by cases h;rfl) hall;subst e2;have hRd:Rd w w.heap.size 1 A l.length (l.map bV):=by
   refine⟨s_,λ hpos=>?_⟩;rcases hr with h0|⟨b,o,hA,hk,hcell⟩
   ·omega
   ·exact⟨b,o,hA,hkeep b hk,hcell⟩
  refine(h A l.length c w hRd rfl hnc).mono ?_;rintro e w' ⟨v,h1,h2,h3⟩;exact⟨v,λ _=>undef,h1,h2,h3 _,(λ p hp=>by cases hp),by simp[ah],(λ b hb=>by simp[ah]at hb)⟩
theorem C2.anG(X:CX)(a b c:Value):C2 X (.bI [.v a,.v b,.v c]) (.tuple #[a,b,c]):=⟨[a,b,c],rfl,aG.cons (R:=C1 X) (show C1 X (.v a) a from rfl) (aG.cons (R:=C1 X) (show C1 X (.v b) b from rfl) (aG.cons (R:=C1 X) (show C1 X (.v c) c from rfl) aG.nil))⟩
theorem iZ(l:List UInt8)(hF:bG F l)(hn:n=l.length):aH prog 142 [.sl 1 n true F] (.bI [.v (.int .u64 ((cO l).1:Int)),.v (.int .i64 ((cO l).2.1:Int)),.v (.int .i64 (cO l).2.2)]) []:=
 YM ⟨_,_,func142,rfl,rfl⟩ (λ A n c w h h1 h2=>(abv A n c l w h h1 h2).mono λ e w' ⟨h3,h4⟩=>⟨_,h3,by rw[h4];exact apD _ _,λ X=>C2.anG X _ _ _⟩) hF hn
def eT(x:Int):AO:= .box 29 [.v (.int .i64 x)]
def iT(u:Nat):AO:= .box 3 [.v (.int .i64 (u:Int))]
def bT(bs:List UInt8):AO:= .box 56 [.sl 1 bs.length true (aO bs)]
theorem afR(bs:List UInt8)(u:Nat)(x lo hi:Int)(hl:bs.length<=1000000000):
  aj prog 218 [(0,eT x),(1,iT u),(2,bT bs)] [.v (.int .i64 lo),.v (.int .i64 hi),.box 0 0,.box 1 0,.box 2 0]
   (.v (.int .i64 (iC bs lo hi (u,x)).1)) [(0,eT (iC bs lo hi (u,x)).2.2),(1,iT (iC bs lo hi (u,x)).2.1),(2,bT bs)]:=by
 unfold eT iT bT;refine K1.M 0x4005019f func218 10 ?_;repeat' ((conv=>whnf);first|refine K1.u ?_|refine K1.P1 (zH _ _ _) ?_|refine K1.y (λ _=>?_) (λ _=>?_)|fail)
 all_goals(conv=>whnf)
 all_goals(refine Rn.auto rfl rfl ⟨⟨_,rfl,dK.box1 ?_⟩,⟨_,rfl,dK.box1 ?_⟩,ay rfl,trivial⟩ rfl rfl (aY.int ?_))
 all_goals(unfold iC;simp only[anF,apc]at*;grind)
theorem acd(bs:List UInt8)(u:Nat)(x lo hi:Int)(hu:u<=bs.length)(hl:bs.length<=1000000000)(h0:0<=lo)(h1:lo<=hi)(h2:hi<=16777216):
  aj prog 219 [(0,eT x),(1,iT u),(2,bT bs)] [.v (.int .i64 lo),.v (.int .i64 hi),.box 0 0,.box 2 0,.box 1 0]
   (.v (.int .i64 (jy bs lo hi (u,x)).1)) [(0,eT (jy bs lo hi (u,x)).2.2),(1,iT (jy bs lo hi (u,x)).2.1),(2,bT bs)]:=by
 unfold eT iT bT;have hv:=zI (bs.drop u);rw[aoK]at hv;refine K1.M 0x140000179f func219 10 ?_;repeat' ((conv=>whnf);first|refine K1.u ?_|refine K1.P1 (iZ (bs.drop u) ((bG.bytes bs).drop _) s_) ?_ rfl rfl|refine K1.y (λ _=>?_) (λ _=>?_)|fail)
 all_goals(conv=>whnf)
 all_goals(refine Rn.auto rfl rfl ⟨⟨_,rfl,dK.box1 ?_⟩,⟨_,rfl,dK.box1 ?_⟩,ay rfl,trivial⟩ rfl rfl (aY.int ?_))
 all_goals(unfold jy;grind)
theorem ace(bs:List UInt8)(u:Nat)(x sz:Int)(hu:u<=bs.length)(hl:bs.length<=1000000000)(h0:0<=sz)(h2:sz<=16777216):
  aj prog 220 [(0,eT x),(1,iT u),(2,bT bs)] [.v (.int .i64 sz),.fn 116 [],.box 0 0,.box 2 0,.box 1 0]
   (.v (.string (jl bs sz keyE (u,x)).1)) [(0,eT (jl bs sz keyE (u,x)).2.2),(1,iT (jl bs sz keyE (u,x)).2.1),(2,bT bs)]:=by
 unfold eT iT bT;obtain⟨z,rfl⟩:=apb h0;refine K1.M 0x40014019f func220 10 ?_;repeat' ((conv=>whnf);first|refine K1.u ?_|refine K1.P1 (U9 _) ?_|refine Bs.of ((bs.drop u).take z) (((bG.bytes bs).drop _).take _) (by simp;omega) ?_|refine K1.y (λ _=>?_) (λ _=>?_)|fail)
 all_goals(conv=>whnf)
 all_goals(refine Rn.auto rfl rfl ⟨⟨_,rfl,dK.box1 ?_⟩,⟨_,rfl,dK.box1 ?_⟩,ay rfl,trivial⟩ rfl rfl (aY.str ?_))
 all_goals(unfold jl;first|(simp only[NI,apc]at*;grind)|fail)
theorem acf(bs:List UInt8)(u:Nat)(x sz:Int)(hu:u<=bs.length)(hl:bs.length<=1000000000)(h0:0<=sz)(h2:sz<=16777216):
  aj prog 220 [(0,eT x),(1,iT u),(2,bT bs)] [.v (.int .i64 sz),.fn 118 [],.box 0 0,.box 2 0,.box 1 0]
   (.v (.string (jl bs sz lQ (u,x)).1)) [(0,eT (jl bs sz lQ (u,x)).2.2),(1,iT (jl bs sz lQ (u,x)).2.1),(2,bT bs)]:=by
 unfold eT iT bT;obtain⟨z,rfl⟩:=apb h0;refine K1.M 0x40014019f func220 10 ?_;repeat' ((conv=>whnf);first|refine K1.u ?_|refine K1.P1 (Kv _) ?_|refine Bs.of ((bs.drop u).take z) (((bG.bytes bs).drop _).take _) (by simp;omega) ?_|refine K1.y (λ _=>?_) (λ _=>?_)|fail)
 all_goals(conv=>whnf)
 all_goals(refine Rn.auto rfl rfl ⟨⟨_,rfl,dK.box1 ?_⟩,⟨_,rfl,dK.box1 ?_⟩,ay rfl,trivial⟩ rfl rfl (aY.str ?_))
 all_goals(unfold jl;first|(simp only[NI,apc]at*;grind)|fail)
theorem aiM(h:s.1<=bs.length):(jy bs lo hi s).2.1<=bs.length:=by
 have hv:=zI (bs.drop s.1);rw[aoK]at hv;unfold jy;grind
theorem afS{sz:Int}{may:ByteArray->Int}(h:s.1<=bs.length):(jl bs sz may s).2.1<=bs.length:=by unfold jl;grind
theorem ali:0<=(iC bs lo hi s).1/\(iC bs lo hi s).1<=255:=by
 unfold iC;have:=apv (bs.getD s.1 0);grind
theorem EN(bs:List UInt8)(s s':Sq)(lo hi c:Int)(h:iC bs lo hi s=(c,s'))(hl:bs.length<=1000000000):
  aj prog 218 [(0,eT s.2),(1,iT s.1),(2,bT bs)] [.v (.int .i64 lo),.v (.int .i64 hi),.box 0 0,.box 1 0,.box 2 0]
   (.v (.int .i64 c)) [(0,eT s'.2),(1,iT s'.1),(2,bT bs)]:=by
 have:=afR bs s.1 s.2 lo hi hl;rw[show(s.1,s.2)=s from rfl,h]at this;exact this
theorem wE(bs:List UInt8)(s s':Sq)(lo hi c:Int)(h:jy bs lo hi s=(c,s'))(hu:s.1<=bs.length)(hl:bs.length<=1000000000)(h0:0<=lo)(h1:lo<=hi)(h2:hi<=16777216):
  aj prog 219 [(0,eT s.2),(1,iT s.1),(2,bT bs)] [.v (.int .i64 lo),.v (.int .i64 hi),.box 0 0,.box 2 0,.box 1 0]
   (.v (.int .i64 c)) [(0,eT s'.2),(1,iT s'.1),(2,bT bs)]:=by
 have:=acd bs s.1 s.2 lo hi hu hl h0 h1 h2;rw[show(s.1,s.2)=s from rfl,h]at this;exact this
theorem afT(bs:List UInt8)(s s':Sq)(sz:Int)(c:ByteArray)(h:jl bs sz keyE s=(c,s'))(hu:s.1<=bs.length)(hl:bs.length<=1000000000)(h0:0<=sz/\sz<=255):
  aj prog 220 [(0,eT s.2),(1,iT s.1),(2,bT bs)] [.v (.int .i64 sz),.fn 116 [],.box 0 0,.box 2 0,.box 1 0]
   (.v (.string c)) [(0,eT s'.2),(1,iT s'.1),(2,bT bs)]:=by
 have:=ace bs s.1 s.2 sz hu hl h0.1 o_;rw[show(s.1,s.2)=s from rfl,h]at this;exact this
theorem afU(bs:List UInt8)(s s':Sq)(sz:Int)(c:ByteArray)(h:jl bs sz lQ s=(c,s'))(hu:s.1<=bs.length)(hl:bs.length<=1000000000)(h0:0<=sz/\sz<=255):
  aj prog 220 [(0,eT s.2),(1,iT s.1),(2,bT bs)] [.v (.int .i64 sz),.fn 118 [],.box 0 0,.box 2 0,.box 1 0]
   (.v (.string c)) [(0,eT s'.2),(1,iT s'.1),(2,bT bs)]:=by
 have:=acf bs s.1 s.2 sz hu hl h0.1 o_;rw[show(s.1,s.2)=s from rfl,h]at this;exact this
end Go.Proofs.YtifjccndenojlaaGreat
