/-
  Contracts of the walk:TkF,FrT,FrU,FrLaw,FrN,RcLaw,RcV,RcX.
-/
import Derived.Test.YtkimgljckickcaaGreatRa25
import Derived.Test.YtkimgljckickcaaGreatRa9
import Derived.Test.YtkimgljckickcaaGreatRa13
import Derived.Test.YtkimgljckickcaaGreatRa26
set_option maxHeartbeats 16000000
set_option maxRecDepth 100000
set_option linter.unusedVariables false
set_option linter.unusedSimpArgs false
namespace Go.Proofs.YtkimgljckickcaaGreat
open Go.RowKit
open Go.Proofs.Tryz
variable{e:Ev}{hi lo:Int}{l:List Rc}{b bs r t:List UInt8}{j k m n:Nat}{F:Nat->List AV}{x:Rc}{s:Sq}
def E23(x:Int):Prop:=x=0\/x=2\/x=3
theorem zk(h:E23 s.2):E23 (gZ bs lo hi s).2.2:=by
 unfold gZ;split
 ·exact h
 ·split
  ·exact .inr (.inl rfl)
  ·split
   ·exact .inl rfl
   ·exact .inr (.inr rfl)
theorem Kz(h:E23 s.2):E23 (jo bs lo hi s).2.2:=by
 unfold jo;split
 ·exact h
 ·split
  ·have h:fV ((bs.drop s.1).take 10) 0 0=bW (bs.drop s.1):=rfl;have:=JJ ((bs.drop s.1).take 10) 0 0;rw[h]at this;exact this
  ·split
   ·exact .inl rfl
   ·exact .inr (.inr rfl)
theorem Oy{sz:Int}{may:ByteArray->Int}(h:E23 s.2):E23 (je bs sz may s).2.2:=by
 unfold je;split
 ·exact h
 ·split
  ·exact .inr (.inl rfl)
  ·dsimp only;split
   ·exact .inl rfl
   ·exact .inr (.inr rfl)
theorem aa'{r:Int}(h:E23 s.2):E23 (Nw bs r j s).2.2:=by
 unfold Nw;split
 ·exact h
 ·exact Kz h
theorem Oz{bs:List UInt8}{r:Int}{s:Sq}(h:E23 s.2):∀j,E23 (Jr bs r s j).2.2
 |0=>h
 |j+1=>aa' (Oz h j)
theorem XC(bs:List UInt8):E23 (nD bs (0,0)).2.2:=by
 have h6:E23 (je bs (gZ bs 1 8 (jo bs 1 16777216 (Js bs (gZ bs 0 4 (gZ bs 1 5 (0,0)).2).1 (jo bs 1 1048576 (gZ bs 0 4 (gZ bs 1 5 (0,0)).2).2).2).2).2).1 keyE (gZ bs 1 8 (jo bs 1 16777216 (Js bs (gZ bs 0 4 (gZ bs 1 5 (0,0)).2).1 (jo bs 1 1048576 (gZ bs 0 4 (gZ bs 1 5 (0,0)).2).2).2).2).2).2).2.2:=
  Oy (zk (Kz (Oz (Kz (zk (zk (.inl rfl)))) 5)))
 unfold nD;dsimp only;split
 ·exact Oy (zk (zk h6))
 ·exact h6
theorem xg(bs:List UInt8):(∃e m,oJ bs=(e,m,0)/\dU e=0/\m<=bs.length/\bs.take m=eH e/\m=(eH e).length)\/oJ bs=(QO,0,2)\/oJ bs=(QO,0,3):=by
 obtain⟨⟨e,m,x⟩,hf⟩:∃p,nD bs (0,0)=p:=⟨_,rfl⟩;have he:=XC bs;rw[hf]at he;unfold oJ;rw[hf];rcases he with h|h|h<;>dsimp only at h<;>subst h
 ·obtain⟨h1,h2,h3⟩:=adY bs hf;refine .inl ⟨e,m,s_,h1,h2,h3, ?_⟩;rw[<-h3,am5];omega
 ·exact .inr (.inl s_)
 ·exact .inr (.inr s_)
theorem abb(e:Ev)(h:dU e=0)(rest:List UInt8):oJ (eH e++rest)=(e,(eH e).length,0):=by
 unfold oJ;rw[aat e h rest];simp
theorem Ch.vX{n:Nat}{sc:Bool}{F:Nat->List AV}{l:List UInt8}{xs ys:List AV}(h:bg F l)(hn:n=l.length)(k:Ch xs ys):Ch (.sl 1 n sc F::xs) (.sl 1 l.length sc (aO l)::ys):=
 .of (λ X u hu=>dJ.vX (sc:=sc) h hn X u hu) k
theorem take_any(l:List UInt8){x:Int}(ht:oJ l=(e,m,x))(hF:bg F l)(hn:n=l.length)(hl:l.length<=1000000000):
  aF prog 241 [.sl 1 n true F] (.aZ [e.av,.v (.int .i64 (m:Int)),.v (.int .i64 x)]) []:=by
 have h:=aa9 l hl;rw[ht]at h;exact h.args (Ch.vX hF hn .nil)
def lS(b:List UInt8):Option (Nat×Nat):=if(bW b).2.2=0/\(bW b).1<=1048576 then some ((bW b).1,(bW b).2.1)else none
theorem rH(l:List UInt8)(h:lS l=some (m,k))(hF:bg F l)(hn:n=l.length):aF prog 228 [.sl 1 n true F] (.aZ [.v (.int .i64 (m:Int)),.v (.int .i64 (k:Int)),.v (.bool true)]) []:=by
 obtain⟨⟨a,c,e⟩,hv⟩:∃p,bW l=p:=⟨_,rfl⟩;have hs:=iR l hF hn;unfold lS at h;rw[hv]at hs h;dsimp only at hs h;split at h
 ·rename_i h0;obtain⟨h0,h1⟩:=h0;simp only[ank,aot]at h;obtain⟨rfl,rfl⟩:=h;subst h0;refine K1.E 0x800fd func228 ?_;repeat' ((conv=>whnf);first|refine K1.u ?_|refine K1.P1 hs ?_|refine aT.fH ?_|fail)
  conv=>whnf
  exact bF.mk (bY)
 ·cases h
theorem rJ(l:List UInt8)(h:lS l=none)(hF:bg F l)(hn:n=l.length):aF prog 228 [.sl 1 n true F] (.aZ [.v (.int .i64 0),.v (.int .i64 0),.v (.bool false)]) []:=by
 obtain⟨⟨a,c,e⟩,hv⟩:∃p,bW l=p:=⟨_,rfl⟩;have hs:=iR l hF hn;unfold lS at h;rw[hv]at hs h;dsimp only at hs h;split at h
 ·cases h
 ·rename_i h0;refine K1.E 0x800fd func228 ?_;repeat' ((conv=>whnf);first|refine K1.u ?_|refine K1.P1 hs ?_|refine aT.fH ?_|refine K1.y (λ _=>?_) (λ _=>?_)|fail)
  all_goals(conv=>whnf)
  all_goals first
   |exact bF.mk (bY)
   |fail
def jf(b:List UInt8):Nat->Option (List Ev×List UInt8)
 |0=>some ([],b)
 |j+1=>match jf b j with
  |none=>none
  |some (l,r)=>if(oJ r).2.2=0 then some (l++[(oJ r).1],r.drop (oJ r).2.1)else none
def L9:List UInt8->Option (List Ev)
 |[]=>none
 |c::r=>(jf r c.toNat).map (·.1)
theorem pF{b:List UInt8}:∀{j:Nat}{l:List Ev}{r:List UInt8},jf b j=some (l,r)->l.length=j/\r.length<=b.length
 |0,l,r,h=>by
  simp only[jf,ank,aot]at h;obtain⟨rfl,rfl⟩:=h;exact⟨rfl,ani _⟩
 |j+1,l,r,h=>by
  unfold jf at h;cases h0:jf b j with
  |none=>rw[h0]at h;cases h
  |some p=>
   obtain⟨l0,r0⟩:=p;rw[h0]at h;dsimp only at h;have ih:=pF h0;split at h
   ·simp only[ank,aot]at h;obtain⟨rfl,rfl⟩:=h;refine⟨by simp[ih.1], ?_⟩;rw[anl];omega
   ·cases h
theorem sK{l:List Ev}(h:jf b j=some (l,r))(ht:oJ r=(e,m,0)):jf b (j+1)=some (l++[e],r.drop m):=by
 unfold jf;rw[h];dsimp only;rw[ht];rfl
theorem xq{l:List Ev}(h:jf b j=some (l,r))(ht:(oJ r).2.2≠0):jf b (j+1)=none:=by
 unfold jf;rw[h];dsimp only;rw[if_neg ht]
theorem xw(h:jf b j=none):∀n,j<=n->jf b n=none:=by
 intro n hn;obtain⟨d,rfl⟩:=Nat.le.dest hn;clear hn;induction d with
 |zero=>exact h
 |succ d ih=>
  show jf b (j+d+1)=none;unfold jf;rw[ih]
theorem C1.ak9{X:CX}{f:Nat->List AV}{u:Value}(h:C1 X (.v (.slice none 0 0)) u):C1 X (.sl 12 0 true f) u:=by
 have h:u= .slice none 0 0:=h;subst h;exact(show C0 X (.sl 12 0 true f) (.slice none 0 0)from .sl 12 0 true f none 0 [] o_ (ani _) (by simp[maxLen]) s_ (λ i hi=>absurd hi (anA i)) (λ _ x hx=>by simp[flat]at hx) (λ i x u hx=>by simp[flat]at hx) (.inl rfl))
theorem aC.hd{R:AV->Value->Prop}{x y:AV}{xs:List AV}{us:List Value}(h:aC R (x::xs) us)(hi:∀u,R x u->R y u):aC R (y::xs) us:=by
 rcases us with _|⟨u,us⟩
 ·have:=h.1;simp at this
 ·exact aC.cons (hi u (h.2 0 _ _ rfl rfl)) ⟨by have:=h.1;simpa using this,λ i a b ha hb=>h.2 (i+1) a b (by simpa using ha) (by simpa using hb)⟩
theorem dJ.ahw{b:AV}(f:Nat->List AV):dJ (.aZ [.v (.slice none 0 0),b]) (.aZ [.sl 12 0 true f,b]):=by
 rintro X u ⟨us,e,ha⟩;exact⟨us,e,ha.hd λ u hu=>C1.ak9 hu⟩
def Mc:Option (List Ev)->AV
 |none=> .aZ [.v (.slice none 0 0),.v (.bool false)]
 |some l=> .aZ [.sl 12 l.length true (dA l),.v (.bool true)]
theorem KA{G:Nat->List AV}(a b:List UInt8)(hF:bg F a)(hn:n=a.length)(hG:bg G b)(hm:m=b.length):aF prog 197 [.sl 1 n true F,.sl 1 m true G] (.v (.bool (decide (a=b)))) []:=by
 refine K1.E 0x13 func197 ?_;repeat' ((conv=>whnf);first|refine Bs.of a hF hn ?_|refine Bs.of b hG hm ?_|refine aT.fH ?_|refine K1.y (λ _=>?_) (λ _=>?_)|fail)
 all_goals(conv=>whnf)
 all_goals(refine bF.mk (dJ.of ?_))
 ·have h:(⟨a.toArray⟩:ByteArray)=⟨b.toArray⟩:=a_
  have:a=b:=by simpa using h
  simp[this]
 ·have h:¬ (⟨a.toArray⟩:ByteArray)=⟨b.toArray⟩:=a_
  have:¬a=b:=by simpa using h
  simp[this]
theorem ae4(b:List UInt8)(hl:b.length<=1000000000):aF prog 227 [.sl 1 b.length true (aO b)] (Mc (L9 b)) []:=by
 rcases b with _|⟨c,t⟩
 ·show aF prog 227 [.sl 1 0 true (aO [])] _ [];refine K1.E 0x101c09fd func227 ?_;repeat' ((conv=>whnf);first|refine K1.u ?_|refine aT.fH ?_|fail)
  all_goals(conv=>whnf)
  all_goals exact bF.mk (bY)
 ·have hc:=an3 c;rw[anb]at hl⊢;refine K1.E 0x101c09fd func227 ?_;repeat' ((conv=>whnf);first|refine K1.u ?_|fail)
  conv=>whnf
  refine aI.mk {p:Nat×List Ev×List UInt8//jf t p.1=some p.2/\p.1<=c.toNat} (λ p=>match p with
   |⟨(0,_,r),_⟩=>⟨[(0,.sl 1 r.length true (aO r)),(4,.v (.slice none 0 0)),(18,.v (.int .i64 (c.toNat:Int))),(19,.v (.int .i64 0))],[],[],0⟩
   |⟨(i+1,l,r),_⟩=>⟨[(0,.sl 1 r.length true (aO r)),(4,.own 90),(18,.v (.int .i64 (c.toNat:Int))),(19,.v (.int .i64 ((i:Int)+1)))],[(90,.row 74 12 l.length true (dA l))],[],91⟩)
   (λ p=>c.toNat-p.1.1) ⟨(0,[],t),rfl,ane _⟩ _
   (dZ.mk' [] _ _ _ rfl ⟨dJ.vX (bg.drop (bg.bytes (c::t)) 1) s_,bY,bY,dJ.int rfl,trivial⟩ trivial rfl) ?_
  rintro⟨⟨_|i,l,r⟩,hp,hj⟩
  ·dsimp only at hp hj;obtain⟨hl0,hr0⟩:=pF hp;obtain rfl:l=[]:=am9 hl0;have hz:c.toNat=0->L9 (c::t)=some []:=λ h=>by show(jf t c.toNat).map (·.1)=_;rw[h,hp];rfl
   rcases xg r with⟨e,m,ht,-,hm,-⟩|ht|ht
   ·dsimp only;repeat' ((conv=>whnf);first|refine K1.u ?_|refine K1.P1 (take_any r ht (bg.bytes r) rfl o_) ?_ rfl rfl|refine aT.fH ?_|refine K1.y (λ _=>?_) (λ _=>?_)|fail)
    all_goals(conv=>whnf)
    ·refine⟨⟨(0+1,[]++[e],r.drop m),sK hp ht,o_⟩,_,dZ.mk' [(2,90)] _ _ _ rfl ⟨dJ.vX (bg.drop (bg.bytes r) m) s_,bY,bY,dJ.int rfl,trivial⟩ ⟨⟨_,rfl,dK.row rfl (λ i hi=>?_)⟩,trivial⟩ rfl,by show c.toNat-(0+1)<c.toNat-0;omega⟩;have hi:i<1:=hi;obtain rfl:i=0:=o_
     rfl
    ·rw[hz o_];exact bF.mk (dJ.ahw _)
   all_goals
    have hno:0<c.toNat->L9 (c::t)=none:=λ h=>by show(jf t c.toNat).map (·.1)=_;rw[xw (xq hp (by rw[ht];decide)) c.toNat o_];rfl
    dsimp only;repeat' ((conv=>whnf);first|refine K1.u ?_|refine K1.P1 (take_any r ht (bg.bytes r) rfl o_) ?_ rfl rfl|refine aT.fH ?_|refine K1.y (λ _=>?_) (λ _=>?_)|fail)
    all_goals(conv=>whnf)
    ·rw[hno o_];exact bF.mk (bY)
    ·rw[hz o_];exact bF.mk (dJ.ahw _)
  ·dsimp only at hp hj;obtain⟨hl0,hr0⟩:=pF hp;have hz:c.toNat=i+1->L9 (c::t)=some l:=λ h=>by show(jf t c.toNat).map (·.1)=_;rw[h,hp];rfl
   rcases xg r with⟨e,m,ht,-,hm,-⟩|ht|ht
   ·dsimp only;repeat' ((conv=>whnf);first|refine K1.u ?_|refine K1.P1 (take_any r ht (bg.bytes r) rfl o_) ?_ rfl rfl|refine aT.fH ?_|refine K1.y (λ _=>?_) (λ _=>?_)|fail)
    all_goals(conv=>whnf)
    ·refine⟨⟨(i+1+1,l++[e],r.drop m),sK hp ht,o_⟩,_,dZ.mk' [(93,90)] _ _ _ rfl ⟨dJ.vX (bg.drop (bg.bytes r) m) s_,bY,bY,dJ.int rfl,trivial⟩ ⟨⟨_,rfl,dK.row s_ (λ m hm=>eF (c:=Ev.cs) rfl rfl m hm)⟩,trivial⟩ rfl,by show c.toNat-(i+1+1)<c.toNat-(i+1);omega⟩
    ·rw[hz o_];exact bF.mk (bY)
   all_goals
    have hno:i+1<c.toNat->L9 (c::t)=none:=λ h=>by show(jf t c.toNat).map (·.1)=_;rw[xw (xq hp (by rw[ht];decide)) c.toNat o_];rfl
    dsimp only;repeat' ((conv=>whnf);first|refine K1.u ?_|refine K1.P1 (take_any r ht (bg.bytes r) rfl o_) ?_ rfl rfl|refine aT.fH ?_|refine K1.y (λ _=>?_) (λ _=>?_)|fail)
    all_goals(conv=>whnf)
    ·rw[hno o_];exact bF.mk (bY)
    ·rw[hz o_];exact bF.mk (bY)
theorem Vd(b:List UInt8)(hF:bg F b)(hn:n=b.length)(hl:b.length<=1000000000):aF prog 227 [.sl 1 n true F] (Mc (L9 b)) []:=
 (ae4 b hl).args (Ch.vX hF hn .nil)
def CO(b:List UInt8):aS×Bool:=
 match lS b with
 |none=>(⟨0,0,0,0,0⟩,false)
 |some (n0,k0)=>match lS (b.drop k0)with
  |none=>(⟨n0,0,0,0,0⟩,false)
  |some (n1,k1)=>match lS ((b.drop k0).drop k1)with
   |none=>(⟨n0,n1,0,0,0⟩,false)
   |some (n2,k2)=>match lS (((b.drop k0).drop k1).drop k2)with
    |none=>(⟨n0,n1,n2,0,0⟩,false)
    |some (n3,k3)=>match lS ((((b.drop k0).drop k1).drop k2).drop k3)with
     |none=>(⟨n0,n1,n2,n3,0⟩,false)
     |some (n4,_)=>(⟨n0,n1,n2,n3,n4⟩,true)
def Zh:Rc:=⟨0,0,0,aV,[]⟩
def rdB(k r:Int)(t:List UInt8):Rc×Bool:=
 if k=1\/k=4 then(match L9 t with|none=>(⟨k,r,0,aV,[]⟩,false)|some l=>(⟨k,r,0,aV,l⟩,true))
 else if k=2 then(match lS t with|none=>(⟨k,r,0,aV,[]⟩,false)|some (n,_)=>(⟨k,r,n,aV,[]⟩,true))
 else if k=3\/k=5 then(⟨k,r,0,(CO t).1,[]⟩,(CO t).2)
 else(⟨k,r,0,aV,[]⟩,false)
def jw(b:List UInt8):Rc×Bool:=
 if(bW b).2.2≠0\/b.length<(bW b).2.1+2 then(Zh,false)
 else rdB ((b.getD (bW b).2.1 default).toNat:Int) ((b.getD ((bW b).2.1+1) default).toNat:Int) (b.drop ((bW b).2.1+2))
theorem oK(h:n<=1048576)(t:List UInt8):lS (aK n++t)=some (n,(aK n).length):=by
 unfold lS;rw[vI n t o_,if_pos ⟨rfl,h⟩]
theorem FP(l:List Ev)(h:∀e∈l,dU e=0)(t:List UInt8):∀j,j<=l.length->jf (gJ l++t) j=some (l.take j,gJ (l.drop j)++t)
 |0,_=>by simp[jf]
 |j+1,hj=>by
  have ih:=FP l h t j o_;have e0:l.drop j=l[j]::l.drop (j+1):=aok o_;have e1:gJ (l.drop j)++t=eH l[j]++(gJ (l.drop (j+1))++t):=by
   rw[e0];show eH l[j]++gJ (l.drop (j+1))++t=_;rw[anm]
  have ht:=abb l[j] (h _ (anH _)) (gJ (l.drop (j+1))++t);rw[<-e1]at ht;rw[sK ih ht,e1,aoc];congr 2;exact List.take_append_getElem o_
theorem ae5(l:List Ev)(h:∀e∈l,dU e=0)(hl:l.length<=255)(t:List UInt8):L9 (UInt8.ofNat l.length::(gJ l++t))=some l:=by
 show(jf (gJ l++t) (UInt8.ofNat l.length).toNat).map (·.1)=_;rw[Ug o_,FP l h t _ (ani _),aof];rfl
theorem Zi{c0 c1 c2 c3 c4:Nat}(h0:c0<=1048576)(h1:c1<=1048576)(h2:c2<=1048576)(h3:c3<=1048576)(h4:c4<=1048576)(t:List UInt8):
  CO (aK c0++(aK c1++(aK c2++(aK c3++(aK c4++t)))))=(⟨c0,c1,c2,c3,c4⟩,true):=by
 unfold CO;rw[oK h0];dsimp only;rw[aoc,oK h1];dsimp only;rw[aoc,oK h2];dsimp only;rw[aoc,oK h3];dsimp only;rw[aoc,oK h4]
theorem abd(x:Rc)(h:jW x=true)(n:Nat)(hn:n<=4294967296)(t:List UInt8):jw (aK n++(kY x++t))=(x,true):=by
 have m:=pK h;obtain⟨k,r,u,⟨c0,c1,c2,c3,c4⟩,ev⟩:=x;obtain⟨mk,mr,mu,Es,AU,me0,⟨m0,m1,m2,m3,m4⟩,ml,XA,QU⟩:=m;dsimp only at mk mr mu ml m0 m1 m2 m3 m4 Es AU me0 QU XA;have Ou:=Ky QU;obtain⟨rest,hrest⟩:∃rest,rest=(if Gs k then UInt8.ofNat ev.length::gJ ev else [])++(if Gt k then gU u else [])++(if Gu k then Ee ⟨c0,c1,c2,c3,c4⟩else [])++t:=⟨_,rfl⟩;have hb:aK n++(kY ⟨k,r,u,⟨c0,c1,c2,c3,c4⟩,ev⟩++t)=aK n++([byteOf k,byteOf r]++rest):=by
  rw[hrest];simp[kY]
 have g0:((aK n++([byteOf k,byteOf r]++rest)).getD (aK n).length default)=byteOf k:=by
  rw[List.getD,anI (ani _),Nat.sub_self];rfl
 have g1:((aK n++([byteOf k,byteOf r]++rest)).getD ((aK n).length+1) default)=byteOf r:=by
  rw[List.getD,anI o_,Nat.add_sub_cancel_left];rfl
 have g2:(aK n++([byteOf k,byteOf r]++rest)).drop ((aK n).length+2)=rest:=by
  rw[<-ao1,aoc];rfl
 rw[hb];unfold jw;rw[vI n _ hn];rw[if_neg s_];dsimp only;rw[g0,g1,g2,lJ o_ o_,lJ o_ o_];clear g0 g1 g2 hb;unfold rdB;rcases(show(k=1\/k=4)\/k=2\/(k=3\/k=5) by omega)with hk|hk|hk
 ·have hU:Gt k=false:=by simp[Gt];omega
  have hC:Gu k=false:=by simp[Gu];omega
  have hE:Gs k=true:=by simp[Gs];omega
  rw[hU]at Es hrest;rw[hC]at AU hrest;rw[hE]at hrest;simp only[anV,false_or]at Es AU;rw[if_pos hk,hrest];simp only[if_true,anV,if_false,am2,anJ];rw[ae5 ev (ug Ou) o_];rw[Es,AU]
 ·have hU:Gt k=true:=by simp[Gt];omega
  have hC:Gu k=false:=by simp[Gu];omega
  have hE:Gs k=false:=by simp[Gs];omega
  rw[hU]at hrest;rw[hC]at AU hrest;rw[hE]at me0 hrest;simp only[anV,false_or]at me0 AU;obtain⟨un,rfl,hun⟩:=gW mu;rw[if_neg o_,if_pos hk,hrest];simp only[if_true,anV,if_false,am2,ano];rw[l7,oK hun];dsimp only;rw[am9 me0,AU]
 ·have hU:Gt k=false:=by simp[Gt];omega
  have hC:Gu k=true:=by simp[Gu];omega
  have hE:Gs k=false:=by simp[Gs];omega
  rw[hU]at Es hrest;rw[hC]at hrest;rw[hE]at me0 hrest;simp only[anV,false_or]at Es me0;obtain⟨c0,rfl,hc0⟩:=gW m0;obtain⟨c1,rfl,hc1⟩:=gW m1;obtain⟨c2,rfl,hc2⟩:=gW m2;obtain⟨c3,rfl,hc3⟩:=gW m3;obtain⟨c4,rfl,hc4⟩:=gW m4;rw[if_neg o_,if_neg o_,if_pos hk,hrest];simp only[if_true,anV,if_false,am2,ano,Ee,l7,anm];rw[Zi hc0 hc1 hc2 hc3 hc4];dsimp only;rw[am9 me0,Es]
instance(l:List UInt8):Decidable (mO l):=inferInstanceAs (Decidable (_/\_))
def inner(l:List UInt8):List UInt8:=l.take (l.length-4)
theorem Cb(m:List UInt8):inner (dP m)=m:=by
 unfold inner;rw[dW,apq];simp[dP]
theorem QV(m:List UInt8):mO (dP m):=by
 refine⟨by rw[dW];omega, ?_⟩;have:=Cb m;unfold inner at this;rw[this]
theorem Et{l:List UInt8}(h:mO l):l=dP (inner l):=h.2
def eP(l:List UInt8):Rc×Int:=
 if 2048<l.length then(Zh,5)else if mO l then
  if(jw (inner l)).2=true/\jW (jw (inner l)).1=true/\aY (jw (inner l)).1=l then((jw (inner l)).1,0)else(Zh,3)
 else(Zh,4)
theorem KC(x:Rc)(h:jW x=true):2<=(kY x).length/\(kY x).length<=1000:=by
 have m:=pK h;have hv (n:Nat):(aK n).length<=10:=dF 9 _;have hvi (n:Int):(gU n).length<=10:=hv _;have he:=zi (ug (Ky m.ev));have hl:=m.l;have e1:(kY x).length=2+(if Gs x.k then 1+(gJ x.ev).length else 0)+(if Gt x.k then(gU x.u).length else 0)+(if Gu x.k then(Ee x.c).length else 0):=by
  unfold kY;simp only[am0];congr 1
  ·congr 1
   ·congr 1
    split<;>simp;omega
   ·split<;>rfl
  ·split<;>rfl
 have hc:(Ee x.c).length<=50:=by
  have:=hvi x.c.c0;have:=hvi x.c.c1;have:=hvi x.c.c2;have:=hvi x.c.c3;have:=hvi x.c.c4;unfold Ee;simp only[am0];omega
 have:=hvi x.u;rw[e1];refine⟨o_, ?_⟩;split<;>split<;>split<;>omega
theorem zl(x:Rc)(h:jW x=true):(aY x).length<=2048:=by
 have:=KC x h;have hv:(aK (kY x).length).length<=10:=dF 9 _;unfold aY;rw[dW,am0];omega
theorem abe(x:Rc)(h:jW x=true):eP (aY x)=(x,0):=by
 have hb:=KC x h;have hr:=abd x h (kY x).length o_ [];rw[am2]at hr;have hi:inner (aY x)=aK (kY x).length++kY x:=Cb _;have ho:mO (aY x):=QV _;unfold eP;rw[if_neg (by have:=zl x h;omega),if_pos ho,hi,hr,if_pos ⟨rfl,h,rfl⟩]
theorem Cc(l:List UInt8)(h:l.length<=2048):(∃z,eP l=(z,0)/\jW z=true/\aY z=l)\/eP l=(Zh,3)\/eP l=(Zh,4):=by
 unfold eP;rw[if_neg o_];split
 ·split
  ·rename_i h1;exact .inl ⟨_,rfl,h1.2.1,h1.2.2⟩
  ·exact .inr (.inl rfl)
 ·exact .inr (.inr rfl)
theorem dJ.fZ{a1 a2 a3 a4 a5 a6 a7 a8 b:AV}(f:Nat->List AV):dJ (.aZ [.agg [a1,a2,a3,a4,a5,a6,a7,a8,.v (.slice none 0 0)],b]) (.aZ [.agg [a1,a2,a3,a4,a5,a6,a7,a8,.sl 12 0 true f],b]):=by
 rintro X u ⟨us,e,ha⟩;exact⟨us,e,ha.hd λ u hu=>C1.Ov hu⟩
theorem xA(h:lS b=some (m,k)):k<=b.length/\m<=1048576:=by
 have hle:=yQ b;unfold lS at h;split at h
 ·rename_i h0;simp only[ank,aot]at h;omega
 ·cases h
theorem aF.res{P:Program}{f:FuncId}{aW:List AV}{r r':AV}{h:List (Nat×AO)}(hs:aF P f aW r h)(hr:dJ r r'):aF P f aW r' h:=
 ⟨hs.1,λ w keep args hk ha=>(hs.2 w keep args hk ha).mono λ _ _ ⟨u,ρ,h1,h2,h3,h4⟩=>⟨u,ρ,h1,h2,hr _ _ h3,h4⟩⟩
instance:Inhabited Rc:=⟨Zh⟩
def oL(b:List UInt8):Option (List Ev):=match lS b with
 |none=>none
 |some (m,k)=>if 4096<m then none else(jf (b.drop k) m).map (·.1)
def ahx(k r:Int)(t:List UInt8):Rc×Bool:=match lS t with
 |none=>(⟨k,r,0,aV,[]⟩,false)
 |some (n,_)=>(⟨k,r,n,aV,[]⟩,true)
def Ve(k r u:Int)(t:List UInt8):Rc×Bool:=match oL t with
 |none=>(⟨k,r,u,aV,[]⟩,false)
 |some l=>(⟨k,r,u,aV,l⟩,true)
def rdR(k r:Int)(t:List UInt8):Rc×Bool:=
 if k=1\/k=2\/k=5 then Ve k r 0 t
 else if k=3 then ahx k r t
 else if k=4 then(match lS t with|none=>(⟨k,r,0,aV,[]⟩,false)|some (n,j)=>Ve k r n (t.drop j))
 else if k=6 then(⟨k,r,0,(CO t).1,[]⟩,(CO t).2)
 else(⟨k,r,0,aV,[]⟩,false)
def jP(b:List UInt8):Rc×Bool:=
 if b.length<2 then(Zh,false)else rdR ((b.getD 0 default).toNat:Int) ((b.getD 1 default).toNat:Int) (b.drop 2)
theorem OA(l:List Ev)(h:∀e∈l,dU e=0)(hl:l.length<=4096)(t:List UInt8):oL (aK l.length++(gJ l++t))=some l:=by
 unfold oL;rw[oK o_];dsimp only;rw[if_neg o_,aoc,FP l h t _ (ani _),aof];rfl
theorem abf(x:Rc)(h:iE x=true)(t:List UInt8):jP (eY x++t)=(x,true):=by
 have m:=wY h;obtain⟨k,r,u,⟨c0,c1,c2,c3,c4⟩,ev⟩:=x;obtain⟨mk,mr,mu,ml,⟨m0,m1,m2,m3,m4⟩,Es,AU,me0,Ou,XA⟩:=m;dsimp only at mk mr mu ml m0 m1 m2 m3 m4 Es AU me0 Ou XA;obtain⟨rest,hrest⟩:∃rest,rest=(if EH k then gU u else [])++(if EJ k then Ee ⟨c0,c1,c2,c3,c4⟩else [])++(if EI k then aK ev.length++gJ ev else [])++t:=⟨_,rfl⟩;have hb:eY ⟨k,r,u,⟨c0,c1,c2,c3,c4⟩,ev⟩++t=byteOf k::byteOf r::rest:=by
  rw[hrest];simp[eY]
 rw[hb];unfold jP;rw[if_neg s_];rw[show(byteOf k::byteOf r::rest).getD 0 default=byteOf k from rfl,show(byteOf k::byteOf r::rest).getD 1 default=byteOf r from rfl,show(byteOf k::byteOf r::rest).drop 2=rest from rfl,lJ o_ o_,lJ o_ o_];clear hb;unfold rdR;rcases(show(k=1\/k=2\/k=5)\/k=3\/k=4\/k=6 by omega)with hk|hk|hk|hk
 ·have hU:EH k=false:=by simp[EH];omega
  have hC:EJ k=false:=by simp[EJ];omega
  have hE:EI k=true:=by simp[EI];omega
  rw[hU]at Es hrest;rw[hC]at AU hrest;rw[hE]at hrest;simp only[anV,false_or]at Es AU;rw[if_pos hk,hrest];simp only[if_true,anV,if_false,ano,anm];unfold Ve;rw[OA ev (ug Ou) ml t];dsimp only;rw[Es,AU]
 ·have hU:EH k=true:=by simp[EH];omega
  have hC:EJ k=false:=by simp[EJ];omega
  have hE:EI k=false:=by simp[EI];omega
  rw[hU]at hrest;rw[hC]at AU hrest;rw[hE]at me0 hrest;simp only[anV,false_or]at me0 AU;obtain⟨un,rfl,hun⟩:=gW mu;rw[if_neg o_,if_pos hk,hrest];simp only[if_true,anV,if_false,am2];unfold ahx;rw[l7,oK hun];dsimp only;rw[am9 me0,AU]
 ·have hU:EH k=true:=by simp[EH];omega
  have hC:EJ k=false:=by simp[EJ];omega
  have hE:EI k=true:=by simp[EI];omega
  rw[hU]at hrest;rw[hC]at AU hrest;rw[hE]at hrest;simp only[anV,false_or]at AU;obtain⟨un,rfl,hun⟩:=gW mu;rw[if_neg o_,if_neg o_,if_pos hk,hrest];simp only[if_true,anV,if_false,am2,anm];rw[l7,oK hun];dsimp only;rw[aoc];unfold Ve;rw[OA ev (ug Ou) ml t];dsimp only;rw[AU]
 ·have hU:EH k=false:=by simp[EH];omega
  have hC:EJ k=true:=by simp[EJ];omega
  have hE:EI k=false:=by simp[EI];omega
  rw[hU]at Es hrest;rw[hC]at hrest;rw[hE]at me0 hrest;simp only[anV,false_or]at Es me0;obtain⟨c0,rfl,hc0⟩:=gW m0;obtain⟨c1,rfl,hc1⟩:=gW m1;obtain⟨c2,rfl,hc2⟩:=gW m2;obtain⟨c3,rfl,hc3⟩:=gW m3;obtain⟨c4,rfl,hc4⟩:=gW m4;rw[if_neg o_,if_neg o_,if_neg o_,if_pos hk,hrest];simp only[if_true,anV,if_false,ano,Ee,l7,anm];rw[Zi hc0 hc1 hc2 hc3 hc4];dsimp only;rw[am9 me0,Es]
def pG(b:List UInt8):Option (Rc×Nat):=
 if(bW b).2.2≠0\/b.length-(bW b).2.1<(bW b).1 then none
 else if mO ((b.drop (bW b).2.1).take (bW b).1)then
  if(jP (inner ((b.drop (bW b).2.1).take (bW b).1))).2=true/\iE (jP (inner ((b.drop (bW b).2.1).take (bW b).1))).1=true/\ay (jP (inner ((b.drop (bW b).2.1).take (bW b).1))).1=b.take ((bW b).2.1+(bW b).1)
  then some ((jP (inner ((b.drop (bW b).2.1).take (bW b).1))).1,(bW b).2.1+(bW b).1)else none
 else none
theorem Ce(x:Rc)(h:iE x=true):2<=(eY x).length/\(eY x).length<=200000:=by
 have m:=wY h;have hv (n:Nat):(aK n).length<=10:=dF 9 _;have hvi (n:Int):(gU n).length<=10:=hv _;have he:=zi (ug m.ev);have hl:=m.l;have e1:(eY x).length=2+(if EH x.k then(gU x.u).length else 0)+(if EJ x.k then(Ee x.c).length else 0)+(if EI x.k then(aK x.ev.length).length+(gJ x.ev).length else 0):=by
  unfold eY;simp only[am0];congr 1
  ·congr 1
   ·congr 1
    split<;>rfl
   ·split<;>rfl
  ·split
   ·rw[am0]
   ·rfl
 have hc:(Ee x.c).length<=50:=by
  have:=hvi x.c.c0;have:=hvi x.c.c1;have:=hvi x.c.c2;have:=hvi x.c.c3;have:=hvi x.c.c4;unfold Ee;simp only[am0];omega
 have:=hvi x.u;have:=hv x.ev.length;rw[e1];refine⟨o_, ?_⟩;split<;>split<;>split<;>omega
theorem iJ(x:Rc)(h:iE x=true):(ay x).length<=200100:=by
 have:=Ce x h;have hv:(aK (dP (eY x)).length).length<=10:=dF 9 _;unfold ay;rw[am0,dW];rw[dW]at hv;omega
theorem XD(x:Rc)(h:iE x=true)(t:List UInt8):pG (ay x++t)=some (x,(ay x).length):=by
 have hb:=Ce x h;have hs:=dW (eY x);have hr:=abf x h [];rw[am2]at hr;have e:ay x++t=aK (dP (eY x)).length++(dP (eY x)++t):=by unfold ay;rw[anm]
 have hv:=vI (dP (eY x)).length (dP (eY x)++t) o_;have hl:(ay x).length=(aK (dP (eY x)).length).length+(dP (eY x)).length:=by unfold ay;rw[am0]
 unfold pG;rw[e,hv,aoc,apd,if_neg s_,if_pos (QV _),Cb,hr,if_pos ⟨rfl,h,by rw[<-e,<-hl,apd]⟩,hl]
def ji(l:List Rc):List UInt8:=l.flatMap ay
structure xB(b:List UInt8)(l:List Rc)(t:List UInt8):Prop where
 may:∀r∈l,iE r=true
 eq:b=ji l++t
 no:pG t=none
theorem OC(l:List Rc)(x:Rc):ji (l++[x])=ji l++ay x:=by simp[ji]
theorem abg(h:xB b l t)(j:Nat)(hj:j<l.length):pG (b.drop (ji (l.take j)).length)=some (l.getD j default,(ay (l.getD j default)).length):=by
 have e:l=l.take j++l.getD j default::l.drop (j+1):=by
  rw[List.getD,amX hj];simp
 have e2:b=ji (l.take j)++(ay (l.getD j default)++(ji (l.drop (j+1))++t)):=by
  rw[h.eq];conv=>lhs;rw[e]
  simp[ji]
 rw[e2,aoc];refine XD _ (h.may _ ?_) _;rw[List.getD,amX hj];exact anH hj
theorem ae6(h:xB b l t):pG (b.drop (ji l).length)=none:=by
 rw[h.eq,aoc];exact h.no
theorem abh(hj:j<l.length):ji (l.take (j+1))=ji (l.take j)++ay (l.getD j default):=by
 have:l.take (j+1)=l.take j++[l.getD j default]:=by
  rw[List.getD,amX hj];simp
 rw[this,OC]
theorem dJ.aZ{xs ys:List AV}(h:Ch xs ys):dJ (.aZ xs) (.aZ ys):=λ _ _ ⟨us,e,ha⟩=>⟨us,e,h.all ha⟩
theorem uj(l:List UInt8)(h:lS l=some (m,k))(hF:bg F l)(hn:n=l.length):aF prog 233 [.sl 1 n true F] (.aZ [.v (.int .i64 (m:Int)),.sl 1 (l.drop k).length true (aO (l.drop k)),.v (.bool true)]) []:=by
 have hle:=xA h;obtain⟨⟨a,c,e⟩,hv⟩:∃p,bW l=p:=⟨_,rfl⟩;have hs:=iR l hF hn;unfold lS at h;rw[hv]at hs h;dsimp only at hs h;split at h
 ·rename_i h0;obtain⟨h0,h1⟩:=h0;simp only[ank,aot]at h;obtain⟨rfl,rfl⟩:=h;subst h0;refine K1.E 0x800fd func233 ?_;repeat' ((conv=>whnf);first|refine K1.u ?_|refine K1.P1 hs ?_|refine aT.fH ?_|refine K1.o (id:=4) (nN [0,1,2,3,4,5,6,7] []) ?_|fail)
  conv=>whnf
  exact bF.mk (dJ.aZ (.same (.vX (bg.drop hF _) (by simp[hn]) (.same .nil))))
 ·cases h
theorem um(l:List UInt8)(h:lS l=none)(hF:bg F l)(hn:n=l.length):aF prog 233 [.sl 1 n true F] (.aZ [.v (.int .i64 0),.v (.slice none 0 0),.v (.bool false)]) []:=by
 obtain⟨⟨a,c,e⟩,hv⟩:∃p,bW l=p:=⟨_,rfl⟩;have hs:=iR l hF hn;unfold lS at h;rw[hv]at hs h;dsimp only at hs h;split at h
 ·cases h
 ·rename_i h0;refine K1.E 0x800fd func233 ?_;repeat' ((conv=>whnf);first|refine K1.u ?_|refine K1.P1 hs ?_|refine aT.fH ?_|refine K1.y (λ _=>?_) (λ _=>?_)|fail)
  all_goals(conv=>whnf)
  all_goals first
   |exact bF.mk (bY)
   |fail
theorem ahy(b:List UInt8)(hl:b.length<=1000000000):aF prog 234 [.sl 1 b.length true (aO b)] (Mc (oL b)) []:=by
 cases hN:lS b with
 |none=>
  have hnum:=um b hN (bg.bytes b) rfl;rw[show oL b=none by unfold oL;rw[hN]];refine K1.E 0x101e003fd func234 ?_;repeat' ((conv=>whnf);first|refine K1.P1 hnum ?_|refine aT.fH ?_|fail)
  all_goals(conv=>whnf)
  all_goals exact bF.mk (bY)
 |some p=>
  obtain⟨c,k⟩:=p;have hnum:=uj b hN (bg.bytes b) rfl;have hle:=xA hN;have hdl:(b.drop k).length<=b.length:=by rw[anl];omega
  by_cases hc:4096<c
  ·rw[show oL b=none by unfold oL;rw[hN];dsimp only;rw[if_pos hc]];refine K1.E 0x101e003fd func234 ?_;repeat' ((conv=>whnf);first|refine K1.u ?_|refine K1.P1 hnum ?_|refine aT.fH ?_|fail)
   all_goals(conv=>whnf)
   all_goals exact bF.mk (bY)
  ·have hlf:oL b=(jf (b.drop k) c).map (·.1):=by unfold oL;rw[hN];dsimp only;rw[if_neg hc]
   generalize b.drop k=t at hnum hdl hlf;refine K1.E 0x101e003fd func234 ?_;repeat' ((conv=>whnf);first|refine K1.u ?_|refine K1.P1 hnum ?_|fail)
   conv=>whnf
   refine aI.mk {p:Nat×List Ev×List UInt8//jf t p.1=some p.2/\p.1<=c} (λ p=>match p with
    |⟨(0,_,r),_⟩=>⟨[(0,.sl 1 r.length true (aO r)),(6,.v (.slice none 0 0)),(22,.v (.int .i64 (c:Int))),(23,.v (.int .i64 0))],[],[],0⟩
    |⟨(i+1,l,r),_⟩=>⟨[(0,.sl 1 r.length true (aO r)),(6,.own 90),(22,.v (.int .i64 (c:Int))),(23,.v (.int .i64 ((i:Int)+1)))],[(90,.row 74 12 l.length true (dA l))],[],91⟩)
    (λ p=>c-p.1.1) ⟨(0,[],t),rfl,ane _⟩ _
    (dZ.mk' [] _ _ _ rfl gQ trivial rfl) ?_
   rintro⟨⟨_|i,l,r⟩,hp,hj⟩
   ·dsimp only at hp hj;obtain⟨hl0,hr0⟩:=pF hp;obtain rfl:l=[]:=am9 hl0;have hz:c=0->oL b=some []:=λ h=>by rw[hlf,h,hp];rfl
    rcases xg r with⟨e,m,ht,-,hm,-⟩|ht|ht
    ·dsimp only;repeat' ((conv=>whnf);first|refine K1.u ?_|refine K1.P1 (take_any r ht (bg.bytes r) rfl o_) ?_ rfl rfl|refine aT.fH ?_|refine K1.o (id:=10) (nN [0,1,4,5,6] ((2,some [1])::(3,some [1])::nN [7,8] [])) ?_|refine K1.y (λ _=>?_) (λ _=>?_)|fail)
     all_goals(conv=>whnf)
     ·refine⟨⟨(0+1,[]++[e],r.drop m),sK hp ht,o_⟩,_,dZ.mk' [(2,90)] _ _ _ rfl ⟨dJ.vX (bg.drop (bg.bytes r) m) s_,bY,bY,dJ.int rfl,trivial⟩ ⟨⟨_,rfl,dK.row rfl (λ i hi=>?_)⟩,trivial⟩ rfl,by show c-(0+1)<c-0;omega⟩;have hi:i<1:=hi;obtain rfl:i=0:=o_
      rfl
     ·rw[hz o_];exact bF.mk (dJ.ahw _)
    all_goals
     have hno:0<c->oL b=none:=λ h=>by rw[hlf,xw (xq hp (by rw[ht];decide)) c o_];rfl
     dsimp only;repeat' ((conv=>whnf);first|refine K1.u ?_|refine K1.P1 (take_any r ht (bg.bytes r) rfl o_) ?_ rfl rfl|refine aT.fH ?_|refine K1.y (λ _=>?_) (λ _=>?_)|fail)
     all_goals(conv=>whnf)
     ·rw[hno o_];exact bF.mk (bY)
     ·rw[hz o_];exact bF.mk (dJ.ahw _)
   ·dsimp only at hp hj;obtain⟨hl0,hr0⟩:=pF hp;have hz:c=i+1->oL b=some l:=λ h=>by rw[hlf,h,hp];rfl
    rcases xg r with⟨e,m,ht,-,hm,-⟩|ht|ht
    ·dsimp only;repeat' ((conv=>whnf);first|refine K1.u ?_|refine K1.P1 (take_any r ht (bg.bytes r) rfl o_) ?_ rfl rfl|refine aT.fH ?_|refine K1.o (id:=10) (nN [0,1,4,5,6] ((2,some [1])::(3,some [1])::nN [7,8] [])) ?_|refine K1.y (λ _=>?_) (λ _=>?_)|fail)
     all_goals(conv=>whnf)
     ·refine⟨⟨(i+1+1,l++[e],r.drop m),sK hp ht,o_⟩,_,dZ.mk' [(93,90)] _ _ _ rfl ⟨dJ.vX (bg.drop (bg.bytes r) m) s_,bY,bY,dJ.int rfl,trivial⟩ ⟨⟨_,rfl,dK.row s_ (λ m hm=>eF (c:=Ev.cs) rfl rfl m hm)⟩,trivial⟩ rfl,by show c-(i+1+1)<c-(i+1);omega⟩
     ·rw[hz o_];exact bF.mk (bY)
    all_goals
     have hno:i+1<c->oL b=none:=λ h=>by rw[hlf,xw (xq hp (by rw[ht];decide)) c o_];rfl
     dsimp only;repeat' ((conv=>whnf);first|refine K1.u ?_|refine K1.P1 (take_any r ht (bg.bytes r) rfl o_) ?_ rfl rfl|refine aT.fH ?_|refine K1.y (λ _=>?_) (λ _=>?_)|fail)
     all_goals(conv=>whnf)
     ·rw[hno o_];exact bF.mk (bY)
     ·rw[hz o_];exact bF.mk (bY)
theorem KD(b:List UInt8)(hF:bg F b)(hn:n=b.length)(hl:b.length<=1000000000):aF prog 234 [.sl 1 n true F] (Mc (oL b)) []:=
 (ahy b hl).args (Ch.vX hF hn .nil)
theorem Vf(k:Int)(h:k=1\/k=2\/k=5):aF prog 184 [.v (.int .i64 k)] (.aZ [.v (.bool false),.v (.bool true),.v (.bool false),.v (.bool true)]) []:=by
 have:=fO k;rcases h with rfl|rfl|rfl<;>exact this
theorem Vg(k:Int)(h:k=3):aF prog 184 [.v (.int .i64 k)] (.aZ [.v (.bool true),.v (.bool false),.v (.bool false),.v (.bool true)]) []:=by
 have:=fO k;rcases h with rfl;exact this
theorem FQ(k:Int)(h:k=4):aF prog 184 [.v (.int .i64 k)] (.aZ [.v (.bool true),.v (.bool true),.v (.bool false),.v (.bool true)]) []:=by
 have:=fO k;rcases h with rfl;exact this
theorem vS(k:Int)(h:k=6):aF prog 184 [.v (.int .i64 k)] (.aZ [.v (.bool false),.v (.bool false),.v (.bool true),.v (.bool true)]) []:=by
 have:=fO k;rcases h with rfl;exact this
theorem zn(hu:2<=b.length):jP b=rdR ((b.getD 0 default).toNat:Int) ((b.getD 1 default).toNat:Int) (b.drop 2):=by
 unfold jP;rw[if_neg o_]
theorem ae7(b:List UInt8)(hl:b.length<=1000000000)(h:b.length<2):
  aF prog 212 [.sl 1 b.length true (aO b)] (.aZ [(jP b).1.av,.v (.bool (jP b).2)]) []:=by
 rw[show jP b=(Zh,false) by unfold jP;rw[if_pos h]];dsimp only[Rc.av,Rc.cs];refine K1.E 0x200042020000027fd func212 ?_;repeat' ((conv=>whnf);first|refine K1.u ?_|refine aT.fH ?_|fail)
 all_goals(conv=>whnf)
 all_goals exact bF.mk (dJ.fZ _)
theorem XE(b:List UInt8)(hl:b.length<=1000000000)(hu:2<=b.length)(hk:¬ (((b.getD 0 default).toNat:Int)=1\/((b.getD 0 default).toNat:Int)=2\/((b.getD 0 default).toNat:Int)=5)/\ ¬ ((b.getD 0 default).toNat:Int)=3/\ ¬ ((b.getD 0 default).toNat:Int)=4/\ ¬ ((b.getD 0 default).toNat:Int)=6):
  aF prog 212 [.sl 1 b.length true (aO b)] (.aZ [(jP b).1.av,.v (.bool (jP b).2)]) []:=by
 rw[zn hu];unfold rdR;rw[if_neg hk.1,if_neg hk.2.1,if_neg hk.2.2.1,if_neg hk.2.2.2];have hf:=Gy ((b.getD 0 default).toNat:Int) o_;dsimp only[Rc.av,Rc.cs];refine K1.E 0x200042020000027fd func212 ?_;repeat' ((conv=>whnf);first|refine K1.u ?_|refine K1.P1 hf ?_|refine aT.fH ?_|refine K1.o (id:=3) (nN [0,1,2,3,4,5,6,7,8] [(9,some []),(10,some [7,6,3,2])]) ?_|fail)
 all_goals(conv=>whnf)
 all_goals exact bF.mk (dJ.fZ _)
theorem ahz(b:List UInt8)(hl:b.length<=1000000000)(hu:2<=b.length)(hk:((b.getD 0 default).toNat:Int)=1\/((b.getD 0 default).toNat:Int)=2\/((b.getD 0 default).toNat:Int)=5):
  aF prog 212 [.sl 1 b.length true (aO b)] (.aZ [(jP b).1.av,.v (.bool (jP b).2)]) []:=by
 rw[zn hu];unfold rdR;rw[if_pos hk];unfold Ve;have he:=KD (n:=b.length-2) (b.drop 2) (bg.drop (bg.bytes b) 2) s_ (by simp;omega);cases hE:oL (b.drop 2)with
 |none=>
  rw[hE]at he;dsimp only[Mc]at he;dsimp only[Rc.av,Rc.cs];refine K1.E 0x200042020000027fd func212 ?_;repeat' ((conv=>whnf);first|refine K1.u ?_|refine K1.P1 (Vf _ hk) ?_|refine K1.P1 he ?_|refine aT.fH ?_|refine K1.o (id:=3) (nN [0,1,2,3,4,5,6,7,8] [(9,some []),(10,some [7,6,3,2])]) ?_|fail)
  all_goals(conv=>whnf)
  all_goals exact bF.mk (dJ.fZ _)
 |some l=>
  rw[hE]at he;dsimp only[Mc]at he;dsimp only[Rc.av,Rc.cs];refine K1.E 0x200042020000027fd func212 ?_;repeat' ((conv=>whnf);first|refine K1.u ?_|refine K1.P1 (Vf _ hk) ?_|refine K1.P1 he ?_|refine aT.fH ?_|refine K1.o (id:=3) (nN [0,1,2,3,4,5,6,7,8] [(9,some []),(10,some [7,6,3,2])]) ?_|fail)
  all_goals(conv=>whnf)
  all_goals exact bF.mk (bY)
theorem ahA(b:List UInt8)(hl:b.length<=1000000000)(hu:2<=b.length)(hk:((b.getD 0 default).toNat:Int)=3):
  aF prog 212 [.sl 1 b.length true (aO b)] (.aZ [(jP b).1.av,.v (.bool (jP b).2)]) []:=by
 rw[zn hu];unfold rdR;rw[if_neg o_,if_pos hk];unfold ahx;cases hE:lS (b.drop 2)with
 |none=>
  have he:=um (n:=b.length-2) (b.drop 2) hE (bg.drop (bg.bytes b) 2) s_;dsimp only[Rc.av,Rc.cs];refine K1.E 0x200042020000027fd func212 ?_;repeat' ((conv=>whnf);first|refine K1.u ?_|refine K1.P1 (Vg _ hk) ?_|refine K1.P1 he ?_|refine aT.fH ?_|refine K1.o (id:=3) (nN [0,1,2,3,4,5,6,7,8] [(9,some []),(10,some [7,6,3,2])]) ?_|fail)
  all_goals(conv=>whnf)
  all_goals exact bF.mk (dJ.fZ _)
 |some p=>
  obtain⟨m,k⟩:=p;have he:=uj (n:=b.length-2) (b.drop 2) hE (bg.drop (bg.bytes b) 2) s_;dsimp only[Rc.av,Rc.cs];refine K1.E 0x200042020000027fd func212 ?_;repeat' ((conv=>whnf);first|refine K1.u ?_|refine K1.P1 (Vg _ hk) ?_|refine K1.P1 he ?_|refine aT.fH ?_|refine K1.o (id:=3) (nN [0,1,2,3,4,5,6,7,8] [(9,some []),(10,some [7,6,3,2])]) ?_|fail)
  all_goals(conv=>whnf)
  all_goals exact bF.mk (dJ.fZ _)
theorem ae8(b:List UInt8)(hl:b.length<=1000000000)(hu:2<=b.length)(hk:((b.getD 0 default).toNat:Int)=4):
  aF prog 212 [.sl 1 b.length true (aO b)] (.aZ [(jP b).1.av,.v (.bool (jP b).2)]) []:=by
 rw[zn hu];unfold rdR;rw[if_neg o_,if_neg o_,if_pos hk];cases hE:lS (b.drop 2)with
 |none=>
  have he:=um (n:=b.length-2) (b.drop 2) hE (bg.drop (bg.bytes b) 2) s_;dsimp only[Rc.av,Rc.cs];refine K1.E 0x200042020000027fd func212 ?_;repeat' ((conv=>whnf);first|refine K1.u ?_|refine K1.P1 (FQ _ hk) ?_|refine K1.P1 he ?_|refine aT.fH ?_|refine K1.o (id:=3) (nN [0,1,2,3,4,5,6,7,8] [(9,some []),(10,some [7,6,3,2])]) ?_|fail)
  all_goals(conv=>whnf)
  all_goals exact bF.mk (dJ.fZ _)
 |some p=>
  obtain⟨m,k⟩:=p;have he:=uj (n:=b.length-2) (b.drop 2) hE (bg.drop (bg.bytes b) 2) s_;dsimp only;have hdl:((b.drop 2).drop k).length<=b.length:=by rw[anl,anl];omega
  generalize(b.drop 2).drop k=t at he hdl;have QW:=KD t (bg.bytes t) rfl o_;unfold Ve;cases hL:oL t with
  |none=>
   rw[hL]at QW;dsimp only[Mc]at QW;dsimp only[Rc.av,Rc.cs];refine K1.E 0x200042020000027fd func212 ?_;repeat' ((conv=>whnf);first|refine K1.u ?_|refine K1.P1 (FQ _ hk) ?_|refine K1.P1 he ?_|refine K1.P1 QW ?_|refine aT.fH ?_|refine K1.o (id:=3) (nN [0,1,2,3,4,5,6,7,8] [(9,some []),(10,some [7,6,3,2])]) ?_|fail)
   all_goals(conv=>whnf)
   all_goals exact bF.mk (dJ.fZ _)
  |some l=>
   rw[hL]at QW;dsimp only[Mc]at QW;dsimp only[Rc.av,Rc.cs];refine K1.E 0x200042020000027fd func212 ?_;repeat' ((conv=>whnf);first|refine K1.u ?_|refine K1.P1 (FQ _ hk) ?_|refine K1.P1 he ?_|refine K1.P1 QW ?_|refine aT.fH ?_|refine K1.o (id:=3) (nN [0,1,2,3,4,5,6,7,8] [(9,some []),(10,some [7,6,3,2])]) ?_|fail)
   all_goals(conv=>whnf)
   all_goals exact bF.mk (bY)
theorem ahB(b:List UInt8)(hl:b.length<=1000000000)(hu:2<=b.length)(hk:((b.getD 0 default).toNat:Int)=6):
  aF prog 212 [.sl 1 b.length true (aO b)] (.aZ [(jP b).1.av,.v (.bool (jP b).2)]) []:=by
 rw[zn hu];unfold rdR;rw[if_neg o_,if_neg o_,if_neg o_,if_pos hk];cases g0:lS (b.drop 2)with
 |none=>
  have e0:=um (n:=b.length-2) (b.drop 2) g0 (bg.drop (bg.bytes b) 2) s_;have hr:CO (b.drop 2)=(⟨0,0,0,0,0⟩,false):=by unfold CO;simp only[g0]
  rw[hr];dsimp only[Rc.av,Rc.cs];refine K1.E 0x200042020000027fd func212 ?_;repeat' ((conv=>whnf);first|refine K1.u ?_|refine K1.P1 (vS _ hk) ?_|refine K1.P1 e0 ?_|refine aI.Au 10 6 rfl ?_|refine aT.fH ?_|refine K1.o (id:=3) (nN [0,1,2,3,4,5,6,7,8] [(9,some []),(10,some [7,6,3,2])]) ?_|refine K1.z ?_|fail)
  all_goals(conv=>whnf)
  all_goals exact bF.mk (dJ.fZ _)
 |some p0=>
  obtain⟨m0,k0⟩:=p0;have e0:=uj (n:=b.length-2) (b.drop 2) g0 (bg.drop (bg.bytes b) 2) s_;cases g1:lS ((b.drop 2).drop k0)with
  |none=>
   have e1:=um ((b.drop 2).drop k0) g1 (bg.bytes _) rfl;have hr:CO (b.drop 2)=(⟨m0,0,0,0,0⟩,false):=by unfold CO;simp only[g0,g1]
   rw[hr];dsimp only[Rc.av,Rc.cs];refine K1.E 0x200042020000027fd func212 ?_;repeat' ((conv=>whnf);first|refine K1.u ?_|refine K1.P1 (vS _ hk) ?_|refine K1.P1 e0 ?_|refine K1.P1 e1 ?_|refine aI.Au 10 6 rfl ?_|refine aT.fH ?_|refine K1.o (id:=3) (nN [0,1,2,3,4,5,6,7,8] [(9,some []),(10,some [7,6,3,2])]) ?_|refine K1.z ?_|fail)
   all_goals(conv=>whnf)
   all_goals exact bF.mk (dJ.fZ _)
  |some p1=>
   obtain⟨m1,k1⟩:=p1;have e1:=uj ((b.drop 2).drop k0) g1 (bg.bytes _) rfl;cases g2:lS (((b.drop 2).drop k0).drop k1)with
   |none=>
    have e2:=um (((b.drop 2).drop k0).drop k1) g2 (bg.bytes _) rfl;have hr:CO (b.drop 2)=(⟨m0,m1,0,0,0⟩,false):=by unfold CO;simp only[g0,g1,g2]
    rw[hr];dsimp only[Rc.av,Rc.cs];refine K1.E 0x200042020000027fd func212 ?_;repeat' ((conv=>whnf);first|refine K1.u ?_|refine K1.P1 (vS _ hk) ?_|refine K1.P1 e0 ?_|refine K1.P1 e1 ?_|refine K1.P1 e2 ?_|refine aI.Au 10 6 rfl ?_|refine aT.fH ?_|refine K1.o (id:=3) (nN [0,1,2,3,4,5,6,7,8] [(9,some []),(10,some [7,6,3,2])]) ?_|refine K1.z ?_|fail)
    all_goals(conv=>whnf)
    all_goals exact bF.mk (dJ.fZ _)
   |some p2=>
    obtain⟨m2,k2⟩:=p2;have e2:=uj (((b.drop 2).drop k0).drop k1) g2 (bg.bytes _) rfl;cases g3:lS ((((b.drop 2).drop k0).drop k1).drop k2)with
    |none=>
     have e3:=um ((((b.drop 2).drop k0).drop k1).drop k2) g3 (bg.bytes _) rfl;have hr:CO (b.drop 2)=(⟨m0,m1,m2,0,0⟩,false):=by unfold CO;simp only[g0,g1,g2,g3]
     rw[hr];dsimp only[Rc.av,Rc.cs];refine K1.E 0x200042020000027fd func212 ?_;repeat' ((conv=>whnf);first|refine K1.u ?_|refine K1.P1 (vS _ hk) ?_|refine K1.P1 e0 ?_|refine K1.P1 e1 ?_|refine K1.P1 e2 ?_|refine K1.P1 e3 ?_|refine aI.Au 10 6 rfl ?_|refine aT.fH ?_|refine K1.o (id:=3) (nN [0,1,2,3,4,5,6,7,8] [(9,some []),(10,some [7,6,3,2])]) ?_|refine K1.z ?_|fail)
     all_goals(conv=>whnf)
     all_goals exact bF.mk (dJ.fZ _)
    |some p3=>
     obtain⟨m3,k3⟩:=p3;have e3:=uj ((((b.drop 2).drop k0).drop k1).drop k2) g3 (bg.bytes _) rfl;cases g4:lS (((((b.drop 2).drop k0).drop k1).drop k2).drop k3)with
     |none=>
      have e4:=um (((((b.drop 2).drop k0).drop k1).drop k2).drop k3) g4 (bg.bytes _) rfl;have hr:CO (b.drop 2)=(⟨m0,m1,m2,m3,0⟩,false):=by unfold CO;simp only[g0,g1,g2,g3,g4]
      rw[hr];dsimp only[Rc.av,Rc.cs];refine K1.E 0x200042020000027fd func212 ?_;repeat' ((conv=>whnf);first|refine K1.u ?_|refine K1.P1 (vS _ hk) ?_|refine K1.P1 e0 ?_|refine K1.P1 e1 ?_|refine K1.P1 e2 ?_|refine K1.P1 e3 ?_|refine K1.P1 e4 ?_|refine aI.Au 10 6 rfl ?_|refine aT.fH ?_|refine K1.o (id:=3) (nN [0,1,2,3,4,5,6,7,8] [(9,some []),(10,some [7,6,3,2])]) ?_|refine K1.z ?_|fail)
      all_goals(conv=>whnf)
      all_goals exact bF.mk (dJ.fZ _)
     |some p4=>
      obtain⟨m4,k4⟩:=p4;have e4:=uj (((((b.drop 2).drop k0).drop k1).drop k2).drop k3) g4 (bg.bytes _) rfl;have hr:CO (b.drop 2)=(⟨m0,m1,m2,m3,m4⟩,true):=by unfold CO;simp only[g0,g1,g2,g3,g4]
      rw[hr];dsimp only[Rc.av,Rc.cs];refine K1.E 0x200042020000027fd func212 ?_;repeat' ((conv=>whnf);first|refine K1.u ?_|refine K1.P1 (vS _ hk) ?_|refine K1.P1 e0 ?_|refine K1.P1 e1 ?_|refine K1.P1 e2 ?_|refine K1.P1 e3 ?_|refine K1.P1 e4 ?_|refine aI.Au 10 6 rfl ?_|refine aT.fH ?_|refine K1.o (id:=3) (nN [0,1,2,3,4,5,6,7,8] [(9,some []),(10,some [7,6,3,2])]) ?_|refine K1.z ?_|fail)
      all_goals(conv=>whnf)
      all_goals exact bF.mk (dJ.fZ _)
theorem XF(b:List UInt8)(hF:bg F b)(hn:n=b.length)(hl:b.length<=1000000000):aF prog 212 [.sl 1 n true F] (.aZ [(jP b).1.av,.v (.bool (jP b).2)]) []:=by
 refine aF.args ?_ (Ch.vX hF hn .nil);by_cases h:b.length<2
 ·exact ae7 b hl h
 ·have hu:2<=b.length:=o_
  by_cases h1:((b.getD 0 default).toNat:Int)=1\/((b.getD 0 default).toNat:Int)=2\/((b.getD 0 default).toNat:Int)=5
  ·exact ahz b hl hu h1
  ·by_cases h2:((b.getD 0 default).toNat:Int)=3
   ·exact ahA b hl hu h2
   ·by_cases h3:((b.getD 0 default).toNat:Int)=4
    ·exact ae8 b hl hu h3
    ·by_cases h4:((b.getD 0 default).toNat:Int)=6
     ·exact ahB b hl hu h4
     ·exact XE b hl hu ⟨h1,h2,h3,h4⟩
theorem vT:pG []=none:=by unfold pG;rw[if_pos (.inl d_)]
theorem abj(x:Rc)(h:iE x=true)(i:Nat)(hi:i<(ay x).length):pG ((ay x).take i)=none:=by
 have hb:=Ce x h;have hs:=dW (eY x);have hl:(ay x).length=(aK (dP (eY x)).length).length+(dP (eY x)).length:=by unfold ay;rw[am0]
 unfold pG;by_cases hc:i<(aK (dP (eY x)).length).length
 ·have e:(ay x).take i=(aK (dP (eY x)).length).take i:=by unfold ay;rw[aoD o_]
  rw[e,aas hc,if_pos (.inl d_)]
 ·have e:(ay x).take i=aK (dP (eY x)).length++(dP (eY x)).take (i-(aK (dP (eY x)).length).length):=by
   unfold ay;rw[apw,anf o_]
  rw[e,vI _ _ o_];rw[if_pos (.inr (by rw[am0,am5];dsimp only;omega))]
theorem Aj(h:xB bs l [])(hx:iE x=true):xB (bs++ay x) (l++[x]) []:=by
 have e:=h.eq;rw[am2]at e;refine⟨λ r hr=>?_, ?_,vT⟩
 ·rcases am6.1 hr with hr|hr
  ·exact h.may r hr
  ·rw[amZ.1 hr];exact hx
 ·rw[e,am2,OC]
theorem OD(h:xB bs l [])(hx:iE x=true){i:Nat}(hi:i<(ay x).length):xB (bs++(ay x).take i) l ((ay x).take i):=by
 have e:=h.eq;rw[am2]at e;exact⟨h.may,by rw[e],abj x hx i hi⟩
end Go.Proofs.YtkimgljckickcaaGreat
