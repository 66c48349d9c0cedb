/-
  Contracts of the walk:AmUse,Bs0,Txt,Var,VTake,TkPlain,FitA,BkA.
-/
import Derived.Test.YtkimgljckickcaaGreatRa5
import Derived.Test.YtkimgljckickcaaGreatRa7
import Derived.Test.YtkimgljckickcaaGreatRa1
import Derived.Test.YtkimgljckickcaaGreatRa2
import Derived.WalkSpells
import Derived.WalkLawsBesides
import Derived.Test.YtkimgljckickcaaGreatChecked
import Derived.Handy
import Derived.Laws.BitsAllLaws
set_option maxHeartbeats 16000000
set_option maxRecDepth 100000
set_option linter.unusedVariables false
set_option linter.unusedSimpArgs false
namespace Go.Proofs.YtkimgljckickcaaGreat
open Go.RowKit
open Go.Proofs.Tryz
variable{st:AS}{r x:AV}{sc:Bool}{s:ByteArray}{hi lo:Int}{K:Int->Prop}{bs l:List UInt8}{acc i j n:Nat}{f:Nat->List AV}{P:Program}{p:Prop}{α:Type}{e:TypeId}
theorem aT.int{st:AS}{x:AV}{k:IntKind}{n m:Int}(hx:Wn st.heap x= .v (.int k n))(h:n=m):aT st x (.v (.int k m)) []:= .plain _ (by rw[hx,h];exact dJ.refl _)
theorem aT.bool{st:AS}{x:AV}{b c:Bool}(hx:Wn st.heap x= .v (.bool b))(h:b=c):aT st x (.v (.bool c)) []:= .plain _ (by rw[hx,h];exact dJ.refl _)
theorem aT.same(hx:Wn st.heap x=r):aT st x r []:= .plain _ (by rw[hx];exact dJ.refl _)
def ai9:AV->Option Nat
 | .own i=>some i
 |_=>none
def ai':List AV->Option Nat
 |[]=>none
 |x::l=>match ai9 x with|some i=>some i|none=>ai' l
def akD:AV->Option Nat
 | .own i=>some i
 | .agg cs=>ai' cs
 | .aZ vs=>ai' vs
 |_=>none
theorem aT.uX(d:Nat){id:Nat}{s:Nat}{o':AO}(_hid:akD x=some id)(hf:aG id st.heap=some (.row e s n sc f))(ho:dK (.row e s n sc f) o')(hr:dJ (akp st.heap id d x) r):aT st x r [(d,o')]:=
 .own id d r e s n sc f o' hf ho hr
def addN(k i:Nat)(σ:List (Nat×Nat)):List (Nat×Nat):=bif ZQ σ i then σ else(k,i)::σ
def ado:List AV->List AV->List (Nat×Nat)->List (Nat×Nat)
 | .own k::xs,.own i::ys,σ=>ado xs ys (addN k i σ)
 |_::xs,_::ys,σ=>ado xs ys σ
 |_,_,σ=>σ
def YI(st:AS):List (Nat×AV)->List (Nat×Nat)->List (Nat×Nat)
 |[],σ=>σ
 |(t,.own i)::l,σ=>YI st l (match sQ st.sl t with| .own k=>addN k i σ|_=>σ)
 |(t,.box i _)::l,σ=>YI st l (match sQ st.sl t with| .box k _=>addN k i σ|_=>σ)
 |_::l,σ=>YI st l σ
def air(i:Nat):List (Nat×Nat)->Nat
 |[]=>i
 |(k,j)::r=>bif Nat.beq i j then k else air i r
def adp(st:AS):List (Nat×AO)->List (Nat×Nat)->List (Nat×Nat)
 |[],σ=>σ
 |(i,.box _ ys)::l,σ=>adp st l (match aG (air i σ) st.heap with|some (.box _ xs)=>ado xs ys σ|_=>σ)
 |_::l,σ=>adp st l σ
def AP(st:AS)(l:List (Nat×AV))(h:List (Nat×AO)):List (Nat×Nat):=adp st h (YI st l [])
theorem dZ.mk'{st:AS}(σ:List (Nat×Nat))(l:List (Nat×AV))(h:List (Nat×AO))(b:Nat)(nd:nodupB (σ.map (·.2))=true)(ht:LeT (st.ren σ) l)(hh:LeH (st.ren σ) h)(hn:nodupB (h.map (·.1))=true):dZ σ st ⟨l,h,(st.ren σ).back,b⟩:=
 ⟨nd,let k:=Iw.mk' l h ht hh hn;⟨k.tm,k.hp,k.nd,k.bk⟩⟩
theorem dZ.auto(l:List (Nat×AV))(h:List (Nat×AO))(b:Nat)(nd:nodupB ((AP st l h).map (·.2))=true)(ht:LeT (st.ren (AP st l h)) l)(hh:LeH (st.ren (AP st l h)) h)(hn:nodupB (h.map (·.1))=true):dZ (AP st l h) st ⟨l,h,(st.ren (AP st l h)).back,b⟩:=
 dZ.mk' _ l h b nd ht hh hn
theorem aT.hd(h:hd2 (Wn st.heap x) (λ y=>dJ y r)):aT st x r []:= .plain _ (by rw[Pz]at h;exact h)
structure bF(x y:AV):Prop where
 h:dJ x y
theorem aT.fH(h:hd2 (Wn st.heap x) (λ y=>bF y r)):aT st x r []:= .plain _ (by rw[Pz]at h;exact h.h)
theorem aT.same'{y:AV}(hx:Wn st.heap x=y)(h:y=r):aT st x r []:= .plain _ (by rw[hx,h];exact dJ.refl _)
theorem dJ.int{k:IntKind}{n m:Int}(h:n=m):dJ (.v (.int k n)) (.v (.int k m)):=by rw[h];exact dJ.refl _
theorem dJ.str{x y:ByteArray}(h:x=y):dJ (.v (.string x)) (.v (.string y)):=by rw[h];exact dJ.refl _
theorem dJ.of{y:AV}(h:x=y):dJ x y:=by rw[h];exact dJ.refl _
theorem dJ.sl{s n n':Nat}{sc:Bool}{f f':Nat->List AV}(hn:n=n')(hf:∀i,i<n->f i=f' i):dJ (.sl s n sc f) (.sl s n' sc f'):=by
 subst hn;intro X u h;cases C2.wC h with
 |sl _ _ _ _ A c us hs0 hnc hcc hl hfl hsc hu' hr=>
  rw[jD hf]at hsc hu';exact .sl s n sc f' A c us hs0 hnc hcc hl (λ i hi=>by rw[<-hf i hi];exact hfl i hi) hsc hu' hr
theorem dK.row{e:TypeId}{s n n':Nat}{sc:Bool}{f f':Nat->List AV}(hn:n=n')(hf:∀i,i<n->f i=f' i):dK (.row e s n sc f) (.row e s n' sc f'):=by
 subst hn;rintro X id ⟨us,hown,hs,hfl,hsc,ha⟩;rw[jD hf]at hsc ha;exact⟨us,hown,hs,λ i hi=>by rw[<-hf i hi];exact hfl i hi,hsc,ha⟩
theorem Qa.auto{hin:List (Nat×AO)}{hout:List (Nat×AO)}(nd:nodupB ((AP st [] hout).map (·.2))=true)(fx:Jd hout (st.ren (AP st [] hout)).back 0 hin=true)(hp:LeH (st.ren (AP st [] hout)) hout)
 (hn:nodupB (hout.map (·.1))=true)(hc:fF hout hout=true)(hr:dJ (ac5 (st.ren (AP st [] hout)).heap hout (ER (AP st [] hout) x)) r):∃σ,Qa hin σ st x r hout:=⟨_,nd,fx,hp,hn,hc,hr⟩
theorem Wr.b64{b:UInt8}(h:K (b.toNat:Int)):Wr (b.toNat:Int) K .i64:=by have:=an3 b;exact .i64 o_ o_ h
theorem Wr.alN{b:UInt8}(h:K (b.toNat:Int)):Wr (b.toNat:Int) K .u64:=by have:=an3 b;exact .u64 o_ o_ h
theorem Wr.bu32{b:UInt8}(h:K (b.toNat:Int)):Wr (b.toNat:Int) K .u32:=by have:=an3 b;exact .u32 o_ o_ h
theorem Wr.bu8{b:UInt8}(h:K (b.toNat:Int)):Wr (b.toNat:Int) K .u8:=by have:=an3 b;exact .u8 o_ o_ h
theorem dK.box1{t:TypeId}{k:IntKind}{x y:Int}(h:x=y):dK (.box t [.v (.int k x)]) (.box t [.v (.int k y)]):=by rw[h];exact dK.refl _
def qh{α:Type}[Inhabited α](c:α->List AV)(l:List α):Nat->List AV:=λ i=>c (l.getD i default)
theorem els_app[Inhabited α]{c:α->List AV}{l l':List α}(hn:n=l.length):∀i,lV n (qh c l) (qh c l') i=qh c (l++l') i:=by
 intro i;subst hn;unfold lV qh;cases hb:Nat.ble l.length i with
 |true=>
  have:=am7 hb;simp only[cond_true];congr 1;rw[List.getD,List.getD,anI this]
 |false=>
  have:i<l.length:=Nat.lt_of_not_le λ h=>by rw[an0 h]at hb;cases hb
  simp only[cond_false];congr 1;rw[List.getD,List.getD,anq this]
theorem eF[Inhabited α]{c:α->List AV}{l:List α}{x:α}{g:Nat->List AV}(hn:n=l.length)(hg:g 0=c x):∀i,i<n+1->lV n (qh c l) g i=qh c (l++[x]) i:=by
 intro i hi;rw[<-els_app hn];unfold lV;cases hb:Nat.ble n i with
 |true=>
  have:=am7 hb;have e:i-n=0:=o_
  simp only[cond_true,e,hg];rfl
 |false=>rfl
def bC(b:UInt8):List AV:=[.v (.int .u8 (b.toNat:Int))]
abbrev aO(bs:List UInt8):Nat->List AV:=qh bC bs
def byteOf'(n:Int):UInt8:=UInt8.ofNat n.toNat
theorem yO{n:Int}(h0:0<=n)(h1:n<=255):((byteOf' n).toNat:Int)=n:=by
 unfold byteOf';rw[aoE,aoP o_];omega
def bg(F:Nat->List AV)(l:List UInt8):Prop:= ∀i,i<l.length->F i=aO l i
theorem bg.bytes(l:List UInt8):bg (aO l) l:=λ _ _=>rfl
theorem bg.str(s:ByteArray):bg (λ i=>[.v (.int .u8 ((s.data.toList.getD i 0).toNat:Int))]) s.data.toList:=λ _ _=>rfl
theorem bg.nil(F:Nat->List AV):bg F []:=λ i h=>absurd h s_
theorem bg.app{F G:Nat->List AV}{l':List UInt8}(h:bg F l)(h':bg G l')(hn:n=l.length):bg (lV n F G) (l++l'):=by
 intro i hi;rw[am0]at hi;show _=qh bC (l++l') i;rw[<-els_app hn];unfold lV;cases hb:Nat.ble n i with
 |true=>
  have:=am7 hb;exact h' (i-n) o_
 |false=>
  have:i<n:=Nat.lt_of_not_le λ h=>by rw[an0 h]at hb;cases hb
  exact h i o_
theorem bg.one{x:Int}(h0:0<=x)(h1:x<=255):bg (chunk 1 [.v (.int .u8 x)]) [byteOf' x]:=by
 intro i hi;have e:i=0:=by simpa using hi
 subst e;show [AV.v (.int .u8 x)]=[AV.v (.int .u8 ((byteOf' x).toNat:Int))];rw[yO h0 h1]
theorem bg.two{x y:Int}(h0:0<=x)(h1:x<=255)(k0:0<=y)(k1:y<=255):bg (chunk 1 [.v (.int .u8 x),.v (.int .u8 y)]) [byteOf' x,byteOf' y]:=by
 intro i hi;have e:i=0\/i=1:=by simp at hi;omega
 rcases e with rfl|rfl
 ·show [AV.v (.int .u8 x)]=[AV.v (.int .u8 ((byteOf' x).toNat:Int))];rw[yO h0 h1]
 ·show [AV.v (.int .u8 y)]=[AV.v (.int .u8 ((byteOf' y).toNat:Int))];rw[yO k0 k1]
theorem zQ(s:ByteArray):s.data.toList.length=s.size:=rfl
theorem dK.vX{F:Nat->List AV}{t:List UInt8}(h:bg F l)(hn:n=l.length)(ht:l=t):dK (.row e 1 n sc F) (.row e 1 t.length sc (aO t)):=by
 subst ht;exact dK.row hn λ i hi=>h i o_
theorem bQ.into{L:Lay}{f:FuncId}{aW:List AV}{K:AV->AS->Prop}{d:Nat}(lv:Nat)(fn:Func)(c:Code)(hf:P.funcs[f]? =some fn)(hn:(fn.name== "runtime.NumGoroutine")=false)(hb:fn.body=some c)(hsz:Nat.ble aW.length fn.ntmps=true)
  (h:acD st aW (kV P L (zC P L n) fn.ntmps lv c (λ e st'=>match e with| .exit _=>False| .normal=>oN L st' fn.results.toList (λ x=>xY (st'.out) (K x))| .ret=>oN L st' fn.results.toList (λ x=>xY (st'.out) (K x))))):bQ P L (zC P L (n+1)) d f aW st K:=
 .inl lv fn c hf hn hb hsz h
theorem BG{f:FuncId}{xs:List Value}{r:Value}(he:Enters P f)(h:∀w,Calls P f xs.toArray w λ e w'=>e= .returned r/\Below w.heap.size w w'):aF P f (xs.map .v) (.v r) []:=by
 refine⟨he,λ w keep args _ hargs=> ?_⟩;have e:args=xs:=zS hargs;subst e;exact(h w).mono λ e w' ⟨h1,h2⟩=>⟨r,λ _=>undef,h1,h2,rfl,(λ p hp=>by cases hp),by simp[ah],(λ b hb=>by simp[ah]at hb)⟩
where
 zS {X:CX}:∀{xs us:List Value},aC (C1 X) (xs.map .v) us->us=xs
  |[],us,h=>by
   have:=h.1;simp at this;exact am9 this.symm
  |x::xs,[],h=>by have:=h.1;simp at this
  |x::xs,u::us,h=>by
   have h0:u=x:=h.2 0 _ _ rfl rfl;have:=zS (xs:=xs) (us:=us) ⟨by simpa using h.1,λ i a b ha hb=>h.2 (i+1) a b (by simpa using ha) (by simpa using hb)⟩;rw[h0,this]
theorem aF.thaw{P:Program}{f:FuncId}{aW:List AV}{r:AV}{d:Nat}{e:TypeId}{s n:Nat}{sc:Bool}{g:Nat->List AV}(hs:aF P f aW r [(d,.row e s n sc g)]):aF P f aW (CZ d (.sl s n sc g) r) []:=by
 refine⟨hs.1,λ w keep args hk ha=>(hs.2 w keep args hk ha).mono ?_⟩;rintro e0 w' ⟨u,ρ,h1,h2,h3,h4,h5,h6⟩;obtain⟨us,hown,hs0,hfl,hsc,hall⟩:=h4 _ (amZ.2 rfl);have hown:w'.ownsRow 0 e s (ρ d) n us:=hown;have hall:aC (PC w' (aH (base0 w keep) w' ρ [(d,.row e s n sc g)])) (flat n g) us:=hall;have hkk:∀b,aH (base0 w keep) w' ρ [(d,.row e s n sc g)] b->aH (base0 w keep) w' ρ [] b:=λ b h=>⟨h.1,h.2.1,λ h'=>by simp[ah]at h'⟩;have hrow:PC w' (aH (base0 w keep) w' ρ []) (.sl s n sc g) (ρ d):=by
  have ha':=hall.imp λ _ _=>PC.mono hkk (λ _ _=>rfl);rcases hown.2 with⟨hv,hz⟩|⟨b,cap,cur,hv,hB,hh,hnc,hcm,_⟩
  ·rw[hv];subst hz;exact .sl s 0 sc g none 0 us hs0 (ani _) (by simp[maxLen]) hown.1 hfl hsc ha'.2 (.inl rfl)
  ·rw[hv];refine .sl s n sc g _ cap us hs0 hnc hcm hown.1 hfl hsc ha'.2 (.inr ⟨b,0,rfl,⟨(anQ.1 hh).1,λ hlt=> ?_,λ h'=>by simp[ah]at h'⟩,λ j u hj=> ?_⟩)
   ·have:=h6 b (aN.2 ⟨_,amZ.2 rfl,by rw[hv];exact amW⟩);exact absurd (show b<w.heap.size from hlt) o_
   ·have:=hown.cells (g:=b) (by rw[hv];rfl) j u hj;rwa [anW]at this
 exact⟨u,ρ,h1,h2,C2.thaw (X:=aA (base0 w keep) w' ρ [(d,.row e s n sc g)]) (Y:=aA (base0 w keep) w' ρ []) hkk (λ _ _=>rfl) rfl (by show PC _ _ _ (dD (ρ d));rw[dY hown];exact hrow) h3,λ p hp=>(by cases hp),by simp[ah],λ b hb=>by simp[ah]at hb⟩
theorem aI.Au{body:(jd->AS->Prop)->AS->Prop}{Q:jd->AS->Prop}(t n:Nat)(_ht:st.tmps t= .v (.int .i64 0))(h:Hq body Q n st):aI body Q st:= .rounds n h
inductive Ch:List AV->List AV->Prop where
 |nil:Ch [] []
 |same {x:AV} {xs ys:List AV}:Ch xs ys->Ch (x::xs) (x::ys)
 |of {x y:AV} {xs ys:List AV} (h:∀(X:CX)(u:Value),C1 X x u->C1 X y u):Ch xs ys->Ch (x::xs) (y::ys)
theorem Ch.all{X:CX}:∀{xs ys:List AV}{us:List Value},Ch xs ys->aC (C1 X) xs us->aC (C1 X) ys us
 |_,_,_,.nil,h=>h
 |_,_,[],.same _,h=>by have:=h.1;simp at this
 |_,_,[],.of _ _,h=>by have:=h.1;simp at this
 |_,_,u::us,.same k,h=>aC.cons (h.2 0 _ _ rfl rfl) (Ch.all k ⟨by simpa using h.1,λ i a b ha hb=>h.2 (i+1) a b (by simpa using ha) (by simpa using hb)⟩)
 |_,_,u::us,.of h0 k,h=>aC.cons (h0 X u (h.2 0 _ _ rfl rfl)) (Ch.all k ⟨by simpa using h.1,λ i a b ha hb=>h.2 (i+1) a b (by simpa using ha) (by simpa using hb)⟩)
theorem aF.args{P:Program}{f:FuncId}{aW bvs:List AV}{r:AV}{h:List (Nat×AO)}(hs:aF P f bvs r h)(hc:Ch aW bvs):aF P f aW r h:=
 ⟨hs.1,λ w keep args hk ha=>hs.2 w keep args hk (Ch.all hc ha)⟩
def alO(ops:List Oper):List (List Nat):=ops.foldl (λ t o=>t++[(o.after.toList.foldl (λ s e=>bif Region.binds .any e then e.on::(t.getD e.on []++s)else s) []).eraseDups]) []
def uOf(ops:List Oper)(sc:List (Nat×Option (List Nat))):List (Nat×List Nat):=
 let A:=Bz sc;let t:=alO ops;let need:=A.flatMap (·.2)
 (List.range ops.length).filterMap λ k=>match A.find? (λ x=>Nat.beq x.1 k)with
   |some x=>some x
   |none=>match(t.getD k []).filter (λ x=>need.any (Nat.beq x))with
    |[]=>none
    |l=>some (k,l)
def nN:List Nat->List (Nat×Option (List Nat))->List (Nat×Option (List Nat))
 |[],r=>r
 |k::l,r=>(k,none)::nN l r
theorem bY:dJ x x:=dJ.refl x
theorem dB{h:List (Nat×AO)}{o:AO}(k:aG i h=some o):∃q,aG i h=some q/\dK q o:=⟨o,k,dK.refl o⟩
theorem nM(h:p:=by first|((repeat' first|exact trivial|refine⟨dB rfl, ?_⟩);done)|fail):p:=h
theorem gQ(h:p:=by first|((repeat' first|exact trivial|refine⟨bY, ?_⟩|refine⟨dJ.int rfl, ?_⟩);done)|fail):p:=h
theorem iF{p:α->Prop}(s:α)(h:p s:=by exact⟨rfl,rfl,nM,rfl,rfl,bY⟩):∃x,p x:=⟨s,h⟩
namespace K1
variable{A B p:Prop}
theorem a(h:A)(k:p:=by first|assumption|omega):nR p A B:= .yes k h
theorem b(h:B)(k:¬p:=by first|assumption|omega):nR p A B:= .no k h
theorem d{x:AV}(h:A)(k:ai7 x=true:=by rfl):Still x x A:= .mk rfl k h
theorem q{W:Walk}{N id:Nat}{ops:Array Oper}{K:AS->Prop}{st:AS}(h:xZ prog lay W N ops.toList K ops.toList st)(h1:Region.lexB .any ops=true:=by kernel_rfl)(h2:ops.toList.all (λ o=>mM o.op)=true:=by rfl):fU prog lay W N id ops K st:= .quiet iy h1 h2 h
class S(A:Prop)(s B:outParam Prop):Prop where
 go:s->B->A
class T(A:Prop)(s B:outParam Prop):Prop where
 go:s->B->A
class F(A:Prop)(p r X Y:outParam Prop):Prop where
 go:(p->X)->(r->Y)->A
section
variable{s C:Prop}{n m:Int}{N:Nat}{K:Int->Prop}{b:UInt8}{x:Bool}{Q:Nat->Prop}
instance:S (Wr n K .i64) (-9223372036854775808<=n/\n<=9223372036854775807) (K n):=⟨λ h q=> .i64 h.1 h.2 q⟩
instance:S (Wr n K .u64) (0<=n/\n<=18446744073709551615) (K n):=⟨λ h q=> .u64 h.1 h.2 q⟩
instance:S (Wr n K .u32) (0<=n/\n<=4294967295) (K n):=⟨λ h q=> .u32 h.1 h.2 q⟩
instance:S (Wr n K .u8) (0<=n/\n<=255) (K n):=⟨λ h q=> .u8 h.1 h.2 q⟩
instance:S (Wr (b.toNat:Int) K .i64) True (K (b.toNat:Int)):=⟨λ _ q=> .b64 q⟩
instance:S (Wr (b.toNat:Int) K .u64) True (K (b.toNat:Int)):=⟨λ _ q=> .alN q⟩
instance:S (Wr (b.toNat:Int) K .u32) True (K (b.toNat:Int)):=⟨λ _ q=> .bu32 q⟩
instance:S (Wr (b.toNat:Int) K .u8) True (K (b.toNat:Int)):=⟨λ _ q=> .bu8 q⟩
instance:S (RV n N A) (0<=n/\n<(N:Int)) A:=⟨λ h q=> .mk (V5 h.1 h.2) q⟩
instance:S (ZH p A) p A:=⟨.mk⟩
instance:T (mJ n N Q) (0<=n/\n<(N:Int)) (Q n.toNat):=⟨λ h q=> .mk (V5 h.1 h.2) q⟩
instance:T (ASl A B p) True A:=⟨λ _ q=> .EO q⟩
instance:T (Dv n m K) (0<=n/\0<m) (K (n/m)):=⟨λ h q=> .pos h.1 h.2 q⟩
instance:T (Rm n m K) (0<=n/\0<m) (K (n%m)):=⟨λ h q=> .pos h.1 h.2 q⟩
instance:F (nR p A B) p (¬p) A B:=⟨.mk⟩
instance:F (aiM N A B) (N=0) True A B:=⟨λ f g=> .mk f (g trivial)⟩
instance(priority:=low):F (yx.match_1 (λ _=>Prop) x (λ _=>A) (λ _=>B)) (x=true) (x=false) A B:=⟨uS.mk⟩
instance[Decidable p]:F (yx.match_1 (λ _=>Prop) (decide p) (λ _=>A) (λ _=>B)) p (¬p) A B:=⟨uS.dec⟩
theorem w[c:S A s B](q:B)(k:s:=by first|exact True.intro|omega|assumption|exact⟨by first|omega|(dsimp only;omega),by first|omega|(dsimp only;omega)⟩):A:=c.go k q
theorem z[c:T A s B](q:B)(k:s:=by first|exact True.intro|omega):A:=c.go k q
theorem y{r X Y:Prop}[c:F A p r X Y](f:p->X)(g:r->Y):A:=c.go f g
theorem bt(h:A)(k:x=true:=by first|assumption|exact decide_eq_true (by first|assumption|omega)):uS x A B:= .yes k h
theorem bf(h:B)(k:x=false:=by first|assumption|exact decide_eq_false (by first|assumption|omega)):uS x A B:= .no k h
theorem u(q:B)(h:B->A:=by first|exact λ q=>K1.w q|exact λ q=>K1.a q|exact λ q=>K1.b q|exact λ q=>K1.d q|exact λ q=>K1.q q|exact λ q=>K1.bt q|exact λ q=>K1.bf q):A:=h q
end
section
variable{n N id:Nat}{ops:Array Oper}{K:AS->Prop}{st:AS}
theorem o(sc:List (Nat×Option (List Nat)))(h:wK prog lay (zC prog lay n) N ops.toList false K sc [] st)(k:(Region.noSelect ops&&Nat.beq sc.length ops.size&&EZ ops.toList sc (uOf ops.toList sc))=true:=by kernel_rfl):fU prog lay (zC prog lay n) N id ops K st:= .sched bU (dS bU _) sc _ iy k h
theorem ok(sc:List (Nat×Option (List Nat)))(h:wK prog lay (zC prog lay n) N ops.toList true K sc [] st)(k:(Region.noSelect ops&&Nat.beq sc.length ops.size&&EZ ops.toList sc (uOf ops.toList sc))=true:=by kernel_rfl):fU prog lay (zC prog lay n) N id ops K st:= .keep bU (dS bU _) sc _ iy k h
end
section
variable{P:Program}{L:Lay}{W:Walk}{d:Nat}{f:FuncId}{aW bs:List AV}{st:AS}{K:AV->AS->Prop}{r:AV}
theorem DI{h:List (Nat×AO)}:∀{xs ys:List AV},xs.map (Px h)=ys->GY h xs ys
 |[],_,e=>by subst e;exact .nil
 |_::_,_,e=>by subst e;exact .cons (.eq _) (DI rfl)
theorem YJ{st:AS}:∀{l:List (Nat×AO)},l.map (λ p=>aG p.1 st.heap)=l.map (λ p=>some p.2)->ZM st l
 |[],_=>trivial
 |_::_,e=>by injection e with e1 e2;exact⟨e1,YJ e2⟩
theorem P1(hs:aF P f bs r [])(h:K r (bif rU r then st else wz st aW))(e:aW.map (Px st.heap)=bs:=by exact rfl)(hr:ok2 none r=true:=by exact rfl):bQ P L W d f aW st K:= .plain _ _ hs (DI e) hr h
theorem P2(hs:aF P f bs r [])(h:K r (bif rU r then st else wz st aW))(e:aW.map (Px st.heap)=bs:=by exact rfl)(hr:ok2 none r=true:=by exact rfl):Bh P d f aW st K:= .plain _ _ hs (DI e) hr h
variable{e:TypeId}{s n:Nat}{sc:Bool}{g:Nat->List AV}
theorem F1(hs:aF P f bs r [(d,.row e s n sc g)])(h:K r ((bif rU r&&sc then st else wz st aW).obj d d (.row e s n sc g)))(eq:aW.map (Px st.heap)=bs:=by exact rfl)(hr:ok2 (some d) r=true:=by exact rfl):bQ P L W d f aW st K:= .fresh _ _ _ _ _ _ _ hs (DI eq) hr h
theorem F2(hs:aF P f bs r [(d,.row e s n sc g)])(h:K r ((bif rU r&&sc then st else wz st aW).obj d d (.row e s n sc g)))(eq:aW.map (Px st.heap)=bs:=by exact rfl)(hr:ok2 (some d) r=true:=by exact rfl):Bh P d f aW st K:= .fresh _ _ _ _ _ _ _ hs (DI eq) hr h
theorem C(k:Nat)(τ:List (Nat×Nat)){hin hout:List (Nat×AO)}(hs:aj P f hin bs r hout)(ha:bs.map (Sl ((k,d)::τ))=aW)(h:K (ER ((k,d)::τ) r) (st.RG d (iO ((k,d)::τ) hin) (iO ((k,d)::τ) hout)))
 (hh:(iO ((k,d)::τ) hin).map (λ p=>aG p.1 st.heap)=(iO ((k,d)::τ) hin).map (λ p=>some p.2):=by exact rfl)
 (hb:(uz (((k,d)::τ).map (·.2))&&x9 ((k,d)::τ) hin&&x9 ((k,d)::τ) hout&&bs.all (key1 ((k,d)::τ))&&key2 ((k,d)::τ) r)=true:=by exact rfl)
 (hb2:(uz ((iO ((k,d)::τ) hin).map (·.1))&&(bs.map (Sl ((k,d)::τ))).all RZ&&fF (iO ((k,d)::τ) hout) (iO ((k,d)::τ) hout)&&acv (iO ((k,d)::τ) hout) (ER ((k,d)::τ) r)&&wu d (iO ((k,d)::τ) hin) (iO ((k,d)::τ) hout))=true:=by exact rfl):bQ P L W d f aW st K:= .Qb k τ hs ha (YJ hh) hb hb2 h
theorem I{c:Code}{fn:Func}(lv:Nat)(hf:P.funcs[f]? =some fn)
 (h:acD st aW (kV P L (zC P L n) fn.ntmps lv c (λ e st'=>match e with| .exit _=>False| .normal=>oN L st' fn.results.toList (λ x=>xY (st'.out) (K x))| .ret=>oN L st' fn.results.toList (λ x=>xY (st'.out) (K x)))))
 (hn:(fn.name== "runtime.NumGoroutine")=false:=by exact rfl)(hb:fn.body=some c:=by exact rfl)(hsz:Nat.ble aW.length fn.ntmps=true:=by exact rfl):bQ P L (zC P L (n+1)) d f aW st K:= .inl lv fn c hf hn hb hsz h
end
section
variable{f:FuncId}{fn:Func}{c:Code}{aW:List AV}{r:AV}{hh hin hout:List (Nat×AO)}(lv:Nat)(hf:prog.funcs[f]? =some fn)
include hf
theorem E(h:zC prog lay 9 fn.ntmps lv c (Sm lay fn r hh) (start aW))(hn:(fn.name== "runtime.NumGoroutine")=false:=by exact rfl)(hb:fn.body=some c:=by exact rfl)(hsz:Nat.ble aW.length fn.ntmps=true:=by exact rfl):aF prog f aW r hh:=ac3 bU lv hf hn hb hsz h
theorem M(base:Nat)(h:zC prog lay 9 fn.ntmps lv c (Tj lay fn hin r hout) (Jc aW hin base))(hn:(fn.name== "runtime.NumGoroutine")=false:=by exact rfl)(hb:fn.body=some c:=by exact rfl)(hsz:Nat.ble aW.length fn.ntmps=true:=by exact rfl):aj prog f hin aW r hout:=ac7 bU lv base hf hn hb hsz h
theorem MI(base:Nat){S:AS}(hI:xO (Jc aW hin base) S)(h:zC prog lay 9 fn.ntmps lv c (Tj lay fn hin r hout) S)(hn:(fn.name== "runtime.NumGoroutine")=false:=by exact rfl)(hb:fn.body=some c:=by exact rfl)(hsz:Nat.ble aW.length fn.ntmps=true:=by exact rfl):aj prog f hin aW r hout:=Nc bU lv base hf hn hb hsz hI h
end
end K1
def aS.cs(c:aS):List AV:=[.v (.int .i64 c.c0),.v (.int .i64 c.c1),.v (.int .i64 c.c2),.v (.int .i64 c.c3),.v (.int .i64 c.c4)]
def aS.av(c:aS):AV:= .agg c.cs
def Ev.cs(e:Ev):List AV:=[.v (.int .i64 e.r),.v (.int .i64 e.n),.v (.int .i64 e.c.c0),.v (.int .i64 e.c.c1),.v (.int .i64 e.c.c2),.v (.int .i64 e.c.c3),.v (.int .i64 e.c.c4),.v (.int .i64 e.h),.v (.int .i64 e.k),.v (.string e.key),.v (.int .i64 e.l),.v (.string e.v)]
def Ev.av(e:Ev):AV:= .agg e.cs
def Ed.av(e:Ed):AV:= .agg [.v (.int .i64 e.k),.v (.string e.key),.v (.int .i64 e.l),.v (.string e.v)]
def Ed.cs(e:Ed):List AV:=[.v (.int .i64 e.k),.v (.string e.key),.v (.int .i64 e.l),.v (.string e.v)]
instance:Inhabited Ev:=⟨⟨0,0,⟨0,0,0,0,0⟩,0,0,⟨#[]⟩,0,⟨#[]⟩⟩⟩
abbrev dA(l:List Ev):Nat->List AV:=qh Ev.cs l
def aV:aS:=⟨0,0,0,0,0⟩
def aS.at(c:aS):Nat->Int
 |0=>c.c0
 |1=>c.c1
 |2=>c.c2
 |3=>c.c3
 |_=>c.c4
theorem C1.iC{X:CX}{s:Nat}(hs:0<s){u:Value}(h:C1 X (.v (.slice none 0 0)) u):C1 X (.sl s 0 sc f) u:=by
 have h:u= .slice none 0 0:=h;subst h;exact(show C0 X (.sl s 0 sc f) (.slice none 0 0)from .sl s 0 sc f none 0 [] hs (ani _) (by simp[maxLen]) s_ (λ i hi=>absurd hi (anA i)) (λ _ x hx=>by simp[flat]at hx) (λ i x u hx=>by simp[flat]at hx) (.inl rfl))
theorem Rm.alP{a:Int}(h:K (a.tmod 5)):Rm a 5 K:= .raw d_ h
theorem DJ(s:ByteArray):CS s=true↔ ∀i(h:i<s.size),97<=(s[i]'h).toNat/\(s[i]'h).toNat<=122:=by
 unfold CS;rw[anh];constructor
 ·intro h i hi;have:=h s[i] (by
   show s.data[i]'hi∈s.data.toList;exact Array.mem_toList_iff.2 (Array.getElem_mem _))
  simpa using this
 ·intro h b hb;obtain⟨i,hi,rfl⟩:=Array.getElem_of_mem (Array.mem_toList_iff.1 hb);have h1:97<=(s.data[i]'hi).toNat/\(s.data[i]'hi).toNat<=122:=h i hi;simpa using h1
theorem agH(h1:1<=s.size)(h2:s.size<=8)(h:∀i(h:i<s.size),97<=(s[i]'h).toNat/\(s[i]'h).toNat<=122):keyE s=0:=by
 unfold keyE;rw[if_pos ⟨h1,h2,(DJ s).2 h⟩]
theorem Qk(hi:i<s.size)(h:¬ (97<=(s[i]'hi).toNat/\(s[i]'hi).toNat<=122)):keyE s=10:=by
 unfold keyE;rw[if_neg (λ hh=>h ((DJ s).1 hh.2.2 i hi))]
theorem Ns(h:¬ (1<=s.size/\s.size<=8)):keyE s=10:=by
 unfold keyE;rw[if_neg (λ hh=>h ⟨hh.1,hh.2.1⟩)]
theorem agI(s:ByteArray)(w:World):
  Calls prog 167 #[.string s] w λ e w'=>e= .returned (.int .i64 (keyE s))/\Below w.heap.size w w':=by
 by_cases h1:1<=s.size
 ·by_cases h2:s.size<=8
  ·go_enter func167,Tryz.ntmps167
   go_wp2
   go_loopw [] (λ w'=> ∃pos:Nat,w'=w.iter s pos/\ ∀i(h:i<s.size),i<pos->97<=(s[i]'h).toNat/\(s[i]'h).toNat<=122) (λ w'=>s.size-w'.iterPos w.heap.size)
   case atStart=>exact⟨0,rfl,λ i _ h=>o_⟩
   case round=>
    obtain⟨pos,rfl,hl⟩:=hrel;have HL:=aoL hl;clear hl;by_cases hp:pos<s.size
    ·by_cases ha:(s[pos]'hp).toNat<128
     ·have hnx:∀ty,(Instr.next (.pointer (some ⟨w.heap.size,0,none⟩)) true ty).run prog (w.iter s pos)=_:=λ ty=>run_next_ascii w s pos ty hp ha;by_cases h97:97<=(s[pos]'hp).toNat
      ·by_cases h122:(s[pos]'hp).toNat<=122
       ·go_wp2
        go_roundw
        case rel=>
         exact⟨pos+1,rfl,λ i h hi=>by
          by_cases e:i=pos
          ·subst e;exact⟨h97,h122⟩
          ·exact HL.out i h o_⟩
        case measure=>
         simp;omega
       ·go_wp2
        go_ret
        exact⟨zF (Qk hp (λ hh=>h122 hh.2)).symm,(aob _ _).alloc (ani _) _⟩
      ·go_wp2
       go_ret
       exact⟨zF (Qk hp (λ hh=>h97 hh.1)).symm,(aob _ _).alloc (ani _) _⟩
     ·have hnx:∀ty,(Instr.next (.pointer (some ⟨w.heap.size,0,none⟩)) true ty).run prog (w.iter s pos)=_:=λ ty=>run_next_any w s pos ty hp;have hd:=(decode_high s pos hp o_).1;go_wp2;go_ret;exact⟨zF (Qk hp o_).symm,(aob _ _).alloc (ani _) _⟩
    ·have hnx:∀ty,(Instr.next (.pointer (some ⟨w.heap.size,0,none⟩)) true ty).run prog (w.iter s pos)=_:=λ ty=>run_next_end w s pos ty hp;go_wp2;go_ret;exact⟨zF (agH h1 h2 (λ i h=>HL.out i h o_)).symm,(aob _ _).alloc (ani _) _⟩
  ·go_enter func167,Tryz.ntmps167
   go_wp2
   go_ret
   exact⟨zF (Ns o_).symm,aob _ _⟩
 ·go_enter func167,Tryz.ntmps167
  go_wp2
  go_ret
  exact⟨zF (Ns o_).symm,aob _ _⟩
theorem TL(s:ByteArray):aF prog 167 [.v (.string s)] (.v (.int .i64 (keyE s))) []:=
 BG (xs:=[.string s]) ⟨_,_,func167,rfl,rfl⟩ λ w=>agI s w
theorem WU(n:Int):aF prog 168 [.v (.int .i64 n)] (.v (.int .i64 (rQ n))) []:=by
 refine K1.E 0x105 func168 ?_;repeat' ((conv=>whnf);first|refine K1.y (λ _=>?_) (λ _=>?_)|fail)
 all_goals(refine aT.int rfl ?_;unfold rQ;(first|rw[if_pos o_]|rw[if_neg o_]))
theorem Jp(s:ByteArray):aF prog 169 [.v (.string s)] (.v (.int .i64 (lD s))) []:=by
 refine K1.E 0x405 func169 ?_;repeat' ((conv=>whnf);first|refine K1.y (λ _=>?_) (λ _=>?_)|fail)
 all_goals(refine aT.int rfl ?_;unfold lD;(first|rw[if_pos o_]|rw[if_neg o_]))
theorem aac(h:s=⟨#[]⟩):s.size=0:=by rw[h];rfl
theorem size_pos(h:¬s=⟨#[]⟩):s.size≠0:=λ e=>h (by
 cases s with
 |mk d=>
  have:d= #[]:=Array.eq_empty_of_size_eq_zero e;rw[this])
theorem Nu(e:Ed):aF prog 109 [e.av] (.v (.int .i64 (lF e))) []:=by
 refine K1.E 0x212402101f func109 ?_;repeat' ((conv=>whnf);first|refine K1.P1 (TL _) ?_|refine K1.P1 (WU _) ?_|refine K1.P1 (Jp _) ?_|refine K1.y (λ _=>?_) (λ _=>?_)|fail)
 all_goals(refine aT.int rfl ?_;unfold lF;try have h0:=size_pos ‹_›)
 all_goals grind [aac]
theorem yP(n a b:Int):aF prog 108 [.v (.int .i64 n),.v (.int .i64 a),.v (.int .i64 b)] (.v (.bool (decide (a<=n/\n<=b)))) []:=by
 refine K1.E 0x47 func108 ?_;repeat' ((conv=>whnf);first|refine K1.y (λ _=>?_) (λ _=>?_)|fail)
 all_goals(refine aT.bool rfl ?_;simp[*])
theorem Gn(k:Int):aF prog 193 [.v (.int .i64 k)] (.v (.bool (jy k))) []:=by
 refine K1.E 0x5 func193 ?_;repeat' ((conv=>whnf);first|refine K1.y (λ _=>?_) (λ _=>?_)|fail)
 all_goals(refine aT.bool rfl ?_;simp[jy, *])
theorem oh(e:Ev):aF prog 62 [e.av] (.v (.int .i64 (dU e))) []:=by
 obtain⟨r,n,⟨c0,c1,c2,c3,c4⟩,h,k,key,l,v⟩:=e;dsimp only[Ev.av,Ev.cs];by_cases hr:0<=r/\r<=4
 ·rcases(show r=0\/r=1\/r=2\/r=3\/r=4 by omega)with rfl|rfl|rfl|rfl|rfl;all_goals
   refine K1.E 0x4011d00017 func62 ?_;repeat' ((conv=>whnf);first|refine K1.u ?_|refine K1.P1 (yP _ _ _) ?_|refine K1.P1 (Nu ⟨k,key,l,v⟩) ?_|refine aI.rounds 6 ?_|refine K1.z ?_|refine K1.y (λ _=>?_) (λ _=>?_)|fail)
   all_goals refine aT.int rfl ?_
   all_goals first|(simp[dU,pR,iY,aS.get,Ev.ed, *];done)|(simp[dU,pR,iY,aS.get,Ev.ed, *];omega)
 ·refine K1.E 0x4011d00017 func62 ?_;repeat' ((conv=>whnf);first|refine K1.u ?_|refine K1.P1 (yP _ _ _) ?_|fail)
  all_goals refine aT.int rfl ?_
  all_goals(simp[dU,iY];omega)
def fV:List UInt8->Nat->Nat->Nat×Nat×Int
 |[],i,_=>if i=10 then(0,0,3)else(0,0,2)
 |c::r,i,acc=>
  if 128<=c.toNat then fV r (i+1) (acc+(c.toNat-128)*128^i)
  else if(0<i/\c.toNat=0)\/(i=9/\1<c.toNat)then(0,0,3)
  else(acc+c.toNat*128^i,i+1,0)
def bW(bs:List UInt8):Nat×Nat×Int:=fV (bs.take 10) 0 0
theorem Jq(j:Nat):2^(7*j)=128^j:=by rw[Nat.pow_mul]
theorem adq{v:Nat}(ha:acc<128^j)(hv:v*128^j<18446744073709551616)(hp:128^j<=9223372036854775808):
  bits .or .u64 (acc:Int) (IntKind.u64.wrap ((v:Int)*2^(7*j)))=((acc+v*128^j:Nat):Int):=by
 have h1:((v:Int)*2^(7*j))=((v*128^j:Nat):Int):=by
  rw[<-Jq];simp
 rw[h1,apx];have h2:((v*128^j:Nat):Int)%18446744073709551616=((v*128^j:Nat):Int):=o_
 rw[h2,u64_or_nat _ _ o_ hv,Nat.or_comm];congr 1;rw[nat_join (7*j) (v*128^j) acc (by rw[Jq];exact Nat.mul_mod_left _ _) (by rw[Jq];exact ha),Nat.add_comm]
theorem HY(h:j<=9):128^j<=9223372036854775808:=by
 have:=apa (n:=128) o_ h;have h2:128^9=9223372036854775808:=d_
 omega
theorem akE{q:Nat}(hj:j<=8)(ha:acc<128^j)(hq:q<256)(h128:128<=q):
  bits .or .u64 (acc:Int) (IntKind.u64.wrap (((q:Int)-128)*2^(7*j)))=((acc+(q-128)*128^j:Nat):Int)/\acc+(q-128)*128^j<128^(j+1):=by
 have hp:=HY (show j+1<=9 by omega);have hp':=HY (show j<=9 by omega);rw[apf]at hp⊢;have hm:(q-128)*128^j<=127*128^j:=an5 _ o_;have hc:(q:Int)-128=((q-128:Nat):Int):=o_
 rw[hc];exact⟨adq ha o_ hp',o_⟩
theorem aad{q:Nat}(hj:j<=9)(ha:acc<128^j)(hq:q<128)(h9:¬ (j=9/\1<q)):
  bits .or .u64 (acc:Int) (IntKind.u64.wrap ((q:Int)*2^(7*j)))=((acc+q*128^j:Nat):Int):=by
 have hp':=HY hj;by_cases h:j=9
 ·have hm:q*128^j<=1*128^j:=an5 _ o_;exact adq ha o_ hp'
 ·have hp:=HY (show j+1<=9 by omega);rw[apf]at hp;have hm:q*128^j<=127*128^j:=an5 _ o_;exact adq ha o_ hp'
theorem aae(A:Option Addr)(n c:Nat)(bs:List UInt8)(w:World)(h:Rd w w.heap.size 1 A n (bs.map bV))(hn:n=bs.length)(hc:n<=c):
  Calls prog 211 #[.slice A n c] w λ x w'=>x= .returned (.tuple #[.int .u64 (bW bs).1,.int .i64 (bW bs).2.1,.int .i64 (bW bs).2.2])/\w=w':=by
 generalize hR:bW bs=R;unfold bW at hR;by_cases h10:10<n
 ·have hrd:Rd w w.heap.size 1 A 10 ((bs.take 10).map bV):=by
   have:=h.first (k:=10) o_
   rwa [Nat.mul_one,<-List.map_take]at this
  have hll:(bs.take 10).length=10:=by rw[am5];omega
  generalize bs.take 10=L at hR hrd hll;go_enter func211,Tryz.ntmps211;go_wp2_with fail;have hlm:L.length<=10:=o_
  go_loop [2,14] (λ x i=> ∃(j acc:Nat) (z:Int),j<=10/\x= .int .u64 z/\i= .int .i64 j/\(j<=9->z=acc/\acc<128^j)/\fV (L.drop j) j acc=R) (λ _ i=>10-(intOf i).toNat)
  case atStart=>exact⟨0,0,0,o_,rfl,rfl,λ _=>⟨rfl,d_⟩,hR⟩
  case round=>
   obtain⟨j,acc,z,hj,rfl,rfl,hz,hr⟩:=hrel;have HZ:=aoL hz;have HRR:=aoL hr;clear hz hr;by_cases hjm:j<10
   ·obtain⟨b,o,hl,hA,hb,hcell⟩:=hrd.at1 hjm;subst hA;rw[List.getElem_map]at hcell;simp only[bV]at hcell;simp only[anu]at hl;have hdrop:L.drop j=L[j]::L.drop (j+1):=aok hl;have HD:=aoL hdrop;clear hdrop;generalize L[j]=q at hcell HD;have hq:=q.toNat_lt;have akF:IntKind.i64.wrap (7*(j:Int))=7*j:=IntWalk.i64_in _ o_;have e_0:(0:Int)<=7*(j:Int):=o_
    have alQ:7*(j:Int)<=64:=o_
    have alR:(j:Int)<10:=o_
    by_cases h128:128<=q.toNat
    ·have h128':(128:Int)<=(q.toNat:Int):=o_
     have akG:IntKind.u8.wrap ((q.toNat:Int)-128)=(q.toNat:Int)-128:=by
      rw[IntKind.wrap_u8];omega
     have adr:IntKind.u64.wrap ((q.toNat:Int)-128)=(q.toNat:Int)-128:=by
      rw[apx];omega
     go_wp2_with fail
     go_round
     case rel=>
      have hr:=HRR.out;rw[HD.out]at hr;unfold fV at hr;rw[if_pos h128]at hr;refine⟨j+1,_,_,o_,rfl,by go_num,λ h9=>?_,hr⟩;have h8:j<=8:=o_
      obtain⟨hz,ha⟩:=HZ.out o_;rw[hz];exact akE h8 ha hq h128
     case measure=>simp[intOf];omega
    ·have h128':(q.toNat:Int)<128:=o_
     have adr:IntKind.u64.wrap (q.toNat:Int)=(q.toNat:Int):=by
      rw[apx];omega
     have alS:IntKind.i64.wrap ((j:Int)+1)=j+1:=IntWalk.i64_in _ o_;have hr:=HRR.out;rw[HD.out]at hr;unfold fV at hr;rw[if_neg h128]at hr;have WV:=aoL h128;clear h128;by_cases h0:j=0
     ·have hj0:¬ (0:Int)<(j:Int):=o_
      have h9':((j:Int)==9)=false:=by rw[beq_eq_false_iff_ne];omega
      rw[if_neg o_]at hr;have H0:=aoL h0;clear h0;go_wp2_with fail;go_ret3;have h0:=H0.out;have hv:=aad (acc:=acc) o_ (HZ.out o_).2 (by have:=WV.out;omega:q.toNat<128) o_;rw[<-hr,(HZ.out o_).1,hv];simp
     ·have hj0:(0:Int)<(j:Int):=o_
      by_cases hq0:q.toNat=0
      ·rw[if_pos (Or.inl ⟨o_,hq0⟩)]at hr;have ads:(q.toNat:Int)=0:=o_
       rw[ads]at hcell;go_wp2_with fail;go_ret3;rw[<-hr];simp
      ·have ads:((q.toNat:Int)==0)=false:=by rw[beq_eq_false_iff_ne];omega
       by_cases h9:j=9
       ·have h9':((j:Int)==9)=true:=by rw[beq_iff_eq];omega
        have H9:=aoL h9;by_cases hq1:1<q.toNat
        ·have hq1':(1:Int)<(q.toNat:Int):=o_
         rw[if_pos (Or.inr ⟨h9,hq1⟩)]at hr;clear h9;go_wp2_with fail;go_ret3;rw[<-hr];simp
        ·have hq1':¬ (1:Int)<(q.toNat:Int):=o_
         rw[if_neg o_]at hr;clear h9;go_wp2_with fail;go_ret3;have h9:=H9.out;have hv:=aad (acc:=acc) o_ (HZ.out o_).2 (by have:=WV.out;omega:q.toNat<128) o_;rw[<-hr,(HZ.out o_).1,hv];simp
       ·have h9':((j:Int)==9)=false:=by rw[beq_eq_false_iff_ne];omega
        rw[if_neg o_]at hr;go_wp2_with fail;go_ret3;have hv:=aad (acc:=acc) o_ (HZ.out o_).2 (by have:=WV.out;omega:q.toNat<128) o_;rw[<-hr,(HZ.out o_).1,hv];simp
   ·have hjn:j=10:=o_
    subst hjn;have hr:=HRR.out;rw[List.drop_eq_nil_of_le o_]at hr;unfold fV at hr;rw[if_pos rfl]at hr;go_wp2_with fail;go_ret3;rw[<-hr];simp
 ·have hrd:Rd w w.heap.size 1 A n ((bs.take 10).map bV):=by rwa [anf o_]
  have hll:(bs.take 10).length=n:=by rw[am5];omega
  generalize bs.take 10=L at hR hrd hll;go_enter func211,Tryz.ntmps211;go_wp2_with fail;have hlm:L.length<=10:=o_
  go_loop [2,14] (λ x i=> ∃(j acc:Nat) (z:Int),j<=n/\x= .int .u64 z/\i= .int .i64 j/\(j<=9->z=acc/\acc<128^j)/\fV (L.drop j) j acc=R) (λ _ i=>n-(intOf i).toNat)
  case atStart=>exact⟨0,0,0,o_,rfl,rfl,λ _=>⟨rfl,d_⟩,hR⟩
  case round=>
   obtain⟨j,acc,z,hj,rfl,rfl,hz,hr⟩:=hrel;have HZ:=aoL hz;have HRR:=aoL hr;clear hz hr;by_cases hjm:j<n
   ·obtain⟨b,o,hl,hA,hb,hcell⟩:=hrd.at1 hjm;subst hA;rw[List.getElem_map]at hcell;simp only[bV]at hcell;simp only[anu]at hl;have hdrop:L.drop j=L[j]::L.drop (j+1):=aok hl;have HD:=aoL hdrop;clear hdrop;generalize L[j]=q at hcell HD;have hq:=q.toNat_lt;have akF:IntKind.i64.wrap (7*(j:Int))=7*j:=IntWalk.i64_in _ o_;have e_0:(0:Int)<=7*(j:Int):=o_
    have alQ:7*(j:Int)<=64:=o_
    have alR:(j:Int)<(n:Int):=o_
    by_cases h128:128<=q.toNat
    ·have h128':(128:Int)<=(q.toNat:Int):=o_
     have akG:IntKind.u8.wrap ((q.toNat:Int)-128)=(q.toNat:Int)-128:=by
      rw[IntKind.wrap_u8];omega
     have adr:IntKind.u64.wrap ((q.toNat:Int)-128)=(q.toNat:Int)-128:=by
      rw[apx];omega
     go_wp2_with fail
     go_round
     case rel=>
      have hr:=HRR.out;rw[HD.out]at hr;unfold fV at hr;rw[if_pos h128]at hr;refine⟨j+1,_,_,o_,rfl,by go_num,λ h9=>?_,hr⟩;have h8:j<=8:=o_
      obtain⟨hz,ha⟩:=HZ.out o_;rw[hz];exact akE h8 ha hq h128
     case measure=>simp[intOf];omega
    ·have h128':(q.toNat:Int)<128:=o_
     have adr:IntKind.u64.wrap (q.toNat:Int)=(q.toNat:Int):=by
      rw[apx];omega
     have alS:IntKind.i64.wrap ((j:Int)+1)=j+1:=IntWalk.i64_in _ o_;have hr:=HRR.out;rw[HD.out]at hr;unfold fV at hr;rw[if_neg h128]at hr;have WV:=aoL h128;clear h128;by_cases h0:j=0
     ·have hj0:¬ (0:Int)<(j:Int):=o_
      have h9':((j:Int)==9)=false:=by rw[beq_eq_false_iff_ne];omega
      rw[if_neg o_]at hr;have H0:=aoL h0;clear h0;go_wp2_with fail;go_ret3;have h0:=H0.out;have hv:=aad (acc:=acc) o_ (HZ.out o_).2 (by have:=WV.out;omega:q.toNat<128) o_;rw[<-hr,(HZ.out o_).1,hv];simp
     ·have hj0:(0:Int)<(j:Int):=o_
      by_cases hq0:q.toNat=0
      ·rw[if_pos (Or.inl ⟨o_,hq0⟩)]at hr;have ads:(q.toNat:Int)=0:=o_
       rw[ads]at hcell;go_wp2_with fail;go_ret3;rw[<-hr];simp
      ·have ads:((q.toNat:Int)==0)=false:=by rw[beq_eq_false_iff_ne];omega
       by_cases h9:j=9
       ·have h9':((j:Int)==9)=true:=by rw[beq_iff_eq];omega
        have H9:=aoL h9;by_cases hq1:1<q.toNat
        ·have hq1':(1:Int)<(q.toNat:Int):=o_
         rw[if_pos (Or.inr ⟨h9,hq1⟩)]at hr;clear h9;go_wp2_with fail;go_ret3;rw[<-hr];simp
        ·have hq1':¬ (1:Int)<(q.toNat:Int):=o_
         rw[if_neg o_]at hr;clear h9;go_wp2_with fail;go_ret3;have h9:=H9.out;have hv:=aad (acc:=acc) o_ (HZ.out o_).2 (by have:=WV.out;omega:q.toNat<128) o_;rw[<-hr,(HZ.out o_).1,hv];simp
       ·have h9':((j:Int)==9)=false:=by rw[beq_eq_false_iff_ne];omega
        rw[if_neg o_]at hr;go_wp2_with fail;go_ret3;have hv:=aad (acc:=acc) o_ (HZ.out o_).2 (by have:=WV.out;omega:q.toNat<128) o_;rw[<-hr,(HZ.out o_).1,hv];simp
   ·have hjn:j=n:=o_
    subst hjn;have hr:=HRR.out;rw[List.drop_eq_nil_of_le o_]at hr;unfold fV at hr;by_cases h9:j=10
    ·have h9':((j:Int)==10)=true:=by rw[beq_iff_eq];omega
     rw[if_pos h9]at hr;go_wp2_with fail;go_ret3;rw[<-hr];simp
    ·have h9':((j:Int)==10)=false:=by rw[beq_eq_false_iff_ne];omega
     rw[if_neg h9]at hr;go_wp2_with fail;go_ret3;rw[<-hr];simp
theorem Nv:∀(l:List UInt8)(i acc:Nat),(fV l i acc).2.1<=i+l.length
 |[],i,acc=>by unfold fV;split<;>simp
 |c::r,i,acc=>by
  unfold fV;split
  ·have:=Nv r (i+1) (acc+(c.toNat-128)*128^i);simp only[anb];omega
  ·split<;>simp
theorem yQ(l:List UInt8):(bW l).2.1<=l.length:=by
 have:=Nv (l.take 10) 0 0;rw[am5]at this;unfold bW;omega
abbrev Sq:=Nat×Int
def gZ(bs:List UInt8)(lo hi:Int)(s:Sq):Int×Sq:=
 if s.2≠0 then(0,s)
 else if bs.length<=s.1 then(0,(s.1,2))
 else if lo<=((bs.getD s.1 0).toNat:Int)/\((bs.getD s.1 0).toNat:Int)<=hi then(((bs.getD s.1 0).toNat:Int),(s.1+1,0))
 else(0,(s.1+1,3))
def jo(bs:List UInt8)(lo hi:Int)(s:Sq):Int×Sq:=
 if s.2≠0 then(0,s)
 else if(bW (bs.drop s.1)).2.2≠0 then(0,(s.1,(bW (bs.drop s.1)).2.2))
 else if lo<=((bW (bs.drop s.1)).1:Int)/\((bW (bs.drop s.1)).1:Int)<=hi then(((bW (bs.drop s.1)).1:Int),(s.1+(bW (bs.drop s.1)).2.1,0))
 else(0,(s.1,3))
def LQ(bs:List UInt8)(u n:Nat):ByteArray:=⟨((bs.drop u).take n).toArray⟩
def je(bs:List UInt8)(size:Int)(may:ByteArray->Int)(s:Sq):ByteArray×Sq:=
 if s.2≠0 then(⟨#[]⟩,s)
 else if((bs.length:Int)-s.1<size)then(⟨#[]⟩,(s.1,2))
 else(LQ bs s.1 size.toNat,(s.1+size.toNat,if may (LQ bs s.1 size.toNat)=0 then 0 else 3))
def Nw(bs:List UInt8)(r:Int)(j:Nat)(s:Sq):Int×Sq:=if(j:Int)=r then(0,s)else jo bs 0 1048576 s
def aS.put(c:aS)(r v:Int):aS:=
 if r=0 then{c with c0:=v}else if r=1 then{c with c1:=v}else if r=2 then{c with c2:=v}else if r=3 then{c with c3:=v}else{c with c4:=v}
def aS.aja(c:aS):Nat->Int->aS
 |0,v=>{c with c0:=v}
 |1,v=>{c with c1:=v}
 |2,v=>{c with c2:=v}
 |3,v=>{c with c3:=v}
 |_,v=>{c with c4:=v}
def Jr(bs:List UInt8)(r:Int)(s:Sq):Nat->aS×Sq
 |0=>(⟨0,0,0,0,0⟩,s)
 |j+1=>((Jr bs r s j).1.aja j (Nw bs r j (Jr bs r s j).2).1,(Nw bs r j (Jr bs r s j).2).2)
def Js(bs:List UInt8)(r:Int)(s:Sq):aS×Sq:=Jr bs r s 5
def nD(bs:List UInt8)(s:Sq):Ev×Sq:=
 let k:=gZ bs 1 5 s;let r:=gZ bs 0 4 k.2;let n:=jo bs 1 1048576 r.2;let c:=Js bs r.1 n.2;let h:=jo bs 1 16777216 c.2;let ks:=gZ bs 1 8 h.2;let key:=je bs ks.1 keyE ks.2;if jy k.1 then
  let l:=gZ bs 0 1 key.2;let vs:=gZ bs 1 12 l.2;let v:=je bs vs.1 lD vs.2;(⟨r.1,n.1,c.1.put r.1 (n.1-1),h.1,k.1,key.1,l.1,v.1⟩,v.2)
 else(⟨r.1,n.1,c.1.put r.1 (n.1-1),h.1,k.1,key.1,0,⟨#[]⟩⟩,key.2)
theorem agJ{s:Sq}(h:s.1<=bs.length):(gZ bs lo hi s).2.1<=bs.length:=by
 unfold gZ;split;exact h;split;exact h;split<;>dsimp only<;>omega
theorem Jt{s:Sq}:(gZ bs lo hi s).1=0\/(lo<=(gZ bs lo hi s).1/\(gZ bs lo hi s).1<=hi):=by
 unfold gZ;split
 ·exact Or.inl rfl
 ·split
  ·exact Or.inl rfl
  ·split
   ·rename_i h;exact Or.inr h
   ·exact Or.inl rfl
def uH(l:List UInt8):Nat:=(l.map λ b=>b.toNat).sum
theorem H6:∀l:List UInt8,uH l<=255*l.length
 |[]=>by simp[uH]
 |b::l=>by
  have:=H6 l;have:=an3 b;simp only[uH,anS,List.sum_cons,anb]at*;omega
theorem Nz(h:j<l.length):uH (l.take (j+1))=uH (l.take j)+(l.getD j 0).toNat:=by
 rw[aoa,amX h,List.getD,amX h,uH,an2,List.sum_append];simp[uH]
theorem TM(h:l.length<=j):uH (l.take j)=uH l:=by rw[anf h]
def ks3(n:Nat):ByteArray:=if(n:Int)%3=0 then⟨#[97,110,110]⟩else if(n:Int)%3=1 then⟨#[98,111,98]⟩else⟨#[99,121]⟩
def vs4(n:Nat):ByteArray:=if(n:Int)%4=0 then⟨#[49]⟩else if(n:Int)%4=1 then⟨#[116,119,111]⟩else if(n:Int)%4=2 then⟨#[0,255]⟩else⟨#[116,119,101,108,118,101,32,98,121,116,101,115]⟩
def BH(x m:Int):Int:=IntKind.i64.wrap ((BitVec.ofInt IntKind.i64.bits x&&&BitVec.ofInt IntKind.i64.bits m).toNat:Int)
def m5(x:Int):Int:=(x.tmod 5+5)%5
def AQ(e:Ed):Ed:=
 if 2<1+m5 e.k then⟨1+m5 e.k,ks3 (uH e.key.data.toList),BH e.l 1,vs4 (uH e.v.data.toList)⟩else⟨1+m5 e.k,ks3 (uH e.key.data.toList),0,⟨#[]⟩⟩
theorem ais(k:Int): -5<k.tmod 5/\k.tmod 5<5:=by
 have h1:=ao5 k (show(0:Int)<5 by decide);have h2:=Int.lt_tmod_of_pos k (show(0:Int)<5 by decide);omega
theorem DK(x:Int)(m:Nat)(hm:m<=4294967296):0<=BH x (m:Int)/\BH x (m:Int)<=m:=by
 have h:(BitVec.ofInt 64 x&&&BitVec.ofInt 64 (m:Int)).toNat<=m:=by
  rw[BitVec.toNat_and,BitVec.ofInt_natCast,BitVec.toNat_ofNat];exact anK Nat.and_le_right (Nat.mod_le _ _)
 show 0<=IntKind.i64.wrap ((BitVec.ofInt 64 x&&&BitVec.ofInt 64 (m:Int)).toNat:Int)/\IntKind.i64.wrap ((BitVec.ofInt 64 x&&&BitVec.ofInt 64 (m:Int)).toNat:Int)<=m;rw[IntKind.wrap_i64];omega
theorem agK(x:Int):0<=BH x 16777215/\BH x 16777215<=16777215:=DK x 16777215 o_
theorem ajb(x:Int):0<=BH x 1/\BH x 1<=1:=DK x 1 o_
theorem Rm.m3{a:Int}(h:0<=a)(h0:a%3=0->K 0)(h1:a%3=1->K 1)(h2:a%3=2->K 2):Rm a 3 K:=by
 refine .pos h o_ ?_;rcases(show a%3=0\/a%3=1\/a%3=2 by omega)with e|e|e
 ·rw[e];exact h0 e
 ·rw[e];exact h1 e
 ·rw[e];exact h2 e
theorem Rm.m4{a:Int}(h:0<=a)(h0:a%4=0->K 0)(h1:a%4=1->K 1)(h2:a%4=2->K 2)(h3:a%4=3->K 3):Rm a 4 K:=by
 refine .pos h o_ ?_;rcases(show a%4=0\/a%4=1\/a%4=2\/a%4=3 by omega)with e|e|e|e
 ·rw[e];exact h0 e
 ·rw[e];exact h1 e
 ·rw[e];exact h2 e
 ·rw[e];exact h3 e
def ait:List AV:=[.v (.string ⟨#[97,110,110]⟩),.v (.string ⟨#[98,111,98]⟩),.v (.string ⟨#[99,121]⟩)]
def aiu:List AV:=[.v (.string ⟨#[49]⟩),.v (.string ⟨#[116,119,111]⟩),.v (.string ⟨#[0,255]⟩),.v (.string ⟨#[116,119,101,108,118,101,32,98,121,116,101,115]⟩)]
def edZ:List AV:=[.v (.int .i64 0),.v (.string ⟨#[]⟩),.v (.int .i64 0),.v (.string ⟨#[]⟩)]
theorem WW(e:Ed)(hk:e.key.size<=140737488355328)(hv:e.v.size<=140737488355328):aF prog 25 [e.av] (AQ e).av []:=by
 obtain⟨k,key,l,v⟩:=e;dsimp only at hk hv;obtain⟨ht1,ht2⟩:=ais k;refine K1.E 0x200000400103ff func25 ?_
 conv=>whnf
 refine aI.mk {j:Nat//j<=key.size} (λ j=>⟨[(1,.box 0 0),(2,.box 1 0),(3,.box 2 0),(4,.box 3 0),(5,.v (.int .i64 (uH (key.data.toList.take j.1):Int))),(6,.v (.int .i64 (j.1:Int)))],
  [(0,.box 49 [.v (.int .i64 k),.v (.string key),.v (.int .i64 l),.v (.string v)]),(1,.box 49 edZ),(2,.box 119 ait),(3,.box 120 aiu)],[],4⟩) (λ j=>key.size-j.1) ⟨0,ane _⟩ _
  (dZ.mk' [] _ _ _ rfl ⟨bY,bY,bY,bY,dJ.int (by simp[uH]),dJ.int rfl,trivial⟩ nM rfl) ?_
 rintro⟨j,hj⟩;dsimp only;have hb1:=H6 (key.data.toList.take j);rw[am5]at hb1;have hb2:=an3 (key.data.toList.getD (j:Int).toNat 0);repeat' ((conv=>whnf);first|refine K1.u ?_|refine K1.y (λ _=>?_) (λ _=>?_)|fail)
 ·rename_i hlt;refine⟨⟨j+1,o_⟩,_,dZ.mk' [] _ _ _ rfl ⟨bY,bY,bY,bY,dJ.int ?_,dJ.int ?_,trivial⟩ nM rfl, ?_⟩
  ·rw[Nz (by rw[zQ];omega)];simp
  ·simp
  ·show key.size-(j+1)<key.size-j;omega
 rename_i hge;have hje:uH (key.data.toList.take j)=uH key.data.toList:=TM (by rw[zQ];omega);rw[hje]at*;clear hb2 hge hj hb1 hje;have hb1:=H6 key.data.toList;rw[zQ]at hb1;conv=>whnf
 refine aI.mk {j:Nat//j<=v.size} (λ j=>⟨[(1,.box 0 0),(2,.box 1 0),(3,.box 2 0),(4,.box 3 0),(5,.v (.int .i64 (uH key.data.toList:Int))),(7,.v (.int .i64 (uH (v.data.toList.take j.1):Int))),(8,.v (.int .i64 (j.1:Int)))],
  [(0,.box 49 [.v (.int .i64 k),.v (.string key),.v (.int .i64 l),.v (.string v)]),(1,.box 49 edZ),(2,.box 119 ait),(3,.box 120 aiu)],[],4⟩) (λ j=>v.size-j.1) ⟨0,ane _⟩ _
  (dZ.mk' [] _ _ _ rfl ⟨bY,bY,bY,bY,bY,dJ.int (by simp[uH]),dJ.int rfl,trivial⟩ nM rfl) ?_
 rintro⟨j,hj⟩;dsimp only;have hb3:=H6 (v.data.toList.take j);rw[am5]at hb3;have hb2:=an3 (v.data.toList.getD (j:Int).toNat 0);repeat' ((conv=>whnf);first|refine K1.u ?_|refine Rm.m3 o_ (λ _=>?_) (λ _=>?_) (λ _=>?_)|refine Rm.m4 o_ (λ _=>?_) (λ _=>?_) (λ _=>?_) (λ _=>?_)|refine Rm.pos o_ o_ ?_|refine Rm.alP ?_|refine aT.fH ?_|refine K1.o (id:=13) (nN [0,1,2,3,4,5,6,7,8,9,10] [(11,some []),(12,some [9,7,5,4,3,2,1])]) ?_|refine K1.z ?_|refine K1.y (λ _=>?_) (λ _=>?_)|fail)
 ·rename_i hlt;refine⟨⟨j+1,o_⟩,_,dZ.mk' [] _ _ _ rfl ⟨bY,bY,bY,bY,bY,dJ.int ?_,dJ.int ?_,trivial⟩ nM rfl, ?_⟩
  ·rw[Nz (by rw[zQ];omega)];simp
  ·simp
  ·show v.size-(j+1)<v.size-j;omega
 all_goals(conv=>whnf)
 all_goals refine bF.mk (dJ.of ?_)
 all_goals(rw[TM (show v.data.toList.length<=j by rw[zQ];omega)]at*)
 all_goals simp only[AQ,ks3,vs4,m5,BH,Ed.av, *,if_true,if_false,Int.reduceEq,Int.one_ne_zero]
theorem Wr.a24{x:Int}(h:K (1+BH x 16777215)):Wr (1+IntKind.i64.wrap ((BitVec.ofInt IntKind.i64.bits x&&&BitVec.ofInt IntKind.i64.bits 16777215).toNat:Int)) K .i64:=by
 have:=agK x;exact .i64 (show-9223372036854775808<=1+BH x 16777215 by omega) (show 1+BH x 16777215<=9223372036854775807 by omega) h
theorem Rm.m5{a:Int}(h:0<=a)(h0:a%5=0->K 0)(h1:a%5=1->K 1)(h2:a%5=2->K 2)(h3:a%5=3->K 3)(h4:a%5=4->K 4):Rm a 5 K:=by
 refine .pos h o_ ?_;rcases(show a%5=0\/a%5=1\/a%5=2\/a%5=3\/a%5=4 by omega)with e|e|e|e|e
 ·rw[e];exact h0 e
 ·rw[e];exact h1 e
 ·rw[e];exact h2 e
 ·rw[e];exact h3 e
 ·rw[e];exact h4 e
theorem Ju(c:aS)(r n:Int):aF prog 110 [c.av,.v (.int .i64 r),.v (.int .i64 n)] (.v (.bool (hasB c r n))) []:=by
 obtain⟨c0,c1,c2,c3,c4⟩:=c;dsimp only[aS.av];by_cases hr:r=0\/r=1\/r=2\/r=3\/r=4
 ·rcases hr with rfl|rfl|rfl|rfl|rfl;all_goals
   refine K1.E 0x4f func110 ?_;repeat' ((conv=>whnf);first|refine K1.u ?_|refine aT.fH ?_|refine K1.z ?_|refine K1.y (λ _=>?_) (λ _=>?_)|fail)
   all_goals(conv=>whnf)
   all_goals(refine bF.mk (dJ.of ?_))
   all_goals simp[hasB,aS.get, *]
 ·have h:¬ (0<=r/\r<5):=o_
  refine K1.E 0x4f func110 ?_;repeat' ((conv=>whnf);first|refine K1.u ?_|refine aT.fH ?_|refine K1.y (λ _=>?_) (λ _=>?_)|fail)
  all_goals(conv=>whnf)
  all_goals(refine bF.mk (dJ.of ?_))
  all_goals(simp[hasB];try omega)
theorem wM(a b:Ev):aF prog 67 [a.av,b.av] (.v (.bool (aJ a b))) []:=by
 have h:=Ju b.c a.r a.n;obtain⟨q,hq⟩:∃q,hasB b.c a.r a.n=q:=⟨_,rfl⟩;rw[hq]at h;rw[show aJ a b=q from hq];dsimp only[Ev.av,Ev.cs,aS.av]at h⊢;refine K1.E 0x1f func67 ?_;repeat' ((conv=>whnf);first|refine K1.P1 h ?_|refine aT.fH ?_|refine K1.y (λ _=>?_) (λ _=>?_)|fail)
 all_goals(conv=>whnf)
 all_goals(refine bF.mk (dJ.of ?_))
 all_goals simp[*]
theorem rY(a b:Ev):aF prog 101 [a.av,b.av] (.v (.bool (fM a b))) []:=by
 dsimp only[Ev.av,Ev.cs];refine K1.E 0x1f func101 ?_;repeat' ((conv=>whnf);first|refine aT.fH ?_|refine K1.y (λ _=>?_) (λ _=>?_)|fail)
 all_goals(conv=>whnf)
 all_goals(refine bF.mk (dJ.of ?_))
 all_goals simp[fM, *]
theorem WX(a b:Ev):aF prog 153 [a.av,b.av] (.v (.bool (sV a b))) []:=by
 have h:=rY a b;obtain⟨q,hq⟩:∃q,fM a b=q:=⟨_,rfl⟩;rw[hq]at h;rw[show sV a b=(q&&decide (a.l=b.l)) by rw[<-hq];rfl];dsimp only[Ev.av,Ev.cs]at h⊢;refine K1.E 0x1f func153 ?_;repeat' ((conv=>whnf);first|refine K1.P1 h ?_|refine aT.fH ?_|refine K1.y (λ _=>?_) (λ _=>?_)|fail)
 all_goals(conv=>whnf)
 all_goals(refine bF.mk (dJ.of ?_))
 all_goals simp[*]
theorem Jv(a b:Ev):aF prog 103 [a.av,b.av] (.v (.bool (lq a b))) []:=by
 have h:=WX a b;obtain⟨q,hq⟩:∃q,sV a b=q:=⟨_,rfl⟩;rw[hq]at h;rw[show lq a b=(q&&decide (a.v=b.v)) by rw[<-hq];rfl];dsimp only[Ev.av,Ev.cs]at h⊢;refine K1.E 0x1f func103 ?_;repeat' ((conv=>whnf);first|refine K1.P1 h ?_|refine aT.fH ?_|refine K1.y (λ _=>?_) (λ _=>?_)|fail)
 all_goals(conv=>whnf)
 all_goals(refine bF.mk (dJ.of ?_))
 all_goals simp[*]
end Go.Proofs.YtkimgljckickcaaGreat
