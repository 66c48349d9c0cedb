/-
  Contracts of the walk:AmUse,Bs0,Txt,Var,VTake,TkPlain,FitA,BkA.
-/
import Derived.Test.YtifjccndenojlaaGreatWf5
import Derived.Test.YtifjccndenojlaaGreatWf7
import Derived.Test.YtifjccndenojlaaGreatWf1
import Derived.Test.YtifjccndenojlaaGreatWf2
import Derived.WalkSpells
import Derived.WalkLawsBesides
import Derived.Test.YtifjccndenojlaaGreatChecked
import Derived.Handy
import Derived.Laws.BitsAllLaws
set_option maxHeartbeats 16000000
set_option maxRecDepth 100000
set_option linter.unusedVariables false
set_option linter.unusedSimpArgs false
namespace Go.Proofs.YtifjccndenojlaaGreat
open Go.RowKit
open Go.Proofs.Tryz
variable{st:AS}{r x:AV}{sc:Bool}{s:ByteArray}{hi lo:Int}{K:Int->Prop}{bs l:List UInt8}{acc i j n:Nat}{f:Nat->List AV}{P:Program}{α:Type}{e:TypeId}
theorem aU.int{st:AS}{x:AV}{k:IntKind}{n m:Int}(hx:abb st.heap x= .v (.int k n))(h:n=m):aU st x (.v (.int k m)) []:= .plain _ (by rw[hx,h];exact aY.refl _)
theorem aU.bool{st:AS}{x:AV}{b c:Bool}(hx:abb st.heap x= .v (.bool b))(h:b=c):aU st x (.v (.bool c)) []:= .plain _ (by rw[hx,h];exact aY.refl _)
theorem aU.same(hx:abb st.heap x=r):aU st x r []:= .plain _ (by rw[hx];exact aY.refl _)
def akP:AV->Option Nat
 | .own i=>some i
 |_=>none
def akQ:List AV->Option Nat
 |[]=>none
 |x::l=>match akP x with|some i=>some i|none=>akQ l
def ame:AV->Option Nat
 | .own i=>some i
 | .agg cs=>akQ cs
 | .bI vs=>akQ vs
 |_=>none
theorem aU.uV(d:Nat){id:Nat}{s:Nat}{o':AO}(_hid:ame x=some id)(hf:aK id st.heap=some (.row e s n sc f))(ho:dK (.row e s n sc f) o')(hr:aY (al0 st.heap id d x) r):aU st x r [(d,o')]:=
 .own id d r e s n sc f o' hf ho hr
def addN(k i:Nat)(σ:List (Nat×Nat)):List (Nat×Nat):=bif aa' σ i then σ else(k,i)::σ
def aeL:List AV->List AV->List (Nat×Nat)->List (Nat×Nat)
 | .own k::xs,.own i::ys,σ=>aeL xs ys (addN k i σ)
 |_::xs,_::ys,σ=>aeL xs ys σ
 |_,_,σ=>σ
def aad(st:AS):List (Nat×AV)->List (Nat×Nat)->List (Nat×Nat)
 |[],σ=>σ
 |(t,.own i)::l,σ=>aad st l (match tN st.sl t with| .own k=>addN k i σ|_=>σ)
 |(t,.box i _)::l,σ=>aad st l (match tN st.sl t with| .box k _=>addN k i σ|_=>σ)
 |_::l,σ=>aad st l σ
def ajW(i:Nat):List (Nat×Nat)->Nat
 |[]=>i
 |(k,j)::r=>bif Nat.beq i j then k else ajW i r
def aeM(st:AS):List (Nat×AO)->List (Nat×Nat)->List (Nat×Nat)
 |[],σ=>σ
 |(i,.box _ ys)::l,σ=>aeM st l (match aK (ajW i σ) st.heap with|some (.box _ xs)=>aeL xs ys σ|_=>σ)
 |_::l,σ=>aeM st l σ
def BM(st:AS)(l:List (Nat×AV))(h:List (Nat×AO)):List (Nat×Nat):=aeM st h (aad st l [])
theorem dO.mk'{st:AS}(σ:List (Nat×Nat))(l:List (Nat×AV))(h:List (Nat×AO))(b:Nat)(nd:nodupB (σ.map (·.2))=true)(ht:LeT (st.ren σ) l)(hh:LeH (st.ren σ) h)(hn:nodupB (h.map (·.1))=true):dO σ st ⟨l,h,(st.ren σ).back,b⟩:=
 ⟨nd,let k:=Jw.mk' l h ht hh hn;⟨k.tm,k.hp,k.nd,k.bk⟩⟩
theorem dO.auto(l:List (Nat×AV))(h:List (Nat×AO))(b:Nat)(nd:nodupB ((BM st l h).map (·.2))=true)(ht:LeT (st.ren (BM st l h)) l)(hh:LeH (st.ren (BM st l h)) h)(hn:nodupB (h.map (·.1))=true):dO (BM st l h) st ⟨l,h,(st.ren (BM st l h)).back,b⟩:=
 dO.mk' _ l h b nd ht hh hn
theorem aU.hd(h:hd2 (abb st.heap x) (λ y=>aY y r)):aU st x r []:= .plain _ (by rw[QM]at h;exact h)
structure bn(x y:AV):Prop where
 h:aY x y
theorem aU.fF(h:hd2 (abb st.heap x) (λ y=>bn y r)):aU st x r []:= .plain _ (by rw[QM]at h;exact h.h)
theorem aY.int{k:IntKind}{n m:Int}(h:n=m):aY (.v (.int k n)) (.v (.int k m)):=by rw[h];exact aY.refl _
theorem aY.str{x y:ByteArray}(h:x=y):aY (.v (.string x)) (.v (.string y)):=by rw[h];exact aY.refl _
theorem aY.of{y:AV}(h:x=y):aY x y:=by rw[h];exact aY.refl _
theorem aY.sl{s n n':Nat}{sc:Bool}{f f':Nat->List AV}(hn:n=n')(hf:∀i,i<n->f i=f' i):aY (.sl s n sc f) (.sl s n' sc f'):=by
 subst hn;intro X u h;cases C2.wY h with
 |sl _ _ _ _ A c us hs0 hnc hcc hl hfl hsc hu' hr=>
  rw[jJ hf]at hsc hu';exact .sl s n sc f' A c us hs0 hnc hcc hl (λ i hi=>by rw[<-hf i hi];exact hfl i hi) hsc hu' hr
theorem dK.row{e:TypeId}{s n n':Nat}{sc:Bool}{f f':Nat->List AV}(hn:n=n')(hf:∀i,i<n->f i=f' i):dK (.row e s n sc f) (.row e s n' sc f'):=by
 subst hn;rintro X id ⟨us,hown,hs,hfl,hsc,ha⟩;rw[jJ hf]at hsc ha;exact⟨us,hown,hs,λ i hi=>by rw[<-hf i hi];exact hfl i hi,hsc,ha⟩
theorem Rn.auto{hin:List (Nat×AO)}{hout:List (Nat×AO)}(nd:nodupB ((BM st [] hout).map (·.2))=true)(fx:J3 hout (st.ren (BM st [] hout)).back 0 hin=true)(hp:LeH (st.ren (BM st [] hout)) hout)
 (hn:nodupB (hout.map (·.1))=true)(hc:fU hout hout=true)(hr:aY (aew (st.ren (BM st [] hout)).heap hout (FT (BM st [] hout) x)) r):∃σ,Rn hin σ st x r hout:=⟨_,nd,fx,hp,hn,hc,hr⟩
theorem Wr.b64{b:UInt8}(h:K (b.toNat:Int)):Wr (b.toNat:Int) K .i64:=by have:=apv b;exact .i64 o_ o_ h
theorem Wr.ani{b:UInt8}(h:K (b.toNat:Int)):Wr (b.toNat:Int) K .u64:=by have:=apv b;exact .u64 o_ o_ h
theorem Wr.bu32{b:UInt8}(h:K (b.toNat:Int)):Wr (b.toNat:Int) K .u32:=by have:=apv b;exact .u32 o_ o_ h
theorem Wr.bu8{b:UInt8}(h:K (b.toNat:Int)):Wr (b.toNat:Int) K .u8:=by have:=apv b;exact .u8 o_ o_ h
theorem dK.box1{t:TypeId}{k:IntKind}{x y:Int}(h:x=y):dK (.box t [.v (.int k x)]) (.box t [.v (.int k y)]):=by rw[h];exact dK.refl _
def og{α:Type}[Inhabited α](c:α->List AV)(l:List α):Nat->List AV:=λ i=>c (l.getD i default)
theorem els_app[Inhabited α]{c:α->List AV}{l l':List α}(hn:n=l.length):∀i,kV n (og c l) (og c l') i=og c (l++l') i:=by
 intro i;subst hn;unfold kV og;cases hb:Nat.ble l.length i with
 |true=>
  have:=aox hb;simp only[cond_true];congr 1;rw[List.getD,List.getD,ao2 this]
 |false=>
  have:i<l.length:=Nat.lt_of_not_le λ h=>by rw[apm h]at hb;cases hb
  simp only[cond_false];congr 1;rw[List.getD,List.getD,aoS this]
theorem dP[Inhabited α]{c:α->List AV}{l:List α}{x:α}{g:Nat->List AV}(hn:n=l.length)(hg:g 0=c x):∀i,i<n+1->kV n (og c l) g i=og c (l++[x]) i:=by
 intro i hi;rw[<-els_app hn];unfold kV;cases hb:Nat.ble n i with
 |true=>
  have:=aox hb;have e:i-n=0:=o_
  simp only[cond_true,e,hg];rfl
 |false=>rfl
def bC(b:UInt8):List AV:=[.v (.int .u8 (b.toNat:Int))]
abbrev aO(bs:List UInt8):Nat->List AV:=og bC bs
def byteOf'(n:Int):UInt8:=UInt8.ofNat n.toNat
theorem zG{n:Int}(h0:0<=n)(h1:n<=255):((byteOf' n).toNat:Int)=n:=by
 unfold byteOf';rw[apS,ap0 o_];omega
def bG(F:Nat->List AV)(l:List UInt8):Prop:= ∀i,i<l.length->F i=aO l i
theorem bG.bytes(l:List UInt8):bG (aO l) l:=λ _ _=>rfl
theorem bG.str(s:ByteArray):bG (λ i=>[.v (.int .u8 ((s.data.toList.getD i 0).toNat:Int))]) s.data.toList:=λ _ _=>rfl
theorem bG.nil(F:Nat->List AV):bG F []:=λ i h=>absurd h s_
theorem bG.app{F G:Nat->List AV}{l':List UInt8}(h:bG F l)(h':bG G l')(hn:n=l.length):bG (kV n F G) (l++l'):=by
 intro i hi;rw[aop]at hi;show _=og bC (l++l') i;rw[<-els_app hn];unfold kV;cases hb:Nat.ble n i with
 |true=>
  have:=aox hb;exact h' (i-n) o_
 |false=>
  have:i<n:=Nat.lt_of_not_le λ h=>by rw[apm h]at hb;cases hb
  exact h i o_
theorem bG.one{x:Int}(h0:0<=x)(h1:x<=255):bG (chunk 1 [.v (.int .u8 x)]) [byteOf' x]:=by
 intro i hi;have e:i=0:=by simpa using hi
 subst e;show [AV.v (.int .u8 x)]=[AV.v (.int .u8 ((byteOf' x).toNat:Int))];rw[zG h0 h1]
theorem bG.two{x y:Int}(h0:0<=x)(h1:x<=255)(k0:0<=y)(k1:y<=255):bG (chunk 1 [.v (.int .u8 x),.v (.int .u8 y)]) [byteOf' x,byteOf' y]:=by
 intro i hi;have e:i=0\/i=1:=by simp at hi;omega
 rcases e with rfl|rfl
 ·show [AV.v (.int .u8 x)]=[AV.v (.int .u8 ((byteOf' x).toNat:Int))];rw[zG h0 h1]
 ·show [AV.v (.int .u8 y)]=[AV.v (.int .u8 ((byteOf' y).toNat:Int))];rw[zG k0 k1]
theorem AB(s:ByteArray):s.data.toList.length=s.size:=rfl
theorem dK.wS{F:Nat->List AV}{t:List UInt8}(h:bG F l)(hn:n=l.length)(ht:l=t):dK (.row e 1 n sc F) (.row e 1 t.length sc (aO t)):=by
 subst ht;exact dK.row hn λ i hi=>h i o_
theorem bZ.into{L:Lay}{f:FuncId}{aZ:List AV}{K:AV->AS->Prop}{d:Nat}(lv:Nat)(fn:Func)(c:Code)(hf:P.funcs[f]? =some fn)(hn:(fn.name== "runtime.NumGoroutine")=false)(hb:fn.body=some c)(hsz:Nat.ble aZ.length fn.ntmps=true)
  (h:ad2 st aZ (lD P L (BG P L n) fn.ntmps lv c (λ e st'=>match e with| .exit _=>False| .normal=>pF L st' fn.results.toList (λ x=>yL (st'.out) (K x))| .ret=>pF L st' fn.results.toList (λ x=>yL (st'.out) (K x))))):bZ P L (BG P L (n+1)) d f aZ st K:=
 .inl lv fn c hf hn hb hsz h
theorem CO{f:FuncId}{xs:List Value}{r:Value}(he:Enters P f)(h:∀w,Calls P f xs.toArray w λ e w'=>e= .returned r/\Below w.heap.size w w'):aH P f (xs.map .v) (.v r) []:=by
 refine⟨he,λ w keep args _ hargs=> ?_⟩;have e:args=xs:=AL hargs;subst e;exact(h w).mono λ e w' ⟨h1,h2⟩=>⟨r,λ _=>undef,h1,h2,rfl,(λ p hp=>by cases hp),by simp[ah],(λ b hb=>by simp[ah]at hb)⟩
where
 AL {X:CX}:∀{xs us:List Value},aG (C1 X) (xs.map .v) us->us=xs
  |[],us,h=>by
   have:=h.1;simp at this;exact aoz this.symm
  |x::xs,[],h=>by have:=h.1;simp at this
  |x::xs,u::us,h=>by
   have h0:u=x:=h.2 0 _ _ rfl rfl;have:=AL (xs:=xs) (us:=us) ⟨by simpa using h.1,λ i a b ha hb=>h.2 (i+1) a b (by simpa using ha) (by simpa using hb)⟩;rw[h0,this]
theorem aH.thaw{P:Program}{f:FuncId}{aZ:List AV}{r:AV}{d:Nat}{e:TypeId}{s n:Nat}{sc:Bool}{g:Nat->List AV}(hs:aH P f aZ r [(d,.row e s n sc g)]):aH P f aZ (DT d (.sl s n sc g) r) []:=by
 refine⟨hs.1,λ w keep args hk ha=>(hs.2 w keep args hk ha).mono ?_⟩;rintro e0 w' ⟨u,ρ,h1,h2,h3,h4,h5,h6⟩;obtain⟨us,hown,hs0,hfl,hsc,hall⟩:=h4 _ (aoo.2 rfl);have hown:w'.ownsRow 0 e s (ρ d) n us:=hown;have hall:aG (PC w' (aJ (base0 w keep) w' ρ [(d,.row e s n sc g)])) (flat n g) us:=hall;have hkk:∀b,aJ (base0 w keep) w' ρ [(d,.row e s n sc g)] b->aJ (base0 w keep) w' ρ [] b:=λ b h=>⟨h.1,h.2.1,λ h'=>by simp[ah]at h'⟩;have hrow:PC w' (aJ (base0 w keep) w' ρ []) (.sl s n sc g) (ρ d):=by
  have ha':=hall.imp λ _ _=>PC.mono hkk (λ _ _=>rfl);rcases hown.2 with⟨hv,hz⟩|⟨b,cap,cur,hv,hB,hh,hnc,hcm,_⟩
  ·rw[hv];subst hz;exact .sl s 0 sc g none 0 us hs0 (aoH _) (by simp[maxLen]) hown.1 hfl hsc ha'.2 (.inl rfl)
  ·rw[hv];refine .sl s n sc g _ cap us hs0 hnc hcm hown.1 hfl hsc ha'.2 (.inr ⟨b,0,rfl,⟨(ao5.1 hh).1,λ hlt=> ?_,λ h'=>by simp[ah]at h'⟩,λ j u hj=> ?_⟩)
   ·have:=h6 b (aQ.2 ⟨_,aoo.2 rfl,by rw[hv];exact aol⟩);exact absurd (show b<w.heap.size from hlt) o_
   ·have:=hown.cells (g:=b) (by rw[hv];rfl) j u hj;rwa [apk]at this
 exact⟨u,ρ,h1,h2,C2.thaw (X:=aC (base0 w keep) w' ρ [(d,.row e s n sc g)]) (Y:=aC (base0 w keep) w' ρ []) hkk (λ _ _=>rfl) rfl (by show PC _ _ _ (dJ (ρ d));rw[eY hown];exact hrow) h3,λ p hp=>(by cases hp),by simp[ah],λ b hb=>by simp[ah]at hb⟩
theorem aI.yP{body:(jk->AS->Prop)->AS->Prop}{Q:jk->AS->Prop}(t n:Nat)(_ht:st.tmps t= .v (.int .i64 0))(h:IV body Q n st):aI body Q st:= .rounds n h
inductive Ch:List AV->List AV->Prop where
 |nil:Ch [] []
 |same {x:AV} {xs ys:List AV}:Ch xs ys->Ch (x::xs) (x::ys)
 |of {x y:AV} {xs ys:List AV} (h:∀(X:CX)(u:Value),C1 X x u->C1 X y u):Ch xs ys->Ch (x::xs) (y::ys)
theorem Ch.all{X:CX}:∀{xs ys:List AV}{us:List Value},Ch xs ys->aG (C1 X) xs us->aG (C1 X) ys us
 |_,_,_,.nil,h=>h
 |_,_,[],.same _,h=>by have:=h.1;simp at this
 |_,_,[],.of _ _,h=>by have:=h.1;simp at this
 |_,_,u::us,.same k,h=>aG.cons (h.2 0 _ _ rfl rfl) (Ch.all k ⟨by simpa using h.1,λ i a b ha hb=>h.2 (i+1) a b (by simpa using ha) (by simpa using hb)⟩)
 |_,_,u::us,.of h0 k,h=>aG.cons (h0 X u (h.2 0 _ _ rfl rfl)) (Ch.all k ⟨by simpa using h.1,λ i a b ha hb=>h.2 (i+1) a b (by simpa using ha) (by simpa using hb)⟩)
theorem aH.args{P:Program}{f:FuncId}{aZ bvs:List AV}{r:AV}{h:List (Nat×AO)}(hs:aH P f bvs r h)(hc:Ch aZ bvs):aH P f aZ r h:=
 ⟨hs.1,λ w keep args hk ha=>hs.2 w keep args hk (Ch.all hc ha)⟩
def anj(ops:List Oper):List (List Nat):=ops.foldl (λ t o=>t++[(o.after.toList.foldl (λ s e=>bif Region.binds .any e then e.on::(t.getD e.on []++s)else s) []).eraseDups]) []
def uOf(ops:List Oper)(sc:List (Nat×Option (List Nat))):List (Nat×List Nat):=
 let A:=Cm sc;let t:=anj ops;let need:=A.flatMap (·.2)
 (List.range ops.length).filterMap λ k=>match A.find? (λ x=>Nat.beq x.1 k)with
   |some x=>some x
   |none=>match(t.getD k []).filter (λ x=>need.any (Nat.beq x))with
    |[]=>none
    |l=>some (k,l)
def nN:List Nat->List (Nat×Option (List Nat))->List (Nat×Option (List Nat))
 |[],r=>r
 |k::l,r=>(k,none)::nN l r
theorem au:aY x x:=aY.refl x
theorem ay{h:List (Nat×AO)}{o:AO}(k:aK i h=some o):∃q,aK i h=some q/\dK q o:=⟨o,k,dK.refl o⟩
namespace K1
variable{A B p:Prop}
theorem a(h:A)(k:p:=by first|assumption|omega):oC p A B:= .yes k h
theorem b(h:B)(k:¬p:=by first|assumption|omega):oC p A B:= .no k h
theorem d{x:AV}(h:A)(k:akN x=true:=by rfl):Still x x A:= .mk rfl k h
theorem q{W:Walk}{N id:Nat}{ops:Array Oper}{K:AS->Prop}{st:AS}(h:yM prog lay W N ops.toList K ops.toList st)(h1:Region.lexB .any ops=true:=by kernel_rfl)(h2:ops.toList.all (λ o=>mX o.op)=true:=by rfl):fO prog lay W N id ops K st:= .quiet fG h1 h2 h
class S(A:Prop)(s B:outParam Prop):Prop where
 go:s->B->A
class T(A:Prop)(s B:outParam Prop):Prop where
 go:s->B->A
class F(A:Prop)(p r X Y:outParam Prop):Prop where
 go:(p->X)->(r->Y)->A
section
variable{s C:Prop}{n m:Int}{N:Nat}{K:Int->Prop}{b:UInt8}{x:Bool}{Q:Nat->Prop}
instance:S (Wr n K .i64) (-9223372036854775808<=n/\n<=9223372036854775807) (K n):=⟨λ h q=> .i64 h.1 h.2 q⟩
instance:S (Wr n K .u64) (0<=n/\n<=18446744073709551615) (K n):=⟨λ h q=> .u64 h.1 h.2 q⟩
instance:S (Wr n K .u32) (0<=n/\n<=4294967295) (K n):=⟨λ h q=> .u32 h.1 h.2 q⟩
instance:S (Wr n K .u8) (0<=n/\n<=255) (K n):=⟨λ h q=> .u8 h.1 h.2 q⟩
instance:S (Wr (b.toNat:Int) K .i64) True (K (b.toNat:Int)):=⟨λ _ q=> .b64 q⟩
instance:S (Wr (b.toNat:Int) K .u64) True (K (b.toNat:Int)):=⟨λ _ q=> .ani q⟩
instance:S (Wr (b.toNat:Int) K .u32) True (K (b.toNat:Int)):=⟨λ _ q=> .bu32 q⟩
instance:S (Wr (b.toNat:Int) K .u8) True (K (b.toNat:Int)):=⟨λ _ q=> .bu8 q⟩
instance:S (Uj n N A) (0<=n/\n<(N:Int)) A:=⟨λ h q=> .mk (XO h.1 h.2) q⟩
instance:S (Req p A) p A:=⟨.mk⟩
instance:T (nV n N Q) (0<=n/\n<(N:Int)) (Q n.toNat):=⟨λ h q=> .mk (XO h.1 h.2) q⟩
instance:T (ASl A B p) True A:=⟨λ _ q=> .FP q⟩
instance:T (Dv n m K) (0<=n/\0<m) (K (n/m)):=⟨λ h q=> .pos h.1 h.2 q⟩
instance:T (Rm n m K) (0<=n/\0<m) (K (n%m)):=⟨λ h q=> .pos h.1 h.2 q⟩
instance:F (oC p A B) p (¬p) A B:=⟨.mk⟩
instance:F (akr N A B) (N=0) True A B:=⟨λ f g=> .mk f (g trivial)⟩
instance(priority:=low):F (zh.match_1 (λ _=>Prop) x (λ _=>A) (λ _=>B)) (x=true) (x=false) A B:=⟨vK.mk⟩
instance[Decidable p]:F (zh.match_1 (λ _=>Prop) (decide p) (λ _=>A) (λ _=>B)) p (¬p) A B:=⟨vK.dec⟩
theorem w[c:S A s B](q:B)(k:s:=by first|exact True.intro|omega|assumption|exact⟨by first|omega|(dsimp only;omega),by first|omega|(dsimp only;omega)⟩):A:=c.go k q
theorem z[c:T A s B](q:B)(k:s:=by first|exact True.intro|omega):A:=c.go k q
theorem y{r X Y:Prop}[c:F A p r X Y](f:p->X)(g:r->Y):A:=c.go f g
theorem bt(h:A)(k:x=true:=by first|assumption|exact decide_eq_true (by first|assumption|omega)):vK x A B:= .yes k h
theorem bf(h:B)(k:x=false:=by first|assumption|exact decide_eq_false (by first|assumption|omega)):vK x A B:= .no k h
theorem u(q:B)(h:B->A:=by first|exact λ q=>K1.w q|exact λ q=>K1.a q|exact λ q=>K1.b q|exact λ q=>K1.d q|exact λ q=>K1.q q|exact λ q=>K1.bt q|exact λ q=>K1.bf q):A:=h q
end
section
variable{n N id:Nat}{ops:Array Oper}{K:AS->Prop}{st:AS}
theorem o(sc:List (Nat×Option (List Nat)))(h:xB prog lay (BG prog lay n) N ops.toList false K sc [] st)(k:(Region.noSelect ops&&Nat.beq sc.length ops.size&&F5 ops.toList sc (uOf ops.toList sc))=true:=by kernel_rfl):fO prog lay (BG prog lay n) N id ops K st:= .sched bQ (dM bQ _) sc _ fG k h
theorem ok(sc:List (Nat×Option (List Nat)))(h:xB prog lay (BG prog lay n) N ops.toList true K sc [] st)(k:(Region.noSelect ops&&Nat.beq sc.length ops.size&&F5 ops.toList sc (uOf ops.toList sc))=true:=by kernel_rfl):fO prog lay (BG prog lay n) N id ops K st:= .keep bQ (dM bQ _) sc _ fG k h
end
section
variable{P:Program}{L:Lay}{W:Walk}{d:Nat}{f:FuncId}{aZ bs:List AV}{st:AS}{K:AV->AS->Prop}{r:AV}
theorem RG{h:List (Nat×AO)}:∀{xs ys:List AV},xs.map (XV h)=ys->Ip h xs ys
 |[],_,e=>by subst e;exact .nil
 |_::_,_,e=>by subst e;exact .cons (.eq _) (RG rfl)
theorem aae{st:AS}:∀{l:List (Nat×AO)},l.map (λ p=>aK p.1 st.heap)=l.map (λ p=>some p.2)->aa7 st l
 |[],_=>trivial
 |_::_,e=>by injection e with e1 e2;exact⟨e1,aae e2⟩
theorem P1(hs:aH P f bs r [])(h:K r (bif oD r then st else vJ st aZ))(e:aZ.map (XV st.heap)=bs:=by exact rfl)(hr:ok2 none r=true:=by exact rfl):bZ P L W d f aZ st K:= .plain _ _ hs (RG e) hr h
variable{e:TypeId}{s n:Nat}{sc:Bool}{g:Nat->List AV}
theorem F1(hs:aH P f bs r [(d,.row e s n sc g)])(h:K r ((bif oD r&&sc then st else vJ st aZ).obj d d (.row e s n sc g)))(eq:aZ.map (XV st.heap)=bs:=by exact rfl)(hr:ok2 (some d) r=true:=by exact rfl):bZ P L W d f aZ st K:= .fresh _ _ _ _ _ _ _ hs (RG eq) hr h
theorem C(k:Nat)(τ:List (Nat×Nat)){hin hout:List (Nat×AO)}(hs:aj P f hin bs r hout)(ha:bs.map (Ur ((k,d)::τ))=aZ)(h:K (FT ((k,d)::τ) r) (st.Uc d (iL ((k,d)::τ) hin) (iL ((k,d)::τ) hout)))
 (hh:(iL ((k,d)::τ) hin).map (λ p=>aK p.1 st.heap)=(iL ((k,d)::τ) hin).map (λ p=>some p.2):=by exact rfl)
 (hb:(uQ (((k,d)::τ).map (·.2))&&yO ((k,d)::τ) hin&&yO ((k,d)::τ) hout&&bs.all (key1 ((k,d)::τ))&&key2 ((k,d)::τ) r)=true:=by exact rfl)
 (hb2:(uQ ((iL ((k,d)::τ) hin).map (·.1))&&(bs.map (Ur ((k,d)::τ))).all Um&&fU (iL ((k,d)::τ) hout) (iL ((k,d)::τ) hout)&&adU (iL ((k,d)::τ) hout) (FT ((k,d)::τ) r)&&wW d (iL ((k,d)::τ) hin) (iL ((k,d)::τ) hout))=true:=by exact rfl):bZ P L W d f aZ st K:= .Ro k τ hs ha (aae hh) hb hb2 h
theorem I{c:Code}{fn:Func}(lv:Nat)(hf:P.funcs[f]? =some fn)
 (h:ad2 st aZ (lD P L (BG P L n) fn.ntmps lv c (λ e st'=>match e with| .exit _=>False| .normal=>pF L st' fn.results.toList (λ x=>yL (st'.out) (K x))| .ret=>pF L st' fn.results.toList (λ x=>yL (st'.out) (K x)))))
 (hn:(fn.name== "runtime.NumGoroutine")=false:=by exact rfl)(hb:fn.body=some c:=by exact rfl)(hsz:Nat.ble aZ.length fn.ntmps=true:=by exact rfl):bZ P L (BG P L (n+1)) d f aZ st K:= .inl lv fn c hf hn hb hsz h
end
section
variable{f:FuncId}{fn:Func}{c:Code}{aZ:List AV}{r:AV}{hh hin hout:List (Nat×AO)}(lv:Nat)(hf:prog.funcs[f]? =some fn)
include hf
theorem E(h:BG prog lay 9 fn.ntmps lv c (Us lay fn r hh) (start aZ))(hn:(fn.name== "runtime.NumGoroutine")=false:=by exact rfl)(hb:fn.body=some c:=by exact rfl)(hsz:Nat.ble aZ.length fn.ntmps=true:=by exact rfl):aH prog f aZ r hh:=aeu bQ lv hf hn hb hsz h
theorem M(base:Nat)(h:BG prog lay 9 fn.ntmps lv c (ZY lay fn hin r hout) (Rk aZ hin base))(hn:(fn.name== "runtime.NumGoroutine")=false:=by exact rfl)(hb:fn.body=some c:=by exact rfl)(hsz:Nat.ble aZ.length fn.ntmps=true:=by exact rfl):aj prog f hin aZ r hout:=aey bQ lv base hf hn hb hsz h
end
end K1
def aV.cs(c:aV):List AV:=[.v (.int .i64 c.c0),.v (.int .i64 c.c1),.v (.int .i64 c.c2),.v (.int .i64 c.c3),.v (.int .i64 c.c4)]
def aV.av(c:aV):AV:= .agg c.cs
def Ev.cs(e:Ev):List AV:=[.v (.int .i64 e.r),.v (.int .i64 e.n),.v (.int .i64 e.c.c0),.v (.int .i64 e.c.c1),.v (.int .i64 e.c.c2),.v (.int .i64 e.c.c3),.v (.int .i64 e.c.c4),.v (.int .i64 e.h),.v (.int .i64 e.k),.v (.string e.key),.v (.int .i64 e.l),.v (.string e.v)]
def Ev.av(e:Ev):AV:= .agg e.cs
def Ed.av(e:Ed):AV:= .agg [.v (.int .i64 e.k),.v (.string e.key),.v (.int .i64 e.l),.v (.string e.v)]
def Ed.cs(e:Ed):List AV:=[.v (.int .i64 e.k),.v (.string e.key),.v (.int .i64 e.l),.v (.string e.v)]
instance:Inhabited Ev:=⟨⟨0,0,⟨0,0,0,0,0⟩,0,0,⟨#[]⟩,0,⟨#[]⟩⟩⟩
abbrev dI(l:List Ev):Nat->List AV:=og Ev.cs l
def aW:aV:=⟨0,0,0,0,0⟩
def aV.at(c:aV):Nat->Int
 |0=>c.c0
 |1=>c.c1
 |2=>c.c2
 |3=>c.c3
 |_=>c.c4
theorem C1.gW{X:CX}{s:Nat}(hs:0<s){u:Value}(h:C1 X (.v (.slice none 0 0)) u):C1 X (.sl s 0 sc f) u:=by
 have h:u= .slice none 0 0:=h;subst h;exact(show C0 X (.sl s 0 sc f) (.slice none 0 0)from .sl s 0 sc f none 0 [] hs (aoH _) (by simp[maxLen]) s_ (λ i hi=>absurd hi (aoM i)) (λ _ x hx=>by simp[flat]at hx) (λ i x u hx=>by simp[flat]at hx) (.inl rfl))
theorem Rm.ank{a:Int}(h:K (a.tmod 5)):Rm a 5 K:= .raw d_ h
theorem Rm.is{a b c:Int}(h0:0<=a)(hb:0<b)(h:a%b=c)(k:K c):Rm a b K:= .pos h0 hb (by rw[h];exact k)
theorem Em(s:ByteArray):DJ s=true↔ ∀i(h:i<s.size),97<=(s[i]'h).toNat/\(s[i]'h).toNat<=122:=by
 unfold DJ;rw[aoD];constructor
 ·intro h i hi;have:=h s[i] (by
   show s.data[i]'hi∈s.data.toList;exact Array.mem_toList_iff.2 (Array.getElem_mem _))
  simpa using this
 ·intro h b hb;obtain⟨i,hi,rfl⟩:=Array.getElem_of_mem (Array.mem_toList_iff.1 hb);have h1:97<=(s.data[i]'hi).toNat/\(s.data[i]'hi).toNat<=122:=h i hi;simpa using h1
theorem ah9(h1:1<=s.size)(h2:s.size<=8)(h:∀i(h:i<s.size),97<=(s[i]'h).toNat/\(s[i]'h).toNat<=122):keyE s=0:=by
 unfold keyE;rw[if_pos ⟨h1,h2,(Em s).2 h⟩]
theorem RH(hi:i<s.size)(h:¬ (97<=(s[i]'hi).toNat/\(s[i]'hi).toNat<=122)):keyE s=10:=by
 unfold keyE;rw[if_neg (λ hh=>h ((Em s).1 hh.2.2 i hi))]
theorem OO(h:¬ (1<=s.size/\s.size<=8)):keyE s=10:=by
 unfold keyE;rw[if_neg (λ hh=>h ⟨hh.1,hh.2.1⟩)]
theorem ah'(s:ByteArray)(w:World):
  Calls prog 116 #[.string s] w λ e w'=>e= .returned (.int .i64 (keyE s))/\Below w.heap.size w w':=by
 by_cases h1:1<=s.size
 ·by_cases h2:s.size<=8
  ·go_enter func116,Tryz.ntmps116
   go_wp2
   go_loopw [] (λ w'=> ∃pos:Nat,w'=w.iter s pos/\ ∀i(h:i<s.size),i<pos->97<=(s[i]'h).toNat/\(s[i]'h).toNat<=122) (λ w'=>s.size-w'.iterPos w.heap.size)
   case atStart=>exact⟨0,rfl,λ i _ h=>o_⟩
   case round=>
    obtain⟨pos,rfl,hl⟩:=hrel;have HL:=aqc hl;clear hl;by_cases hp:pos<s.size
    ·by_cases ha:(s[pos]'hp).toNat<128
     ·have hnx:∀ty,(Instr.next (.pointer (some ⟨w.heap.size,0,none⟩)) true ty).run prog (w.iter s pos)=_:=λ ty=>run_next_ascii w s pos ty hp ha;by_cases h97:97<=(s[pos]'hp).toNat
      ·by_cases h122:(s[pos]'hp).toNat<=122
       ·go_wp2
        go_roundw
        case rel=>
         exact⟨pos+1,rfl,λ i h hi=>by
          by_cases e:i=pos
          ·subst e;exact⟨h97,h122⟩
          ·exact HL.out i h o_⟩
        case measure=>
         simp;omega
       ·go_wp2
        go_ret
        exact⟨Am (RH hp (λ hh=>h122 hh.2)).symm,(apD _ _).alloc (aoH _) _⟩
      ·go_wp2
       go_ret
       exact⟨Am (RH hp (λ hh=>h97 hh.1)).symm,(apD _ _).alloc (aoH _) _⟩
     ·have hnx:∀ty,(Instr.next (.pointer (some ⟨w.heap.size,0,none⟩)) true ty).run prog (w.iter s pos)=_:=λ ty=>run_next_any w s pos ty hp;have hd:=(decode_high s pos hp o_).1;go_wp2;go_ret;exact⟨Am (RH hp o_).symm,(apD _ _).alloc (aoH _) _⟩
    ·have hnx:∀ty,(Instr.next (.pointer (some ⟨w.heap.size,0,none⟩)) true ty).run prog (w.iter s pos)=_:=λ ty=>run_next_end w s pos ty hp;go_wp2;go_ret;exact⟨Am (ah9 h1 h2 (λ i h=>HL.out i h o_)).symm,(apD _ _).alloc (aoH _) _⟩
  ·go_enter func116,Tryz.ntmps116
   go_wp2
   go_ret
   exact⟨Am (OO o_).symm,apD _ _⟩
 ·go_enter func116,Tryz.ntmps116
  go_wp2
  go_ret
  exact⟨Am (OO o_).symm,apD _ _⟩
theorem U9(s:ByteArray):aH prog 116 [.v (.string s)] (.v (.int .i64 (keyE s))) []:=
 CO (xs:=[.string s]) ⟨_,_,func116,rfl,rfl⟩ λ w=>ah' s w
theorem Ym(n:Int):aH prog 117 [.v (.int .i64 n)] (.v (.int .i64 (sO n))) []:=by
 refine K1.E 0x105 func117 ?_;repeat' ((conv=>whnf);first|refine K1.y (λ _=>?_) (λ _=>?_)|fail)
 all_goals(refine aU.int rfl ?_;unfold sO;(first|rw[if_pos o_]|rw[if_neg o_]))
theorem Kv(s:ByteArray):aH prog 118 [.v (.string s)] (.v (.int .i64 (lQ s))) []:=by
 refine K1.E 0x405 func118 ?_;repeat' ((conv=>whnf);first|refine K1.y (λ _=>?_) (λ _=>?_)|fail)
 all_goals(refine aU.int rfl ?_;unfold lQ;(first|rw[if_pos o_]|rw[if_neg o_]))
theorem abt(h:s=⟨#[]⟩):s.size=0:=by rw[h];rfl
theorem size_pos(h:¬s=⟨#[]⟩):s.size≠0:=λ e=>h (by
 cases s with
 |mk d=>
  have:d= #[]:=Array.eq_empty_of_size_eq_zero e;rw[this])
theorem OQ(e:Ed):aH prog 77 [e.av] (.v (.int .i64 (lS e))) []:=by
 refine K1.E 0x212402101f func77 ?_;repeat' ((conv=>whnf);first|refine K1.P1 (U9 _) ?_|refine K1.P1 (Ym _) ?_|refine K1.P1 (Kv _) ?_|refine K1.y (λ _=>?_) (λ _=>?_)|fail)
 all_goals(refine aU.int rfl ?_;unfold lS;try have h0:=size_pos ‹_›)
 all_goals grind [abt]
theorem zH(n a b:Int):aH prog 163 [.v (.int .i64 n),.v (.int .i64 a),.v (.int .i64 b)] (.v (.bool (decide (a<=n/\n<=b)))) []:=by
 refine K1.E 0x47 func163 ?_;repeat' ((conv=>whnf);first|refine K1.y (λ _=>?_) (λ _=>?_)|fail)
 all_goals(refine aU.bool rfl ?_;simp[*])
theorem Ho(k:Int):aH prog 139 [.v (.int .i64 k)] (.v (.bool (jF k))) []:=by
 refine K1.E 0x5 func139 ?_;repeat' ((conv=>whnf);first|refine K1.y (λ _=>?_) (λ _=>?_)|fail)
 all_goals(refine aU.bool rfl ?_;simp[jF, *])
theorem oN(e:Ev):aH prog 131 [e.av] (.v (.int .i64 (eH e))) []:=by
 obtain⟨r,n,⟨c0,c1,c2,c3,c4⟩,h,k,key,l,v⟩:=e;dsimp only[Ev.av,Ev.cs];by_cases hr:0<=r/\r<=4
 ·rcases(show r=0\/r=1\/r=2\/r=3\/r=4 by omega)with rfl|rfl|rfl|rfl|rfl;all_goals
   refine K1.E 0x4011d00017 func131 ?_;repeat' ((conv=>whnf);first|refine K1.u ?_|refine K1.P1 (zH _ _ _) ?_|refine K1.P1 (OQ ⟨k,key,l,v⟩) ?_|refine aI.rounds 6 ?_|refine K1.z ?_|refine K1.y (λ _=>?_) (λ _=>?_)|fail)
   all_goals refine aU.int rfl ?_
   all_goals first|(simp[eH,qE,jf,aV.get,Ev.ed, *];done)|(simp[eH,qE,jf,aV.get,Ev.ed, *];omega)
 ·refine K1.E 0x4011d00017 func131 ?_;repeat' ((conv=>whnf);first|refine K1.u ?_|refine K1.P1 (zH _ _ _) ?_|fail)
  all_goals refine aU.int rfl ?_
  all_goals(simp[eH,jf];omega)
def gB:List UInt8->Nat->Nat->Nat×Nat×Int
 |[],i,_=>if i=10 then(0,0,3)else(0,0,2)
 |c::r,i,acc=>
  if 128<=c.toNat then gB r (i+1) (acc+(c.toNat-128)*128^i)
  else if(0<i/\c.toNat=0)\/(i=9/\1<c.toNat)then(0,0,3)
  else(acc+c.toNat*128^i,i+1,0)
def cO(bs:List UInt8):Nat×Nat×Int:=gB (bs.take 10) 0 0
theorem Kw(j:Nat):2^(7*j)=128^j:=by rw[Nat.pow_mul]
theorem aeN{v:Nat}(ha:acc<128^j)(hv:v*128^j<18446744073709551616)(hp:128^j<=9223372036854775808):
  bits .or .u64 (acc:Int) (IntKind.u64.wrap ((v:Int)*2^(7*j)))=((acc+v*128^j:Nat):Int):=by
 have h1:((v:Int)*2^(7*j))=((v*128^j:Nat):Int):=by
  rw[<-Kw];simp
 rw[h1,aq0];have h2:((v*128^j:Nat):Int)%18446744073709551616=((v*128^j:Nat):Int):=o_
 rw[h2,u64_or_nat _ _ o_ hv,Nat.or_comm];congr 1;rw[nat_join (7*j) (v*128^j) acc (by rw[Kw];exact Nat.mul_mod_left _ _) (by rw[Kw];exact ha),Nat.add_comm]
theorem I9(h:j<=9):128^j<=9223372036854775808:=by
 have:=aqE (n:=128) o_ h;have h2:128^9=9223372036854775808:=d_
 omega
theorem amf{q:Nat}(hj:j<=8)(ha:acc<128^j)(hq:q<256)(h128:128<=q):
  bits .or .u64 (acc:Int) (IntKind.u64.wrap (((q:Int)-128)*2^(7*j)))=((acc+(q-128)*128^j:Nat):Int)/\acc+(q-128)*128^j<128^(j+1):=by
 have hp:=I9 (show j+1<=9 by omega);have hp':=I9 (show j<=9 by omega);rw[aqK]at hp⊢;have hm:(q-128)*128^j<=127*128^j:=apx _ o_;have hc:(q:Int)-128=((q-128:Nat):Int):=o_
 rw[hc];exact⟨aeN ha o_ hp',o_⟩
theorem abu{q:Nat}(hj:j<=9)(ha:acc<128^j)(hq:q<128)(h9:¬ (j=9/\1<q)):
  bits .or .u64 (acc:Int) (IntKind.u64.wrap ((q:Int)*2^(7*j)))=((acc+q*128^j:Nat):Int):=by
 have hp':=I9 hj;by_cases h:j=9
 ·have hm:q*128^j<=1*128^j:=apx _ o_;exact aeN ha o_ hp'
 ·have hp:=I9 (show j+1<=9 by omega);rw[aqK]at hp;have hm:q*128^j<=127*128^j:=apx _ o_;exact aeN ha o_ hp'
theorem abv(A:Option Addr)(n c:Nat)(bs:List UInt8)(w:World)(h:Rd w w.heap.size 1 A n (bs.map bV))(hn:n=bs.length)(hc:n<=c):
  Calls prog 142 #[.slice A n c] w λ x w'=>x= .returned (.tuple #[.int .u64 (cO bs).1,.int .i64 (cO bs).2.1,.int .i64 (cO bs).2.2])/\w=w':=by
 generalize hR:cO bs=R;unfold cO at hR;by_cases h10:10<n
 ·have hrd:Rd w w.heap.size 1 A 10 ((bs.take 10).map bV):=by
   have:=h.first (k:=10) o_
   rwa [Nat.mul_one,<-List.map_take]at this
  have hll:(bs.take 10).length=10:=by rw[aou];omega
  generalize bs.take 10=L at hR hrd hll;go_enter func142,Tryz.ntmps142;go_wp2_with fail;have hlm:L.length<=10:=o_
  go_loop [2,14] (λ x i=> ∃(j acc:Nat) (z:Int),j<=10/\x= .int .u64 z/\i= .int .i64 j/\(j<=9->z=acc/\acc<128^j)/\gB (L.drop j) j acc=R) (λ _ i=>10-(intOf i).toNat)
  case atStart=>exact⟨0,0,0,o_,rfl,rfl,λ _=>⟨rfl,d_⟩,hR⟩
  case round=>
   obtain⟨j,acc,z,hj,rfl,rfl,hz,hr⟩:=hrel;have HZ:=aqc hz;have HRR:=aqc hr;clear hz hr;by_cases hjm:j<10
   ·obtain⟨b,o,hl,hA,hb,hcell⟩:=hrd.at1 hjm;subst hA;rw[List.getElem_map]at hcell;simp only[bV]at hcell;simp only[aoO]at hl;have hdrop:L.drop j=L[j]::L.drop (j+1):=apJ hl;have HD:=aqc hdrop;clear hdrop;generalize L[j]=q at hcell HD;have hq:=q.toNat_lt;have amg:IntKind.i64.wrap (7*(j:Int))=7*j:=IntWalk.i64_in _ o_;have e_0:(0:Int)<=7*(j:Int):=o_
    have anl:7*(j:Int)<=64:=o_
    have anm:(j:Int)<10:=o_
    by_cases h128:128<=q.toNat
    ·have h128':(128:Int)<=(q.toNat:Int):=o_
     have amh:IntKind.u8.wrap ((q.toNat:Int)-128)=(q.toNat:Int)-128:=by
      rw[IntKind.wrap_u8];omega
     have aeO:IntKind.u64.wrap ((q.toNat:Int)-128)=(q.toNat:Int)-128:=by
      rw[aq0];omega
     go_wp2_with fail
     go_round
     case rel=>
      have hr:=HRR.out;rw[HD.out]at hr;unfold gB at hr;rw[if_pos h128]at hr;refine⟨j+1,_,_,o_,rfl,by go_num,λ h9=>?_,hr⟩;have h8:j<=8:=o_
      obtain⟨hz,ha⟩:=HZ.out o_;rw[hz];exact amf h8 ha hq h128
     case measure=>simp[intOf];omega
    ·have h128':(q.toNat:Int)<128:=o_
     have aeO:IntKind.u64.wrap (q.toNat:Int)=(q.toNat:Int):=by
      rw[aq0];omega
     have ano:IntKind.i64.wrap ((j:Int)+1)=j+1:=IntWalk.i64_in _ o_;have hr:=HRR.out;rw[HD.out]at hr;unfold gB at hr;rw[if_neg h128]at hr;have Yn:=aqc h128;clear h128;by_cases h0:j=0
     ·have hj0:¬ (0:Int)<(j:Int):=o_
      have h9':((j:Int)==9)=false:=by rw[beq_eq_false_iff_ne];omega
      rw[if_neg o_]at hr;have H0:=aqc h0;clear h0;go_wp2_with fail;go_ret3;have h0:=H0.out;have hv:=abu (acc:=acc) o_ (HZ.out o_).2 (by have:=Yn.out;omega:q.toNat<128) o_;rw[<-hr,(HZ.out o_).1,hv];simp
     ·have hj0:(0:Int)<(j:Int):=o_
      by_cases hq0:q.toNat=0
      ·rw[if_pos (Or.inl ⟨o_,hq0⟩)]at hr;have aeP:(q.toNat:Int)=0:=o_
       rw[aeP]at hcell;go_wp2_with fail;go_ret3;rw[<-hr];simp
      ·have aeP:((q.toNat:Int)==0)=false:=by rw[beq_eq_false_iff_ne];omega
       by_cases h9:j=9
       ·have h9':((j:Int)==9)=true:=by rw[beq_iff_eq];omega
        have H9:=aqc h9;by_cases hq1:1<q.toNat
        ·have hq1':(1:Int)<(q.toNat:Int):=o_
         rw[if_pos (Or.inr ⟨h9,hq1⟩)]at hr;clear h9;go_wp2_with fail;go_ret3;rw[<-hr];simp
        ·have hq1':¬ (1:Int)<(q.toNat:Int):=o_
         rw[if_neg o_]at hr;clear h9;go_wp2_with fail;go_ret3;have h9:=H9.out;have hv:=abu (acc:=acc) o_ (HZ.out o_).2 (by have:=Yn.out;omega:q.toNat<128) o_;rw[<-hr,(HZ.out o_).1,hv];simp
       ·have h9':((j:Int)==9)=false:=by rw[beq_eq_false_iff_ne];omega
        rw[if_neg o_]at hr;go_wp2_with fail;go_ret3;have hv:=abu (acc:=acc) o_ (HZ.out o_).2 (by have:=Yn.out;omega:q.toNat<128) o_;rw[<-hr,(HZ.out o_).1,hv];simp
   ·have hjn:j=10:=o_
    subst hjn;have hr:=HRR.out;rw[aqU o_]at hr;unfold gB at hr;rw[if_pos rfl]at hr;go_wp2_with fail;go_ret3;rw[<-hr];simp
 ·have hrd:Rd w w.heap.size 1 A n ((bs.take 10).map bV):=by rwa [aoF o_]
  have hll:(bs.take 10).length=n:=by rw[aou];omega
  generalize bs.take 10=L at hR hrd hll;go_enter func142,Tryz.ntmps142;go_wp2_with fail;have hlm:L.length<=10:=o_
  go_loop [2,14] (λ x i=> ∃(j acc:Nat) (z:Int),j<=n/\x= .int .u64 z/\i= .int .i64 j/\(j<=9->z=acc/\acc<128^j)/\gB (L.drop j) j acc=R) (λ _ i=>n-(intOf i).toNat)
  case atStart=>exact⟨0,0,0,o_,rfl,rfl,λ _=>⟨rfl,d_⟩,hR⟩
  case round=>
   obtain⟨j,acc,z,hj,rfl,rfl,hz,hr⟩:=hrel;have HZ:=aqc hz;have HRR:=aqc hr;clear hz hr;by_cases hjm:j<n
   ·obtain⟨b,o,hl,hA,hb,hcell⟩:=hrd.at1 hjm;subst hA;rw[List.getElem_map]at hcell;simp only[bV]at hcell;simp only[aoO]at hl;have hdrop:L.drop j=L[j]::L.drop (j+1):=apJ hl;have HD:=aqc hdrop;clear hdrop;generalize L[j]=q at hcell HD;have hq:=q.toNat_lt;have amg:IntKind.i64.wrap (7*(j:Int))=7*j:=IntWalk.i64_in _ o_;have e_0:(0:Int)<=7*(j:Int):=o_
    have anl:7*(j:Int)<=64:=o_
    have anm:(j:Int)<(n:Int):=o_
    by_cases h128:128<=q.toNat
    ·have h128':(128:Int)<=(q.toNat:Int):=o_
     have amh:IntKind.u8.wrap ((q.toNat:Int)-128)=(q.toNat:Int)-128:=by
      rw[IntKind.wrap_u8];omega
     have aeO:IntKind.u64.wrap ((q.toNat:Int)-128)=(q.toNat:Int)-128:=by
      rw[aq0];omega
     go_wp2_with fail
     go_round
     case rel=>
      have hr:=HRR.out;rw[HD.out]at hr;unfold gB at hr;rw[if_pos h128]at hr;refine⟨j+1,_,_,o_,rfl,by go_num,λ h9=>?_,hr⟩;have h8:j<=8:=o_
      obtain⟨hz,ha⟩:=HZ.out o_;rw[hz];exact amf h8 ha hq h128
     case measure=>simp[intOf];omega
    ·have h128':(q.toNat:Int)<128:=o_
     have aeO:IntKind.u64.wrap (q.toNat:Int)=(q.toNat:Int):=by
      rw[aq0];omega
     have ano:IntKind.i64.wrap ((j:Int)+1)=j+1:=IntWalk.i64_in _ o_;have hr:=HRR.out;rw[HD.out]at hr;unfold gB at hr;rw[if_neg h128]at hr;have Yn:=aqc h128;clear h128;by_cases h0:j=0
     ·have hj0:¬ (0:Int)<(j:Int):=o_
      have h9':((j:Int)==9)=false:=by rw[beq_eq_false_iff_ne];omega
      rw[if_neg o_]at hr;have H0:=aqc h0;clear h0;go_wp2_with fail;go_ret3;have h0:=H0.out;have hv:=abu (acc:=acc) o_ (HZ.out o_).2 (by have:=Yn.out;omega:q.toNat<128) o_;rw[<-hr,(HZ.out o_).1,hv];simp
     ·have hj0:(0:Int)<(j:Int):=o_
      by_cases hq0:q.toNat=0
      ·rw[if_pos (Or.inl ⟨o_,hq0⟩)]at hr;have aeP:(q.toNat:Int)=0:=o_
       rw[aeP]at hcell;go_wp2_with fail;go_ret3;rw[<-hr];simp
      ·have aeP:((q.toNat:Int)==0)=false:=by rw[beq_eq_false_iff_ne];omega
       by_cases h9:j=9
       ·have h9':((j:Int)==9)=true:=by rw[beq_iff_eq];omega
        have H9:=aqc h9;by_cases hq1:1<q.toNat
        ·have hq1':(1:Int)<(q.toNat:Int):=o_
         rw[if_pos (Or.inr ⟨h9,hq1⟩)]at hr;clear h9;go_wp2_with fail;go_ret3;rw[<-hr];simp
        ·have hq1':¬ (1:Int)<(q.toNat:Int):=o_
         rw[if_neg o_]at hr;clear h9;go_wp2_with fail;go_ret3;have h9:=H9.out;have hv:=abu (acc:=acc) o_ (HZ.out o_).2 (by have:=Yn.out;omega:q.toNat<128) o_;rw[<-hr,(HZ.out o_).1,hv];simp
       ·have h9':((j:Int)==9)=false:=by rw[beq_eq_false_iff_ne];omega
        rw[if_neg o_]at hr;go_wp2_with fail;go_ret3;have hv:=abu (acc:=acc) o_ (HZ.out o_).2 (by have:=Yn.out;omega:q.toNat<128) o_;rw[<-hr,(HZ.out o_).1,hv];simp
   ·have hjn:j=n:=o_
    subst hjn;have hr:=HRR.out;rw[aqU o_]at hr;unfold gB at hr;by_cases h9:j=10
    ·have h9':((j:Int)==10)=true:=by rw[beq_iff_eq];omega
     rw[if_pos h9]at hr;go_wp2_with fail;go_ret3;rw[<-hr];simp
    ·have h9':((j:Int)==10)=false:=by rw[beq_eq_false_iff_ne];omega
     rw[if_neg h9]at hr;go_wp2_with fail;go_ret3;rw[<-hr];simp
theorem OT:∀(l:List UInt8)(i acc:Nat),(gB l i acc).2.1<=i+l.length
 |[],i,acc=>by unfold gB;split<;>simp
 |c::r,i,acc=>by
  unfold gB;split
  ·have:=OT r (i+1) (acc+(c.toNat-128)*128^i);simp only[aoE];omega
  ·split<;>simp
theorem zI(l:List UInt8):(cO l).2.1<=l.length:=by
 have:=OT (l.take 10) 0 0;rw[aou]at this;unfold cO;omega
abbrev Sq:=Nat×Int
def iC(bs:List UInt8)(lo hi:Int)(s:Sq):Int×Sq:=
 if s.2≠0 then(0,s)
 else if bs.length<=s.1 then(0,(s.1,2))
 else if lo<=((bs.getD s.1 0).toNat:Int)/\((bs.getD s.1 0).toNat:Int)<=hi then(((bs.getD s.1 0).toNat:Int),(s.1+1,0))
 else(0,(s.1+1,3))
def jy(bs:List UInt8)(lo hi:Int)(s:Sq):Int×Sq:=
 if s.2≠0 then(0,s)
 else if(cO (bs.drop s.1)).2.2≠0 then(0,(s.1,(cO (bs.drop s.1)).2.2))
 else if lo<=((cO (bs.drop s.1)).1:Int)/\((cO (bs.drop s.1)).1:Int)<=hi then(((cO (bs.drop s.1)).1:Int),(s.1+(cO (bs.drop s.1)).2.1,0))
 else(0,(s.1,3))
def NI(bs:List UInt8)(u n:Nat):ByteArray:=⟨((bs.drop u).take n).toArray⟩
def jl(bs:List UInt8)(size:Int)(may:ByteArray->Int)(s:Sq):ByteArray×Sq:=
 if s.2≠0 then(⟨#[]⟩,s)
 else if((bs.length:Int)-s.1<size)then(⟨#[]⟩,(s.1,2))
 else(NI bs s.1 size.toNat,(s.1+size.toNat,if may (NI bs s.1 size.toNat)=0 then 0 else 3))
def OU(bs:List UInt8)(r:Int)(j:Nat)(s:Sq):Int×Sq:=if(j:Int)=r then(0,s)else jy bs 0 1048576 s
def aV.put(c:aV)(r v:Int):aV:=
 if r=0 then{c with c0:=v}else if r=1 then{c with c1:=v}else if r=2 then{c with c2:=v}else if r=3 then{c with c3:=v}else{c with c4:=v}
def aV.akR(c:aV):Nat->Int->aV
 |0,v=>{c with c0:=v}
 |1,v=>{c with c1:=v}
 |2,v=>{c with c2:=v}
 |3,v=>{c with c3:=v}
 |_,v=>{c with c4:=v}
def Ky(bs:List UInt8)(r:Int)(s:Sq):Nat->aV×Sq
 |0=>(⟨0,0,0,0,0⟩,s)
 |j+1=>((Ky bs r s j).1.akR j (OU bs r j (Ky bs r s j).2).1,(OU bs r j (Ky bs r s j).2).2)
def Kz(bs:List UInt8)(r:Int)(s:Sq):aV×Sq:=Ky bs r s 5
def nM(bs:List UInt8)(s:Sq):Ev×Sq:=
 let k:=iC bs 1 5 s;let r:=iC bs 0 4 k.2;let n:=jy bs 1 1048576 r.2;let c:=Kz bs r.1 n.2;let h:=jy bs 1 16777216 c.2;let ks:=iC bs 1 8 h.2;let key:=jl bs ks.1 keyE ks.2;if jF k.1 then
  let l:=iC bs 0 1 key.2;let vs:=iC bs 1 12 l.2;let v:=jl bs vs.1 lQ vs.2;(⟨r.1,n.1,c.1.put r.1 (n.1-1),h.1,k.1,key.1,l.1,v.1⟩,v.2)
 else(⟨r.1,n.1,c.1.put r.1 (n.1-1),h.1,k.1,key.1,0,⟨#[]⟩⟩,key.2)
theorem aia{s:Sq}(h:s.1<=bs.length):(iC bs lo hi s).2.1<=bs.length:=by
 unfold iC;split;exact h;split;exact h;split<;>dsimp only<;>omega
theorem KA{s:Sq}:(iC bs lo hi s).1=0\/(lo<=(iC bs lo hi s).1/\(iC bs lo hi s).1<=hi):=by
 unfold iC;split
 ·exact Or.inl rfl
 ·split
  ·exact Or.inl rfl
  ·split
   ·rename_i h;exact Or.inr h
   ·exact Or.inl rfl
def uX(l:List UInt8):Nat:=(l.map λ b=>b.toNat).sum
theorem Ja:∀l:List UInt8,uX l<=255*l.length
 |[]=>by simp[uX]
 |b::l=>by
  have:=Ja l;have:=apv b;simp only[uX,apd,List.sum_cons,aoE]at*;omega
theorem OV(h:j<l.length):uX (l.take (j+1))=uX (l.take j)+(l.getD j 0).toNat:=by
 rw[apB,aom h,List.getD,aom h,uX,apt,List.sum_append];simp[uX]
theorem Va(h:l.length<=j):uX (l.take j)=uX l:=by rw[aoF h]
def ks3(n:Nat):ByteArray:=if(n:Int)%3=0 then⟨#[97,110,110]⟩else if(n:Int)%3=1 then⟨#[98,111,98]⟩else⟨#[99,121]⟩
def vs4(n:Nat):ByteArray:=if(n:Int)%4=0 then⟨#[49]⟩else if(n:Int)%4=1 then⟨#[116,119,111]⟩else if(n:Int)%4=2 then⟨#[0,255]⟩else⟨#[116,119,101,108,118,101,32,98,121,116,101,115]⟩
def kX(x m:Int):Int:=IntKind.i64.wrap ((BitVec.ofInt IntKind.i64.bits x&&&BitVec.ofInt IntKind.i64.bits m).toNat:Int)
def m5(x:Int):Int:=(x.tmod 5+5)%5
def vT(e:Ed):Ed:=
 if 2<1+m5 e.k then⟨1+m5 e.k,ks3 (uX e.key.data.toList),kX e.l 1,vs4 (uX e.v.data.toList)⟩else⟨1+m5 e.k,ks3 (uX e.key.data.toList),0,⟨#[]⟩⟩
theorem ajX(k:Int): -5<k.tmod 5/\k.tmod 5<5:=by
 have h1:=aqy k (show(0:Int)<5 by decide);have h2:=Int.lt_tmod_of_pos k (show(0:Int)<5 by decide);omega
theorem En(x:Int)(m:Nat)(hm:m<=4294967296):0<=kX x (m:Int)/\kX x (m:Int)<=m:=by
 have h:(BitVec.ofInt 64 x&&&BitVec.ofInt 64 (m:Int)).toNat<=m:=by
  rw[BitVec.toNat_and,BitVec.ofInt_natCast,BitVec.toNat_ofNat];exact ao7 Nat.and_le_right (Nat.mod_le _ _)
 show 0<=IntKind.i64.wrap ((BitVec.ofInt 64 x&&&BitVec.ofInt 64 (m:Int)).toNat:Int)/\IntKind.i64.wrap ((BitVec.ofInt 64 x&&&BitVec.ofInt 64 (m:Int)).toNat:Int)<=m;rw[IntKind.wrap_i64];omega
theorem aib(x:Int):0<=kX x 16777215/\kX x 16777215<=16777215:=En x 16777215 o_
theorem akS(x:Int):0<=kX x 1/\kX x 1<=1:=En x 1 o_
theorem Rm.m3{a:Int}(h:0<=a)(h0:a%3=0->K 0)(h1:a%3=1->K 1)(h2:a%3=2->K 2):Rm a 3 K:=by
 refine .pos h o_ ?_;rcases(show a%3=0\/a%3=1\/a%3=2 by omega)with e|e|e
 ·rw[e];exact h0 e
 ·rw[e];exact h1 e
 ·rw[e];exact h2 e
theorem Rm.m4{a:Int}(h:0<=a)(h0:a%4=0->K 0)(h1:a%4=1->K 1)(h2:a%4=2->K 2)(h3:a%4=3->K 3):Rm a 4 K:=by
 refine .pos h o_ ?_;rcases(show a%4=0\/a%4=1\/a%4=2\/a%4=3 by omega)with e|e|e|e
 ·rw[e];exact h0 e
 ·rw[e];exact h1 e
 ·rw[e];exact h2 e
 ·rw[e];exact h3 e
def ajY:List AV:=[.v (.string ⟨#[97,110,110]⟩),.v (.string ⟨#[98,111,98]⟩),.v (.string ⟨#[99,121]⟩)]
def ajZ:List AV:=[.v (.string ⟨#[49]⟩),.v (.string ⟨#[116,119,111]⟩),.v (.string ⟨#[0,255]⟩),.v (.string ⟨#[116,119,101,108,118,101,32,98,121,116,101,115]⟩)]
def edZ:List AV:=[.v (.int .i64 0),.v (.string ⟨#[]⟩),.v (.int .i64 0),.v (.string ⟨#[]⟩)]
theorem KC(e:Ed)(hk:e.key.size<=140737488355328)(hv:e.v.size<=140737488355328):aH prog 18 [e.av] (vT e).av []:=by
 obtain⟨k,key,l,v⟩:=e;dsimp only at hk hv;obtain⟨ht1,ht2⟩:=ajX k;refine K1.E 0x200000400103ff func18 ?_
 conv=>whnf
 refine aI.mk {j:Nat//j<=key.size} (λ j=>⟨[(1,.box 0 0),(2,.box 1 0),(3,.box 2 0),(4,.box 3 0),(5,.v (.int .i64 (uX (key.data.toList.take j.1):Int))),(6,.v (.int .i64 (j.1:Int)))],
  [(0,.box 35 [.v (.int .i64 k),.v (.string key),.v (.int .i64 l),.v (.string v)]),(1,.box 35 edZ),(2,.box 92 ajY),(3,.box 93 ajZ)],[],4⟩) (λ j=>key.size-j.1) ⟨0,aoB _⟩ _
  (dO.mk' [] _ _ _ rfl ⟨au,au,au,au,aY.int (by simp[uX]),aY.int rfl,trivial⟩ ⟨ay rfl,ay rfl,ay rfl,ay rfl,trivial⟩ rfl) ?_
 rintro⟨j,hj⟩;dsimp only;have hb1:=Ja (key.data.toList.take j);rw[aou]at hb1;have hb2:=apv (key.data.toList.getD (j:Int).toNat 0);repeat' ((conv=>whnf);first|refine K1.u ?_|refine K1.y (λ _=>?_) (λ _=>?_)|fail)
 ·rename_i hlt;refine⟨⟨j+1,o_⟩,_,dO.mk' [] _ _ _ rfl ⟨au,au,au,au,aY.int ?_,aY.int ?_,trivial⟩ ⟨ay rfl,ay rfl,ay rfl,ay rfl,trivial⟩ rfl, ?_⟩
  ·rw[OV (by rw[AB];omega)];simp
  ·simp
  ·show key.size-(j+1)<key.size-j;omega
 rename_i hge;have hje:uX (key.data.toList.take j)=uX key.data.toList:=Va (by rw[AB];omega);rw[hje]at*;clear hb2 hge hj hb1 hje;have hb1:=Ja key.data.toList;rw[AB]at hb1;conv=>whnf
 refine aI.mk {j:Nat//j<=v.size} (λ j=>⟨[(1,.box 0 0),(2,.box 1 0),(3,.box 2 0),(4,.box 3 0),(5,.v (.int .i64 (uX key.data.toList:Int))),(7,.v (.int .i64 (uX (v.data.toList.take j.1):Int))),(8,.v (.int .i64 (j.1:Int)))],
  [(0,.box 35 [.v (.int .i64 k),.v (.string key),.v (.int .i64 l),.v (.string v)]),(1,.box 35 edZ),(2,.box 92 ajY),(3,.box 93 ajZ)],[],4⟩) (λ j=>v.size-j.1) ⟨0,aoB _⟩ _
  (dO.mk' [] _ _ _ rfl ⟨au,au,au,au,au,aY.int (by simp[uX]),aY.int rfl,trivial⟩ ⟨ay rfl,ay rfl,ay rfl,ay rfl,trivial⟩ rfl) ?_
 rintro⟨j,hj⟩;dsimp only;have hb3:=Ja (v.data.toList.take j);rw[aou]at hb3;have hb2:=apv (v.data.toList.getD (j:Int).toNat 0);repeat' ((conv=>whnf);first|refine K1.u ?_|refine Rm.m3 o_ (λ _=>?_) (λ _=>?_) (λ _=>?_)|refine Rm.m4 o_ (λ _=>?_) (λ _=>?_) (λ _=>?_) (λ _=>?_)|refine Rm.pos o_ o_ ?_|refine Rm.ank ?_|refine aU.fF ?_|refine K1.o (id:=13) (nN [0,1,2,3,4,5,6,7,8,9,10] [(11,some []),(12,some [9,7,5,4,3,2,1])]) ?_|refine K1.z ?_|refine K1.y (λ _=>?_) (λ _=>?_)|fail)
 ·rename_i hlt;refine⟨⟨j+1,o_⟩,_,dO.mk' [] _ _ _ rfl ⟨au,au,au,au,au,aY.int ?_,aY.int ?_,trivial⟩ ⟨ay rfl,ay rfl,ay rfl,ay rfl,trivial⟩ rfl, ?_⟩
  ·rw[OV (by rw[AB];omega)];simp
  ·simp
  ·show v.size-(j+1)<v.size-j;omega
 all_goals(conv=>whnf)
 all_goals refine bn.mk (aY.of ?_)
 all_goals(rw[Va (show v.data.toList.length<=j by rw[AB];omega)]at*)
 all_goals simp only[vT,ks3,vs4,m5,kX,Ed.av, *,if_true,if_false,Int.reduceEq,Int.one_ne_zero]
theorem Wr.a24{x:Int}(h:K (1+kX x 16777215)):Wr (1+IntKind.i64.wrap ((BitVec.ofInt IntKind.i64.bits x&&&BitVec.ofInt IntKind.i64.bits 16777215).toNat:Int)) K .i64:=by
 have:=aib x;exact .i64 (show-9223372036854775808<=1+kX x 16777215 by omega) (show 1+kX x 16777215<=9223372036854775807 by omega) h
theorem Rm.m5{a:Int}(h:0<=a)(h0:a%5=0->K 0)(h1:a%5=1->K 1)(h2:a%5=2->K 2)(h3:a%5=3->K 3)(h4:a%5=4->K 4):Rm a 5 K:=by
 refine .pos h o_ ?_;rcases(show a%5=0\/a%5=1\/a%5=2\/a%5=3\/a%5=4 by omega)with e|e|e|e|e
 ·rw[e];exact h0 e
 ·rw[e];exact h1 e
 ·rw[e];exact h2 e
 ·rw[e];exact h3 e
 ·rw[e];exact h4 e
theorem KD(c:aV)(r n:Int):aH prog 85 [c.av,.v (.int .i64 r),.v (.int .i64 n)] (.v (.bool (hasB c r n))) []:=by
 obtain⟨c0,c1,c2,c3,c4⟩:=c;dsimp only[aV.av];by_cases hr:r=0\/r=1\/r=2\/r=3\/r=4
 ·rcases hr with rfl|rfl|rfl|rfl|rfl;all_goals
   refine K1.E 0x4f func85 ?_;repeat' ((conv=>whnf);first|refine K1.u ?_|refine aU.fF ?_|refine K1.z ?_|refine K1.y (λ _=>?_) (λ _=>?_)|fail)
   all_goals(conv=>whnf)
   all_goals(refine bn.mk (aY.of ?_))
   all_goals simp[hasB,aV.get, *]
 ·have h:¬ (0<=r/\r<5):=o_
  refine K1.E 0x4f func85 ?_;repeat' ((conv=>whnf);first|refine K1.u ?_|refine aU.fF ?_|refine K1.y (λ _=>?_) (λ _=>?_)|fail)
  all_goals(conv=>whnf)
  all_goals(refine bn.mk (aY.of ?_))
  all_goals(simp[hasB];try omega)
theorem xE(a b:Ev):aH prog 194 [a.av,b.av] (.v (.bool (aP a b))) []:=by
 have h:=KD b.c a.r a.n;obtain⟨q,hq⟩:∃q,hasB b.c a.r a.n=q:=⟨_,rfl⟩;rw[hq]at h;rw[show aP a b=q from hq];dsimp only[Ev.av,Ev.cs,aV.av]at h⊢;refine K1.E 0x1f func194 ?_;repeat' ((conv=>whnf);first|refine K1.P1 h ?_|refine aU.fF ?_|refine K1.y (λ _=>?_) (λ _=>?_)|fail)
 all_goals(conv=>whnf)
 all_goals(refine bn.mk (aY.of ?_))
 all_goals simp[*]
theorem sV(a b:Ev):aH prog 155 [a.av,b.av] (.v (.bool (gu a b))) []:=by
 dsimp only[Ev.av,Ev.cs];refine K1.E 0x1f func155 ?_;repeat' ((conv=>whnf);first|refine aU.fF ?_|refine K1.y (λ _=>?_) (λ _=>?_)|fail)
 all_goals(conv=>whnf)
 all_goals(refine bn.mk (aY.of ?_))
 all_goals simp[gu, *]
theorem Yo(a b:Ev):aH prog 195 [a.av,b.av] (.v (.bool (tY a b))) []:=by
 have h:=sV a b;obtain⟨q,hq⟩:∃q,gu a b=q:=⟨_,rfl⟩;rw[hq]at h;rw[show tY a b=(q&&decide (a.l=b.l)) by rw[<-hq];rfl];dsimp only[Ev.av,Ev.cs]at h⊢;refine K1.E 0x1f func195 ?_;repeat' ((conv=>whnf);first|refine K1.P1 h ?_|refine aU.fF ?_|refine K1.y (λ _=>?_) (λ _=>?_)|fail)
 all_goals(conv=>whnf)
 all_goals(refine bn.mk (aY.of ?_))
 all_goals simp[*]
theorem KE(a b:Ev):aH prog 157 [a.av,b.av] (.v (.bool (lJ a b))) []:=by
 have h:=Yo a b;obtain⟨q,hq⟩:∃q,tY a b=q:=⟨_,rfl⟩;rw[hq]at h;rw[show lJ a b=(q&&decide (a.v=b.v)) by rw[<-hq];rfl];dsimp only[Ev.av,Ev.cs]at h⊢;refine K1.E 0x1f func157 ?_;repeat' ((conv=>whnf);first|refine K1.P1 h ?_|refine aU.fF ?_|refine K1.y (λ _=>?_) (λ _=>?_)|fail)
 all_goals(conv=>whnf)
 all_goals(refine bn.mk (aY.of ?_))
 all_goals simp[*]
end Go.Proofs.YtifjccndenojlaaGreat
