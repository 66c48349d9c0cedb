/-
  Contracts of the walk:AmUse,Bs0,Txt,RcD,Var,VTake,TkPlain.
-/
import Derived.Test.YtopfgjgdadnjeaaGreatHp5
import Derived.Test.YtopfgjgdadnjeaaGreatHp6
import Derived.Test.YtopfgjgdadnjeaaGreatHp1
import Derived.Test.YtopfgjgdadnjeaaGreatHp2
import Derived.WalkSpells
import Derived.WalkLawsBesides
import Derived.Test.YtopfgjgdadnjeaaGreatChecked
import Derived.Handy
import Derived.Laws.BitsAllLaws
set_option maxHeartbeats 16000000
set_option maxRecDepth 100000
set_option linter.unusedVariables false
set_option linter.unusedSimpArgs false
namespace Go.Proofs.YtopfgjgdadnjeaaGreat
open Go.RowKit
variable{st:AS}{r x:AV}{sc:Bool}{s:ByteArray}{hi lo:Int}{K:Int->Prop}{bs l:List UInt8}{acc i j n:Nat}{f:Nat->List AV}{P:Program}{α:Type}{e:TypeId}
theorem aO.int{st:AS}{x:AV}{k:IntKind}{n m:Int}(hx:Si st.heap x= .v (.int k n))(h:n=m):aO st x (.v (.int k m)) []:= .plain _ (by rw[hx,h];exact bI.refl _)
theorem aO.bool{st:AS}{x:AV}{b c:Bool}(hx:Si st.heap x= .v (.bool b))(h:b=c):aO st x (.v (.bool c)) []:= .plain _ (by rw[hx,h];exact bI.refl _)
theorem aO.same(hx:Si st.heap x=r):aO st x r []:= .plain _ (by rw[hx];exact bI.refl _)
def aaV:AV->Option Nat
 | .own i=>some i
 |_=>none
def aaW:List AV->Option Nat
 |[]=>none
 |x::l=>match aaV x with|some i=>some i|none=>aaW l
def abZ:AV->Option Nat
 | .own i=>some i
 | .agg cs=>aaW cs
 | .bJ vs=>aaW vs
 |_=>none
theorem aO.o8(d:Nat){id:Nat}{s:Nat}{o':AO}(_hid:abZ x=some id)(hf:aQ id st.heap=some (.row e s n sc f))(ho:fP (.row e s n sc f) o')(hr:bI (abJ st.heap id d x) r):aO st x r [(d,o')]:=
 .own id d r e s n sc f o' hf ho hr
def addN(k i:Nat)(σ:List (Nat×Nat)):List (Nat×Nat):=bif RY σ i then σ else(k,i)::σ
def Wp:List AV->List AV->List (Nat×Nat)->List (Nat×Nat)
 | .own k::xs,.own i::ys,σ=>Wp xs ys (addN k i σ)
 |_::xs,_::ys,σ=>Wp xs ys σ
 |_,_,σ=>σ
def QM(st:AS):List (Nat×AV)->List (Nat×Nat)->List (Nat×Nat)
 |[],σ=>σ
 |(t,.own i)::l,σ=>QM st l (match xU st.sl t with| .own k=>addN k i σ|_=>σ)
 |(t,.box i _)::l,σ=>QM st l (match xU st.sl t with| .box k _=>addN k i σ|_=>σ)
 |_::l,σ=>QM st l σ
def aal(i:Nat):List (Nat×Nat)->Nat
 |[]=>i
 |(k,j)::r=>bif Nat.beq i j then k else aal i r
def Wq(st:AS):List (Nat×AO)->List (Nat×Nat)->List (Nat×Nat)
 |[],σ=>σ
 |(i,.box _ ys)::l,σ=>Wq st l (match aQ (aal i σ) st.heap with|some (.box _ xs)=>Wp xs ys σ|_=>σ)
 |_::l,σ=>Wq st l σ
def yu(st:AS)(l:List (Nat×AV))(h:List (Nat×AO)):List (Nat×Nat):=Wq st h (QM st l [])
theorem iw.mk'{st:AS}(σ:List (Nat×Nat))(l:List (Nat×AV))(h:List (Nat×AO))(b:Nat)(nd:nodupB (σ.map (·.2))=true)(ht:LeT (st.ren σ) l)(hh:LeH (st.ren σ) h)(hn:nodupB (h.map (·.1))=true):iw σ st ⟨l,h,(st.ren σ).back,b⟩:=
 ⟨nd,let k:=LeS.mk' l h ht hh hn;⟨k.tm,k.hp,k.nd,k.bk⟩⟩
theorem iw.auto(l:List (Nat×AV))(h:List (Nat×AO))(b:Nat)(nd:nodupB ((yu st l h).map (·.2))=true)(ht:LeT (st.ren (yu st l h)) l)(hh:LeH (st.ren (yu st l h)) h)(hn:nodupB (h.map (·.1))=true):iw (yu st l h) st ⟨l,h,(st.ren (yu st l h)).back,b⟩:=
 iw.mk' _ l h b nd ht hh hn
theorem aO.hd(h:hd2 (Si st.heap x) (λ y=>bI y r)):aO st x r []:= .plain _ (by rw[Je]at h;exact h)
structure aW(x y:AV):Prop where
 h:bI x y
theorem aO.dW(h:hd2 (Si st.heap x) (λ y=>aW y r)):aO st x r []:= .plain _ (by rw[Je]at h;exact h.h)
theorem bI.int{k:IntKind}{n m:Int}(h:n=m):bI (.v (.int k n)) (.v (.int k m)):=by rw[h];exact bI.refl _
theorem bI.str{x y:ByteArray}(h:x=y):bI (.v (.string x)) (.v (.string y)):=by rw[h];exact bI.refl _
theorem bI.of{y:AV}(h:x=y):bI x y:=by rw[h];exact bI.refl _
theorem bI.sl{s n n':Nat}{sc:Bool}{f f':Nat->List AV}(hn:n=n')(hf:∀i,i<n->f i=f' i):bI (.sl s n sc f) (.sl s n' sc f'):=by
 subst hn;intro X u h;cases C2.uw h with
 |sl _ _ _ _ A c us hs0 hnc hcc hl hfl hsc hu' hr=>
  rw[qx hf]at hsc hu';exact .sl s n sc f' A c us hs0 hnc hcc hl (λ i hi=>by rw[<-hf i hi];exact hfl i hi) hsc hu' hr
theorem fP.row{e:TypeId}{s n n':Nat}{sc:Bool}{f f':Nat->List AV}(hn:n=n')(hf:∀i,i<n->f i=f' i):fP (.row e s n sc f) (.row e s n' sc f'):=by
 subst hn;rintro X id ⟨us,hown,hs,hfl,hsc,ha⟩;rw[qx hf]at hsc ha;exact⟨us,hown,hs,λ i hi=>by rw[<-hf i hi];exact hfl i hi,hsc,ha⟩
theorem Dt.auto{hin:List (Nat×AO)}{hout:List (Nat×AO)}(nd:nodupB ((yu st [] hout).map (·.2))=true)(fx:EN hout (st.ren (yu st [] hout)).back 0 hin=true)(hp:LeH (st.ren (yu st [] hout)) hout)
 (hn:nodupB (hout.map (·.1))=true)(hc:iF hout hout=true)(hr:bI (VR (st.ren (yu st [] hout)).heap hout (Bj (yu st [] hout) x)) r):∃σ,Dt hin σ st x r hout:=⟨_,nd,fx,hp,hn,hc,hr⟩
theorem Wr.b64{b:UInt8}(h:K (b.toNat:Int)):Wr (b.toNat:Int) K .i64:=by have:=UInt8.toNat_lt b;exact .i64 (by omega) (by omega) h
theorem Wr.acN{b:UInt8}(h:K (b.toNat:Int)):Wr (b.toNat:Int) K .u64:=by have:=UInt8.toNat_lt b;exact .u64 (by omega) (by omega) h
theorem Wr.bu32{b:UInt8}(h:K (b.toNat:Int)):Wr (b.toNat:Int) K .u32:=by have:=UInt8.toNat_lt b;exact .u32 (by omega) (by omega) h
theorem Wr.bu8{b:UInt8}(h:K (b.toNat:Int)):Wr (b.toNat:Int) K .u8:=by have:=UInt8.toNat_lt b;exact .u8 (by omega) (by omega) h
theorem fP.box1{t:TypeId}{k:IntKind}{x y:Int}(h:x=y):fP (.box t [.v (.int k x)]) (.box t [.v (.int k y)]):=by rw[h];exact fP.refl _
def qP{α:Type}[Inhabited α](c:α->List AV)(l:List α):Nat->List AV:=λ i=>c (l.getD i default)
theorem els_app[Inhabited α]{c:α->List AV}{l l':List α}(hn:n=l.length):∀i,kJ n (qP c l) (qP c l') i=qP c (l++l') i:=by
 intro i;subst hn;unfold kJ qP;cases hb:Nat.ble l.length i with
 |true=>
  have:=Nat.le_of_ble_eq_true hb;simp only[cond_true];congr 1;rw[List.getD,List.getD,List.getElem?_append_right this]
 |false=>
  have:i<l.length:=Nat.lt_of_not_le λ h=>by rw[Nat.ble_eq_true_of_le h]at hb;cases hb
  simp only[cond_false];congr 1;rw[List.getD,List.getD,List.getElem?_append_left this]
theorem jX[Inhabited α]{c:α->List AV}{l:List α}{x:α}{g:Nat->List AV}(hn:n=l.length)(hg:g 0=c x):∀i,i<n+1->kJ n (qP c l) g i=qP c (l++[x]) i:=by
 intro i hi;rw[<-els_app hn];unfold kJ;cases hb:Nat.ble n i with
 |true=>
  have:=Nat.le_of_ble_eq_true hb;have e:i-n=0:=by omega
  simp only[cond_true,e,hg];rfl
 |false=>rfl
def bC(b:UInt8):List AV:=[.v (.int .u8 (b.toNat:Int))]
abbrev aG(bs:List UInt8):Nat->List AV:=qP bC bs
def byteOf'(n:Int):UInt8:=UInt8.ofNat n.toNat
theorem wu{n:Int}(h0:0<=n)(h1:n<=255):((byteOf' n).toNat:Int)=n:=by
 unfold byteOf';rw[UInt8.toNat_ofNat',Nat.mod_eq_of_lt (by omega)];omega
def aS(F:Nat->List AV)(l:List UInt8):Prop:= ∀i,i<l.length->F i=aG l i
theorem aS.bytes(l:List UInt8):aS (aG l) l:=λ _ _=>rfl
theorem aS.str(s:ByteArray):aS (λ i=>[.v (.int .u8 ((s.data.toList.getD i 0).toNat:Int))]) s.data.toList:=λ _ _=>rfl
theorem aS.nil(F:Nat->List AV):aS F []:=λ i h=>absurd h (by simp)
theorem aS.app{F G:Nat->List AV}{l':List UInt8}(h:aS F l)(h':aS G l')(hn:n=l.length):aS (kJ n F G) (l++l'):=by
 intro i hi;rw[List.length_append]at hi;show _=qP bC (l++l') i;rw[<-els_app hn];unfold kJ;cases hb:Nat.ble n i with
 |true=>
  have:=Nat.le_of_ble_eq_true hb;exact h' (i-n) (by omega)
 |false=>
  have:i<n:=Nat.lt_of_not_le λ h=>by rw[Nat.ble_eq_true_of_le h]at hb;cases hb
  exact h i (by omega)
theorem aS.one{x:Int}(h0:0<=x)(h1:x<=255):aS (chunk 1 [.v (.int .u8 x)]) [byteOf' x]:=by
 intro i hi;have e:i=0:=by simpa using hi
 subst e;show [AV.v (.int .u8 x)]=[AV.v (.int .u8 ((byteOf' x).toNat:Int))];rw[wu h0 h1]
theorem aS.two{x y:Int}(h0:0<=x)(h1:x<=255)(k0:0<=y)(k1:y<=255):aS (chunk 1 [.v (.int .u8 x),.v (.int .u8 y)]) [byteOf' x,byteOf' y]:=by
 intro i hi;have e:i=0\/i=1:=by simp at hi;omega
 rcases e with rfl|rfl
 ·show [AV.v (.int .u8 x)]=[AV.v (.int .u8 ((byteOf' x).toNat:Int))];rw[wu h0 h1]
 ·show [AV.v (.int .u8 y)]=[AV.v (.int .u8 ((byteOf' y).toNat:Int))];rw[wu k0 k1]
theorem JE(s:ByteArray):s.data.toList.length=s.size:=rfl
theorem fP.lH{F:Nat->List AV}{t:List UInt8}(h:aS F l)(hn:n=l.length)(ht:l=t):fP (.row e 1 n sc F) (.row e 1 t.length sc (aG t)):=by
 subst ht;exact fP.row hn λ i hi=>h i (by omega)
theorem fV.into{L:Lay}{f:FuncId}{bD:List AV}{K:AV->AS->Prop}{d:Nat}(lv:Nat)(fn:Func)(c:Code)(hf:P.funcs[f]? =some fn)(hn:(fn.name== "runtime.NumGoroutine")=false)(hb:fn.body=some c)(hsz:Nat.ble bD.length fn.ntmps=true)
  (h:Qv st bD (kD P L (Cm P L n) fn.ntmps lv c (λ e st'=>match e with| .exit _=>False| .normal=>qO L st' fn.results.toList (λ x=>xW (st'.out) (K x))| .ret=>qO L st' fn.results.toList (λ x=>xW (st'.out) (K x))))):fV P L (Cm P L (n+1)) d f bD st K:=
 .inl lv fn c hf hn hb hsz h
theorem OZ{f:FuncId}{xs:List Value}{r:Value}(he:Enters P f)(h:∀w,Calls P f xs.toArray w λ e w'=>e= .returned r/\Below w.heap.size w w'):aC P f (xs.map .v) (.v r) []:=by
 refine⟨he,λ w keep args _ hargs=> ?_⟩;have e:args=xs:=H6 hargs;subst e;exact(h w).mono λ e w' ⟨h1,h2⟩=>⟨r,λ _=>undef,h1,h2,rfl,(λ p hp=>by cases hp),by simp[ah],(λ b hb=>by simp[ah]at hb)⟩
where
 H6 {X:CX}:∀{xs us:List Value},aN (C1 X) (xs.map .v) us->us=xs
  |[],us,h=>by
   have:=h.1;simp at this;exact List.eq_nil_of_length_eq_zero this.symm
  |x::xs,[],h=>by have:=h.1;simp at this
  |x::xs,u::us,h=>by
   have h0:u=x:=h.2 0 _ _ rfl rfl;have:=H6 (xs:=xs) (us:=us) ⟨by simpa using h.1,λ i a b ha hb=>h.2 (i+1) a b (by simpa using ha) (by simpa using hb)⟩;rw[h0,this]
theorem aC.thaw{P:Program}{f:FuncId}{bD:List AV}{r:AV}{d:Nat}{e:TypeId}{s n:Nat}{sc:Bool}{g:Nat->List AV}(hs:aC P f bD r [(d,.row e s n sc g)]):aC P f bD (D8 d (.sl s n sc g) r) []:=by
 refine⟨hs.1,λ w keep args hk ha=>(hs.2 w keep args hk ha).mono ?_⟩;rintro e0 w' ⟨u,ρ,h1,h2,h3,h4,h5,h6⟩;obtain⟨us,hown,hs0,hfl,hsc,hall⟩:=h4 _ (List.mem_singleton.2 rfl);have hown:w'.ownsRow 0 e s (ρ d) n us:=hown;have hall:aN (PC w' (aI (base0 w keep) w' ρ [(d,.row e s n sc g)])) (flat n g) us:=hall;have hkk:∀b,aI (base0 w keep) w' ρ [(d,.row e s n sc g)] b->aI (base0 w keep) w' ρ [] b:=λ b h=>⟨h.1,h.2.1,λ h'=>by simp[ah]at h'⟩;have hrow:PC w' (aI (base0 w keep) w' ρ []) (.sl s n sc g) (ρ d):=by
  have ha':=hall.imp λ _ _=>PC.mono hkk (λ _ _=>rfl);rcases hown.2 with⟨hv,hz⟩|⟨b,cap,cur,hv,hB,hh,hnc,hcm,_⟩
  ·rw[hv];subst hz;exact .sl s 0 sc g none 0 us hs0 (Nat.le_refl _) (by simp[maxLen]) hown.1 hfl hsc ha'.2 (.inl rfl)
  ·rw[hv];refine .sl s n sc g _ cap us hs0 hnc hcm hown.1 hfl hsc ha'.2 (.inr ⟨b,0,rfl,⟨(Array.getElem?_eq_some_iff.1 hh).1,λ hlt=> ?_,λ h'=>by simp[ah]at h'⟩,λ j u hj=> ?_⟩)
   ·have:=h6 b (aU.2 ⟨_,List.mem_singleton.2 rfl,by rw[hv];exact List.mem_cons_self⟩);exact absurd (show b<w.heap.size from hlt) (by omega)
   ·have:=hown.cells (g:=b) (by rw[hv];rfl) j u hj;rwa [Addr.add_lit]at this
 exact⟨u,ρ,h1,h2,C2.thaw (X:=aB (base0 w keep) w' ρ [(d,.row e s n sc g)]) (Y:=aB (base0 w keep) w' ρ []) hkk (λ _ _=>rfl) rfl (by show PC _ _ _ (fM (ρ d));rw[iO hown];exact hrow) h3,λ p hp=>(by cases hp),by simp[ah],λ b hb=>by simp[ah]at hb⟩
theorem aK.jA{body:(jK->AS->Prop)->AS->Prop}{Q:jK->AS->Prop}(t n:Nat)(_ht:st.tmps t= .v (.int .i64 0))(h:zK body Q n st):aK body Q st:= .rounds n h
inductive Ch:List AV->List AV->Prop where
 |nil:Ch [] []
 |same {x:AV} {xs ys:List AV}:Ch xs ys->Ch (x::xs) (x::ys)
 |of {x y:AV} {xs ys:List AV} (h:∀(X:CX)(u:Value),C1 X x u->C1 X y u):Ch xs ys->Ch (x::xs) (y::ys)
theorem Ch.all{X:CX}:∀{xs ys:List AV}{us:List Value},Ch xs ys->aN (C1 X) xs us->aN (C1 X) ys us
 |_,_,_,.nil,h=>h
 |_,_,[],.same _,h=>by have:=h.1;simp at this
 |_,_,[],.of _ _,h=>by have:=h.1;simp at this
 |_,_,u::us,.same k,h=>aN.cons (h.2 0 _ _ rfl rfl) (Ch.all k ⟨by simpa using h.1,λ i a b ha hb=>h.2 (i+1) a b (by simpa using ha) (by simpa using hb)⟩)
 |_,_,u::us,.of h0 k,h=>aN.cons (h0 X u (h.2 0 _ _ rfl rfl)) (Ch.all k ⟨by simpa using h.1,λ i a b ha hb=>h.2 (i+1) a b (by simpa using ha) (by simpa using hb)⟩)
theorem aC.args{P:Program}{f:FuncId}{bD bvs:List AV}{r:AV}{h:List (Nat×AO)}(hs:aC P f bvs r h)(hc:Ch bD bvs):aC P f bD r h:=
 ⟨hs.1,λ w keep args hk ha=>hs.2 w keep args hk (Ch.all hc ha)⟩
def acO(ops:List Oper):List (List Nat):=ops.foldl (λ t o=>t++[(o.after.toList.foldl (λ s e=>bif Region.binds .any e then e.on::(t.getD e.on []++s)else s) []).eraseDups]) []
def uOf(ops:List Oper)(sc:List (Nat×Option (List Nat))):List (Nat×List Nat):=
 let A:=yM sc;let t:=acO ops;let need:=A.flatMap (·.2)
 (List.range ops.length).filterMap λ k=>match A.find? (λ x=>Nat.beq x.1 k)with
   |some x=>some x
   |none=>match(t.getD k []).filter (λ x=>need.any (Nat.beq x))with
    |[]=>none
    |l=>some (k,l)
def nN:List Nat->List (Nat×Option (List Nat))->List (Nat×Option (List Nat))
 |[],r=>r
 |k::l,r=>(k,none)::nN l r
theorem aP:bI x x:=bI.refl x
theorem aY{h:List (Nat×AO)}{o:AO}(k:aQ i h=some o):∃q,aQ i h=some q/\fP q o:=⟨o,k,fP.refl o⟩
namespace K1
variable{A B p:Prop}
theorem a(h:A)(k:p:=by first|assumption|omega):lD p A B:= .yes k h
theorem b(h:B)(k:¬p:=by first|assumption|omega):lD p A B:= .no k h
theorem d{x:AV}(h:A)(k:aaT x=true:=by rfl):Still x x A:= .mk rfl k h
theorem q{W:Walk}{N id:Nat}{ops:Array Oper}{K:AS->Prop}{st:AS}(h:vk Tryz.prog lay W N ops.toList K ops.toList st)(h1:Region.lexB .any ops=true:=by kernel_rfl)(h2:ops.toList.all (λ o=>lS o.op)=true:=by rfl):kG Tryz.prog lay W N id ops K st:= .quiet nT h1 h2 h
class S(A:Prop)(s B:outParam Prop):Prop where
 go:s->B->A
class T(A:Prop)(s B:outParam Prop):Prop where
 go:s->B->A
class F(A:Prop)(p r X Y:outParam Prop):Prop where
 go:(p->X)->(r->Y)->A
section
variable{s C:Prop}{n m:Int}{N:Nat}{K:Int->Prop}{b:UInt8}{x:Bool}{Q:Nat->Prop}
instance:S (Wr n K .i64) (-9223372036854775808<=n/\n<=9223372036854775807) (K n):=⟨λ h q=> .i64 h.1 h.2 q⟩
instance:S (Wr n K .u64) (0<=n/\n<=18446744073709551615) (K n):=⟨λ h q=> .u64 h.1 h.2 q⟩
instance:S (Wr n K .u32) (0<=n/\n<=4294967295) (K n):=⟨λ h q=> .u32 h.1 h.2 q⟩
instance:S (Wr n K .u8) (0<=n/\n<=255) (K n):=⟨λ h q=> .u8 h.1 h.2 q⟩
instance:S (Wr (b.toNat:Int) K .i64) True (K (b.toNat:Int)):=⟨λ _ q=> .b64 q⟩
instance:S (Wr (b.toNat:Int) K .u64) True (K (b.toNat:Int)):=⟨λ _ q=> .acN q⟩
instance:S (Wr (b.toNat:Int) K .u32) True (K (b.toNat:Int)):=⟨λ _ q=> .bu32 q⟩
instance:S (Wr (b.toNat:Int) K .u8) True (K (b.toNat:Int)):=⟨λ _ q=> .bu8 q⟩
instance:S (KA n N A) (0<=n/\n<(N:Int)) A:=⟨λ h q=> .mk (Ja h.1 h.2) q⟩
instance:S (RJ p A) p A:=⟨.mk⟩
instance:T (qM n N Q) (0<=n/\n<(N:Int)) (Q n.toNat):=⟨λ h q=> .mk (Ja h.1 h.2) q⟩
instance:T (Vb A B p) True A:=⟨λ _ q=> .G5 q⟩
instance:T (Dv n m K) (0<=n/\0<m) (K (n/m)):=⟨λ h q=> .pos h.1 h.2 q⟩
instance:T (Rm n m K) (0<=n/\0<m) (K (n%m)):=⟨λ h q=> .pos h.1 h.2 q⟩
instance:F (lD p A B) p (¬p) A B:=⟨.mk⟩
instance:F (aau N A B) (N=0) True A B:=⟨λ f g=> .mk f (g trivial)⟩
instance(priority:=low):F (vM.match_1 (λ _=>Prop) x (λ _=>A) (λ _=>B)) (x=true) (x=false) A B:=⟨zI.mk⟩
instance[Decidable p]:F (vM.match_1 (λ _=>Prop) (decide p) (λ _=>A) (λ _=>B)) p (¬p) A B:=⟨zI.dec⟩
theorem w[c:S A s B](q:B)(k:s:=by first|exact True.intro|omega|assumption|exact⟨by first|omega|(dsimp only;omega),by first|omega|(dsimp only;omega)⟩):A:=c.go k q
theorem z[c:T A s B](q:B)(k:s:=by first|exact True.intro|omega):A:=c.go k q
theorem y{r X Y:Prop}[c:F A p r X Y](f:p->X)(g:r->Y):A:=c.go f g
theorem bt(h:A)(k:x=true:=by first|assumption|exact decide_eq_true (by first|assumption|omega)):zI x A B:= .yes k h
theorem bf(h:B)(k:x=false:=by first|assumption|exact decide_eq_false (by first|assumption|omega)):zI x A B:= .no k h
theorem u(q:B)(h:B->A:=by first|exact λ q=>K1.w q|exact λ q=>K1.a q|exact λ q=>K1.b q|exact λ q=>K1.d q|exact λ q=>K1.q q|exact λ q=>K1.bt q|exact λ q=>K1.bf q):A:=h q
end
section
variable{n N id:Nat}{ops:Array Oper}{K:AS->Prop}{st:AS}
theorem o(sc:List (Nat×Option (List Nat)))(h:uF Tryz.prog lay (Cm Tryz.prog lay n) N ops.toList false K sc [] st)(k:(Region.noSelect ops&&Nat.beq sc.length ops.size&&BD ops.toList sc (uOf ops.toList sc))=true:=by kernel_rfl):kG Tryz.prog lay (Cm Tryz.prog lay n) N id ops K st:= .sched cZ (fF cZ _) sc _ nT k h
theorem ok(sc:List (Nat×Option (List Nat)))(h:uF Tryz.prog lay (Cm Tryz.prog lay n) N ops.toList true K sc [] st)(k:(Region.noSelect ops&&Nat.beq sc.length ops.size&&BD ops.toList sc (uOf ops.toList sc))=true:=by kernel_rfl):kG Tryz.prog lay (Cm Tryz.prog lay n) N id ops K st:= .keep cZ (fF cZ _) sc _ nT k h
end
section
variable{P:Program}{L:Lay}{W:Walk}{d:Nat}{f:FuncId}{bD bs:List AV}{st:AS}{K:AV->AS->Prop}{r:AV}
theorem JF{h:List (Nat×AO)}:∀{xs ys:List AV},xs.map (Oy h)=ys->Ea h xs ys
 |[],_,e=>by subst e;exact .nil
 |_::_,_,e=>by subst e;exact .cons (.eq _) (JF rfl)
theorem QN{st:AS}:∀{l:List (Nat×AO)},l.map (λ p=>aQ p.1 st.heap)=l.map (λ p=>some p.2)->RS st l
 |[],_=>trivial
 |_::_,e=>by injection e with e1 e2;exact⟨e1,QN e2⟩
theorem P1(hs:aC P f bs r [])(h:K r (bif mJ r then st else sO st bD))(e:bD.map (Oy st.heap)=bs:=by exact rfl)(hr:ok2 none r=true:=by exact rfl):fV P L W d f bD st K:= .plain _ _ hs (JF e) hr h
variable{e:TypeId}{s n:Nat}{sc:Bool}{g:Nat->List AV}
theorem F1(hs:aC P f bs r [(d,.row e s n sc g)])(h:K r ((bif mJ r&&sc then st else sO st bD).obj d d (.row e s n sc g)))(eq:bD.map (Oy st.heap)=bs:=by exact rfl)(hr:ok2 (some d) r=true:=by exact rfl):fV P L W d f bD st K:= .fresh _ _ _ _ _ _ _ hs (JF eq) hr h
theorem C(k:Nat)(τ:List (Nat×Nat)){hin hout:List (Nat×AO)}(hs:au P f hin bs r hout)(ha:bs.map (KN ((k,d)::τ))=bD)(h:K (Bj ((k,d)::τ) r) (st.Oz d (iU ((k,d)::τ) hin) (iU ((k,d)::τ) hout)))
 (hh:(iU ((k,d)::τ) hin).map (λ p=>aQ p.1 st.heap)=(iU ((k,d)::τ) hin).map (λ p=>some p.2):=by exact rfl)
 (hb:(rV (((k,d)::τ).map (·.2))&&yJ ((k,d)::τ) hin&&yJ ((k,d)::τ) hout&&bs.all (key1 ((k,d)::τ))&&key2 ((k,d)::τ) r)=true:=by exact rfl)
 (hb2:(rV ((iU ((k,d)::τ) hin).map (·.1))&&(bs.map (KN ((k,d)::τ))).all KI&&iF (iU ((k,d)::τ) hout) (iU ((k,d)::τ) hout)&&Vf (iU ((k,d)::τ) hout) (Bj ((k,d)::τ) r)&&uq d (iU ((k,d)::τ) hin) (iU ((k,d)::τ) hout))=true:=by exact rfl):fV P L W d f bD st K:= .acH k τ hs ha (QN hh) hb hb2 h
theorem I{c:Code}{fn:Func}(lv:Nat)(hf:P.funcs[f]? =some fn)
 (h:Qv st bD (kD P L (Cm P L n) fn.ntmps lv c (λ e st'=>match e with| .exit _=>False| .normal=>qO L st' fn.results.toList (λ x=>xW (st'.out) (K x))| .ret=>qO L st' fn.results.toList (λ x=>xW (st'.out) (K x)))))
 (hn:(fn.name== "runtime.NumGoroutine")=false:=by exact rfl)(hb:fn.body=some c:=by exact rfl)(hsz:Nat.ble bD.length fn.ntmps=true:=by exact rfl):fV P L (Cm P L (n+1)) d f bD st K:= .inl lv fn c hf hn hb hsz h
end
section
variable{f:FuncId}{fn:Func}{c:Code}{bD:List AV}{r:AV}{hh hin hout:List (Nat×AO)}(lv:Nat)(hf:Tryz.prog.funcs[f]? =some fn)
include hf
theorem E(h:Cm Tryz.prog lay 9 fn.ntmps lv c (KO lay fn r hh) (start bD))(hn:(fn.name== "runtime.NumGoroutine")=false:=by exact rfl)(hb:fn.body=some c:=by exact rfl)(hsz:Nat.ble bD.length fn.ntmps=true:=by exact rfl):aC Tryz.prog f bD r hh:=VP cZ lv hf hn hb hsz h
theorem M(base:Nat)(h:Cm Tryz.prog lay 9 fn.ntmps lv c (LD lay fn hin r hout) (EM bD hin base))(hn:(fn.name== "runtime.NumGoroutine")=false:=by exact rfl)(hb:fn.body=some c:=by exact rfl)(hsz:Nat.ble bD.length fn.ntmps=true:=by exact rfl):au Tryz.prog f hin bD r hout:=VU cZ lv base hf hn hb hsz h
theorem MI(base:Nat){S:AS}(hI:RZ (EM bD hin base) S)(h:Cm Tryz.prog lay 9 fn.ntmps lv c (LD lay fn hin r hout) S)(hn:(fn.name== "runtime.NumGoroutine")=false:=by exact rfl)(hb:fn.body=some c:=by exact rfl)(hsz:Nat.ble bD.length fn.ntmps=true:=by exact rfl):au Tryz.prog f hin bD r hout:=Ht cZ lv base hf hn hb hsz hI h
end
end K1
def dD.cs(c:dD):List AV:=[.v (.int .i64 c.c0),.v (.int .i64 c.c1),.v (.int .i64 c.c2),.v (.int .i64 c.c3),.v (.int .i64 c.c4)]
def dD.av(c:dD):AV:= .agg c.cs
def Ev.cs(e:Ev):List AV:=[.v (.int .i64 e.r),.v (.int .i64 e.n),.v (.int .i64 e.c.c0),.v (.int .i64 e.c.c1),.v (.int .i64 e.c.c2),.v (.int .i64 e.c.c3),.v (.int .i64 e.c.c4),.v (.int .i64 e.h),.v (.int .i64 e.k),.v (.string e.key),.v (.int .i64 e.l),.v (.string e.v)]
def Ev.av(e:Ev):AV:= .agg e.cs
def Ed.av(e:Ed):AV:= .agg [.v (.int .i64 e.k),.v (.string e.key),.v (.int .i64 e.l),.v (.string e.v)]
def Ed.cs(e:Ed):List AV:=[.v (.int .i64 e.k),.v (.string e.key),.v (.int .i64 e.l),.v (.string e.v)]
instance:Inhabited Ev:=⟨⟨0,0,⟨0,0,0,0,0⟩,0,0,⟨#[]⟩,0,⟨#[]⟩⟩⟩
abbrev jH(l:List Ev):Nat->List AV:=qP Ev.cs l
def aJ:dD:=⟨0,0,0,0,0⟩
def dD.at(c:dD):Nat->Int
 |0=>c.c0
 |1=>c.c1
 |2=>c.c2
 |3=>c.c3
 |_=>c.c4
theorem C1.acP{X:CX}{s:Nat}(hs:0<s){u:Value}(h:C1 X (.v (.slice none 0 0)) u):C1 X (.sl s 0 sc f) u:=by
 have h:u= .slice none 0 0:=h;subst h;exact(show C0 X (.sl s 0 sc f) (.slice none 0 0)from .sl s 0 sc f none 0 [] hs (Nat.le_refl _) (by simp[maxLen]) (by simp) (λ i hi=>absurd hi (Nat.not_lt_zero i)) (λ _ x hx=>by simp[flat]at hx) (λ i x u hx=>by simp[flat]at hx) (.inl rfl))
theorem Rm.is{a b c:Int}(h0:0<=a)(hb:0<b)(h:a%b=c)(k:K c):Rm a b K:= .pos h0 hb (by rw[h];exact k)
theorem Ag(s:ByteArray):zC s=true↔ ∀i(h:i<s.size),97<=(s[i]'h).toNat/\(s[i]'h).toNat<=122:=by
 unfold zC;rw[List.all_eq_true];constructor
 ·intro h i hi;have:=h s[i] (by
   show s.data[i]'hi∈s.data.toList;exact Array.mem_toList_iff.2 (Array.getElem_mem _))
  simpa using this
 ·intro h b hb;obtain⟨i,hi,rfl⟩:=Array.getElem_of_mem (Array.mem_toList_iff.1 hb);have h1:97<=(s.data[i]'hi).toNat/\(s.data[i]'hi).toNat<=122:=h i hi;simpa using h1
theorem QO(h1:1<=s.size)(h2:s.size<=8)(h:∀i(h:i<s.size),97<=(s[i]'h).toNat/\(s[i]'h).toNat<=122):keyE s=0:=by
 unfold keyE;rw[if_pos ⟨h1,h2,(Ag s).2 h⟩]
theorem DU(hi:i<s.size)(h:¬ (97<=(s[i]'hi).toNat/\(s[i]'hi).toNat<=122)):keyE s=10:=by
 unfold keyE;rw[if_neg (λ hh=>h ((Ag s).1 hh.2.2 i hi))]
theorem xI(h:¬ (1<=s.size/\s.size<=8)):keyE s=10:=by
 unfold keyE;rw[if_neg (λ hh=>h ⟨hh.1,hh.2.1⟩)]
theorem Y0(s:ByteArray)(w:World):
  Calls Tryz.prog 133 #[.string s] w λ e w'=>e= .returned (.int .i64 (keyE s))/\Below w.heap.size w w':=by
 by_cases h1:1<=s.size
 ·by_cases h2:s.size<=8
  ·go_enter Tryz.func133,Tryz.ntmps133
   go_wp2
   go_loopw [] (λ w'=> ∃pos:Nat,w'=w.iter s pos/\ ∀i(h:i<s.size),i<pos->97<=(s[i]'h).toNat/\(s[i]'h).toNat<=122) (λ w'=>s.size-w'.iterPos w.heap.size)
   case atStart=>exact⟨0,rfl,λ i _ h=>by omega⟩
   case round=>
    obtain⟨pos,rfl,hl⟩:=hrel;have HL:=Lib.hid hl;clear hl;by_cases hp:pos<s.size
    ·by_cases ha:(s[pos]'hp).toNat<128
     ·have hnx:∀ty,(Instr.next (.pointer (some ⟨w.heap.size,0,none⟩)) true ty).run Tryz.prog (w.iter s pos)=_:=λ ty=>run_next_ascii w s pos ty hp ha;by_cases h97:97<=(s[pos]'hp).toNat
      ·by_cases h122:(s[pos]'hp).toNat<=122
       ·go_wp2
        go_roundw
        case rel=>
         exact⟨pos+1,rfl,λ i h hi=>by
          by_cases e:i=pos
          ·subst e;exact⟨h97,h122⟩
          ·exact HL.out i h (by omega)⟩
        case measure=>
         simp;omega
       ·go_wp2
        go_ret
        exact⟨xg (DU hp (λ hh=>h122 hh.2)).symm,(Below.refl _ _).alloc (Nat.le_refl _) _⟩
      ·go_wp2
       go_ret
       exact⟨xg (DU hp (λ hh=>h97 hh.1)).symm,(Below.refl _ _).alloc (Nat.le_refl _) _⟩
     ·have hnx:∀ty,(Instr.next (.pointer (some ⟨w.heap.size,0,none⟩)) true ty).run Tryz.prog (w.iter s pos)=_:=λ ty=>run_next_any w s pos ty hp;have hd:=(decode_high s pos hp (by omega)).1;go_wp2;go_ret;exact⟨xg (DU hp (by omega)).symm,(Below.refl _ _).alloc (Nat.le_refl _) _⟩
    ·have hnx:∀ty,(Instr.next (.pointer (some ⟨w.heap.size,0,none⟩)) true ty).run Tryz.prog (w.iter s pos)=_:=λ ty=>run_next_end w s pos ty hp;go_wp2;go_ret;exact⟨xg (QO h1 h2 (λ i h=>HL.out i h (by omega))).symm,(Below.refl _ _).alloc (Nat.le_refl _) _⟩
  ·go_enter Tryz.func133,Tryz.ntmps133
   go_wp2
   go_ret
   exact⟨xg (xI (by omega)).symm,Below.refl _ _⟩
 ·go_enter Tryz.func133,Tryz.ntmps133
  go_wp2
  go_ret
  exact⟨xg (xI (by omega)).symm,Below.refl _ _⟩
theorem LY(s:ByteArray):aC Tryz.prog 133 [.v (.string s)] (.v (.int .i64 (keyE s))) []:=
 OZ (xs:=[.string s]) ⟨_,_,Tryz.func133,rfl,rfl⟩ λ w=>Y0 s w
theorem O1(n:Int):aC Tryz.prog 135 [.v (.int .i64 n)] (.v (.int .i64 (mg n))) []:=by
 refine K1.E 0x105 Tryz.func135 ?_;repeat' ((conv=>whnf);first|refine K1.u ?_|refine K1.z ?_|refine K1.y (λ _=>?_) (λ _=>?_)|fail)
 all_goals(refine aO.int rfl ?_;unfold mg;(first|rw[if_pos (by omega)]|rw[if_neg (by omega)]))
theorem E8(s:ByteArray):aC Tryz.prog 134 [.v (.string s)] (.v (.int .i64 (gI s))) []:=by
 refine K1.E 0x405 Tryz.func134 ?_;repeat' ((conv=>whnf);first|refine K1.u ?_|refine K1.z ?_|refine K1.y (λ _=>?_) (λ _=>?_)|fail)
 all_goals(refine aO.int rfl ?_;unfold gI;(first|rw[if_pos (by omega)]|rw[if_neg (by omega)]))
theorem H7(h:s=⟨#[]⟩):s.size=0:=by rw[h];rfl
theorem size_pos(h:¬s=⟨#[]⟩):s.size≠0:=λ e=>h (by
 cases s with
 |mk d=>
  have:d= #[]:=Array.eq_empty_of_size_eq_zero e;rw[this])
theorem H8(e:Ed):aC Tryz.prog 126 [e.av] (.v (.int .i64 (uV e))) []:=by
 refine K1.E 0x212402101f Tryz.func126 ?_;repeat' ((conv=>whnf);first|refine K1.u ?_|refine K1.P1 (LY _) ?_|refine K1.P1 (O1 _) ?_|refine K1.P1 (E8 _) ?_|refine K1.z ?_|refine K1.y (λ _=>?_) (λ _=>?_)|fail)
 all_goals(refine aO.int rfl ?_;unfold uV;try have h0:=size_pos ‹_›)
 all_goals grind [H7]
theorem wz(n a b:Int):aC Tryz.prog 122 [.v (.int .i64 n),.v (.int .i64 a),.v (.int .i64 b)] (.v (.bool (decide (a<=n/\n<=b)))) []:=by
 refine K1.E 0x47 Tryz.func122 ?_;repeat' ((conv=>whnf);first|refine K1.u ?_|refine K1.z ?_|refine K1.y (λ _=>?_) (λ _=>?_)|fail)
 all_goals(refine aO.bool rfl ?_;simp[*])
theorem CU(k:Int):aC Tryz.prog 108 [.v (.int .i64 k)] (.v (.bool (cu k))) []:=by
 refine K1.E 0x5 Tryz.func108 ?_;repeat' ((conv=>whnf);first|refine K1.u ?_|refine K1.z ?_|refine K1.y (λ _=>?_) (λ _=>?_)|fail)
 all_goals(refine aO.bool rfl ?_;simp[cu, *])
theorem Fa(e:Ev):aC Tryz.prog 105 [e.av] (.v (.int .i64 (fH e))) []:=by
 obtain⟨r,n,⟨c0,c1,c2,c3,c4⟩,h,k,key,l,v⟩:=e;dsimp only[Ev.av,Ev.cs];by_cases hr:0<=r/\r<=4
 ·rcases(show r=0\/r=1\/r=2\/r=3\/r=4 by omega)with rfl|rfl|rfl|rfl|rfl;all_goals
   refine K1.E 0x4011d00017 Tryz.func105 ?_;repeat' ((conv=>whnf);first|refine K1.u ?_|refine K1.P1 (wz _ _ _) ?_|refine K1.P1 (H8 ⟨k,key,l,v⟩) ?_|refine aK.rounds 6 ?_|refine K1.z ?_|refine K1.y (λ _=>?_) (λ _=>?_)|fail)
   all_goals refine aO.int rfl ?_
   all_goals first|(simp[fH,qp,iJ,dD.get,Ev.ed, *];done)|(simp[fH,qp,iJ,dD.get,Ev.ed, *];omega)
 ·refine K1.E 0x4011d00017 Tryz.func105 ?_;repeat' ((conv=>whnf);first|refine K1.u ?_|refine K1.P1 (wz _ _ _) ?_|refine K1.P1 (H8 ⟨k,key,l,v⟩) ?_|refine aK.rounds 6 ?_|refine K1.z ?_|refine K1.y (λ _=>?_) (λ _=>?_)|fail)
  all_goals refine aO.int rfl ?_
  all_goals(simp[fH,iJ];omega)
structure Rc where
 (k r u:Int)(c:dD)(ev:List Ev)
def Rc.cs(x:Rc):List AV:=[.v (.int .i64 x.k),.v (.int .i64 x.r),.v (.int .i64 x.u),.v (.int .i64 x.c.c0),.v (.int .i64 x.c.c1),.v (.int .i64 x.c.c2),.v (.int .i64 x.c.c3),.v (.int .i64 x.c.c4),.sl 12 x.ev.length true (jH x.ev)]
def Rc.av(x:Rc):AV:= .agg x.cs
def yQ(k:Int):Bool:=k==3||k==4
def yR(k:Int):Bool:=k==1||k==2||k==5||k==4
def yS(k:Int):Bool:=k==6
def UW(k:Int):Bool:=decide (1<=k/\k<=6)
def BG(c:dD):Bool:=qp c.c0&&qp c.c1&&qp c.c2&&qp c.c3&&qp c.c4
def Ah(c:dD):Bool:=decide (c.c0=0/\c.c1=0/\c.c2=0/\c.c3=0/\c.c4=0)
theorem iH(c:dD):Ah c=true↔c=aJ:=by
 obtain⟨a,b,d,e,f⟩:=c;simp[Ah,aJ]
def jR(x:Rc):Bool:=
 UW x.k&&decide (0<=x.r)&&decide (x.r<5)&&qp x.u&&decide (x.ev.length<=4096)&&BG x.c&&(yQ x.k||decide (x.u=0))&&(yS x.k||Ah x.c)&&(yR x.k||decide (x.ev.length=0))&&
  x.ev.all (λ e=>decide (fH e=0))&&(decide (x.k≠1)||decide (x.ev.length=1))
def gQ:List UInt8->Nat->Nat->Nat×Nat×Int
 |[],i,_=>if i=10 then(0,0,3)else(0,0,2)
 |c::r,i,acc=>
  if 128<=c.toNat then gQ r (i+1) (acc+(c.toNat-128)*128^i)
  else if(0<i/\c.toNat=0)\/(i=9/\1<c.toNat)then(0,0,3)
  else(acc+c.toNat*128^i,i+1,0)
def dH(bs:List UInt8):Nat×Nat×Int:=gQ (bs.take 10) 0 0
theorem Fb(j:Nat):2^(7*j)=128^j:=by rw[Nat.pow_mul]
theorem Ws{v:Nat}(ha:acc<128^j)(hv:v*128^j<18446744073709551616)(hp:128^j<=9223372036854775808):
  bits .or .u64 (acc:Int) (IntKind.u64.wrap ((v:Int)*2^(7*j)))=((acc+v*128^j:Nat):Int):=by
 have h1:((v:Int)*2^(7*j))=((v*128^j:Nat):Int):=by
  rw[<-Fb];simp
 rw[h1,IntKind.wrap_u64];have h2:((v*128^j:Nat):Int)%18446744073709551616=((v*128^j:Nat):Int):=by omega
 rw[h2,u64_or_nat _ _ (by omega) hv,Nat.or_comm];congr 1;rw[nat_join (7*j) (v*128^j) acc (by rw[Fb];exact Nat.mul_mod_left _ _) (by rw[Fb];exact ha),Nat.add_comm]
theorem DV(h:j<=9):128^j<=9223372036854775808:=by
 have:=Nat.pow_le_pow_right (n:=128) (by omega) h;have h2:128^9=9223372036854775808:=by decide
 omega
theorem ab1{q:Nat}(hj:j<=8)(ha:acc<128^j)(hq:q<256)(h128:128<=q):
  bits .or .u64 (acc:Int) (IntKind.u64.wrap (((q:Int)-128)*2^(7*j)))=((acc+(q-128)*128^j:Nat):Int)/\acc+(q-128)*128^j<128^(j+1):=by
 have hp:=DV (show j+1<=9 by omega);have hp':=DV (show j<=9 by omega);rw[Nat.pow_succ]at hp⊢;have hm:(q-128)*128^j<=127*128^j:=Nat.mul_le_mul_right _ (by omega);have hc:(q:Int)-128=((q-128:Nat):Int):=by omega
 rw[hc];exact⟨Ws ha (by omega) hp',by omega⟩
theorem SN{q:Nat}(hj:j<=9)(ha:acc<128^j)(hq:q<128)(h9:¬ (j=9/\1<q)):
  bits .or .u64 (acc:Int) (IntKind.u64.wrap ((q:Int)*2^(7*j)))=((acc+q*128^j:Nat):Int):=by
 have hp':=DV hj;by_cases h:j=9
 ·have hm:q*128^j<=1*128^j:=Nat.mul_le_mul_right _ (by omega);exact Ws ha (by omega) hp'
 ·have hp:=DV (show j+1<=9 by omega);rw[Nat.pow_succ]at hp;have hm:q*128^j<=127*128^j:=Nat.mul_le_mul_right _ (by omega);exact Ws ha (by omega) hp'
theorem SQ(A:Option Addr)(n c:Nat)(bs:List UInt8)(w:World)(h:Rd w w.heap.size 1 A n (bs.map bV))(hn:n=bs.length)(hc:n<=c):
  Calls Tryz.prog 69 #[.slice A n c] w λ x w'=>x= .returned (.tuple #[.int .u64 (dH bs).1,.int .i64 (dH bs).2.1,.int .i64 (dH bs).2.2])/\w=w':=by
 generalize hR:dH bs=R;unfold dH at hR;by_cases h10:10<n
 ·have hrd:Rd w w.heap.size 1 A 10 ((bs.take 10).map bV):=by
   have:=h.first (k:=10) (by omega)
   rwa [Nat.mul_one,<-List.map_take]at this
  have hll:(bs.take 10).length=10:=by rw[List.length_take];omega
  generalize bs.take 10=L at hR hrd hll;go_enter Tryz.func69,Tryz.ntmps69;go_wp2_with fail;have hlm:L.length<=10:=by omega
  go_loop [2,14] (λ x i=> ∃(j acc:Nat) (z:Int),j<=10/\x= .int .u64 z/\i= .int .i64 j/\(j<=9->z=acc/\acc<128^j)/\gQ (L.drop j) j acc=R) (λ _ i=>10-(intOf i).toNat)
  case atStart=>exact⟨0,0,0,by omega,rfl,rfl,λ _=>⟨rfl,by decide⟩,hR⟩
  case round=>
   obtain⟨j,acc,z,hj,rfl,rfl,hz,hr⟩:=hrel;have HZ:=Lib.hid hz;have HRR:=Lib.hid hr;clear hz hr;by_cases hjm:j<10
   ·obtain⟨b,o,hl,hA,hb,hcell⟩:=hrd.at1 hjm;subst hA;rw[List.getElem_map]at hcell;simp only[bV]at hcell;simp only[List.length_map]at hl;have hdrop:L.drop j=L[j]::L.drop (j+1):=List.drop_eq_getElem_cons hl;have HD:=Lib.hid hdrop;clear hdrop;generalize L[j]=q at hcell HD;have hq:=q.toNat_lt;have ab2:IntKind.i64.wrap (7*(j:Int))=7*j:=IntWalk.i64_in _ (by omega);have e_0:(0:Int)<=7*(j:Int):=by omega
    have acQ:7*(j:Int)<=64:=by omega
    have acR:(j:Int)<10:=by omega
    by_cases h128:128<=q.toNat
    ·have h128':(128:Int)<=(q.toNat:Int):=by omega
     have ab3:IntKind.u8.wrap ((q.toNat:Int)-128)=(q.toNat:Int)-128:=by
      rw[IntKind.wrap_u8];omega
     have Wu:IntKind.u64.wrap ((q.toNat:Int)-128)=(q.toNat:Int)-128:=by
      rw[IntKind.wrap_u64];omega
     go_wp2_with fail
     go_round
     case rel=>
      have hr:=HRR.out;rw[HD.out]at hr;unfold gQ at hr;rw[if_pos h128]at hr;refine⟨j+1,_,_,by omega,rfl,by go_num,λ h9=>?_,hr⟩;have h8:j<=8:=by omega
      obtain⟨hz,ha⟩:=HZ.out (by omega);rw[hz];exact ab1 h8 ha hq h128
     case measure=>simp[intOf];omega
    ·have h128':(q.toNat:Int)<128:=by omega
     have Wu:IntKind.u64.wrap (q.toNat:Int)=(q.toNat:Int):=by
      rw[IntKind.wrap_u64];omega
     have acS:IntKind.i64.wrap ((j:Int)+1)=j+1:=IntWalk.i64_in _ (by omega);have hr:=HRR.out;rw[HD.out]at hr;unfold gQ at hr;rw[if_neg h128]at hr;have O4:=Lib.hid h128;clear h128;by_cases h0:j=0
     ·have hj0:¬ (0:Int)<(j:Int):=by omega
      have h9':((j:Int)==9)=false:=by rw[beq_eq_false_iff_ne];omega
      rw[if_neg (by omega)]at hr;have H0:=Lib.hid h0;clear h0;go_wp2_with fail;go_ret3;have h0:=H0.out;have hv:=SN (acc:=acc) (by omega) (HZ.out (by omega)).2 (by have:=O4.out;omega:q.toNat<128) (by omega);rw[<-hr,(HZ.out (by omega)).1,hv];simp
     ·have hj0:(0:Int)<(j:Int):=by omega
      by_cases hq0:q.toNat=0
      ·rw[if_pos (Or.inl ⟨by omega,hq0⟩)]at hr;have Wv:(q.toNat:Int)=0:=by omega
       rw[Wv]at hcell;go_wp2_with fail;go_ret3;rw[<-hr];simp
      ·have Wv:((q.toNat:Int)==0)=false:=by rw[beq_eq_false_iff_ne];omega
       by_cases h9:j=9
       ·have h9':((j:Int)==9)=true:=by rw[beq_iff_eq];omega
        have H9:=Lib.hid h9;by_cases hq1:1<q.toNat
        ·have hq1':(1:Int)<(q.toNat:Int):=by omega
         rw[if_pos (Or.inr ⟨h9,hq1⟩)]at hr;clear h9;go_wp2_with fail;go_ret3;rw[<-hr];simp
        ·have hq1':¬ (1:Int)<(q.toNat:Int):=by omega
         rw[if_neg (by omega)]at hr;clear h9;go_wp2_with fail;go_ret3;have h9:=H9.out;have hv:=SN (acc:=acc) (by omega) (HZ.out (by omega)).2 (by have:=O4.out;omega:q.toNat<128) (by omega);rw[<-hr,(HZ.out (by omega)).1,hv];simp
       ·have h9':((j:Int)==9)=false:=by rw[beq_eq_false_iff_ne];omega
        rw[if_neg (by omega)]at hr;go_wp2_with fail;go_ret3;have hv:=SN (acc:=acc) (by omega) (HZ.out (by omega)).2 (by have:=O4.out;omega:q.toNat<128) (by omega);rw[<-hr,(HZ.out (by omega)).1,hv];simp
   ·have hjn:j=10:=by omega
    subst hjn;have hr:=HRR.out;rw[List.drop_eq_nil_of_le (by omega)]at hr;unfold gQ at hr;rw[if_pos rfl]at hr;go_wp2_with fail;go_ret3;rw[<-hr];simp
 ·have hrd:Rd w w.heap.size 1 A n ((bs.take 10).map bV):=by rwa [List.take_of_length_le (by omega)]
  have hll:(bs.take 10).length=n:=by rw[List.length_take];omega
  generalize bs.take 10=L at hR hrd hll;go_enter Tryz.func69,Tryz.ntmps69;go_wp2_with fail;have hlm:L.length<=10:=by omega
  go_loop [2,14] (λ x i=> ∃(j acc:Nat) (z:Int),j<=n/\x= .int .u64 z/\i= .int .i64 j/\(j<=9->z=acc/\acc<128^j)/\gQ (L.drop j) j acc=R) (λ _ i=>n-(intOf i).toNat)
  case atStart=>exact⟨0,0,0,by omega,rfl,rfl,λ _=>⟨rfl,by decide⟩,hR⟩
  case round=>
   obtain⟨j,acc,z,hj,rfl,rfl,hz,hr⟩:=hrel;have HZ:=Lib.hid hz;have HRR:=Lib.hid hr;clear hz hr;by_cases hjm:j<n
   ·obtain⟨b,o,hl,hA,hb,hcell⟩:=hrd.at1 hjm;subst hA;rw[List.getElem_map]at hcell;simp only[bV]at hcell;simp only[List.length_map]at hl;have hdrop:L.drop j=L[j]::L.drop (j+1):=List.drop_eq_getElem_cons hl;have HD:=Lib.hid hdrop;clear hdrop;generalize L[j]=q at hcell HD;have hq:=q.toNat_lt;have ab2:IntKind.i64.wrap (7*(j:Int))=7*j:=IntWalk.i64_in _ (by omega);have e_0:(0:Int)<=7*(j:Int):=by omega
    have acQ:7*(j:Int)<=64:=by omega
    have acR:(j:Int)<(n:Int):=by omega
    by_cases h128:128<=q.toNat
    ·have h128':(128:Int)<=(q.toNat:Int):=by omega
     have ab3:IntKind.u8.wrap ((q.toNat:Int)-128)=(q.toNat:Int)-128:=by
      rw[IntKind.wrap_u8];omega
     have Wu:IntKind.u64.wrap ((q.toNat:Int)-128)=(q.toNat:Int)-128:=by
      rw[IntKind.wrap_u64];omega
     go_wp2_with fail
     go_round
     case rel=>
      have hr:=HRR.out;rw[HD.out]at hr;unfold gQ at hr;rw[if_pos h128]at hr;refine⟨j+1,_,_,by omega,rfl,by go_num,λ h9=>?_,hr⟩;have h8:j<=8:=by omega
      obtain⟨hz,ha⟩:=HZ.out (by omega);rw[hz];exact ab1 h8 ha hq h128
     case measure=>simp[intOf];omega
    ·have h128':(q.toNat:Int)<128:=by omega
     have Wu:IntKind.u64.wrap (q.toNat:Int)=(q.toNat:Int):=by
      rw[IntKind.wrap_u64];omega
     have acS:IntKind.i64.wrap ((j:Int)+1)=j+1:=IntWalk.i64_in _ (by omega);have hr:=HRR.out;rw[HD.out]at hr;unfold gQ at hr;rw[if_neg h128]at hr;have O4:=Lib.hid h128;clear h128;by_cases h0:j=0
     ·have hj0:¬ (0:Int)<(j:Int):=by omega
      have h9':((j:Int)==9)=false:=by rw[beq_eq_false_iff_ne];omega
      rw[if_neg (by omega)]at hr;have H0:=Lib.hid h0;clear h0;go_wp2_with fail;go_ret3;have h0:=H0.out;have hv:=SN (acc:=acc) (by omega) (HZ.out (by omega)).2 (by have:=O4.out;omega:q.toNat<128) (by omega);rw[<-hr,(HZ.out (by omega)).1,hv];simp
     ·have hj0:(0:Int)<(j:Int):=by omega
      by_cases hq0:q.toNat=0
      ·rw[if_pos (Or.inl ⟨by omega,hq0⟩)]at hr;have Wv:(q.toNat:Int)=0:=by omega
       rw[Wv]at hcell;go_wp2_with fail;go_ret3;rw[<-hr];simp
      ·have Wv:((q.toNat:Int)==0)=false:=by rw[beq_eq_false_iff_ne];omega
       by_cases h9:j=9
       ·have h9':((j:Int)==9)=true:=by rw[beq_iff_eq];omega
        have H9:=Lib.hid h9;by_cases hq1:1<q.toNat
        ·have hq1':(1:Int)<(q.toNat:Int):=by omega
         rw[if_pos (Or.inr ⟨h9,hq1⟩)]at hr;clear h9;go_wp2_with fail;go_ret3;rw[<-hr];simp
        ·have hq1':¬ (1:Int)<(q.toNat:Int):=by omega
         rw[if_neg (by omega)]at hr;clear h9;go_wp2_with fail;go_ret3;have h9:=H9.out;have hv:=SN (acc:=acc) (by omega) (HZ.out (by omega)).2 (by have:=O4.out;omega:q.toNat<128) (by omega);rw[<-hr,(HZ.out (by omega)).1,hv];simp
       ·have h9':((j:Int)==9)=false:=by rw[beq_eq_false_iff_ne];omega
        rw[if_neg (by omega)]at hr;go_wp2_with fail;go_ret3;have hv:=SN (acc:=acc) (by omega) (HZ.out (by omega)).2 (by have:=O4.out;omega:q.toNat<128) (by omega);rw[<-hr,(HZ.out (by omega)).1,hv];simp
   ·have hjn:j=n:=by omega
    subst hjn;have hr:=HRR.out;rw[List.drop_eq_nil_of_le (by omega)]at hr;unfold gQ at hr;by_cases h9:j=10
    ·have h9':((j:Int)==10)=true:=by rw[beq_iff_eq];omega
     rw[if_pos h9]at hr;go_wp2_with fail;go_ret3;rw[<-hr];simp
    ·have h9':((j:Int)==10)=false:=by rw[beq_eq_false_iff_ne];omega
     rw[if_neg h9]at hr;go_wp2_with fail;go_ret3;rw[<-hr];simp
theorem Ia:∀(l:List UInt8)(i acc:Nat),(gQ l i acc).2.1<=i+l.length
 |[],i,acc=>by unfold gQ;split<;>simp
 |c::r,i,acc=>by
  unfold gQ;split
  ·have:=Ia r (i+1) (acc+(c.toNat-128)*128^i);simp only[List.length_cons];omega
  ·split<;>simp
theorem wB(l:List UInt8):(dH l).2.1<=l.length:=by
 have:=Ia (l.take 10) 0 0;rw[List.length_take]at this;unfold dH;omega
abbrev Sq:=Nat×Int
def dA(bs:List UInt8)(lo hi:Int)(s:Sq):Int×Sq:=
 if s.2≠0 then(0,s)
 else if bs.length<=s.1 then(0,(s.1,2))
 else if lo<=((bs.getD s.1 0).toNat:Int)/\((bs.getD s.1 0).toNat:Int)<=hi then(((bs.getD s.1 0).toNat:Int),(s.1+1,0))
 else(0,(s.1+1,3))
def dB(bs:List UInt8)(lo hi:Int)(s:Sq):Int×Sq:=
 if s.2≠0 then(0,s)
 else if(dH (bs.drop s.1)).2.2≠0 then(0,(s.1,(dH (bs.drop s.1)).2.2))
 else if lo<=((dH (bs.drop s.1)).1:Int)/\((dH (bs.drop s.1)).1:Int)<=hi then(((dH (bs.drop s.1)).1:Int),(s.1+(dH (bs.drop s.1)).2.1,0))
 else(0,(s.1,3))
def Du(bs:List UInt8)(u n:Nat):ByteArray:=⟨((bs.drop u).take n).toArray⟩
def dY(bs:List UInt8)(size:Int)(may:ByteArray->Int)(s:Sq):ByteArray×Sq:=
 if s.2≠0 then(⟨#[]⟩,s)
 else if((bs.length:Int)-s.1<size)then(⟨#[]⟩,(s.1,2))
 else(Du bs s.1 size.toNat,(s.1+size.toNat,if may (Du bs s.1 size.toNat)=0 then 0 else 3))
def nI(bs:List UInt8)(r:Int)(j:Nat)(s:Sq):Int×Sq:=if(j:Int)=r then(0,s)else dB bs 0 1048576 s
def dD.put(c:dD)(r v:Int):dD:=
 if r=0 then{c with c0:=v}else if r=1 then{c with c1:=v}else if r=2 then{c with c2:=v}else if r=3 then{c with c3:=v}else{c with c4:=v}
def dD.BH(c:dD):Nat->Int->dD
 |0,v=>{c with c0:=v}
 |1,v=>{c with c1:=v}
 |2,v=>{c with c2:=v}
 |3,v=>{c with c3:=v}
 |_,v=>{c with c4:=v}
def lY(bs:List UInt8)(r:Int)(s:Sq):Nat->dD×Sq
 |0=>(⟨0,0,0,0,0⟩,s)
 |j+1=>((lY bs r s j).1.BH j (nI bs r j (lY bs r s j).2).1,(nI bs r j (lY bs r s j).2).2)
def dO(bs:List UInt8)(r:Int)(s:Sq):dD×Sq:=lY bs r s 5
def eP(bs:List UInt8)(s:Sq):Ev×Sq:=
 let k:=dA bs 1 5 s;let r:=dA bs 0 4 k.2;let n:=dB bs 1 1048576 r.2;let c:=dO bs r.1 n.2;let h:=dB bs 1 16777216 c.2;let ks:=dA bs 1 8 h.2;let key:=dY bs ks.1 keyE ks.2;if cu k.1 then
  let l:=dA bs 0 1 key.2;let vs:=dA bs 1 12 l.2;let v:=dY bs vs.1 gI vs.2;(⟨r.1,n.1,c.1.put r.1 (n.1-1),h.1,k.1,key.1,l.1,v.1⟩,v.2)
 else(⟨r.1,n.1,c.1.put r.1 (n.1-1),h.1,k.1,key.1,0,⟨#[]⟩⟩,key.2)
theorem Y1{s:Sq}(h:s.1<=bs.length):(dA bs lo hi s).2.1<=bs.length:=by
 unfold dA;split;exact h;split;exact h;split<;>dsimp only<;>omega
theorem Fe{s:Sq}:(dA bs lo hi s).1=0\/(lo<=(dA bs lo hi s).1/\(dA bs lo hi s).1<=hi):=by
 unfold dA;split
 ·exact Or.inl rfl
 ·split
  ·exact Or.inl rfl
  ·split
   ·rename_i h;exact Or.inr h
   ·exact Or.inl rfl
end Go.Proofs.YtopfgjgdadnjeaaGreat
