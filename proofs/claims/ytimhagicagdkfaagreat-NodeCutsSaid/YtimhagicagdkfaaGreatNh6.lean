/-
  Contracts of the walk:AmUse,AmD,Plain,Bs0,BkPlain,BkA,BkB,BkC,BkD.
-/
import Derived.Test.YtimhagicagdkfaaGreatNh4
import Derived.Test.YtimhagicagdkfaaGreatNh5
import Derived.Defers
set_option maxHeartbeats 16000000
set_option maxRecDepth 100000
set_option linter.unusedVariables false
set_option linter.unusedSimpArgs false
namespace Go.Proofs.YtimhagicagdkfaaGreat
section
open Go.RowKit
theorem aJ.int {st:AS} {x:AV} {k:IntKind} {n m:Int} (hx:U5 st.heap x= .v (.int k n)) (h:n=m):aJ st x (.v (.int k m)) []:= .plain _ (by rw[hx,h];exact aS.refl _)
theorem aJ.bool {st:AS} {x:AV} {b c:Bool} (hx:U5 st.heap x= .v (.bool b)) (h:b=c):aJ st x (.v (.bool c)) []:= .plain _ (by rw[hx,h];exact aS.refl _)
theorem aJ.same {st:AS} {x r:AV} (hx:U5 st.heap x=r):aJ st x r []:= .plain _ (by rw[hx];exact aS.refl _)
def acY:AV→Option Nat
  | .own i=>some i
  |_=>none
def acZ:List AV→Option Nat
  |[]=>none
  |x::l=>match acY x with|some i=>some i|none=>acZ l
def adZ:AV→Option Nat
  | .own i=>some i
  | .agg cs=>acZ cs
  | .dF vs=>acZ vs
  |_=>none
theorem aJ.oz {st:AS} {x r:AV} (d:Nat) {id:Nat} {e:TypeId} {s n:Nat} {sc:Bool} {f:Nat→List AV} {o':AO} (_hid:adZ x=some id) (hf:aP id st.heap=some (.row e s n sc f)) (ho:bW (.row e s n sc f) o') (hr:aS (adK st.heap id d x) r):aJ st x r [(d,o')]:=
 .own id d r e s n sc f o' hf ho hr
def addN (k i:Nat) (σ:List (Nat×Nat)):List (Nat×Nat):=bif U4 σ i then σ else(k,i)::σ
def Yt:List AV→List AV→List (Nat×Nat)→List (Nat×Nat)
  | .own k::xs,.own i::ys,σ=>Yt xs ys (addN k i σ)
  |_::xs,_::ys,σ=>Yt xs ys σ
  |_,_,σ=>σ
def TQ (st:AS):List (Nat×AV)→List (Nat×Nat)→List (Nat×Nat)
  |[],σ=>σ
  |(t,.own i)::l,σ=>TQ st l (match qW st.sl t with| .own k=>addN k i σ|_=>σ)
  |(t,.box i _)::l,σ=>TQ st l (match qW st.sl t with| .box k _=>addN k i σ|_=>σ)
  |_::l,σ=>TQ st l σ
def acf (i:Nat):List (Nat×Nat)→Nat
  |[]=>i
  |(k,j)::r=>bif Nat.beq i j then k else acf i r
def Yu (st:AS):List (Nat×AO)→List (Nat×Nat)→List (Nat×Nat)
  |[],σ=>σ
  |(i,.box _ ys)::l,σ=>Yu st l (match aP (acf i σ) st.heap with|some (.box _ xs)=>Yt xs ys σ|_=>σ)
  |_::l,σ=>Yu st l σ
def yU (st:AS) (l:List (Nat×AV)) (h:List (Nat×AO)):List (Nat×Nat):=Yu st h (TQ st l [])
theorem dL.mk' {st:AS} (σ:List (Nat×Nat)) (l:List (Nat×AV)) (h:List (Nat×AO)) (b:Nat) (nd:nodupB (σ.map (·.2))=true) (ht:LeT (st.ren σ) l) (hh:LeH (st.ren σ) h) (hn:nodupB (h.map (·.1))=true):dL σ st ⟨l,h,(st.ren σ).back,b⟩:=
 ⟨nd,let k:=Fv.mk' l h ht hh hn;⟨k.tm,k.hp,k.nd,k.bk⟩⟩
theorem dL.auto {st:AS} (l:List (Nat×AV)) (h:List (Nat×AO)) (b:Nat) (nd:nodupB ((yU st l h).map (·.2))=true) (ht:LeT (st.ren (yU st l h)) l) (hh:LeH (st.ren (yU st l h)) h) (hn:nodupB (h.map (·.1))=true):dL (yU st l h) st ⟨l,h,(st.ren (yU st l h)).back,b⟩:=
 dL.mk' _ l h b nd ht hh hn
theorem aJ.hd {st:AS} {x r:AV} (h:hd2 (U5 st.heap x) (fun y=>aS y r)):aJ st x r []:= .plain _ (by rw[KR]at h;exact h)
structure bF (x y:AV):Prop where
 h:aS x y
theorem aJ.dO {st:AS} {x r:AV} (h:hd2 (U5 st.heap x) (fun y=>bF y r)):aJ st x r []:= .plain _ (by rw[KR]at h;exact h.h)
theorem aS.int {k:IntKind} {n m:Int} (h:n=m):aS (.v (.int k n)) (.v (.int k m)):=by rw[h];exact aS.refl _
theorem aS.str {x y:ByteArray} (h:x=y):aS (.v (.string x)) (.v (.string y)):=by rw[h];exact aS.refl _
theorem aS.of {x y:AV} (h:x=y):aS x y:=by rw[h];exact aS.refl _
theorem aS.sl {s n n':Nat} {sc:Bool} {f f':Nat→List AV} (hn:n=n') (hf: ∀i,i<n→f i=f' i):aS (.sl s n sc f) (.sl s n' sc f'):=by
 subst hn
 intro X u h
 cases C2.uz h with
 | sl _ _ _ _ A c us hs0 hnc hcc hl hfl hsc hu' hr=>
   rw[oh hf]at hsc hu'
   exact .sl s n sc f' A c us hs0 hnc hcc hl (fun i hi=>by rw[←hf i hi];exact hfl i hi) hsc hu' hr
theorem bW.row {e:TypeId} {s n n':Nat} {sc:Bool} {f f':Nat→List AV} (hn:n=n') (hf: ∀i,i<n→f i=f' i):bW (.row e s n sc f) (.row e s n' sc f'):=by
 subst hn
 rintro X id ⟨us,hown,hs,hfl,hsc,ha⟩
 rw[oh hf]at hsc ha
 exact⟨us,hown,hs,fun i hi=>by rw[←hf i hi];exact hfl i hi,hsc,ha⟩
theorem Lu.auto {hin:List (Nat×AO)} {st:AS} {x r:AV} {hout:List (Nat×AO)} (nd:nodupB ((yU st [] hout).map (·.2))=true) (fx:Gf hout (st.ren (yU st [] hout)).back 0 hin=true) (hp:LeH (st.ren (yU st [] hout)) hout)
  (hn:nodupB (hout.map (·.1))=true) (hc:jT hout hout=true) (hr:aS (Yb (st.ren (yU st [] hout)).heap hout (CJ (yU st [] hout) x)) r): ∃σ,Lu hin σ st x r hout:=⟨_,nd,fx,hp,hn,hc,hr⟩
theorem Wr.b64 {b:UInt8} {K:Int→Prop} (h:K (b.toNat:Int)):Wr (b.toNat:Int) K .i64:=by have:=UInt8.toNat_lt b;exact .i64 (by omega) (by omega) h
theorem Wr.aeG {b:UInt8} {K:Int→Prop} (h:K (b.toNat:Int)):Wr (b.toNat:Int) K .u64:=by have:=UInt8.toNat_lt b;exact .u64 (by omega) (by omega) h
theorem Wr.bu32 {b:UInt8} {K:Int→Prop} (h:K (b.toNat:Int)):Wr (b.toNat:Int) K .u32:=by have:=UInt8.toNat_lt b;exact .u32 (by omega) (by omega) h
theorem Wr.bu8 {b:UInt8} {K:Int→Prop} (h:K (b.toNat:Int)):Wr (b.toNat:Int) K .u8:=by have:=UInt8.toNat_lt b;exact .u8 (by omega) (by omega) h
theorem bW.box1 {t:TypeId} {k:IntKind} {x y:Int} (h:x=y):bW (.box t [.v (.int k x)]) (.box t [.v (.int k y)]):=by rw[h];exact bW.refl _
def qX {α:Type} [Inhabited α] (c:α→List AV) (l:List α):Nat→List AV:=fun i=>c (l.getD i default)
theorem els_app {α:Type} [Inhabited α] {c:α→List AV} {l l':List α} {n:Nat} (hn:n=l.length): ∀i,pR n (qX c l) (qX c l') i=qX c (l++l') i:=by
 intro i
 subst hn
 unfold pR qX
 cases hb:Nat.ble l.length i with
 | true=>
   have:=Nat.le_of_ble_eq_true hb
   simp only[cond_true]
   congr 1
   rw[List.getD,List.getD,List.getElem?_append_right this]
 | false=>
   have:i<l.length:=Nat.lt_of_not_le fun h=>by rw[Nat.ble_eq_true_of_le h]at hb;cases hb
   simp only[cond_false]
   congr 1
   rw[List.getD,List.getD,List.getElem?_append_left this]
theorem bJ {α:Type} [Inhabited α] {c:α→List AV} {l:List α} {x:α} {g:Nat→List AV} {n:Nat} (hn:n=l.length) (hg:g 0=c x): ∀i,i<n+1→pR n (qX c l) g i=qX c (l++[x]) i:=by
 intro i hi
 rw[←els_app hn]
 unfold pR
 cases hb:Nat.ble n i with
 | true=>
   have:=Nat.le_of_ble_eq_true hb
   have e:i-n=0:=by omega
   simp only[cond_true,e,hg]
   rfl
 |false=>rfl
def bC (b:UInt8):List AV:=[.v (.int .u8 (b.toNat:Int))]
abbrev aU (bs:List UInt8):Nat→List AV:=qX bC bs
def byteOf' (n:Int):UInt8:=UInt8.ofNat n.toNat
theorem wH {n:Int} (h0:0≤n) (h1:n≤255):((byteOf' n).toNat:Int)=n:=by
 unfold byteOf'
 rw[UInt8.toNat_ofNat',Nat.mod_eq_of_lt (by omega)]
 omega
def bg (F:Nat→List AV) (l:List UInt8):Prop:= ∀i,i<l.length→F i=aU l i
theorem bg.bytes (l:List UInt8):bg (aU l) l:=fun _ _=>rfl
theorem bg.str (s:ByteArray):bg (fun i=>[.v (.int .u8 ((s.data.toList.getD i 0).toNat:Int))]) s.data.toList:=fun _ _=>rfl
theorem bg.nil (F:Nat→List AV):bg F []:=fun i h=>absurd h (by simp)
theorem bg.app {F G:Nat→List AV} {l l':List UInt8} {n:Nat} (h:bg F l) (h':bg G l') (hn:n=l.length):bg (pR n F G) (l++l'):=by
 intro i hi
 rw[List.length_append]at hi
 show _=qX bC (l++l') i
 rw[←els_app hn]
 unfold pR
 cases hb:Nat.ble n i with
 | true=>
   have:=Nat.le_of_ble_eq_true hb
   exact h' (i-n) (by omega)
 | false=>
   have:i<n:=Nat.lt_of_not_le fun h=>by rw[Nat.ble_eq_true_of_le h]at hb;cases hb
   exact h i (by omega)
theorem bg.one {x:Int} (h0:0≤x) (h1:x≤255):bg (chunk 1 [.v (.int .u8 x)]) [byteOf' x]:=by
 intro i hi
 have e:i=0:=by simpa using hi
 subst e
 show [AV.v (.int .u8 x)]=[AV.v (.int .u8 ((byteOf' x).toNat:Int))]
 rw[wH h0 h1]
theorem bg.two {x y:Int} (h0:0≤x) (h1:x≤255) (k0:0≤y) (k1:y≤255):bg (chunk 1 [.v (.int .u8 x),.v (.int .u8 y)]) [byteOf' x,byteOf' y]:=by
 intro i hi
 have e:i=0∨i=1:=by simp at hi;omega
 rcases e with rfl|rfl
 · show [AV.v (.int .u8 x)]=[AV.v (.int .u8 ((byteOf' x).toNat:Int))]
   rw[wH h0 h1]
 · show [AV.v (.int .u8 y)]=[AV.v (.int .u8 ((byteOf' y).toNat:Int))]
   rw[wH k0 k1]
theorem rH (s:ByteArray):s.data.toList.length=s.size:=rfl
theorem bW.nT {e:TypeId} {n:Nat} {sc:Bool} {F:Nat→List AV} {l t:List UInt8} (h:bg F l) (hn:n=l.length) (ht:l=t):bW (.row e 1 n sc F) (.row e 1 t.length sc (aU t)):=by
 subst ht
 exact bW.row hn fun i hi=>h i (by omega)
theorem dK.into {P:Program} {L:Lay} {n:Nat} {f:FuncId} {dn:List AV} {st:AS} {K:AV→AS→Prop} {d:Nat} (lv:Nat) (fn:Func) (c:Code) (hf:P.funcs[f]? =some fn) (hn:(fn.name== "runtime.NumGoroutine")=false) (hb:fn.body=some c) (hsz:Nat.ble dn.length fn.ntmps=true)
  (h:Tj st dn (kL P L (yR P L n) fn.ntmps lv c (fun e st'=>match e with| .exit _=>False| .normal=>mP L st' fn.results.toList (fun x=>vH (st'.out) (K x))| .ret=>mP L st' fn.results.toList (fun x=>vH (st'.out) (K x))))):dK P L (yR P L (n+1)) d f dn st K:=
 .inl lv fn c hf hn hb hsz h
theorem zG {P:Program} {f:FuncId} {xs:List Value} {r:Value} (he:Enters P f) (h: ∀w,Calls P f xs.toArray w fun e w'=>e= .returned r∧Below w.heap.size w w'):aH P f (xs.map .v) (.v r) []:=by
 refine⟨he,fun w keep args _ hargs=> ?_⟩
 have e:args=xs:=yc hargs
 subst e
 exact(h w).mono fun e w' ⟨h1,h2⟩=>⟨r,fun _=>undef,h1,h2,rfl,(fun p hp=>by cases hp),by simp[ah],(fun b hb=>by simp[ah]at hb)⟩
where
 yc {X:CX}: ∀ {xs us:List Value},aI (C1 X) (xs.map .v) us→us=xs
   | [],us,h=>by
     have:=h.1
     simp at this
     exact List.eq_nil_of_length_eq_zero this.symm
   |x::xs,[],h=>by have:=h.1;simp at this
   | x::xs,u::us,h=>by
     have h0:u=x:=h.2 0 _ _ rfl rfl
     have:=yc (xs:=xs) (us:=us) ⟨by simpa using h.1,fun i a b ha hb=>h.2 (i+1) a b (by simpa using ha) (by simpa using hb)⟩
     rw[h0,this]
end
section
open Go.RowKit
theorem aH.thaw {P:Program} {f:FuncId} {dn:List AV} {r:AV} {d:Nat} {e:TypeId} {s n:Nat} {sc:Bool} {g:Nat→List AV} (hs:aH P f dn r [(d,.row e s n sc g)]):aH P f dn (DT d (.sl s n sc g) r) []:=by
 refine⟨hs.1,fun w keep args hk ha=>(hs.2 w keep args hk ha).mono ?_⟩
 rintro e0 w' ⟨u,ρ,h1,h2,h3,h4,h5,h6⟩
 obtain⟨us,hown,hs0,hfl,hsc,hall⟩:=h4 _ (List.mem_singleton.2 rfl)
 have hown:w'.ownsRow 0 e s (ρ d) n us:=hown
 have hall:aI (PC w' (aK (base0 w keep) w' ρ [(d,.row e s n sc g)])) (flat n g) us:=hall
 have hkk: ∀b,aK (base0 w keep) w' ρ [(d,.row e s n sc g)] b→aK (base0 w keep) w' ρ [] b:=fun b h=>⟨h.1,h.2.1,fun h'=>by simp[ah]at h'⟩
 have hrow:PC w' (aK (base0 w keep) w' ρ []) (.sl s n sc g) (ρ d):=by
  have ha':=hall.imp fun _ _=>PC.mono hkk (fun _ _=>rfl)
  rcases hown.2 with⟨hv,hz⟩|⟨b,cap,cur,hv,hB,hh,hnc,hcm,_⟩
  · rw[hv]
    subst hz
    exact .sl s 0 sc g none 0 us hs0 (Nat.le_refl _) (by simp[maxLen]) hown.1 hfl hsc ha'.2 (.inl rfl)
  · rw[hv]
    refine .sl s n sc g _ cap us hs0 hnc hcm hown.1 hfl hsc ha'.2 (.inr ⟨b,0,rfl,⟨(Array.getElem?_eq_some_iff.1 hh).1,fun hlt=> ?_,fun h'=>by simp[ah]at h'⟩,fun j u hj=> ?_⟩)
    · have:=h6 b (aQ.2 ⟨_,List.mem_singleton.2 rfl,by rw[hv];exact List.mem_cons_self⟩)
      exact absurd (show b<w.heap.size from hlt) (by omega)
    · have:=hown.cells (g:=b) (by rw[hv];rfl) j u hj
      rwa [Addr.add_lit]at this
 exact⟨u,ρ,h1,h2,C2.thaw (X:=aC (base0 w keep) w' ρ [(d,.row e s n sc g)]) (Y:=aC (base0 w keep) w' ρ []) hkk (fun _ _=>rfl) rfl (by show PC _ _ _ (eP (ρ d));rw[gu hown];exact hrow) h3,fun p hp=>(by cases hp),by simp[ah],fun b hb=>by simp[ah]at hb⟩
theorem aN.qY {body:(jI→AS→Prop)→AS→Prop} {Q:jI→AS→Prop} {st:AS} (t n:Nat) (_ht:st.tmps t= .v (.int .i64 0)) (h:Ak body Q n st):aN body Q st:= .rounds n h
inductive Ch:List AV→List AV→Prop where
  |nil:Ch [] []
  |same {x:AV} {xs ys:List AV}:Ch xs ys→Ch (x::xs) (x::ys)
  |of {x y:AV} {xs ys:List AV} (h: ∀ (X:CX) (u:Value),C1 X x u→C1 X y u):Ch xs ys→Ch (x::xs) (y::ys)
theorem Ch.all {X:CX}: ∀ {xs ys:List AV} {us:List Value},Ch xs ys→aI (C1 X) xs us→aI (C1 X) ys us
  |_,_,_,.nil,h=>h
  |_,_,[],.same _,h=>by have:=h.1;simp at this
  |_,_,[],.of _ _,h=>by have:=h.1;simp at this
  |_,_,u::us,.same k,h=>aI.cons (h.2 0 _ _ rfl rfl) (Ch.all k ⟨by simpa using h.1,fun i a b ha hb=>h.2 (i+1) a b (by simpa using ha) (by simpa using hb)⟩)
  |_,_,u::us,.of h0 k,h=>aI.cons (h0 X u (h.2 0 _ _ rfl rfl)) (Ch.all k ⟨by simpa using h.1,fun i a b ha hb=>h.2 (i+1) a b (by simpa using ha) (by simpa using hb)⟩)
theorem aH.args {P:Program} {f:FuncId} {dn bvs:List AV} {r:AV} {h:List (Nat×AO)} (hs:aH P f bvs r h) (hc:Ch dn bvs):aH P f dn r h:=
 ⟨hs.1,fun w keep args hk ha=>hs.2 w keep args hk (Ch.all hc ha)⟩
theorem aj {x : AV} : aS x x := aS.refl x
theorem aF {i : Nat} {h : List (Nat × AO)} {o : AO} (k : aP i h = some o) : ∃ q, aP i h = some q ∧ bW q o := ⟨o, k, bW.refl o⟩
namespace K1
variable {A B p:Prop}
theorem a (h:A) (k:p:=by first|assumption|omega):uZ p A B:= .yes k h
theorem b (h:B) (k: ¬p:=by first|assumption|omega):uZ p A B:= .no k h
theorem d {x:AV} (h:A) (k:acW x=true:=by rfl):Still x x A:= .mk rfl k h
theorem q {W:Walk} {N id:Nat} {ops:Array Oper} {K:AS→Prop} {st:AS} (h:vI Tryz.prog lay W N ops.toList K ops.toList st) (h1:Region.lexB .any ops=true:=by kernel_rfl) (h2:ops.toList.all (fun o=>lH o.op)=true:=by rfl):iK Tryz.prog lay W N id ops K st:= .quiet jG h1 h2 h
class S (A:Prop) (s B:outParam Prop):Prop where
 go:s→B→A
class T (A:Prop) (s B:outParam Prop):Prop where
 go:s→B→A
class F (A:Prop) (p r X Y:outParam Prop):Prop where
 go:(p→X)→(r→Y)→A
section
variable {s C:Prop} {n m:Int} {N:Nat} {K:Int→Prop} {b:UInt8} {x:Bool} {Q:Nat→Prop}
instance:S (Wr n K .i64) (-9223372036854775808≤n∧n≤9223372036854775807) (K n):=⟨fun h q=> .i64 h.1 h.2 q⟩
instance:S (Wr n K .u64) (0≤n∧n≤18446744073709551615) (K n):=⟨fun h q=> .u64 h.1 h.2 q⟩
instance:S (Wr n K .u32) (0≤n∧n≤4294967295) (K n):=⟨fun h q=> .u32 h.1 h.2 q⟩
instance:S (Wr n K .u8) (0≤n∧n≤255) (K n):=⟨fun h q=> .u8 h.1 h.2 q⟩
instance:S (Wr (b.toNat:Int) K .i64) True (K (b.toNat:Int)):=⟨fun _ q=> .b64 q⟩
instance:S (Wr (b.toNat:Int) K .u64) True (K (b.toNat:Int)):=⟨fun _ q=> .aeG q⟩
instance:S (Wr (b.toNat:Int) K .u32) True (K (b.toNat:Int)):=⟨fun _ q=> .bu32 q⟩
instance:S (Wr (b.toNat:Int) K .u8) True (K (b.toNat:Int)):=⟨fun _ q=> .bu8 q⟩
instance:S (Nr n N A) (0≤n∧n<(N:Int)) A:=⟨fun h q=> .mk (Qu h.1 h.2) q⟩
instance:S (UW p A) p A:=⟨.mk⟩
instance:T (pF n N Q) (0≤n∧n<(N:Int)) (Q n.toNat):=⟨fun h q=> .mk (Qu h.1 h.2) q⟩
instance:T (ASl A B p) True A:=⟨fun _ q=> .CB q⟩
instance:T (Dv n m K) (0≤n∧0<m) (K (n/m)):=⟨fun h q=> .pos h.1 h.2 q⟩
instance:T (Rm n m K) (0≤n∧0<m) (K (n%m)):=⟨fun h q=> .pos h.1 h.2 q⟩
instance:F (uZ p A B) p (¬p) A B:=⟨.mk⟩
instance:F (acy N A B) (N=0) True A B:=⟨fun f g=> .mk f (g trivial)⟩
instance (priority:=low):F (vN.match_1 (fun _=>Prop) x (fun _=>A) (fun _=>B)) (x=true) (x=false) A B:=⟨iH.mk⟩
instance [Decidable p]:F (vN.match_1 (fun _=>Prop) (decide p) (fun _=>A) (fun _=>B)) p (¬p) A B:=⟨iH.dec⟩
theorem w [c:S A s B] (q:B) (k:s:=by first|exact True.intro|omega|assumption|exact⟨by first|omega|(dsimp only;omega),by first|omega|(dsimp only;omega)⟩):A:=c.go k q
theorem z [c:T A s B] (q:B) (k:s:=by first|exact True.intro|omega):A:=c.go k q
theorem y {r X Y:Prop} [c:F A p r X Y] (f:p→X) (g:r→Y):A:=c.go f g
theorem bt (h:A) (k:x=true:=by first|assumption|exact decide_eq_true (by first|assumption|omega)):iH x A B:= .yes k h
theorem bf (h:B) (k:x=false:=by first|assumption|exact decide_eq_false (by first|assumption|omega)):iH x A B:= .no k h
theorem u (q:B) (h:B→A:=by first|exact fun q=>K1.a q|exact fun q=>K1.b q|exact fun q=>K1.d q|exact fun q=>K1.q q|exact fun q=>K1.bt q|exact fun q=>K1.bf q):A:=h q
end
section
variable {n N id:Nat} {ops:Array Oper} {K:AS→Prop} {st:AS}
theorem o (sc:List (Nat×Option (List Nat))) (U:List (Nat×List Nat)) (h:uH Tryz.prog lay (yR Tryz.prog lay n) N ops.toList false K sc [] st) (k:(Region.noSelect ops&&Nat.beq sc.length ops.size&&CW ops.toList sc U)=true:=by kernel_rfl):iK Tryz.prog lay (yR Tryz.prog lay n) N id ops K st:= .sched dV (fO dV _) sc U jG k h
theorem ok (sc:List (Nat×Option (List Nat))) (U:List (Nat×List Nat)) (h:uH Tryz.prog lay (yR Tryz.prog lay n) N ops.toList true K sc [] st) (k:(Region.noSelect ops&&Nat.beq sc.length ops.size&&CW ops.toList sc U)=true:=by kernel_rfl):iK Tryz.prog lay (yR Tryz.prog lay n) N id ops K st:= .keep dV (fO dV _) sc U jG k h
end
section
variable {P:Program} {L:Lay} {W:Walk} {d:Nat} {f:FuncId} {dn bs:List AV} {st:AS} {K:AV→AS→Prop} {r:AV}
theorem LP {h:List (Nat×AO)}: ∀ {xs ys:List AV},xs.map (QA h)=ys→En h xs ys
  |[],_,e=>by subst e;exact .nil
  |_::_,_,e=>by subst e;exact .cons (.eq _) (LP rfl)
theorem TR {st:AS}: ∀ {l:List (Nat×AO)},l.map (fun p=>aP p.1 st.heap)=l.map (fun p=>some p.2)→U1 st l
  |[],_=>trivial
  |_::_,e=>by injection e with e1 e2;exact⟨e1,TR e2⟩
theorem P1 (hs:aH P f bs r []) (e:dn.map (QA st.heap)=bs) (h:K r (bif mX r then st else tC st dn)) (hr:ok2 none r=true:=by exact rfl):dK P L W d f dn st K:= .plain _ _ hs (LP e) hr h
variable {e:TypeId} {s n:Nat} {sc:Bool} {g:Nat→List AV}
theorem F1 (hs:aH P f bs r [(d,.row e s n sc g)]) (eq:dn.map (QA st.heap)=bs) (h:K r ((bif mX r&&sc then st else tC st dn).obj d d (.row e s n sc g))) (hr:ok2 (some d) r=true:=by exact rfl):dK P L W d f dn st K:= .fresh _ _ _ _ _ _ _ hs (LP eq) hr h
theorem C (k:Nat) (τ:List (Nat×Nat)) {hin hout:List (Nat×AO)} (hs:aV P f hin bs r hout) (ha:bs.map (Ny ((k,d)::τ))=dn) (h:K (CJ ((k,d)::τ) r) (st.QB d (iY ((k,d)::τ) hin) (iY ((k,d)::τ) hout)))
  (hh:(iY ((k,d)::τ) hin).map (fun p=>aP p.1 st.heap)=(iY ((k,d)::τ) hin).map (fun p=>some p.2):=by exact rfl)
  (hb:(sF (((k,d)::τ).map (·.2))&&yL ((k,d)::τ) hin&&yL ((k,d)::τ) hout&&bs.all (key1 ((k,d)::τ))&&key2 ((k,d)::τ) r)=true:=by exact rfl)
  (hb2:(sF ((iY ((k,d)::τ) hin).map (·.1))&&(bs.map (Ny ((k,d)::τ))).all Nu&&jT (iY ((k,d)::τ) hout) (iY ((k,d)::τ) hout)&&XA (iY ((k,d)::τ) hout) (CJ ((k,d)::τ) r)&&uw d (iY ((k,d)::τ) hin) (iY ((k,d)::τ) hout))=true:=by exact rfl):dK P L W d f dn st K:= .Gi k τ hs ha (TR hh) hb hb2 h
theorem I {c:Code} {fn:Func} (lv:Nat) (hf:P.funcs[f]? =some fn)
  (h:Tj st dn (kL P L (yR P L n) fn.ntmps lv c (fun e st'=>match e with| .exit _=>False| .normal=>mP L st' fn.results.toList (fun x=>vH (st'.out) (K x))| .ret=>mP L st' fn.results.toList (fun x=>vH (st'.out) (K x)))))
  (hn:(fn.name== "runtime.NumGoroutine")=false:=by exact rfl) (hb:fn.body=some c:=by exact rfl) (hsz:Nat.ble dn.length fn.ntmps=true:=by exact rfl):dK P L (yR P L (n+1)) d f dn st K:= .inl lv fn c hf hn hb hsz h
end
section
variable {f:FuncId} {fn:Func} {c:Code} {dn:List AV} {r:AV} {hh hin hout:List (Nat×AO)} (lv:Nat) (hf:Tryz.prog.funcs[f]? =some fn)
include hf
theorem E (h:yR Tryz.prog lay 9 fn.ntmps lv c (Nz lay fn r hh) (start dn)) (hn:(fn.name== "runtime.NumGoroutine")=false:=by exact rfl) (hb:fn.body=some c:=by exact rfl) (hsz:Nat.ble dn.length fn.ntmps=true:=by exact rfl):aH Tryz.prog f dn r hh:=X9 dV lv hf hn hb hsz h
theorem M (base:Nat) (h:yR Tryz.prog lay 9 fn.ntmps lv c (Yc lay fn hin r hout) (QO dn hin base)) (hn:(fn.name== "runtime.NumGoroutine")=false:=by exact rfl) (hb:fn.body=some c:=by exact rfl) (hsz:Nat.ble dn.length fn.ntmps=true:=by exact rfl):aV Tryz.prog f hin dn r hout:=Ye dV lv base hf hn hb hsz h
end
end K1
end
section
open Go.RowKit
section
variable {P:Program} {L:Lay} {ρ:Nat→Value} {a:Act} {w w':World} {st:AS}
theorem Ou (hL:bQ P L) {fn:Func} {r:AV} {hh:List (Nat×AO)} {keep:Nat→Prop} {ds:List Deferred} (R:Rel ⟨w,keep,fun _=>False,ds⟩ fn.ntmps [] ρ a w' st) (hq:mP L st fn.results.toList (fun x=>aJ st x r hh)):
  ∃v,(results fn a.tmps).run P w'= .ok v w'∧ ∃u ρ,Ending.returned v= .returned u∧Below w.heap.size w w'∧C2 (aC (base0 w keep) w' ρ hh) r u∧(∀p∈hh,bn (aC (base0 w keep) w' ρ hh) p.1 p.2)∧(ah ρ hh).Nodup∧ ∀b∈ah ρ hh,w.heap.size≤b:=by
 let g:Base:=⟨w,keep,fun _=>False,ds⟩
 obtain⟨x,u,hret,hc,hrun⟩:=AX hL R hq
 have hbel:Below w.heap.size w w':=R.below.less fun _ h=>h
 have hlt': ∀ {b:Nat},b∈ah ρ st.heap→g.w.heap.size≤b:=fun{b} h=>(R.own b h).elim id False.elim
 refine⟨u,hrun, ?_⟩
 cases hret with
 | plain _ hr=>
   let k:Nat→Prop:=aK g w' (fun _=>undef) []
   have hk: ∀b,aK g w' ρ st.heap b→k b:=fun b h=>⟨h.1,h.2.1,by simp[ah]⟩
   have rd: ∀y,Reads st ρ w' k y:=fun y id e s n sc f _ hf=>lq R hf hk fun b hb=>by
    have hin:=aQ.2 ⟨_,ay hf,hb⟩
    have:=R.gI hin
    exact⟨this.1,fun hlt=>absurd hlt (by have:=hlt' hin;omega),by simp[ah]⟩
   refine⟨u,fun _=>undef,rfl,hbel,hr _ _ ?_,(fun p hp=>by cases hp),by simp[ah],(fun b hb=>by simp[ah]at hb)⟩
   cases x with
   | dF vs=>
     obtain⟨us,rfl,ha⟩:=C2.uy hc
     exact⟨us,rfl,ha.mO fun y v hy=>xX hk rd (C2.jP hy)⟩
   |_=>exact C2.jP (xX hk rd hc)
 | nil d e s f hx hs=>
   subst hx
   obtain rfl:=C2.dM hc
   have hb:ah (fun _:Nat=>Value.slice none 0 0) [(d,AO.row e s 0 true f)]=[]:=rfl
   refine⟨.slice none 0 0,fun _=> .slice none 0 0,rfl,hbel,rfl,fun p hp=>?_,by rw[hb];exact List.nodup_nil,fun b hb'=>by rw[hb]at hb';cases hb'⟩
   obtain rfl:=List.mem_singleton.1 hp
   exact⟨[],World.ownsRow_nil w' _ e s,hs,fun i hi=>absurd hi (by omega),(fun _ x hx=>by cases hx),aI.nil⟩
 | own id d _ e s n sc f o' hfo ho hr=>
   have hin:=ay hfo
   let ρ':Nat→Value:=fun i=>if i=d then ρ id else undef
   have wu:ρ' d=ρ id:=by simp[ρ']
   have hbl: ∀o'':AO,ah ρ' [(d,o'')]=blks (ρ id):=by intro o'';rw[aX];simp[ρ',ah]
   let k:Nat→Prop:=aK g w' ρ' [(d,o')]
   have hk: ∀b,aK g w' ρ st.heap b→k b:=fun b h=>⟨h.1,h.2.1,fun hb=>h.2.2 (by
    rw[hbl]at hb
    exact aQ.2 ⟨_,hin,hb⟩)⟩
   have rd: ∀i,i≠id→Reads st ρ w' k (.own i):=fun i hi j e s n sc f hij hf=>lq R hf hk fun b hb=>by
    cases hij
    have hin0:=aQ.2 ⟨_,ay hf,hb⟩
    have:=R.gI hin0
    refine⟨this.1,fun hlt=>absurd hlt (by have:=hlt' hin0;omega),fun hin'=>?_⟩
    rw[hbl]at hin'
    exact hi (fG R.apart _ (ay hf) _ hin hb hin')
   refine⟨u,ρ',rfl,hbel,hr _ _ ?_, ?_, ?_, ?_⟩
   · cases x with
     | dF vs=>
       obtain⟨us,rfl,ha⟩:=C2.uy hc
       exact⟨us,rfl,ha.mO fun y v hy=>lX hk wu rd (C2.jP hy)⟩
     |agg cs=>exact C2.jP (lX hk wu rd hc)
     |v y=>exact hc
     |own i=>exact C2.jP (lX hk wu rd (x:= .own i) hc)
     |sl s n sc f=>exact C2.jP (lX hk wu rd (x:= .sl s n sc f) hc)
     |_=>trivial
   · intro p hp
     simp only[List.mem_singleton]at hp
     subst hp
     refine ho _ _ ?_
     obtain⟨us,hown,hs,hfl,hsc,ha⟩:=R.objs _ hin
     exact⟨us,by simpa[aC,wu]using hown,hs,hfl,hsc,ha.imp fun _ _=>PC.mono hk (fun _ _=>rfl)⟩
   · rw[hbl]
     exact jS R.apart hin
   · intro b hb
     rw[hbl]at hb
     exact hlt' (aQ.2 ⟨_,hin,hb⟩)
def ac0 (P:Program) (L:Lay) (W:Walk) (glv:Nat) (Xl:Func) (gc:Code) (fn:Func) (r:AV) (hh:List (Nat×AO)) (st:AS):Prop:=
 match st.back with
 |f::[]=>W Xl.ntmps glv gc (fun e st'=>match e with| .exit _=>False| .normal=>mP L st' Xl.results.toList (fun _=>vH st'.out (fun st2=>mP L st2 fn.results.toList (fun x=>aJ st2 x r hh)))| .ret=>mP L st' Xl.results.toList (fun _=>vH st'.out (fun st2=>mP L st2 fn.results.toList (fun x=>aJ st2 x r hh)))) (AS.into ⟨st.sl,st.heap,[],st.base⟩ [qW f 0,qW f 1])
 |_=>False
def dMk (st:AS) (i j:Nat) (K:AS→Prop):Prop:=
 match st.tmps i,st.tmps j with
 | .box b x,.box c y=>K ⟨st.sl,st.heap,[[(0,.box b x),(1,.box c y)]],st.base⟩
 |_,_=>False
def dQ (P:Program) (L:Lay) (fn:Func) (r:AV) (hh:List (Nat×AO)) (K:AS→Prop):jI→AS→Prop
  | .normal,st=>K st
  | .ret,st=>mP L st fn.results.toList (fun x=>aJ st x r hh)
  | .exit _,_=>False
def dE (K:AS→Prop):jI→AS→Prop
  | .normal,st=>K st
  | .ret,st=>K st
  | .exit _,_=>False
theorem Ov (hL:bQ P L) (n lv glv:Nat) {f gg:FuncId} {fn Xl:Func} {x y z rest gc:Code} {id t i j:Nat} {o1 o2:Oper} {dn:List AV} {r:AV} {hh:List (Nat×AO)} (hf:P.funcs[f]? =some fn) (hn:(fn.name== "runtime.NumGoroutine")=false)
  (hb:fn.body=some (x.seq (y.seq (z.seq ((Code.region id #[o1,o2] false).seq rest))))) (hsz:Nat.ble dn.length fn.ntmps=true)
  (hgf:P.funcs[gg]? =some Xl) (hgn:(Xl.name== "runtime.NumGoroutine")=false) (hgb:Xl.body=some gc) (hgs:Nat.ble 2 Xl.ntmps=true)
  (h1:o1.op= .makeFunc (.func gg) #[] #[.tmp i,.tmp j]) (d1:o1.dst=some t) (g1:o1.guard=none) (h2:o2.op= .defer {callee:= .value (.tmp t),args:= #[],argTypes:= #[]}) (d2:o2.dst=none) (g2:o2.guard=none) (ht:Nat.ble (t+1) fn.ntmps=true)
  (h:yR P L n fn.ntmps lv x (dQ P L fn r hh fun st=>yR P L n fn.ntmps lv y (dQ P L fn r hh fun st=>yR P L n fn.ntmps lv z (dQ P L fn r hh fun st=>dMk st i j fun st=>yR P L n fn.ntmps lv rest (dE (ac0 P L (yR P L n) glv Xl gc fn r hh)) (st.put t .junk)) st) st) (start dn)):aH P f dn r hh:=by
 have hE:Enters P gg:=⟨Xl,gc,hgf,hgn,hgb⟩
 refine⟨⟨fn,_,hf,hn,hb⟩,fun w keep args hkeep hargs=>?_⟩
 have hsz:=Nat.le_of_ble_eq_true hsz
 have hlen:args.length=dn.length:=hargs.1.symm
 refine calls_of_wp_defers hf hb ?_
 let g:Base:=base0 w keep
 have zx:aI (C2 (aC g w (fun _=>undef) [])) dn args:=hargs.imp fun _ _ h=>C2.jP (C1.same (X:=⟨w,keep,fun _=>undef⟩) (Y:=aC g w (fun _=>undef) []) (fun b hb=>⟨hkeep b hb,fun _=> .inl hb,by simp[ah]⟩) (fun _ _=>rfl) rfl h)
 have R0:Rel g fn.ntmps [] (fun _=>undef) {tmps:=args.toArray++Array.replicate (fn.ntmps-args.toArray.size) undef,defers:=[]} w (start dn):=
  ⟨by simp;omega,rfl,fM.refl _ _ _,o7 zx hsz,(fun p hp=>by cases hp),by simp[start,ah],(fun b hb=>by simp[start,ah]at hb),trivial⟩
 generalize hE0:bodyPostD P fn _=E
 have early: ∀ {ρ a w' st},Rel g fn.ntmps [] ρ a w' st→mP L st fn.results.toList (fun x=>aJ st x r hh)→E .ret a w':=fun R hq=>by
  subst hE0
  show Leaves P fn _ _ _ _ _
  rw[show _=[]from R.defers]
  exact Ou hL R hq
 have step: ∀ (c d:Code) {K:AS→Prop},(∀ {ρ a w' st},Rel g fn.ntmps [] ρ a w' st→K st→d.wp P E a w')→ ∀ {ρ a w' st},Rel g fn.ntmps [] ρ a w' st→yR P L n fn.ntmps lv c (dQ P L fn r hh K) st→(c.seq d).wp P E a w':=fun c d K hd ρ a w' st R hc=>
  wp_seq (fO hL n g fn.ntmps lv [] c (dQ P L fn r hh K) _ ⟨fun ρ a w st R h=>hd R h,fun i ρ a w st R h=>h.elim,fun ρ a w st R h=>early R h⟩ R hc)
 refine step x _ (fun R h=>step y _ (fun R h=>step z _ (fun{ρ a w' st} R h=>?_) R h) R h) R0 h
 --the region that defers
 unfold dMk at h
 split at h
 · rename_i b ox c oy eb ec
   have hi:=R.tmps i
   have hj:=R.tmps j
   rw[eb]at hi
   rw[ec]at hj
   obtain⟨B1,hB1,hv1⟩:=C2.kN hi
   obtain⟨B2,hB2,hv2⟩:=C2.kN hj
   let p1:Value:= .pointer (some ⟨B1,ox,none⟩)
   let p2:Value:= .pointer (some ⟨B2,oy,none⟩)
   let d0:Deferred:={target:= .fn (.func gg) #[p1,p2],args:= #[]}
   let g':Base:=⟨w,keep,fun _=>False,[d0]⟩
   have hd0:a.defers=[]:=R.defers
   have ht':t<a.tmps.size:=by rw[R.size];exact Nat.le_of_ble_eq_true ht
   refine wp_seq (wp_region_list ?_)
   have fin: ∀u,Rel g' fn.ntmps [#[p1,p2]] ρ {({(a.put (some t) u)with defers:=[d0]}:Act)with defers:=[d0]} w' (AS.put ⟨st.sl,st.heap,[[(0,.box b ox),(1,.box c oy)]],st.base⟩ t .junk):=fun u=>by
    refine⟨by simpa[Act.put]using R.size,rfl,R.below,fun t'=>?_,R.objs,R.apart,R.own,⟨fun t'=>?_,trivial⟩⟩
    · show C2 _ (upd t .junk st.tmps t') ((a.tmps.setIfInBounds t u).getD t' undef)
      unfold upd
      cases hb':Nat.beq t' t with
      |true=>trivial
      | false=>
        have:t'≠t:=fun e=>by rw[e,Nat.beq_refl]at hb';cases hb'
        rw[show(a.tmps.setIfInBounds t u).getD t' undef=a.tmps.getD t' undef by simp[Ne.symm this]]
        exact R.tmps t'
    · match t' with
      |0=>exact⟨B1,hB1,rfl⟩
      |1=>exact⟨B2,hB2,rfl⟩
      |_+2=>exact trivial
   have more: ∀ {ρ a w' st},Rel g' fn.ntmps [#[p1,p2]] ρ a w' st→ac0 P L (yR P L n) glv Xl gc fn r hh st→E .ret a w'∧E .normal a w':=fun{ρ a w' st} R h=>by
    subst hE0
    suffices hl:Leaves P fn a.tmps _ a.defers .returning w' from⟨hl,hl⟩
    rw[show a.defers=[d0]from R.defers]
    unfold ac0 at h
    split at h
    · rename_i f' ebk
      have hbk:=R.back
      rw[ebk]at hbk
      have R1:Rel g' fn.ntmps [] ρ a w' ⟨st.sl,st.heap,[],st.base⟩:=⟨R.size,R.defers,R.below,R.tmps,R.objs,R.apart,R.own,trivial⟩
      have hin:=X5 hL (fO hL n) R1 (args:=[p1,p2]) (K:=fun _ st2=>mP L st2 fn.results.toList (fun x=>aJ st2 x r hh)) (aI.cons (hbk.1 0) (aI.cons (hbk.1 1) aI.nil)) glv Xl gc hgs h
      refine leaves_cons (f:=gg) (args:= #[p1,p2]) (by simp) (by simpa[invoke]using pX hE #[p1,p2] w') ((callsD_of_wp hgf hgb hin).mono ?_)
      rintro e u' w2 ⟨rfl,u,x,st2,TB,rfl,hq,R2,_⟩
      exact Ou hL R2 hq
    · exact h.elim
   have hv1:a.eval (.tmp i)=p1:=hv1
   have hv2:a.eval (.tmp j)=p2:=hv2
   have hop1:(execOp a.eval o1).run P w'= .ok (.value (.func (.func gg) #[] #[p1,p2])) w':=by simp[execOp,h1,Instr.makeFunc,hv1,hv2]
   refine wpList_step (fun K1 hK1=>?_)
   simp only[Region.wanted,g1,if_true]
   unfold Oper.wp
   rw[hop1,Oper.upon_value]
   refine hK1 _ _ (wpList_step (fun K2 hK2=>?_))
   simp only[Region.wanted,g2,if_true]
   have hev:(a.put o1.dst (.func (.func gg) #[] #[p1,p2])).eval (.tmp t)= .func (.func gg) #[] #[p1,p2]:=by
    rw[d1]
    simp[Act.eval,Act.put,ht']
   have hop2:(execOp (a.put o1.dst (.func (.func gg) #[] #[p1,p2])).eval o2).run P w'= .ok (.defer d0) w':=by simp[execOp,h2,resolve,hev,Deferred.ofValue,d0]
   unfold Oper.wp
   rw[hop2,Oper.upon_defer]
   refine hK2 _ _ (show Exit.then _ _ _ _ _ from ?_)
   have RR:=fin (.func (.func gg) #[] #[p1,p2])
   have ea:({(a.put o1.dst (.func (.func gg) #[] #[p1,p2]))with defers:=d0::(a.put o1.dst (.func (.func gg) #[] #[p1,p2])).defers}:Act).put o2.dst undef={(a.put (some t) (.func (.func gg) #[] #[p1,p2]))with defers:=[d0]}:=by
    rw[d1,d2]
    simp[Act.put,hd0]
   show rest.wp P E _ _
   rw[ea]
   exact fO hL n g' fn.ntmps lv [#[p1,p2]] rest _ E ⟨fun ρ a w st R h=>(more R h).2,fun i ρ a w st R h=>h.elim,fun ρ a w st R h=>(more R h).1⟩ RR h
 · exact h.elim
end
end
structure aW where
 (c0 c1 c2 c3 c4:Int)
def aW.get (c:aW) (r:Int):Int:=if r=0 then c.c0 else if r=1 then c.c1 else if r=2 then c.c2 else if r=3 then c.c3 else c.c4
structure Ev where
 (r n:Int) (c:aW) (h k:Int) (key:ByteArray) (l:Int) (v:ByteArray)
structure Ed where
 (k:Int) (key:ByteArray) (l:Int) (v:ByteArray)
def Ev.ed (e:Ev):Ed:=⟨e.k,e.key,e.l,e.v⟩
def fQ (n a b:Int):Bool:=decide (a≤n)&&decide (n≤b)
def dN (k:Int):Bool:=k !=1&&k !=2
def hasB (c:aW) (r n:Int):Bool:=decide (0≤r∧r<5∧1≤n∧n≤c.get r)
def aO (a b:Ev):Bool:=hasB b.c a.r a.n
def wI (s:ByteArray):Bool:=s.data.toList.all fun b=>decide (97≤b.toNat∧b.toNat≤122)
def keyE (s:ByteArray):Int:=if 1≤s.size∧s.size≤8∧wI s=true then 0 else 10
def l7 (n:Int):Int:=if 0≤n∧n<2 then 0 else 11
def fA (s:ByteArray):Int:=if 1≤s.size∧s.size≤12 then 0 else 12
def jJ (e:Ed):Int:=
 if e.k<1∨5<e.k then 1
 else if keyE e.key≠0 then keyE e.key
 else if e.k=1∨e.k=2 then(if e.l≠0 then 11 else if e.v.size≠0 then 12 else 0)
 else if l7 e.l≠0 then l7 e.l
 else fA e.v
def nV (n:Int):Bool:=fQ n 0 1048576
def eG (e:Ev):Int:=
 if !(fQ e.r 0 4&&fQ e.n 1 1048576&&fQ e.h 1 16777216)then 1
 else if !(nV e.c.c0&&nV e.c.c1&&nV e.c.c2&&nV e.c.c3&&nV e.c.c4)then 1
 else if e.c.get e.r !=e.n-1 then 1
 else jJ e.ed
def gJ:Nat→Nat→List UInt8
  |0,n=>[UInt8.ofNat n]
  |f+1,n=>if n<128 then [UInt8.ofNat n]else UInt8.ofNat (n%128+128)::gJ f (n/128)
def ak (n:Nat):List UInt8:=gJ 9 n
def iF (n:Int):List UInt8:=ak n.toNat
def others (e:Ev):List Int:=
 (if e.r≠0 then [e.c.c0]else [])++(if e.r≠1 then [e.c.c1]else [])++(if e.r≠2 then [e.c.c2]else [])++(if e.r≠3 then [e.c.c3]else [])++(if e.r≠4 then [e.c.c4]else [])
def byteOf (n:Int):UInt8:=UInt8.ofNat n.toNat
def words (s:ByteArray):List UInt8:=UInt8.ofNat s.size::s.data.toList
def aT (e:Ev):List UInt8:=
 [byteOf e.k,byteOf e.r]++iF e.n++(others e).flatMap iF++iF e.h++words e.key++(if dN e.k then byteOf e.l::words e.v else [])
theorem yg (f n:Nat):1≤(gJ f n).length:=by
 cases f with
 |zero=>simp[gJ]
 |succ f=>unfold gJ;split<;>simp
theorem bD (f n:Nat):(gJ f n).length≤f+1:=by
 induction f generalizing n with
 |zero=>simp[gJ]
 |succ f ih=>unfold gJ;split<;>simp;exact ih _
theorem Gw {acc t:List UInt8} {f m:Nat} (h:acc++gJ f m=t) (hm:m<128^(f+1)) (h128:128≤m):
  ∃f',(acc++[UInt8.ofNat (m%128+128)])++gJ f' (m/128)=t∧m/128<128^(f'+1):=by
 cases f with
 |zero=>simp at hm;omega
 | succ f=>
   refine⟨f, ?_, ?_⟩
   · rw[←h]
     simp[gJ,Nat.not_lt.2 h128]
   · rw[Nat.pow_succ]at hm
     exact Nat.div_lt_of_lt_mul (by omega)
theorem JG {acc t:List UInt8} {f m:Nat} (h:acc++gJ f m=t) (hm:m<128):acc++[UInt8.ofNat m]=t:=by
 rw[←h]
 cases f with
 |zero=>rfl
 |succ f=>simp[gJ,hm]
theorem Q8 (n:Nat) (h:n≤4294967296):([]:List UInt8)++gJ 9 n=ak n∧n<128^(9+1):=⟨rfl,by
 have:128^(9+1)=1180591620717411303424:=by decide
 omega⟩
section
open Go.RowKit
def aW.cs (c:aW):List AV:=[.v (.int .i64 c.c0),.v (.int .i64 c.c1),.v (.int .i64 c.c2),.v (.int .i64 c.c3),.v (.int .i64 c.c4)]
def aW.av (c:aW):AV:= .agg c.cs
def Ev.cs (e:Ev):List AV:=[.v (.int .i64 e.r),.v (.int .i64 e.n),.v (.int .i64 e.c.c0),.v (.int .i64 e.c.c1),.v (.int .i64 e.c.c2),.v (.int .i64 e.c.c3),.v (.int .i64 e.c.c4),.v (.int .i64 e.h),.v (.int .i64 e.k),.v (.string e.key),.v (.int .i64 e.l),.v (.string e.v)]
def Ev.av (e:Ev):AV:= .agg e.cs
def Ed.av (e:Ed):AV:= .agg [.v (.int .i64 e.k),.v (.string e.key),.v (.int .i64 e.l),.v (.string e.v)]
def Ed.cs (e:Ed):List AV:=[.v (.int .i64 e.k),.v (.string e.key),.v (.int .i64 e.l),.v (.string e.v)]
instance:Inhabited Ev:=⟨⟨0,0,⟨0,0,0,0,0⟩,0,0,⟨#[]⟩,0,⟨#[]⟩⟩⟩
abbrev dX (l:List Ev):Nat→List AV:=qX Ev.cs l
def bY:aW:=⟨0,0,0,0,0⟩
def aW.at (c:aW):Nat→Int
  |0=>c.c0
  |1=>c.c1
  |2=>c.c2
  |3=>c.c3
  |_=>c.c4
theorem C1.iP {X:CX} {s:Nat} {sc:Bool} {f:Nat→List AV} (hs:0<s) {u:Value} (h:C1 X (.v (.slice none 0 0)) u):C1 X (.sl s 0 sc f) u:=by
 have h:u= .slice none 0 0:=h
 subst h
 exact(show C0 X (.sl s 0 sc f) (.slice none 0 0)from .sl s 0 sc f none 0 [] hs (Nat.le_refl _) (by simp[maxLen]) (by simp) (fun i hi=>absurd hi (Nat.not_lt_zero i)) (fun _ x hx=>by simp[flat]at hx) (fun i x u hx=>by simp[flat]at hx) (.inl rfl))
theorem Rm.aeH {a:Int} {K:Int→Prop} (h:K (a.tmod 5)):Rm a 5 K:= .raw (by decide) h
theorem Rm.is {a b c:Int} {K:Int→Prop} (h0:0≤a) (hb:0<b) (h:a%b=c) (k:K c):Rm a b K:= .pos h0 hb (by rw[h];exact k)
end
def eX (a b:Ev):Bool:=decide (a.key=b.key)
def rJ (a b:Ev):Bool:=eX a b&&decide (a.l=b.l)
def jk (a b:Ev):Bool:=rJ a b&&decide (a.v=b.v)
def fB (k:Int) (same:Ev→Ev→Bool) (l:List Ev) (e:Ev):Bool:=l.any fun a=>decide (a.k=k)&&(same a e&&aO e a)
def gZ (k:Int) (same:Ev→Ev→Bool) (l:List Ev) (e:Ev):Bool:=l.any fun a=>decide (a.k=k)&&(same a e&&aO a e)
def bK (l:List Ev) (e:Ev):Bool:=decide (e.k=1)&& !fB 2 eX l e
def aG (l:List Ev):List Ev:=l.filter (bK l)
def countB (l cr:List Ev) (e:Ev):Bool:=(decide (e.k=3)||(decide (e.k=4)&& !fB 5 jk l e))&&gZ 1 eX cr e
def bI (l cr:List Ev):List Ev:=l.filter (countB l cr)
structure Ct where
 (key:ByteArray) (h0 h1:Bool) (f0 f1:ByteArray) (s0 s1:List ByteArray)
def fE (l:List Ev) (e:Ev):Bool:=fB e.k (if e.k=4 then jk else rJ) l e
def o9 (l:List Ev):Nat:=(aG l).length+((bI l (aG l)).filter fun e=> !fE l e).length
section
open Go.RowKit
theorem Gx (c:aW) (r n:Int):aH Tryz.prog 92 [c.av,.v (.int .i64 r),.v (.int .i64 n)] (.v (.bool (hasB c r n))) []:=by
 obtain⟨c0,c1,c2,c3,c4⟩:=c
 dsimp only[aW.av]
 by_cases hr:r=0∨r=1∨r=2∨r=3∨r=4
 · rcases hr with rfl|rfl|rfl|rfl|rfl
   all_goals
    refine K1.E 0x4f Tryz.func92 ?_
    repeat' ((conv=>whnf);first|refine K1.w ?_|refine K1.u ?_|refine aJ.dO ?_|refine K1.z ?_|refine K1.y (fun _=>?_) (fun _=>?_)|fail)
    all_goals(conv=>whnf)
    all_goals(refine bF.mk (aS.of ?_))
    all_goals simp[hasB,aW.get, *]
 · have h: ¬ (0≤r∧r<5):=by omega
   refine K1.E 0x4f Tryz.func92 ?_
   repeat' ((conv=>whnf);first|refine K1.w ?_|refine K1.u ?_|refine aJ.dO ?_|refine K1.z ?_|refine K1.y (fun _=>?_) (fun _=>?_)|fail)
   all_goals(conv=>whnf)
   all_goals(refine bF.mk (aS.of ?_))
   all_goals(simp[hasB];try omega)
theorem iZ (a b:Ev):aH Tryz.prog 180 [a.av,b.av] (.v (.bool (aO a b))) []:=by
 have h:=Gx b.c a.r a.n
 obtain⟨q,hq⟩: ∃q,hasB b.c a.r a.n=q:=⟨_,rfl⟩
 rw[hq]at h
 rw[show aO a b=q from hq]
 dsimp only[Ev.av,Ev.cs,aW.av]at h⊢
 refine K1.E 0x1f Tryz.func180 ?_
 repeat' ((conv=>whnf);first|refine K1.w ?_|refine K1.u ?_|refine K1.P1 h rfl ?_|refine aJ.dO ?_|refine K1.z ?_|refine K1.y (fun _=>?_) (fun _=>?_)|fail)
 all_goals(conv=>whnf)
 all_goals(refine bF.mk (aS.of ?_))
 all_goals simp[*]
theorem jW (a b:Ev):aH Tryz.prog 148 [a.av,b.av] (.v (.bool (eX a b))) []:=by
 dsimp only[Ev.av,Ev.cs]
 refine K1.E 0x1f Tryz.func148 ?_
 repeat' ((conv=>whnf);first|refine K1.w ?_|refine K1.u ?_|refine aJ.dO ?_|refine K1.z ?_|refine K1.y (fun _=>?_) (fun _=>?_)|fail)
 all_goals(conv=>whnf)
 all_goals(refine bF.mk (aS.of ?_))
 all_goals simp[eX, *]
theorem Q9 (a b:Ev):aH Tryz.prog 181 [a.av,b.av] (.v (.bool (rJ a b))) []:=by
 have h:=jW a b
 obtain⟨q,hq⟩: ∃q,eX a b=q:=⟨_,rfl⟩
 rw[hq]at h
 rw[show rJ a b=(q&&decide (a.l=b.l)) by rw[←hq];rfl]
 dsimp only[Ev.av,Ev.cs]at h⊢
 refine K1.E 0x1f Tryz.func181 ?_
 repeat' ((conv=>whnf);first|refine K1.w ?_|refine K1.u ?_|refine K1.P1 h rfl ?_|refine aJ.dO ?_|refine K1.z ?_|refine K1.y (fun _=>?_) (fun _=>?_)|fail)
 all_goals(conv=>whnf)
 all_goals(refine bF.mk (aS.of ?_))
 all_goals simp[*]
theorem uJ (a b:Ev):aH Tryz.prog 150 [a.av,b.av] (.v (.bool (jk a b))) []:=by
 have h:=Q9 a b
 obtain⟨q,hq⟩: ∃q,rJ a b=q:=⟨_,rfl⟩
 rw[hq]at h
 rw[show jk a b=(q&&decide (a.v=b.v)) by rw[←hq];rfl]
 dsimp only[Ev.av,Ev.cs]at h⊢
 refine K1.E 0x1f Tryz.func150 ?_
 repeat' ((conv=>whnf);first|refine K1.w ?_|refine K1.u ?_|refine K1.P1 h rfl ?_|refine aJ.dO ?_|refine K1.z ?_|refine K1.y (fun _=>?_) (fun _=>?_)|fail)
 all_goals(conv=>whnf)
 all_goals(refine bF.mk (aS.of ?_))
 all_goals simp[*]
end
section
open Go.RowKit
theorem pI.none: ∀fs:List (List (Nat×AV)),pI fs (fs.map fun _=>[])
  |[]=>trivial
  |_::fs=>⟨fun _=> .inl rfl,pI.none fs⟩
theorem dL.mkB {st:AS} (σ:List (Nat×Nat)) (l:List (Nat×AV)) (h:List (Nat×AO)) (b:Nat) (nd:nodupB (σ.map (·.2))=true) (ht:LeT (st.ren σ) l) (hh:LeH (st.ren σ) h) (hn:nodupB (h.map (·.1))=true):dL σ st ⟨l,h,(st.ren σ).back.map fun _=>[],b⟩:=
 ⟨nd,let k:=Fv.mk' l h ht hh hn;⟨k.tm,k.hp,k.nd,pI.none _⟩⟩
theorem LQ {α:Type} [Inhabited α] {p:α→Bool} {l:List α} {j:Nat} (hj:j<l.length) (h:p (l.getD j default)=true):l.any p=true:=by
 rw[List.any_eq_true]
 refine⟨l.getD j default, ?_,h⟩
 rw[List.getD,List.getElem?_eq_getElem hj]
 exact List.getElem_mem _
theorem any_none {α:Type} [Inhabited α] {p:α→Bool} {l:List α} (h: ∀i,i<l.length→p (l.getD i default)=false):l.any p=false:=by
 rw[List.any_eq_false]
 intro x hx
 obtain⟨i,hi,rfl⟩:=List.getElem_of_mem hx
 have:=h i hi
 rw[List.getD,List.getElem?_eq_getElem hi]at this
 simpa using this
theorem kS (k:Int) (g:FuncId) (same:Ev→Ev→Bool) (hs: ∀a b,aH Tryz.prog g [a.av,b.av] (.v (.bool (same a b))) []) (l:List Ev) (e:Ev) (hl:l.length≤140737488355328):
  aH Tryz.prog 149 [.agg [.v (.int .i64 k),.v (.func (.func g) #[] #[])],.sl 12 l.length true (dX l),e.av] (.v (.bool (fB k same l e))) []:=by
 have hyes: ∀j,j<l.length→(l.getD j default).k=k→same (l.getD j default) e=true→aO e (l.getD j default)=true→fB k same l e=true:=fun j hj h1 h2 h3=>LQ hj (by rw[h1,h2,h3];simp)
 have hno:(∀i,i<l.length→(decide ((l.getD i default).k=k)&&(same (l.getD i default) e&&aO e (l.getD i default)))=false)→fB k same l e=false:=fun h=>any_none h
 generalize fB k same l e=R at hyes hno
 dsimp only[Ev.av]
 dsimp only[Ev.cs]
 refine K1.E 0x6f Tryz.func149 ?_
 repeat' ((conv=>whnf);first|refine K1.w ?_|refine K1.u ?_|refine K1.I 0x13 Tryz.func178 ?_|refine K1.I 0x103b3 Tryz.func196 ?_|refine aJ.dO ?_|refine K1.z ?_|refine K1.y (fun _=>?_) (fun _=>?_)|fail)
 conv=>whnf
 refine aN.mk {j:Nat//j≤l.length∧ ∀i,i<j→(decide ((l.getD i default).k=k)&&(same (l.getD i default) e&&aO e (l.getD i default)))=false} (fun j=>⟨[(8,.v (.int .i64 (j.1:Int))),(7,.v (.int .i64 (l.length:Int))),(0,.sl 12 l.length true (dX l)),(1,.fn 179 [.box 0 0,.box 1 0])],
   [(1,.box 42 e.cs),(0,.box 215 [.v (.int .i64 k),.v (.func (.func g) #[] #[])])],[[],[]],2⟩) (fun j=>l.length-j.1) ⟨0,Nat.zero_le _,fun i h=>absurd h (Nat.not_lt_zero i)⟩ _
  (dL.mkB [] _ _ _ rfl ⟨aS.int rfl,aj,aj,aj,trivial⟩ ⟨aF rfl,aF rfl,trivial⟩ rfl) ?_
 rintro⟨j,hj,hall⟩
 dsimp only
 by_cases hjl:j<l.length
 · have hsj:=hs (l.getD (j:Int).toNat default) e
   have hbj:=iZ e (l.getD (j:Int).toNat default)
   have hyj:=hyes j hjl
   rw[show j=(j:Int).toNat by omega]at hyj
   have hnj:(decide ((l.getD (j:Int).toNat default).k=k)&&(same (l.getD (j:Int).toNat default) e&&aO e (l.getD (j:Int).toNat default)))=false→ ∀i,i<j+1→(decide ((l.getD i default).k=k)&&(same (l.getD i default) e&&aO e (l.getD i default)))=false:=by
    intro h i hi
    rcases Nat.lt_or_ge i j with h'|h'
    · exact hall i h'
    · obtain rfl:i=j:=by omega
      rwa [show(i:Int).toNat=i by omega]at h
   dsimp only[Ev.av,Ev.cs]at hsj hbj⊢
   generalize same (l.getD (j:Int).toNat default) e=q1 at hsj hyj hnj
   generalize aO e (l.getD (j:Int).toNat default)=q2 at hbj hyj hnj
   repeat' ((conv=>whnf);first|refine K1.w ?_|refine K1.u ?_|refine K1.P1 hsj rfl ?_|refine K1.P1 hbj rfl ?_|refine K1.I 0x1f Tryz.func179 ?_|refine aJ.dO ?_|refine K1.z ?_|refine K1.y (fun _=>?_) (fun _=>?_)|fail)
   all_goals(conv=>whnf)
   all_goals first
     |(rw[hyj (by assumption) (by assumption) (by assumption)];exact bF.mk (aj))
     |exact⟨⟨j+1,by omega,hnj (by first|(rw[decide_eq_false (by assumption)];rfl)|(rw[show q1=false by assumption];simp)|(rw[show q2=false by assumption];simp))⟩,_,dL.mk' [] _ _ _ rfl ⟨aS.int rfl,aj,aj,aj,trivial⟩ ⟨aF rfl,aF rfl,trivial⟩ rfl,by show l.length-(j+1)<l.length-j;omega⟩
 · have hR:R=false:=hno fun i hi=>hall i (by omega)
   repeat' ((conv=>whnf);first|refine K1.w ?_|refine K1.u ?_|refine aJ.dO ?_|refine K1.z ?_|refine K1.y (fun _=>?_) (fun _=>?_)|fail)
   all_goals(conv=>whnf)
   rw[hR]
   exact bF.mk (aj)
theorem uK (k:Int) (g:FuncId) (same:Ev→Ev→Bool) (hs: ∀a b,aH Tryz.prog g [a.av,b.av] (.v (.bool (same a b))) []) (l:List Ev) (e:Ev) (hl:l.length≤140737488355328):
  aH Tryz.prog 151 [.agg [.v (.int .i64 k),.v (.func (.func g) #[] #[])],.sl 12 l.length true (dX l),e.av] (.v (.bool (gZ k same l e))) []:=by
 have hyes: ∀j,j<l.length→(l.getD j default).k=k→same (l.getD j default) e=true→aO (l.getD j default) e=true→gZ k same l e=true:=fun j hj h1 h2 h3=>LQ hj (by rw[h1,h2,h3];simp)
 have hno:(∀i,i<l.length→(decide ((l.getD i default).k=k)&&(same (l.getD i default) e&&aO (l.getD i default) e))=false)→gZ k same l e=false:=fun h=>any_none h
 generalize gZ k same l e=R at hyes hno
 dsimp only[Ev.av]
 dsimp only[Ev.cs]
 refine K1.E 0x6f Tryz.func151 ?_
 repeat' ((conv=>whnf);first|refine K1.w ?_|refine K1.u ?_|refine K1.I 0x13 Tryz.func178 ?_|refine K1.I 0x103b3 Tryz.func196 ?_|refine aJ.dO ?_|refine K1.z ?_|refine K1.y (fun _=>?_) (fun _=>?_)|fail)
 conv=>whnf
 refine aN.mk {j:Nat//j≤l.length∧ ∀i,i<j→(decide ((l.getD i default).k=k)&&(same (l.getD i default) e&&aO (l.getD i default) e))=false} (fun j=>⟨[(8,.v (.int .i64 (j.1:Int))),(7,.v (.int .i64 (l.length:Int))),(0,.sl 12 l.length true (dX l)),(1,.fn 182 [.box 0 0,.box 1 0])],
   [(1,.box 42 e.cs),(0,.box 215 [.v (.int .i64 k),.v (.func (.func g) #[] #[])])],[[],[]],2⟩) (fun j=>l.length-j.1) ⟨0,Nat.zero_le _,fun i h=>absurd h (Nat.not_lt_zero i)⟩ _
  (dL.mkB [] _ _ _ rfl ⟨aS.int rfl,aj,aj,aj,trivial⟩ ⟨aF rfl,aF rfl,trivial⟩ rfl) ?_
 rintro⟨j,hj,hall⟩
 dsimp only
 by_cases hjl:j<l.length
 · have hsj:=hs (l.getD (j:Int).toNat default) e
   have hbj:=iZ (l.getD (j:Int).toNat default) e
   have hyj:=hyes j hjl
   rw[show j=(j:Int).toNat by omega]at hyj
   have hnj:(decide ((l.getD (j:Int).toNat default).k=k)&&(same (l.getD (j:Int).toNat default) e&&aO (l.getD (j:Int).toNat default) e))=false→ ∀i,i<j+1→(decide ((l.getD i default).k=k)&&(same (l.getD i default) e&&aO (l.getD i default) e))=false:=by
    intro h i hi
    rcases Nat.lt_or_ge i j with h'|h'
    · exact hall i h'
    · obtain rfl:i=j:=by omega
      rwa [show(i:Int).toNat=i by omega]at h
   dsimp only[Ev.av,Ev.cs]at hsj hbj⊢
   generalize same (l.getD (j:Int).toNat default) e=q1 at hsj hyj hnj
   generalize aO (l.getD (j:Int).toNat default) e=q2 at hbj hyj hnj
   repeat' ((conv=>whnf);first|refine K1.w ?_|refine K1.u ?_|refine K1.P1 hsj rfl ?_|refine K1.P1 hbj rfl ?_|refine K1.I 0x1f Tryz.func182 ?_|refine aJ.dO ?_|refine K1.z ?_|refine K1.y (fun _=>?_) (fun _=>?_)|fail)
   all_goals(conv=>whnf)
   all_goals first
     |(rw[hyj (by assumption) (by assumption) (by assumption)];exact bF.mk (aj))
     |exact⟨⟨j+1,by omega,hnj (by first|(rw[decide_eq_false (by assumption)];rfl)|(rw[show q1=false by assumption];simp)|(rw[show q2=false by assumption];simp))⟩,_,dL.mk' [] _ _ _ rfl ⟨aS.int rfl,aj,aj,aj,trivial⟩ ⟨aF rfl,aF rfl,trivial⟩ rfl,by show l.length-(j+1)<l.length-j;omega⟩
 · have hR:R=false:=hno fun i hi=>hall i (by omega)
   repeat' ((conv=>whnf);first|refine K1.w ?_|refine K1.u ?_|refine aJ.dO ?_|refine K1.z ?_|refine K1.y (fun _=>?_) (fun _=>?_)|fail)
   all_goals(conv=>whnf)
   rw[hR]
   exact bF.mk (aj)
end
section
open Go.RowKit
theorem dw {p:Ev→Bool} {l:List Ev} {j:Nat} (hj:j<l.length):(l.take (j+1)).filter p=(l.take j).filter p++(if p (l.getD j default)=true then [l.getD j default]else []):=by
 rw[List.take_add_one,List.getElem?_eq_getElem hj,List.getD,List.getElem?_eq_getElem hj,List.filter_append]
 congr 1
 simp[List.filter_cons]
abbrev LU (p:Ev→Bool) (l:List Ev):Type:={x:Nat×List Ev//x.1≤l.length∧x.2=(l.take x.1).filter p}
end
section
open Go.RowKit
end
end Go.Proofs.YtimhagicagdkfaaGreat
