/-
  Contracts of the walk:AmUse,AmD,Plain,Bs0,BkPlain,BkA,BkB,BkC,BkD.
-/
import Derived.Test.YtimhagicagdkfaaGreatNi4
import Derived.Test.YtimhagicagdkfaaGreatNi5
import Derived.Defers
set_option maxHeartbeats 16000000
set_option maxRecDepth 100000
set_option linter.unusedVariables false
set_option linter.unusedSimpArgs false
namespace Go.Proofs.YtimhagicagdkfaaGreat
section
open Go.RowKit
theorem aJ.int {st:AS} {x:AV} {k:IntKind} {n m:Int} (hx:Uo st.heap x= .v (.int k n)) (h:n=m):aJ st x (.v (.int k m)) []:= .plain _ (by rw[hx,h];exact aT.refl _)
theorem aJ.bool {st:AS} {x:AV} {b c:Bool} (hx:Uo st.heap x= .v (.bool b)) (h:b=c):aJ st x (.v (.bool c)) []:= .plain _ (by rw[hx,h];exact aT.refl _)
theorem aJ.same {st:AS} {x r:AV} (hx:Uo st.heap x=r):aJ st x r []:= .plain _ (by rw[hx];exact aT.refl _)
def acs:AV→Option Nat
  | .own i=>some i
  |_=>none
def acu:List AV→Option Nat
  |[]=>none
  |x::l=>match acs x with|some i=>some i|none=>acu l
def adB:AV→Option Nat
  | .own i=>some i
  | .agg cs=>acu cs
  | .dL vs=>acu vs
  |_=>none
theorem aJ.qo {st:AS} {x r:AV} (d:Nat) {id:Nat} {e:TypeId} {s n:Nat} {sc:Bool} {f:Nat→List AV} {o':AO} (_hid:adB x=some id) (hf:aP id st.heap=some (.row e s n sc f)) (ho:cO (.row e s n sc f) o') (hr:aT (adl st.heap id d x) r):aJ st x r [(d,o')]:=
 .own id d r e s n sc f o' hf ho hr
def addN (k i:Nat) (σ:List (Nat×Nat)):List (Nat×Nat):=bif Un σ i then σ else(k,i)::σ
def XP:List AV→List AV→List (Nat×Nat)→List (Nat×Nat)
  | .own k::xs,.own i::ys,σ=>XP xs ys (addN k i σ)
  |_::xs,_::ys,σ=>XP xs ys σ
  |_,_,σ=>σ
def SB (st:AS):List (Nat×AV)→List (Nat×Nat)→List (Nat×Nat)
  |[],σ=>σ
  |(t,.own i)::l,σ=>SB st l (match qK st.sl t with| .own k=>addN k i σ|_=>σ)
  |(t,.box i _)::l,σ=>SB st l (match qK st.sl t with| .box k _=>addN k i σ|_=>σ)
  |_::l,σ=>SB st l σ
def abH (i:Nat):List (Nat×Nat)→Nat
  |[]=>i
  |(k,j)::r=>bif Nat.beq i j then k else abH i r
def XQ (st:AS):List (Nat×AO)→List (Nat×Nat)→List (Nat×Nat)
  |[],σ=>σ
  |(i,.box _ ys)::l,σ=>XQ st l (match aP (abH i σ) st.heap with|some (.box _ xs)=>XP xs ys σ|_=>σ)
  |_::l,σ=>XQ st l σ
def yF (st:AS) (l:List (Nat×AV)) (h:List (Nat×AO)):List (Nat×Nat):=XQ st h (SB st l [])
theorem dO.mk' {st:AS} (σ:List (Nat×Nat)) (l:List (Nat×AV)) (h:List (Nat×AO)) (b:Nat) (nd:nodupB (σ.map (·.2))=true) (ht:LeT (st.ren σ) l) (hh:ZU (st.ren σ) h) (hn:nodupB (h.map (·.1))=true):dO σ st ⟨l,h,(st.ren σ).back,b⟩:=
 ⟨nd,let k:=Ey.mk' l h ht hh hn;⟨k.tm,k.hp,k.nd,k.bk⟩⟩
theorem dO.auto {st:AS} (l:List (Nat×AV)) (h:List (Nat×AO)) (b:Nat) (nd:nodupB ((yF st l h).map (·.2))=true) (ht:LeT (st.ren (yF st l h)) l) (hh:ZU (st.ren (yF st l h)) h) (hn:nodupB (h.map (·.1))=true):dO (yF st l h) st ⟨l,h,(st.ren (yF st l h)).back,b⟩:=
 dO.mk' _ l h b nd ht hh hn
theorem aJ.hd {st:AS} {x r:AV} (h:hd2 (Uo st.heap x) (fun y=>aT y r)):aJ st x r []:= .plain _ (by rw[J4]at h;exact h)
structure bG (x y:AV):Prop where
 h:aT x y
theorem aJ.dR {st:AS} {x r:AV} (h:hd2 (Uo st.heap x) (fun y=>bG y r)):aJ st x r []:= .plain _ (by rw[J4]at h;exact h.h)
theorem aT.int {k:IntKind} {n m:Int} (h:n=m):aT (.v (.int k n)) (.v (.int k m)):=by rw[h];exact aT.refl _
theorem aT.str {x y:ByteArray} (h:x=y):aT (.v (.string x)) (.v (.string y)):=by rw[h];exact aT.refl _
theorem aT.of {x y:AV} (h:x=y):aT x y:=by rw[h];exact aT.refl _
theorem aT.sl {s n n':Nat} {sc:Bool} {f f':Nat→List AV} (hn:n=n') (hf: ∀i,i<n→f i=f' i):aT (.sl s n sc f) (.sl s n' sc f'):=by
 subst hn
 intro X u h
 cases C2.tV h with
 | sl _ _ _ _ A c us hs0 hnc hcc hl hfl hsc hu' hr=>
   rw[nP hf]at hsc hu'
   exact .sl s n sc f' A c us hs0 hnc hcc hl (fun i hi=>by rw[←hf i hi];exact hfl i hi) hsc hu' hr
theorem cO.row {e:TypeId} {s n n':Nat} {sc:Bool} {f f':Nat→List AV} (hn:n=n') (hf: ∀i,i<n→f i=f' i):cO (.row e s n sc f) (.row e s n' sc f'):=by
 subst hn
 rintro X id ⟨us,hown,hs,hfl,hsc,ha⟩
 rw[nP hf]at hsc ha
 exact⟨us,hown,hs,fun i hi=>by rw[←hf i hi];exact hfl i hi,hsc,ha⟩
theorem KE.auto {hin:List (Nat×AO)} {st:AS} {x r:AV} {hout:List (Nat×AO)} (nd:nodupB ((yF st [] hout).map (·.2))=true) (fx:E5 hout (st.ren (yF st [] hout)).back 0 hin=true) (hp:ZU (st.ren (yF st [] hout)) hout)
  (hn:nodupB (hout.map (·.1))=true) (hc:jQ hout hout=true) (hr:aT (Xx (st.ren (yF st [] hout)).heap hout (BD (yF st [] hout) x)) r): ∃σ,KE hin σ st x r hout:=⟨_,nd,fx,hp,hn,hc,hr⟩
theorem Wr.b64 {b:UInt8} {K:Int→Prop} (h:K (b.toNat:Int)):Wr (b.toNat:Int) K .i64:=by have:=UInt8.toNat_lt b;exact .i64 (by omega) (by omega) h
theorem Wr.aei {b:UInt8} {K:Int→Prop} (h:K (b.toNat:Int)):Wr (b.toNat:Int) K .u64:=by have:=UInt8.toNat_lt b;exact .u64 (by omega) (by omega) h
theorem Wr.bu32 {b:UInt8} {K:Int→Prop} (h:K (b.toNat:Int)):Wr (b.toNat:Int) K .u32:=by have:=UInt8.toNat_lt b;exact .u32 (by omega) (by omega) h
theorem Wr.bu8 {b:UInt8} {K:Int→Prop} (h:K (b.toNat:Int)):Wr (b.toNat:Int) K .u8:=by have:=UInt8.toNat_lt b;exact .u8 (by omega) (by omega) h
theorem cO.box1 {t:TypeId} {k:IntKind} {x y:Int} (h:x=y):cO (.box t [.v (.int k x)]) (.box t [.v (.int k y)]):=by rw[h];exact cO.refl _
def qL {α:Type} [Inhabited α] (c:α→List AV) (l:List α):Nat→List AV:=fun i=>c (l.getD i default)
theorem els_app {α:Type} [Inhabited α] {c:α→List AV} {l l':List α} {n:Nat} (hn:n=l.length): ∀i,qh n (qL c l) (qL c l') i=qL c (l++l') i:=by
 intro i
 subst hn
 unfold qh qL
 cases hb:Nat.ble l.length i with
 | true=>
   have:=Nat.le_of_ble_eq_true hb
   simp only[cond_true]
   congr 1
   rw[List.getD,List.getD,List.getElem?_append_right this]
 | false=>
   have:i<l.length:=Nat.lt_of_not_le fun h=>by rw[Nat.ble_eq_true_of_le h]at hb;cases hb
   simp only[cond_false]
   congr 1
   rw[List.getD,List.getD,List.getElem?_append_left this]
theorem bJ {α:Type} [Inhabited α] {c:α→List AV} {l:List α} {x:α} {g:Nat→List AV} {n:Nat} (hn:n=l.length) (hg:g 0=c x): ∀i,i<n+1→qh n (qL c l) g i=qL c (l++[x]) i:=by
 intro i hi
 rw[←els_app hn]
 unfold qh
 cases hb:Nat.ble n i with
 | true=>
   have:=Nat.le_of_ble_eq_true hb
   have e:i-n=0:=by omega
   simp only[cond_true,e,hg]
   rfl
 |false=>rfl
def bC (b:UInt8):List AV:=[.v (.int .u8 (b.toNat:Int))]
abbrev aV (bs:List UInt8):Nat→List AV:=qL bC bs
def byteOf' (n:Int):UInt8:=UInt8.ofNat n.toNat
theorem vV {n:Int} (h0:0≤n) (h1:n≤255):((byteOf' n).toNat:Int)=n:=by
 unfold byteOf'
 rw[UInt8.toNat_ofNat',Nat.mod_eq_of_lt (by omega)]
 omega
def bD (F:Nat→List AV) (l:List UInt8):Prop:= ∀i,i<l.length→F i=aV l i
theorem bD.bytes (l:List UInt8):bD (aV l) l:=fun _ _=>rfl
theorem bD.str (s:ByteArray):bD (fun i=>[.v (.int .u8 ((s.data.toList.getD i 0).toNat:Int))]) s.data.toList:=fun _ _=>rfl
theorem bD.nil (F:Nat→List AV):bD F []:=fun i h=>absurd h (by simp)
theorem bD.app {F G:Nat→List AV} {l l':List UInt8} {n:Nat} (h:bD F l) (h':bD G l') (hn:n=l.length):bD (qh n F G) (l++l'):=by
 intro i hi
 rw[List.length_append]at hi
 show _=qL bC (l++l') i
 rw[←els_app hn]
 unfold qh
 cases hb:Nat.ble n i with
 | true=>
   have:=Nat.le_of_ble_eq_true hb
   exact h' (i-n) (by omega)
 | false=>
   have:i<n:=Nat.lt_of_not_le fun h=>by rw[Nat.ble_eq_true_of_le h]at hb;cases hb
   exact h i (by omega)
theorem bD.one {x:Int} (h0:0≤x) (h1:x≤255):bD (chunk 1 [.v (.int .u8 x)]) [byteOf' x]:=by
 intro i hi
 have e:i=0:=by simpa using hi
 subst e
 show [AV.v (.int .u8 x)]=[AV.v (.int .u8 ((byteOf' x).toNat:Int))]
 rw[vV h0 h1]
theorem bD.two {x y:Int} (h0:0≤x) (h1:x≤255) (k0:0≤y) (k1:y≤255):bD (chunk 1 [.v (.int .u8 x),.v (.int .u8 y)]) [byteOf' x,byteOf' y]:=by
 intro i hi
 have e:i=0∨i=1:=by simp at hi;omega
 rcases e with rfl|rfl
 · show [AV.v (.int .u8 x)]=[AV.v (.int .u8 ((byteOf' x).toNat:Int))]
   rw[vV h0 h1]
 · show [AV.v (.int .u8 y)]=[AV.v (.int .u8 ((byteOf' y).toNat:Int))]
   rw[vV k0 k1]
theorem qV (s:ByteArray):s.data.toList.length=s.size:=rfl
theorem cO.pF {e:TypeId} {n:Nat} {sc:Bool} {F:Nat→List AV} {l t:List UInt8} (h:bD F l) (hn:n=l.length) (ht:l=t):cO (.row e 1 n sc F) (.row e 1 t.length sc (aV t)):=by
 subst ht
 exact cO.row hn fun i hi=>h i (by omega)
theorem dJ.into {P:Program} {L:Lay} {n:Nat} {f:FuncId} {cu:List AV} {st:AS} {K:AV→AS→Prop} {d:Nat} (lv:Nat) (fn:Func) (c:Code) (hf:P.funcs[f]? =some fn) (hn:(fn.name== "runtime.NumGoroutine")=false) (hb:fn.body=some c) (hsz:Nat.ble cu.length fn.ntmps=true)
  (h:RN st cu (kG P L (yC P L n) fn.ntmps lv c (fun e st'=>match e with| .exit _=>False| .normal=>l9 L st' fn.results.toList (fun x=>uS (st'.out) (K x))| .ret=>l9 L st' fn.results.toList (fun x=>uS (st'.out) (K x))))):dJ P L (yC P L (n+1)) d f cu st K:=
 .inl lv fn c hf hn hb hsz h
theorem zf {P:Program} {f:FuncId} {xs:List Value} {r:Value} (he:Enters P f) (h: ∀w,Calls P f xs.toArray w fun e w'=>e= .returned r∧Below w.heap.size w w'):aG P f (xs.map .v) (.v r) []:=by
 refine⟨he,fun w keep args _ hargs=> ?_⟩
 have e:args=xs:=xK hargs
 subst e
 exact(h w).mono fun e w' ⟨h1,h2⟩=>⟨r,fun _=>undef,h1,h2,rfl,(fun p hp=>by cases hp),by simp[ah],(fun b hb=>by simp[ah]at hb)⟩
where
 xK {X:CX}: ∀ {xs us:List Value},aF (C1 X) (xs.map .v) us→us=xs
   | [],us,h=>by
     have:=h.1
     simp at this
     exact List.eq_nil_of_length_eq_zero this.symm
   |x::xs,[],h=>by have:=h.1;simp at this
   | x::xs,u::us,h=>by
     have h0:u=x:=h.2 0 _ _ rfl rfl
     have:=xK (xs:=xs) (us:=us) ⟨by simpa using h.1,fun i a b ha hb=>h.2 (i+1) a b (by simpa using ha) (by simpa using hb)⟩
     rw[h0,this]
end
section
open Go.RowKit
theorem aG.thaw {P:Program} {f:FuncId} {cu:List AV} {r:AV} {d:Nat} {e:TypeId} {s n:Nat} {sc:Bool} {g:Nat→List AV} (hs:aG P f cu r [(d,.row e s n sc g)]):aG P f cu (MC d (.sl s n sc g) r) []:=by
 refine⟨hs.1,fun w keep args hk ha=>(hs.2 w keep args hk ha).mono ?_⟩
 rintro e0 w' ⟨u,ρ,h1,h2,h3,h4,h5,h6⟩
 obtain⟨us,hown,hs0,hfl,hsc,hall⟩:=h4 _ (List.mem_singleton.2 rfl)
 have hown:w'.ownsRow 0 e s (ρ d) n us:=hown
 have hall:aF (PC w' (aI (base0 w keep) w' ρ [(d,.row e s n sc g)])) (flat n g) us:=hall
 have hkk: ∀b,aI (base0 w keep) w' ρ [(d,.row e s n sc g)] b→aI (base0 w keep) w' ρ [] b:=fun b h=>⟨h.1,h.2.1,fun h'=>by simp[ah]at h'⟩
 have hrow:PC w' (aI (base0 w keep) w' ρ []) (.sl s n sc g) (ρ d):=by
  have ha':=hall.imp fun _ _=>PC.mono hkk (fun _ _=>rfl)
  rcases hown.2 with⟨hv,hz⟩|⟨b,cap,cur,hv,hB,hh,hnc,hcm,_⟩
  · rw[hv]
    subst hz
    exact .sl s 0 sc g none 0 us hs0 (Nat.le_refl _) (by simp[maxLen]) hown.1 hfl hsc ha'.2 (.inl rfl)
  · rw[hv]
    refine .sl s n sc g _ cap us hs0 hnc hcm hown.1 hfl hsc ha'.2 (.inr ⟨b,0,rfl,⟨(Array.getElem?_eq_some_iff.1 hh).1,fun hlt=> ?_,fun h'=>by simp[ah]at h'⟩,fun j u hj=> ?_⟩)
    · have:=h6 b (aO.2 ⟨_,List.mem_singleton.2 rfl,by rw[hv];exact List.mem_cons_self⟩)
      exact absurd (show b<w.heap.size from hlt) (by omega)
    · have:=hown.cells (g:=b) (by rw[hv];rfl) j u hj
      rwa [Addr.add_lit]at this
 exact⟨u,ρ,h1,h2,C2.thaw (X:=aB (base0 w keep) w' ρ [(d,.row e s n sc g)]) (Y:=aB (base0 w keep) w' ρ []) hkk (fun _ _=>rfl) rfl (by show PC _ _ _ (dZ (ρ d));rw[fQ hown];exact hrow) h3,fun p hp=>(by cases hp),by simp[ah],fun b hb=>by simp[ah]at hb⟩
theorem aN.sO {body:(jE→AS→Prop)→AS→Prop} {Q:jE→AS→Prop} {st:AS} (t n:Nat) (_ht:st.tmps t= .v (.int .i64 0)) (h:zQ body Q n st):aN body Q st:= .rounds n h
inductive Ch:List AV→List AV→Prop where
  |nil:Ch [] []
  |same {x:AV} {xs ys:List AV}:Ch xs ys→Ch (x::xs) (x::ys)
  |of {x y:AV} {xs ys:List AV} (h: ∀ (X:CX) (u:Value),C1 X x u→C1 X y u):Ch xs ys→Ch (x::xs) (y::ys)
theorem Ch.all {X:CX}: ∀ {xs ys:List AV} {us:List Value},Ch xs ys→aF (C1 X) xs us→aF (C1 X) ys us
  |_,_,_,.nil,h=>h
  |_,_,[],.same _,h=>by have:=h.1;simp at this
  |_,_,[],.of _ _,h=>by have:=h.1;simp at this
  |_,_,u::us,.same k,h=>aF.cons (h.2 0 _ _ rfl rfl) (Ch.all k ⟨by simpa using h.1,fun i a b ha hb=>h.2 (i+1) a b (by simpa using ha) (by simpa using hb)⟩)
  |_,_,u::us,.of h0 k,h=>aF.cons (h0 X u (h.2 0 _ _ rfl rfl)) (Ch.all k ⟨by simpa using h.1,fun i a b ha hb=>h.2 (i+1) a b (by simpa using ha) (by simpa using hb)⟩)
theorem aG.args {P:Program} {f:FuncId} {cu bvs:List AV} {r:AV} {h:List (Nat×AO)} (hs:aG P f bvs r h) (hc:Ch cu bvs):aG P f cu r h:=
 ⟨hs.1,fun w keep args hk ha=>hs.2 w keep args hk (Ch.all hc ha)⟩
theorem aj {x : AV} : aT x x := aT.refl x
theorem aH {i : Nat} {h : List (Nat × AO)} {o : AO} (k : aP i h = some o) : ∃ q, aP i h = some q ∧ cO q o := ⟨o, k, cO.refl o⟩
namespace K1
variable {A B p:Prop}
theorem a (h:A) (k:p:=by first|assumption|omega):yj p A B:= .yes k h
theorem b (h:B) (k: ¬p:=by first|assumption|omega):yj p A B:= .no k h
theorem d {x:AV} (h:A) (k:acp x=true:=by rfl):Still x x A:= .mk rfl k h
theorem q {W:Walk} {N id:Nat} {ops:Array Oper} {K:AS→Prop} {st:AS} (h:uT Tryz.prog lay W N ops.toList K ops.toList st) (h1:Region.lexB .any ops=true:=by kernel_rfl) (h2:ops.toList.all (fun o=>lu o.op)=true:=by rfl):iG Tryz.prog lay W N id ops K st:= .quiet jA h1 h2 h
class S (A:Prop) (s B:outParam Prop):Prop where
 go:s→B→A
class T (A:Prop) (s B:outParam Prop):Prop where
 go:s→B→A
class F (A:Prop) (p r X Y:outParam Prop):Prop where
 go:(p→X)→(r→Y)→A
section
variable {s C:Prop} {n m:Int} {N:Nat} {K:Int→Prop} {b:UInt8} {x:Bool} {Q:Nat→Prop}
instance:S (Wr n K .i64) (-9223372036854775808≤n∧n≤9223372036854775807) (K n):=⟨fun h q=> .i64 h.1 h.2 q⟩
instance:S (Wr n K .u64) (0≤n∧n≤18446744073709551615) (K n):=⟨fun h q=> .u64 h.1 h.2 q⟩
instance:S (Wr n K .u32) (0≤n∧n≤4294967295) (K n):=⟨fun h q=> .u32 h.1 h.2 q⟩
instance:S (Wr n K .u8) (0≤n∧n≤255) (K n):=⟨fun h q=> .u8 h.1 h.2 q⟩
instance:S (Wr (b.toNat:Int) K .i64) True (K (b.toNat:Int)):=⟨fun _ q=> .b64 q⟩
instance:S (Wr (b.toNat:Int) K .u64) True (K (b.toNat:Int)):=⟨fun _ q=> .aei q⟩
instance:S (Wr (b.toNat:Int) K .u32) True (K (b.toNat:Int)):=⟨fun _ q=> .bu32 q⟩
instance:S (Wr (b.toNat:Int) K .u8) True (K (b.toNat:Int)):=⟨fun _ q=> .bu8 q⟩
instance:S (MB n N A) (0≤n∧n<(N:Int)) A:=⟨fun h q=> .mk (PO h.1 h.2) q⟩
instance:S (Ug p A) p A:=⟨.mk⟩
instance:T (qM n N Q) (0≤n∧n<(N:Int)) (Q n.toNat):=⟨fun h q=> .mk (PO h.1 h.2) q⟩
instance:T (ASl A B p) True A:=⟨fun _ q=> .Bz q⟩
instance:T (Dv n m K) (0≤n∧0<m) (K (n/m)):=⟨fun h q=> .pos h.1 h.2 q⟩
instance:T (Rm n m K) (0≤n∧0<m) (K (n%m)):=⟨fun h q=> .pos h.1 h.2 q⟩
instance:F (yj p A B) p (¬p) A B:=⟨.mk⟩
instance:F (abT N A B) (N=0) True A B:=⟨fun f g=> .mk f (g trivial)⟩
instance (priority:=low):F (uY.match_1 (fun _=>Prop) x (fun _=>A) (fun _=>B)) (x=true) (x=false) A B:=⟨iD.mk⟩
instance [Decidable p]:F (uY.match_1 (fun _=>Prop) (decide p) (fun _=>A) (fun _=>B)) p (¬p) A B:=⟨iD.dec⟩
theorem w [c:S A s B] (q:B) (k:s:=by first|exact True.intro|omega|assumption|exact⟨by first|omega|(dsimp only;omega),by first|omega|(dsimp only;omega)⟩):A:=c.go k q
theorem z [c:T A s B] (q:B) (k:s:=by first|exact True.intro|omega):A:=c.go k q
theorem y {r X Y:Prop} [c:F A p r X Y] (f:p→X) (g:r→Y):A:=c.go f g
theorem bt (h:A) (k:x=true:=by first|assumption|exact decide_eq_true (by first|assumption|omega)):iD x A B:= .yes k h
theorem bf (h:B) (k:x=false:=by first|assumption|exact decide_eq_false (by first|assumption|omega)):iD x A B:= .no k h
theorem u (q:B) (h:B→A:=by first|exact fun q=>K1.a q|exact fun q=>K1.b q|exact fun q=>K1.d q|exact fun q=>K1.q q|exact fun q=>K1.bt q|exact fun q=>K1.bf q):A:=h q
end
section
variable {n N id:Nat} {ops:Array Oper} {K:AS→Prop} {st:AS}
theorem o (sc:List (Nat×Option (List Nat))) (U:List (Nat×List Nat)) (h:uf Tryz.prog lay (yC Tryz.prog lay n) N ops.toList false K sc [] st) (k:(Region.noSelect ops&&Nat.beq sc.length ops.size&&BL ops.toList sc U)=true:=by kernel_rfl):iG Tryz.prog lay (yC Tryz.prog lay n) N id ops K st:= .sched dW (fM dW _) sc U jA k h
theorem ok (sc:List (Nat×Option (List Nat))) (U:List (Nat×List Nat)) (h:uf Tryz.prog lay (yC Tryz.prog lay n) N ops.toList true K sc [] st) (k:(Region.noSelect ops&&Nat.beq sc.length ops.size&&BL ops.toList sc U)=true:=by kernel_rfl):iG Tryz.prog lay (yC Tryz.prog lay n) N id ops K st:= .keep dW (fM dW _) sc U jA k h
end
section
variable {P:Program} {L:Lay} {W:Walk} {d:Nat} {f:FuncId} {cu bs:List AV} {st:AS} {K:AV→AS→Prop} {r:AV}
theorem KO {h:List (Nat×AO)}: ∀ {xs ys:List AV},xs.map (PY h)=ys→Dx h xs ys
  |[],_,e=>by subst e;exact .nil
  |_::_,_,e=>by subst e;exact .cons (.eq _) (KO rfl)
theorem SC {st:AS}: ∀ {l:List (Nat×AO)},l.map (fun p=>aP p.1 st.heap)=l.map (fun p=>some p.2)→Uk st l
  |[],_=>trivial
  |_::_,e=>by injection e with e1 e2;exact⟨e1,SC e2⟩
theorem P1 (hs:aG P f bs r []) (e:cu.map (PY st.heap)=bs) (h:K r (bif mD r then st else sG st cu)) (hr:ok2 none r=true:=by exact rfl):dJ P L W d f cu st K:= .plain _ _ hs (KO e) hr h
variable {e:TypeId} {s n:Nat} {sc:Bool} {g:Nat→List AV}
theorem F1 (hs:aG P f bs r [(d,.row e s n sc g)]) (eq:cu.map (PY st.heap)=bs) (h:K r ((bif mD r&&sc then st else sG st cu).obj d d (.row e s n sc g))) (hr:ok2 (some d) r=true:=by exact rfl):dJ P L W d f cu st K:= .fresh _ _ _ _ _ _ _ hs (KO eq) hr h
theorem C (k:Nat) (τ:List (Nat×Nat)) {hin hout:List (Nat×AO)} (hs:aW P f hin bs r hout) (ha:bs.map (MJ ((k,d)::τ))=cu) (h:K (BD ((k,d)::τ) r) (st.PZ d (iQ ((k,d)::τ) hin) (iQ ((k,d)::τ) hout)))
  (hh:(iQ ((k,d)::τ) hin).map (fun p=>aP p.1 st.heap)=(iQ ((k,d)::τ) hin).map (fun p=>some p.2):=by exact rfl)
  (hb:(rG (((k,d)::τ).map (·.2))&&yu ((k,d)::τ) hin&&yu ((k,d)::τ) hout&&bs.all (key1 ((k,d)::τ))&&key2 ((k,d)::τ) r)=true:=by exact rfl)
  (hb2:(rG ((iQ ((k,d)::τ) hin).map (·.1))&&(bs.map (MJ ((k,d)::τ))).all MG&&jQ (iQ ((k,d)::τ) hout) (iQ ((k,d)::τ) hout)&&WS (iQ ((k,d)::τ) hout) (BD ((k,d)::τ) r)&&tK d (iQ ((k,d)::τ) hin) (iQ ((k,d)::τ) hout))=true:=by exact rfl):dJ P L W d f cu st K:= .Fb k τ hs ha (SC hh) hb hb2 h
theorem I {c:Code} {fn:Func} (lv:Nat) (hf:P.funcs[f]? =some fn)
  (h:RN st cu (kG P L (yC P L n) fn.ntmps lv c (fun e st'=>match e with| .exit _=>False| .normal=>l9 L st' fn.results.toList (fun x=>uS (st'.out) (K x))| .ret=>l9 L st' fn.results.toList (fun x=>uS (st'.out) (K x)))))
  (hn:(fn.name== "runtime.NumGoroutine")=false:=by exact rfl) (hb:fn.body=some c:=by exact rfl) (hsz:Nat.ble cu.length fn.ntmps=true:=by exact rfl):dJ P L (yC P L (n+1)) d f cu st K:= .inl lv fn c hf hn hb hsz h
end
section
variable {f:FuncId} {fn:Func} {c:Code} {cu:List AV} {r:AV} {hh hin hout:List (Nat×AO)} (lv:Nat) (hf:Tryz.prog.funcs[f]? =some fn)
include hf
theorem E (h:yC Tryz.prog lay 9 fn.ntmps lv c (MK lay fn r hh) (start cu)) (hn:(fn.name== "runtime.NumGoroutine")=false:=by exact rfl) (hb:fn.body=some c:=by exact rfl) (hsz:Nat.ble cu.length fn.ntmps=true:=by exact rfl):aG Tryz.prog f cu r hh:=Xv dW lv hf hn hb hsz h
theorem M (base:Nat) (h:yC Tryz.prog lay 9 fn.ntmps lv c (Xy lay fn hin r hout) (Qi cu hin base)) (hn:(fn.name== "runtime.NumGoroutine")=false:=by exact rfl) (hb:fn.body=some c:=by exact rfl) (hsz:Nat.ble cu.length fn.ntmps=true:=by exact rfl):aW Tryz.prog f hin cu r hout:=XA dW lv base hf hn hb hsz h
end
end K1
end
section
open Go.RowKit
section
variable {P:Program} {L:Lay} {ρ:Nat→Value} {a:Act} {w w':World} {st:AS}
theorem NM (hL:bQ P L) {fn:Func} {r:AV} {hh:List (Nat×AO)} {keep:Nat→Prop} {ds:List Deferred} (R:Rel ⟨w,keep,fun _=>False,ds⟩ fn.ntmps [] ρ a w' st) (hq:l9 L st fn.results.toList (fun x=>aJ st x r hh)):
  ∃v,(results fn a.tmps).run P w'= .ok v w'∧ ∃u ρ,Ending.returned v= .returned u∧Below w.heap.size w w'∧C2 (aB (base0 w keep) w' ρ hh) r u∧(∀p∈hh,aZ (aB (base0 w keep) w' ρ hh) p.1 p.2)∧(ah ρ hh).Nodup∧ ∀b∈ah ρ hh,w.heap.size≤b:=by
 let g:Base:=⟨w,keep,fun _=>False,ds⟩
 obtain⟨x,u,hret,hc,hrun⟩:=Ag hL R hq
 have hbel:Below w.heap.size w w':=R.below.less fun _ h=>h
 have hlt': ∀ {b:Nat},b∈ah ρ st.heap→g.w.heap.size≤b:=fun{b} h=>(R.own b h).elim id False.elim
 refine⟨u,hrun, ?_⟩
 cases hret with
 | plain _ hr=>
   let k:Nat→Prop:=aI g w' (fun _=>undef) []
   have hk: ∀b,aI g w' ρ st.heap b→k b:=fun b h=>⟨h.1,h.2.1,by simp[ah]⟩
   have rd: ∀y,Reads st ρ w' k y:=fun y id e s n sc f _ hf=>kU R hf hk fun b hb=>by
    have hin:=aO.2 ⟨_,au hf,hb⟩
    have:=R.gI hin
    exact⟨this.1,fun hlt=>absurd hlt (by have:=hlt' hin;omega),by simp[ah]⟩
   refine⟨u,fun _=>undef,rfl,hbel,hr _ _ ?_,(fun p hp=>by cases hp),by simp[ah],(fun b hb=>by simp[ah]at hb)⟩
   cases x with
   | dL vs=>
     obtain⟨us,rfl,ha⟩:=C2.tN hc
     exact⟨us,rfl,ha.l7 fun y v hy=>xG hk rd (C2.jL hy)⟩
   |_=>exact C2.jL (xG hk rd hc)
 | nil d e s f hx hs=>
   subst hx
   obtain rfl:=C2.dK hc
   have hb:ah (fun _:Nat=>Value.slice none 0 0) [(d,AO.row e s 0 true f)]=[]:=rfl
   refine⟨.slice none 0 0,fun _=> .slice none 0 0,rfl,hbel,rfl,fun p hp=>?_,by rw[hb];exact List.nodup_nil,fun b hb'=>by rw[hb]at hb';cases hb'⟩
   obtain rfl:=List.mem_singleton.1 hp
   exact⟨[],World.ownsRow_nil w' _ e s,hs,fun i hi=>absurd hi (by omega),(fun _ x hx=>by cases hx),aF.nil⟩
 | own id d _ e s n sc f o' hfo ho hr=>
   have hin:=au hfo
   let ρ':Nat→Value:=fun i=>if i=d then ρ id else undef
   have vM:ρ' d=ρ id:=by simp[ρ']
   have hbl: ∀o'':AO,ah ρ' [(d,o'')]=blks (ρ id):=by intro o'';rw[aU];simp[ρ',ah]
   let k:Nat→Prop:=aI g w' ρ' [(d,o')]
   have hk: ∀b,aI g w' ρ st.heap b→k b:=fun b h=>⟨h.1,h.2.1,fun hb=>h.2.2 (by
    rw[hbl]at hb
    exact aO.2 ⟨_,hin,hb⟩)⟩
   have rd: ∀i,i≠id→Reads st ρ w' k (.own i):=fun i hi j e s n sc f hij hf=>kU R hf hk fun b hb=>by
    cases hij
    have hin0:=aO.2 ⟨_,au hf,hb⟩
    have:=R.gI hin0
    refine⟨this.1,fun hlt=>absurd hlt (by have:=hlt' hin0;omega),fun hin'=>?_⟩
    rw[hbl]at hin'
    exact hi (fF R.apart _ (au hf) _ hin hb hin')
   refine⟨u,ρ',rfl,hbel,hr _ _ ?_, ?_, ?_, ?_⟩
   · cases x with
     | dL vs=>
       obtain⟨us,rfl,ha⟩:=C2.tN hc
       exact⟨us,rfl,ha.l7 fun y v hy=>lN hk vM rd (C2.jL hy)⟩
     |agg cs=>exact C2.jL (lN hk vM rd hc)
     |v y=>exact hc
     |own i=>exact C2.jL (lN hk vM rd (x:= .own i) hc)
     |sl s n sc f=>exact C2.jL (lN hk vM rd (x:= .sl s n sc f) hc)
     |_=>trivial
   · intro p hp
     simp only[List.mem_singleton]at hp
     subst hp
     refine ho _ _ ?_
     obtain⟨us,hown,hs,hfl,hsc,ha⟩:=R.objs _ hin
     exact⟨us,by simpa[aB,vM]using hown,hs,hfl,hsc,ha.imp fun _ _=>PC.mono hk (fun _ _=>rfl)⟩
   · rw[hbl]
     exact jP R.apart hin
   · intro b hb
     rw[hbl]at hb
     exact hlt' (aO.2 ⟨_,hin,hb⟩)
def acv (P:Program) (L:Lay) (W:Walk) (glv:Nat) (Wx:Func) (gc:Code) (fn:Func) (r:AV) (hh:List (Nat×AO)) (st:AS):Prop:=
 match st.back with
 |f::[]=>W Wx.ntmps glv gc (fun e st'=>match e with| .exit _=>False| .normal=>l9 L st' Wx.results.toList (fun _=>uS st'.out (fun st2=>l9 L st2 fn.results.toList (fun x=>aJ st2 x r hh)))| .ret=>l9 L st' Wx.results.toList (fun _=>uS st'.out (fun st2=>l9 L st2 fn.results.toList (fun x=>aJ st2 x r hh)))) (AS.into ⟨st.sl,st.heap,[],st.base⟩ [qK f 0,qK f 1])
 |_=>False
def dMk (st:AS) (i j:Nat) (K:AS→Prop):Prop:=
 match st.tmps i,st.tmps j with
 | .box b x,.box c y=>K ⟨st.sl,st.heap,[[(0,.box b x),(1,.box c y)]],st.base⟩
 |_,_=>False
def dQ (P:Program) (L:Lay) (fn:Func) (r:AV) (hh:List (Nat×AO)) (K:AS→Prop):jE→AS→Prop
  | .normal,st=>K st
  | .ret,st=>l9 L st fn.results.toList (fun x=>aJ st x r hh)
  | .exit _,_=>False
def dE (K:AS→Prop):jE→AS→Prop
  | .normal,st=>K st
  | .ret,st=>K st
  | .exit _,_=>False
theorem NP (hL:bQ P L) (n lv glv:Nat) {f gg:FuncId} {fn Wx:Func} {x y z rest gc:Code} {id t i j:Nat} {o1 o2:Oper} {cu:List AV} {r:AV} {hh:List (Nat×AO)} (hf:P.funcs[f]? =some fn) (hn:(fn.name== "runtime.NumGoroutine")=false)
  (hb:fn.body=some (x.seq (y.seq (z.seq ((Code.region id #[o1,o2] false).seq rest))))) (hsz:Nat.ble cu.length fn.ntmps=true)
  (hgf:P.funcs[gg]? =some Wx) (hgn:(Wx.name== "runtime.NumGoroutine")=false) (hgb:Wx.body=some gc) (hgs:Nat.ble 2 Wx.ntmps=true)
  (h1:o1.op= .makeFunc (.func gg) #[] #[.tmp i,.tmp j]) (d1:o1.dst=some t) (g1:o1.guard=none) (h2:o2.op= .defer {callee:= .value (.tmp t),args:= #[],argTypes:= #[]}) (d2:o2.dst=none) (g2:o2.guard=none) (ht:Nat.ble (t+1) fn.ntmps=true)
  (h:yC P L n fn.ntmps lv x (dQ P L fn r hh fun st=>yC P L n fn.ntmps lv y (dQ P L fn r hh fun st=>yC P L n fn.ntmps lv z (dQ P L fn r hh fun st=>dMk st i j fun st=>yC P L n fn.ntmps lv rest (dE (acv P L (yC P L n) glv Wx gc fn r hh)) (st.put t .junk)) st) st) (start cu)):aG P f cu r hh:=by
 have hE:Enters P gg:=⟨Wx,gc,hgf,hgn,hgb⟩
 refine⟨⟨fn,_,hf,hn,hb⟩,fun w keep args hkeep hargs=>?_⟩
 have hsz:=Nat.le_of_ble_eq_true hsz
 have hlen:args.length=cu.length:=hargs.1.symm
 refine calls_of_wp_defers hf hb ?_
 let g:Base:=base0 w keep
 have yS:aF (C2 (aB g w (fun _=>undef) [])) cu args:=hargs.imp fun _ _ h=>C2.jL (C1.same (X:=⟨w,keep,fun _=>undef⟩) (Y:=aB g w (fun _=>undef) []) (fun b hb=>⟨hkeep b hb,fun _=> .inl hb,by simp[ah]⟩) (fun _ _=>rfl) rfl h)
 have R0:Rel g fn.ntmps [] (fun _=>undef) {tmps:=args.toArray++Array.replicate (fn.ntmps-args.toArray.size) undef,defers:=[]} w (start cu):=
  ⟨by simp;omega,rfl,eF.refl _ _ _,oJ yS hsz,(fun p hp=>by cases hp),by simp[start,ah],(fun b hb=>by simp[start,ah]at hb),trivial⟩
 generalize hE0:bodyPostD P fn _=E
 have early: ∀ {ρ a w' st},Rel g fn.ntmps [] ρ a w' st→l9 L st fn.results.toList (fun x=>aJ st x r hh)→E .ret a w':=fun R hq=>by
  subst hE0
  show Leaves P fn _ _ _ _ _
  rw[show _=[]from R.defers]
  exact NM hL R hq
 have step: ∀ (c d:Code) {K:AS→Prop},(∀ {ρ a w' st},Rel g fn.ntmps [] ρ a w' st→K st→d.wp P E a w')→ ∀ {ρ a w' st},Rel g fn.ntmps [] ρ a w' st→yC P L n fn.ntmps lv c (dQ P L fn r hh K) st→(c.seq d).wp P E a w':=fun c d K hd ρ a w' st R hc=>
  wp_seq (fM hL n g fn.ntmps lv [] c (dQ P L fn r hh K) _ ⟨fun ρ a w st R h=>hd R h,fun i ρ a w st R h=>h.elim,fun ρ a w st R h=>early R h⟩ R hc)
 refine step x _ (fun R h=>step y _ (fun R h=>step z _ (fun{ρ a w' st} R h=>?_) R h) R h) R0 h
 --the region that defers
 unfold dMk at h
 split at h
 · rename_i b ox c oy eb ec
   have hi:=R.tmps i
   have hj:=R.tmps j
   rw[eb]at hi
   rw[ec]at hj
   obtain⟨B1,hB1,hv1⟩:=C2.kJ hi
   obtain⟨B2,hB2,hv2⟩:=C2.kJ hj
   let p1:Value:= .pointer (some ⟨B1,ox,none⟩)
   let p2:Value:= .pointer (some ⟨B2,oy,none⟩)
   let d0:Deferred:={target:= .fn (.func gg) #[p1,p2],args:= #[]}
   let g':Base:=⟨w,keep,fun _=>False,[d0]⟩
   have hd0:a.defers=[]:=R.defers
   have ht':t<a.tmps.size:=by rw[R.size];exact Nat.le_of_ble_eq_true ht
   refine wp_seq (wp_region_list ?_)
   have fin: ∀u,Rel g' fn.ntmps [#[p1,p2]] ρ {({(a.put (some t) u)with defers:=[d0]}:Act)with defers:=[d0]} w' (AS.put ⟨st.sl,st.heap,[[(0,.box b ox),(1,.box c oy)]],st.base⟩ t .junk):=fun u=>by
    refine⟨by simpa[Act.put]using R.size,rfl,R.below,fun t'=>?_,R.objs,R.apart,R.own,⟨fun t'=>?_,trivial⟩⟩
    · show C2 _ (upd t .junk st.tmps t') ((a.tmps.setIfInBounds t u).getD t' undef)
      unfold upd
      cases hb':Nat.beq t' t with
      |true=>trivial
      | false=>
        have:t'≠t:=fun e=>by rw[e,Nat.beq_refl]at hb';cases hb'
        rw[show(a.tmps.setIfInBounds t u).getD t' undef=a.tmps.getD t' undef by simp[Ne.symm this]]
        exact R.tmps t'
    · match t' with
      |0=>exact⟨B1,hB1,rfl⟩
      |1=>exact⟨B2,hB2,rfl⟩
      |_+2=>exact trivial
   have more: ∀ {ρ a w' st},Rel g' fn.ntmps [#[p1,p2]] ρ a w' st→acv P L (yC P L n) glv Wx gc fn r hh st→E .ret a w'∧E .normal a w':=fun{ρ a w' st} R h=>by
    subst hE0
    suffices hl:Leaves P fn a.tmps _ a.defers .returning w' from⟨hl,hl⟩
    rw[show a.defers=[d0]from R.defers]
    unfold acv at h
    split at h
    · rename_i f' ebk
      have hbk:=R.back
      rw[ebk]at hbk
      have R1:Rel g' fn.ntmps [] ρ a w' ⟨st.sl,st.heap,[],st.base⟩:=⟨R.size,R.defers,R.below,R.tmps,R.objs,R.apart,R.own,trivial⟩
      have hin:=Xq hL (fM hL n) R1 (args:=[p1,p2]) (K:=fun _ st2=>l9 L st2 fn.results.toList (fun x=>aJ st2 x r hh)) (aF.cons (hbk.1 0) (aF.cons (hbk.1 1) aF.nil)) glv Wx gc hgs h
      refine leaves_cons (f:=gg) (args:= #[p1,p2]) (by simp) (by simpa[invoke]using pz hE #[p1,p2] w') ((callsD_of_wp hgf hgb hin).mono ?_)
      rintro e u' w2 ⟨rfl,u,x,st2,RZ,rfl,hq,R2,_⟩
      exact NM hL R2 hq
    · exact h.elim
   have hv1:a.eval (.tmp i)=p1:=hv1
   have hv2:a.eval (.tmp j)=p2:=hv2
   have hop1:(execOp a.eval o1).run P w'= .ok (.value (.func (.func gg) #[] #[p1,p2])) w':=by simp[execOp,h1,Instr.makeFunc,hv1,hv2]
   refine wpList_step (fun K1 hK1=>?_)
   simp only[Region.wanted,g1,if_true]
   unfold Oper.wp
   rw[hop1,Oper.upon_value]
   refine hK1 _ _ (wpList_step (fun K2 hK2=>?_))
   simp only[Region.wanted,g2,if_true]
   have hev:(a.put o1.dst (.func (.func gg) #[] #[p1,p2])).eval (.tmp t)= .func (.func gg) #[] #[p1,p2]:=by
    rw[d1]
    simp[Act.eval,Act.put,ht']
   have hop2:(execOp (a.put o1.dst (.func (.func gg) #[] #[p1,p2])).eval o2).run P w'= .ok (.defer d0) w':=by simp[execOp,h2,resolve,hev,Deferred.ofValue,d0]
   unfold Oper.wp
   rw[hop2,Oper.upon_defer]
   refine hK2 _ _ (show Exit.then _ _ _ _ _ from ?_)
   have RR:=fin (.func (.func gg) #[] #[p1,p2])
   have ea:({(a.put o1.dst (.func (.func gg) #[] #[p1,p2]))with defers:=d0::(a.put o1.dst (.func (.func gg) #[] #[p1,p2])).defers}:Act).put o2.dst undef={(a.put (some t) (.func (.func gg) #[] #[p1,p2]))with defers:=[d0]}:=by
    rw[d1,d2]
    simp[Act.put,hd0]
   show rest.wp P E _ _
   rw[ea]
   exact fM hL n g' fn.ntmps lv [#[p1,p2]] rest _ E ⟨fun ρ a w st R h=>(more R h).2,fun i ρ a w st R h=>h.elim,fun ρ a w st R h=>(more R h).1⟩ RR h
 · exact h.elim
end
end
structure bn where
 (c0 c1 c2 c3 c4:Int)
def bn.get (c:bn) (r:Int):Int:=if r=0 then c.c0 else if r=1 then c.c1 else if r=2 then c.c2 else if r=3 then c.c3 else c.c4
structure Ev where
 (r n:Int) (c:bn) (h k:Int) (key:ByteArray) (l:Int) (v:ByteArray)
structure Ed where
 (k:Int) (key:ByteArray) (l:Int) (v:ByteArray)
def Ev.ed (e:Ev):Ed:=⟨e.k,e.key,e.l,e.v⟩
def gu (n a b:Int):Bool:=decide (a≤n)&&decide (n≤b)
def dM (k:Int):Bool:=k !=1&&k !=2
def hasB (c:bn) (r n:Int):Bool:=decide (0≤r∧r<5∧1≤n∧n≤c.get r)
def aK (a b:Ev):Bool:=hasB b.c a.r a.n
def vW (s:ByteArray):Bool:=s.data.toList.all fun b=>decide (97≤b.toNat∧b.toNat≤122)
def keyE (s:ByteArray):Int:=if 1≤s.size∧s.size≤8∧vW s=true then 0 else 10
def lT (n:Int):Int:=if 0≤n∧n<2 then 0 else 11
def fA (s:ByteArray):Int:=if 1≤s.size∧s.size≤12 then 0 else 12
def jF (e:Ed):Int:=
 if e.k<1∨5<e.k then 1
 else if keyE e.key≠0 then keyE e.key
 else if e.k=1∨e.k=2 then(if e.l≠0 then 11 else if e.v.size≠0 then 12 else 0)
 else if lT e.l≠0 then lT e.l
 else fA e.v
def nG (n:Int):Bool:=gu n 0 1048576
def fB (e:Ev):Int:=
 if !(gu e.r 0 4&&gu e.n 1 1048576&&gu e.h 1 16777216)then 1
 else if !(nG e.c.c0&&nG e.c.c1&&nG e.c.c2&&nG e.c.c3&&nG e.c.c4)then 1
 else if e.c.get e.r !=e.n-1 then 1
 else jF e.ed
def gJ:Nat→Nat→List UInt8
  |0,n=>[UInt8.ofNat n]
  |f+1,n=>if n<128 then [UInt8.ofNat n]else UInt8.ofNat (n%128+128)::gJ f (n/128)
def aA (n:Nat):List UInt8:=gJ 9 n
def iM (n:Int):List UInt8:=aA n.toNat
def others (e:Ev):List Int:=
 (if e.r≠0 then [e.c.c0]else [])++(if e.r≠1 then [e.c.c1]else [])++(if e.r≠2 then [e.c.c2]else [])++(if e.r≠3 then [e.c.c3]else [])++(if e.r≠4 then [e.c.c4]else [])
def byteOf (n:Int):UInt8:=UInt8.ofNat n.toNat
def words (s:ByteArray):List UInt8:=UInt8.ofNat s.size::s.data.toList
def aS (e:Ev):List UInt8:=
 [byteOf e.k,byteOf e.r]++iM e.n++(others e).flatMap iM++iM e.h++words e.key++(if dM e.k then byteOf e.l::words e.v else [])
theorem xM (f n:Nat):1≤(gJ f n).length:=by
 cases f with
 |zero=>simp[gJ]
 |succ f=>unfold gJ;split<;>simp
theorem bU (f n:Nat):(gJ f n).length≤f+1:=by
 induction f generalizing n with
 |zero=>simp[gJ]
 |succ f ih=>unfold gJ;split<;>simp;exact ih _
theorem FD {acc t:List UInt8} {f m:Nat} (h:acc++gJ f m=t) (hm:m<128^(f+1)) (h128:128≤m):
  ∃f',(acc++[UInt8.ofNat (m%128+128)])++gJ f' (m/128)=t∧m/128<128^(f'+1):=by
 cases f with
 |zero=>simp at hm;omega
 | succ f=>
   refine⟨f, ?_, ?_⟩
   · rw[←h]
     simp[gJ,Nat.not_lt.2 h128]
   · rw[Nat.pow_succ]at hm
     exact Nat.div_lt_of_lt_mul (by omega)
theorem IY {acc t:List UInt8} {f m:Nat} (h:acc++gJ f m=t) (hm:m<128):acc++[UInt8.ofNat m]=t:=by
 rw[←h]
 cases f with
 |zero=>rfl
 |succ f=>simp[gJ,hm]
theorem Qu (n:Nat) (h:n≤4294967296):([]:List UInt8)++gJ 9 n=aA n∧n<128^(9+1):=⟨rfl,by
 have:128^(9+1)=1180591620717411303424:=by decide
 omega⟩
section
open Go.RowKit
def bn.cs (c:bn):List AV:=[.v (.int .i64 c.c0),.v (.int .i64 c.c1),.v (.int .i64 c.c2),.v (.int .i64 c.c3),.v (.int .i64 c.c4)]
def bn.av (c:bn):AV:= .agg c.cs
def Ev.cs (e:Ev):List AV:=[.v (.int .i64 e.r),.v (.int .i64 e.n),.v (.int .i64 e.c.c0),.v (.int .i64 e.c.c1),.v (.int .i64 e.c.c2),.v (.int .i64 e.c.c3),.v (.int .i64 e.c.c4),.v (.int .i64 e.h),.v (.int .i64 e.k),.v (.string e.key),.v (.int .i64 e.l),.v (.string e.v)]
def Ev.av (e:Ev):AV:= .agg e.cs
def Ed.av (e:Ed):AV:= .agg [.v (.int .i64 e.k),.v (.string e.key),.v (.int .i64 e.l),.v (.string e.v)]
def Ed.cs (e:Ed):List AV:=[.v (.int .i64 e.k),.v (.string e.key),.v (.int .i64 e.l),.v (.string e.v)]
instance:Inhabited Ev:=⟨⟨0,0,⟨0,0,0,0,0⟩,0,0,⟨#[]⟩,0,⟨#[]⟩⟩⟩
abbrev eG (l:List Ev):Nat→List AV:=qL Ev.cs l
def dS:bn:=⟨0,0,0,0,0⟩
def bn.at (c:bn):Nat→Int
  |0=>c.c0
  |1=>c.c1
  |2=>c.c2
  |3=>c.c3
  |_=>c.c4
theorem C1.kM {X:CX} {s:Nat} {sc:Bool} {f:Nat→List AV} (hs:0<s) {u:Value} (h:C1 X (.v (.slice none 0 0)) u):C1 X (.sl s 0 sc f) u:=by
 have h:u= .slice none 0 0:=h
 subst h
 exact(show C0 X (.sl s 0 sc f) (.slice none 0 0)from .sl s 0 sc f none 0 [] hs (Nat.le_refl _) (by simp[maxLen]) (by simp) (fun i hi=>absurd hi (Nat.not_lt_zero i)) (fun _ x hx=>by simp[flat]at hx) (fun i x u hx=>by simp[flat]at hx) (.inl rfl))
theorem Rm.aej {a:Int} {K:Int→Prop} (h:K (a.tmod 5)):Rm a 5 K:= .raw (by decide) h
theorem Rm.is {a b c:Int} {K:Int→Prop} (h0:0≤a) (hb:0<b) (h:a%b=c) (k:K c):Rm a b K:= .pos h0 hb (by rw[h];exact k)
end
def eU (a b:Ev):Bool:=decide (a.key=b.key)
def qW (a b:Ev):Bool:=eU a b&&decide (a.l=b.l)
def jd (a b:Ev):Bool:=qW a b&&decide (a.v=b.v)
def fC (k:Int) (same:Ev→Ev→Bool) (l:List Ev) (e:Ev):Bool:=l.any fun a=>decide (a.k=k)&&(same a e&&aK e a)
def gY (k:Int) (same:Ev→Ev→Bool) (l:List Ev) (e:Ev):Bool:=l.any fun a=>decide (a.k=k)&&(same a e&&aK a e)
def bK (l:List Ev) (e:Ev):Bool:=decide (e.k=1)&& !fC 2 eU l e
def aC (l:List Ev):List Ev:=l.filter (bK l)
def countB (l cr:List Ev) (e:Ev):Bool:=(decide (e.k=3)||(decide (e.k=4)&& !fC 5 jd l e))&&gY 1 eU cr e
def bI (l cr:List Ev):List Ev:=l.filter (countB l cr)
structure Ct where
 (key:ByteArray) (h0 h1:Bool) (f0 f1:ByteArray) (s0 s1:List ByteArray)
def fD (l:List Ev) (e:Ev):Bool:=fC e.k (if e.k=4 then jd else qW) l e
def oL (l:List Ev):Nat:=(aC l).length+((bI l (aC l)).filter fun e=> !fD l e).length
section
open Go.RowKit
theorem FH (c:bn) (r n:Int):aG Tryz.prog 92 [c.av,.v (.int .i64 r),.v (.int .i64 n)] (.v (.bool (hasB c r n))) []:=by
 obtain⟨c0,c1,c2,c3,c4⟩:=c
 dsimp only[bn.av]
 by_cases hr:r=0∨r=1∨r=2∨r=3∨r=4
 · rcases hr with rfl|rfl|rfl|rfl|rfl
   all_goals
    refine K1.E 0x4f Tryz.func92 ?_
    repeat' ((conv=>whnf);first|refine K1.w ?_|refine K1.u ?_|refine aJ.dR ?_|refine K1.z ?_|refine K1.y (fun _=>?_) (fun _=>?_)|fail)
    all_goals(conv=>whnf)
    all_goals(refine bG.mk (aT.of ?_))
    all_goals simp[hasB,bn.get, *]
 · have h: ¬ (0≤r∧r<5):=by omega
   refine K1.E 0x4f Tryz.func92 ?_
   repeat' ((conv=>whnf);first|refine K1.w ?_|refine K1.u ?_|refine aJ.dR ?_|refine K1.z ?_|refine K1.y (fun _=>?_) (fun _=>?_)|fail)
   all_goals(conv=>whnf)
   all_goals(refine bG.mk (aT.of ?_))
   all_goals(simp[hasB];try omega)
theorem iR (a b:Ev):aG Tryz.prog 180 [a.av,b.av] (.v (.bool (aK a b))) []:=by
 have h:=FH b.c a.r a.n
 obtain⟨q,hq⟩: ∃q,hasB b.c a.r a.n=q:=⟨_,rfl⟩
 rw[hq]at h
 rw[show aK a b=q from hq]
 dsimp only[Ev.av,Ev.cs,bn.av]at h⊢
 refine K1.E 0x1f Tryz.func180 ?_
 repeat' ((conv=>whnf);first|refine K1.w ?_|refine K1.u ?_|refine K1.P1 h rfl ?_|refine aJ.dR ?_|refine K1.z ?_|refine K1.y (fun _=>?_) (fun _=>?_)|fail)
 all_goals(conv=>whnf)
 all_goals(refine bG.mk (aT.of ?_))
 all_goals simp[*]
theorem jT (a b:Ev):aG Tryz.prog 148 [a.av,b.av] (.v (.bool (eU a b))) []:=by
 dsimp only[Ev.av,Ev.cs]
 refine K1.E 0x1f Tryz.func148 ?_
 repeat' ((conv=>whnf);first|refine K1.w ?_|refine K1.u ?_|refine aJ.dR ?_|refine K1.z ?_|refine K1.y (fun _=>?_) (fun _=>?_)|fail)
 all_goals(conv=>whnf)
 all_goals(refine bG.mk (aT.of ?_))
 all_goals simp[eU, *]
theorem Qv (a b:Ev):aG Tryz.prog 181 [a.av,b.av] (.v (.bool (qW a b))) []:=by
 have h:=jT a b
 obtain⟨q,hq⟩: ∃q,eU a b=q:=⟨_,rfl⟩
 rw[hq]at h
 rw[show qW a b=(q&&decide (a.l=b.l)) by rw[←hq];rfl]
 dsimp only[Ev.av,Ev.cs]at h⊢
 refine K1.E 0x1f Tryz.func181 ?_
 repeat' ((conv=>whnf);first|refine K1.w ?_|refine K1.u ?_|refine K1.P1 h rfl ?_|refine aJ.dR ?_|refine K1.z ?_|refine K1.y (fun _=>?_) (fun _=>?_)|fail)
 all_goals(conv=>whnf)
 all_goals(refine bG.mk (aT.of ?_))
 all_goals simp[*]
theorem uh (a b:Ev):aG Tryz.prog 150 [a.av,b.av] (.v (.bool (jd a b))) []:=by
 have h:=Qv a b
 obtain⟨q,hq⟩: ∃q,qW a b=q:=⟨_,rfl⟩
 rw[hq]at h
 rw[show jd a b=(q&&decide (a.v=b.v)) by rw[←hq];rfl]
 dsimp only[Ev.av,Ev.cs]at h⊢
 refine K1.E 0x1f Tryz.func150 ?_
 repeat' ((conv=>whnf);first|refine K1.w ?_|refine K1.u ?_|refine K1.P1 h rfl ?_|refine aJ.dR ?_|refine K1.z ?_|refine K1.y (fun _=>?_) (fun _=>?_)|fail)
 all_goals(conv=>whnf)
 all_goals(refine bG.mk (aT.of ?_))
 all_goals simp[*]
end
section
open Go.RowKit
theorem oQ.none: ∀fs:List (List (Nat×AV)),oQ fs (fs.map fun _=>[])
  |[]=>trivial
  |_::fs=>⟨fun _=> .inl rfl,oQ.none fs⟩
theorem dO.mkB {st:AS} (σ:List (Nat×Nat)) (l:List (Nat×AV)) (h:List (Nat×AO)) (b:Nat) (nd:nodupB (σ.map (·.2))=true) (ht:LeT (st.ren σ) l) (hh:ZU (st.ren σ) h) (hn:nodupB (h.map (·.1))=true):dO σ st ⟨l,h,(st.ren σ).back.map fun _=>[],b⟩:=
 ⟨nd,let k:=Ey.mk' l h ht hh hn;⟨k.tm,k.hp,k.nd,oQ.none _⟩⟩
theorem KP {α:Type} [Inhabited α] {p:α→Bool} {l:List α} {j:Nat} (hj:j<l.length) (h:p (l.getD j default)=true):l.any p=true:=by
 rw[List.any_eq_true]
 refine⟨l.getD j default, ?_,h⟩
 rw[List.getD,List.getElem?_eq_getElem hj]
 exact List.getElem_mem _
theorem any_none {α:Type} [Inhabited α] {p:α→Bool} {l:List α} (h: ∀i,i<l.length→p (l.getD i default)=false):l.any p=false:=by
 rw[List.any_eq_false]
 intro x hx
 obtain⟨i,hi,rfl⟩:=List.getElem_of_mem hx
 have:=h i hi
 rw[List.getD,List.getElem?_eq_getElem hi]at this
 simpa using this
theorem kN (k:Int) (g:FuncId) (same:Ev→Ev→Bool) (hs: ∀a b,aG Tryz.prog g [a.av,b.av] (.v (.bool (same a b))) []) (l:List Ev) (e:Ev) (hl:l.length≤140737488355328):
  aG Tryz.prog 149 [.agg [.v (.int .i64 k),.v (.func (.func g) #[] #[])],.sl 12 l.length true (eG l),e.av] (.v (.bool (fC k same l e))) []:=by
 have hyes: ∀j,j<l.length→(l.getD j default).k=k→same (l.getD j default) e=true→aK e (l.getD j default)=true→fC k same l e=true:=fun j hj h1 h2 h3=>KP hj (by rw[h1,h2,h3];simp)
 have hno:(∀i,i<l.length→(decide ((l.getD i default).k=k)&&(same (l.getD i default) e&&aK e (l.getD i default)))=false)→fC k same l e=false:=fun h=>any_none h
 generalize fC k same l e=R at hyes hno
 dsimp only[Ev.av]
 dsimp only[Ev.cs]
 refine K1.E 0x6f Tryz.func149 ?_
 repeat' ((conv=>whnf);first|refine K1.w ?_|refine K1.u ?_|refine K1.I 0x13 Tryz.func178 ?_|refine K1.I 0x103b3 Tryz.func196 ?_|refine aJ.dR ?_|refine K1.z ?_|refine K1.y (fun _=>?_) (fun _=>?_)|fail)
 conv=>whnf
 refine aN.mk {j:Nat//j≤l.length∧ ∀i,i<j→(decide ((l.getD i default).k=k)&&(same (l.getD i default) e&&aK e (l.getD i default)))=false} (fun j=>⟨[(8,.v (.int .i64 (j.1:Int))),(7,.v (.int .i64 (l.length:Int))),(0,.sl 12 l.length true (eG l)),(1,.fn 179 [.box 0 0,.box 1 0])],
   [(1,.box 42 e.cs),(0,.box 215 [.v (.int .i64 k),.v (.func (.func g) #[] #[])])],[[],[]],2⟩) (fun j=>l.length-j.1) ⟨0,Nat.zero_le _,fun i h=>absurd h (Nat.not_lt_zero i)⟩ _
  (dO.mkB [] _ _ _ rfl ⟨aT.int rfl,aj,aj,aj,trivial⟩ ⟨aH rfl,aH rfl,trivial⟩ rfl) ?_
 rintro⟨j,hj,hall⟩
 dsimp only
 by_cases hjl:j<l.length
 · have hsj:=hs (l.getD (j:Int).toNat default) e
   have hbj:=iR e (l.getD (j:Int).toNat default)
   have hyj:=hyes j hjl
   rw[show j=(j:Int).toNat by omega]at hyj
   have ZJ:(decide ((l.getD (j:Int).toNat default).k=k)&&(same (l.getD (j:Int).toNat default) e&&aK e (l.getD (j:Int).toNat default)))=false→ ∀i,i<j+1→(decide ((l.getD i default).k=k)&&(same (l.getD i default) e&&aK e (l.getD i default)))=false:=by
    intro h i hi
    rcases Nat.lt_or_ge i j with h'|h'
    · exact hall i h'
    · obtain rfl:i=j:=by omega
      rwa [show(i:Int).toNat=i by omega]at h
   dsimp only[Ev.av,Ev.cs]at hsj hbj⊢
   generalize same (l.getD (j:Int).toNat default) e=q1 at hsj hyj ZJ
   generalize aK e (l.getD (j:Int).toNat default)=q2 at hbj hyj ZJ
   repeat' ((conv=>whnf);first|refine K1.w ?_|refine K1.u ?_|refine K1.P1 hsj rfl ?_|refine K1.P1 hbj rfl ?_|refine K1.I 0x1f Tryz.func179 ?_|refine aJ.dR ?_|refine K1.z ?_|refine K1.y (fun _=>?_) (fun _=>?_)|fail)
   all_goals(conv=>whnf)
   all_goals first
     |(rw[hyj (by assumption) (by assumption) (by assumption)];exact bG.mk (aj))
     |exact⟨⟨j+1,by omega,ZJ (by first|(rw[decide_eq_false (by assumption)];rfl)|(rw[show q1=false by assumption];simp)|(rw[show q2=false by assumption];simp))⟩,_,dO.mk' [] _ _ _ rfl ⟨aT.int rfl,aj,aj,aj,trivial⟩ ⟨aH rfl,aH rfl,trivial⟩ rfl,by show l.length-(j+1)<l.length-j;omega⟩
 · have hR:R=false:=hno fun i hi=>hall i (by omega)
   repeat' ((conv=>whnf);first|refine K1.w ?_|refine K1.u ?_|refine aJ.dR ?_|refine K1.z ?_|refine K1.y (fun _=>?_) (fun _=>?_)|fail)
   all_goals(conv=>whnf)
   rw[hR]
   exact bG.mk (aj)
theorem uj (k:Int) (g:FuncId) (same:Ev→Ev→Bool) (hs: ∀a b,aG Tryz.prog g [a.av,b.av] (.v (.bool (same a b))) []) (l:List Ev) (e:Ev) (hl:l.length≤140737488355328):
  aG Tryz.prog 151 [.agg [.v (.int .i64 k),.v (.func (.func g) #[] #[])],.sl 12 l.length true (eG l),e.av] (.v (.bool (gY k same l e))) []:=by
 have hyes: ∀j,j<l.length→(l.getD j default).k=k→same (l.getD j default) e=true→aK (l.getD j default) e=true→gY k same l e=true:=fun j hj h1 h2 h3=>KP hj (by rw[h1,h2,h3];simp)
 have hno:(∀i,i<l.length→(decide ((l.getD i default).k=k)&&(same (l.getD i default) e&&aK (l.getD i default) e))=false)→gY k same l e=false:=fun h=>any_none h
 generalize gY k same l e=R at hyes hno
 dsimp only[Ev.av]
 dsimp only[Ev.cs]
 refine K1.E 0x6f Tryz.func151 ?_
 repeat' ((conv=>whnf);first|refine K1.w ?_|refine K1.u ?_|refine K1.I 0x13 Tryz.func178 ?_|refine K1.I 0x103b3 Tryz.func196 ?_|refine aJ.dR ?_|refine K1.z ?_|refine K1.y (fun _=>?_) (fun _=>?_)|fail)
 conv=>whnf
 refine aN.mk {j:Nat//j≤l.length∧ ∀i,i<j→(decide ((l.getD i default).k=k)&&(same (l.getD i default) e&&aK (l.getD i default) e))=false} (fun j=>⟨[(8,.v (.int .i64 (j.1:Int))),(7,.v (.int .i64 (l.length:Int))),(0,.sl 12 l.length true (eG l)),(1,.fn 182 [.box 0 0,.box 1 0])],
   [(1,.box 42 e.cs),(0,.box 215 [.v (.int .i64 k),.v (.func (.func g) #[] #[])])],[[],[]],2⟩) (fun j=>l.length-j.1) ⟨0,Nat.zero_le _,fun i h=>absurd h (Nat.not_lt_zero i)⟩ _
  (dO.mkB [] _ _ _ rfl ⟨aT.int rfl,aj,aj,aj,trivial⟩ ⟨aH rfl,aH rfl,trivial⟩ rfl) ?_
 rintro⟨j,hj,hall⟩
 dsimp only
 by_cases hjl:j<l.length
 · have hsj:=hs (l.getD (j:Int).toNat default) e
   have hbj:=iR (l.getD (j:Int).toNat default) e
   have hyj:=hyes j hjl
   rw[show j=(j:Int).toNat by omega]at hyj
   have ZJ:(decide ((l.getD (j:Int).toNat default).k=k)&&(same (l.getD (j:Int).toNat default) e&&aK (l.getD (j:Int).toNat default) e))=false→ ∀i,i<j+1→(decide ((l.getD i default).k=k)&&(same (l.getD i default) e&&aK (l.getD i default) e))=false:=by
    intro h i hi
    rcases Nat.lt_or_ge i j with h'|h'
    · exact hall i h'
    · obtain rfl:i=j:=by omega
      rwa [show(i:Int).toNat=i by omega]at h
   dsimp only[Ev.av,Ev.cs]at hsj hbj⊢
   generalize same (l.getD (j:Int).toNat default) e=q1 at hsj hyj ZJ
   generalize aK (l.getD (j:Int).toNat default) e=q2 at hbj hyj ZJ
   repeat' ((conv=>whnf);first|refine K1.w ?_|refine K1.u ?_|refine K1.P1 hsj rfl ?_|refine K1.P1 hbj rfl ?_|refine K1.I 0x1f Tryz.func182 ?_|refine aJ.dR ?_|refine K1.z ?_|refine K1.y (fun _=>?_) (fun _=>?_)|fail)
   all_goals(conv=>whnf)
   all_goals first
     |(rw[hyj (by assumption) (by assumption) (by assumption)];exact bG.mk (aj))
     |exact⟨⟨j+1,by omega,ZJ (by first|(rw[decide_eq_false (by assumption)];rfl)|(rw[show q1=false by assumption];simp)|(rw[show q2=false by assumption];simp))⟩,_,dO.mk' [] _ _ _ rfl ⟨aT.int rfl,aj,aj,aj,trivial⟩ ⟨aH rfl,aH rfl,trivial⟩ rfl,by show l.length-(j+1)<l.length-j;omega⟩
 · have hR:R=false:=hno fun i hi=>hall i (by omega)
   repeat' ((conv=>whnf);first|refine K1.w ?_|refine K1.u ?_|refine aJ.dR ?_|refine K1.z ?_|refine K1.y (fun _=>?_) (fun _=>?_)|fail)
   all_goals(conv=>whnf)
   rw[hR]
   exact bG.mk (aj)
end
section
open Go.RowKit
theorem dB {p:Ev→Bool} {l:List Ev} {j:Nat} (hj:j<l.length):(l.take (j+1)).filter p=(l.take j).filter p++(if p (l.getD j default)=true then [l.getD j default]else []):=by
 rw[List.take_add_one,List.getElem?_eq_getElem hj,List.getD,List.getElem?_eq_getElem hj,List.filter_append]
 congr 1
 simp[List.filter_cons]
abbrev KQ (p:Ev→Bool) (l:List Ev):Type:={x:Nat×List Ev//x.1≤l.length∧x.2=(l.take x.1).filter p}
end
section
open Go.RowKit
end
end Go.Proofs.YtimhagicagdkfaaGreat
