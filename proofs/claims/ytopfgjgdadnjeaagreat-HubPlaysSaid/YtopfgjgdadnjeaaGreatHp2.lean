/-
  Contracts of the walk:AmA.
-/
import Derived.WalkKit
import Derived.Deep.AppendSrc
import Derived.Lib.Hide
import Derived.Deep.Quiet
import Derived.Deep.Draws
import Derived.WalkLawsBesides
import Derived.Laws.IdiomStrings
import Derived.Deep.QuietTactic
import Derived.MapKept
set_option maxHeartbeats 16000000
set_option maxRecDepth 100000
set_option linter.unusedVariables false
set_option linter.unusedSimpArgs false
namespace Go.Proofs.YtopfgjgdadnjeaaGreat
open Go.RowKit
variable{b:Bool}{us:List Value}{B d id n s:Nat}{M:Nat->Prop}{ρ:Nat->Value}{P:Program}{A p:Prop}{e:TypeId}{u v:Value}{a w w':World}
inductive AV:Type where
 |v (x:Value)
 |agg (cs:List AV)
 |bJ (vs:List AV)
 |sl (s n:Nat) (sc:Bool) (f:Nat->List AV)
 |own (id:Nat)
 |dP (id s i k:Nat)
 |jm (id s i m:Nat)
 |box (id off:Nat)
 |cf (g:FuncId) (id off:Nat)
 |el (cs:List AV) (k:Nat)
 |fn (g:FuncId) (caps:List AV)
 |junk
def flat:Nat->(Nat->List AV)->List AV
 |0,_=>[]
 |n+1,f=>f 0++flat n (λ i=>f (i+1))
def oZ:Value->List Nat
 | .pointer (some a)=>[a.block]
 | .slice (some a) _ _=>[a.block]
 | .map (some r)=>[r]
 |_=>[]
def blks:Value->List Nat
 | .tuple us=>us.toList.tail.flatMap oZ
 |v=>oZ v
def fM:Value->Value
 | .tuple us=>us.toList.headD undef
 |v=>v
structure OB:Type where
 R:World->(Nat->Prop)->Value->Prop
 mono:∀{w w':World}{k k':Nat->Prop}{v:Value},(∀b,k b->k' b)->(∀b,k b->w'.heap[b]? =w.heap[b]?)->(∀b∈blks v,w'.heap[b]? =w.heap[b]?)->R w k v->R w' k' v
 lt:∀{w:World}{k:Nat->Prop}{v:Value},R w k v->(∀b∈blks v,b<w.heap.size)/\(fM v).oneCell'=true/\(blks v).Nodup
structure RW:Type where
 e:TypeId
 s:Nat
 n:Nat
 sc:Bool
 f:Nat->List AV
inductive AO:Type where
 |box (t:TypeId) (cs:List AV)
 |row (e:TypeId) (s n:Nat) (sc:Bool) (f:Nat->List AV)
 |mp (t:TypeId) (ks:List (ByteArray×Option Nat)) (rs:List (ByteArray×RW))
 |obs (o:OB)
 |rn (e:TypeId) (cs:List AV)
def xU:List (Nat×AV)->Nat->AV
 |[],_=> .junk
 |p::l,t=>bif Nat.beq t p.1 then p.2 else xU l t
def qw(m:AV->AV):List (Nat×AV)->List (Nat×AV)
 |[]=>[]
 |(k,v)::l=>(k,m v)::qw m l
theorem oG{m:AV->AV}(hm:m .junk= .junk):∀(l:List (Nat×AV))(t:Nat),xU (qw m l) t=m (xU l t)
 |[],_=>hm.symm
 |(k,v)::l,t=>by
  simp only[qw,xU];cases Nat.beq t k with
  |true=>rfl
  |false=>exact oG hm l t
structure AS where
 sl:List (Nat×AV)
 heap:List (Nat×AO)
 back:List (List (Nat×AV))
 base:Nat
def AS.tmps(st:AS):Nat->AV:=xU st.sl
structure CX where
 w:World
 keep:Nat->Prop
 ρ:Nat->Value
inductive PC(w:World)(keep:Nat->Prop):AV->Value->Prop where
 |v (x:Value) (h:x.oneCell'=true):PC w keep (.v x) x
 |sl (s n:Nat) (sc:Bool) (f:Nat->List AV) (A:Option Addr) (c:Nat) (us:List Value) (hs:0<s) (hn:n<=c) (hc:c<=maxLen) (hl:us.length=n*s) (hf:∀i,i<n->(f i).length=s) (hsc:sc=true-> ∀x∈flat n f,∃y,x= .v y)
   (hu:∀(i:Nat)(x:AV)(u:Value),(flat n f)[i]? =some x->us[i]? =some u->PC w keep x u)
   (hr:n=0\/ ∃b o,A=some ⟨b,o,none⟩/\keep b/\ ∀(j:Nat)(u:Value),us[j]? =some u->w.cell? ⟨b,o+j,none⟩=some u):PC w keep (.sl s n sc f) (.slice A n c)
def aN(R:AV->Value->Prop)(xs:List AV)(us:List Value):Prop:=xs.length=us.length/\ ∀(i:Nat)(x:AV)(u:Value),xs[i]? =some x->us[i]? =some u->R x u
def million:Nat:=1000000
def Yy(g:FuncId)(p:Value):Value:=bif Nat.blt g million then .func (.func g) #[] #[p]else .func (.func (Nat.sub g million)) #[p] #[]
def C0(X:CX):AV->Value->Prop
 | .own id,u=>u=fM (X.ρ id)
 | .dP id s i k,u=> ∃b n c,X.ρ id= .slice (some ⟨b,0,none⟩) n c/\u= .pointer (some ⟨b,i*s+k,none⟩)
 | .jm id s i m,u=>(∃b c,oZ (fM (X.ρ id))=[b]/\m<=c/\u= .slice (some ⟨b,i*s,none⟩) m c)\/(m=0/\ ∃A c,u= .slice A 0 c)
 | .box id off,u=> ∃b,fM (X.ρ id)= .pointer (some ⟨b,0,none⟩)/\u= .pointer (some ⟨b,off,none⟩)
 | .cf g id off,u=> ∃b,fM (X.ρ id)= .pointer (some ⟨b,0,none⟩)/\u=Yy g (.pointer (some ⟨b,off,none⟩))
 | .el cs k,u=> ∃b o us,u= .pointer (some ⟨b,o+k,none⟩)/\X.keep b/\aN (PC X.w X.keep) cs us/\ ∀(j:Nat)(y:Value),us[j]? =some y->X.w.cell? ⟨b,o+j,none⟩=some y
 | .junk,_=>True
 | .v x,u=>u=x
 | .sl s n sc f,u=>PC X.w X.keep (.sl s n sc f) u
 | .agg _,_=>False
 | .bJ _,_=>False
 | .fn _ _,_=>False
def C1(X:CX):AV->Value->Prop
 | .agg cs,u=> ∃us,u= .agg us.toArray/\aN (C0 X) cs us
 | .fn g caps,u=> ∃us,u= .func (.func g) #[] us.toArray/\aN (C0 X) caps us
 |av,u=>C0 X av u
def C2(X:CX):AV->Value->Prop
 | .bJ vs,u=> ∃us,u= .tuple us.toArray/\aN (C1 X) vs us
 |av,u=>C1 X av u
def dU(d:Nat):AV->AV
 | .v x=> .v x
 | .agg cs=> .agg cs
 | .bJ vs=> .bJ vs
 | .sl s n sc f=> .sl s n sc f
 | .own id=>bif Nat.beq id d then .junk else .own id
 | .dP id s i k=>bif Nat.beq id d then .junk else .dP id s i k
 | .jm id s i k=>bif Nat.beq id d then .junk else .jm id s i k
 | .box id off=>bif Nat.beq id d then .junk else .box id off
 | .cf g id off=>bif Nat.beq id d then .junk else .cf g id off
 | .el cs k=> .el cs k
 | .fn g cs=> .fn g cs
 | .junk=> .junk
def UZ(d:Nat):AV->AV
 | .v x=> .v x
 | .agg cs=> .agg (cs.map (dU d))
 | .bJ vs=> .bJ vs
 | .sl s n sc f=> .sl s n sc f
 | .own id=>bif Nat.beq id d then .junk else .own id
 | .dP id s i k=>bif Nat.beq id d then .junk else .dP id s i k
 | .jm id s i k=>bif Nat.beq id d then .junk else .jm id s i k
 | .box id off=>bif Nat.beq id d then .junk else .box id off
 | .cf g id off=>bif Nat.beq id d then .junk else .cf g id off
 | .el cs k=> .el cs k
 | .fn g cs=> .fn g (cs.map (dU d))
 | .junk=> .junk
def rU(d:Nat):AV->AV
 | .v x=> .v x
 | .agg cs=> .agg (cs.map (dU d))
 | .bJ vs=> .bJ (vs.map (UZ d))
 | .sl s n sc f=> .sl s n sc f
 | .own id=>bif Nat.beq id d then .junk else .own id
 | .dP id s i k=>bif Nat.beq id d then .junk else .dP id s i k
 | .jm id s i k=>bif Nat.beq id d then .junk else .jm id s i k
 | .box id off=>bif Nat.beq id d then .junk else .box id off
 | .cf g id off=>bif Nat.beq id d then .junk else .cf g id off
 | .el cs k=> .el cs k
 | .fn g cs=> .fn g (cs.map (dU d))
 | .junk=> .junk
def vI(d:Nat):List (ByteArray×Option Nat)->List (ByteArray×Option Nat)
 |[]=>[]
 |(k,some i)::l=>(k,bif Nat.beq i d then none else some i)::vI d l
 |(k,none)::l=>(k,none)::vI d l
def AO.vJ(d:Nat):AO->AO
 | .box t cs=> .box t (cs.map (dU d))
 | .row e s n sc f=> .row e s n sc f
 | .mp t ks rs=> .mp t (vI d ks) rs
 | .obs o=> .obs o
 | .rn e cs=> .rn e (cs.map (dU d))
def Bd(u v:Value):Prop:=u=v\/((∃us,u= .tuple us)/\(∃vs,v= .tuple vs)/\fM u=fM v)
theorem Bd.hd(h:Bd u v):fM u=fM v:=by
 rcases h with rfl|h
 ·rfl
 ·exact h.2.2
theorem Bd.sl{a:Option Addr}{c:Nat}(h:Bd u (.slice a n c)):u= .slice a n c:=by
 rcases h with rfl|⟨_,⟨vs,e⟩,_⟩
 ·rfl
 ·cases e
theorem Bd.refl(u:Value):Bd u u:= .inl rfl
structure Ext(d:Nat)(X Y:CX):Prop where
 keep:∀b,X.keep b->Y.keep b
 mem:∀b,X.keep b->Y.w.heap[b]? =X.w.heap[b]?
 ρ:∀i,i≠d->Bd (Y.ρ i) (X.ρ i)
theorem PC.mono{k k':Nat->Prop}(hk:∀b,k b->k' b)(hm:∀b,k b->w'.heap[b]? =w.heap[b]?){av:AV}(h:PC w k av u):PC w' k' av u:=by
 induction h with
 |v x h=>exact .v x h
 |sl s n sc f A c us hs hn hc hl hf hsc hu hr ih=>
  refine .sl s n sc f A c us hs hn hc hl hf hsc ih ?_;rcases hr with h0|⟨b,o,e,kb,hcell⟩
  ·exact .inl h0
  ·exact .inr ⟨b,o,e,hk b kb,λ j u hj=>(World.cell?_of_block (hm b kb)).trans (hcell j u hj)⟩
theorem aN.imp{R S:AV->Value->Prop}{xs:List AV}(h:aN R xs us)(hi:∀x u,R x u->S x u):aN S xs us:=⟨h.1,λ i x u hx hu=>hi x u (h.2 i x u hx hu)⟩
theorem aN.mD{R S:AV->Value->Prop}{g:AV->AV}{xs:List AV}(h:aN R xs us)(hi:∀x u,R x u->S (g x) u):aN S (xs.map g) us:=by
 refine⟨by simpa using h.1,λ i x u hx hu=> ?_⟩;rw[List.getElem?_map]at hx;cases hx':xs[i]? with
 |none=>rw[hx']at hx;cases hx
 |some y=>rw[hx']at hx;cases hx;exact hi y u (h.2 i y u hx' hu)
theorem aN.nil{R:AV->Value->Prop}:aN R [] []:=⟨rfl,λ i x u h=>by simp at h⟩
theorem aN.cons{R:AV->Value->Prop}{x:AV}{xs:List AV}(h0:R x u)(h:aN R xs us):aN R (x::xs) (u::us):=by
 refine⟨by simpa using h.1,λ i y z hy hz=> ?_⟩;cases i with
 |zero=>simp at hy hz;subst hy hz;exact h0
 |succ i=>exact h.2 i y z (by simpa using hy) (by simpa using hz)
theorem aN.app{R:AV->Value->Prop}{xs ys:List AV}{vs:List Value}(h:aN R xs us)(k:aN R ys vs):aN R (xs++ys) (us++vs):=by
 refine⟨by simp[h.1,k.1],λ i y z hy hz=> ?_⟩;by_cases hi:i<xs.length
 ·rw[List.getElem?_append_left hi]at hy;rw[List.getElem?_append_left (by rw[<-h.1];exact hi)]at hz;exact h.2 i y z hy hz
 ·rw[List.getElem?_append_right (by omega)]at hy;rw[List.getElem?_append_right (by rw[<-h.1];omega),<-h.1]at hz;exact k.2 _ y z hy hz
theorem aN.drop{R:AV->Value->Prop}{xs:List AV}{us:List Value}(h:aN R xs us)(k:Nat):aN R (xs.drop k) (us.drop k):=
 ⟨by simp[h.1],λ i x u hx hu=>h.2 (k+i) x u (by simpa using hx) (by simpa using hu)⟩
theorem aN.take{R:AV->Value->Prop}{xs:List AV}{us:List Value}(h:aN R xs us)(k:Nat):aN R (xs.take k) (us.take k):=by
 refine⟨by simp[h.1],λ i x u hx hu=> ?_⟩;rw[List.getElem?_take]at hx hu;split at hx
 ·rename_i hi;rw[if_pos hi]at hu;exact h.2 i x u hx hu
 ·cases hx
theorem aN.get{R:AV->Value->Prop}{xs:List AV}(h:aN R xs us){i:Nat}{x:AV}(hx:xs[i]? =some x):∃u,us[i]? =some u/\R x u:=by
 have hi:i<xs.length:=by
  rcases Nat.lt_or_ge i xs.length with h'|h'
  ·exact h'
  ·rw[List.getElem?_eq_none h']at hx;cases hx
 have hu:us[i]? =some (us[i]'(by rw[<-h.1];exact hi)):=List.getElem?_eq_getElem _;exact⟨_,hu,h.2 i x _ hx hu⟩
theorem aN.set{R:AV->Value->Prop}{xs:List AV}{us:List Value}(h:aN R xs us)(i:Nat){x:AV}{u:Value}(hr:R x u):aN R (xs.set i x) (us.set i u):=by
 refine⟨by simp[h.1],λ j y z hy hz=> ?_⟩;rw[List.getElem?_set]at hy hz;by_cases e:i=j
 ·subst e;simp only[if_true]at hy hz;split at hy
  ·rename_i hlt;rw[if_pos (by rw[<-h.1];exact hlt)]at hz;cases hy;cases hz;exact hr
  ·cases hy
 ·rw[if_neg e]at hy hz;exact h.2 j y z hy hz
section
variable{d:Nat}{X Y:CX}
theorem beq_false{i d:Nat}(h:i≠d):Nat.beq i d=false:=by
 rw[Bool.eq_false_iff];intro e;exact h (Nat.eq_of_beq_eq_true e)
theorem C0.ext(hE:Ext d X Y){av:AV}{u:Value}(h:C0 X av u):C0 Y (dU d av) u:=by
 cases av with
 |own id=>
  by_cases e:id=d
  ·subst e;simp[dU,C0]
  ·simp only[dU,beq_false e,cond_false,C0]at h⊢;rw[(hE.ρ id e).hd];exact h
 |dP id s i k=>
  by_cases e:id=d
  ·subst e;simp[dU,C0]
  ·simp only[dU,beq_false e,cond_false,C0]at h⊢;obtain⟨b,n,c,h1,h2⟩:=h;have h3:=hE.ρ id e;rw[h1]at h3;exact⟨b,n,c,h3.sl,h2⟩
 |jm id s i k=>
  by_cases e:id=d
  ·subst e;simp[dU,C0]
  ·simp only[dU,beq_false e,cond_false,C0]at h⊢;rw[(hE.ρ id e).hd];exact h
 |box id off=>
  by_cases e:id=d
  ·subst e;simp[dU,C0]
  ·simp only[dU,beq_false e,cond_false,C0]at h⊢;rw[(hE.ρ id e).hd];exact h
 |cf g id off=>
  by_cases e:id=d
  ·subst e;simp[dU,C0]
  ·simp only[dU,beq_false e,cond_false,C0]at h⊢;rw[(hE.ρ id e).hd];exact h
 |el cs k=>
  obtain⟨b,o,us,e,kb,ha,hc⟩:=h;exact⟨b,o,us,e,hE.keep b kb,ha.imp (λ _ _=>PC.mono hE.keep hE.mem),λ j y hj=>(World.cell?_of_block (hE.mem b kb)).trans (hc j y hj)⟩
 |sl s n sc f=>exact PC.mono hE.keep hE.mem h
 |v x=>exact h
 |junk=>trivial
 |agg cs=>exact h
 |bJ cs=>exact h
 |fn g caps=>exact h
theorem C1.ext(hE:Ext d X Y){av:AV}{u:Value}(h:C1 X av u):C1 Y (UZ d av) u:=by
 cases av with
 |agg cs=>obtain⟨us,e,ha⟩:=h;exact⟨us,e,ha.mD λ _ _=>C0.ext hE⟩
 |fn g cs=>obtain⟨us,e,ha⟩:=h;exact⟨us,e,ha.mD λ _ _=>C0.ext hE⟩
 |own id=>
  have:=C0.ext hE (av:= .own id) h;show C1 Y (dU d (.own id)) u;revert this;simp only[dU];cases Nat.beq id d<;>exact λ h=>h
 |dP id s i k=>
  have:=C0.ext hE (av:= .dP id s i k) h;show C1 Y (dU d (.dP id s i k)) u;revert this;simp only[dU];cases Nat.beq id d<;>exact λ h=>h
 |jm id s i k=>
  have:=C0.ext hE (av:= .jm id s i k) h;show C1 Y (dU d (.jm id s i k)) u;revert this;simp only[dU];cases Nat.beq id d<;>exact λ h=>h
 |box id off=>
  have:=C0.ext hE (av:= .box id off) h;show C1 Y (dU d (.box id off)) u;revert this;simp only[dU];cases Nat.beq id d<;>exact λ h=>h
 |cf g id off=>
  have:=C0.ext hE (av:= .cf g id off) h;show C1 Y (dU d (.cf g id off)) u;revert this;simp only[dU];cases Nat.beq id d<;>exact λ h=>h
 |el cs k=>exact C0.ext hE (av:= .el cs k) h
 |sl s n sc f=>exact C0.ext hE (av:= .sl s n sc f) h
 |v x=>exact h
 |junk=>trivial
 |bJ cs=>exact h
theorem C2.ext(hE:Ext d X Y){av:AV}{u:Value}(h:C2 X av u):C2 Y (rU d av) u:=by
 cases av with
 |bJ vs=>obtain⟨us,e,ha⟩:=h;exact⟨us,e,ha.mD λ _ _=>C1.ext hE⟩
 |agg cs=>exact C1.ext hE (av:= .agg cs) h
 |fn g cs=>exact C1.ext hE (av:= .fn g cs) h
 |own id=>
  have:=C1.ext hE (av:= .own id) h;show C2 Y (dU d (.own id)) u;have h2:C1 Y (dU d (.own id)) u:=this;revert h2;simp only[dU];cases Nat.beq id d<;>exact λ h=>h
 |dP id s i k=>
  have h2:C1 Y (dU d (.dP id s i k)) u:=C1.ext hE (av:= .dP id s i k) h;show C2 Y (dU d (.dP id s i k)) u;revert h2;simp only[dU];cases Nat.beq id d<;>exact λ h=>h
 |jm id s i k=>
  have h2:C1 Y (dU d (.jm id s i k)) u:=C1.ext hE (av:= .jm id s i k) h;show C2 Y (dU d (.jm id s i k)) u;revert h2;simp only[dU];cases Nat.beq id d<;>exact λ h=>h
 |box id off=>
  have h2:C1 Y (dU d (.box id off)) u:=C1.ext hE (av:= .box id off) h;show C2 Y (dU d (.box id off)) u;revert h2;simp only[dU];cases Nat.beq id d<;>exact λ h=>h
 |cf g id off=>
  have h2:C1 Y (dU d (.cf g id off)) u:=C1.ext hE (av:= .cf g id off) h;show C2 Y (dU d (.cf g id off)) u;revert h2;simp only[dU];cases Nat.beq id d<;>exact λ h=>h
 |el cs k=>exact C1.ext hE (av:= .el cs k) h
 |sl s n sc f=>exact C1.ext hE (av:= .sl s n sc f) h
 |v x=>exact h
 |junk=>trivial
theorem C0.same(hk:∀b,X.keep b->Y.keep b)(hm:∀b,X.keep b->Y.w.heap[b]? =X.w.heap[b]?)(hρ:Y.ρ=X.ρ){av:AV}{u:Value}(h:C0 X av u):C0 Y av u:=by
 cases av with
 |own id=>simp only[C0]at h⊢;rw[hρ];exact h
 |dP id s i k=>simp only[C0]at h⊢;rw[hρ];exact h
 |jm id s i k=>simp only[C0]at h⊢;rw[hρ];exact h
 |box id off=>simp only[C0]at h⊢;rw[hρ];exact h
 |cf g id off=>simp only[C0]at h⊢;rw[hρ];exact h
 |el cs k=>
  obtain⟨b,o,us,e,kb,ha,hc⟩:=h;exact⟨b,o,us,e,hk b kb,ha.imp (λ _ _=>PC.mono hk hm),λ j y hj=>(World.cell?_of_block (hm b kb)).trans (hc j y hj)⟩
 |sl s n sc f=>exact PC.mono hk hm h
 |v x=>exact h
 |junk=>trivial
 |agg cs=>exact h
 |bJ cs=>exact h
 |fn g caps=>exact h
theorem C1.same(hk:∀b,X.keep b->Y.keep b)(hm:∀b,X.keep b->Y.w.heap[b]? =X.w.heap[b]?)(hρ:Y.ρ=X.ρ){av:AV}{u:Value}(h:C1 X av u):C1 Y av u:=by
 cases av with
 |agg cs=>obtain⟨us,e,ha⟩:=h;exact⟨us,e,ha.imp λ _ _=>C0.same hk hm hρ⟩
 |fn g cs=>obtain⟨us,e,ha⟩:=h;exact⟨us,e,ha.imp λ _ _=>C0.same hk hm hρ⟩
 |own id=>exact C0.same hk hm hρ (av:= .own id) h
 |dP id s i k=>exact C0.same hk hm hρ (av:= .dP id s i k) h
 |jm id s i k=>exact C0.same hk hm hρ (av:= .jm id s i k) h
 |box id off=>exact C0.same hk hm hρ (av:= .box id off) h
 |cf g id off=>exact C0.same hk hm hρ (av:= .cf g id off) h
 |el cs k=>exact C0.same hk hm hρ (av:= .el cs k) h
 |sl s n sc f=>exact C0.same hk hm hρ (av:= .sl s n sc f) h
 |v x=>exact h
 |junk=>trivial
 |bJ cs=>exact h
theorem C2.same(hk:∀b,X.keep b->Y.keep b)(hm:∀b,X.keep b->Y.w.heap[b]? =X.w.heap[b]?)(hρ:Y.ρ=X.ρ){av:AV}{u:Value}(h:C2 X av u):C2 Y av u:=by
 cases av with
 |bJ vs=>obtain⟨us,e,ha⟩:=h;exact⟨us,e,ha.imp λ _ _=>C1.same hk hm hρ⟩
 |agg cs=>exact C1.same hk hm hρ (av:= .agg cs) h
 |fn g cs=>exact C1.same hk hm hρ (av:= .fn g cs) h
 |own id=>exact C1.same hk hm hρ (av:= .own id) h
 |dP id s i k=>exact C1.same hk hm hρ (av:= .dP id s i k) h
 |jm id s i k=>exact C1.same hk hm hρ (av:= .jm id s i k) h
 |box id off=>exact C1.same hk hm hρ (av:= .box id off) h
 |cf g id off=>exact C1.same hk hm hρ (av:= .cf g id off) h
 |el cs k=>exact C1.same hk hm hρ (av:= .el cs k) h
 |sl s n sc f=>exact C1.same hk hm hρ (av:= .sl s n sc f) h
 |v x=>exact h
 |junk=>trivial
end
theorem C2.sH{X:CX}{av:AV}(h:C0 X av u):C2 X av u:=by
 cases av<;>first|exact h|exact h.elim
theorem C2.kF{X:CX}{av:AV}(h:C1 X av u):C2 X av u:=by
 cases av<;>first|exact h|exact(show False from h).elim
theorem C1.sH{X:CX}{av:AV}(h:C0 X av u):C1 X av u:=by
 cases av<;>first|exact h|exact h.elim
theorem C0.KG{X:CX}{av:AV}(h:PC X.w X.keep av u):C0 X av u:=by
 cases h with
 |v x h=>rfl
 |sl s n sc f A c us hs hn hc hl hf hsc hu hr=>exact .sl s n sc f A c us hs hn hc hl hf hsc hu hr
def ah(ρ:Nat->Value)(h:List (Nat×AO)):List Nat:=h.flatMap λ p=>blks (ρ p.1)
structure Base where
 w:World
 keep:Nat->Prop
 mu:Nat->Prop
 ds:List Deferred
abbrev ig(w:World)(keep mu:Nat->Prop):Base:=⟨w,keep,mu,[]⟩
abbrev base0(w:World)(keep:Nat->Prop):Base:=ig w keep λ _=>False
def aI(g:Base)(w:World)(ρ:Nat->Value)(h:List (Nat×AO))(b:Nat):Prop:=b<w.heap.size/\(b<g.w.heap.size->g.keep b\/g.mu b)/\b ∉ ah ρ h
structure gy(M:Nat->Prop)(B:Nat)(w w':World):Prop where
 os:w'.os=w.os
 tape:w'.tape=w.tape
 output:w'.output=w.output
 size:w.heap.size<=w'.heap.size
 block:∀k,k<B-> ¬M k->w'.heap[k]? =w.heap[k]?
theorem gy.refl(M:Nat->Prop)(B:Nat)(w:World):gy M B w w:=⟨rfl,rfl,rfl,Nat.le_refl _,λ _ _ _=>rfl⟩
theorem gy.trans{M:Nat->Prop}{B:Nat}{a b c:World}(h:gy M B a b)(k:gy M B b c):gy M B a c:=
 ⟨k.os.trans h.os,k.tape.trans h.tape,k.output.trans h.output,Nat.le_trans h.size k.size,λ i hi hm=>(k.block i hi hm).trans (h.block i hi hm)⟩
theorem gy.of(h:Below B w w'):gy M B w w':=⟨h.os,h.tape,h.output,h.size,λ k hk _=>h.block k hk⟩
theorem gy.less(h:gy M B w w')(hM:∀k,¬M k):Below B w w':=⟨h.os,h.tape,h.output,h.size,λ k hk=>h.block k hk (hM k)⟩
theorem gy.then{B':Nat}{b c:World}(h:gy M B a b)(k:Below B' b c)(hB:B<=B'):gy M B a c:=h.trans (.of (k.mono hB))
theorem gy.write{b:Nat}(h:gy M B a w)(hb:B<=b\/M b)(k:Below b w w')(hm:∀i,i≠b->w'.heap[i]? =w.heap[i]?):gy M B a w':=
 h.trans ⟨k.os,k.tape,k.output,k.size,λ i hi hM=>hm i (by rintro rfl;rcases hb with hb|hb;omega;exact hM hb)⟩
theorem gy.alloc{M:Nat->Prop}{B:Nat}{a w:World}(h:gy M B a w)(hB:B<=w.heap.size)(o:Obj):gy M B a (w.alloc o):=h.then ((Below.refl _ _).alloc (Nat.le_refl _) o) hB
theorem gy.grown{row:Option Nat}(h:gy M B a w)(hg:w.grownBy w' row)(hB:B<=w.heap.size)(hr:∀k,row=some k->B<=k\/M k):gy M B a w':=
 h.trans ⟨hg.os,hg.tape,hg.output,hg.size,λ k hk hM=>hg.block k (by omega) (λ e=>by rcases hr k e.symm with h|h;omega;exact hM h)⟩
def aB(g:Base)(w:World)(ρ:Nat->Value)(h:List (Nat×AO)):CX:=⟨w,aI g w ρ h,ρ⟩
def U0(ρ:Nat->Value):Nat->Value:=λ i=>fM (ρ i)
def jD(ρ:Nat->Value):List (ByteArray×Option Nat)->List Value->Prop
 |[],vs=>vs=[]
 |(_,o)::l,vs=> ∃v r,vs=v::r/\(∀i,o=some i->v=ρ i)/\jD ρ l r
def o7:List ByteArray->List Value->List (Value×Value)
 |k::l,v::r=>(match v with| .slice none _ _=>o7 l r|v=>(.string k,v)::o7 l r)
 |_,_=>[]
theorem lW(d:Nat):∀ks:List (ByteArray×Option Nat),(vI d ks).map (·.1)=ks.map (·.1)
 |[]=>rfl
 |(k,some i)::l=>by simp[vI,lW d l]
 |(k,none)::l=>by simp[vI,lW d l]
theorem jD.imp{ρ ρ':Nat->Value}:∀{ks:List (ByteArray×Option Nat)}{vs:List Value},(∀p∈ks,∀i,p.2=some i->ρ' i=ρ i)->jD ρ ks vs->jD ρ' ks vs
 |[],_,_,k=>k
 |(k,o)::l,vs,h,⟨v,r,e,hi,hr⟩=>⟨v,r,e,λ j hj=>by rw[h (k,o) List.mem_cons_self j hj];exact hi j hj,jD.imp (λ p hp=>h p (List.mem_cons_of_mem _ hp)) hr⟩
theorem jD.vJ{ρ ρ':Nat->Value}{d:Nat}(h:∀i,i≠d->ρ' i=ρ i):∀{ks:List (ByteArray×Option Nat)}{vs:List Value},jD ρ ks vs->jD ρ' (vI d ks) vs
 |[],_,k=>k
 |(k,some i)::l,vs,⟨v,r,e,hi,hr⟩=>⟨v,r,e,λ j hj=>by
   by_cases hd:i=d
   ·subst hd;simp at hj
   ·have:Nat.beq i d=false:=by rw[Bool.eq_false_iff];intro e;exact hd (Nat.eq_of_beq_eq_true e)
    rw[this]at hj;cases hj;rw[h _ hd];exact hi _ rfl,jD.vJ h hr⟩
 |(k,none)::l,vs,⟨v,r,e,_,hr⟩=>⟨v,r,e,λ j hj=>(by cases hj),jD.vJ h hr⟩
def xZ(X:CX)(v:Value)(e:TypeId)(s n:Nat)(sc:Bool)(f:Nat->List AV):Prop:=
 ∃us,X.w.ownsRow 0 e s v n us/\0<s/\(∀i,i<n->(f i).length=s)/\(sc=true-> ∀x∈flat n f,∃y,x= .v y)/\aN (PC X.w X.keep) (flat n f) us
def sJ(X:CX):List (ByteArray×RW)->List Value->Prop
 |[],vs=>vs=[]
 |(_,r)::l,vs=> ∃v q,vs=v::q/\xZ X v r.e r.s r.n r.sc r.f/\sJ X l q
def bn(X:CX)(id:Nat):AO->Prop
 | .box t cs=> ∃b us,X.ρ id= .pointer (some ⟨b,0,none⟩)/\X.w.heap[b]? =some (.cells us.toArray t (0,0))/\aN (C0 X) cs us
 | .row e s n sc f=>xZ X (X.ρ id) e s n sc f
 | .mp _ ks rs=> ∃b es c vs hs,X.ρ id= .tuple (.map (some b):: .map (some b)::hs).toArray/\X.w.heap[b]? =some (.map es c)/\jD (U0 X.ρ) ks vs/\sJ X rs hs/\(es.toList.map λ e=>(e.key,e.val)).Perm (o7 (ks.map (·.1)++rs.map (·.1)) (vs++hs))/\(ks.map (·.1)++rs.map (·.1)).Nodup/\MapKept.Stamped es c
 | .obs o=> ∃us,X.ρ id= .tuple us/\o.R X.w X.keep (X.ρ id)
 | .rn e cs=> ∃us,(X.w.ownsRow 0 e 1 (X.ρ id) cs.length us/\ ∀u∈us,u.oneCell'=true)/\aN (C0 X) cs us
def mF(X:CX):List (List (Nat×AV))->List (Array Value)->Prop
 |[],[]=>True
 |f::fs,b::bs=>(∀t,C2 X (xU f t) (b.getD t undef))/\mF X fs bs
 |_,_=>False
theorem mF.map{X Y:CX}{m:AV->AV}(hm:m .junk= .junk)(h:∀x u,C2 X x u->C2 Y (m x) u):∀{fs:List (List (Nat×AV))}{bs:List (Array Value)},mF X fs bs->mF Y (fs.map (qw m)) bs
 |[],[],_=>trivial
 |_::_,_::_,k=>⟨λ t=>by rw[oG hm];exact h _ _ (k.1 t),mF.map hm h k.2⟩
 |[],_::_,k=>k.elim
 |_::_,[],k=>k.elim
theorem mF.imp{X Y:CX}(h:∀x u,C2 X x u->C2 Y x u):∀{fs:List (List (Nat×AV))}{bs:List (Array Value)},mF X fs bs->mF Y fs bs
 |[],[],_=>trivial
 |_::_,_::_,k=>⟨λ t=>h _ _ (k.1 t),mF.imp h k.2⟩
 |[],_::_,k=>k.elim
 |_::_,[],k=>k.elim
structure Rel(g:Base)(N:Nat)(bs:List (Array Value))(ρ:Nat->Value)(a:Act)(w:World)(st:AS):Prop where
 size:a.tmps.size=N
 defers:a.defers=g.ds
 below:gy g.mu g.w.heap.size g.w w
 tmps:∀t,C2 (aB g w ρ st.heap) (st.tmps t) (a.tmps.getD t undef)
 objs:∀p∈st.heap,bn (aB g w ρ st.heap) p.1 p.2
 apart:(ah ρ st.heap).Nodup
 own:∀b,b∈ah ρ st.heap->g.w.heap.size<=b\/g.mu b
 back:mF (aB g w ρ st.heap) st.back bs
def upd(d:Nat)(x:AV)(f:Nat->AV):Nat->AV:=λ t=>bif Nat.beq t d then x else f t
def AS.put(st:AS)(d:Nat)(x:AV):AS:=⟨(d,x)::st.sl,st.heap,st.back,st.base⟩
def gone(d j:Nat)(h:List (Nat×AO)):List (Nat×AO):=h.filter λ p=> !(Nat.beq p.1 d||Nat.beq p.1 j)
def nK(d:Nat)(h:List (Nat×AO)):List (Nat×AO):=h.map λ p=>(p.1,p.2.vJ d)
def AS.obj(st:AS)(d j:Nat)(o:AO):AS:=⟨qw (rU d) st.sl,(d,o.vJ d)::nK d (gone d j st.heap),st.back.map (qw (rU d)),Nat.add d 1⟩
def dV(ρ:Nat->Value)(d:Nat)(u:Value):Nat->Value:=λ i=>if i=d then u else ρ i
theorem aU{h:List (Nat×AO)}{b:Nat}:b∈ah ρ h↔ ∃p∈h,b∈blks (ρ p.1):=by simp[ah]
theorem aT(ρ:Nat->Value)(p:Nat×AO)(h:List (Nat×AO)):ah ρ (p::h)=blks (ρ p.1)++ah ρ h:=rfl
theorem kV{ρ:Nat->Value}:∀{h:List (Nat×AO)},(ah ρ h).Nodup-> ∀{p:Nat×AO},p∈h->(blks (ρ p.1)).Nodup
 |[],_,p,hp=>by cases hp
 |q::h,hn,p,hp=>by
  rw[aT,List.nodup_append]at hn;rcases List.mem_cons.1 hp with rfl|hp
  ·exact hn.1
  ·exact kV hn.2.1 hp
theorem D5{X:CX}:∀{rs:List (ByteArray×RW)}{hs:List Value},sJ X rs hs-> ∀b∈hs.flatMap oZ,b<X.w.heap.size
 |[],_,h,b,hb=>by rw[show _=[]from h]at hb;cases hb
 |(_,r)::l,_,⟨v,q,e,⟨us,hown,_⟩,hq⟩,b,hb=>by
  subst e;rw[List.flatMap_cons]at hb;rcases List.mem_append.1 hb with hb|hb
  ·rcases hown.2 with⟨rfl,_⟩|⟨g,cap,cur,rfl,hg,hh,r⟩
   ·cases hb
   ·rw[List.mem_singleton.1 hb];exact(Array.getElem?_eq_some_iff.1 hh).1
  ·exact D5 hq b hb
theorem yA{p:Nat×AO}{h:List (Nat×AO)}(hn:(ah ρ (p::h)).Nodup):(ah ρ h).Nodup:=by
 rw[aT]at hn;exact(List.nodup_append.1 hn).2.1
theorem fQ{q:Nat×AO->Bool}{h:List (Nat×AO)}{b:Nat}(hb:b∈ah ρ (h.filter q)):b∈ah ρ h:=by
 rw[aU]at hb⊢;obtain⟨p,hp,e⟩:=hb;exact⟨p,(List.mem_filter.1 hp).1,e⟩
theorem pG{ρ:Nat->Value}{q:Nat×AO->Bool}:∀{h:List (Nat×AO)},(ah ρ h).Nodup->(ah ρ (h.filter q)).Nodup
 |[],_=>by simp[ah]
 |p::h,hn=>by
  have ih:=pG (q:=q) (yA hn);rw[List.filter_cons];split
  ·rw[aT]at hn⊢;rw[List.nodup_append]at hn⊢;exact⟨hn.1,ih,λ x hx y hy=>hn.2.2 x hx y (fQ hy)⟩
  ·exact ih
theorem gJ{ρ:Nat->Value}{b:Nat}:∀{h:List (Nat×AO)},(ah ρ h).Nodup-> ∀p∈h,∀q∈h,b∈blks (ρ p.1)->b∈blks (ρ q.1)->p.1=q.1
 |[],_,p,hp,_,_,_,_=>by cases hp
 |r::h,hn,p,hp,q,hq,e1,e2=>by
  have ht:=yA hn;rw[aT,List.nodup_append]at hn;rcases List.mem_cons.1 hp with rfl|hp'
  ·rcases List.mem_cons.1 hq with rfl|hq'
   ·rfl
   ·exact absurd rfl (hn.2.2 b e1 b (aU.2 ⟨q,hq',e2⟩))
  ·rcases List.mem_cons.1 hq with rfl|hq'
   ·exact absurd rfl (hn.2.2 b e2 b (aU.2 ⟨p,hp',e1⟩))
   ·exact gJ ht p hp' q hq' e1 e2
theorem mG(ρ:Nat->Value)(d:Nat)(h:List (Nat×AO)):ah ρ (nK d h)=ah ρ h:=by
 simp[ah,nK,List.flatMap_map]
theorem vK{h:List (Nat×AO)}(hd:∀p∈h,p.1≠d):ah (dV ρ d u) h=ah ρ h:=by
 induction h with
 |nil=>rfl
 |cons p h ih=>
  rw[aT,aT,ih (λ q hq=>hd q (by simp[hq]))];simp[dV,hd p (by simp)]
theorem x9(h:w.ownsRow B e s v n us)(hm:∀b∈blks v,w'.heap[b]? =w.heap[b]?):w'.ownsRow B e s v n us:=by
 refine⟨h.1, ?_⟩;rcases h.2 with hn|⟨g,cap,cur,rfl,hg,hh,r⟩
 ·exact .inl hn
 ·exact .inr ⟨g,cap,cur,rfl,hg,(hm g List.mem_cons_self).trans hh,r⟩
theorem iO(h:w.ownsRow B e s v n us):fM v=v:=by
 rcases h.2 with⟨rfl,_⟩|⟨g,cap,cur,rfl,_⟩<;>rfl
theorem U1(h:w.ownsRow B e s v n us):blks v=v.ownBlock.toList:=by
 rcases h.2 with⟨rfl,_⟩|⟨g,cap,cur,rfl,_⟩<;>rfl
theorem U2(h:w.ownsRow B e s v n us):oZ v=blks v:=by
 rcases h.2 with⟨rfl,_⟩|⟨g,cap,cur,rfl,_⟩<;>rfl
theorem Dy{X:CX}{sc:Bool}{f:Nat->List AV}(h:bn X id (.row e s n sc f)):fM (X.ρ id)=X.ρ id:=by
 obtain⟨us,hown,_⟩:=h;exact iO hown
theorem nM(h:w.ownsRow B e s v n us):(blks v).Nodup:=by
 rcases h.2 with⟨rfl,_⟩|⟨g,cap,cur,rfl,_⟩<;>simp[blks,oZ]
theorem xZ.mono{X Y:CX}{v:Value}{e:TypeId}{s n:Nat}{sc:Bool}{f:Nat->List AV}(hk:∀b,X.keep b->Y.keep b)(hmk:∀b,X.keep b->Y.w.heap[b]? =X.w.heap[b]?)(hm:∀b∈blks v,Y.w.heap[b]? =X.w.heap[b]?)(h:xZ X v e s n sc f):xZ Y v e s n sc f:=by
 obtain⟨us,ho,hs,hf,hsc,ha⟩:=h;exact⟨us,x9 ho hm,hs,hf,hsc,ha.imp λ _ _=>PC.mono hk hmk⟩
theorem sJ.mono{X Y:CX}(hk:∀b,X.keep b->Y.keep b)(hmk:∀b,X.keep b->Y.w.heap[b]? =X.w.heap[b]?):∀{rs:List (ByteArray×RW)}{hs:List Value},(∀b∈hs.flatMap oZ,Y.w.heap[b]? =X.w.heap[b]?)->sJ X rs hs->sJ Y rs hs
 |[],_,_,h=>h
 |(_,r)::l,_,hm,⟨v,q,e,hr,hq⟩=>by
  subst e;rw[List.flatMap_cons]at hm;have hb:oZ v=blks v:=by obtain⟨us,ho,_⟩:=hr;exact U2 ho
  exact⟨v,q,rfl,hr.mono hk hmk (λ b hb'=>hm b (List.mem_append_left _ (by rw[hb];exact hb'))),sJ.mono hk hmk (λ b hb'=>hm b (List.mem_append_right _ hb')) hq⟩
theorem bn.move{X Y:CX}{id':Nat}{o o':AO}(hk:∀b,X.keep b->Y.keep b)(hmk:∀b,X.keep b->Y.w.heap[b]? =X.w.heap[b]?)(hid:Y.ρ id'=X.ρ id)(hm:∀b∈blks (X.ρ id),Y.w.heap[b]? =X.w.heap[b]?)
  (ho:match o,o' with| .box t cs,.box t' cs'=>t'=t/\ ∀us,aN (C0 X) cs us->aN (C0 Y) cs' us| .row e s n sc f,o'=>o'= .row e s n sc f| .mp t ks rs,.mp t' ks' rs'=>t'=t/\rs'=rs/\ks'.map (·.1)=ks.map (·.1)/\ ∀vs,jD (U0 X.ρ) ks vs->jD (U0 Y.ρ) ks' vs| .obs o,o'=>o'= .obs o| .rn e cs,.rn e' cs'=>e'=e/\cs'.length=cs.length/\ ∀us,aN (C0 X) cs us->aN (C0 Y) cs' us|_,_=>False)
  (h:bn X id o):bn Y id' o':=by
 cases o with
 |box t cs=>
  cases o' with
  |box t' cs'=>
   obtain⟨rfl,ho⟩:=ho;obtain⟨b,us,e,hh,ha⟩:=h;exact⟨b,us,by rw[hid];exact e,(hm b (by rw[e];exact List.mem_cons_self)).trans hh,ho us ha⟩
  |row=>exact ho.elim
  |mp=>exact ho.elim
  |obs=>exact ho.elim
  |rn=>exact ho.elim
 |row e s n sc f=>
  have ho:o'=_:=ho;subst ho;show xZ Y (Y.ρ id') e s n sc f;rw[hid];exact xZ.mono hk hmk hm h
 |mp t ks rs=>
  cases o' with
  |mp t' ks' rs'=>
   obtain⟨rfl,rfl,hkk,ho⟩:=ho;obtain⟨b,es,c,vs,hs,e,hh,hi,hr,hp,hn⟩:=h;rw[e]at hm;exact⟨b,es,c,vs,hs,by rw[hid];exact e,(hm b List.mem_cons_self).trans hh,ho vs hi,hr.mono hk hmk (λ b hb=>hm b (List.mem_cons_of_mem _ hb)),by rw[hkk];exact hp,by rw[hkk];exact hn.1,hn.2⟩
  |row=>exact ho.elim
  |box=>exact ho.elim
  |obs=>exact ho.elim
  |rn=>exact ho.elim
 |obs o=>
  have ho:o'=_:=ho;subst ho;obtain⟨us,e,hr⟩:=h;exact⟨us,by rw[hid];exact e,by rw[hid];exact o.mono hk hmk hm hr⟩
 |rn e cs=>
  cases o' with
  |rn e' cs'=>
   obtain⟨rfl,hlen,ho⟩:=ho;obtain⟨us,⟨hown,hone⟩,ha⟩:=h;exact⟨us,⟨by rw[hid,hlen];exact x9 hown hm,hone⟩,ho us ha⟩
  |row=>exact ho.elim
  |mp=>exact ho.elim
  |obs=>exact ho.elim
  |box=>exact ho.elim
theorem bn.same{X Y:CX}{id:Nat}{o:AO}(hk:∀b,X.keep b->Y.keep b)(hmk:∀b,X.keep b->Y.w.heap[b]? =X.w.heap[b]?)(hρ:Y.ρ=X.ρ)(hm:∀b∈blks (X.ρ id),Y.w.heap[b]? =X.w.heap[b]?)(h:bn X id o):bn Y id o:=by
 refine bn.move hk hmk (by rw[hρ]) hm ?_ h;cases o with
 |box t cs=>exact⟨rfl,λ us ha=>ha.imp λ _ _=>C0.same hk hmk hρ⟩
 |row=>rfl
 |mp t ks rs=>exact⟨rfl,rfl,rfl,λ vs hv=>by rw[hρ];exact hv⟩
 |obs o=>rfl
 |rn e cs=>exact⟨rfl,rfl,λ us ha=>ha.imp λ _ _=>C0.same hk hmk hρ⟩
theorem bn.lt{X:CX}{id:Nat}{o:AO}(h:bn X id o):∀b∈blks (X.ρ id),b<X.w.heap.size:=by
 cases o with
 |box t cs=>
  obtain⟨b,us,e,hh,ha⟩:=h;intro c hc;rw[e]at hc;rw[List.mem_singleton.1 hc];exact(Array.getElem?_eq_some_iff.1 hh).1
 |row e s n sc f=>
  obtain⟨us,hown,_⟩:=h;intro c hc;rcases hown.2 with⟨hv,_⟩|⟨g,cap,cur,hv,hg,hh,r⟩
  ·rw[hv]at hc;cases hc
  ·rw[hv]at hc;rw[List.mem_singleton.1 hc];exact(Array.getElem?_eq_some_iff.1 hh).1
 |mp t ks rs=>
  obtain⟨b,es,c,vs,hs,e,hh,hi,hr,hp,hn⟩:=h;intro q hq;rw[e]at hq;have hq:q∈b::hs.flatMap oZ:=hq;rcases List.mem_cons.1 hq with rfl|hq
  ·exact(Array.getElem?_eq_some_iff.1 hh).1
  ·exact D5 hr q hq
 |obs o=>
  obtain⟨us,e,hr⟩:=h;exact(o.lt hr).1
 |rn e cs=>
  obtain⟨us,⟨hown,_⟩,_⟩:=h;intro c hc;rcases hown.2 with⟨hv,_⟩|⟨g,cap,cur,hv,hg,hh,r⟩
  ·rw[hv]at hc;cases hc
  ·rw[hv]at hc;rw[List.mem_singleton.1 hc];exact(Array.getElem?_eq_some_iff.1 hh).1
theorem bn.ext{X Y:CX}{d id:Nat}{o:AO}(hE:Ext d X Y)(hid:Y.ρ id=X.ρ id)(hm:∀b∈blks (X.ρ id),Y.w.heap[b]? =X.w.heap[b]?)(h:bn X id o):bn Y id (o.vJ d):=by
 refine bn.move hE.keep hE.mem hid hm ?_ h;cases o with
 |box t cs=>exact⟨rfl,λ us ha=>ha.mD λ _ _=>C0.ext hE⟩
 |row=>rfl
 |mp t ks rs=>exact⟨rfl,rfl,lW d ks,λ vs hv=>hv.vJ λ i hi=>(hE.ρ i hi).hd⟩
 |obs o=>rfl
 |rn e cs=>exact⟨rfl,by simp,λ us ha=>ha.mD λ _ _=>C0.ext hE⟩
theorem sK{j:Nat}{h:List (Nat×AO)}{p:Nat×AO}:p∈gone d j h↔p∈h/\p.1≠d/\p.1≠j:=by
 unfold gone;rw[List.mem_filter];constructor
 ·rintro⟨h1,h2⟩;refine⟨h1, ?_, ?_⟩<;>(intro e;simp[e]at h2)
 ·rintro⟨h1,h2,h3⟩;exact⟨h1,by simp[beq_false h2,beq_false h3]⟩
section
variable{g:Base}{N:Nat}{bs:List (Array Value)}{ρ:Nat->Value}{a:Act}{w:World}{st:AS}
theorem Rel.put(R:Rel g N bs ρ a w st){d:Nat}{x:AV}{u:Value}(hd:d<N)(h:C2 (aB g w ρ st.heap) x u):Rel g N bs ρ (a.put (some d) u) w (st.put d x):=by
 refine⟨?_,R.defers,R.below,λ t=> ?_,R.objs,R.apart,R.own,R.back⟩
 ·simpa[Act.put]using R.size
 ·show C2 _ (upd d x st.tmps t) ((a.tmps.setIfInBounds d u).getD t undef);by_cases e:t=d
  ·subst e;have hd':t<a.tmps.size:=by rw[R.size];exact hd
   have e1:(a.tmps.setIfInBounds t u).getD t undef=u:=by simp[hd']
   rw[e1];simp only[upd,Nat.beq_refl,cond_true];exact h
  ·have e1:(a.tmps.setIfInBounds d u).getD t undef=a.tmps.getD t undef:=by
    simp[Ne.symm e]
   rw[e1];simp only[upd,beq_false e,cond_false];exact R.tmps t
theorem Rel.world(R:Rel g N bs ρ a w st){w':World}(hb:Below w.heap.size w w'):Rel g N bs ρ a w' st:=by
 have hk:∀b,aI g w ρ st.heap b->aI g w' ρ st.heap b:=λ b h=>⟨Nat.lt_of_lt_of_le h.1 hb.size,h.2⟩;have hm:∀b,aI g w ρ st.heap b->w'.heap[b]? =w.heap[b]? :=λ b h=>hb.block b h.1;refine⟨R.size,R.defers,R.below.then hb R.below.size,λ t=>C2.same (X:=aB g w ρ st.heap) (Y:=aB g w' ρ st.heap) hk hm rfl (R.tmps t),λ p hp=> ?_,R.apart,R.own,R.back.imp λ _ _=>C2.same (X:=aB g w ρ st.heap) (Y:=aB g w' ρ st.heap) hk hm rfl⟩;have ho:=R.objs p hp;exact bn.same (X:=aB g w ρ st.heap) (Y:=aB g w' ρ st.heap) hk hm rfl (λ b hb'=>hb.block b (ho.lt b hb')) ho
theorem Rel.iq(R:Rel g N bs ρ a w st){b:Nat}(h:b∈ah ρ st.heap):b<w.heap.size/\(g.w.heap.size<=b\/g.mu b):=by
 refine⟨?_,R.own b h⟩;obtain⟨p,hp,e⟩:=aU.1 h;exact(R.objs p hp).lt b e
theorem Rel.obj(R:Rel g N bs ρ a w st)(d j:Nat){w':World}{nv:Value}{o:AO}(hb:gy g.mu g.w.heap.size g.w w')(hsz:w.heap.size<=w'.heap.size)
  (hmem:∀b,b<w.heap.size->(∀p∈st.heap,p.1=j-> ¬b∈blks (ρ j))->w'.heap[b]? =w.heap[b]?)
  (hnv:∀b∈blks nv,w.heap.size<=b\/ ∃p∈st.heap,p.1=j/\b∈blks (ρ j))
  (oH:Ext d (aB g w ρ st.heap) (aB g w' (dV ρ d nv) (st.obj d j o).heap)->bn (aB g w' (dV ρ d nv) (st.obj d j o).heap) d (o.vJ d))(hnd:(blks nv).Nodup:=by simp[blks,oZ]):
  Rel g N bs (dV ρ d nv) a w' (st.obj d j o):=by
 have hgd:∀p∈gone d j st.heap,p.1≠d:=λ p hp=>(sK.1 hp).2.1;have hgs:∀p∈nK d (gone d j st.heap),p.1≠d:=by
  intro p hp;simp only[nK,List.mem_map]at hp;obtain⟨q,hq,rfl⟩:=hp;exact hgd q hq
 have hblocks:ah (dV ρ d nv) (st.obj d j o).heap=blks nv++ah ρ (gone d j st.heap):=by
  show ah _ (_::_)=_;rw[aT,vK hgs,mG];simp[dV]
 have hsub:∀b,b∈ah ρ (gone d j st.heap)->b∈ah ρ st.heap:=λ b h=>fQ h;have abD:∀b,b∈ah ρ (gone d j st.heap)-> ∀p∈st.heap,p.1=j-> ¬b∈blks (ρ j):=by
  intro b hb p hp Yu e;obtain⟨q,hq,hqe⟩:=aU.1 hb;have:=gJ R.apart q (sK.1 hq).1 p hp hqe (by rw[Yu];exact e);exact(sK.1 hq).2.2 (this.trans Yu)
 have hE:Ext d (aB g w ρ st.heap) (aB g w' (dV ρ d nv) (st.obj d j o).heap):=by
  refine⟨λ b hk=>⟨Nat.lt_of_lt_of_le hk.1 hsz,hk.2.1, ?_⟩,λ b hk=>hmem b hk.1 λ p hp Yu e=>hk.2.2 (aU.2 ⟨p,hp,by rw[Yu];exact e⟩),λ i hi=> .inl (by simp[aB,dV,hi])⟩;rw[hblocks,List.mem_append];rintro(h|h)
  ·rcases hnv b h with hge|⟨p,hp,Yu,e⟩
   ·exact absurd hk.1 (by omega)
   ·exact hk.2.2 (aU.2 ⟨p,hp,by rw[Yu];exact e⟩)
  ·exact hk.2.2 (hsub b h)
 refine⟨R.size,R.defers,hb,λ t=>by rw[show(st.obj d j o).tmps t=rU d (st.tmps t)from oG rfl st.sl t];exact C2.ext hE (R.tmps t), ?_, ?_, ?_,R.back.map rfl λ _ _=>C2.ext hE⟩
 ·intro p hp;rcases List.mem_cons.1 hp with rfl|hp'
  ·exact oH hE
  ·simp only[nK,List.mem_map]at hp';obtain⟨q,hq,rfl⟩:=hp';have hq':=sK.1 hq;refine bn.ext hE (by simp[aB,dV,hq'.2.1]) (λ b hb=> ?_) (R.objs q hq'.1);have hm:b∈ah ρ (gone d j st.heap):=aU.2 ⟨q,hq,hb⟩;exact hmem b (R.iq (hsub b hm)).1 (abD b hm)
 ·rw[hblocks,List.nodup_append];refine⟨hnd,pG R.apart, ?_⟩
  ·intro x hx y hy e;subst e;rcases hnv x hx with hge|⟨p,hp,Yu,e⟩
   ·exact absurd (R.iq (hsub x hy)).1 (by omega)
   ·exact abD x hy p hp Yu e
 ·intro x hx;rw[hblocks,List.mem_append]at hx;rcases hx with hx|hx
  ·rcases hnv x hx with hge|⟨p,hp,Yu,e⟩
   ·exact .inl (Nat.le_trans R.below.size hge)
   ·exact R.own x (aU.2 ⟨p,hp,by rw[Yu];exact e⟩)
  ·exact R.own x (hsub x hx)
def setObj(id:Nat)(o:AO):List (Nat×AO)->List (Nat×AO)
 |[]=>[]
 |p::h=>bif Nat.beq p.1 id then(p.1,o)::h else p::setObj id o h
def aQ(id:Nat):List (Nat×AO)->Option AO
 |[]=>none
 |p::h=>bif Nat.beq p.1 id then some p.2 else aQ id h
theorem aA{id:Nat}{o:AO}:∀{h:List (Nat×AO)},aQ id h=some o->(id,o)∈h
 |[],e=>by cases e
 |p::h,e=>by
  simp only[aQ]at e;cases hb:Nat.beq p.1 id with
  |true=>
   rw[hb]at e;simp only[cond_true,Option.some.injEq]at e;have:=Nat.eq_of_beq_eq_true hb;rw[<-this,<-e];exact List.mem_cons_self
  |false=>
   rw[hb]at e;exact List.mem_cons_of_mem _ (aA e)
theorem jo(ρ:Nat->Value)(id:Nat)(o:AO):∀h,ah ρ (setObj id o h)=ah ρ h
 |[]=>rfl
 |p::h=>by
  simp only[setObj];cases Nat.beq p.1 id with
  |true=>simp only[cond_true];rw[aT,aT]
  |false=>simp only[cond_false];rw[aT,aT,jo ρ id o h]
theorem uo{id:Nat}{o:AO}{p:Nat×AO}:∀{h:List (Nat×AO)},p∈setObj id o h->p=(id,o)\/p∈h
 |[],hp=>by cases hp
 |q::h,hp=>by
  simp only[setObj]at hp;cases hb:Nat.beq q.1 id with
  |true=>
   rw[hb]at hp;rcases List.mem_cons.1 hp with rfl|hp'
   ·left;rw[Nat.eq_of_beq_eq_true hb]
   ·right;exact List.mem_cons_of_mem _ hp'
  |false=>
   rw[hb]at hp;rcases List.mem_cons.1 hp with rfl|hp'
   ·right;exact List.mem_cons_self
   ·rcases uo hp' with h'|h'
    ·exact .inl h'
    ·exact .inr (List.mem_cons_of_mem _ h')
theorem Rel.write(R:Rel g N bs ρ a w st){id b:Nat}{w':World}{o o':AO}(hf:aQ id st.heap=some o)(hbk:b∈blks (ρ id))(hb:Below b w w')(hsz:w'.heap.size=w.heap.size)
  (hmem:∀k,k≠b->w'.heap[k]? =w.heap[k]?)(oH:(∀k,aI g w ρ st.heap k->aI g w' ρ (setObj id o' st.heap) k)->(∀k,aI g w ρ st.heap k->w'.heap[k]? =w.heap[k]?)->bn (aB g w' ρ (setObj id o' st.heap)) id o'):
  Rel g N bs ρ a w' ⟨st.sl,setObj id o' st.heap,st.back,st.base⟩:=by
 have hin:b∈ah ρ st.heap:=aU.2 ⟨_,aA hf,hbk⟩;have hlt:=R.iq hin;have hk:∀k,aI g w ρ st.heap k->aI g w' ρ (setObj id o' st.heap) k:=λ k h=>⟨by rw[hsz];exact h.1,h.2.1,by rw[jo];exact h.2.2⟩;have hm:∀k,aI g w ρ st.heap k->w'.heap[k]? =w.heap[k]? :=λ k h=>hmem k λ e=>h.2.2 (by rw[e];exact hin);refine⟨R.size,R.defers,R.below.write hlt.2 hb hmem,λ t=>C2.same (X:=aB g w ρ st.heap) (Y:=aB g w' ρ (setObj id o' st.heap)) hk hm rfl (R.tmps t),λ p hp=> ?_,by rw[jo];exact R.apart,by rw[jo];exact R.own,R.back.imp λ _ _=>C2.same (X:=aB g w ρ st.heap) (Y:=aB g w' ρ (setObj id o' st.heap)) hk hm rfl⟩;by_cases Om:p.1=id
 ·rcases uo hp with rfl|hp'
  ·exact oH hk hm
  ·rw[Om,<-Dl R hf hbk hp Om];exact oH hk hm
 ·rcases uo hp with rfl|hp'
  ·exact absurd rfl Om
  ·have ho:=R.objs p hp';have hne:∀k∈blks (ρ p.1),k≠b:=by
    intro k hk' e;subst e;exact Om (gJ R.apart p hp' _ (aA hf) hk' hbk)
   exact bn.same (X:=aB g w ρ st.heap) (Y:=aB g w' ρ (setObj id o' st.heap)) hk hm rfl (λ k hk'=>hmem k (hne k hk')) ho
where
 Dl {id b:Nat} {o o':AO} {p:Nat×AO} (R:Rel g N bs ρ a w st) (hf:aQ id st.heap=some o) (hbk:b∈blks (ρ id)) (hp:p∈setObj id o' st.heap) (Om:p.1=id):o'=p.2:=by
  have key:∀h:List (Nat×AO),(ah ρ h).Nodup->p∈setObj id o' h->aQ id h=some o->o'=p.2:=by
   intro h;induction h with
   |nil=>intro _ hp;cases hp
   |cons q h ih=>
    intro hn hp hfq;simp only[setObj]at hp;simp only[aQ]at hfq;cases hb:Nat.beq q.1 id with
    |true=>
     rw[hb]at hp;rcases List.mem_cons.1 hp with rfl|hp'
     ·rfl
     ·have hq:=Nat.eq_of_beq_eq_true hb;rw[aT,List.nodup_append]at hn;exact absurd rfl (hn.2.2 b (by rw[hq];exact hbk) b (aU.2 ⟨p,hp',by rw[Om];exact hbk⟩))
    |false=>
     rw[hb]at hp hfq;rcases List.mem_cons.1 hp with rfl|hp'
     ·rw[Om]at hb;simp at hb
     ·exact ih (yA hn) hp' hfq
  exact key st.heap R.apart hp hf
end
inductive TK:Type where
 |bool|str|int (k:IntKind)|ptr (e:TypeId)|slice (e:TypeId)|array (n:Nat) (e:TypeId)|struct (fs:List (Nat×TypeId))|map (k e:TypeId)|other
structure TI where
 size:Nat
 bytes:Nat
 zero:List Value
 kind:TK
def kindOf:TypeDesc->TK
 | .bool=> .bool
 | .int k=> .int k
 | .string=> .str
 | .pointer e=> .ptr e
 | .slice e=> .slice e
 | .array n e=> .array n e
 | .struct fs=> .struct (fs.toList.map λ f=>(f.offset,f.type))
 | .map k e=> .map k e
 |_=> .other
def TI.isAgg(i:TI):Bool:=match i.kind with| .array _ _=>true| .struct _=>true|_=>false
def Oo(P:Program)(t:TypeId):Option TI:=
 match P.info? t,P.underlying t with
 |some i,some d=>i.zero.map λ z=>⟨i.size,i.bytes,z.cells.toList,kindOf d⟩
 |_,_=>none
abbrev Lay:=List (TypeId×TI)
def aV:Lay->TypeId->Option TI
 |[],_=>none
 |p::l,t=>bif Nat.beq p.1 t then some p.2 else aV l t
def bQ(P:Program)(L:Lay):Prop:= ∀t i,aV L t=some i->Oo P t=some i
theorem U3{L:Lay}(h:(L.map λ p=>Oo P p.1)=(L.map λ p=>some p.2)):bQ P L:=by
 induction L with
 |nil=>intro t i e;cases e
 |cons p L ih=>
  intro t i e;simp only[List.map_cons,List.cons.injEq]at h;simp only[aV]at e;cases hb:Nat.beq p.1 t with
  |true=>
   rw[hb]at e;simp only[cond_true,Option.some.injEq]at e;rw[<-Nat.eq_of_beq_eq_true hb,<-e];exact h.1
  |false=>
   rw[hb]at e;exact ih h.2 t i e
inductive RJ(p A:Prop):Prop where
 |mk:p->A->RJ p A
inductive lD(p A B:Prop):Prop where
 |mk:(p->A)->(¬p->B)->lD p A B
theorem lD.yes{B:Prop}(h:p)(a:A):lD p A B:=⟨λ _=>a,λ n=>absurd h n⟩
theorem lD.no{B:Prop}(h:¬p)(b:B):lD p A B:=⟨λ y=>absurd y h,λ _=>b⟩
inductive Wr(n:Int)(K:Int->Prop):IntKind->Prop where
 |i64: -9223372036854775808<=n->n<=9223372036854775807->K n->Wr n K .i64
 |u64:0<=n->n<=18446744073709551615->K n->Wr n K .u64
 |u32:0<=n->n<=4294967295->K n->Wr n K .u32
 |u8:0<=n->n<=255->K n->Wr n K .u8
 |raw (k:IntKind):K (k.wrap n)->Wr n K k
def abE:Value->AV
 | .agg cs=> .agg (cs.toList.map .v)
 |x=> .v x
def AS.ev(st:AS):Operand->AV
 | .tmp t=>st.tmps t
 | .const x=>abE x
 | .func g=> .fn g []
 | .global _=> .junk
def abG(g:FuncId)(c:AV):Option (List AV):=match c with
 | .box id off=>bif Nat.blt g million then some [.cf g id off]else none
 |_=>none
def AV.cells? :AV->Option (List AV)
 | .agg cs=>some cs
 | .bJ _=>none
 | .fn g caps=>(match caps with|[]=>some [.v (.func (.func g) #[] #[])]|c::r=>(match r with|[]=>abG g c|_::_=>none))
 |x=>some [x]
def U4(y:Value):AV:=match y with
 | .func (.func g) fs us=>bif fs.toList.isEmpty&&us.toList.isEmpty then .fn g []else .v (.func (.func g) fs us)
 |y=> .v y
def AV.U5(x:AV):AV:=match x with
 | .v y=>U4 y
 | .cf g id off=>bif Nat.blt g million then .fn g [.box id off]else .cf g id off
 |x=>x
theorem zD{X:CX}{x:AV}(h:C2 X x u):C2 X x.U5 u:=by
 cases x with
 |v y=>
  show C2 X (U4 y) u;unfold U4;split
  ·rename_i g fs us;cases hb:fs.toList.isEmpty&&us.toList.isEmpty with
   |false=>exact h
   |true=>
    have hb:=Bool.and_eq_true_iff.1 hb;have h1:fs= #[]:=by simpa using hb.1
    have h2:us= #[]:=by simpa using hb.2
    subst h1 h2;have h:u= .func (.func g) #[] #[]:=h;exact⟨[],h,rfl,λ i x u hx=>by simp at hx⟩
  ·exact h
 |cf g id off=>
  show C2 X (bif Nat.blt g million then .fn g [.box id off]else .cf g id off) u;cases hb:Nat.blt g million with
  |true=>
   obtain⟨b,h1,rfl⟩:=h;exact⟨[.pointer (some ⟨b,off,none⟩)],by unfold Yy;rw[hb];rfl,aN.cons ⟨b,h1,rfl⟩ aN.nil⟩
  |false=>exact h
 |_=>exact h
def vg(h:List (Nat×AO)):AV->Bool
 | .v x=>x.oneCell'
 | .sl .. =>true
 | .own id=>match aQ id h with|some (.row ..)=>true|some (.mp ..)=>true|some (.obs _)=>true|some (.rn ..)=>true|_=>false
 | .dP .. =>true
 | .jm .. =>true
 | .box .. =>true
 | .cf .. =>true
 | .el .. =>true
 |_=>false
def Cj:AV->Bool
 | .v x=>x.oneCell'
 | .sl .. =>true
 |_=>false
def isV:AV->Bool
 | .v _=>true
 |_=>false
def splice(cs:List AV)(k:Nat)(xs:List AV):List AV:=cs.take k++(xs++cs.drop (k+xs.length))
def ld(i:TI)(cs:List AV)(k:Nat)(K:AV->Prop):Prop:=
 bif i.isAgg then(bif Nat.ble (k+i.size) cs.length then K (.agg ((cs.drop k).take i.size))else False)
 else(bif Nat.ble (k+1) cs.length then K (cs.getD k .junk)else False)
def inB(n:Int)(m:Nat):Bool:=decide (0<=n)&&decide (n<(m:Int))
structure KA(n:Int)(m:Nat)(A:Prop):Prop where
 mk::
 ok:inB n m=true
 k:A
theorem Bf(n:Int)(m:Nat)(A:Prop):KA n m A=(bif inB n m then A else False):=by
 cases h:inB n m with
 |true=>exact propext ⟨λ k=>k.k,λ k=>⟨h,k⟩⟩
 |false=>exact propext ⟨λ k=>(by have:=k.ok;rw[h]at this;cases this),λ k=>k.elim⟩
theorem Ja{n:Int}{m:Nat}(h0:0<=n)(h1:n<(m:Int)):inB n m=true:=by simp[inB,h0,h1]
inductive qM(n:Int)(m:Nat)(K:Nat->Prop):Prop where
 |mk (ok:inB n m=true) (k:K n.toNat):qM n m K
 |lit (c:Nat) (e:n=(c:Int)) (hc:Nat.blt c m=true) (k:K c):qM n m K
theorem U6(n:Int)(m:Nat)(K:Nat->Prop):qM n m K=(bif inB n m then K n.toNat else False):=by
 cases h:inB n m with
 |true=>
  refine propext ⟨λ k=> ?_,λ k=> .mk h k⟩;cases k with
  |mk _ k=>exact k
  |lit c e _ k=>subst e;exact k
 |false=>
  refine propext ⟨λ k=> ?_,λ k=>k.elim⟩;cases k with
  |mk ok _=>rw[h]at ok;cases ok
  |lit c e hc _=>
   subst e;have hc:c<m:=Nat.blt_eq.mp hc;rw[Ja (by omega) (by omega)]at h;cases h
def Qp(L:Lay)(st:AS)(t:TypeId)(p:AV)(K:AV->Prop):Prop:=
 match aV L t,p with
 |some i,.box id k=>match aQ id st.heap with|some (.box _ cs)=>ld i cs k K|_=>False
 |some i,.el cs k=>ld i cs k K
 |some i,.dP id s j k=>match aQ id st.heap with|some (.row _ s' n _ f)=>bif Nat.beq s s' then(bif Nat.ble (j+1) n then ld i (f j) k K else False)else False|some (.rn _ cs)=>bif Nat.beq s 1 then ld i cs (j+k) K else False|_=>False
 |_,_=>False
def Oq(L:Lay)(st:AS)(t:TypeId)(p x:AV)(K:AS->Prop):Prop:=
 match aV L t,p,x.cells? with
 |some i,.box id k,some xs=>
  bif Nat.beq xs.length i.size&&xs.all (vg st.heap)then
   (match aQ id st.heap with
   |some (.box t' cs)=>bif Nat.ble (k+xs.length) cs.length then K ⟨st.sl,setObj id (.box t' (splice cs k xs)) st.heap,st.back,st.base⟩else False
   |_=>False)
  else False
 |some i,.dP id s j k,some xs=>
  bif Nat.beq xs.length i.size&&xs.all Cj then
   (match aQ id st.heap with
   |some (.row e s' n sc f)=>
    bif Nat.beq s s'&&Nat.ble (k+xs.length) s then(bif Nat.ble (j+1) n then K ⟨st.sl,setObj id (.row e s n (sc&&xs.all isV) (λ m=>bif Nat.beq m j then splice (f j) k xs else f m)) st.heap,st.back,st.base⟩else False)else False
   |_=>False)
  else False
 |_,_,_=>False
def nO(L:Lay)(t:TypeId)(p:AV)(i:Nat)(K:AV->Prop):Prop:=
 match aV L t with
 |some ti=>match ti.kind with
  | .struct fs=>match fs[i]? with
    |some (o,ft)=>match aV L ft with
     |some fi=>bif Nat.ble 1 fi.size then(match p with| .box id k=>K (.box id (k+o))| .el cs k=>K (.el cs (k+o))| .dP id s j k=>K (.dP id s j (k+o))|_=>False)else False
     |none=>False
    |none=>False
  |_=>False
 |none=>False
def Ot(L:Lay)(t:TypeId)(x:AV)(i:Nat)(K:AV->Prop):Prop:=
 match aV L t,x with
 |some ti,.agg cs=>match ti.kind with
  | .struct fs=>match fs[i]? with
    |some (o,ft)=>match aV L ft with|some fi=>ld fi cs o K|none=>False
    |none=>False
  |_=>False
 |_,_=>False
def yB(L:Lay)(st:AS)(t:TypeId)(x ix:AV)(K:AV->Prop):Prop:=
 match aV L t,ix with
 |some ti,.v (.int _ n)=>match ti.kind with
  | .slice e=>match aV L e with
    |some ei=>match x with
     | .sl s m _ f=>bif Nat.beq s ei.size then(KA n m (K (.el (f n.toNat) 0)))else False
     | .own id=>match aQ id st.heap with
       |some (.row _ s m _ _)=>bif Nat.beq s ei.size then(KA n m (K (.dP id s n.toNat 0)))else False
       |some (.rn _ cs)=>bif Nat.beq 1 ei.size then qM n cs.length (λ q=>K (.dP id 1 q 0))else False
       |_=>False
     |_=>False
    |none=>False
  | .array m e=>match aV L e with
    |some ei=>qM n m (λ q=>match x with| .box id k=>K (.box id (k+q*ei.size))| .el cs k=>K (.el cs (k+q*ei.size))| .dP id s j k=>K (.dP id s j (k+q*ei.size))|_=>False)
    |none=>False
  |_=>False
 |_,_=>False
def Ou(L:Lay)(t:TypeId)(x ix:AV)(K:AV->Prop):Prop:=
 match aV L t,ix with
 |some ti,.v (.int _ n)=>match ti.kind,x with
  | .array m e,.agg cs=>match aV L e with|some ei=>qM n m (λ q=>ld ei cs (q*ei.size) K)|none=>False
  | .str,.v (.string s)=>KA n s.size (K (.v (.int .u8 ((s.data.toList.getD n.toNat 0).toNat:Int))))
  |_,_=>False
 |_,_=>False
def D6(x:AV)(i:Nat)(K:AV->Prop):Prop:=match x with| .bJ vs=>(match vs[i]? with|some y=>K y|none=>False)|_=>False
def yg(h:List (Nat×AO))(place:Nat->Option (Nat×Nat)):List AV->List (Nat×AV)->Option (List AV)
 |cs,[]=>some cs
 |cs,(i,x)::r=>match place i,x.cells? with
  |some (o,s),some xs=>bif Nat.beq xs.length s&&Nat.ble (o+xs.length) cs.length&&xs.all (vg h)then yg h place (splice cs o xs) r else none
  |_,_=>none
def placesOf(L:Lay):List (Nat×TypeId)->Option (List (Nat×Nat))
 |[]=>some []
 |(o,t)::r=>match aV L t,placesOf L r with|some i,some l=>some ((o,i.size)::l)|_,_=>none
def Bg(L:Lay)(h0:List (Nat×AO))(t:TypeId)(parts:List (Nat×AV))(K:AV->Prop):Prop:=
 match aV L t with
 |some ti=>match ti.kind with
  | .struct fs=>match placesOf L fs with
    |some pl=>match yg h0 (pl[·]?) (ti.zero.map .v) parts with|some cs=>K (.agg cs)|none=>False
    |none=>False
  | .array _ e=>match aV L e with
    |some ei=>match yg h0 (λ i=>some (i*ei.size,ei.size)) (ti.zero.map .v) parts with|some cs=>K (.agg cs)|none=>False
    |none=>False
  |_=>False
 |none=>False
def U7(z:List AV):Nat->List AV
 |0=>[]
 |n+1=>z++U7 z n
def chunk(s:Nat)(cs:List AV)(i:Nat):List AV:=(cs.drop (i*s)).take s
def qR(L:Lay)(d:Nat)(st:AS)(t:TypeId)(len:Nat)(parts:List (Nat×AV))(K:AV->AS->Prop):Prop:=
 match aV L t with
 |some ti=>match ti.kind with
  | .slice e=>match aV L e with
    |some ei=>
     bif Nat.ble 1 ei.size&&Nat.beq ei.zero.length ei.size&&Nat.ble (len*ei.size) 65536 then
      (match yg st.heap (λ i=>some (i*ei.size,ei.size)) (U7 (ei.zero.map .v) len) parts with
      |some cs=>bif cs.all Cj then K (.own d) (st.obj d d (.row e ei.size len (cs.all isV) (chunk ei.size cs)))else(bif Nat.beq ei.size 1&&Nat.beq cs.length len&&cs.all (vg st.heap)then K (.own d) (st.obj d d (.rn e cs))else False)
      |none=>False)
     else False
    |none=>False
  |_=>False
 |none=>False
def aas(op:BinOp)(a b:Int)(K:AV->Prop):Prop:=
 match op with
 | .eql=>lD (a=b) (K (.v (.bool true))) (K (.v (.bool false)))
 | .neq=>lD (a=b) (K (.v (.bool false))) (K (.v (.bool true)))
 | .lss=>lD (a<b) (K (.v (.bool true))) (K (.v (.bool false)))
 | .leq=>lD (a<=b) (K (.v (.bool true))) (K (.v (.bool false)))
 | .gtr=>lD (b<a) (K (.v (.bool true))) (K (.v (.bool false)))
 | .geq=>lD (b<=a) (K (.v (.bool true))) (K (.v (.bool false)))
 |_=>False
inductive Dv(a b:Int)(K:Int->Prop):Prop where
 |pos:0<=a->0<b->K (a/b)->Dv a b K
 |raw:b≠0->K (a.tdiv b)->Dv a b K
inductive Rm(a b:Int)(K:Int->Prop):Prop where
 |pos:0<=a->0<b->K (a%b)->Rm a b K
 |raw:b≠0->K (a.tmod b)->Rm a b K
def Yz(op:BinOp)(k:IntKind)(a b:Int)(K:AV->Prop):Prop:=
 match op with
 | .add=>Wr (a+b) (λ n=>K (.v (.int k n))) k
 | .sub=>Wr (a-b) (λ n=>K (.v (.int k n))) k
 | .mul=>Wr (a*b) (λ n=>K (.v (.int k n))) k
 | .quo=>Dv a b (λ q=>Wr q (λ n=>K (.v (.int k n))) k)
 | .rem=>Rm a b (λ n=>K (.v (.int k n)))
 | .and=>K (.v (.int k (k.wrap (BitVec.ofInt k.bits a&&&BitVec.ofInt k.bits b).toNat)))
 | .or=>K (.v (.int k (k.wrap (BitVec.ofInt k.bits a|||BitVec.ofInt k.bits b).toNat)))
 | .xor=>K (.v (.int k (k.wrap (BitVec.ofInt k.bits a^^^BitVec.ofInt k.bits b).toNat)))
 | .shl=>False
 | .shr=>False
 | .andNot=>False
 |op=>aas op a b K
def Ov(op:BinOp)(k:IntKind)(a b:Int)(K:AV->Prop):Prop:=
 match op with
 | .shl=>RJ (0<=b) (Wr (a*2^min b.toNat k.bits) (λ n=>K (.v (.int k n))) k)
 | .shr=>RJ (0<=b) (K (.v (.int k (a.fdiv (2^min b.toNat k.bits)))))
 |_=>False
def aat(op:BinOp)(a b:ByteArray)(K:AV->Prop):Prop:=
 match op with
 | .add=>RJ (((a.size+b.size:Nat):Int)<=9223372036854775807) (K (.v (.string (a++b))))
 | .eql=>lD (a=b) (K (.v (.bool true))) (K (.v (.bool false)))
 | .neq=>lD (a=b) (K (.v (.bool false))) (K (.v (.bool true)))
 | .lss=>lD (Op.bytesLess a.toList b.toList=true) (K (.v (.bool true))) (K (.v (.bool false)))
 | .geq=>lD (Op.bytesLess a.toList b.toList=true) (K (.v (.bool false))) (K (.v (.bool true)))
 | .leq=>lD (Op.bytesLess a.toList b.toList=true\/a=b) (K (.v (.bool true))) (K (.v (.bool false)))
 | .gtr=>lD (Op.bytesLess a.toList b.toList=true\/a=b) (K (.v (.bool false))) (K (.v (.bool true)))
 |_=>False
def Jb(P:Program)(t:TypeId)(us vs:List Value)(p:Prop):Prop:=
 P.eqGuardType P.depth t=false/\ ∀w:World,∃b:Bool,(b=true↔p)/\(Op.equal t (.agg us.toArray) (.agg vs.toArray)).run P w= .ok b w
inductive GZ(P:Program)(t:TypeId)(cs ds:List AV)(A B:Prop):Prop where
 |mk (us vs:List Value) (p:Prop) (hu:cs=us.map .v) (hv:ds=vs.map .v) (hp:Jb P t us vs p):lD p A B->GZ P t cs ds A B
structure aau(n:Nat)(A B:Prop):Prop where
 y:n=0->A
 n:B
def aav(P:Program)(L:Lay)(op:BinOp)(t:TypeId)(x y:AV)(K:AV->Prop):Prop:=
 match x,y with
 | .v (.int k a),.v (.int k' b)=>(match op with
   | .shl=>Ov .shl k a b K
   | .shr=>Ov .shr k a b K
   |op=>bif decide (k=k')then Yz op k a b K else False)
 | .v (.string a),.v (.string b)=>aat op a b K
 | .v (.bool a),.v (.bool b)=>match aV L t with
   |some i=>(match i.kind,op with
    | .bool,.eql=>K (.v (.bool (a==b)))
    | .bool,.neq=>K (.v (.bool (!(a==b))))
    |_,_=>False)
   |none=>False
 | .agg cs,.agg ds=>(match op with
   | .eql=>GZ P t cs ds (K (.v (.bool true))) (K (.v (.bool false)))
   | .neq=>GZ P t cs ds (K (.v (.bool false))) (K (.v (.bool true)))
   |_=>False)
 | .box _ _,.v (.pointer none)=>match aV L t with
   |some i=>(match i.kind,op with
    | .ptr _,.eql=>K (.v (.bool false))
    | .ptr _,.neq=>K (.v (.bool true))
    |_,_=>False)
   |none=>False
 | .v (.pointer none),.v (.pointer none)=>match aV L t with
   |some i=>(match i.kind,op with
    | .ptr _,.eql=>K (.v (.bool true))
    | .ptr _,.neq=>K (.v (.bool false))
    |_,_=>False)
   |none=>False
 | .v (.slice none 0 0),.v (.slice none 0 0)=>match aV L t with
   |some i=>(match i.kind,op with
    | .slice _,.eql=>K (.v (.bool true))
    | .slice _,.neq=>K (.v (.bool false))
    |_,_=>False)
   |none=>False
 | .sl _ n _ _,.v (.slice none 0 0)=>match aV L t with
   |some i=>(match i.kind,op with
    | .slice _,.eql=>aau n (K (.v (.bool true))) (K (.v (.bool false)))
    | .slice _,.neq=>aau n (K (.v (.bool false))) (K (.v (.bool true)))
    |_,_=>False)
   |none=>False
 |_,_=>False
def aun(op:UnOp)(x:AV)(K:AV->Prop):Prop:=
 match op,x with
 | .not,.v (.bool b)=>K (.v (.bool (!b)))
 | .neg,.v (.int k n)=>Wr (0-n) (λ n=>K (.v (.int k n))) k
 | .xor,.v (.int k n)=>Yz .xor k (if k.signed then-1 else k.max) n K
 |_,_=>False
inductive Bs(n:Nat)(f:Nat->List AV)(K:List UInt8->Prop):Prop where
 |mk (bs:List UInt8) (hn:n=bs.length) (hf:∀i,i<n->f i=[.v (.int .u8 ((bs.getD i 0).toNat:Int))]):K bs->Bs n f K
def D7(L:Lay)(st:AS)(src dst:TypeId)(x:AV)(K:AV->Prop):Prop:=
 match aV L src,aV L dst with
 |some si,some di=>match si.kind,di.kind,x with
  |_,.int k,.v (.int _ n)=>Wr n (λ n=>K (.v (.int k n))) k
  |_,.str,.v (.string s)=>K (.v (.string s))
  | .slice e,.str,.sl _ n _ f=>match aV L e with|some ei=>(match ei.kind with| .int .u8=>Bs n f (λ bs=>K (.v (.string ⟨bs.toArray⟩)))|_=>False)|none=>False
  | .slice e,.str,.own id=>match aQ id st.heap with
    |some (.row _ _ n _ f)=>match aV L e with|some ei=>(match ei.kind with| .int .u8=>Bs n f (λ bs=>K (.v (.string ⟨bs.toArray⟩)))|_=>False)|none=>False
    |_=>False
  |_,_,_=>False
 |_,_=>False
def zF(i0:Nat)(a:AV):AV->AV
 | .v x=> .v x
 | .agg cs=> .agg cs
 | .bJ vs=> .bJ vs
 | .sl s n sc f=> .sl s n sc f
 | .own id=>bif Nat.beq id i0 then a else .own id
 | .dP id s i k=> .dP id s i k
 | .jm id s i k=> .jm id s i k
 | .box id off=> .box id off
 | .cf g id off=> .cf g id off
 | .el cs k=> .el cs k
 | .fn g cs=> .fn g cs
 | .junk=> .junk
def U8(i0:Nat)(a:AV):AV->AV
 | .v x=> .v x
 | .agg cs=> .agg (cs.map (zF i0 a))
 | .bJ vs=> .bJ vs
 | .sl s n sc f=> .sl s n sc f
 | .own id=>bif Nat.beq id i0 then a else .own id
 | .dP id s i k=> .dP id s i k
 | .jm id s i k=> .jm id s i k
 | .box id off=> .box id off
 | .cf g id off=> .cf g id off
 | .el cs k=> .el cs k
 | .fn g cs=> .fn g (cs.map (zF i0 a))
 | .junk=> .junk
def D8(i0:Nat)(a:AV):AV->AV
 | .v x=> .v x
 | .agg cs=> .agg (cs.map (zF i0 a))
 | .bJ vs=> .bJ (vs.map (U8 i0 a))
 | .sl s n sc f=> .sl s n sc f
 | .own id=>bif Nat.beq id i0 then a else .own id
 | .dP id s i k=> .dP id s i k
 | .jm id s i k=> .jm id s i k
 | .box id off=> .box id off
 | .cf g id off=> .cf g id off
 | .el cs k=> .el cs k
 | .fn g cs=> .fn g (cs.map (zF i0 a))
 | .junk=> .junk
def AO.thaw(id:Nat)(a:AV):AO->AO
 | .box t cs=> .box t (cs.map (zF id a))
 | .row e s n sc f=> .row e s n sc f
 | .mp t ks rs=> .mp t (vI id ks) rs
 | .obs o=> .obs o
 | .rn e cs=> .rn e (cs.map (zF id a))
def AS.freeze(st:AS)(id s n:Nat)(sc:Bool)(f:Nat->List AV):AS:=
 ⟨qw (D8 id (.sl s n sc f)) st.sl,(st.heap.filter λ p=> !Nat.beq p.1 id).map λ p=>(p.1,p.2.thaw id (.sl s n sc f)),st.back.map (qw (D8 id (.sl s n sc f))),st.base⟩
def AS.iK(st:AS)(id:Nat):AS:=⟨qw (rU id) st.sl,nK id (st.heap.filter λ p=> !Nat.beq p.1 id),st.back.map (qw (rU id)),st.base⟩
def RN(s n:Nat)(sc:Bool)(f:Nat->List AV)(lo hi:Option AV)(K:AV->Prop):Prop:=
 match lo,hi with
 |none,none=>K (.sl s n sc f)
 |none,some (.v (.int _ h))=>KA h (n+1) (K (.sl s h.toNat sc f))
 |some (.v (.int _ l)),none=>KA l (n+1) (K (.sl s (n-l.toNat) sc (λ i=>f (l.toNat+i))))
 |some (.v (.int _ l)),some (.v (.int _ h))=>KA h (n+1) ((KA l (h.toNat+1) (K (.sl s (h.toNat-l.toNat) sc (λ i=>f (l.toNat+i))))))
 |_,_=>False
def U9(b:ByteArray)(lo hi:Option AV)(K:AV->Prop):Prop:=
 match lo,hi with
 |none,none=>K (.v (.string b))
 |none,some (.v (.int _ h))=>KA h (b.size+1) (K (.v (.string (b.extract 0 h.toNat))))
 |some (.v (.int _ l)),none=>KA l (b.size+1) (K (.v (.string (b.extract l.toNat b.size))))
 |some (.v (.int _ l)),some (.v (.int _ h))=>KA h (b.size+1) ((KA l (h.toNat+1) (K (.v (.string (b.extract l.toNat h.toNat))))))
 |_,_=>False
def Va(n:Nat)(lo hi:Option AV)(K:Nat->Nat->Prop):Prop:=
 match lo,hi with
 |none,none=>K 0 n
 |none,some (.v (.int _ h))=>KA h (n+1) (K 0 h.toNat)
 |some (.v (.int _ l)),none=>KA l (n+1) (K l.toNat n)
 |some (.v (.int _ l)),some (.v (.int _ h))=>KA h (n+1) (KA l (h.toNat+1) (K l.toNat h.toNat))
 |_,_=>False
inductive Vb(A B C:Prop):Prop where
 |G5 (h:A):Vb A B C
 |part (h:B):Vb A B C
 |cut (h:C):Vb A B C
def bG(n m:Nat)(K:Nat->Prop):Prop:=bif Nat.beq n m then K m else K n
def bH(b:Bool)(X Y:Prop):Prop:=bif b then X else Y
theorem YA(n m:Nat)(K:Nat->Prop):bG n m K=K n:=by
 unfold bG;cases h:Nat.beq n m with
 |true=>rw[Nat.eq_of_beq_eq_true h];rfl
 |false=>rfl
theorem YB{X Y Z:Prop}(h1:X=Z)(h2:Y=Z):bH b X Y=Z:=by cases b;exact h2;exact h1
def D9(n:Nat)(K:Nat->Prop):Prop:=
 bH (Nat.ble 64 n) (bH (Nat.ble 96 n) (bH (Nat.ble 112 n) (bH (Nat.ble 120 n) (bH (Nat.ble 124 n) (bH (Nat.ble 126 n) (bH (Nat.ble 127 n) (bG n 127 K) (bG n 126 K)) (bH (Nat.ble 125 n) (bG n 125 K) (bG n 124 K))) (bH (Nat.ble 122 n) (bH (Nat.ble 123 n) (bG n 123 K) (bG n 122 K)) (bH (Nat.ble 121 n) (bG n 121 K) (bG n 120 K)))) (bH (Nat.ble 116 n) (bH (Nat.ble 118 n) (bH (Nat.ble 119 n) (bG n 119 K) (bG n 118 K)) (bH (Nat.ble 117 n) (bG n 117 K) (bG n 116 K))) (bH (Nat.ble 114 n) (bH (Nat.ble 115 n) (bG n 115 K) (bG n 114 K)) (bH (Nat.ble 113 n) (bG n 113 K) (bG n 112 K))))) (bH (Nat.ble 104 n) (bH (Nat.ble 108 n) (bH (Nat.ble 110 n) (bH (Nat.ble 111 n) (bG n 111 K) (bG n 110 K)) (bH (Nat.ble 109 n) (bG n 109 K) (bG n 108 K))) (bH (Nat.ble 106 n) (bH (Nat.ble 107 n) (bG n 107 K) (bG n 106 K)) (bH (Nat.ble 105 n) (bG n 105 K) (bG n 104 K)))) (bH (Nat.ble 100 n) (bH (Nat.ble 102 n) (bH (Nat.ble 103 n) (bG n 103 K) (bG n 102 K)) (bH (Nat.ble 101 n) (bG n 101 K) (bG n 100 K))) (bH (Nat.ble 98 n) (bH (Nat.ble 99 n) (bG n 99 K) (bG n 98 K)) (bH (Nat.ble 97 n) (bG n 97 K) (bG n 96 K)))))) (bH (Nat.ble 80 n) (bH (Nat.ble 88 n) (bH (Nat.ble 92 n) (bH (Nat.ble 94 n) (bH (Nat.ble 95 n) (bG n 95 K) (bG n 94 K)) (bH (Nat.ble 93 n) (bG n 93 K) (bG n 92 K))) (bH (Nat.ble 90 n) (bH (Nat.ble 91 n) (bG n 91 K) (bG n 90 K)) (bH (Nat.ble 89 n) (bG n 89 K) (bG n 88 K)))) (bH (Nat.ble 84 n) (bH (Nat.ble 86 n) (bH (Nat.ble 87 n) (bG n 87 K) (bG n 86 K)) (bH (Nat.ble 85 n) (bG n 85 K) (bG n 84 K))) (bH (Nat.ble 82 n) (bH (Nat.ble 83 n) (bG n 83 K) (bG n 82 K)) (bH (Nat.ble 81 n) (bG n 81 K) (bG n 80 K))))) (bH (Nat.ble 72 n) (bH (Nat.ble 76 n) (bH (Nat.ble 78 n) (bH (Nat.ble 79 n) (bG n 79 K) (bG n 78 K)) (bH (Nat.ble 77 n) (bG n 77 K) (bG n 76 K))) (bH (Nat.ble 74 n) (bH (Nat.ble 75 n) (bG n 75 K) (bG n 74 K)) (bH (Nat.ble 73 n) (bG n 73 K) (bG n 72 K)))) (bH (Nat.ble 68 n) (bH (Nat.ble 70 n) (bH (Nat.ble 71 n) (bG n 71 K) (bG n 70 K)) (bH (Nat.ble 69 n) (bG n 69 K) (bG n 68 K))) (bH (Nat.ble 66 n) (bH (Nat.ble 67 n) (bG n 67 K) (bG n 66 K)) (bH (Nat.ble 65 n) (bG n 65 K) (bG n 64 K))))))) (bH (Nat.ble 32 n) (bH (Nat.ble 48 n) (bH (Nat.ble 56 n) (bH (Nat.ble 60 n) (bH (Nat.ble 62 n) (bH (Nat.ble 63 n) (bG n 63 K) (bG n 62 K)) (bH (Nat.ble 61 n) (bG n 61 K) (bG n 60 K))) (bH (Nat.ble 58 n) (bH (Nat.ble 59 n) (bG n 59 K) (bG n 58 K)) (bH (Nat.ble 57 n) (bG n 57 K) (bG n 56 K)))) (bH (Nat.ble 52 n) (bH (Nat.ble 54 n) (bH (Nat.ble 55 n) (bG n 55 K) (bG n 54 K)) (bH (Nat.ble 53 n) (bG n 53 K) (bG n 52 K))) (bH (Nat.ble 50 n) (bH (Nat.ble 51 n) (bG n 51 K) (bG n 50 K)) (bH (Nat.ble 49 n) (bG n 49 K) (bG n 48 K))))) (bH (Nat.ble 40 n) (bH (Nat.ble 44 n) (bH (Nat.ble 46 n) (bH (Nat.ble 47 n) (bG n 47 K) (bG n 46 K)) (bH (Nat.ble 45 n) (bG n 45 K) (bG n 44 K))) (bH (Nat.ble 42 n) (bH (Nat.ble 43 n) (bG n 43 K) (bG n 42 K)) (bH (Nat.ble 41 n) (bG n 41 K) (bG n 40 K)))) (bH (Nat.ble 36 n) (bH (Nat.ble 38 n) (bH (Nat.ble 39 n) (bG n 39 K) (bG n 38 K)) (bH (Nat.ble 37 n) (bG n 37 K) (bG n 36 K))) (bH (Nat.ble 34 n) (bH (Nat.ble 35 n) (bG n 35 K) (bG n 34 K)) (bH (Nat.ble 33 n) (bG n 33 K) (bG n 32 K)))))) (bH (Nat.ble 16 n) (bH (Nat.ble 24 n) (bH (Nat.ble 28 n) (bH (Nat.ble 30 n) (bH (Nat.ble 31 n) (bG n 31 K) (bG n 30 K)) (bH (Nat.ble 29 n) (bG n 29 K) (bG n 28 K))) (bH (Nat.ble 26 n) (bH (Nat.ble 27 n) (bG n 27 K) (bG n 26 K)) (bH (Nat.ble 25 n) (bG n 25 K) (bG n 24 K)))) (bH (Nat.ble 20 n) (bH (Nat.ble 22 n) (bH (Nat.ble 23 n) (bG n 23 K) (bG n 22 K)) (bH (Nat.ble 21 n) (bG n 21 K) (bG n 20 K))) (bH (Nat.ble 18 n) (bH (Nat.ble 19 n) (bG n 19 K) (bG n 18 K)) (bH (Nat.ble 17 n) (bG n 17 K) (bG n 16 K))))) (bH (Nat.ble 8 n) (bH (Nat.ble 12 n) (bH (Nat.ble 14 n) (bH (Nat.ble 15 n) (bG n 15 K) (bG n 14 K)) (bH (Nat.ble 13 n) (bG n 13 K) (bG n 12 K))) (bH (Nat.ble 10 n) (bH (Nat.ble 11 n) (bG n 11 K) (bG n 10 K)) (bH (Nat.ble 9 n) (bG n 9 K) (bG n 8 K)))) (bH (Nat.ble 4 n) (bH (Nat.ble 6 n) (bH (Nat.ble 7 n) (bG n 7 K) (bG n 6 K)) (bH (Nat.ble 5 n) (bG n 5 K) (bG n 4 K))) (bH (Nat.ble 2 n) (bH (Nat.ble 3 n) (bG n 3 K) (bG n 2 K)) (bH (Nat.ble 1 n) (bG n 1 K) (bG n 0 K)))))))
theorem KH(n:Nat)(K:Nat->Prop):D9 n K=K n:=by
 unfold D9;repeat' (first|exact YA _ _ _|apply YB)
def nameOf(st:AS)(K:Nat->Prop):Prop:=match st with|⟨_,_,_,b⟩=>D9 b K
theorem jg(st:AS)(K:Nat->Prop):nameOf st K=K st.base:=by cases st;exact KH _ _
def aslice(L:Lay)(st:AS)(t:TypeId)(x:AV)(lo hi mx:Option AV)(K:AV->AS->Prop):Prop:=
 match mx,aV L t with
 |none,some ti=>match ti.kind,x with
  | .slice e,.sl s n sc f=>(match aV L e with|some ei=>bif Nat.beq s ei.size then RN s n sc f lo hi (λ y=>K y st)else False|none=>False)
  | .slice e,.v (.slice none 0 0)=>(match aV L e with|some _=>Va 0 lo hi (λ _ _=>K (.v (.slice none 0 0)) st)|none=>False)
  | .slice e,.own id=>(match aQ id st.heap with|some (.row e' s n sc f)=>(match aV L e with|some ei=>bif Nat.beq s ei.size then Vb (RN s n sc f lo hi (λ y=>K y (st.freeze id s n sc f))) (Va n lo hi (λ l h=>K (.jm id s l (h-l)) st)) (Va n lo hi (λ l h=>bif Nat.beq l 0 then nameOf st (λ d=>K (.own d) (st.obj d id (.row e' s h sc f)))else False))else False|none=>False)|_=>False)
  | .str,.v (.string b)=>U9 b lo hi (λ y=>K y st)
  | .array m e,.box id k=>Vb (match lo,hi,k,aQ id st.heap,aV L e with
    |none,none,0,some (.box _ cs),some ei=>bif Nat.ble 1 ei.size&&Nat.beq cs.length (m*ei.size)&&Nat.ble m 65536&&cs.all Cj then K (.sl ei.size m (cs.all isV) (chunk ei.size cs)) (st.iK id)else False
    |_,_,_,_,_=>False) (match lo,hi,aV L e with|none,none,some _=>K (.jm id 1 k m) st|_,_,_=>False) False
  |_,_=>False
 |_,_=>False
def Qq(L:Lay)(st:AS)(s:Nat)(t:TypeId)(x:AV):Option (Nat×Bool×(Nat->List AV)):=
 match aV L t with
 |some ti=>match ti.kind,x with
  | .slice _,.sl s' n sc f=>bif Nat.beq s s' then some (n,sc,f)else none
  | .slice _,.own id=>match aQ id st.heap with|some (.row _ s' n sc f)=>bif Nat.beq s s' then some (n,sc,f)else none|_=>none
  | .slice _,.v (.slice none 0 _)=>some (0,true,λ _=>[])
  | .str,.v (.string b)=>bif Nat.beq s 1 then some (b.size,true,λ i=>[.v (.int .u8 ((b.data.toList.getD i 0).toNat:Int))])else none
  |_,_=>none
 |none=>none
def kJ(n:Nat)(f g:Nat->List AV):Nat->List AV:=λ i=>bif Nat.ble n i then g (i-n)else f i
def aad(L:Lay)(d:Nat)(st:AS)(e:TypeId)(ei:TI)(tx:TypeId)(x y:AV)(K:AV->AS->Prop):Prop:=
 match aV L tx,y with
 |some ti,.own j=>match ti.kind,aQ j st.heap with
  | .slice _,some (.rn _ ds)=>bif Nat.beq ei.size 1&&Nat.ble ei.bytes 1024&&Nat.ble ds.length 1024 then
     (match x with
     | .v (.slice none 0 0)=>K (.own d) (st.obj d d (.rn e ds))
     | .own id=>match aQ id st.heap with
       |some (.rn e' cs)=>bif Nat.beq e e'&&Nat.ble cs.length 1024 then K (.own d) (st.obj d id (.rn e (cs++ds)))else False
       |_=>False
     |_=>False)
    else False
  |_,_=>False
 |_,_=>False
def Jc(L:Lay)(d:Nat)(st:AS)(t tx:TypeId)(x y:AV)(K:AV->AS->Prop):Prop:=
 match aV L t with
 |some ti=>match ti.kind with
  | .slice e=>match aV L e with
    |some ei=>
     bif Nat.ble 1 ei.size&&Nat.beq ei.zero.length ei.size then
      (match Qq L st ei.size tx y with
      |some (m,sc',g)=>match x with
       | .v (.slice none 0 0)=>RJ (m*ei.bytes<=140737488355328/\m<=140737488355328) (K (.own d) (st.obj d d (.row e ei.size m sc' g)))
       | .own id=>match aQ id st.heap with
         |some (.row e' s n sc f)=>bif Nat.beq e e'&&Nat.beq s ei.size then RJ ((n+m)*ei.bytes<=140737488355328/\n+m<=140737488355328) (K (.own d) (st.obj d id (.row e s (n+m) (sc&&sc') (kJ n f g))))else False
         |_=>False
       |_=>False
      |none=>aad L d st e ei tx x y K)
     else False
    |none=>False
  |_=>False
 |none=>False
inductive Vd(b:Nat)(l c:Int)(K:Nat->Prop):Prop where
 |none:l=0->0<=c->c*b<=140737488355328->c<=140737488355328->K 0->Vd b l c K
 |full:0<=l->l=c->c*b<=140737488355328->c<=140737488355328->K l.toNat->Vd b l c K
def Ve(L:Lay)(d:Nat)(st:AS)(t:TypeId)(l c:AV)(K:AV->AS->Prop):Prop:=
 match aV L t,l,c with
 |some ti,.v (.int _ l),.v (.int _ c)=>match ti.kind with
  | .slice e=>match aV L e with
    |some ei=>bif (Nat.ble 1 ei.size&&Nat.beq ei.zero.length ei.size)&&ei.zero.all (λ x=>x.oneCell')then Vd ei.bytes l c (λ n=>K (.own d) (st.obj d d (.row e ei.size n true (λ _=>ei.zero.map .v))))else False
    |none=>False
  |_=>False
 |_,_,_=>False
def Ox(L:Lay)(t:TypeId)(x:AV)(K:AV->Prop):Prop:=
 match aV L t,x with
 |some ti,.sl s n _ f=>match ti.kind with
  | .array m e=>match aV L e with
    |some ei=>bif Nat.beq s ei.size&&Nat.ble 1 m then RJ (m<=n) (K (.el (flat m f) 0))else False
    |none=>False
  |_=>False
 |_,_=>False
def aaw(L:Lay)(st:AS)(t:TypeId)(x:AV)(K:AV->Prop):Prop:=
 match aV L t with
 |none=>False
 |some i=>match i.kind,x with
 | .str,.v (.string b)=>K (.v (.int .i64 (b.size:Int)))
 | .slice _,.v (.slice _ n _)=>K (.v (.int .i64 (n:Int)))
 | .slice _,.sl _ n _ _=>K (.v (.int .i64 (n:Int)))
 | .slice _,.own id=>(match aQ id st.heap with|some (.row _ _ n _ _)=>K (.v (.int .i64 (n:Int)))|some (.rn _ cs)=>K (.v (.int .i64 (cs.length:Int)))|_=>False)
 | .slice _,.jm _ _ _ m=>K (.v (.int .i64 (m:Int)))
 | .array m _,_=>K (.v (.int .i64 (m:Int)))
 |_,_=>False
def Gt(h:List (Nat×AO)):AV->AV
 | .own id=>match aQ id h with|some (.row _ s n sc f)=> .sl s n sc f|_=> .junk
 | .v x=> .v x
 | .sl s n sc f=> .sl s n sc f
 |_=> .junk
def Oy(h:List (Nat×AO)):AV->AV
 | .agg cs=> .agg (cs.map (Gt h))
 |x=>Gt h x
inductive YC(h:List (Nat×AO)):AV->AV->Prop where
 |eq (a:AV):YC h a (Gt h a)
 |nil (s:Nat) (sc:Bool) (f:Nat->List AV):0<s->YC h (.v (.slice none 0 0)) (.sl s 0 sc f)
inductive RP(h:List (Nat×AO)):AV->AV->Prop where
 |eq (a:AV):RP h a (Oy h a)
 |nil (s:Nat) (sc:Bool) (f:Nat->List AV):0<s->RP h (.v (.slice none 0 0)) (.sl s 0 sc f)
 |agg (cs ds:List AV):cs.length=ds.length->(∀(i:Nat)(x y:AV),cs[i]? =some x->ds[i]? =some y->YC h x y)->RP h (.agg cs) (.agg ds)
def Ea(h:List (Nat×AO))(xs ys:List AV):Prop:=xs.length=ys.length/\ ∀(i:Nat)(x y:AV),xs[i]? =some x->ys[i]? =some y->RP h x y
theorem Ea.nil{h:List (Nat×AO)}:Ea h [] []:=⟨rfl,λ i x y hx=>by simp at hx⟩
theorem Ea.cons{h:List (Nat×AO)}{x y:AV}{xs ys:List AV}(h0:RP h x y)(hr:Ea h xs ys):Ea h (x::xs) (y::ys):=by
 refine⟨by simpa using hr.1,λ i a b ha hb=> ?_⟩;cases i with
 |zero=>simp at ha hb;subst ha hb;exact h0
 |succ i=>exact hr.2 i a b (by simpa using ha) (by simpa using hb)
def rV:List Nat->Bool
 |[]=>true
 |x::l=> !(l.any (Nat.beq x))&&rV l
theorem Bh:∀{l:List Nat},rV l=true->l.Nodup
 |[],_=>List.nodup_nil
 |x::l,h=>by
  simp only[rV,Bool.and_eq_true,Bool.not_eq_true']at h;refine List.nodup_cons.2 ⟨λ hx=> ?_,Bh h.2⟩;have:=List.any_eq_false.1 h.1 x hx;simp at this
def Enters(P:Program)(f:FuncId):Prop:= ∃fn c,P.funcs[f]? =some fn/\(fn.name== "runtime.NumGoroutine")=false/\fn.body=some c
def aC(P:Program)(f:FuncId)(bD:List AV)(r:AV)(h:List (Nat×AO)):Prop:=
 Enters P f/\ ∀(w:World)(keep:Nat->Prop)(args:List Value),(∀b,keep b->b<w.heap.size)->aN (C1 ⟨w,keep,λ _=>undef⟩) bD args->
  Calls P f args.toArray w λ e w'=> ∃u ρ,e= .returned u/\Below w.heap.size w w'/\C2 (aB (base0 w keep) w' ρ h) r u/\(∀p∈h,bn (aB (base0 w keep) w' ρ h) p.1 p.2)/\(ah ρ h).Nodup/\ ∀b∈ah ρ h,w.heap.size<=b
def au(P:Program)(f:FuncId)(hin:List (Nat×AO))(bD:List AV)(r:AV)(hout:List (Nat×AO)):Prop:=
 Enters P f/\ ∀(w:World)(keep:Nat->Prop)(ρ:Nat->Value)(args:List Value),(∀b,keep b->b<w.heap.size)->(∀p∈hin,bn ⟨w,keep,ρ⟩ p.1 p.2)->(ah ρ hin).Nodup->(∀b∈ah ρ hin,b<w.heap.size/\ ¬keep b)->aN (C1 ⟨w,keep,ρ⟩) bD args->
  Calls P f args.toArray w λ e w'=> ∃u ρ',e= .returned u/\gy (λ b=>b∈ah ρ hin) w.heap.size w w'/\(∀p∈hin,∀q∈hout,q.1=p.1->Bd (ρ' p.1) (ρ p.1))/\
   C2 (aB (ig w keep (λ b=>b∈ah ρ hin)) w' ρ' hout) r u/\(∀p∈hout,bn (aB (ig w keep (λ b=>b∈ah ρ hin)) w' ρ' hout) p.1 p.2)/\(ah ρ' hout).Nodup/\ ∀b∈ah ρ' hout,w.heap.size<=b\/b∈ah ρ hin
def bW(i:Nat):List (Nat×AO)->Bool
 |[]=>false
 |(k,_)::l=>Nat.beq k i||bW i l
def RQ(h:List (Nat×AO)):AV->Bool
 | .own i=>bW i h
 | .dP i .. =>bW i h
 | .jm i .. =>bW i h
 | .box i _=>bW i h
 | .cf _ i _=>bW i h
 |_=>true
def aax(h:List (Nat×AO)):AV->Bool
 | .agg cs=>cs.all (RQ h)
 | .fn _ cs=>cs.all (RQ h)
 |x=>RQ h x
def Vf(h:List (Nat×AO)):AV->Bool
 | .bJ vs=>vs.all (aax h)
 |x=>aax h x
def Vg(h:List (Nat×AO)):AO->Bool
 | .box _ cs=>cs.all (RQ h)
 | .row .. =>true
 | .mp _ ks _=>ks.all λ p=>match p.2 with|some i=>bW i h|none=>true
 | .obs _=>true
 | .rn _ cs=>cs.all (RQ h)
def iF(h:List (Nat×AO)):List (Nat×AO)->Bool
 |[]=>true
 |(_,o)::l=>Vg h o&&iF h l
def uq(d:Nat)(hin:List (Nat×AO)):List (Nat×AO)->Bool
 |[]=>true
 |(k,_)::l=>(bW k hin||Nat.beq k d)&&uq d hin l
def KI:AV->Bool
 | .bJ _=>false
 |_=>true
def sN(d:Nat)(hin:List (Nat×AO)):List (Nat×AO)->List (Nat×AO)
 |[]=>[]
 |(k,o)::l=>bif Nat.beq k d||bW k hin then sN d hin l else(k,o)::sN d hin l
def AS.Oz(st:AS)(d:Nat)(hin hout:List (Nat×AO)):AS:=⟨qw (rU d) st.sl,hout++nK d (sN d hin st.heap),st.back.map (qw (rU d)),Nat.add d 1⟩
def RS(st:AS):List (Nat×AO)->Prop
 |[]=>True
 |(k,o)::l=>aQ k st.heap=some o/\RS st l
def ok0(d:Option Nat):AV->Bool
 | .v _=>true
 | .sl .. =>true
 | .own i=>(match d with|some j=>Nat.beq i j|none=>false)
 |_=>false
def ok1(d:Option Nat):AV->Bool
 | .agg cs=>cs.all (ok0 d)
 |x=>ok0 d x
def ok2(d:Option Nat):AV->Bool
 | .bJ vs=>vs.all (ok1 d)
 |x=>ok1 d x
def Vh:AV->Bool
 | .sl .. =>false
 |_=>true
def Vj:AV->Bool
 | .agg cs=>cs.all Vh
 |x=>Vh x
def mJ:AV->Bool
 | .bJ vs=>vs.all Vj
 |x=>Vj x
def Jd(st:AS):AV->AS
 | .own id=>match aQ id st.heap with|some (.row _ s n sc f)=>st.freeze id s n sc f|_=>st
 |_=>st
def G5(st:AS):AV->AS
 | .agg cs=>cs.foldl Jd st
 |x=>Jd st x
def sO(st:AS)(l:List AV):AS:=l.foldl G5 st
inductive jK where
 |normal|exit (id:Nat)|ret
abbrev Walk:=Nat->Nat->Code->(jK->AS->Prop)->AS->Prop
def hd0(x:AV)(K:AV->Prop):Prop:=
 match x with
 | .v y=>K (.v y)
 | .agg cs=>K (.agg cs)
 | .bJ vs=>K (.bJ vs)
 | .sl s n sc f=>K (.sl s n sc f)
 | .own i=>K (.own i)
 | .dP i s j k=>K (.dP i s j k)
 | .jm i s j k=>K (.jm i s j k)
 | .box i k=>K (.box i k)
 | .cf g i k=>K (.cf g i k)
 | .el cs k=>K (.el cs k)
 | .fn g cs=>K (.fn g cs)
 | .junk=>K .junk
def Eb:List AV->(List AV->Prop)->Prop
 |[],K=>K []
 |x::l,K=>hd0 x (λ x=>Eb l (λ r=>K (x::r)))
def hd1(x:AV)(K:AV->Prop):Prop:=
 match x with
 | .v y=>K (.v y)
 | .agg cs=>Eb cs (λ cs=>K (.agg cs))
 | .bJ vs=>K (.bJ vs)
 | .sl s n sc f=>K (.sl s n sc f)
 | .own i=>K (.own i)
 | .dP i s j k=>K (.dP i s j k)
 | .jm i s j k=>K (.jm i s j k)
 | .box i k=>K (.box i k)
 | .cf g i k=>K (.cf g i k)
 | .el cs k=>Eb cs (λ cs=>K (.el cs k))
 | .fn g cs=>Eb cs (λ cs=>K (.fn g cs))
 | .junk=>K .junk
def YD:List AV->(List AV->Prop)->Prop
 |[],K=>K []
 |x::l,K=>hd1 x (λ x=>YD l (λ r=>K (x::r)))
def hd2(x:AV)(K:AV->Prop):Prop:=
 match x with
 | .v y=>K (.v y)
 | .agg cs=>Eb cs (λ cs=>K (.agg cs))
 | .bJ vs=>YD vs (λ vs=>K (.bJ vs))
 | .sl s n sc f=>K (.sl s n sc f)
 | .own i=>K (.own i)
 | .dP i s j k=>K (.dP i s j k)
 | .jm i s j k=>K (.jm i s j k)
 | .box i k=>K (.box i k)
 | .cf g i k=>K (.cf g i k)
 | .el cs k=>Eb cs (λ cs=>K (.el cs k))
 | .fn g cs=>Eb cs (λ cs=>K (.fn g cs))
 | .junk=>K .junk
theorem aay(x:AV)(K:AV->Prop):hd0 x K=K x:=by cases x<;>rfl
theorem zG:∀(l:List AV)(K:List AV->Prop),Eb l K=K l
 |[],_=>rfl
 |x::l,K=>by simp only[Eb,aay,zG l]
theorem aaz(x:AV)(K:AV->Prop):hd1 x K=K x:=by cases x<;>first|rfl|exact zG _ _
theorem Qr:∀(l:List AV)(K:List AV->Prop),YD l K=K l
 |[],_=>rfl
 |x::l,K=>by simp only[YD,aaz,Qr l]
theorem Je(x:AV)(K:AV->Prop):hd2 x K=K x:=by cases x<;>first|rfl|exact zG _ _|exact Qr _ _
def RU(lv k:Nat):Bool:=Nat.beq (Nat.land (Nat.shiftRight lv k) 1) 1
def Jf(lv:Nat):List (Nat×AV)->List (Nat×AV)
 |[]=>[]
 |(k,v)::l=>bif RU lv k then(k,v)::Jf lv l else Jf lv l
def Vk(lv:Nat):List (Nat×AV)->(List (Nat×AV)->Prop)->Prop
 |[],K=>K []
 |(k,v)::l,K=>bif RU lv k then hd2 v (λ v=>Vk lv l (λ r=>K ((k,v)::r)))else Vk lv l K
def Vl:List (Nat×AV)->(List (Nat×AV)->Prop)->Prop
 |[],K=>K []
 |(k,v)::l,K=>hd2 v (λ v=>Vl l (λ r=>K ((k,v)::r)))
def RV:List (ByteArray×Option Nat)->(List (ByteArray×Option Nat)->Prop)->Prop
 |[],K=>K []
 |(k,some i)::l,K=>RV l (λ r=>K ((k,some i)::r))
 |(k,none)::l,K=>RV l (λ r=>K ((k,none)::r))
theorem Jg:∀(l:List (ByteArray×Option Nat))(K:List (ByteArray×Option Nat)->Prop),RV l K=K l
 |[],_=>rfl
 |(k,some i)::l,K=>by simp only[RV,Jg l]
 |(k,none)::l,K=>by simp only[RV,Jg l]
def vM:List (Nat×AO)->(List (Nat×AO)->Prop)->Prop
 |[],K=>K []
 |(i,.box t cs)::l,K=>Eb cs (λ cs=>vM l (λ r=>K ((i,.box t cs)::r)))
 |(i,.row e s n sc f)::l,K=>match sc with
  |true=>vM l (λ r=>K ((i,.row e s n true f)::r))
  |false=>vM l (λ r=>K ((i,.row e s n false f)::r))
 |(i,.mp t ks rs)::l,K=>RV ks (λ ks=>vM l (λ r=>K ((i,.mp t ks rs)::r)))
 |(i,.obs o)::l,K=>vM l (λ r=>K ((i,.obs o)::r))
 |(i,.rn e cs)::l,K=>Eb cs (λ cs=>vM l (λ r=>K ((i,.rn e cs)::r)))
def Qs:List (List (Nat×AV))->(List (List (Nat×AV))->Prop)->Prop
 |[],K=>K []
 |f::fs,K=>Vl f (λ f=>Qs fs (λ r=>K (f::r)))
def AS.yC(st:AS)(lv:Nat):AS:=⟨Jf lv st.sl,st.heap,st.back,st.base⟩
def nrm(lv:Nat)(st:AS)(K:AS->Prop):Prop:=match st with|⟨sl,hp,bk,b⟩=>Vk lv sl (λ l=>vM hp (λ h=>Qs bk (λ bk=>K ⟨l,h,bk,b⟩)))
def xW(st:AS)(K:AS->Prop):Prop:=match st with|⟨sl,hp,bk,b⟩=>Vl sl (λ l=>vM hp (λ h=>K ⟨l,h,bk,b⟩))
theorem Jh(lv:Nat):∀(l:List (Nat×AV))(K:List (Nat×AV)->Prop),Vk lv l K=K (Jf lv l)
 |[],_=>rfl
 |(k,v)::l,K=>by
  simp only[Vk,Jf];cases RU lv k with
  |true=>simp only[cond_true,Je,Jh lv l]
  |false=>simp only[cond_false,Jh lv l]
theorem Ji:∀(l:List (Nat×AV))(K:List (Nat×AV)->Prop),Vl l K=K l
 |[],_=>rfl
 |(k,v)::l,K=>by simp only[Vl,Je,Ji l]
theorem qU:∀(l:List (Nat×AO))(K:List (Nat×AO)->Prop),vM l K=K l
 |[],_=>rfl
 |(i,.box t cs)::l,K=>by simp only[vM,zG,qU l]
 |(i,.row e s n true f)::l,K=>by simp only[vM,qU l]
 |(i,.row e s n false f)::l,K=>by simp only[vM,qU l]
 |(i,.mp t ks rs)::l,K=>by simp only[vM,Jg,qU l]
 |(i,.obs o)::l,K=>by simp only[vM,qU l]
 |(i,.rn e cs)::l,K=>by simp only[vM,zG,qU l]
theorem KJ:∀(l:List (List (Nat×AV)))(K:List (List (Nat×AV))->Prop),Qs l K=K l
 |[],_=>rfl
 |f::fs,K=>by simp only[Qs,Ji,KJ fs]
theorem Jj(lv:Nat)(st:AS)(K:AS->Prop):nrm lv st K=K (st.yC lv):=by cases st;simp only[nrm,Jh,qU,KJ];rfl
theorem Qu(st:AS)(K:AS->Prop):xW st K=K st:=by cases st;simp only[xW,Ji,qU]
def aae(L:Lay)(st:AS):ResultVar->(AV->Prop)->Prop
 | .tmp t,K=>K (st.tmps t)
 | .cell p t,K=>Qp L st t (st.tmps p) K
def Vm(L:Lay)(st:AS):List ResultVar->(List AV->Prop)->Prop
 |[],K=>K []
 |r::rs,K=>aae L st r (λ x=>Vm L st rs (λ xs=>K (x::xs)))
def KL:AV->AV
 | .bJ _=> .junk
 |x=>x
def qO(L:Lay)(st:AS)(rs:List ResultVar)(K:AV->Prop):Prop:=
 Vm L st rs (λ xs=>match xs with|[x]=>K x|xs=>K (.bJ (xs.map KL)))
def zH:Nat->List AV->List (Nat×AV)
 |_,[]=>[]
 |k,x::l=>(k,x)::zH (k+1) l
def start(bD:List AV):AS:=⟨zH 0 bD,[],[],0⟩
def AS.into(st:AS)(bD:List AV):AS:=⟨zH 0 bD,st.heap,st.sl::st.back,st.base⟩
def Qv(st:AS)(bD:List AV)(K:AS->Prop):Prop:=match st with|⟨sl,h,bk,b⟩=>K ⟨zH 0 bD,h,sl::bk,b⟩
theorem Vo(st:AS)(bD:List AV)(K:AS->Prop):Qv st bD K=K (st.into bD):=by
 obtain⟨sl,h,bk,b⟩:=st;rfl
def AS.out(st:AS):AS:=match st.back with|f::r=>⟨f,st.heap,r,st.base⟩|[]=>st
inductive fV(P:Program)(L:Lay)(W:Walk)(d:Nat)(f:FuncId)(bD:List AV)(st:AS)(K:AV->AS->Prop):Prop where
 |inl (lv:Nat) (fn:Func) (c:Code) (hf:P.funcs[f]? =some fn) (hn:(fn.name== "runtime.NumGoroutine")=false) (hb:fn.body=some c) (hsz:Nat.ble bD.length fn.ntmps=true)
   (h:Qv st bD (W fn.ntmps lv c (λ e st'=>match e with| .exit _=>False| .normal=>qO L st' fn.results.toList (λ x=>xW (st'.out) (K x))| .ret=>qO L st' fn.results.toList (λ x=>xW (st'.out) (K x))))):fV P L W d f bD st K
 |Oz (hin hout:List (Nat×AO)) (r:AV) (hs:au P f hin bD r hout) (hh:RS st hin) (hb:(rV (hin.map (·.1))&&bD.all KI&&iF hout hout&&Vf hout r&&uq d hin hout)=true):K r (st.Oz d hin hout)->fV P L W d f bD st K
 |plain (bs:List AV) (r:AV) (hs:aC P f bs r []) (hsub:Ea st.heap bD bs) (hr:ok2 none r=true):K r (bif mJ r then st else sO st bD)->fV P L W d f bD st K
 |fresh (bs:List AV) (r:AV) (e:TypeId) (s n:Nat) (sc:Bool) (g:Nat->List AV) (hs:aC P f bs r [(d,.row e s n sc g)]) (hsub:Ea st.heap bD bs) (hr:ok2 (some d) r=true):
   K r ((bif mJ r&&sc then st else sO st bD).obj d d (.row e s n sc g))->fV P L W d f bD st K
 |sem (hE:Enters P f) (h:∀(g:Base)(N:Nat)(bs:List (Array Value))(ρ:Nat->Value)(a:Act)(w:World)(args:List Value),Rel g N bs ρ a w st->aN (C2 (aB g w ρ st.heap)) bD args->
   Calls P f args.toArray w λ e w'=> ∃u x st' ρ',e= .returned u/\K x st'/\Rel g N bs ρ' a w' st'/\C2 (aB g w' ρ' st'.heap) x u):fV P L W d f bD st K
def Vp:AV->Bool
 | .own _=>false
 |_=>true
def Vq:AV->Bool
 | .agg cs=>cs.all Vp
 |x=>Vp x
inductive YE(k:ByteArray)(ks:List (ByteArray×Option Nat))(K:Nat->Nat->Prop):Prop where
 |mk (i id:Nat) (k':ByteArray) (h:ks[i]? =some (k',some id)) (hk:k=k') (hK:K i id):YE k ks K
def Jk(L:Lay)(d:Nat)(st:AS)(t:TypeId)(m ix:AV)(K:AV->AS->Prop):Prop:=
 match aV L t,ix,m with
 |some ti,.v (.string k),.own id=>(match ti.kind with
  | .map kt et=>(match aV L kt,aV L et with
    |some ki,some ei=>(match ki.kind,ei.kind with
     | .str,.slice e=>(match aV L e with
       |some ee=>bif Nat.ble 1 ee.size then(match aQ id (st.obj d d (.row e ee.size 0 true (λ _=>[]))).heap with
        |some (.mp t' ks rs)=>YE k ks (λ i _=>K (.bJ []) ⟨(st.obj d d (.row e ee.size 0 true (λ _=>[]))).sl,setObj id (.mp t' (ks.set i (k,some d)) rs) (st.obj d d (.row e ee.size 0 true (λ _=>[]))).heap,(st.obj d d (.row e ee.size 0 true (λ _=>[]))).back,(st.obj d d (.row e ee.size 0 true (λ _=>[]))).base⟩)
        |_=>False)else False
       |none=>False)
     |_,_=>False)
    |_,_=>False)
  |_=>False)
 |_,_,_=>False
def aaA(x y:AV)(K:AV->Prop):Prop:=
 match x,y with
 | .v (.int k a),.v (.int _ b)=>K (.v (.int k (if b<a then b else a)))
 |_,_=>False
def aaB(x y:AV)(K:AV->Prop):Prop:=
 match x,y with
 | .v (.int k a),.v (.int _ b)=>K (.v (.int k (if b>a then b else a)))
 |_,_=>False
def KC(lo k:Nat)(f g:Nat->List AV):Nat->List AV:=kJ lo f (kJ k g (λ i=>f (lo+k+i)))
def aaC(L:Lay)(st:AS)(s:Nat)(t:TypeId)(y:AV)(K:Nat->Bool->(Nat->List AV)->Prop):Prop:=
 match y with
 | .jm id s1 lo m=>(match aV L t with
   |some ti=>(match ti.kind,aQ id st.heap with
    | .slice _,some (.row _ s' r sc f)=>bif Nat.beq s s1&&Nat.beq s s' then RJ (lo+m<=r) (K m sc (λ i=>f (lo+i)))else False
    |_,_=>False)
   |none=>False)
 |y=>match Qq L st s t y with|some (n,sc',g)=>K n sc' g|none=>False
def Vr(L:Lay)(st:AS)(t tx:TypeId)(x y:AV)(K:AV->AS->Prop):Prop:=
 match aV L t with
 |some ti=>match ti.kind with
  | .slice e=>match aV L e with
    |some ei=>bif Nat.ble 1 ei.size then aaC L st ei.size tx y (λ n sc' g=>match x with
       | .own id=>(match aQ id st.heap with
      |some (.row e' s m sc f)=>bif Nat.beq s ei.size then RJ (n<=m) (K (.v (.int .i64 (n:Int))) ⟨st.sl,setObj id (.row e' s m (sc&&sc') (KC 0 n f g)) st.heap,st.back,st.base⟩)else False
      |_=>False)
       | .jm id s lo m=>(match aQ id st.heap with
      |some (.row e' s' r sc f)=>bif Nat.beq s ei.size&&Nat.beq s' s then RJ (n<=m/\lo+m<=r) (K (.v (.int .i64 (n:Int))) ⟨st.sl,setObj id (.row e' s' r (sc&&sc') (KC lo n f g)) st.heap,st.back,st.base⟩)else False
      |some (.box t' cs)=>bif Nat.beq s 1&&Nat.ble n m&&Nat.ble (lo+n*ei.size) cs.length then K (.v (.int .i64 (n:Int))) ⟨st.sl,setObj id (.box t' (splice cs lo (flat n g))) st.heap,st.back,st.base⟩else False
      |_=>False)
       |_=>False)else False
    |none=>False
  |_=>False
 |none=>False
def OA(L:Lay)(st:AS)(t:TypeId)(x:AV)(K:AV->AS->Prop):Prop:=
 match aV L t with
 |some ti=>match ti.kind,x with
  | .slice _,.v (.slice none _ _)=>K (.v undef) st
  | .slice e,.jm id s lo m=>(match aV L e with
    |some ei=>(match aQ id st.heap with
     |some (.row e' s' r sc f)=>bif Nat.beq s ei.size&&Nat.beq s' s&&Nat.beq ei.zero.length ei.size&&Nat.ble 1 ei.size&&ei.zero.all (λ x=>x.oneCell')then RJ (lo+m<=r) (K (.v undef) ⟨st.sl,setObj id (.row e' s' r sc (KC lo m f (λ _=>ei.zero.map .v))) st.heap,st.back,st.base⟩)else False
     |_=>False)
    |none=>False)
  |_,_=>False
 |none=>False
def vN(L:Lay)(d:Nat)(st:AS)(b:Builtin)(ts:List TypeId)(xs:List AV)(K:AV->AS->Prop):Prop:=
 match b,ts,xs with
 | .len,[t],[x]=>aaw L st t x (λ y=>K y st)
 | .append,[t,tx],[x,y]=>Jc L d st t tx x y K
 | .min,_,[x,y]=>aaA x y (λ z=>K z st)
 | .max,_,[x,y]=>aaB x y (λ z=>K z st)
 | .delete,[t,_],[x,y]=>Jk L d st t x y K
 | .copy,[t,tx],[x,y]=>Vr L st t tx x y K
 | .clear,[t],[x]=>OA L st t x K
 |_,_,_=>False
structure ZN(P:Program)(t:TypeId)(A:Prop):Prop where
 mk::
 z:∀w,(zeroValue t).run P w= .ok (.slice none 0 0) w
 k:A
def rowB(h:List (Nat×AO))(i:Nat):Bool:=match aQ i h with|some (.row ..)=>true|_=>false
def Jl(P:Program)(L:Lay)(st:AS)(t:TypeId)(x ix:AV)(K:AV->Prop):Prop:=
 match aV L t,ix with
 |some ti,.v (.string k)=>(match ti.kind with
  | .map kt et=>(match aV L kt with
    |some ki=>(match ki.kind,x with
     | .str,.own id=>(match aQ id st.heap with
       |some (.mp _ ks _)=>ZN P et (YE k ks (λ _ i=>bif rowB st.heap i then K (.own i)else False))
       |_=>False)
     | .str,.v (.map none)=>ZN P et (K (.v (.slice none 0 0)))
     |_,_=>False)
    |none=>False)
  |_=>False)
 |_,_=>False
def yD(L:Lay)(st:AS)(t:TypeId)(m ix x:AV)(K:AS->Prop):Prop:=
 match aV L t,ix,m,x with
 |some ti,.v (.string k),.own id,.own j=>(match ti.kind with
  | .map kt _=>(match aV L kt with
    |some ki=>(match ki.kind,aQ id st.heap,aQ j st.heap with
     | .str,some (.mp t' ks rs),some (.row _ _ n _ _)=>RJ (0<n) (YE k ks (λ i _=>K ⟨st.sl,setObj id (.mp t' (ks.set i (k,some j)) rs) st.heap,st.back,st.base⟩))
     |_,_,_=>False)
    |none=>False)
  |_=>False)
 |_,_,_,_=>False
inductive abH(K:List ByteArray->Prop):Prop where
 |mk (keys:List ByteArray) (hn:keys.Nodup) (h:K keys):abH K
def Qw(e:TypeId)(s:Nat):List ByteArray->AS->List (ByteArray×Option Nat)->(List (ByteArray×Option Nat)->AS->Prop)->Prop
 |[],st,acc,K=>K acc st
 |k::r,st,acc,K=>nameOf st (λ d=>Qw e s r (st.obj d d (.row e s 0 true (λ _=>[]))) (acc++[(k,some d)]) K)
def Ec(L:Lay)(st:AS)(t:TypeId)(K:AV->AS->Prop):Prop:=
 match aV L t with
 |some ti=>(match ti.kind with
  | .map kt et=>(match aV L kt,aV L et with
    |some ki,some ei=>(match ki.kind,ei.kind with
     | .str,.slice e=>(match aV L e with
       |some ee=>bif Nat.ble 1 ee.size then abH (λ keys=>Qw e ee.size keys st [] (λ ks st'=>nameOf st' (λ d=>K (.own d) (st'.obj d d (.mp t ks [])))))else False
       |none=>False)
     |_,_=>False)
    |_,_=>False)
  |_=>False)
 |none=>False
def Qx(L:Lay)(t:TypeId):Bool:=match aV L t with
 |some ti=>(match ti.kind with
  | .map kt _=>(match aV L kt with|some ki=>(match ki.kind with| .str=>true|_=>false)|none=>false)
  |_=>false)
 |none=>false
def lS:Op->Bool
 | .move _=>true
 | .assign _=>true
 | .pick .. =>true
 | .load .. =>true
 | .fieldAddr .. =>true
 | .field .. =>true
 | .indexAddr .. =>true
 | .index .. =>true
 | .extract .. =>true
 | .build .. =>true
 | .binOp .. =>true
 | .unOp .. =>true
 | .convert .. =>true
 | .nilCheck _=>true
 | .sliceToArrayPointer .. =>true
 | .lookup _ _ _ false=>true
 | .call {callee:= .builtin .len,.. }=>true
 | .call {callee:= .builtin .min,.. }=>true
 | .call {callee:= .builtin .max,.. }=>true
 |_=>false
def RX(st:AS):AV->Bool
 | .v (.map none)=>true
 | .own id=>(match aQ id st.heap with|some (.obs _)=>true|_=>false)
 | .box id _=>(match aQ id st.heap with|some (.obs _)=>true|_=>false)
 |_=>false
def aaD(st:AS):Op->Bool
 | .load _ p=>RX st (st.ev p)
 | .store _ p _=>RX st (st.ev p)
 | .indexAddr _ x _=>RX st (st.ev x)
 | .lookup _ x _ _=>RX st (st.ev x)
 | .mapUpdate _ m _ _=>RX st (st.ev m)
 | .call c=>(match c.callee with| .builtin _=>(match c.args.toList with|x::_=>RX st (st.ev x)|[]=>false)|_=>false)
 |_=>false
inductive Vs(P:Program)(st:AS)(op:Op)(K:AV->AS->Prop):Prop where
 |q (x:AV) (hK:K x st) (h:∀(g:Base)(N:Nat)(bs:List (Array Value))(ρ:Nat->Value)(a:Act)(w:World)(o:Oper),o.op=op->Rel g N bs ρ a w st-> ∃u,C2 (aB g w ρ st.heap) x u/\(execOp a.eval o).run P w= .ok (.value u) w)
 |mk (hq:lS op=false) (h:∀(g:Base)(N:Nat)(bs:List (Array Value))(ρ:Nat->Value)(a:Act)(w:World)(o:Oper)(next:Act->World->Prop)(Q:Exit->Act->World->Prop),o.op=op->Rel g N bs ρ a w st->
   (∀x st' u ρ' w',K x st'->Rel g N bs ρ' a w' st'->C2 (aB g w' ρ' st'.heap) x u->next (a.put o.dst u) w')->o.wp P a w next Q)
def Qy(P:Program)(L:Lay)(W:Walk)(_d:Nat)(st:AS)(op:Op)(K:AV->AS->Prop):Prop:=
 bif aaD st op then Vs P st op K else
 match op with
 | .move x=>K (st.ev x) st
 | .assign x=>K (st.ev x) st
 | .pick c a b=>match st.ev c with| .v (.bool t)=>K (match t with|true=>st.ev a|false=>st.ev b) st|_=>False
 | .alloc t=>match aV L t with|some i=>nameOf st (λ d=>K (.box d 0) (st.obj d d (.box t (i.zero.map .v))))|none=>False
 | .box t x=>match(st.ev x).cells? with|some cs=>bif cs.all (vg st.heap)then nameOf st (λ d=>K (.box d 0) (st.obj d d (.box t cs)))else False|none=>False
 | .load t p=>Qp L st t (st.ev p) (λ y=>K y st)
 | .store t p x=>Oq L st t (st.ev p) (st.ev x) (λ st'=>K (.v undef) st')
 | .fieldAddr t x i=>nO L t (st.ev x) i (λ y=>K y st)
 | .field t x i=>Ot L t (st.ev x) i (λ y=>K y st)
 | .indexAddr t x i=>yB L st t (st.ev x) (st.ev i) (λ y=>K y st)
 | .index t x i=>Ou L t (st.ev x) (st.ev i) (λ y=>K y st)
 | .extract x i=>D6 (st.ev x) i (λ y=>K y st)
 | .build t parts=>Bg L st.heap t (parts.toList.map λ p=>(p.1,st.ev p.2)) (λ y=>K y st)
 | .buildSlice t n parts=>nameOf st (λ d=>bif (parts.toList.map λ p=>st.ev p.2).all Vq then qR L d st t n (parts.toList.map λ p=>(p.1,st.ev p.2)) K else xW (sO st (parts.toList.map λ p=>st.ev p.2)) (λ st'=>qR L d st' t n (parts.toList.map λ p=>(p.1,st'.ev p.2)) K))
 | .binOp o t x y _=>aav P L o t (st.ev x) (st.ev y) (λ z=>K z st)
 | .unOp o _ x=>aun o (st.ev x) (λ z=>K z st)
 | .convert s t x=>D7 L st s t (st.ev x) (λ z=>K z st)
 | .slice t x lo hi mx=>aslice L st t (st.ev x) (lo.map st.ev) (hi.map st.ev) (mx.map st.ev) K
 | .nilCheck x=>match(st.ev x).U5 with| .box i k=>K (.box i k) st| .fn g cs=>K (.fn g cs) st|_=>False
 | .makeFunc (.func g) first caps=>match first.toList with
   |[]=>bif (caps.toList.map st.ev).all (vg st.heap)then K (.fn g (caps.toList.map st.ev)) st else False
   |x::r=>match st.ev x with| .box id off=>bif Nat.blt g million&&r.isEmpty&&caps.toList.isEmpty then K (.cf (Nat.add g million) id off) st else False|_=>False
 | .call c=>match c.callee with
   | .builtin b=>nameOf st (λ d=>vN L d st b c.argTypes.toList (c.args.toList.map st.ev) K)
   | .value x=>match(st.ev x).U5 with
     | .fn g caps=>nameOf st (λ d=>fV P L W d g (c.args.toList.map st.ev++caps) st K)
     | .cf g id off=>bif Nat.blt g million then False else nameOf st (λ d=>fV P L W d (Nat.sub g million) (.box id off::c.args.toList.map st.ev) st K)
     |_=>False
   |_=>False
 | .makeSlice t l c=>nameOf st (λ d=>Ve L d st t (st.ev l) (st.ev c) K)
 | .sliceToArrayPointer t x=>Ox L t (st.ev x) (λ y=>K y st)
 | .lookup t x i false=>Jl P L st t (st.ev x) (st.ev i) (λ y=>K y st)
 | .mapUpdate t m i x=>yD L st t (st.ev m) (st.ev i) (st.ev x) (λ st'=>K (.v undef) st')
 | .makeMap t none=>bif Qx L t then Ec L st t K else Vs P st (.makeMap t none) K
 |_=>Vs P st op K
def zI(b:Bool)(A B:Prop):Prop:=match b with|true=>A|false=>B
theorem zI.mk{B:Prop}(h1:b=true->A)(h2:b=false->B):zI b A B:=by cases b;exact h2 rfl;exact h1 rfl
theorem zI.dec[Decidable p]{B:Prop}(h1:p->A)(h2:¬p->B):zI (decide p) A B:=by
 by_cases h:p
 ·rw[decide_eq_true h];exact h1 h
 ·rw[decide_eq_false h];exact h2 h
theorem zI.yes{B:Prop}(h:b=true)(a:A):zI b A B:=by rw[h];exact a
theorem zI.no{B:Prop}(h:b=false)(a:B):zI b A B:=by rw[h];exact a
def force(x:AV)(K:AV->Prop):Prop:=
 match x with
 | .v (.bool b)=>zI b (K (.v (.bool true))) (K (.v (.bool false)))
 | .v y=>K (.v y)
 | .agg cs=>K (.agg cs)
 | .bJ vs=>K (.bJ vs)
 | .sl s n sc f=>K (.sl s n sc f)
 | .own i=>K (.own i)
 | .dP i s j k=>K (.dP i s j k)
 | .jm i s j k=>K (.jm i s j k)
 | .box i k=>K (.box i k)
 | .cf g i k=>K (.cf g i k)
 | .el cs k=>K (.el cs k)
 | .fn g cs=>K (.fn g cs)
 | .junk=>K .junk
theorem force_eq(x:AV)(K:AV->Prop):force x K=K x:=by
 cases x with
 |v y=>
  cases y with
  |bool b=>cases b<;>rfl
  |_=>rfl
 |_=>rfl
def pI(N:Nat)(st:AS)(d:Option Tmp)(x:AV)(K:AS->Prop):Prop:=
 match d with
 |some d=>bif Nat.ble (d+1) N then force x (λ x=>match st with|⟨sl,h,bk,b⟩=>K ⟨(d,x)::sl,h,bk,b⟩)else False
 |none=>K st
def zJ(P:Program)(L:Lay)(W:Walk)(dst:Option Tmp)(st:AS)(op:Op)(K:AV->AS->Prop):Prop:=
 match dst with
 |some d=>Qy P L W d st op K
 |none=>Qy P L W 0 st op K
def vk(P:Program)(L:Lay)(W:Walk)(N:Nat)(ops:List Oper)(Q:AS->Prop):List Oper->AS->Prop
 |[],st=>Q st
 |⟨dst,op,_,_,_,guard⟩::rest,st=>
  match guard with
  |none=>zJ P L W dst st op (λ x st'=>pI N st' dst x (vk P L W N ops Q rest))
  |some (j,want)=>match(ops[j]?).bind (·.dst)with
   |some dj=>bif Nat.ble (dj+1) N then(match st.tmps dj with
    | .v (.bool b)=>(match b==want with
    |true=>zJ P L W dst st op (λ x st'=>pI N st' dst x (vk P L W N ops Q rest))
    |false=>pI N st dst (.v undef) (vk P L W N ops Q rest))
    | .v (.tuple _)=>pI N st dst (.v undef) (vk P L W N ops Q rest)
    |_=>False)else False
   |none=>False
def bI(x y:AV):Prop:= ∀(X:CX)(u:Value),C2 X x u->C2 X y u
def fP(o o':AO):Prop:= ∀(X:CX)(id:Nat),bn X id o->bn X id o'
theorem bI.refl(x:AV):bI x x:=λ _ _ h=>h
theorem fP.refl(o:AO):fP o o:=λ _ _ h=>h
def yE:List (List (Nat×AV))->List (List (Nat×AV))->Prop
 |[],[]=>True
 |f::fs,h::hs=>(∀t,xU h t= .junk\/bI (xU f t) (xU h t))/\yE fs hs
 |_,_=>False
theorem yE.refl:∀fs,yE fs fs
 |[]=>trivial
 |_::fs=>⟨λ _=> .inr (bI.refl _),yE.refl fs⟩
structure LeS(st S:AS):Prop where
 tm:∀t,S.tmps t= .junk\/bI (st.tmps t) (S.tmps t)
 hp:∀p∈S.heap,∃o,aQ p.1 st.heap=some o/\fP o p.2
 nd:(S.heap.map (·.1)).Nodup
 bk:yE st.back S.back
def LeT(st:AS):List (Nat×AV)->Prop
 |[]=>True
 |p::l=>bI (st.tmps p.1) p.2/\LeT st l
def LeH(st:AS):List (Nat×AO)->Prop
 |[]=>True
 |p::l=>(∃o,aQ p.1 st.heap=some o/\fP o p.2)/\LeH st l
def nodupB:List Nat->Bool
 |[]=>true
 |x::l=> !(l.any (Nat.beq x))&&nodupB l
theorem oI:∀{l:List Nat},nodupB l=true->l.Nodup
 |[],_=>List.nodup_nil
 |x::l,h=>by
  simp only[nodupB,Bool.and_eq_true,Bool.not_eq_true']at h;refine List.nodup_cons.2 ⟨λ hx=> ?_,oI h.2⟩;have:=List.any_eq_false.1 h.1 x hx;simp at this
theorem LeS.mk'{st:AS}(l:List (Nat×AV))(h:List (Nat×AO))(ht:LeT st l)(hh:LeH st h)(hn:nodupB (h.map (·.1))=true):LeS st ⟨l,h,st.back,st.base⟩:=by
 refine⟨λ t=> ?_,λ p hp=> ?_,oI hn,yE.refl _⟩
 ·induction l with
  |nil=>exact .inl rfl
  |cons p l ih=>
   show xU (p::l) t= .junk\/bI (st.tmps t) (xU (p::l) t);simp only[xU];cases hb:Nat.beq t p.1 with
   |true=>
    obtain rfl:=Nat.eq_of_beq_eq_true hb;exact .inr ht.1
   |false=>exact ih ht.2
 ·induction h with
  |nil=>cases hp
  |cons q h ih=>
   rcases List.mem_cons.1 hp with rfl|hp'
   ·exact hh.1
   ·exact ih hh.2 (by simp only[List.map_cons,nodupB,Bool.and_eq_true]at hn;exact hn.2) hp'
def jV:List (Nat×Nat)->Nat->Option Nat
 |[],_=>none
 |(k,i)::r,x=>bif Nat.beq x k then some i else jV r x
def RY:List (Nat×Nat)->Nat->Bool
 |[],_=>false
 |(_,i)::r,x=>Nat.beq x i||RY r x
def kK(σ:List (Nat×Nat))(k:Nat):Option Nat:=match jV σ k with|some i=>some i|none=>bif RY σ k then none else some k
def pJ(σ:List (Nat×Nat)):AV->AV
 | .v x=> .v x
 | .agg cs=> .agg cs
 | .bJ vs=> .bJ vs
 | .sl s n sc f=> .sl s n sc f
 | .own id=>match kK σ id with|some i=> .own i|none=> .junk
 | .dP id s i k=>match kK σ id with|some j=> .dP j s i k|none=> .junk
 | .jm id s i k=>match kK σ id with|some j=> .jm j s i k|none=> .junk
 | .box id off=>match kK σ id with|some i=> .box i off|none=> .junk
 | .cf g id off=>match kK σ id with|some i=> .cf g i off|none=> .junk
 | .el cs k=> .el cs k
 | .fn g cs=> .fn g cs
 | .junk=> .junk
def KN(σ:List (Nat×Nat)):AV->AV
 | .v x=> .v x
 | .agg cs=> .agg (cs.map (pJ σ))
 | .bJ vs=> .bJ vs
 | .sl s n sc f=> .sl s n sc f
 | .own id=>match kK σ id with|some i=> .own i|none=> .junk
 | .dP id s i k=>match kK σ id with|some j=> .dP j s i k|none=> .junk
 | .jm id s i k=>match kK σ id with|some j=> .jm j s i k|none=> .junk
 | .box id off=>match kK σ id with|some i=> .box i off|none=> .junk
 | .cf g id off=>match kK σ id with|some i=> .cf g i off|none=> .junk
 | .el cs k=> .el cs k
 | .fn g cs=> .fn g (cs.map (pJ σ))
 | .junk=> .junk
def Bj(σ:List (Nat×Nat)):AV->AV
 | .v x=> .v x
 | .agg cs=> .agg (cs.map (pJ σ))
 | .bJ vs=> .bJ (vs.map (KN σ))
 | .sl s n sc f=> .sl s n sc f
 | .own id=>match kK σ id with|some i=> .own i|none=> .junk
 | .dP id s i k=>match kK σ id with|some j=> .dP j s i k|none=> .junk
 | .jm id s i k=>match kK σ id with|some j=> .jm j s i k|none=> .junk
 | .box id off=>match kK σ id with|some i=> .box i off|none=> .junk
 | .cf g id off=>match kK σ id with|some i=> .cf g i off|none=> .junk
 | .el cs k=> .el cs k
 | .fn g cs=> .fn g (cs.map (pJ σ))
 | .junk=> .junk
def jE(σ:List (Nat×Nat)):List (ByteArray×Option Nat)->List (ByteArray×Option Nat)
 |[]=>[]
 |(k,some i)::l=>(k,kK σ i)::jE σ l
 |(k,none)::l=>(k,none)::jE σ l
theorem wY(σ:List (Nat×Nat)):∀ks:List (ByteArray×Option Nat),(jE σ ks).map (·.1)=ks.map (·.1)
 |[]=>rfl
 |(k,some i)::l=>by simp[jE,wY σ l]
 |(k,none)::l=>by simp[jE,wY σ l]
theorem jD.ren{ρ ρ':Nat->Value}{σ:List (Nat×Nat)}(h:∀k i,kK σ k=some i->ρ' i=ρ k):∀{ks:List (ByteArray×Option Nat)}{vs:List Value},jD ρ ks vs->jD ρ' (jE σ ks) vs
 |[],_,k=>k
 |(k,some i)::l,vs,⟨v,r,e,hi,hr⟩=>⟨v,r,e,λ j hj=>by rw[h i j hj];exact hi _ rfl,jD.ren h hr⟩
 |(k,none)::l,vs,⟨v,r,e,_,hr⟩=>⟨v,r,e,λ j hj=>(by cases hj),jD.ren h hr⟩
def AO.ren(σ:List (Nat×Nat)):AO->AO
 | .box t cs=> .box t (cs.map (pJ σ))
 | .row e s n sc f=> .row e s n sc f
 | .mp t ks rs=> .mp t (jE σ ks) rs
 | .obs o=> .obs o
 | .rn e cs=> .rn e (cs.map (pJ σ))
def iU(σ:List (Nat×Nat)):List (Nat×AO)->List (Nat×AO)
 |[]=>[]
 |(k,o)::h=>match kK σ k with|some i=>(i,o.ren σ)::iU σ h|none=>iU σ h
def AS.ren(st:AS)(σ:List (Nat×Nat)):AS:=⟨qw (Bj σ) st.sl,iU σ st.heap,st.back.map (qw (Bj σ)),st.base⟩
structure iw(σ:List (Nat×Nat))(st S:AS):Prop where
 nd:nodupB (σ.map (·.2))=true
 le:LeS (st.ren σ) S
def RZ(st S:AS):Prop:= ∀(g:Base)(N:Nat)(bs:List (Array Value))(ρ:Nat->Value)(a:Act)(w:World),Rel g N bs ρ a w st-> ∃ρ',Rel g N bs ρ' a w S
theorem RZ.refl(st:AS):RZ st st:=λ _ _ _ ρ _ _ R=>⟨ρ,R⟩
theorem RZ.trans{a b c:AS}(h:RZ a b)(k:RZ b c):RZ a c:=λ g N bs ρ a w R=>by
 obtain⟨Vt,R1⟩:=h g N bs ρ a w R;exact k g N bs Vt a w R1
def zK(body:(jK->AS->Prop)->AS->Prop)(Q:jK->AS->Prop):Nat->AS->Prop
 |0,_=>False
 |n+1,st=>body (λ e st'=>match e with| .normal=>zK body Q n st'| .exit i=>Q (.exit i) st'| .ret=>Q .ret st') st
inductive aK(body:(jK->AS->Prop)->AS->Prop)(Q:jK->AS->Prop):AS->Prop where
 |mk {st:AS} (X:Type) (S:X->AS) (m:X->Nat) (x0:X) (σ:List (Nat×Nat)) (h0:iw σ st (S x0))
  (hb:∀x,body (λ e st'=>match e with| .normal=> ∃y σ,iw σ st' (S y)/\m y<m x| .exit i=>Q (.exit i) st'| .ret=>Q .ret st') (S x)):aK body Q st
 |rounds {st:AS} (n:Nat) (h:zK body Q n st):aK body Q st
 |nil {st:AS} (t d:Nat) (e:TypeId) (s:Nat) (f:Nat->List AV) (ht:st.tmps t= .v (.slice none 0 0)) (hs:0<s) (h:aK body Q ((st.obj d d (.row e s 0 true f)).put t (.own d))):aK body Q st
 |Vu {st:AS} (id k d:Nat) (e:TypeId) (s:Nat) (f:Nat->List AV) {t:TypeId} {cs:List AV} (hs:0<s) (hf:aQ id (st.obj d d (.row e s 0 true f)).heap=some (.box t cs)) (hk:cs[k]? =some (.v (.slice none 0 0)))
   (h:aK body Q ⟨(st.obj d d (.row e s 0 true f)).sl,setObj id (.box t (cs.set k (.own d))) (st.obj d d (.row e s 0 true f)).heap,(st.obj d d (.row e s 0 true f)).back,(st.obj d d (.row e s 0 true f)).base⟩):aK body Q st
 |G5 {st:AS} (id:Nat) {e:TypeId} {s n:Nat} {sc:Bool} {f:Nat->List AV} (hf:aQ id st.heap=some (.row e s n sc f)) (h:aK body Q (st.freeze id s n sc f)):aK body Q st
 |imp {st:AS} (S:AS) (h0:RZ st S) (h:aK body Q S):aK body Q st
 |mkI {st:AS} (X:Type) (S:X->AS) (m:X->Nat) (x0:X) (h0:RZ st (S x0))
  (hb:∀x,body (λ e st'=>match e with| .normal=> ∃y,RZ st' (S y)/\m y<m x| .exit i=>Q (.exit i) st'| .ret=>Q .ret st') (S x)):aK body Q st
inductive acC(body:AS->Prop)(st:AS):Prop where
 |mk (S:AS) (h0:LeS st S) (hb:body S):acC body st
inductive kG(P:Program)(L:Lay)(W:Walk)(N:Nat)(id:Nat)(ops:Array Oper)(K:AS->Prop)(st:AS):Prop where
 |quiet (hm:P.follows .mixedOrders=true) (hB:Region.lexB .any ops=true) (hq:ops.toList.all (λ o=>lS o.op)=true) (h:vk P L W N ops.toList K ops.toList st):kG P L W N id ops K st
 |sem (h:∀(g:Base)(bs:List (Array Value))(ρ:Nat->Value)(a:Act)(w:World)(E:Exit->Act->World->Prop),Rel g N bs ρ a w st->(∀ρ a w st,Rel g N bs ρ a w st->K st->E .normal a w)->(Code.region id ops true).wp P E a w):kG P L W N id ops K st
def qOf(g:Base)(N:Nat)(bs:List (Array Value))(Q:jK->AS->Prop)(E:Exit->Act->World->Prop):Prop:=
 (∀ρ a w st,Rel g N bs ρ a w st->Q .normal st->E .normal a w)/\(∀i ρ a w st,Rel g N bs ρ a w st->Q (.exit i) st->E (.exit i) a w)/\(∀ρ a w st,Rel g N bs ρ a w st->Q .ret st->E .ret a w)
inductive abI(P:Program)(N:Nat)(c:Code)(Q:jK->AS->Prop)(st:AS):Prop where
 |mk (h:∀(g:Base)(bs:List (Array Value))(E:Exit->Act->World->Prop)(ρ:Nat->Value)(a:Act)(w:World),qOf g N bs Q E->Rel g N bs ρ a w st->c.wp P E a w):abI P N c Q st
def kD(P:Program)(L:Lay)(W:Walk)(N lv:Nat):Code->(jK->AS->Prop)->AS->Prop
 | .skip,Q,st=>Q .normal st
 | .region id ops draw,Q,st=>match draw with|false=>vk P L W N ops.toList (λ st'=>nrm lv st' (Q .normal)) ops.toList st|true=>kG P L W N id ops (λ st'=>nrm lv st' (Q .normal)) st
 | .seq a b,Q,st=>kD P L W N lv a (λ e st'=>match e with| .normal=>kD P L W N lv b Q st'| .exit i=>Q (.exit i) st'| .ret=>Q .ret st') st
 | .cond c a b,Q,st=>match st.ev c with| .v (.bool t)=>(match t with|true=>kD P L W N lv a Q st|false=>kD P L W N lv b Q st)|_=>False
 | .block id c,Q,st=>kD P L W N lv c (λ e st'=>match e with| .normal=>Q .normal st'| .exit i=>(bif Nat.beq i id then Q .normal st' else Q (.exit i) st')| .ret=>Q .ret st') st
 | .exit id,Q,st=>Q (.exit id) st
 | .ret,Q,st=>Q .ret st
 | .loop c,Q,st=>aK (kD P L W N lv c) Q st
 |c,Q,st=>abI P N c Q st
def Cm(P:Program)(L:Lay):Nat->Walk
 |0=>λ _ _ _ _ _=>False
 |n+1=>λ N lv c Q st=>kD P L (Cm P L n) N lv c Q st
def YF(h:List (Nat×AO))(id d:Nat):AV->AV
 | .own i=>bif Nat.beq i id then .own d else Gt h (.own i)
 |x=>Gt h x
def aaE(h:List (Nat×AO))(id d:Nat):AV->AV
 | .agg cs=> .agg (cs.map (YF h id d))
 |x=>YF h id d x
def abJ(h:List (Nat×AO))(id d:Nat):AV->AV
 | .bJ vs=> .bJ (vs.map (aaE h id d))
 |x=>aaE h id d x
def Si(h:List (Nat×AO)):AV->AV
 | .bJ vs=> .bJ (vs.map (Oy h))
 |x=>Oy h x
inductive aO(st:AS)(x:AV):AV->List (Nat×AO)->Prop where
 |plain (r:AV) (hr:bI (Si st.heap x) r):aO st x r []
 |own (id d:Nat) (r:AV) (e:TypeId) (s n:Nat) (sc:Bool) (f:Nat->List AV) (o':AO) (hf:aQ id st.heap=some (.row e s n sc f)) (ho:fP (.row e s n sc f) o') (hr:bI (abJ st.heap id d x) r):aO st x r [(d,o')]
 |nil (d:Nat) (e:TypeId) (s:Nat) (f:Nat->List AV) (hx:x= .v (.slice none 0 0)) (hs:0<s):aO st x (.own d) [(d,.row e s 0 true f)]
def KO(L:Lay)(fn:Func)(r:AV)(h:List (Nat×AO)):jK->AS->Prop
 | .normal,st=>qO L st fn.results.toList (λ x=>aO st x r h)
 | .ret,st=>qO L st fn.results.toList (λ x=>aO st x r h)
 | .exit _,_=>False
theorem jk{L:Lay}(hL:bQ P L){t:TypeId}{i:TI}(h:aV L t=some i):
  ∃info z d,P.info? t=some info/\P.underlying t=some d/\info.zero=some z/\info.size=i.size/\info.bytes=i.bytes/\z.cells.toList=i.zero/\kindOf d=i.kind:=by
 have hf:=hL t i h;unfold Oo at hf;split at hf
 ·rename_i info d h1 h2;cases hz:info.zero with
  |none=>rw[hz]at hf;cases hf
  |some z=>
   rw[hz]at hf;simp only[Option.map_some,Option.some.injEq]at hf;subst hf;exact⟨info,z,d,h1,h2,hz,rfl,rfl,rfl,rfl⟩
 ·cases hf
section
variable{P:Program}{L:Lay}
theorem iy(hL:bQ P L){t:TypeId}{i:TI}(h:aV L t=some i)(w:World):(sizeOf t).run P w= .ok i.size w:=by
 obtain⟨info,z,d,h1,h2,h3,h4,_⟩:=jk hL h;simp[sizeOf,typeInfo,h1,h4]
theorem nP(hL:bQ P L){t:TypeId}{i:TI}(h:aV L t=some i)(w:World):(isAgg t).run P w= .ok i.isAgg w:=by
 obtain⟨info,z,d,h1,h2,h3,h4,h5,h6,h7⟩:=jk hL h;unfold isAgg;rw[Sem.run_bind,run_underlying h2 w];unfold TI.isAgg;rw[<-h7];cases d<;>rfl
theorem zL(hL:bQ P L){t:TypeId}{i:TI}(h:aV L t=some i)(w:World):∃z,(zeroValue t).run P w= .ok z w/\z.cells.toList=i.zero:=by
 obtain⟨info,z,d,h1,h2,h3,h4,h5,h6,h7⟩:=jk hL h;exact⟨z,by simp[zeroValue,typeInfo,h1,h3],h6⟩
theorem C2.dN{X:CX}{x u:Value}(h:C2 X (.v x) u):u=x:=h
theorem C2.aaF{X:CX}{g:FuncId}{id k:Nat}{u:Value}(h:C2 X (.cf g id k) u):∃b,fM (X.ρ id)= .pointer (some ⟨b,0,none⟩)/\u=Yy g (.pointer (some ⟨b,k,none⟩)):=h
theorem C2.lK{X:CX}{id k:Nat}{u:Value}(h:C2 X (.box id k) u):∃b,fM (X.ρ id)= .pointer (some ⟨b,0,none⟩)/\u= .pointer (some ⟨b,k,none⟩):=h
theorem C2.OC{X:CX}{cs:List AV}{k:Nat}{u:Value}(h:C2 X (.el cs k) u):∃b o us,u= .pointer (some ⟨b,o+k,none⟩)/\X.keep b/\aN (PC X.w X.keep) cs us/\ ∀(j:Nat)(y:Value),us[j]? =some y->X.w.cell? ⟨b,o+j,none⟩=some y:=h
theorem C2.zM{X:CX}{id s i k:Nat}{u:Value}(h:C2 X (.dP id s i k) u):∃b n c,X.ρ id= .slice (some ⟨b,0,none⟩) n c/\u= .pointer (some ⟨b,i*s+k,none⟩):=h
theorem C2.qV{X:CX}{id s i m:Nat}{u:Value}(h:C2 X (.jm id s i m) u):(∃b c,oZ (fM (X.ρ id))=[b]/\m<=c/\u= .slice (some ⟨b,i*s,none⟩) m c)\/(m=0/\ ∃A c,u= .slice A 0 c):=h
theorem C2.qW{X:CX}{cs:List AV}{u:Value}(h:C2 X (.agg cs) u):∃us,u= .agg us.toArray/\aN (C0 X) cs us:=h
theorem C2.zN{X:CX}{vs:List AV}{u:Value}(h:C2 X (.bJ vs) u):∃us,u= .tuple us.toArray/\aN (C1 X) vs us:=h
theorem C2.Bl{X:CX}{g:FuncId}{vs:List AV}{u:Value}(h:C2 X (.fn g vs) u):∃us,u= .func (.func g) #[] us.toArray/\aN (C0 X) vs us:=h
theorem C2.uw{X:CX}{s n:Nat}{sc:Bool}{f:Nat->List AV}{u:Value}(h:C2 X (.sl s n sc f) u):PC X.w X.keep (.sl s n sc f) u:=h
theorem C2.kW{X:CX}{id:Nat}{u:Value}(h:C2 X (.own id) u):u=fM (X.ρ id):=h
theorem aN.vs{X:CX}:∀us:List Value,aN (C0 X) (us.map .v) us
 |[]=>aN.nil
 |u::us=>aN.cons (show C0 X (.v u) u from rfl) (aN.vs us)
variable{g:Base}{N:Nat}{bs:List (Array Value)}{ρ:Nat->Value}{a:Act}{w:World}{st:AS}
theorem Rel.ev(R:Rel g N bs ρ a w st)(x:Operand):C2 (aB g w ρ st.heap) (st.ev x) (a.eval x):=by
 cases x with
 |tmp t=>exact R.tmps t
 |const v=>
  cases v with
  |agg cs=>exact⟨cs.toList,by simp[Act.eval],aN.vs _⟩
  |_=>rfl
 |global g=>trivial
 |func f=>exact⟨[],rfl,aN.nil⟩
theorem jW{o:Oper}{next:Act->World->Prop}{Q:Exit->Act->World->Prop}{u:Value}{w':World}(hrun:(execOp a.eval o).run P w= .ok (.value u) w')(h:next (a.put o.dst u) w'):o.wp P a w next Q:=by
 unfold Oper.wp;rw[hrun];exact h
theorem Jm(hL:bQ P L){t:TypeId}{i:TI}(hi:aV L t=some i){X:CX}{cs:List AV}{k:Nat}{K:AV->Prop}(h:ld i cs k K){b o:Nat}{us:List Value}(ha:aN (C0 X) cs us)
  (hc:∀(j:Nat)(y:Value),us[j]? =some y->X.w.cell? ⟨b,o+j,none⟩=some y):∃x u,K x/\C2 X x u/\(loadVar t ⟨b,o+k,none⟩).run P X.w= .ok u X.w:=by
 unfold ld at h;cases hg:i.isAgg with
 |true=>
  rw[hg]at h;simp only[cond_true]at h;cases hb:Nat.ble (k+i.size) cs.length with
  |false=>rw[hb]at h;exact h.elim
  |true=>
   rw[hb]at h;have hle:=Nat.le_of_ble_eq_true hb;refine⟨_,.agg ((us.drop k).take i.size).toArray,h,⟨_,rfl,(ha.drop k).take i.size⟩, ?_⟩;have hlen:((us.drop k).take i.size).length=i.size:=by rw[List.length_take,List.length_drop,<-ha.1];omega
   have hl:=run_loadCells_list (P:=P) X.w ⟨b,o+k,none⟩ ((us.drop k).take i.size) (λ j v hv=>by
    rw[Addr.add_lit];rw[List.getElem?_take]at hv;split at hv
    ·rw[List.getElem?_drop]at hv;rw[Nat.add_assoc];exact hc _ _ hv
    ·cases hv)
   rw[hlen]at hl;simp only[loadVar,Sem.run_bind,nP hL hi,hg,Result.andThen_ok,if_true,iy hL hi,hl,Sem.run_pure]
 |false=>
  rw[hg]at h;simp only[cond_false]at h;cases hb:Nat.ble (k+1) cs.length with
  |false=>rw[hb]at h;exact h.elim
  |true=>
   rw[hb]at h;have hle:=Nat.le_of_ble_eq_true hb;have hx:cs[k]? =some (cs.getD k .junk):=by simp[List.getD,List.getElem?_eq_getElem (show k<cs.length by omega)]
   obtain⟨u,hu,hr⟩:=ha.get hx;refine⟨_,u,h,C2.sH hr, ?_⟩;have:=hc _ _ hu;simp[loadVar,Sem.run_bind,nP hL hi,hg,this]
theorem wZ(hL:bQ P L)(R:Rel g N bs ρ a w st){t:TypeId}{p:AV}{pv:Value}(hp:C2 (aB g w ρ st.heap) p pv){K:AV->Prop}(h:Qp L st t p K):
  ∃x u,K x/\C2 (aB g w ρ st.heap) x u/\(Instr.loadAt t pv).run P w= .ok u w:=by
 unfold Qp at h;cases hi:aV L t with
 |none=>rw[hi]at h;exact h.elim
 |some i=>
  rw[hi]at h;cases p with
  |box id k=>
   obtain⟨b,hb,rfl⟩:=C2.lK hp;dsimp only at h;cases hf:aQ id st.heap with
   |none=>rw[hf]at h;exact h.elim
   |some o=>
    rw[hf]at h;cases o with
    |row=>exact h.elim
    |mp=>exact h.elim
    |obs=>exact h.elim
    |rn=>exact h.elim
    |box t' cs=>
     obtain⟨b',us,e,hh,ha⟩:=R.objs _ (aA hf);have hb:fM (ρ id)=_:=hb;have e:ρ id=_:=e;rw[e]at hb;cases hb;obtain⟨x,u,hk,hc,hr⟩:=Jm hL hi h (o:=0) ha (λ j y hy=>by
      rw[cell_of_row _ _ _ _ _ _ hh];simpa using hy)
     refine⟨x,u,hk,hc, ?_⟩;simpa[Instr.loadAt,Instr.sureAddr,aB]using hr
  |el cs k=>
   obtain⟨b,o,us,rfl,kb,ha,hc⟩:=C2.OC hp;obtain⟨x,u,hk,hc,hr⟩:=Jm hL hi h (ha.imp λ _ _=>C0.KG) hc;refine⟨x,u,hk,hc, ?_⟩;simpa[Instr.loadAt,Instr.sureAddr,aB]using hr
  |dP id s j k=>
   obtain⟨b,n,c,hb,rfl⟩:=C2.zM hp;dsimp only at h;cases hf:aQ id st.heap with
   |none=>rw[hf]at h;exact h.elim
   |some o=>
    rw[hf]at h;cases o with
    |box=>exact h.elim
    |mp=>exact h.elim
    |obs=>exact h.elim
    |rn e cs=>
     dsimp only at h;cases hs:Nat.beq s 1 with
     |false=>rw[hs]at h;exact h.elim
     |true=>
      rw[hs]at h;obtain rfl:=Nat.eq_of_beq_eq_true hs;simp only[cond_true]at h;obtain⟨us,⟨hown,_⟩,ha⟩:=R.objs _ (aA hf);have hb:ρ id=_:=hb;have hown:w.ownsRow 0 e 1 (ρ id) cs.length us:=hown;rw[hb]at hown;have hcell:=hown.cells (g:=b) rfl;obtain⟨x,u,hk,hc,hr⟩:=Jm (X:=aB g w ρ st.heap) hL hi h (o:=0) ha (λ i y hy=>by
       have:=hcell _ _ hy;rwa [Addr.add_lit]at this)
      refine⟨x,u,hk,hc, ?_⟩;simpa[Instr.loadAt,Instr.sureAddr,aB]using hr
    |row e s' m sc f=>
     dsimp only at h;cases hs:Nat.beq s s' with
     |false=>rw[hs]at h;exact h.elim
     |true=>
      rw[hs]at h;obtain rfl:=Nat.eq_of_beq_eq_true hs;simp only[cond_true]at h;cases hj:Nat.ble (j+1) m with
      |false=>rw[hj]at h;exact h.elim
      |true=>
       rw[hj]at h;have hjm:=Nat.le_of_ble_eq_true hj;obtain⟨us,hown,hs0,hfl,hsc,ha⟩:=R.objs _ (aA hf);have hb:ρ id=_:=hb;have hown:w.ownsRow 0 e s (ρ id) m us:=hown;rw[hb]at hown;have hcell:=hown.cells (g:=b) rfl;obtain⟨hseg⟩:aN (PC w (aI g w ρ st.heap)) (f j) ((us.drop (j*s)).take s)/\True:=⟨seg ha hfl (by omega),trivial⟩;obtain⟨x,u,hk,hc,hr⟩:=Jm (X:=aB g w ρ st.heap) hL hi h (o:=j*s) (hseg.imp λ _ _=>C0.KG (X:=aB g w ρ st.heap)) (λ i y hy=>by
        rw[List.getElem?_take]at hy;split at hy
        ·rw[List.getElem?_drop]at hy;have:=hcell _ _ hy;rwa [Addr.add_lit,Nat.zero_add]at this
        ·cases hy)
       refine⟨x,u,hk,hc, ?_⟩;simpa[Instr.loadAt,Instr.sureAddr,aB]using hr
  |_=>exact h.elim
where
 seg {R:AV->Value->Prop} {s:Nat}:∀{n:Nat}{f:Nat->List AV}{us:List Value}{j:Nat},aN R (flat n f) us->(∀i,i<n->(f i).length=s)->j<n->aN R (f j) ((us.drop (j*s)).take s)
  |0,_,_,_,_,_,h=>absurd h (by omega)
  |n+1,f,us,0,ha,hl,_=>by
   have h:=ha.take s;have e:(flat (n+1) f).take s=f 0:=by
    show(f 0++_).take s=_;rw[<-hl 0 (by omega)];exact List.take_left
   rw[e]at h;simpa using h
  |n+1,f,us,j+1,ha,hl,hj=>by
   have h:=ha.drop s;have e:(flat (n+1) f).drop s=flat n (λ i=>f (i+1)):=by
    show(f 0++_).drop s=_;rw[<-hl 0 (by omega)];exact List.drop_left
   rw[e]at h;have:=seg (j:=j) h (λ i hi=>hl (i+1) (by omega)) (by omega);rw[List.drop_drop,show s+j*s=(j+1)*s by rw[Nat.succ_mul];omega]at this;exact this
end
section
variable{P:Program}{L:Lay}{g:Base}{N:Nat}{bs:List (Array Value)}{ρ:Nat->Value}{a:Act}{w:World}{st:AS}
theorem lF{P:Program}{L:Lay}(hL:bQ P L){t:TypeId}{i:TI}{fs:List (Nat×TypeId)}(h:aV L t=some i)(hk:i.kind= .struct fs):
  ∃fields:Array Field,P.underlying t=some (.struct fields)/\fields.toList.map (λ f=>(f.offset,f.type))=fs:=by
 obtain⟨info,z,d,h1,h2,h3,h4,h5,h6,h7⟩:=jk hL h;rw[hk]at h7;cases d<;>simp only[kindOf]at h7<;>first|(cases h7;done)|skip
 rename_i fields;exact⟨fields,h2,by injection h7⟩
theorem oJ{P:Program}{L:Lay}(hL:bQ P L){t:TypeId}{i:TI}{n:Nat}{e:TypeId}(h:aV L t=some i)(hk:i.kind= .array n e):P.underlying t=some (.array n e):=by
 obtain⟨info,z,d,h1,h2,h3,h4,h5,h6,h7⟩:=jk hL h;rw[hk]at h7;cases d<;>simp only[kindOf]at h7<;>cases h7;exact h2
theorem bY{P:Program}{L:Lay}(hL:bQ P L){t:TypeId}{i:TI}{e:TypeId}(h:aV L t=some i)(hk:i.kind= .slice e):P.underlying t=some (.slice e):=by
 obtain⟨info,z,d,h1,h2,h3,h4,h5,h6,h7⟩:=jk hL h;rw[hk]at h7;cases d<;>simp only[kindOf]at h7<;>cases h7;exact h2
theorem rW{P:Program}{L:Lay}(hL:bQ P L){t:TypeId}{i:TI}(h:aV L t=some i)(hk:i.kind= .str):P.underlying t=some .string:=by
 obtain⟨info,z,d,h1,h2,h3,h4,h5,h6,h7⟩:=jk hL h;rw[hk]at h7;cases d<;>simp only[kindOf]at h7<;>cases h7;exact h2
theorem yF{P:Program}{L:Lay}(hL:bQ P L){t:TypeId}{i:TI}{k:IntKind}(h:aV L t=some i)(hk:i.kind= .int k):P.underlying t=some (.int k):=by
 obtain⟨info,z,d,h1,h2,h3,h4,h5,h6,h7⟩:=jk hL h;rw[hk]at h7;cases d<;>simp only[kindOf]at h7<;>cases h7;exact h2
theorem Ee{fields:Array Field}{fs:List (Nat×TypeId)}(hf:fields.toList.map (λ f=>(f.offset,f.type))=fs){i o:Nat}{ft:TypeId}(h:fs[i]? =some (o,ft)):∃f,fields[i]? =some f/\f.offset=o/\f.type=ft:=by
 rw[<-hf,List.getElem?_map]at h;cases hx:fields.toList[i]? with
 |none=>rw[hx]at h;cases h
 |some f=>
  rw[hx]at h;simp only[Option.map_some,Option.some.injEq,Prod.mk.injEq]at h;exact⟨f,by simpa using hx,h.1,h.2⟩
theorem vO(hL:bQ P L){X:CX}{t:TypeId}{p:AV}{pv:Value}{i:Nat}(hp:C2 X p pv){K:AV->Prop}(h:nO L t p i K)(w:World):
  ∃x u,K x/\C2 X x u/\(Instr.fieldAt t pv i).run P w= .ok u w:=by
 unfold nO at h;split at h
 ·rename_i ti hti;split at h
  ·rename_i fs hk;split at h
   ·rename_i o ft hfs;split at h
    ·rename_i fi hfi;obtain⟨fields,hu,hmap⟩:=lF hL hti hk;obtain⟨f,hf,ho,hft⟩:=Ee hmap hfs;cases hs:Nat.ble 1 fi.size with
     |false=>rw[hs]at h;exact h.elim
     |true=>
      rw[hs]at h;have h1:=Nat.le_of_ble_eq_true hs;have OD:∀a:Addr,(fieldPlace a f).run P w= .ok (a.add f.offset) w:=by
       intro a;have:=iy hL hfi w;rw[<-hft]at this;simp only[fieldPlace,Sem.run_bind,this,Result.andThen_ok];rw[if_neg (by omega)];rfl
      cases p with
      |box id k=>
       obtain⟨b,hb,rfl⟩:=C2.lK hp;refine⟨_,.pointer (some ⟨b,k+o,none⟩),h,⟨b,hb,rfl⟩, ?_⟩;simp[Instr.fieldAt,run_underlying hu,hf,Instr.sureAddr,OD,ho,Addr.add_lit]
      |el cs k=>
       obtain⟨b,oo,us,rfl,kb,ha,hc⟩:=C2.OC hp;refine⟨_,.pointer (some ⟨b,oo+(k+o),none⟩),h,⟨b,oo,us,rfl,kb,ha,hc⟩, ?_⟩;simp[Instr.fieldAt,run_underlying hu,hf,Instr.sureAddr,OD,ho,Addr.add_lit,Nat.add_assoc]
      |dP id s j k=>
       obtain⟨b,n,c,hb,rfl⟩:=C2.zM hp;refine⟨_,.pointer (some ⟨b,j*s+(k+o),none⟩),h,⟨b,n,c,hb,rfl⟩, ?_⟩;simp[Instr.fieldAt,run_underlying hu,hf,Instr.sureAddr,OD,ho,Addr.add_lit,Nat.add_assoc]
      |_=>exact h.elim
    ·exact h.elim
   ·exact h.elim
  ·exact h.elim
 ·exact h.elim
theorem KP(hL:bQ P L){t:TypeId}{i:TI}(hi:aV L t=some i){X:CX}{cs:List AV}{k:Nat}{K:AV->Prop}(h:ld i cs k K){us:List Value}(ha:aN (C0 X) cs us)(w:World):
  ∃x u,K x/\C2 X x u/\(part t us.toArray k).run P w= .ok u w:=by
 unfold ld at h;cases hg:i.isAgg with
 |true=>
  rw[hg]at h;simp only[cond_true]at h;cases hb:Nat.ble (k+i.size) cs.length with
  |false=>rw[hb]at h;exact h.elim
  |true=>
   rw[hb]at h;refine⟨_,.agg ((us.drop k).take i.size).toArray,h,⟨_,rfl,(ha.drop k).take i.size⟩, ?_⟩;simp only[part,Sem.run_bind,nP hL hi,hg,Result.andThen_ok,if_true,iy hL hi,Sem.run_pure];congr 2;apply Array.ext';simp
 |false=>
  rw[hg]at h;simp only[cond_false]at h;cases hb:Nat.ble (k+1) cs.length with
  |false=>rw[hb]at h;exact h.elim
  |true=>
   rw[hb]at h;have hle:=Nat.le_of_ble_eq_true hb;have hx:cs[k]? =some (cs.getD k .junk):=by simp[List.getD,List.getElem?_eq_getElem (show k<cs.length by omega)]
   obtain⟨u,hu,hr⟩:=ha.get hx;refine⟨_,u,h,C2.sH hr, ?_⟩;simp[part,Sem.run_bind,nP hL hi,hg,hu]
theorem Ef(hL:bQ P L){X:CX}{t:TypeId}{p:AV}{pv:Value}{i:Nat}(hp:C2 X p pv){K:AV->Prop}(h:Ot L t p i K)(w:World):
  ∃x u,K x/\C2 X x u/\(Instr.field t pv i).run P w= .ok u w:=by
 unfold Ot at h;split at h
 ·rename_i ti cs hti;split at h
  ·rename_i fs hk;split at h
   ·rename_i o ft hfs;split at h
    ·rename_i fi hfi;obtain⟨fields,hu,hmap⟩:=lF hL hti hk;obtain⟨f,hf,ho,hft⟩:=Ee hmap hfs;obtain⟨us,rfl,ha⟩:=C2.qW hp;obtain⟨x,u,hk',hc,hr⟩:=KP hL hfi h ha w;refine⟨x,u,hk',hc, ?_⟩;rw[<-ho,<-hft]at hr;simp[Instr.field,run_underlying hu,hf,asAgg,hr]
    ·exact h.elim
   ·exact h.elim
  ·exact h.elim
 ·exact h.elim
theorem jc{n:Int}{m:Nat}(h:inB n m=true):0<=n/\n<(m:Int):=by simpa[inB]using h
theorem PC.at{R:AV->Value->Prop}{s n:Nat}{f:Nat->List AV}{us:List Value}{j:Nat}(h:aN R (flat n f) us)(hl:∀i,i<n->(f i).length=s)(hj:j<n):aN R (f j) ((us.drop (j*s)).take s):=wZ.seg h hl hj
theorem mM(hL:bQ P L)(R:Rel g N bs ρ a w st){t:TypeId}{x ix:AV}{xv iv:Value}(hx:C2 (aB g w ρ st.heap) x xv)(hix:C2 (aB g w ρ st.heap) ix iv){K:AV->Prop}(h:yB L st t x ix K):
  ∃y u,K y/\C2 (aB g w ρ st.heap) y u/\(Instr.indexAt t xv iv).run P w= .ok u w:=by
 unfold yB at h;simp only[Bf,U6]at h;split at h
 ·rename_i ti kk n hti;obtain rfl:=C2.dN hix;split at h
  ·rename_i e hk;have hu:=bY hL hti hk;split at h
   ·rename_i ei pK;have hsz:=iy hL pK w;split at h
    ·rename_i s m sc f;cases hs:Nat.beq s ei.size with
     |false=>rw[hs]at h;exact h.elim
     |true=>
      rw[hs]at h;obtain rfl:=Nat.eq_of_beq_eq_true hs;simp only[cond_true]at h;cases hb:inB n m with
      |false=>rw[hb]at h;exact h.elim
      |true=>
       rw[hb]at h;obtain⟨h0,h1⟩:=jc hb;have hpc:=C2.uw hx;cases hpc with
       |sl _ _ _ _ A c us hs0 hn hc hl hf hsc hu' hr=>
        rcases hr with hz|⟨b,o,rfl,kb,hcell⟩
        ·omega
        ·have hj:n.toNat<m:=by omega
         have hseg:=PC.at (j:=n.toNat) (R:=PC w (aI g w ρ st.heap)) ⟨by rw[hl];exact flat_length hf,hu'⟩ hf hj;refine⟨_,.pointer (some ⟨b,o+n.toNat*ei.size,none⟩),h,⟨b,o+n.toNat*ei.size,_,by rw[Nat.add_zero],kb,hseg, ?_⟩, ?_⟩
         ·intro j y hy;rw[List.getElem?_take]at hy;split at hy
          ·rw[List.getElem?_drop]at hy;rw[Nat.add_assoc];exact hcell _ _ hy
          ·cases hy
         ·simp[Instr.indexAt,asIntOf,run_underlying hu,h0,h1,hsz,Addr.add_lit]
    ·rename_i id;split at h
     ·rename_i e' s m sc f hfo;cases hs:Nat.beq s ei.size with
      |false=>rw[hs]at h;exact h.elim
      |true=>
       rw[hs]at h;obtain rfl:=Nat.eq_of_beq_eq_true hs;simp only[cond_true]at h;cases hb:inB n m with
       |false=>rw[hb]at h;exact h.elim
       |true=>
        rw[hb]at h;obtain⟨h0,h1⟩:=jc hb;obtain⟨us,hown,hs0,hfl,hsc,ha⟩:=R.objs _ (aA hfo);have hown:w.ownsRow 0 e' ei.size (ρ id) m us:=hown;have hxv:xv=ρ id:=(C2.kW hx).trans (iO hown);rcases hown.2 with⟨_,hz⟩|⟨b,cap,cur,hv,hB,hh,_⟩
        ·omega
        ·rw[hxv,hv];refine⟨_,.pointer (some ⟨b,n.toNat*ei.size,none⟩),h,⟨b,m,cap,hv,rfl⟩, ?_⟩;simp[Instr.indexAt,asIntOf,run_underlying hu,h0,h1,hsz,Addr.add_lit]
     ·rename_i e' cs hfo;cases hs:Nat.beq 1 ei.size with
      |false=>rw[hs]at h;exact h.elim
      |true=>
       rw[hs]at h;have hs1:=Nat.eq_of_beq_eq_true hs;simp only[cond_true]at h;cases hb:inB n cs.length with
       |false=>rw[hb]at h;exact h.elim
       |true=>
        rw[hb]at h;obtain⟨h0,h1⟩:=jc hb;obtain⟨us,⟨hown,_⟩,ha⟩:=R.objs _ (aA hfo);have hown:w.ownsRow 0 e' 1 (ρ id) cs.length us:=hown;have hxv:xv=ρ id:=(C2.kW hx).trans (iO hown);rcases hown.2 with⟨_,hz⟩|⟨b,cap,cur,hv,hB,hh,_⟩
        ·omega
        ·rw[hxv,hv];refine⟨_,.pointer (some ⟨b,n.toNat*1+0,none⟩),h,⟨b,cs.length,cap,hv,rfl⟩, ?_⟩;simp[Instr.indexAt,asIntOf,run_underlying hu,h0,h1,hsz,<-hs1,Addr.add_lit]
     ·exact h.elim
    ·exact h.elim
   ·exact h.elim
  ·rename_i m e hk;have hu:=oJ hL hti hk;split at h
   ·rename_i ei pK;have hsz:=iy hL pK w;cases hb:inB n m with
    |false=>rw[hb]at h;exact h.elim
    |true=>
     rw[hb]at h;obtain⟨h0,h1⟩:=jc hb;simp only[cond_true]at h;split at h
     ·rename_i id k;obtain⟨b,hbb,rfl⟩:=C2.lK hx;refine⟨_,.pointer (some ⟨b,k+n.toNat*ei.size,none⟩),h,⟨b,hbb,rfl⟩, ?_⟩;simp[Instr.indexAt,asIntOf,run_underlying hu,h0,h1,hsz,Addr.add_lit,Instr.sureAddr]
     ·rename_i cs k;obtain⟨b,o,us,rfl,kb,ha,hc⟩:=C2.OC hx;refine⟨_,.pointer (some ⟨b,o+(k+n.toNat*ei.size),none⟩),h,⟨b,o,us,rfl,kb,ha,hc⟩, ?_⟩;simp[Instr.indexAt,asIntOf,run_underlying hu,h0,h1,hsz,Addr.add_lit,Instr.sureAddr,Nat.add_assoc]
     ·rename_i id s j k;obtain⟨b,nn,c,hbb,rfl⟩:=C2.zM hx;refine⟨_,.pointer (some ⟨b,j*s+(k+n.toNat*ei.size),none⟩),h,⟨b,nn,c,hbb,rfl⟩, ?_⟩;simp[Instr.indexAt,asIntOf,run_underlying hu,h0,h1,hsz,Addr.add_lit,Instr.sureAddr,Nat.add_assoc]
     ·exact h.elim
   ·exact h.elim
  ·exact h.elim
 ·exact h.elim
where
 flat_length {s:Nat}:∀{n:Nat}{f:Nat->List AV},(∀i,i<n->(f i).length=s)->(flat n f).length=n*s
  |0,_,_=>by simp[flat]
  |n+1,f,h=>by
   show(f 0++_).length=_;rw[List.length_append,h 0 (by omega),flat_length (λ i hi=>h (i+1) (by omega)),Nat.succ_mul,Nat.add_comm]
theorem Eh(hL:bQ P L){X:CX}{t:TypeId}{x ix:AV}{xv iv:Value}(hx:C2 X x xv)(hix:C2 X ix iv){K:AV->Prop}(h:Ou L t x ix K)(w:World):
  ∃y u,K y/\C2 X y u/\(Instr.index t xv iv).run P w= .ok u w:=by
 unfold Ou at h;simp only[Bf,U6]at h;split at h
 ·rename_i ti kk n hti;obtain rfl:=C2.dN hix;split at h
  ·rename_i m e cs hk;have hu:=oJ hL hti hk;obtain⟨us,rfl,ha⟩:=C2.qW hx;split at h
   ·rename_i ei pK;cases hb:inB n m with
    |false=>rw[hb]at h;exact h.elim
    |true=>
     rw[hb]at h;obtain⟨h0,h1⟩:=jc hb;obtain⟨y,u,hk',hc,hr⟩:=KP hL pK h ha w;refine⟨y,u,hk',hc, ?_⟩;simp[Instr.index,asIntOf,run_underlying hu,h0,h1,iy hL pK,hr]
   ·exact h.elim
  ·rename_i s hk;have hu:=rW hL hti hk;obtain rfl:=C2.dN hx;cases hb:inB n s.size with
   |false=>rw[hb]at h;exact h.elim
   |true=>
    rw[hb]at h;obtain⟨h0,h1⟩:=jc hb;have hlt:n.toNat<s.size:=by omega
    refine⟨_,_,h,rfl, ?_⟩;have e1:s[n.toNat]? =some s[n.toNat]:=by simp[hlt]
    have e2:s.data.toList.getD n.toNat 0=s[n.toNat]:=by
     have hlt':n.toNat<s.data.toList.length:=by rw[Array.length_toList];exact hlt
     rw[List.getD,List.getElem?_eq_getElem hlt'];rfl
    rw[e2];simp[Instr.index,asIntOf,run_underlying hu,h0,e1]
  ·exact h.elim
 ·exact h.elim
theorem zO{X:CX}{x:AV}{xv:Value}(hx:C2 X x xv){i:Nat}{K:AV->Prop}(h:D6 x i K)(w:World):∃y u,K y/\C2 X y u/\(Instr.extract xv i).run P w= .ok u w:=by
 unfold D6 at h;split at h
 ·rename_i vs;obtain⟨us,rfl,ha⟩:=C2.zN hx;split at h
  ·rename_i y hy;obtain⟨u,hu,hc⟩:=ha.get hy;exact⟨y,u,h,C2.kF hc,by simp[Instr.extract,hu]⟩
  ·exact h.elim
 ·exact h.elim
end
section
variable{P:Program}{L:Lay}{g:Base}{N:Nat}{bs:List (Array Value)}{ρ:Nat->Value}{a:Act}{w:World}{st:AS}
theorem Wr.out{n:Int}{K:Int->Prop}{k:IntKind}(h:Wr n K k):K (k.wrap n):=by
 cases h with
 |i64 h0 h1 h=>rw[IntWalk.i64_in n (by omega)];exact h
 |u64 h0 h1 h=>rw[IntWalk.u64_in n (by omega)];exact h
 |u32 h0 h1 h=>rw[IntWalk.u32_in n (by omega)];exact h
 |u8 h0 h1 h=>rw[IntWalk.u8_in n (by omega)];exact h
 |raw k h=>exact h
theorem lD.out{p A B:Prop}(h:lD p A B)[Decidable p]:if p then A else B:=by
 split
 ·rename_i hp;exact h.1 hp
 ·rename_i hp;exact h.2 hp
theorem Vw{op:BinOp}{x y:Int}{K:AV->Prop}(h:aas op x y K)(w:World):∃b,K (.v (.bool b))/\(Op.intCmp op x y).run P w= .ok (.bool b) w:=by
 cases op<;>simp only[aas]at h<;>first|(exact h.elim)|skip
 ·obtain⟨h1,h2⟩:=h;by_cases e:x=y
  ·exact⟨true,h1 e,by simp[Op.intCmp,e]⟩
  ·exact⟨false,h2 e,by simp[Op.intCmp,e]⟩
 ·obtain⟨h1,h2⟩:=h;by_cases e:x=y
  ·exact⟨false,h1 e,by simp[Op.intCmp,e]⟩
  ·exact⟨true,h2 e,by simp[Op.intCmp,e]⟩
 ·obtain⟨h1,h2⟩:=h;by_cases e:x<y
  ·exact⟨true,h1 e,by simp[Op.intCmp,e]⟩
  ·exact⟨false,h2 e,by simp[Op.intCmp,e]⟩
 ·obtain⟨h1,h2⟩:=h;by_cases e:x<=y
  ·exact⟨true,h1 e,by simp[Op.intCmp,e]⟩
  ·exact⟨false,h2 e,by simp[Op.intCmp,e]⟩
 ·obtain⟨h1,h2⟩:=h;by_cases e:y<x
  ·exact⟨true,h1 e,by simp[Op.intCmp,e]⟩
  ·exact⟨false,h2 e,by simp[Op.intCmp,e]⟩
 ·obtain⟨h1,h2⟩:=h;by_cases e:y<=x
  ·exact⟨true,h1 e,by simp[Op.intCmp,e]⟩
  ·exact⟨false,h2 e,by simp[Op.intCmp,e]⟩
theorem Vx{t:TypeId}{op:BinOp}{k:IntKind}{x y:Int}{K:AV->Prop}(h:Yz op k x y K)(w:World):∃u,K (.v u)/\(binOp op t (.int k x) (.int k y)).run P w= .ok u w:=by
 cases op<;>simp only[Yz]at h;case add=>exact⟨_,h.out,by simp[binOp,Op.intArith]⟩
 case sub=>exact⟨_,h.out,by simp[binOp,Op.intArith]⟩
 case mul=>exact⟨_,h.out,by simp[binOp,Op.intArith]⟩
 case quo=>
  cases h with
  |pos h0 h1 h=>
   have hy:y≠0:=by omega
   exact⟨_,h.out,by simp[binOp,Op.intDiv,hy,Int.tdiv_eq_ediv_of_nonneg h0]⟩
  |raw hy h=>exact⟨_,h.out,by simp[binOp,Op.intDiv,hy]⟩
 case rem=>
  cases h with
  |pos h0 h1 h=>
   have hy:y≠0:=by omega
   exact⟨_,h,by simp[binOp,Op.intDiv,hy,Int.tmod_eq_emod_of_nonneg h0]⟩
  |raw hy h=>exact⟨_,h,by simp[binOp,Op.intDiv,hy]⟩
 case and=>exact⟨_,h,by simp[binOp,Op.intBits]⟩
 case or=>exact⟨_,h,by simp[binOp,Op.intBits]⟩
 case xor=>exact⟨_,h,by simp[binOp,Op.intBits]⟩
 all_goals first
  |exact h.elim
  |(obtain⟨b,hk,hr⟩:=Vw (P:=P) h w;exact⟨_,hk,by simp[binOp,hr]⟩)
theorem Ei{t:TypeId}{op:BinOp}{k k':IntKind}{x y:Int}{K:AV->Prop}(hop:op= .shl\/op= .shr)(h:Ov op k x y K)(w:World):∃u,K (.v u)/\(binOp op t (.int k x) (.int k' y)).run P w= .ok u w:=by
 rcases hop with rfl|rfl
 ·obtain⟨hy,h⟩:=h;exact⟨_,h.out,by simp[binOp,Op.shift,Int.not_lt.2 hy]⟩
 ·obtain⟨hy,h⟩:=h;exact⟨_,h,by simp[binOp,Op.shift,Int.not_lt.2 hy]⟩
theorem toList_inj{a b:ByteArray}(h:a.toList=b.toList):a=b:=by
 rw[ByteArray.toList_eq,ByteArray.toList_eq]at h;cases a;cases b;congr;exact Array.toList_inj.1 h
theorem Vy{t:TypeId}{op:BinOp}{x y:ByteArray}{K:AV->Prop}(h:aat op x y K)(w:World):∃u,K (.v u)/\(binOp op t (.string x) (.string y)).run P w= .ok u w:=by
 cases op<;>simp only[aat]at h<;>first|(exact h.elim)|skip
 ·obtain⟨hs,h⟩:=h;refine⟨_,h, ?_⟩;have hm:¬ (((x.size+y.size:Nat):Int)>IntKind.i64.max):=by
   show¬ (_>(9223372036854775807:Int));omega
  simp only[binOp,Op.stringOp,if_neg hm];rfl
 ·obtain⟨h1,h2⟩:=h;by_cases e:x=y
  ·exact⟨_,h1 e,by simp[binOp,Op.stringOp,e]⟩
  ·have e':(x.toList==y.toList)=false:=by rw[beq_eq_false_iff_ne];exact λ hh=>e (toList_inj hh)
   exact⟨_,h2 e,by simp[binOp,Op.stringOp,e']⟩
 ·obtain⟨h1,h2⟩:=h;by_cases e:x=y
  ·exact⟨_,h1 e,by simp[binOp,Op.stringOp,e]⟩
  ·have e':(x.toList==y.toList)=false:=by rw[beq_eq_false_iff_ne];exact λ hh=>e (toList_inj hh)
   exact⟨_,h2 e,by simp[binOp,Op.stringOp,e']⟩
 ·obtain⟨h1,h2⟩:=h;cases e:Op.bytesLess x.toList y.toList with
  |true=>exact⟨_,h1 e,by simp[binOp,Op.stringOp,e]⟩
  |false=>exact⟨_,h2 (by simp[e]),by simp[binOp,Op.stringOp,e]⟩
 ·obtain⟨h1,h2⟩:=h;have e':(x.toList==y.toList)=decide (x=y):=by
   by_cases e:x=y
   ·simp[e]
   ·rw[decide_eq_false e,beq_eq_false_iff_ne];exact λ hh=>e (toList_inj hh)
  cases e:Op.bytesLess x.toList y.toList||decide (x=y)with
  |true=>exact⟨_,h1 (by simpa using e),by simp only[binOp,Op.stringOp,e',e];rfl⟩
  |false=>exact⟨_,h2 (by simpa using e),by simp only[binOp,Op.stringOp,e',e];rfl⟩
 ·obtain⟨h1,h2⟩:=h;have e':(x.toList==y.toList)=decide (x=y):=by
   by_cases e:x=y
   ·simp[e]
   ·rw[decide_eq_false e,beq_eq_false_iff_ne];exact λ hh=>e (toList_inj hh)
  cases e:Op.bytesLess x.toList y.toList||decide (x=y)with
  |true=>exact⟨_,h1 (by simpa using e),by simp only[binOp,Op.stringOp,e',e];rfl⟩
  |false=>exact⟨_,h2 (by simpa using e),by simp only[binOp,Op.stringOp,e',e];rfl⟩
 ·obtain⟨h1,h2⟩:=h;cases e:Op.bytesLess x.toList y.toList with
  |true=>exact⟨_,h1 e,by simp[binOp,Op.stringOp,e]⟩
  |false=>exact⟨_,h2 (by simp[e]),by simp[binOp,Op.stringOp,e]⟩
theorem jL{op:BinOp}{t:TypeId}{x y:Operand}{u v:Value}(hu:u.oneCell'=true)(hn:u≠ .nilIface)(w:World):(eqGuard op t x y u v).run P w= .ok () w:=by
 unfold eqGuard;cases op<;>cases u<;>first|(simp[Value.oneCell']at hu;done)|(exact absurd rfl hn)|(cases v<;>simp)
theorem KQ(hL:bQ P L){X:CX}{op:BinOp}{t:TypeId}{ox oy:Operand}{x y:AV}{xv yv:Value}(hx:C2 X x xv)(hy:C2 X y yv){K:AV->Prop}(h:aav P L op t x y K)(w:World):
  ∃z u,K z/\C2 X z u/\(eqGuard op t ox oy xv yv).run P w= .ok () w/\(binOp op t xv yv).run P w= .ok u w:=by
 unfold aav at h;split at h
 ·rename_i k a k' b;obtain rfl:=C2.dN hx;obtain rfl:=C2.dN hy;have hg:=jL (P:=P) (op:=op) (t:=t) (x:=ox) (y:=oy) (u:= .int k a) (v:= .int k' b) rfl (by simp) w;split at h
  ·obtain⟨u,hk,hr⟩:=Ei (P:=P) (t:=t) (k':=k') (.inl rfl) h w;exact⟨_,u,hk,rfl,hg,hr⟩
  ·obtain⟨u,hk,hr⟩:=Ei (P:=P) (t:=t) (k':=k') (.inr rfl) h w;exact⟨_,u,hk,rfl,hg,hr⟩
  ·by_cases e:k=k'
   ·subst e;simp only[decide_true,cond_true]at h;obtain⟨u,hk,hr⟩:=Vx (P:=P) (t:=t) h w;exact⟨_,u,hk,rfl,hg,hr⟩
   ·simp only[e,decide_false,cond_false]at h
 ·rename_i a b;obtain rfl:=C2.dN hx;obtain rfl:=C2.dN hy;obtain⟨u,hk,hr⟩:=Vy (P:=P) (t:=t) h w;exact⟨_,u,hk,rfl,jL rfl (by simp) w,hr⟩
 ·rename_i a b;obtain rfl:=C2.dN hx;obtain rfl:=C2.dN hy;split at h
  ·rename_i i hi;obtain⟨info,z,d,h1,h2,h3,h4,h5,h6,h7⟩:=jk hL hi;split at h
   ·rename_i hk;rw[hk]at h7;cases d<;>simp only[kindOf]at h7<;>first|(cases h7;done)|skip
    exact⟨_,_,h,rfl,jL rfl (by simp) w,run_eql_bool w t a b h2⟩
   ·rename_i hk;rw[hk]at h7;cases d<;>simp only[kindOf]at h7<;>first|(cases h7;done)|skip
    exact⟨_,_,h,rfl,jL rfl (by simp) w,run_neq_bool w t a b h2⟩
   ·exact h.elim
  ·exact h.elim
 ·rename_i cs ds;obtain⟨us,rfl,ha⟩:=C2.qW hx;obtain⟨vs,rfl,hb⟩:=C2.qW hy;split at h
  ·obtain⟨us',vs',p,rfl,rfl,⟨hgt,hp⟩,hs⟩:=h;obtain rfl:=KR ha;obtain rfl:=KR hb;obtain⟨b,hbp,hr⟩:=hp w;refine⟨.v (.bool b),.bool b, ?_,rfl,by simp[eqGuard,hgt],by simp[binOp,hr]⟩;cases b with
   |true=>exact hs.1 (hbp.1 rfl)
   |false=>exact hs.2 (λ q=>by cases hbp.2 q)
  ·obtain⟨us',vs',p,rfl,rfl,⟨hgt,hp⟩,hs⟩:=h;obtain rfl:=KR ha;obtain rfl:=KR hb;obtain⟨b,hbp,hr⟩:=hp w;refine⟨.v (.bool (!b)),.bool (!b), ?_,rfl,by simp[eqGuard,hgt],by simp[binOp,hr]⟩;cases b with
   |true=>exact hs.1 (hbp.1 rfl)
   |false=>exact hs.2 (λ q=>by cases hbp.2 q)
  ·exact h.elim
 ·rename_i id off;obtain⟨b,hb,rfl⟩:∃b,fM (X.ρ id)= .pointer (some ⟨b,0,none⟩)/\xv= .pointer (some ⟨b,off,none⟩):=hx;obtain rfl:=C2.dN hy;split at h
  ·rename_i i hi;obtain⟨info,z,d,h1,h2,h3,h4,h5,h6,h7⟩:=jk hL hi;have hg:(eqGuard op t ox oy (.pointer (some ⟨b,off,none⟩)) (.pointer none)).run P w= .ok () w:=jL rfl (by simp) w;have he:∀e:TypeId,P.underlying t=some (.pointer e)->(Op.equal t (.pointer (some ⟨b,off,none⟩)) (.pointer none)).run P w= .ok false w:=λ e he=>by
    have h:∀d:Nat,(Op.equalIn (d+1) t (.pointer (some ⟨b,off,none⟩)) (.pointer none)).run P w= .ok false w:=λ d=>by
     simp[Op.equalIn,run_underlying he]
    simp[Op.equal,Op.maxDepth,h 9999]
   split at h
   ·rename_i e hk;rw[hk]at h7;cases d<;>simp only[kindOf]at h7<;>first|(cases h7;done)|skip
    exact⟨_,_,h,rfl,hg,by simp[binOp,he _ h2]⟩
   ·rename_i e hk;rw[hk]at h7;cases d<;>simp only[kindOf]at h7<;>first|(cases h7;done)|skip
    exact⟨_,_,h,rfl,hg,by simp[binOp,he _ h2]⟩
   ·exact h.elim
  ·exact h.elim
 ·obtain rfl:=C2.dN hx;obtain rfl:=C2.dN hy;split at h
  ·rename_i i hi;have hg:(eqGuard op t ox oy (.pointer none) (.pointer none)).run P w= .ok () w:=jL rfl (by simp) w;obtain⟨info,z,d,h1,h2,h3,h4,h5,h6,h7⟩:=jk hL hi;have he:∀e:TypeId,P.underlying t=some (.pointer e)->(Op.equal t (.pointer none) (.pointer none)).run P w= .ok true w:=λ e he=>by
    have h:∀d:Nat,(Op.equalIn (d+1) t (.pointer none) (.pointer none)).run P w= .ok true w:=λ d=>by
     simp[Op.equalIn,run_underlying he]
    simp[Op.equal,Op.maxDepth,h 9999]
   split at h
   ·rename_i e hk;rw[hk]at h7;cases d<;>simp only[kindOf]at h7<;>first|(cases h7;done)|skip
    exact⟨_,_,h,rfl,hg,by simp[binOp,he _ h2]⟩
   ·rename_i e hk;rw[hk]at h7;cases d<;>simp only[kindOf]at h7<;>first|(cases h7;done)|skip
    exact⟨_,_,h,rfl,hg,by simp[binOp,he _ h2]⟩
   ·exact h.elim
  ·exact h.elim
 ·obtain rfl:=C2.dN hx;obtain rfl:=C2.dN hy;split at h
  ·rename_i i hi;have hg:(eqGuard op t ox oy (.slice none 0 0) (.slice none 0 0)).run P w= .ok () w:=jL rfl (by simp) w;split at h
   ·rename_i e hk;exact⟨_,_,h,rfl,hg,by simp[binOp,eq_nil (bY hL hi hk)]⟩
   ·rename_i e hk;exact⟨_,_,h,rfl,hg,by simp[binOp,eq_nil (bY hL hi hk)]⟩
   ·exact h.elim
  ·exact h.elim
 ·rename_i s n sc f;obtain rfl:=C2.dN hy;cases C2.uw hx with
  |sl s n sc f A c us hs hn hc hl hf hsc hu hr=>
  split at h
  ·rename_i i hi;have hg:(eqGuard op t ox oy (.slice A n c) (.slice none 0 0)).run P w= .ok () w:=jL rfl (by simp) w;have hA:A=none->n=0:=λ hA=>by
    rcases hr with h|⟨b,o,h,_⟩
    ·exact h
    ·rw[hA]at h;cases h
   split at h
   ·rename_i e hk;refine⟨.v (.bool A.isNone),_, ?_,rfl,hg,by simp[binOp,eq_nil (bY hL hi hk)]⟩;cases A with
    |none=>exact h.y (hA rfl)
    |some x=>exact h.n
   ·rename_i e hk;refine⟨.v (.bool (!A.isNone)),_, ?_,rfl,hg,by simp[binOp,eq_nil (bY hL hi hk)]⟩;cases A with
    |none=>exact h.y (hA rfl)
    |some x=>exact h.n
   ·exact h.elim
  ·exact h.elim
 ·exact h.elim
where
 eq_nil {w:World} {t e:TypeId} {a:Option Addr} {n c:Nat} (h:P.underlying t=some (.slice e)):(Op.equal t (.slice a n c) (.slice none 0 0)).run P w= .ok a.isNone w:=by
  have h:∀d:Nat,(Op.equalIn (d+1) t (.slice a n c) (.slice none 0 0)).run P w= .ok a.isNone w:=λ d=>by
   cases a<;>simp[Op.equalIn,run_underlying h]
  simp[Op.equal,Op.maxDepth,h 9999]
 KR {X:CX}:∀{us vs:List Value},aN (C0 X) (us.map .v) vs->vs=us
  |[],vs,h=>by
   have:=h.1;simp at this;exact List.eq_nil_of_length_eq_zero this.symm
  |u::us,[],h=>by have:=h.1;simp at this
  |u::us,v::vs,h=>by
   have h0:=h.2 0 _ _ rfl rfl;have:vs=us:=KR ⟨by simpa using h.1,λ i x y hx hy=>h.2 (i+1) x y (by simpa using hx) (by simpa using hy)⟩;rw[this,show v=u from h0]
theorem Qz{X:CX}{op:UnOp}{x:AV}{xv:Value}(hx:C2 X x xv){K:AV->Prop}(h:aun op x K)(w:World):∃z u,K z/\C2 X z u/\(Op.unary op xv).run P w= .ok u w:=by
 unfold aun at h;split at h
 ·obtain rfl:=C2.dN hx;exact⟨_,_,h,rfl,rfl⟩
 ·obtain rfl:=C2.dN hx;exact⟨_,_,h.out,rfl,rfl⟩
 ·obtain rfl:=C2.dN hx;exact⟨_,_,h,rfl,rfl⟩
 ·exact h.elim
theorem KT(hL:bQ P L)(R:Rel g N bs ρ a w st){t ty:TypeId}{x:AV}{xv:Value}(hx:C2 (aB g w ρ st.heap) x xv){K:AV->Prop}(h:aaw L st t x K):
  ∃z u,K z/\C2 (aB g w ρ st.heap) z u/\(Builtin.len_ #[t] ty #[xv]).run P w= .ok u w:=by
 unfold aaw at h;split at h
 ·exact h.elim
 ·rename_i i hi;split at h
  ·rename_i b hk;obtain rfl:=C2.dN hx;exact⟨_,_,h,rfl,by simp[Builtin.len_,run_underlying (rW hL hi hk),goInt]⟩
  ·rename_i e n c hk;obtain rfl:=C2.dN hx;exact⟨_,_,h,rfl,by simp[Builtin.len_,run_underlying (bY hL hi hk),goInt]⟩
  ·rename_i e s n sc f hk;cases C2.uw hx with
   |sl _ _ _ _ A c us hs0 hn hc hl hf hsc hu' hr=>
    exact⟨_,_,h,rfl,by simp[Builtin.len_,run_underlying (bY hL hi hk),goInt]⟩
  ·rename_i e id hk;split at h
   ·rename_i ee s n sc f hfo;obtain⟨us,hown,_⟩:=R.objs _ (aA hfo);have hown:w.ownsRow 0 ee s (ρ id) n us:=hown;have hxv:xv=ρ id:=(C2.kW hx).trans (iO hown);rcases hown.2 with⟨hv,hz⟩|⟨b,cap,cur,hv,_⟩
    ·rw[hxv,hv];exact⟨_,_,h,rfl,by simp[Builtin.len_,run_underlying (bY hL hi hk),goInt,hz]⟩
    ·rw[hxv,hv];exact⟨_,_,h,rfl,by simp[Builtin.len_,run_underlying (bY hL hi hk),goInt]⟩
   ·rename_i ee cs hfo;obtain⟨us,⟨hown,_⟩,_⟩:=R.objs _ (aA hfo);have hown:w.ownsRow 0 ee 1 (ρ id) cs.length us:=hown;have hxv:xv=ρ id:=(C2.kW hx).trans (iO hown);rcases hown.2 with⟨hv,hz⟩|⟨b,cap,cur,hv,_⟩
    ·rw[hxv,hv];exact⟨_,_,h,rfl,by simp[Builtin.len_,run_underlying (bY hL hi hk),goInt,hz]⟩
    ·rw[hxv,hv];exact⟨_,_,h,rfl,by simp[Builtin.len_,run_underlying (bY hL hi hk),goInt]⟩
   ·exact h.elim
  ·rename_i hk;rcases C2.qV hx with⟨b,c,_,_,rfl⟩|⟨rfl,A,c,rfl⟩<;>exact⟨_,_,h,rfl,by simp[Builtin.len_,run_underlying (bY hL hi hk),goInt]⟩
  ·rename_i m e hk;exact⟨_,_,h,rfl,by simp[Builtin.len_,run_underlying (oJ hL hi hk),goInt]⟩
  ·exact h.elim
theorem KU{X:CX}{x y:AV}{xv yv:Value}(hx:C2 X x xv)(hy:C2 X y yv){K:AV->Prop}(h:aaA x y K)(ts:Array TypeId)(ty:TypeId)(w:World):∃z u,K z/\C2 X z u/\(Builtin.min_ ts ty #[xv,yv]).run P w= .ok u w:=by
 unfold aaA at h;split at h
 ·obtain rfl:=C2.dN hx;obtain rfl:=C2.dN hy;exact⟨_,_,h,rfl,run_min_int2 w ts ty _ _ _ _⟩
 ·exact h.elim
theorem KW{X:CX}{x y:AV}{xv yv:Value}(hx:C2 X x xv)(hy:C2 X y yv){K:AV->Prop}(h:aaB x y K)(ts:Array TypeId)(ty:TypeId)(w:World):∃z u,K z/\C2 X z u/\(Builtin.max_ ts ty #[xv,yv]).run P w= .ok u w:=by
 unfold aaB at h;split at h
 ·obtain rfl:=C2.dN hx;obtain rfl:=C2.dN hy;exact⟨_,_,h,rfl,run_max_int2 w ts ty _ _ _ _⟩
 ·exact h.elim
theorem vP{R:AV->Value->Prop}(hR:∀y u,R (.v y) u->u=y):∀{n:Nat}{f:Nat->List AV}{us:List Value}{bs:List UInt8},aN R (flat n f) us->n=bs.length->(∀i,i<n->f i=[.v (.int .u8 ((bs.getD i 0).toNat:Int))])->
 ∀(j:Nat)(hj:j<bs.length),us[j]? =some (.int .u8 (bs[j].toNat:Int))
 |0,_,_,[],_,_,_,j,hj=>by simp at hj
 |0,_,_,b::bs,_,hn,_,_,_=>by simp at hn
 |n+1,f,us,[],_,hn,_,_,_=>by simp at hn
 |n+1,f,us,b::bs,ha,hn,hf,j,hj=>by
  have e0:=hf 0 (by omega);have hfl:flat (n+1) f=f 0++flat n (λ i=>f (i+1)):=rfl;rw[hfl,e0]at ha;cases us with
  |nil=>have:=ha.1;simp at this
  |cons u us=>
   have h0:=hR _ _ (ha.2 0 _ _ rfl rfl);have ht:aN R (flat n (λ i=>f (i+1))) us:=⟨by have h1:=ha.1;simp at h1;omega,λ i x y hx hy=>ha.2 (i+1) x y (by simpa using hx) (by simpa using hy)⟩;cases j with
   |zero=>simp[h0]
   |succ j=>
    have:=vP hR (bs:=bs) ht (by simpa using hn) (λ i hi=>by have:=hf (i+1) (by omega);simpa using this) j (by simpa using hj);simpa using this
theorem zQ(hL:bQ P L)(R:Rel g N bs ρ a w st){src dst:TypeId}{x:AV}{xv:Value}(hx:C2 (aB g w ρ st.heap) x xv){K:AV->Prop}(h:D7 L st src dst x K):
  ∃z u,K z/\C2 (aB g w ρ st.heap) z u/\(convert src dst xv).run P w= .ok u w:=by
 unfold D7 at h;split at h
 ·rename_i si di hsi hdi;obtain⟨info,z,d,h1,h2,h3,h4,h5,h6,h7⟩:=jk hL hsi;split at h
  ·rename_i k kk n hk;obtain rfl:=C2.dN hx;exact⟨_,_,h.out,rfl,by cases d<;>simp[convert,run_underlying h2,run_underlying (yF hL hdi hk),Conv.intToInt]⟩
  ·rename_i s hk;obtain rfl:=C2.dN hx;exact⟨_,_,h,rfl,by cases d<;>simp[convert,run_underlying h2,run_underlying (rW hL hdi hk)]⟩
  ·rename_i e s n sc f hsk hdk;split at h
   ·rename_i ei pK;split at h
    ·rename_i hek;obtain⟨bs,hn,hf,hk⟩:=h;cases C2.uw hx with
     |sl _ _ _ _ A c us hs0 hnc hc hl hfl hsc hu' hr=>
      refine⟨_,.string ⟨bs.toArray⟩,hk,rfl, ?_⟩;subst hn;have hall:aN (PC w (aI g w ρ st.heap)) (flat bs.length f) us:=⟨by rw[hl];exact mM.flat_length hfl,hu'⟩;have hcells:=vP (λ y u h=>by cases h;rfl) hall rfl hf;rcases hr with hz|⟨b,o,rfl,kb,hcell⟩
      ·have hb:bs=[]:=List.eq_nil_of_length_eq_zero hz;subst hb;cases A with
       |none=>
        rw[show([]:List UInt8).length=0 from rfl,run_convert_bytes_string w _ _ _ none 0 c (bY hL hsi hsk) (yF hL pK hek) (rW hL hdi hdk)];rfl
       |some aa=>exact run_convert_bytes_back w _ _ _ aa c [] (bY hL hsi hsk) (yF hL pK hek) (rW hL hdi hdk) (λ j hj=>by simp at hj)
      ·refine run_convert_bytes_back w _ _ _ ⟨b,o,none⟩ c bs (bY hL hsi hsk) (yF hL pK hek) (rW hL hdi hdk) (λ j hj=> ?_);rw[Addr.add_lit];exact hcell j _ (hcells j hj)
    ·exact h.elim
   ·exact h.elim
  ·rename_i e id hsk hdk;split at h
   ·rename_i ee s n sc f hfo;split at h
    ·rename_i ei pK;split at h
     ·rename_i hek;obtain⟨bs,hn,hf,hk⟩:=h;refine⟨_,.string ⟨bs.toArray⟩,hk,rfl, ?_⟩;obtain⟨us,hown,hs0,hfl,hsc,ha⟩:=R.objs _ (aA hfo);have hown:w.ownsRow 0 ee s (ρ id) n us:=hown;have ha:aN (PC w (aI g w ρ st.heap)) (flat n f) us:=ha;subst hn;have hcells:=vP (λ y u h=>by cases h;rfl) ha rfl hf;have hxv:xv=ρ id:=(C2.kW hx).trans (iO hown);rcases hown.2 with⟨hv,hz⟩|⟨b,cap,cur,hv,_⟩
      ·have hb:bs=[]:=List.eq_nil_of_length_eq_zero hz;subst hb;rw[hxv,hv,run_convert_bytes_string w _ _ _ none 0 0 (bY hL hsi hsk) (yF hL pK hek) (rW hL hdi hdk)];rfl
      ·rw[hxv,hv];refine run_convert_bytes_back w _ _ _ ⟨b,0,none⟩ cap bs (bY hL hsi hsk) (yF hL pK hek) (rW hL hdi hdk) (λ j hj=> ?_);exact hown.cells (g:=b) (by rw[hv];rfl) j _ (hcells j hj)
     ·exact h.elim
    ·exact h.elim
   ·exact h.elim
  ·exact h.elim
 ·exact h.elim
end
def Rd(w:World)(B size:Nat)(A:Option Addr)(n:Nat)(xs:List Value):Prop:=
 xs.length=n*size/\(0<n-> ∃b o,A=some ⟨b,o,none⟩/\b<B/\ ∀j u,xs[j]? =some u->w.cell? ⟨b,o+j,none⟩=some u)
section
variable{w w':World}{B B' size n:Nat}{A:Option Addr}{xs:List Value}
theorem Rd.nil:Rd w B size A 0 []:=⟨by simp,λ h=>absurd h (by omega)⟩
theorem Rd.keep(h:Rd w B size A n xs)(hk:∀p:Addr,p.block<B->w'.cell? p=w.cell? p):Rd w' B size A n xs:=
 ⟨h.1,λ hn=>let⟨b,o,e,hb,hc⟩:=h.2 hn;⟨b,o,e,hb,λ j u hu=>(hk _ hb).trans (hc j u hu)⟩⟩
theorem Rd.below(h:Rd w B size A n xs)(hb:Below B w w'):Rd w' B size A n xs:=h.keep λ _ hp=>hb.cell hp
theorem Rd.drew(h:Rd w B size A n xs):Rd w.drew B size A n xs:=h
theorem Rd.alloc(h:Rd w B size A n xs)(hB:B<=w.heap.size)(o:Obj):Rd (w.alloc o) B size A n xs:=h.keep λ p hp=>World.cell?_alloc_lt w o p (by omega)
theorem Rd.setCell(h:Rd w B size A n xs){p:Addr}(hB:B<=p.block)(u:Value):Rd (w.setCell p u) B size A n xs:=
 h.keep λ q hq=>World.cell?_setCell_other w p q u (λ e=>by subst e;omega)
theorem Rd.grown(h:Rd w B size A n xs){row:Option Nat}(hg:w.grownBy w' row)(hB:B<=w.heap.size)(hr:∀g,row=some g->B<=g):Rd w' B size A n xs:=
 h.keep λ p hp=>World.cell?_of_block (hg.block p.block (by omega) (λ e=>by have:=hr _ e.symm;omega))
theorem Rd.cut(h:Rd w B size A n xs){k cap:Nat}(hk:k<=n)(hc:n<=cap):
  Rd w B size (if cap=k then A else A.map (·.add (k*size))) (n-k) (xs.drop (k*size)):=by
 refine⟨by rw[List.length_drop,h.1,Nat.sub_mul],λ hn=> ?_⟩;obtain⟨b,o,rfl,hb,hcell⟩:=h.2 (by omega);rw[if_neg (by omega)];refine⟨b,o+k*size,by simp[Addr.add_lit],hb,λ j u hu=> ?_⟩;rw[Nat.add_assoc];exact hcell _ u (by rw[<-hu,List.getElem?_drop])
theorem Rd.first(h:Rd w B size A n xs){k:Nat}(hk:k<=n):Rd w B size A k (xs.take (k*size)):=by
 refine⟨by rw[List.length_take,h.1];exact Nat.min_eq_left (Nat.mul_le_mul_right _ hk),λ hn=> ?_⟩;obtain⟨b,o,e,hb,hcell⟩:=h.2 (by omega);refine⟨b,o,e,hb,λ j u hu=>hcell j u ?_⟩;rw[List.getElem?_take]at hu;split at hu
 ·exact hu
 ·cases hu
theorem Rd.at1{k:Nat}(h:Rd w B 1 A n xs)(hk:k<n):∃b o,∃hl:k<xs.length,A=some ⟨b,o,none⟩/\b<B/\w.cell? ⟨b,o+k,none⟩=some xs[k]:=by
 obtain⟨b,o,e,hb,hc⟩:=h.2 (by omega);have hl:k<xs.length:=by have:=h.1;omega
 exact⟨b,o,hl,e,hb,hc k _ (List.getElem?_eq_getElem hl)⟩
end
theorem yh(b:Nat)(t:TypeId):∀(vs:List Value)(o:Nat)(w:World)(cur:Array Value),w.heap[b]? =some (.cells cur t (0,0))->o+vs.length<=cur.size->
 (w.setCells b o vs).heap[b]? =some (.cells (cur.toList.take o++vs++cur.toList.drop (o+vs.length)).toArray t (0,0))
 |[],o,w,cur,h,_=>by simpa[World.setCells]using h
 |v::r,o,w,cur,h,hl=>by
  have h1:(w.setCell ⟨b,o,none⟩ v).heap[b]? =some (.cells (cur.setIfInBounds o v) t (0,0)):=heap_setCell_same w b o cur t v h;rw[World.setCells,yh b t r (o+1) _ _ h1 (by simp at hl⊢;omega)];have e:=list_seg_step cur.toList o v r (by simp at hl⊢;omega);simp only[Array.toList_setIfInBounds];rw[e];rfl
theorem vS(b:Nat):∀(vs:List Value)(o:Nat)(w:World)(k:Nat),k≠b->(w.setCells b o vs).heap[k]? =w.heap[k]?
 |[],_,_,_,_=>rfl
 |v::r,o,w,k,hk=>by rw[World.setCells,vS b r (o+1) _ k hk,Below.heap_setCell _ _ _ _ hk]
theorem yj(b:Nat):∀(vs:List Value)(o:Nat)(w:World),(w.setCells b o vs).os=w.os/\(w.setCells b o vs).tape=w.tape/\(w.setCells b o vs).output=w.output/\(w.setCells b o vs).heap.size=w.heap.size
 |[],_,_=>⟨rfl,rfl,rfl,rfl⟩
 |v::r,o,w=>by
  obtain⟨h1,h2,h3,h4⟩:=yj b r (o+1) (w.setCell ⟨b,o,none⟩ v);exact⟨h1,h2,h3,h4.trans (by simp[World.setCell])⟩
section
variable{P:Program}(w:World)
theorem mO(base:Nat)(t tx ty e:TypeId)(i:TypeInfo)(z:Value)(size bytes:Nat)(ht:P.underlying t=some (.slice e))(hi:P.info? e=some i)(hz:i.zero=some z)
  (hsize:i.size=size)(hby:i.bytes=bytes)(hzs:z.cells.size=size)
  (v:Value)(n:Nat)(xs:List Value)(hown:w.ownsRow base e size v n xs)
  (X:Value)(m:Nat)(news:List Value)(hsrc:Src P size tx X m news w)
  (h63:n+m<=maxLen)(hbytes:(n+m)*bytes<=140737488355328)(hbase:base<=w.heap.size):
  ∃v' w',(Builtin.append_ #[t,tx] ty #[v,X]).run P w= .ok v' w'/\w'.ownsRow base e size v' (n+m) (xs++news)/\w.grownBy w' v.ownBlock/\
   (v'.ownBlock=v.ownBlock\/v'.ownBlock=some w.heap.size):=by
 subst hsize;subst hby;have hsmall:n+m<=9223372036854775807:=by simp only[maxLen]at h63;omega
 have hlen:(xs++news).length=(n+m)*i.size:=by rw[List.length_append,hown.1,hsrc.newsLen,Nat.add_mul]
 have grown:∀(old:Nat),old<n+m-> ∀(row:Option Nat),
   (w.drew.alloc (.cells ((xs++news).toArray++Builtin.zeroCells z.cells (grownCap w (n+m) old e-(n+m))) e)).ownsRow base e i.size
    (.slice (some ⟨w.heap.size,0,none⟩) (n+m) (grownCap w (n+m) old e)) (n+m) (xs++news)/\
   w.grownBy (w.drew.alloc (.cells ((xs++news).toArray++Builtin.zeroCells z.cells (grownCap w (n+m) old e-(n+m))) e)) row:=by
  intro old ho row;have hge:=grownCap_ge w (n+m) old e;have hcm:grownCap w (n+m) old e<=maxLen:=grownCap_le_maxLen w (n+m) old e h63;refine⟨⟨hlen,.inr ⟨w.heap.size,_,_,rfl,hbase,heap_alloc_new w.drew _,hge,hcm, ?_, ?_⟩⟩,⟨rfl,rfl,rfl,by simp,λ k hk _=>Below.heap_alloc w.drew _ k hk⟩⟩
  ·simp only[Array.size_append,List.size_toArray,size_zeroCells,hzs,hlen,<-Nat.add_mul];congr 1;omega
  ·simp only[Array.toList_append];rw[<-hlen];exact List.take_left
 rcases hown.2 with⟨rfl,rfl⟩|⟨g,cap,cur,rfl,hbg,hg,hnc,hcm,hcs,htake⟩
 ·have hx:xs=[]:=List.eq_nil_of_length_eq_zero (by simpa using hown.1);subst hx;by_cases hm:m=0
  ·subst hm;have hn:news=[]:=List.eq_nil_of_length_eq_zero (by simpa using hsrc.newsLen);subst hn;refine⟨.slice none 0 0,w, ?_,World.ownsRow_nil w base e i.size,⟨rfl,rfl,rfl,Nat.le_refl _,λ _ _ _=>rfl⟩,.inl rfl⟩;rcases hsrc.kind with⟨e',hk⟩|hk<;>simp[Builtin.append_,run_underlying ht,run_underlying hk,sizeOf,typeInfo,hi,hsrc.len,hsrc.cells]
  ·have hr:=run_append_grow_src (P:=P) w t tx ty e i z ht hi hz none 0 0 [] (by simp[Builtin.firstCells]) X m news hsrc (by omega) (by omega) (growslice_fits (by omega) hbytes);have hgr:=grown 0 (by omega) (Value.ownBlock (.slice none 0 0));simp only[Nat.zero_add,List.nil_append]at hgr hr⊢;exact⟨_,_,hr,hgr.1,hgr.2,.inr rfl⟩
 ·by_cases hroom:n+m<=cap
  ·have hfit:n*i.size+news.length<=cur.size:=by rw[hsrc.newsLen,hcs,<-Nat.add_mul];exact Nat.mul_le_mul_right _ hroom
   have hr:=run_append_room_src (P:=P) w t tx ty e i ht hi g 0 n cap X m news hsrc hroom
    (λ j hj=>by rw[cell_of_row w g _ cur e (0,0) hg,Array.getElem?_eq_getElem (by omega)];rfl) (λ j hj=>frozen_of_row w g _ cur e hg)
   obtain⟨m1,m2,m3,m4⟩:=yj g news (0+n*i.size) w;refine⟨_,_,hr,⟨hlen,.inr ⟨g,cap,_,rfl,hbg,yh g e news (0+n*i.size) w cur hg (by omega),hroom,hcm, ?_, ?_⟩⟩,⟨m1,m2,m3,by omega,λ k _ hk=>vS g news _ w k (λ e=>hk (by simp[Value.ownBlock,e]))⟩,.inl rfl⟩
   ·simp only[List.size_toArray,List.length_append,List.length_take,List.length_drop,Array.length_toList];omega
   ·rw[Nat.zero_add,htake,<-hlen];exact List.take_left
  ·have holds:∀j u,xs[j]? =some u->w.cell? ((⟨g,0,none⟩:Addr).add j)=some u:=hown.cells (g:=g) rfl;have hf:=run_firstCells_some (P:=P) w.drew i.size n ⟨g,0,none⟩ n cap xs hown.1 (by simpa using holds);have hr:=run_append_grow_src (P:=P) w t tx ty e i z ht hi hz (some ⟨g,0,none⟩) n cap xs hf X m news hsrc (by omega) (by omega) (growslice_fits (by omega) hbytes);have hgr:=grown cap (by omega) (Value.ownBlock (.slice (some ⟨g,0,none⟩) n cap));exact⟨_,_,hr,hgr.1,hgr.2,.inr rfl⟩
theorem Rd.src{B size n c:Nat}{A:Option Addr}{xs:List Value}{tx e':TypeId}{w:World}(h:Rd w B size A n xs)(hk:P.underlying tx=some (.slice e'))(h1:∀u∈xs,u.oneCell'=true):Src P size tx (.slice A n c) n xs w:=by
 rcases Nat.eq_zero_or_pos n with rfl|hn
 ·have hx:xs=[]:=List.eq_nil_of_length_eq_zero (by simpa using h.1);subst hx;cases A with
  |none=>exact Src.ofNil w hk c
  |some a=>exact Src.ofSlice w hk a 0 c [] (by simp) (by simp) h1
 ·obtain⟨b,o,rfl,_,hc⟩:=h.2 hn;exact Src.ofSlice w hk ⟨b,o,none⟩ n c xs h.1 (λ j u hu=>by rw[Addr.add_lit];exact hc j u hu) h1
end
theorem xg{k:IntKind}{a b:Int}(h:a=b):Ending.returned (.int k a)= .returned (.int k b):=by rw[h]
def bV(b:UInt8):Value:= .int .u8 b.toNat
end Go.Proofs.YtopfgjgdadnjeaaGreat
