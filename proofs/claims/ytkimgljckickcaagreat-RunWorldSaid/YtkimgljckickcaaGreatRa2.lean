/-
  Contracts of the walk:AmA.
-/
import Derived.WalkKit
import Derived.Deep.AppendSrc
import Derived.Lib.Hide
import Derived.Deep.Quiet
import Derived.Deep.Draws
import Derived.WalkLawsBesides
import Derived.Laws.IdiomStrings
import Derived.Deep.QuietTactic
import Derived.MapKept
import Derived.Test.YtkimgljckickcaaGreatRa0
set_option maxHeartbeats 16000000
set_option maxRecDepth 100000
set_option linter.unusedVariables false
set_option linter.unusedSimpArgs false
namespace Go.Proofs.YtkimgljckickcaaGreat
open Go.RowKit
variable{b:Bool}{us:List Value}{B d id m n s:Nat}{M:Nat->Prop}{ρ:Nat->Value}{P:Program}{A p:Prop}{e:TypeId}{u v:Value}{a w w':World}
inductive AV:Type where
 |v (x:Value)
 |agg (cs:List AV)
 |aZ (vs:List AV)
 |sl (s n:Nat) (sc:Bool) (f:Nat->List AV)
 |own (id:Nat)
 |dn (id s i k:Nat)
 |jB (id s i m:Nat)
 |box (id off:Nat)
 |cf (g:FuncId) (id off:Nat)
 |el (cs:List AV) (k:Nat)
 |fn (g:FuncId) (caps:List AV)
 |junk
theorem kM(h:bif b then A else False):b=true/\A:=by cases b;exact h.elim;exact⟨rfl,h⟩
theorem MJ(h:bif Nat.ble m n then A else False):m<=n/\A:=⟨am7 (kM h).1,(kM h).2⟩
theorem Yj(h:bif Nat.beq m n then A else False):m=n/\A:=⟨am3 (kM h).1,(kM h).2⟩
def flat:Nat->(Nat->List AV)->List AV
 |0,_=>[]
 |n+1,f=>f 0++flat n (λ i=>f (i+1))
def iK:Value->List Nat
 | .pointer (some a)=>[a.block]
 | .slice (some a) _ _=>[a.block]
 | .map (some r)=>[r]
 |_=>[]
def blks:Value->List Nat
 | .tuple us=>us.toList.tail.flatMap iK
 |v=>iK v
def dD:Value->Value
 | .tuple us=>us.toList.headD undef
 |v=>v
structure OB:Type where
 R:World->(Nat->Prop)->Value->Prop
 mono:∀{w w':World}{k k':Nat->Prop}{v:Value},(∀b,k b->k' b)->(∀b,k b->w'.heap[b]? =w.heap[b]?)->(∀b∈blks v,w'.heap[b]? =w.heap[b]?)->R w k v->R w' k' v
 lt:∀{w:World}{k:Nat->Prop}{v:Value},R w k v->(∀b∈blks v,b<w.heap.size)/\(dD v).oneCell'=true/\(blks v).Nodup
structure RW:Type where
 e:TypeId
 s:Nat
 n:Nat
 sc:Bool
 f:Nat->List AV
inductive AO:Type where
 |box (t:TypeId) (cs:List AV)
 |row (e:TypeId) (s n:Nat) (sc:Bool) (f:Nat->List AV)
 |mp (t:TypeId) (ks:List (ByteArray×Option Nat)) (rs:List (ByteArray×RW))
 |obs (o:OB)
 |rn (e:TypeId) (cs:List AV)
def sQ:List (Nat×AV)->Nat->AV
 |[],_=> .junk
 |p::l,t=>bif Nat.beq t p.1 then p.2 else sQ l t
def uw(m:AV->AV):List (Nat×AV)->List (Nat×AV)
 |[]=>[]
 |(k,v)::l=>(k,m v)::uw m l
theorem pV{m:AV->AV}(hm:m .junk= .junk):∀(l:List (Nat×AV))(t:Nat),sQ (uw m l) t=m (sQ l t)
 |[],_=>hm.symm
 |(k,v)::l,t=>by
  simp only[uw,sQ];cases Nat.beq t k with
  |true=>rfl
  |false=>exact pV hm l t
structure AS where
 sl:List (Nat×AV)
 heap:List (Nat×AO)
 back:List (List (Nat×AV))
 base:Nat
def AS.tmps(st:AS):Nat->AV:=sQ st.sl
structure CX where
 w:World
 keep:Nat->Prop
 ρ:Nat->Value
inductive PC(w:World)(keep:Nat->Prop):AV->Value->Prop where
 |v (x:Value) (h:x.oneCell'=true):PC w keep (.v x) x
 |sl (s n:Nat) (sc:Bool) (f:Nat->List AV) (A:Option Addr) (c:Nat) (us:List Value) (hs:0<s) (hn:n<=c) (hc:c<=maxLen) (hl:us.length=n*s) (hf:∀i,i<n->(f i).length=s) (hsc:sc=true-> ∀x∈flat n f,∃y,x= .v y)
   (hu:∀(i:Nat)(x:AV)(u:Value),(flat n f)[i]? =some x->us[i]? =some u->PC w keep x u)
   (hr:n=0\/ ∃b o,A=some ⟨b,o,none⟩/\keep b/\ ∀(j:Nat)(u:Value),us[j]? =some u->w.cell? ⟨b,o+j,none⟩=some u):PC w keep (.sl s n sc f) (.slice A n c)
def aC(R:AV->Value->Prop)(xs:List AV)(us:List Value):Prop:=xs.length=us.length/\ ∀(i:Nat)(x:AV)(u:Value),xs[i]? =some x->us[i]? =some u->R x u
def million:Nat:=1000000
def jI:Nat:=2000000
def cfV(g:FuncId)(p:Value):Value:=bif Nat.blt g million then .func (.func g) #[] #[p]else bif Nat.blt g jI then .func (.func (Nat.sub g million)) #[p] #[]else .iface (Nat.sub g jI) p
def C0(X:CX):AV->Value->Prop
 | .own id,u=>u=dD (X.ρ id)
 | .dn id s i k,u=> ∃b n c,X.ρ id= .slice (some ⟨b,0,none⟩) n c/\u= .pointer (some ⟨b,i*s+k,none⟩)
 | .jB id s i m,u=>(∃b c,iK (dD (X.ρ id))=[b]/\m<=c/\u= .slice (some ⟨b,i*s,none⟩) m c)\/(m=0/\ ∃A c,u= .slice A 0 c)
 | .box id off,u=> ∃b,dD (X.ρ id)= .pointer (some ⟨b,0,none⟩)/\u= .pointer (some ⟨b,off,none⟩)
 | .cf g id off,u=> ∃b,dD (X.ρ id)= .pointer (some ⟨b,0,none⟩)/\u=cfV g (.pointer (some ⟨b,off,none⟩))
 | .el cs k,u=> ∃b o us,u= .pointer (some ⟨b,o+k,none⟩)/\X.keep b/\aC (PC X.w X.keep) cs us/\ ∀(j:Nat)(y:Value),us[j]? =some y->X.w.cell? ⟨b,o+j,none⟩=some y
 | .junk,_=>True
 | .v x,u=>u=x
 | .sl s n sc f,u=>PC X.w X.keep (.sl s n sc f) u
 | .agg _,_=>False
 | .aZ _,_=>False
 | .fn _ _,_=>False
def C1(X:CX):AV->Value->Prop
 | .agg cs,u=> ∃us,u= .agg us.toArray/\aC (C0 X) cs us
 | .fn g caps,u=> ∃us,u= .func (.func g) #[] us.toArray/\aC (C0 X) caps us
 |av,u=>C0 X av u
def C2(X:CX):AV->Value->Prop
 | .aZ vs,u=> ∃us,u= .tuple us.toArray/\aC (C1 X) vs us
 |av,u=>C1 X av u
def dH(d:Nat):AV->AV
 | .v x=> .v x
 | .agg cs=> .agg cs
 | .aZ vs=> .aZ vs
 | .sl s n sc f=> .sl s n sc f
 | .own id=>bif Nat.beq id d then .junk else .own id
 | .dn id s i k=>bif Nat.beq id d then .junk else .dn id s i k
 | .jB id s i k=>bif Nat.beq id d then .junk else .jB id s i k
 | .box id off=>bif Nat.beq id d then .junk else .box id off
 | .cf g id off=>bif Nat.beq id d then .junk else .cf g id off
 | .el cs k=> .el cs k
 | .fn g cs=> .fn g cs
 | .junk=> .junk
def ace(d:Nat):AV->AV
 | .v x=> .v x
 | .agg cs=> .agg (cs.map (dH d))
 | .aZ vs=> .aZ vs
 | .sl s n sc f=> .sl s n sc f
 | .own id=>bif Nat.beq id d then .junk else .own id
 | .dn id s i k=>bif Nat.beq id d then .junk else .dn id s i k
 | .jB id s i k=>bif Nat.beq id d then .junk else .jB id s i k
 | .box id off=>bif Nat.beq id d then .junk else .box id off
 | .cf g id off=>bif Nat.beq id d then .junk else .cf g id off
 | .el cs k=> .el cs k
 | .fn g cs=> .fn g (cs.map (dH d))
 | .junk=> .junk
def uy(d:Nat):AV->AV
 | .v x=> .v x
 | .agg cs=> .agg (cs.map (dH d))
 | .aZ vs=> .aZ (vs.map (ace d))
 | .sl s n sc f=> .sl s n sc f
 | .own id=>bif Nat.beq id d then .junk else .own id
 | .dn id s i k=>bif Nat.beq id d then .junk else .dn id s i k
 | .jB id s i k=>bif Nat.beq id d then .junk else .jB id s i k
 | .box id off=>bif Nat.beq id d then .junk else .box id off
 | .cf g id off=>bif Nat.beq id d then .junk else .cf g id off
 | .el cs k=> .el cs k
 | .fn g cs=> .fn g (cs.map (dH d))
 | .junk=> .junk
def yt(d:Nat):List (ByteArray×Option Nat)->List (ByteArray×Option Nat)
 |[]=>[]
 |(k,some i)::l=>(k,bif Nat.beq i d then none else some i)::yt d l
 |(k,none)::l=>(k,none)::yt d l
def AO.yu(d:Nat):AO->AO
 | .box t cs=> .box t (cs.map (dH d))
 | .row e s n sc f=> .row e s n sc f
 | .mp t ks rs=> .mp t (yt d ks) rs
 | .obs o=> .obs o
 | .rn e cs=> .rn e (cs.map (dH d))
def CU(u v:Value):Prop:=u=v\/((∃us,u= .tuple us)/\(∃vs,v= .tuple vs)/\dD u=dD v)
theorem CU.hd(h:CU u v):dD u=dD v:=by
 rcases h with rfl|h
 ·rfl
 ·exact h.2.2
theorem CU.sl{a:Option Addr}{c:Nat}(h:CU u (.slice a n c)):u= .slice a n c:=by
 rcases h with rfl|⟨_,⟨vs,e⟩,_⟩
 ·rfl
 ·cases e
theorem CU.refl(u:Value):CU u u:= .inl rfl
structure Ext(d:Nat)(X Y:CX):Prop where
 keep:∀b,X.keep b->Y.keep b
 mem:∀b,X.keep b->Y.w.heap[b]? =X.w.heap[b]?
 ρ:∀i,i≠d->CU (Y.ρ i) (X.ρ i)
theorem PC.mono{k k':Nat->Prop}(hk:∀b,k b->k' b)(hm:∀b,k b->w'.heap[b]? =w.heap[b]?){av:AV}(h:PC w k av u):PC w' k' av u:=by
 induction h with
 |v x h=>exact .v x h
 |sl s n sc f A c us hs hn hc hl hf hsc hu hr ih=>
  refine .sl s n sc f A c us hs hn hc hl hf hsc ih ?_;rcases hr with h0|⟨b,o,e,kb,hcell⟩
  ·exact .inl h0
  ·exact .inr ⟨b,o,e,hk b kb,λ j u hj=>(aoF (hm b kb)).trans (hcell j u hj)⟩
theorem aC.imp{R S:AV->Value->Prop}{xs:List AV}(h:aC R xs us)(hi:∀x u,R x u->S x u):aC S xs us:=⟨h.1,λ i x u hx hu=>hi x u (h.2 i x u hx hu)⟩
theorem aC.oZ{R S:AV->Value->Prop}{g:AV->AV}{xs:List AV}(h:aC R xs us)(hi:∀x u,R x u->S (g x) u):aC S (xs.map g) us:=by
 refine⟨by simpa using h.1,λ i x u hx hu=> ?_⟩;rw[anE]at hx;cases hx':xs[i]? with
 |none=>rw[hx']at hx;cases hx
 |some y=>rw[hx']at hx;cases hx;exact hi y u (h.2 i y u hx' hu)
theorem aC.nil{R:AV->Value->Prop}:aC R [] []:=⟨rfl,λ i x u h=>by simp at h⟩
theorem aC.cons{R:AV->Value->Prop}{x:AV}{xs:List AV}(h0:R x u)(h:aC R xs us):aC R (x::xs) (u::us):=by
 refine⟨by simpa using h.1,λ i y z hy hz=> ?_⟩;cases i with
 |zero=>simp at hy hz;subst hy hz;exact h0
 |succ i=>exact h.2 i y z (by simpa using hy) (by simpa using hz)
theorem aC.app{R:AV->Value->Prop}{xs ys:List AV}{vs:List Value}(h:aC R xs us)(k:aC R ys vs):aC R (xs++ys) (us++vs):=by
 refine⟨by simp[h.1,k.1],λ i y z hy hz=> ?_⟩;by_cases hi:i<xs.length
 ·rw[anq hi]at hy;rw[anq (by rw[<-h.1];exact hi)]at hz;exact h.2 i y z hy hz
 ·rw[anI o_]at hy;rw[anI (by rw[<-h.1];omega),<-h.1]at hz;exact k.2 _ y z hy hz
theorem aC.drop{R:AV->Value->Prop}{xs:List AV}{us:List Value}(h:aC R xs us)(k:Nat):aC R (xs.drop k) (us.drop k):=
 ⟨by simp[h.1],λ i x u hx hu=>h.2 (k+i) x u (by simpa using hx) (by simpa using hu)⟩
theorem aC.take{R:AV->Value->Prop}{xs:List AV}{us:List Value}(h:aC R xs us)(k:Nat):aC R (xs.take k) (us.take k):=by
 refine⟨by simp[h.1],λ i x u hx hu=> ?_⟩;rw[anU]at hx hu;split at hx
 ·rename_i hi;rw[if_pos hi]at hu;exact h.2 i x u hx hu
 ·cases hx
theorem aC.get{R:AV->Value->Prop}{xs:List AV}(h:aC R xs us){i:Nat}{x:AV}(hx:xs[i]? =some x):∃u,us[i]? =some u/\R x u:=by
 have hi:i<xs.length:=by
  rcases anr i xs.length with h'|h'
  ·exact h'
  ·grind
 have hu:us[i]? =some (us[i]'(by rw[<-h.1];exact hi)):=amX _;exact⟨_,hu,h.2 i x _ hx hu⟩
theorem aC.set{R:AV->Value->Prop}{xs:List AV}{us:List Value}(h:aC R xs us)(i:Nat){x:AV}{u:Value}(hr:R x u):aC R (xs.set i x) (us.set i u):=by
 refine⟨by simp[h.1],λ j y z hy hz=> ?_⟩;rw[aoJ]at hy hz;by_cases e:i=j
 ·grind
 ·rw[if_neg e]at hy hz;exact h.2 j y z hy hz
section
variable{d:Nat}{X Y:CX}
theorem beq_false{i d:Nat}(h:i≠d):Nat.beq i d=false:=by
 rw[anw];intro e;exact h (am3 e)
theorem C0.ext(hE:Ext d X Y){av:AV}{u:Value}(h:C0 X av u):C0 Y (dH d av) u:=by
 cases av with
 |own id=>
  by_cases e:id=d
  ·subst e;simp[dH,C0]
  ·simp only[dH,beq_false e,cond_false,C0]at h⊢;rw[(hE.ρ id e).hd];exact h
 |dn id s i k=>
  by_cases e:id=d
  ·subst e;simp[dH,C0]
  ·simp only[dH,beq_false e]at h⊢;obtain⟨b,n,c,h1,h2⟩:=h;have h3:=hE.ρ id e;rw[h1]at h3;exact⟨b,n,c,h3.sl,h2⟩
 |jB id s i k=>
  by_cases e:id=d
  ·subst e;simp[dH,C0]
  ·simp only[dH,beq_false e,cond_false,C0]at h⊢;rw[(hE.ρ id e).hd];exact h
 |box id off=>
  by_cases e:id=d
  ·subst e;simp[dH,C0]
  ·simp only[dH,beq_false e,cond_false,C0]at h⊢;rw[(hE.ρ id e).hd];exact h
 |cf g id off=>
  by_cases e:id=d
  ·subst e;simp[dH,C0]
  ·simp only[dH,beq_false e,cond_false,C0]at h⊢;rw[(hE.ρ id e).hd];exact h
 |el cs k=>
  obtain⟨b,o,us,e,kb,ha,hc⟩:=h;exact⟨b,o,us,e,hE.keep b kb,ha.imp (λ _ _=>PC.mono hE.keep hE.mem),λ j y hj=>(aoF (hE.mem b kb)).trans (hc j y hj)⟩
 |sl s n sc f=>exact PC.mono hE.keep hE.mem h
 |v x=>exact h
 |junk=>trivial
 |agg cs=>exact h
 |aZ cs=>exact h
 |fn g caps=>exact h
theorem C1.ext(hE:Ext d X Y){av:AV}{u:Value}(h:C1 X av u):C1 Y (ace d av) u:=by
 cases av with
 |agg cs=>obtain⟨us,e,ha⟩:=h;exact⟨us,e,ha.oZ λ _ _=>C0.ext hE⟩
 |fn g cs=>obtain⟨us,e,ha⟩:=h;exact⟨us,e,ha.oZ λ _ _=>C0.ext hE⟩
 |own id=>
  have:=C0.ext hE (av:= .own id) h;show C1 Y (dH d (.own id)) u;revert this;simp only[dH];cases Nat.beq id d<;>exact λ h=>h
 |dn id s i k=>
  have:=C0.ext hE (av:= .dn id s i k) h;show C1 Y (dH d (.dn id s i k)) u;revert this;simp only[dH];cases Nat.beq id d<;>exact λ h=>h
 |jB id s i k=>
  have:=C0.ext hE (av:= .jB id s i k) h;show C1 Y (dH d (.jB id s i k)) u;revert this;simp only[dH];cases Nat.beq id d<;>exact λ h=>h
 |box id off=>
  have:=C0.ext hE (av:= .box id off) h;show C1 Y (dH d (.box id off)) u;revert this;simp only[dH];cases Nat.beq id d<;>exact λ h=>h
 |cf g id off=>
  have:=C0.ext hE (av:= .cf g id off) h;show C1 Y (dH d (.cf g id off)) u;revert this;simp only[dH];cases Nat.beq id d<;>exact λ h=>h
 |el cs k=>exact C0.ext hE (av:= .el cs k) h
 |sl s n sc f=>exact C0.ext hE (av:= .sl s n sc f) h
 |v x=>exact h
 |junk=>trivial
 |aZ cs=>exact h
theorem C2.ext(hE:Ext d X Y){av:AV}{u:Value}(h:C2 X av u):C2 Y (uy d av) u:=by
 cases av with
 |aZ vs=>obtain⟨us,e,ha⟩:=h;exact⟨us,e,ha.oZ λ _ _=>C1.ext hE⟩
 |agg cs=>exact C1.ext hE (av:= .agg cs) h
 |fn g cs=>exact C1.ext hE (av:= .fn g cs) h
 |own id=>
  have:=C1.ext hE (av:= .own id) h;show C2 Y (dH d (.own id)) u;have h2:C1 Y (dH d (.own id)) u:=this;revert h2;simp only[dH];cases Nat.beq id d<;>exact λ h=>h
 |dn id s i k=>
  have h2:C1 Y (dH d (.dn id s i k)) u:=C1.ext hE (av:= .dn id s i k) h;show C2 Y (dH d (.dn id s i k)) u;revert h2;simp only[dH];cases Nat.beq id d<;>exact λ h=>h
 |jB id s i k=>
  have h2:C1 Y (dH d (.jB id s i k)) u:=C1.ext hE (av:= .jB id s i k) h;show C2 Y (dH d (.jB id s i k)) u;revert h2;simp only[dH];cases Nat.beq id d<;>exact λ h=>h
 |box id off=>
  have h2:C1 Y (dH d (.box id off)) u:=C1.ext hE (av:= .box id off) h;show C2 Y (dH d (.box id off)) u;revert h2;simp only[dH];cases Nat.beq id d<;>exact λ h=>h
 |cf g id off=>
  have h2:C1 Y (dH d (.cf g id off)) u:=C1.ext hE (av:= .cf g id off) h;show C2 Y (dH d (.cf g id off)) u;revert h2;simp only[dH];cases Nat.beq id d<;>exact λ h=>h
 |el cs k=>exact C1.ext hE (av:= .el cs k) h
 |sl s n sc f=>exact C1.ext hE (av:= .sl s n sc f) h
 |v x=>exact h
 |junk=>trivial
theorem C0.same(hk:∀b,X.keep b->Y.keep b)(hm:∀b,X.keep b->Y.w.heap[b]? =X.w.heap[b]?)(hρ:Y.ρ=X.ρ){av:AV}{u:Value}(h:C0 X av u):C0 Y av u:=by
 cases av with
 |own id=>simp only[C0]at h⊢;rw[hρ];exact h
 |dn id s i k=>simp only[C0]at h⊢;rw[hρ];exact h
 |jB id s i k=>simp only[C0]at h⊢;rw[hρ];exact h
 |box id off=>simp only[C0]at h⊢;rw[hρ];exact h
 |cf g id off=>simp only[C0]at h⊢;rw[hρ];exact h
 |el cs k=>
  obtain⟨b,o,us,e,kb,ha,hc⟩:=h;exact⟨b,o,us,e,hk b kb,ha.imp (λ _ _=>PC.mono hk hm),λ j y hj=>(aoF (hm b kb)).trans (hc j y hj)⟩
 |sl s n sc f=>exact PC.mono hk hm h
 |v x=>exact h
 |junk=>trivial
 |agg cs=>exact h
 |aZ cs=>exact h
 |fn g caps=>exact h
theorem C1.same(hk:∀b,X.keep b->Y.keep b)(hm:∀b,X.keep b->Y.w.heap[b]? =X.w.heap[b]?)(hρ:Y.ρ=X.ρ){av:AV}{u:Value}(h:C1 X av u):C1 Y av u:=by
 cases av with
 |agg cs=>obtain⟨us,e,ha⟩:=h;exact⟨us,e,ha.imp λ _ _=>C0.same hk hm hρ⟩
 |fn g cs=>obtain⟨us,e,ha⟩:=h;exact⟨us,e,ha.imp λ _ _=>C0.same hk hm hρ⟩
 |own id=>exact C0.same hk hm hρ (av:= .own id) h
 |dn id s i k=>exact C0.same hk hm hρ (av:= .dn id s i k) h
 |jB id s i k=>exact C0.same hk hm hρ (av:= .jB id s i k) h
 |box id off=>exact C0.same hk hm hρ (av:= .box id off) h
 |cf g id off=>exact C0.same hk hm hρ (av:= .cf g id off) h
 |el cs k=>exact C0.same hk hm hρ (av:= .el cs k) h
 |sl s n sc f=>exact C0.same hk hm hρ (av:= .sl s n sc f) h
 |v x=>exact h
 |junk=>trivial
 |aZ cs=>exact h
theorem C2.same(hk:∀b,X.keep b->Y.keep b)(hm:∀b,X.keep b->Y.w.heap[b]? =X.w.heap[b]?)(hρ:Y.ρ=X.ρ){av:AV}{u:Value}(h:C2 X av u):C2 Y av u:=by
 cases av with
 |aZ vs=>obtain⟨us,e,ha⟩:=h;exact⟨us,e,ha.imp λ _ _=>C1.same hk hm hρ⟩
 |agg cs=>exact C1.same hk hm hρ (av:= .agg cs) h
 |fn g cs=>exact C1.same hk hm hρ (av:= .fn g cs) h
 |own id=>exact C1.same hk hm hρ (av:= .own id) h
 |dn id s i k=>exact C1.same hk hm hρ (av:= .dn id s i k) h
 |jB id s i k=>exact C1.same hk hm hρ (av:= .jB id s i k) h
 |box id off=>exact C1.same hk hm hρ (av:= .box id off) h
 |cf g id off=>exact C1.same hk hm hρ (av:= .cf g id off) h
 |el cs k=>exact C1.same hk hm hρ (av:= .el cs k) h
 |sl s n sc f=>exact C1.same hk hm hρ (av:= .sl s n sc f) h
 |v x=>exact h
 |junk=>trivial
end
theorem C2.uO{X:CX}{av:AV}(h:C0 X av u):C2 X av u:=by
 cases av<;>first|exact h|exact h.elim
theorem C2.mg{X:CX}{av:AV}(h:C1 X av u):C2 X av u:=by
 cases av<;>first|exact h|exact(h).elim
theorem C1.uO{X:CX}{av:AV}(h:C0 X av u):C1 X av u:=by
 cases av<;>first|exact h|exact h.elim
theorem C0.RS{X:CX}{av:AV}(h:PC X.w X.keep av u):C0 X av u:=by
 cases h with
 |v x h=>rfl
 |sl s n sc f A c us hs hn hc hl hf hsc hu hr=>exact .sl s n sc f A c us hs hn hc hl hf hsc hu hr
def ah(ρ:Nat->Value)(h:List (Nat×AO)):List Nat:=h.flatMap λ p=>blks (ρ p.1)
structure Base where
 w:World
 keep:Nat->Prop
 mu:Nat->Prop
 ds:List Deferred
abbrev dN(w:World)(keep mu:Nat->Prop):Base:=⟨w,keep,mu,[]⟩
abbrev base0(w:World)(keep:Nat->Prop):Base:=dN w keep λ _=>False
def aH(g:Base)(w:World)(ρ:Nat->Value)(h:List (Nat×AO))(b:Nat):Prop:=b<w.heap.size/\(b<g.w.heap.size->g.keep b\/g.mu b)/\b ∉ ah ρ h
structure dG(M:Nat->Prop)(B:Nat)(w w':World):Prop where
 os:w'.os=w.os
 tape:w'.tape=w.tape
 output:w'.output=w.output
 size:w.heap.size<=w'.heap.size
 block:∀k,k<B-> ¬M k->w'.heap[k]? =w.heap[k]?
theorem dG.refl(M:Nat->Prop)(B:Nat)(w:World):dG M B w w:=⟨rfl,rfl,rfl,ani _,λ _ _ _=>rfl⟩
theorem dG.trans{M:Nat->Prop}{B:Nat}{a b c:World}(h:dG M B a b)(k:dG M B b c):dG M B a c:=
 ⟨k.os.trans h.os,k.tape.trans h.tape,k.output.trans h.output,anK h.size k.size,λ i hi hm=>(k.block i hi hm).trans (h.block i hi hm)⟩
theorem dG.of(h:Below B w w'):dG M B w w':=⟨h.os,h.tape,h.output,h.size,λ k hk _=>h.block k hk⟩
theorem dG.less(h:dG M B w w')(hM:∀k,¬M k):Below B w w':=⟨h.os,h.tape,h.output,h.size,λ k hk=>h.block k hk (hM k)⟩
theorem dG.then{B':Nat}{b c:World}(h:dG M B a b)(k:Below B' b c)(hB:B<=B'):dG M B a c:=h.trans (.of (k.mono hB))
theorem dG.write{b:Nat}(h:dG M B a w)(hb:B<=b\/M b)(k:Below b w w')(hm:∀i,i≠b->w'.heap[i]? =w.heap[i]?):dG M B a w':=
 h.trans ⟨k.os,k.tape,k.output,k.size,λ i hi hM=>hm i (by rintro rfl;rcases hb with hb|hb;omega;exact hM hb)⟩
theorem dG.alloc{M:Nat->Prop}{B:Nat}{a w:World}(h:dG M B a w)(hB:B<=w.heap.size)(o:Obj):dG M B a (w.alloc o):=h.then ((aob _ _).alloc (ani _) o) hB
theorem dG.grown{row:Option Nat}(h:dG M B a w)(hg:w.grownBy w' row)(hB:B<=w.heap.size)(hr:∀k,row=some k->B<=k\/M k):dG M B a w':=
 h.trans ⟨hg.os,hg.tape,hg.output,hg.size,λ k hk hM=>hg.block k o_ (λ e=>by rcases hr k e.symm with h|h;omega;exact hM h)⟩
def aA(g:Base)(w:World)(ρ:Nat->Value)(h:List (Nat×AO)):CX:=⟨w,aH g w ρ h,ρ⟩
def RU(ρ:Nat->Value):Nat->Value:=λ i=>dD (ρ i)
def jJ(ρ:Nat->Value):List (ByteArray×Option Nat)->List Value->Prop
 |[],vs=>vs=[]
 |(_,o)::l,vs=> ∃v r,vs=v::r/\(∀i,o=some i->v=ρ i)/\jJ ρ l r
def mF:List ByteArray->List Value->List (Value×Value)
 |k::l,v::r=>(match v with| .slice none _ _=>mF l r|v=>(.string k,v)::mF l r)
 |_,_=>[]
theorem nK(d:Nat):∀ks:List (ByteArray×Option Nat),(yt d ks).map (·.1)=ks.map (·.1)
 |[]=>rfl
 |(k,some i)::l=>by simp[yt,nK d l]
 |(k,none)::l=>by simp[yt,nK d l]
theorem jJ.imp{ρ ρ':Nat->Value}:∀{ks:List (ByteArray×Option Nat)}{vs:List Value},(∀p∈ks,∀i,p.2=some i->ρ' i=ρ i)->jJ ρ ks vs->jJ ρ' ks vs
 |[],_,_,k=>k
 |(k,o)::l,vs,h,⟨v,r,e,hi,hr⟩=>⟨v,r,e,λ j hj=>by rw[h (k,o) amW j hj];exact hi j hj,jJ.imp (λ p hp=>h p (am1 _ hp)) hr⟩
theorem jJ.yu{ρ ρ':Nat->Value}{d:Nat}(h:∀i,i≠d->ρ' i=ρ i):∀{ks:List (ByteArray×Option Nat)}{vs:List Value},jJ ρ ks vs->jJ ρ' (yt d ks) vs
 |[],_,k=>k
 |(k,some i)::l,vs,⟨v,r,e,hi,hr⟩=>⟨v,r,e,λ j hj=>by
   by_cases hd:i=d
   ·subst hd;simp at hj
   ·have:Nat.beq i d=false:=by rw[anw];intro e;exact hd (am3 e)
    rw[this]at hj;cases hj;rw[h _ hd];exact hi _ rfl,jJ.yu h hr⟩
 |(k,none)::l,vs,⟨v,r,e,_,hr⟩=>⟨v,r,e,λ j hj=>(by cases hj),jJ.yu h hr⟩
def oO(X:CX)(v:Value)(e:TypeId)(s n:Nat)(sc:Bool)(f:Nat->List AV):Prop:=
 ∃us,X.w.ownsRow 0 e s v n us/\0<s/\(∀i,i<n->(f i).length=s)/\(sc=true-> ∀x∈flat n f,∃y,x= .v y)/\aC (PC X.w X.keep) (flat n f) us
def jl(X:CX):List (ByteArray×RW)->List Value->Prop
 |[],vs=>vs=[]
 |(_,r)::l,vs=> ∃v q,vs=v::q/\oO X v r.e r.s r.n r.sc r.f/\jl X l q
def aQ(X:CX)(id:Nat):AO->Prop
 | .box t cs=> ∃b us,X.ρ id= .pointer (some ⟨b,0,none⟩)/\X.w.heap[b]? =some (.cells us.toArray t (0,0))/\aC (C0 X) cs us
 | .row e s n sc f=>oO X (X.ρ id) e s n sc f
 | .mp _ ks rs=> ∃b es c vs hs,X.ρ id= .tuple (.map (some b):: .map (some b)::hs).toArray/\X.w.heap[b]? =some (.map es c)/\jJ (RU X.ρ) ks vs/\jl X rs hs/\(es.toList.map λ e=>(e.key,e.val)).Perm (mF (ks.map (·.1)++rs.map (·.1)) (vs++hs))/\(ks.map (·.1)++rs.map (·.1)).Nodup/\MapKept.Stamped es c
 | .obs o=> ∃us,X.ρ id= .tuple us/\o.R X.w X.keep (X.ρ id)
 | .rn e cs=> ∃us,(X.w.ownsRow 0 e 1 (X.ρ id) cs.length us/\ ∀u∈us,u.oneCell'=true)/\aC (C0 X) cs us
def mG(X:CX):List (List (Nat×AV))->List (Array Value)->Prop
 |[],[]=>True
 |f::fs,b::bs=>(∀t,C2 X (sQ f t) (b.getD t undef))/\mG X fs bs
 |_,_=>False
theorem mG.map{X Y:CX}{m:AV->AV}(hm:m .junk= .junk)(h:∀x u,C2 X x u->C2 Y (m x) u):∀{fs:List (List (Nat×AV))}{bs:List (Array Value)},mG X fs bs->mG Y (fs.map (uw m)) bs
 |[],[],_=>trivial
 |_::_,_::_,k=>⟨λ t=>by rw[pV hm];exact h _ _ (k.1 t),mG.map hm h k.2⟩
 |[],_::_,k=>k.elim
 |_::_,[],k=>k.elim
theorem mG.imp{X Y:CX}(h:∀x u,C2 X x u->C2 Y x u):∀{fs:List (List (Nat×AV))}{bs:List (Array Value)},mG X fs bs->mG Y fs bs
 |[],[],_=>trivial
 |_::_,_::_,k=>⟨λ t=>h _ _ (k.1 t),mG.imp h k.2⟩
 |[],_::_,k=>k.elim
 |_::_,[],k=>k.elim
structure Rel(g:Base)(N:Nat)(bs:List (Array Value))(ρ:Nat->Value)(a:Act)(w:World)(st:AS):Prop where
 size:a.tmps.size=N
 defers:a.defers=g.ds
 below:dG g.mu g.w.heap.size g.w w
 tmps:∀t,C2 (aA g w ρ st.heap) (st.tmps t) (a.tmps.getD t undef)
 objs:∀p∈st.heap,aQ (aA g w ρ st.heap) p.1 p.2
 apart:(ah ρ st.heap).Nodup
 own:∀b,b∈ah ρ st.heap->g.w.heap.size<=b\/g.mu b
 back:mG (aA g w ρ st.heap) st.back bs
def upd(d:Nat)(x:AV)(f:Nat->AV):Nat->AV:=λ t=>bif Nat.beq t d then x else f t
def AS.put(st:AS)(d:Nat)(x:AV):AS:=⟨(d,x)::st.sl,st.heap,st.back,st.base⟩
def gone(d j:Nat)(h:List (Nat×AO)):List (Nat×AO):=h.filter λ p=> !(Nat.beq p.1 d||Nat.beq p.1 j)
def qC(d:Nat)(h:List (Nat×AO)):List (Nat×AO):=h.map λ p=>(p.1,p.2.yu d)
def AS.obj(st:AS)(d j:Nat)(o:AO):AS:=⟨uw (uy d) st.sl,(d,o.yu d)::qC d (gone d j st.heap),st.back.map (uw (uy d)),Nat.add d 1⟩
def bZ(ρ:Nat->Value)(d:Nat)(u:Value):Nat->Value:=λ i=>if i=d then u else ρ i
theorem aN{h:List (Nat×AO)}{b:Nat}:b∈ah ρ h↔ ∃p∈h,b∈blks (ρ p.1):=by simp[ah]
theorem aP(ρ:Nat->Value)(p:Nat×AO)(h:List (Nat×AO)):ah ρ (p::h)=blks (ρ p.1)++ah ρ h:=rfl
theorem nS{ρ:Nat->Value}:∀{h:List (Nat×AO)},(ah ρ h).Nodup-> ∀{p:Nat×AO},p∈h->(blks (ρ p.1)).Nodup
 |[],_,p,hp=>by cases hp
 |q::h,hn,p,hp=>by
  rw[aP,anM]at hn;rcases am4.1 hp with rfl|hp
  ·exact hn.1
  ·exact nS hn.2.1 hp
theorem Ij{X:CX}:∀{rs:List (ByteArray×RW)}{hs:List Value},jl X rs hs-> ∀b∈hs.flatMap iK,b<X.w.heap.size
 |[],_,h,b,hb=>by rw[show _=[]from h]at hb;cases hb
 |(_,r)::l,_,⟨v,q,e,⟨us,hown,_⟩,hq⟩,b,hb=>by
  subst e;rw[anN]at hb;rcases am6.1 hb with hb|hb
  ·rcases hown.2 with⟨rfl,_⟩|⟨g,cap,cur,rfl,hg,hh,r⟩
   ·cases hb
   ·rw[amZ.1 hb];exact(anQ.1 hh).1
  ·exact Ij hq b hb
theorem AZ{p:Nat×AO}{h:List (Nat×AO)}(hn:(ah ρ (p::h)).Nodup):(ah ρ h).Nodup:=by
 exact(anM.1 hn).2.1
theorem fQ{q:Nat×AO->Bool}{h:List (Nat×AO)}{b:Nat}(hb:b∈ah ρ (h.filter q)):b∈ah ρ h:=by
 rw[aN]at hb⊢;obtain⟨p,hp,e⟩:=hb;exact⟨p,(ana.1 hp).1,e⟩
theorem qM{ρ:Nat->Value}{q:Nat×AO->Bool}:∀{h:List (Nat×AO)},(ah ρ h).Nodup->(ah ρ (h.filter q)).Nodup
 |[],_=>by simp[ah]
 |p::h,hn=>by
  have ih:=qM (q:=q) (AZ hn);rw[anX];split
  ·rw[aP]at hn⊢;rw[anM]at hn⊢;exact⟨hn.1,ih,λ x hx y hy=>hn.2.2 x hx y (fQ hy)⟩
  ·exact ih
theorem fE{ρ:Nat->Value}{b:Nat}:∀{h:List (Nat×AO)},(ah ρ h).Nodup-> ∀p∈h,∀q∈h,b∈blks (ρ p.1)->b∈blks (ρ q.1)->p.1=q.1
 |[],_,p,hp,_,_,_,_=>by cases hp
 |r::h,hn,p,hp,q,hq,e1,e2=>by
  have ht:=AZ hn;rw[aP,anM]at hn;rcases am4.1 hp with rfl|hp'
  ·rcases am4.1 hq with rfl|hq'
   ·rfl
   ·exact absurd rfl (hn.2.2 b e1 b (aN.2 ⟨q,hq',e2⟩))
  ·rcases am4.1 hq with rfl|hq'
   ·exact absurd rfl (hn.2.2 b e2 b (aN.2 ⟨p,hp',e1⟩))
   ·exact fE ht p hp' q hq' e1 e2
theorem qN(ρ:Nat->Value)(d:Nat)(h:List (Nat×AO)):ah ρ (qC d h)=ah ρ h:=by
 simp[ah,qC,List.flatMap_map]
theorem F9{h:List (Nat×AO)}(hd:∀p∈h,p.1≠d):ah (bZ ρ d u) h=ah ρ h:=by
 induction h with
 |nil=>rfl
 |cons p h ih=>
  rw[aP,aP,ih (λ q hq=>hd q (by simp[hq]))];simp[bZ,hd p s_]
theorem Az(h:w.ownsRow B e s v n us)(hm:∀b∈blks v,w'.heap[b]? =w.heap[b]?):w'.ownsRow B e s v n us:=by
 refine⟨h.1, ?_⟩;rcases h.2 with hn|⟨g,cap,cur,rfl,hg,hh,r⟩
 ·exact .inl hn
 ·exact .inr ⟨g,cap,cur,rfl,hg,(hm g amW).trans hh,r⟩
theorem dY(h:w.ownsRow B e s v n us):dD v=v:=by
 rcases h.2 with⟨rfl,_⟩|⟨g,cap,cur,rfl,_⟩<;>rfl
theorem acf(h:w.ownsRow B e s v n us):blks v=v.ownBlock.toList:=by
 rcases h.2 with⟨rfl,_⟩|⟨g,cap,cur,rfl,_⟩<;>rfl
theorem Ik(h:w.ownsRow B e s v n us):iK v=blks v:=by
 rcases h.2 with⟨rfl,_⟩|⟨g,cap,cur,rfl,_⟩<;>rfl
theorem CV{X:CX}{sc:Bool}{f:Nat->List AV}(h:aQ X id (.row e s n sc f)):dD (X.ρ id)=X.ρ id:=by
 obtain⟨us,hown,_⟩:=h;exact dY hown
theorem ru(h:w.ownsRow B e s v n us):(blks v).Nodup:=by
 rcases h.2 with⟨rfl,_⟩|⟨g,cap,cur,rfl,_⟩<;>simp[blks,iK]
theorem oO.mono{X Y:CX}{v:Value}{e:TypeId}{s n:Nat}{sc:Bool}{f:Nat->List AV}(hk:∀b,X.keep b->Y.keep b)(hmk:∀b,X.keep b->Y.w.heap[b]? =X.w.heap[b]?)(hm:∀b∈blks v,Y.w.heap[b]? =X.w.heap[b]?)(h:oO X v e s n sc f):oO Y v e s n sc f:=by
 obtain⟨us,ho,hs,hf,hsc,ha⟩:=h;exact⟨us,Az ho hm,hs,hf,hsc,ha.imp λ _ _=>PC.mono hk hmk⟩
theorem jl.mono{X Y:CX}(hk:∀b,X.keep b->Y.keep b)(hmk:∀b,X.keep b->Y.w.heap[b]? =X.w.heap[b]?):∀{rs:List (ByteArray×RW)}{hs:List Value},(∀b∈hs.flatMap iK,Y.w.heap[b]? =X.w.heap[b]?)->jl X rs hs->jl Y rs hs
 |[],_,_,h=>h
 |(_,r)::l,_,hm,⟨v,q,e,hr,hq⟩=>by
  subst e;rw[anN]at hm;have hb:iK v=blks v:=by obtain⟨us,ho,_⟩:=hr;exact Ik ho
  exact⟨v,q,rfl,hr.mono hk hmk (λ b hb'=>hm b (anv _ (by rw[hb];exact hb'))),jl.mono hk hmk (λ b hb'=>hm b (anx _ hb')) hq⟩
theorem aQ.move{X Y:CX}{id':Nat}{o o':AO}(hk:∀b,X.keep b->Y.keep b)(hmk:∀b,X.keep b->Y.w.heap[b]? =X.w.heap[b]?)(hid:Y.ρ id'=X.ρ id)(hm:∀b∈blks (X.ρ id),Y.w.heap[b]? =X.w.heap[b]?)
  (ho:match o,o' with| .box t cs,.box t' cs'=>t'=t/\ ∀us,aC (C0 X) cs us->aC (C0 Y) cs' us| .row e s n sc f,o'=>o'= .row e s n sc f| .mp t ks rs,.mp t' ks' rs'=>t'=t/\rs'=rs/\ks'.map (·.1)=ks.map (·.1)/\ ∀vs,jJ (RU X.ρ) ks vs->jJ (RU Y.ρ) ks' vs| .obs o,o'=>o'= .obs o| .rn e cs,.rn e' cs'=>e'=e/\cs'.length=cs.length/\ ∀us,aC (C0 X) cs us->aC (C0 Y) cs' us|_,_=>False)
  (h:aQ X id o):aQ Y id' o':=by
 cases o with
 |box t cs=>
  cases o' with
  |box t' cs'=>
   obtain⟨rfl,ho⟩:=ho;obtain⟨b,us,e,hh,ha⟩:=h;exact⟨b,us,by rw[hid];exact e,(hm b (by rw[e];exact amW)).trans hh,ho us ha⟩
  |row=>exact ho.elim
  |mp=>exact ho.elim
  |obs=>exact ho.elim
  |rn=>exact ho.elim
 |row e s n sc f=>
  subst ho;show oO Y (Y.ρ id') e s n sc f;rw[hid];exact oO.mono hk hmk hm h
 |mp t ks rs=>
  cases o' with
  |mp t' ks' rs'=>
   obtain⟨rfl,rfl,hkk,ho⟩:=ho;obtain⟨b,es,c,vs,hs,e,hh,hi,hr,hp,hn⟩:=h;rw[e]at hm;exact⟨b,es,c,vs,hs,by rw[hid];exact e,(hm b amW).trans hh,ho vs hi,hr.mono hk hmk (λ b hb=>hm b (am1 _ hb)),by rw[hkk];exact hp,by rw[hkk];exact hn.1,hn.2⟩
  |row=>exact ho.elim
  |box=>exact ho.elim
  |obs=>exact ho.elim
  |rn=>exact ho.elim
 |obs o=>
  subst ho;obtain⟨us,e,hr⟩:=h;exact⟨us,by rw[hid];exact e,by rw[hid];exact o.mono hk hmk hm hr⟩
 |rn e cs=>
  cases o' with
  |rn e' cs'=>
   obtain⟨rfl,hlen,ho⟩:=ho;obtain⟨us,⟨hown,hone⟩,ha⟩:=h;exact⟨us,⟨by rw[hid,hlen];exact Az hown hm,hone⟩,ho us ha⟩
  |row=>exact ho.elim
  |mp=>exact ho.elim
  |obs=>exact ho.elim
  |box=>exact ho.elim
theorem aQ.same{X Y:CX}{id:Nat}{o:AO}(hk:∀b,X.keep b->Y.keep b)(hmk:∀b,X.keep b->Y.w.heap[b]? =X.w.heap[b]?)(hρ:Y.ρ=X.ρ)(hm:∀b∈blks (X.ρ id),Y.w.heap[b]? =X.w.heap[b]?)(h:aQ X id o):aQ Y id o:=by
 refine aQ.move hk hmk (by rw[hρ]) hm ?_ h;cases o with
 |box t cs=>exact⟨rfl,λ us ha=>ha.imp λ _ _=>C0.same hk hmk hρ⟩
 |row=>rfl
 |mp t ks rs=>exact⟨rfl,rfl,rfl,λ vs hv=>by rw[hρ];exact hv⟩
 |obs o=>rfl
 |rn e cs=>exact⟨rfl,rfl,λ us ha=>ha.imp λ _ _=>C0.same hk hmk hρ⟩
theorem aQ.lt{X:CX}{id:Nat}{o:AO}(h:aQ X id o):∀b∈blks (X.ρ id),b<X.w.heap.size:=by
 cases o with
 |box t cs=>
  obtain⟨b,us,e,hh,ha⟩:=h;intro c hc;rw[e]at hc;rw[amZ.1 hc];exact(anQ.1 hh).1
 |row e s n sc f=>
  obtain⟨us,hown,_⟩:=h;intro c hc;rcases hown.2 with⟨hv,_⟩|⟨g,cap,cur,hv,hg,hh,r⟩
  ·rw[hv]at hc;cases hc
  ·rw[hv]at hc;rw[amZ.1 hc];exact(anQ.1 hh).1
 |mp t ks rs=>
  obtain⟨b,es,c,vs,hs,e,hh,hi,hr,hp,hn⟩:=h;intro q hq;rw[e]at hq;rcases am4.1 hq with rfl|hq
  ·grind
  ·exact Ij hr q hq
 |obs o=>
  obtain⟨us,e,hr⟩:=h;exact(o.lt hr).1
 |rn e cs=>
  obtain⟨us,⟨hown,_⟩,_⟩:=h;intro c hc;rcases hown.2 with⟨hv,_⟩|⟨g,cap,cur,hv,hg,hh,r⟩
  ·rw[hv]at hc;cases hc
  ·rw[hv]at hc;rw[amZ.1 hc];exact(anQ.1 hh).1
theorem aQ.ext{X Y:CX}{d id:Nat}{o:AO}(hE:Ext d X Y)(hid:Y.ρ id=X.ρ id)(hm:∀b∈blks (X.ρ id),Y.w.heap[b]? =X.w.heap[b]?)(h:aQ X id o):aQ Y id (o.yu d):=by
 refine aQ.move hE.keep hE.mem hid hm ?_ h;cases o with
 |box t cs=>exact⟨rfl,λ us ha=>ha.oZ λ _ _=>C0.ext hE⟩
 |row=>rfl
 |mp t ks rs=>exact⟨rfl,rfl,nK d ks,λ vs hv=>hv.yu λ i hi=>(hE.ρ i hi).hd⟩
 |obs o=>rfl
 |rn e cs=>exact⟨rfl,s_,λ us ha=>ha.oZ λ _ _=>C0.ext hE⟩
theorem yw{j:Nat}{h:List (Nat×AO)}{p:Nat×AO}:p∈gone d j h↔p∈h/\p.1≠d/\p.1≠j:=by
 unfold gone;rw[ana];constructor
 ·rintro⟨h1,h2⟩;refine⟨h1, ?_, ?_⟩<;>(intro e;simp[e]at h2)
 ·rintro⟨h1,h2,h3⟩;exact⟨h1,by simp[beq_false h2,beq_false h3]⟩
section
variable{g:Base}{N:Nat}{bs:List (Array Value)}{ρ:Nat->Value}{a:Act}{w:World}{st:AS}
theorem Rel.put(R:Rel g N bs ρ a w st){d:Nat}{x:AV}{u:Value}(hd:d<N)(h:C2 (aA g w ρ st.heap) x u):Rel g N bs ρ (a.put (some d) u) w (st.put d x):=by
 refine⟨?_,R.defers,R.below,λ t=> ?_,R.objs,R.apart,R.own,R.back⟩
 ·simpa[Act.put]using R.size
 ·show C2 _ (upd d x st.tmps t) ((a.tmps.setIfInBounds d u).getD t undef);by_cases e:t=d
  ·subst e;have hd':t<a.tmps.size:=by rw[R.size];exact hd
   have e1:(a.tmps.setIfInBounds t u).getD t undef=u:=by simp[hd']
   rw[e1];simp only[upd,apv];exact h
  ·have e1:(a.tmps.setIfInBounds d u).getD t undef=a.tmps.getD t undef:=by
    simp[apn e]
   rw[e1];simp only[upd,beq_false e];exact R.tmps t
theorem Rel.world(R:Rel g N bs ρ a w st){w':World}(hb:Below w.heap.size w w'):Rel g N bs ρ a w' st:=by
 have hk:∀b,aH g w ρ st.heap b->aH g w' ρ st.heap b:=λ b h=>⟨aon h.1 hb.size,h.2⟩;have hm:∀b,aH g w ρ st.heap b->w'.heap[b]? =w.heap[b]? :=λ b h=>hb.block b h.1;refine⟨R.size,R.defers,R.below.then hb R.below.size,λ t=>C2.same (X:=aA g w ρ st.heap) (Y:=aA g w' ρ st.heap) hk hm rfl (R.tmps t),λ p hp=> ?_,R.apart,R.own,R.back.imp λ _ _=>C2.same (X:=aA g w ρ st.heap) (Y:=aA g w' ρ st.heap) hk hm rfl⟩;have ho:=R.objs p hp;exact aQ.same (X:=aA g w ρ st.heap) hk hm rfl (λ b hb'=>hb.block b (ho.lt b hb')) ho
theorem Rel.jK(R:Rel g N bs ρ a w st){b:Nat}(h:b∈ah ρ st.heap):b<w.heap.size/\(g.w.heap.size<=b\/g.mu b):=by
 refine⟨?_,R.own b h⟩;obtain⟨p,hp,e⟩:=aN.1 h;exact(R.objs p hp).lt b e
theorem Rel.obj(R:Rel g N bs ρ a w st)(d j:Nat){w':World}{nv:Value}{o:AO}(hb:dG g.mu g.w.heap.size g.w w')(hsz:w.heap.size<=w'.heap.size)
  (hmem:∀b,b<w.heap.size->(∀p∈st.heap,p.1=j-> ¬b∈blks (ρ j))->w'.heap[b]? =w.heap[b]?)
  (hnv:∀b∈blks nv,w.heap.size<=b\/ ∃p∈st.heap,p.1=j/\b∈blks (ρ j))
  (jg:Ext d (aA g w ρ st.heap) (aA g w' (bZ ρ d nv) (st.obj d j o).heap)->aQ (aA g w' (bZ ρ d nv) (st.obj d j o).heap) d (o.yu d))(hnd:(blks nv).Nodup:=by simp[blks,iK]):
  Rel g N bs (bZ ρ d nv) a w' (st.obj d j o):=by
 have hgd:∀p∈gone d j st.heap,p.1≠d:=λ p hp=>(yw.1 hp).2.1;have hgs:∀p∈qC d (gone d j st.heap),p.1≠d:=by
  intro p hp;simp only[qC,ant]at hp;obtain⟨q,hq,rfl⟩:=hp;exact hgd q hq
 have hblocks:ah (bZ ρ d nv) (st.obj d j o).heap=blks nv++ah ρ (gone d j st.heap):=by
  show ah _ (_::_)=_;rw[aP,F9 hgs,qN];simp[bZ]
 have hsub:∀b,b∈ah ρ (gone d j st.heap)->b∈ah ρ st.heap:=λ b h=>fQ h;have alB:∀b,b∈ah ρ (gone d j st.heap)-> ∀p∈st.heap,p.1=j-> ¬b∈blks (ρ j):=by
  intro b hb p hp hpj e;obtain⟨q,hq,hqe⟩:=aN.1 hb;have:=fE R.apart q (yw.1 hq).1 p hp hqe (by rw[hpj];exact e);exact(yw.1 hq).2.2 (this.trans hpj)
 have hE:Ext d (aA g w ρ st.heap) (aA g w' (bZ ρ d nv) (st.obj d j o).heap):=by
  refine⟨λ b hk=>⟨aon hk.1 hsz,hk.2.1, ?_⟩,λ b hk=>hmem b hk.1 λ p hp hpj e=>hk.2.2 (aN.2 ⟨p,hp,by rw[hpj];exact e⟩),λ i hi=> .inl (by simp[aA,bZ,hi])⟩;rw[hblocks,am6];rintro(h|h)
  ·rcases hnv b h with hge|⟨p,hp,hpj,e⟩
   ·exact absurd hk.1 o_
   ·exact hk.2.2 (aN.2 ⟨p,hp,by rw[hpj];exact e⟩)
  ·exact hk.2.2 (hsub b h)
 refine⟨R.size,R.defers,hb,λ t=>by rw[show(st.obj d j o).tmps t=uy d (st.tmps t)from pV rfl st.sl t];exact C2.ext hE (R.tmps t), ?_, ?_, ?_,R.back.map rfl λ _ _=>C2.ext hE⟩
 ·intro p hp;rcases am4.1 hp with rfl|hp'
  ·exact jg hE
  ·simp only[qC,ant]at hp';obtain⟨q,hq,rfl⟩:=hp';have hq':=yw.1 hq;refine aQ.ext hE (by simp[aA,bZ,hq'.2.1]) (λ b hb=> ?_) (R.objs q hq'.1);have hm:=aN.2 ⟨q,hq,hb⟩;exact hmem b (R.jK (hsub b hm)).1 (alB b hm)
 ·rw[hblocks,anM];refine⟨hnd,qM R.apart, ?_⟩
  ·intro x hx y hy e;subst e;rcases hnv x hx with hge|⟨p,hp,hpj,e⟩
   ·exact absurd (R.jK (hsub x hy)).1 o_
   ·grind
 ·intro x hx;rw[hblocks,am6]at hx;rcases hx with hx|hx
  ·rcases hnv x hx with hge|⟨p,hp,hpj,e⟩
   ·exact .inl (anK R.below.size hge)
   ·exact R.own x (aN.2 ⟨p,hp,by rw[hpj];exact e⟩)
  ·exact R.own x (hsub x hx)
def setObj(id:Nat)(o:AO):List (Nat×AO)->List (Nat×AO)
 |[]=>[]
 |p::h=>bif Nat.beq p.1 id then(p.1,o)::h else p::setObj id o h
def aG(id:Nat):List (Nat×AO)->Option AO
 |[]=>none
 |p::h=>bif Nat.beq p.1 id then some p.2 else aG id h
theorem au{id:Nat}{o:AO}:∀{h:List (Nat×AO)},aG id h=some o->(id,o)∈h
 |[],e=>by cases e
 |p::h,e=>by
  simp only[aG]at e;cases hb:Nat.beq p.1 id with
  |true=>
   rw[hb]at e;simp only[cond_true,ank]at e;have:=am3 hb;rw[<-this,<-e];exact amW
  |false=>
   rw[hb]at e;exact am1 _ (au e)
theorem jC(ρ:Nat->Value)(id:Nat)(o:AO):∀h,ah ρ (setObj id o h)=ah ρ h
 |[]=>rfl
 |p::h=>by
  simp only[setObj];cases Nat.beq p.1 id with
  |true=>simp only[cond_true];rw[aP,aP]
  |false=>simp only[cond_false];rw[aP,aP,jC ρ id o h]
theorem vZ{id:Nat}{o:AO}{p:Nat×AO}:∀{h:List (Nat×AO)},p∈setObj id o h->p=(id,o)\/p∈h
 |[],hp=>by cases hp
 |q::h,hp=>by
  simp only[setObj]at hp;cases hb:Nat.beq q.1 id with
  |true=>
   rw[hb]at hp;rcases am4.1 hp with rfl|hp'
   ·left;rw[am3 hb]
   ·right;exact am1 _ hp'
  |false=>
   rw[hb]at hp;rcases am4.1 hp with rfl|hp'
   ·right;exact amW
   ·rcases vZ hp' with h'|h'
    ·exact .inl h'
    ·exact .inr (am1 _ h')
theorem Rel.write(R:Rel g N bs ρ a w st){id b:Nat}{w':World}{o o':AO}(hf:aG id st.heap=some o)(hbk:b∈blks (ρ id))(hb:Below b w w')(hsz:w'.heap.size=w.heap.size)
  (hmem:∀k,k≠b->w'.heap[k]? =w.heap[k]?)(jg:(∀k,aH g w ρ st.heap k->aH g w' ρ (setObj id o' st.heap) k)->(∀k,aH g w ρ st.heap k->w'.heap[k]? =w.heap[k]?)->aQ (aA g w' ρ (setObj id o' st.heap)) id o'):
  Rel g N bs ρ a w' ⟨st.sl,setObj id o' st.heap,st.back,st.base⟩:=by
 have hin:=aN.2 ⟨_,au hf,hbk⟩;have hlt:=R.jK hin;have hk:∀k,aH g w ρ st.heap k->aH g w' ρ (setObj id o' st.heap) k:=λ k h=>⟨by rw[hsz];exact h.1,h.2.1,by rw[jC];exact h.2.2⟩;have hm:∀k,aH g w ρ st.heap k->w'.heap[k]? =w.heap[k]? :=λ k h=>hmem k λ e=>h.2.2 (by rw[e];exact hin);refine⟨R.size,R.defers,R.below.write hlt.2 hb hmem,λ t=>C2.same (X:=aA g w ρ st.heap) (Y:=aA g w' ρ (setObj id o' st.heap)) hk hm rfl (R.tmps t),λ p hp=> ?_,by rw[jC];exact R.apart,by rw[jC];exact R.own,R.back.imp λ _ _=>C2.same (X:=aA g w ρ st.heap) (Y:=aA g w' ρ (setObj id o' st.heap)) hk hm rfl⟩;by_cases acg:p.1=id
 ·rcases vZ hp with rfl|hp'
  ·grind
  ·rw[acg,<-GX R hf hbk hp acg];exact jg hk hm
 ·rcases vZ hp with rfl|hp'
  ·omega
  ·have ho:=R.objs p hp';have hne:∀k∈blks (ρ p.1),k≠b:=by
    intro k hk' e;subst e;exact acg (fE R.apart p hp' _ (au hf) hk' hbk)
   exact aQ.same (X:=aA g w ρ st.heap) hk hm rfl (λ k hk'=>hmem k (hne k hk')) ho
where
 GX {id b:Nat} {o o':AO} {p:Nat×AO} (R:Rel g N bs ρ a w st) (hf:aG id st.heap=some o) (hbk:b∈blks (ρ id)) (hp:p∈setObj id o' st.heap) (acg:p.1=id):o'=p.2:=by
  have key:∀h:List (Nat×AO),(ah ρ h).Nodup->p∈setObj id o' h->aG id h=some o->o'=p.2:=by
   intro h;induction h with
   |nil=>intro _ hp;cases hp
   |cons q h ih=>
    intro hn hp hfq;simp only[setObj]at hp;simp only[aG]at hfq;cases hb:Nat.beq q.1 id with
    |true=>
     rw[hb]at hp;rcases am4.1 hp with rfl|hp'
     ·rfl
     ·have hq:=am3 hb;rw[aP,anM]at hn;exact absurd rfl (hn.2.2 b (by rw[hq];exact hbk) b (aN.2 ⟨p,hp',by rw[acg];exact hbk⟩))
    |false=>
     rw[hb]at hp hfq;rcases am4.1 hp with rfl|hp'
     ·simp_all
     ·exact ih (AZ hn) hp' hfq
  exact key st.heap R.apart hp hf
end
inductive TK:Type where
 |bool|str|int (k:IntKind)|ptr (e:TypeId)|slice (e:TypeId)|array (n:Nat) (e:TypeId)|struct (fs:List (Nat×TypeId))|map (k e:TypeId)|other
structure TI where
 size:Nat
 bytes:Nat
 zero:List Value
 kind:TK
def kindOf:TypeDesc->TK
 | .bool=> .bool
 | .int k=> .int k
 | .string=> .str
 | .pointer e=> .ptr e
 | .slice e=> .slice e
 | .array n e=> .array n e
 | .struct fs=> .struct (fs.toList.map λ f=>(f.offset,f.type))
 | .map k e=> .map k e
 |_=> .other
def TI.isAgg(i:TI):Bool:=match i.kind with| .array _ _=>true| .struct _=>true|_=>false
def V4(P:Program)(t:TypeId):Option TI:=
 match P.info? t,P.underlying t with
 |some i,some d=>i.zero.map λ z=>⟨i.size,i.bytes,z.cells.toList,kindOf d⟩
 |_,_=>none
abbrev Lay:=List (TypeId×TI)
def aU:Lay->TypeId->Option TI
 |[],_=>none
 |p::l,t=>bif Nat.beq p.1 t then some p.2 else aU l t
def bD(P:Program)(L:Lay):Prop:= ∀t i,aU L t=some i->V4 P t=some i
theorem ach{L:Lay}(h:(L.map λ p=>V4 P p.1)=(L.map λ p=>some p.2)):bD P L:=by
 induction L with
 |nil=>intro t i e;cases e
 |cons p L ih=>
  intro t i e;simp only[anS,aoV]at h;simp only[aU]at e;cases hb:Nat.beq p.1 t with
  |true=>
   rw[hb]at e;rw[<-am3 hb,<-e];exact h.1
  |false=>
   rw[hb]at e;exact ih h.2 t i e
inductive ZH(p A:Prop):Prop where
 |mk:p->A->ZH p A
inductive nR(p A B:Prop):Prop where
 |mk:(p->A)->(¬p->B)->nR p A B
theorem nR.yes{B:Prop}(h:p)(a:A):nR p A B:=⟨λ _=>a,λ n=>absurd h n⟩
theorem nR.no{B:Prop}(h:¬p)(b:B):nR p A B:=⟨λ y=>absurd y h,λ _=>b⟩
theorem chk(h:b=true)(a:A):(bif b then A else False):=by rw[h];exact a
inductive Wr(n:Int)(K:Int->Prop):IntKind->Prop where
 |i64: -9223372036854775808<=n->n<=9223372036854775807->K n->Wr n K .i64
 |u64:0<=n->n<=18446744073709551615->K n->Wr n K .u64
 |u32:0<=n->n<=4294967295->K n->Wr n K .u32
 |u8:0<=n->n<=255->K n->Wr n K .u8
 |raw (k:IntKind):K (k.wrap n)->Wr n K k
def akn:Value->AV
 | .agg cs=> .agg (cs.toList.map .v)
 |x=> .v x
def AS.ev(st:AS):Operand->AV
 | .tmp t=>st.tmps t
 | .const x=>akn x
 | .func g=> .fn g []
 | .global _=> .junk
def ako(g:FuncId)(c:AV):Option (List AV):=match c with
 | .box id off=>bif Nat.blt g million then some [.cf g id off]else none
 |_=>none
def AV.cells? :AV->Option (List AV)
 | .agg cs=>some cs
 | .aZ _=>none
 | .fn g caps=>(match caps with|[]=>some [.v (.func (.func g) #[] #[])]|c::r=>(match r with|[]=>ako g c|_::_=>none))
 |x=>some [x]
def aci(y:Value):AV:=match y with
 | .func (.func g) fs us=>bif fs.toList.isEmpty&&us.toList.isEmpty then .fn g []else .v (.func (.func g) fs us)
 |y=> .v y
def AV.acj(x:AV):AV:=match x with
 | .v y=>aci y
 | .cf g id off=>bif Nat.blt g million then .fn g [.box id off]else .cf g id off
 |x=>x
theorem CW{X:CX}{x:AV}(h:C2 X x u):C2 X x.acj u:=by
 cases x with
 |v y=>
  show C2 X (aci y) u;unfold aci;split
  ·rename_i g fs us;cases hb:fs.toList.isEmpty&&us.toList.isEmpty with
   |false=>exact h
   |true=>
    have hb:=Bool.and_eq_true_iff.1 hb;have h1:fs= #[]:=by simpa using hb.1
    have h2:us= #[]:=by simpa using hb.2
    subst h1 h2;exact⟨[],h,rfl,λ i x u hx=>by simp at hx⟩
  ·exact h
 |cf g id off=>
  show C2 X (bif Nat.blt g million then .fn g [.box id off]else .cf g id off) u;cases hb:Nat.blt g million with
  |true=>
   obtain⟨b,h1,rfl⟩:=h;exact⟨[.pointer (some ⟨b,off,none⟩)],by unfold cfV;rw[hb];rfl,aC.cons ⟨b,h1,rfl⟩ aC.nil⟩
  |false=>exact h
 |_=>exact h
def Aq(h:List (Nat×AO)):AV->Bool
 | .v x=>x.oneCell'
 | .sl .. =>true
 | .own id=>match aG id h with|some (.row ..)=>true|some (.mp ..)=>true|some (.obs _)=>true|some (.rn ..)=>true|_=>false
 | .dn .. =>true
 | .jB .. =>true
 | .box .. =>true
 | .cf .. =>true
 | .el .. =>true
 |_=>false
def MK:AV->Bool
 | .v x=>x.oneCell'
 | .sl .. =>true
 |_=>false
def isV:AV->Bool
 | .v _=>true
 |_=>false
def splice(cs:List AV)(k:Nat)(xs:List AV):List AV:=cs.take k++(xs++cs.drop (k+xs.length))
def ld(i:TI)(cs:List AV)(k:Nat)(K:AV->Prop):Prop:=
 bif i.isAgg then(bif Nat.ble (k+i.size) cs.length then K (.agg ((cs.drop k).take i.size))else False)
 else(bif Nat.ble (k+1) cs.length then K (cs.getD k .junk)else False)
def inB(n:Int)(m:Nat):Bool:=decide (0<=n)&&decide (n<(m:Int))
structure RV(n:Int)(m:Nat)(A:Prop):Prop where
 mk::
 ok:inB n m=true
 k:A
theorem EL(n:Int)(m:Nat)(A:Prop):RV n m A=(bif inB n m then A else False):=by
 cases h:inB n m with
 |true=>exact propext ⟨λ k=>k.k,λ k=>⟨h,k⟩⟩
 |false=>exact propext ⟨λ k=>(by have:=k.ok;rw[h]at this;cases this),λ k=>k.elim⟩
theorem V5{n:Int}(h0:0<=n)(h1:n<(m:Int)):inB n m=true:=by simp[inB,h0,h1]
inductive mJ(n:Int)(m:Nat)(K:Nat->Prop):Prop where
 |mk (ok:inB n m=true) (k:K n.toNat):mJ n m K
 |lit (c:Nat) (e:n=(c:Int)) (hc:Nat.blt c m=true) (k:K c):mJ n m K
theorem acn(n:Int)(m:Nat)(K:Nat->Prop):mJ n m K=(bif inB n m then K n.toNat else False):=by
 cases h:inB n m with
 |true=>
  refine propext ⟨λ k=> ?_,λ k=> .mk h k⟩;cases k with
  |mk _ k=>exact k
  |lit c e _ k=>subst e;exact k
 |false=>
  refine propext ⟨λ k=> ?_,λ k=>k.elim⟩;cases k with
  |mk ok _=>rw[h]at ok;cases ok
  |lit c e hc _=>
   have hc:=Nat.blt_eq.mp hc;rw[V5 o_ o_]at h;cases h
def Yk(L:Lay)(st:AS)(t:TypeId)(p:AV)(K:AV->Prop):Prop:=
 match aU L t,p with
 |some i,.box id k=>match aG id st.heap with|some (.box _ cs)=>ld i cs k K|_=>False
 |some i,.el cs k=>ld i cs k K
 |some i,.dn id s j k=>match aG id st.heap with|some (.row _ s' n _ f)=>bif Nat.beq s s' then(bif Nat.ble (j+1) n then ld i (f j) k K else False)else False|some (.rn _ cs)=>bif Nat.beq s 1 then ld i cs (j+k) K else False|_=>False
 |_,_=>False
def V6(L:Lay)(st:AS)(t:TypeId)(p x:AV)(K:AS->Prop):Prop:=
 match aU L t,p,x.cells? with
 |some i,.box id k,some xs=>
  bif Nat.beq xs.length i.size&&xs.all (Aq st.heap)then
   (match aG id st.heap with
   |some (.box t' cs)=>bif Nat.ble (k+xs.length) cs.length then K ⟨st.sl,setObj id (.box t' (splice cs k xs)) st.heap,st.back,st.base⟩else False
   |_=>False)
  else False
 |some i,.dn id s j k,some xs=>
  bif Nat.beq xs.length i.size&&xs.all MK then
   (match aG id st.heap with
   |some (.row e s' n sc f)=>
    bif Nat.beq s s'&&Nat.ble (k+xs.length) s then(bif Nat.ble (j+1) n then K ⟨st.sl,setObj id (.row e s n (sc&&xs.all isV) (λ m=>bif Nat.beq m j then splice (f j) k xs else f m)) st.heap,st.back,st.base⟩else False)else False
   |_=>False)
  else False
 |_,_,_=>False
def o7(L:Lay)(t:TypeId)(p:AV)(i:Nat)(K:AV->Prop):Prop:=
 match aU L t with
 |some ti=>match ti.kind with
  | .struct fs=>match fs[i]? with
    |some (o,ft)=>match aU L ft with
     |some fi=>bif Nat.ble 1 fi.size then(match p with| .box id k=>K (.box id (k+o))| .el cs k=>K (.el cs (k+o))| .dn id s j k=>K (.dn id s j (k+o))|_=>False)else False
     |none=>False
    |none=>False
  |_=>False
 |none=>False
def V7(L:Lay)(t:TypeId)(x:AV)(i:Nat)(K:AV->Prop):Prop:=
 match aU L t,x with
 |some ti,.agg cs=>match ti.kind with
  | .struct fs=>match fs[i]? with
    |some (o,ft)=>match aU L ft with|some fi=>ld fi cs o K|none=>False
    |none=>False
  |_=>False
 |_,_=>False
def A8(L:Lay)(st:AS)(t:TypeId)(x ix:AV)(K:AV->Prop):Prop:=
 match aU L t,ix with
 |some ti,.v (.int _ n)=>match ti.kind with
  | .slice e=>match aU L e with
    |some ei=>match x with
     | .sl s m _ f=>bif Nat.beq s ei.size then(RV n m (K (.el (f n.toNat) 0)))else False
     | .own id=>match aG id st.heap with
       |some (.row _ s m _ _)=>bif Nat.beq s ei.size then(RV n m (K (.dn id s n.toNat 0)))else False
       |some (.rn _ cs)=>bif Nat.beq 1 ei.size then mJ n cs.length (λ q=>K (.dn id 1 q 0))else False
       |_=>False
     |_=>False
    |none=>False
  | .array m e=>match aU L e with
    |some ei=>mJ n m (λ q=>match x with| .box id k=>K (.box id (k+q*ei.size))| .el cs k=>K (.el cs (k+q*ei.size))| .dn id s j k=>K (.dn id s j (k+q*ei.size))|_=>False)
    |none=>False
  |_=>False
 |_,_=>False
def V8(L:Lay)(t:TypeId)(x ix:AV)(K:AV->Prop):Prop:=
 match aU L t,ix with
 |some ti,.v (.int _ n)=>match ti.kind,x with
  | .array m e,.agg cs=>match aU L e with|some ei=>mJ n m (λ q=>ld ei cs (q*ei.size) K)|none=>False
  | .str,.v (.string s)=>RV n s.size (K (.v (.int .u8 ((s.data.toList.getD n.toNat 0).toNat:Int))))
  |_,_=>False
 |_,_=>False
def Il(x:AV)(i:Nat)(K:AV->Prop):Prop:=match x with| .aZ vs=>(match vs[i]? with|some y=>K y|none=>False)|_=>False
def AA(h:List (Nat×AO))(place:Nat->Option (Nat×Nat)):List AV->List (Nat×AV)->Option (List AV)
 |cs,[]=>some cs
 |cs,(i,x)::r=>match place i,x.cells? with
  |some (o,s),some xs=>bif Nat.beq xs.length s&&Nat.ble (o+xs.length) cs.length&&xs.all (Aq h)then AA h place (splice cs o xs) r else none
  |_,_=>none
def placesOf(L:Lay):List (Nat×TypeId)->Option (List (Nat×Nat))
 |[]=>some []
 |(o,t)::r=>match aU L t,placesOf L r with|some i,some l=>some ((o,i.size)::l)|_,_=>none
def EM(L:Lay)(h0:List (Nat×AO))(t:TypeId)(parts:List (Nat×AV))(K:AV->Prop):Prop:=
 match aU L t with
 |some ti=>match ti.kind with
  | .struct fs=>match placesOf L fs with
    |some pl=>match AA h0 (pl[·]?) (ti.zero.map .v) parts with|some cs=>K (.agg cs)|none=>False
    |none=>False
  | .array _ e=>match aU L e with
    |some ei=>match AA h0 (λ i=>some (i*ei.size,ei.size)) (ti.zero.map .v) parts with|some cs=>K (.agg cs)|none=>False
    |none=>False
  |_=>False
 |none=>False
def aco(z:List AV):Nat->List AV
 |0=>[]
 |n+1=>z++aco z n
def chunk(s:Nat)(cs:List AV)(i:Nat):List AV:=(cs.drop (i*s)).take s
def sZ(L:Lay)(d:Nat)(st:AS)(t:TypeId)(len:Nat)(parts:List (Nat×AV))(K:AV->AS->Prop):Prop:=
 match aU L t with
 |some ti=>match ti.kind with
  | .slice e=>match aU L e with
    |some ei=>
     bif Nat.ble 1 ei.size&&Nat.beq ei.zero.length ei.size&&Nat.ble (len*ei.size) 65536 then
      (match AA st.heap (λ i=>some (i*ei.size,ei.size)) (aco (ei.zero.map .v) len) parts with
      |some cs=>bif cs.all MK then K (.own d) (st.obj d d (.row e ei.size len (cs.all isV) (chunk ei.size cs)))else(bif Nat.beq ei.size 1&&Nat.beq cs.length len&&cs.all (Aq st.heap)then K (.own d) (st.obj d d (.rn e cs))else False)
      |none=>False)
     else False
    |none=>False
  |_=>False
 |none=>False
def aiK(op:BinOp)(a b:Int)(K:AV->Prop):Prop:=
 match op with
 | .eql=>nR (a=b) (K (.v (.bool true))) (K (.v (.bool false)))
 | .neq=>nR (a=b) (K (.v (.bool false))) (K (.v (.bool true)))
 | .lss=>nR (a<b) (K (.v (.bool true))) (K (.v (.bool false)))
 | .leq=>nR (a<=b) (K (.v (.bool true))) (K (.v (.bool false)))
 | .gtr=>nR (b<a) (K (.v (.bool true))) (K (.v (.bool false)))
 | .geq=>nR (b<=a) (K (.v (.bool true))) (K (.v (.bool false)))
 |_=>False
inductive Dv(a b:Int)(K:Int->Prop):Prop where
 |pos:0<=a->0<b->K (a/b)->Dv a b K
 |raw:b≠0->K (a.tdiv b)->Dv a b K
inductive Rm(a b:Int)(K:Int->Prop):Prop where
 |pos:0<=a->0<b->K (a%b)->Rm a b K
 |raw:b≠0->K (a.tmod b)->Rm a b K
def agi(op:BinOp)(k:IntKind)(a b:Int)(K:AV->Prop):Prop:=
 match op with
 | .add=>Wr (a+b) (λ n=>K (.v (.int k n))) k
 | .sub=>Wr (a-b) (λ n=>K (.v (.int k n))) k
 | .mul=>Wr (a*b) (λ n=>K (.v (.int k n))) k
 | .quo=>Dv a b (λ q=>Wr q (λ n=>K (.v (.int k n))) k)
 | .rem=>Rm a b (λ n=>K (.v (.int k n)))
 | .and=>K (.v (.int k (k.wrap (BitVec.ofInt k.bits a&&&BitVec.ofInt k.bits b).toNat)))
 | .or=>K (.v (.int k (k.wrap (BitVec.ofInt k.bits a|||BitVec.ofInt k.bits b).toNat)))
 | .xor=>K (.v (.int k (k.wrap (BitVec.ofInt k.bits a^^^BitVec.ofInt k.bits b).toNat)))
 | .shl=>False
 | .shr=>False
 | .andNot=>False
 |op=>aiK op a b K
def V9(op:BinOp)(k:IntKind)(a b:Int)(K:AV->Prop):Prop:=
 match op with
 | .shl=>ZH (0<=b) (Wr (a*2^min b.toNat k.bits) (λ n=>K (.v (.int k n))) k)
 | .shr=>ZH (0<=b) (K (.v (.int k (a.fdiv (2^min b.toNat k.bits)))))
 |_=>False
def aiL(op:BinOp)(a b:ByteArray)(K:AV->Prop):Prop:=
 match op with
 | .add=>ZH (((a.size+b.size:Nat):Int)<=9223372036854775807) (K (.v (.string (a++b))))
 | .eql=>nR (a=b) (K (.v (.bool true))) (K (.v (.bool false)))
 | .neq=>nR (a=b) (K (.v (.bool false))) (K (.v (.bool true)))
 | .lss=>nR (Op.bytesLess a.toList b.toList=true) (K (.v (.bool true))) (K (.v (.bool false)))
 | .geq=>nR (Op.bytesLess a.toList b.toList=true) (K (.v (.bool false))) (K (.v (.bool true)))
 | .leq=>nR (Op.bytesLess a.toList b.toList=true\/a=b) (K (.v (.bool true))) (K (.v (.bool false)))
 | .gtr=>nR (Op.bytesLess a.toList b.toList=true\/a=b) (K (.v (.bool false))) (K (.v (.bool true)))
 |_=>False
def EN(P:Program)(t:TypeId)(us vs:List Value)(p:Prop):Prop:=
 P.eqGuardType P.depth t=false/\ ∀w:World,∃b:Bool,(b=true↔p)/\(Op.equal t (.agg us.toArray) (.agg vs.toArray)).run P w= .ok b w
inductive ZI(P:Program)(t:TypeId)(cs ds:List AV)(A B:Prop):Prop where
 |mk (us vs:List Value) (p:Prop) (hu:cs=us.map .v) (hv:ds=vs.map .v) (hp:EN P t us vs p):nR p A B->ZI P t cs ds A B
structure aiM(n:Nat)(A B:Prop):Prop where
 y:n=0->A
 n:B
def aiN(P:Program)(L:Lay)(op:BinOp)(t:TypeId)(x y:AV)(K:AV->Prop):Prop:=
 match x,y with
 | .v (.int k a),.v (.int k' b)=>(match op with
   | .shl=>V9 .shl k a b K
   | .shr=>V9 .shr k a b K
   |op=>bif decide (k=k')then agi op k a b K else False)
 | .v (.string a),.v (.string b)=>aiL op a b K
 | .v (.bool a),.v (.bool b)=>match aU L t with
   |some i=>(match i.kind,op with
    | .bool,.eql=>K (.v (.bool (a==b)))
    | .bool,.neq=>K (.v (.bool (!(a==b))))
    |_,_=>False)
   |none=>False
 | .agg cs,.agg ds=>(match op with
   | .eql=>ZI P t cs ds (K (.v (.bool true))) (K (.v (.bool false)))
   | .neq=>ZI P t cs ds (K (.v (.bool false))) (K (.v (.bool true)))
   |_=>False)
 | .box _ _,.v (.pointer none)=>match aU L t with
   |some i=>(match i.kind,op with
    | .ptr _,.eql=>K (.v (.bool false))
    | .ptr _,.neq=>K (.v (.bool true))
    |_,_=>False)
   |none=>False
 | .v (.pointer none),.v (.pointer none)=>match aU L t with
   |some i=>(match i.kind,op with
    | .ptr _,.eql=>K (.v (.bool true))
    | .ptr _,.neq=>K (.v (.bool false))
    |_,_=>False)
   |none=>False
 | .v (.slice none 0 0),.v (.slice none 0 0)=>match aU L t with
   |some i=>(match i.kind,op with
    | .slice _,.eql=>K (.v (.bool true))
    | .slice _,.neq=>K (.v (.bool false))
    |_,_=>False)
   |none=>False
 | .sl _ n _ _,.v (.slice none 0 0)=>match aU L t with
   |some i=>(match i.kind,op with
    | .slice _,.eql=>aiM n (K (.v (.bool true))) (K (.v (.bool false)))
    | .slice _,.neq=>aiM n (K (.v (.bool false))) (K (.v (.bool true)))
    |_,_=>False)
   |none=>False
 |_,_=>False
def aun(op:UnOp)(x:AV)(K:AV->Prop):Prop:=
 match op,x with
 | .not,.v (.bool b)=>K (.v (.bool (!b)))
 | .neg,.v (.int k n)=>Wr (0-n) (λ n=>K (.v (.int k n))) k
 | .xor,.v (.int k n)=>agi .xor k (if k.signed then-1 else k.max) n K
 |_,_=>False
inductive Bs(n:Nat)(f:Nat->List AV)(K:List UInt8->Prop):Prop where
 |mk (bs:List UInt8) (hn:n=bs.length) (hf:∀i,i<n->f i=[.v (.int .u8 ((bs.getD i 0).toNat:Int))]):K bs->Bs n f K
def Io(L:Lay)(st:AS)(src dst:TypeId)(x:AV)(K:AV->Prop):Prop:=
 match aU L src,aU L dst with
 |some si,some di=>match si.kind,di.kind,x with
  |_,.int k,.v (.int _ n)=>Wr n (λ n=>K (.v (.int k n))) k
  |_,.str,.v (.string s)=>K (.v (.string s))
  | .slice e,.str,.sl _ n _ f=>match aU L e with|some ei=>(match ei.kind with| .int .u8=>Bs n f (λ bs=>K (.v (.string ⟨bs.toArray⟩)))|_=>False)|none=>False
  | .slice e,.str,.own id=>match aG id st.heap with
    |some (.row _ _ n _ f)=>match aU L e with|some ei=>(match ei.kind with| .int .u8=>Bs n f (λ bs=>K (.v (.string ⟨bs.toArray⟩)))|_=>False)|none=>False
    |_=>False
  |_,_,_=>False
 |_,_=>False
def CY(i0:Nat)(a:AV):AV->AV
 | .v x=> .v x
 | .agg cs=> .agg cs
 | .aZ vs=> .aZ vs
 | .sl s n sc f=> .sl s n sc f
 | .own id=>bif Nat.beq id i0 then a else .own id
 | .dn id s i k=> .dn id s i k
 | .jB id s i k=> .jB id s i k
 | .box id off=> .box id off
 | .cf g id off=> .cf g id off
 | .el cs k=> .el cs k
 | .fn g cs=> .fn g cs
 | .junk=> .junk
def acp(i0:Nat)(a:AV):AV->AV
 | .v x=> .v x
 | .agg cs=> .agg (cs.map (CY i0 a))
 | .aZ vs=> .aZ vs
 | .sl s n sc f=> .sl s n sc f
 | .own id=>bif Nat.beq id i0 then a else .own id
 | .dn id s i k=> .dn id s i k
 | .jB id s i k=> .jB id s i k
 | .box id off=> .box id off
 | .cf g id off=> .cf g id off
 | .el cs k=> .el cs k
 | .fn g cs=> .fn g (cs.map (CY i0 a))
 | .junk=> .junk
def CZ(i0:Nat)(a:AV):AV->AV
 | .v x=> .v x
 | .agg cs=> .agg (cs.map (CY i0 a))
 | .aZ vs=> .aZ (vs.map (acp i0 a))
 | .sl s n sc f=> .sl s n sc f
 | .own id=>bif Nat.beq id i0 then a else .own id
 | .dn id s i k=> .dn id s i k
 | .jB id s i k=> .jB id s i k
 | .box id off=> .box id off
 | .cf g id off=> .cf g id off
 | .el cs k=> .el cs k
 | .fn g cs=> .fn g (cs.map (CY i0 a))
 | .junk=> .junk
def AO.thaw(id:Nat)(a:AV):AO->AO
 | .box t cs=> .box t (cs.map (CY id a))
 | .row e s n sc f=> .row e s n sc f
 | .mp t ks rs=> .mp t (yt id ks) rs
 | .obs o=> .obs o
 | .rn e cs=> .rn e (cs.map (CY id a))
def AS.freeze(st:AS)(id s n:Nat)(sc:Bool)(f:Nat->List AV):AS:=
 ⟨uw (CZ id (.sl s n sc f)) st.sl,(st.heap.filter λ p=> !Nat.beq p.1 id).map λ p=>(p.1,p.2.thaw id (.sl s n sc f)),st.back.map (uw (CZ id (.sl s n sc f))),st.base⟩
def AS.iL(st:AS)(id:Nat):AS:=⟨uw (uy id) st.sl,qC id (st.heap.filter λ p=> !Nat.beq p.1 id),st.back.map (uw (uy id)),st.base⟩
def ZJ(s n:Nat)(sc:Bool)(f:Nat->List AV)(lo hi:Option AV)(K:AV->Prop):Prop:=
 match lo,hi with
 |none,none=>K (.sl s n sc f)
 |none,some (.v (.int _ h))=>RV h (n+1) (K (.sl s h.toNat sc f))
 |some (.v (.int _ l)),none=>RV l (n+1) (K (.sl s (n-l.toNat) sc (λ i=>f (l.toNat+i))))
 |some (.v (.int _ l)),some (.v (.int _ h))=>RV h (n+1) ((RV l (h.toNat+1) (K (.sl s (h.toNat-l.toNat) sc (λ i=>f (l.toNat+i))))))
 |_,_=>False
def acr(b:ByteArray)(lo hi:Option AV)(K:AV->Prop):Prop:=
 match lo,hi with
 |none,none=>K (.v (.string b))
 |none,some (.v (.int _ h))=>RV h (b.size+1) (K (.v (.string (b.extract 0 h.toNat))))
 |some (.v (.int _ l)),none=>RV l (b.size+1) (K (.v (.string (b.extract l.toNat b.size))))
 |some (.v (.int _ l)),some (.v (.int _ h))=>RV h (b.size+1) ((RV l (h.toNat+1) (K (.v (.string (b.extract l.toNat h.toNat))))))
 |_,_=>False
def acs(n:Nat)(lo hi:Option AV)(K:Nat->Nat->Prop):Prop:=
 match lo,hi with
 |none,none=>K 0 n
 |none,some (.v (.int _ h))=>RV h (n+1) (K 0 h.toNat)
 |some (.v (.int _ l)),none=>RV l (n+1) (K l.toNat n)
 |some (.v (.int _ l)),some (.v (.int _ h))=>RV h (n+1) (RV l (h.toNat+1) (K l.toNat h.toNat))
 |_,_=>False
inductive ASl(A B C:Prop):Prop where
 |EO (h:A):ASl A B C
 |part (h:B):ASl A B C
 |cut (h:C):ASl A B C
def bG(n m:Nat)(K:Nat->Prop):Prop:=bif Nat.beq n m then K m else K n
def bH(b:Bool)(X Y:Prop):Prop:=bif b then X else Y
theorem agj(n m:Nat)(K:Nat->Prop):bG n m K=K n:=by
 unfold bG;cases h:Nat.beq n m with
 |true=>rw[am3 h];rfl
 |false=>rfl
theorem agk{X Y Z:Prop}(h1:X=Z)(h2:Y=Z):bH b X Y=Z:=by cases b;exact h2;exact h1
def RX(n:Nat)(K:Nat->Prop):Prop:=
 bH (Nat.ble 64 n) (bH (Nat.ble 96 n) (bH (Nat.ble 112 n) (bH (Nat.ble 120 n) (bH (Nat.ble 124 n) (bH (Nat.ble 126 n) (bH (Nat.ble 127 n) (bG n 127 K) (bG n 126 K)) (bH (Nat.ble 125 n) (bG n 125 K) (bG n 124 K))) (bH (Nat.ble 122 n) (bH (Nat.ble 123 n) (bG n 123 K) (bG n 122 K)) (bH (Nat.ble 121 n) (bG n 121 K) (bG n 120 K)))) (bH (Nat.ble 116 n) (bH (Nat.ble 118 n) (bH (Nat.ble 119 n) (bG n 119 K) (bG n 118 K)) (bH (Nat.ble 117 n) (bG n 117 K) (bG n 116 K))) (bH (Nat.ble 114 n) (bH (Nat.ble 115 n) (bG n 115 K) (bG n 114 K)) (bH (Nat.ble 113 n) (bG n 113 K) (bG n 112 K))))) (bH (Nat.ble 104 n) (bH (Nat.ble 108 n) (bH (Nat.ble 110 n) (bH (Nat.ble 111 n) (bG n 111 K) (bG n 110 K)) (bH (Nat.ble 109 n) (bG n 109 K) (bG n 108 K))) (bH (Nat.ble 106 n) (bH (Nat.ble 107 n) (bG n 107 K) (bG n 106 K)) (bH (Nat.ble 105 n) (bG n 105 K) (bG n 104 K)))) (bH (Nat.ble 100 n) (bH (Nat.ble 102 n) (bH (Nat.ble 103 n) (bG n 103 K) (bG n 102 K)) (bH (Nat.ble 101 n) (bG n 101 K) (bG n 100 K))) (bH (Nat.ble 98 n) (bH (Nat.ble 99 n) (bG n 99 K) (bG n 98 K)) (bH (Nat.ble 97 n) (bG n 97 K) (bG n 96 K)))))) (bH (Nat.ble 80 n) (bH (Nat.ble 88 n) (bH (Nat.ble 92 n) (bH (Nat.ble 94 n) (bH (Nat.ble 95 n) (bG n 95 K) (bG n 94 K)) (bH (Nat.ble 93 n) (bG n 93 K) (bG n 92 K))) (bH (Nat.ble 90 n) (bH (Nat.ble 91 n) (bG n 91 K) (bG n 90 K)) (bH (Nat.ble 89 n) (bG n 89 K) (bG n 88 K)))) (bH (Nat.ble 84 n) (bH (Nat.ble 86 n) (bH (Nat.ble 87 n) (bG n 87 K) (bG n 86 K)) (bH (Nat.ble 85 n) (bG n 85 K) (bG n 84 K))) (bH (Nat.ble 82 n) (bH (Nat.ble 83 n) (bG n 83 K) (bG n 82 K)) (bH (Nat.ble 81 n) (bG n 81 K) (bG n 80 K))))) (bH (Nat.ble 72 n) (bH (Nat.ble 76 n) (bH (Nat.ble 78 n) (bH (Nat.ble 79 n) (bG n 79 K) (bG n 78 K)) (bH (Nat.ble 77 n) (bG n 77 K) (bG n 76 K))) (bH (Nat.ble 74 n) (bH (Nat.ble 75 n) (bG n 75 K) (bG n 74 K)) (bH (Nat.ble 73 n) (bG n 73 K) (bG n 72 K)))) (bH (Nat.ble 68 n) (bH (Nat.ble 70 n) (bH (Nat.ble 71 n) (bG n 71 K) (bG n 70 K)) (bH (Nat.ble 69 n) (bG n 69 K) (bG n 68 K))) (bH (Nat.ble 66 n) (bH (Nat.ble 67 n) (bG n 67 K) (bG n 66 K)) (bH (Nat.ble 65 n) (bG n 65 K) (bG n 64 K))))))) (bH (Nat.ble 32 n) (bH (Nat.ble 48 n) (bH (Nat.ble 56 n) (bH (Nat.ble 60 n) (bH (Nat.ble 62 n) (bH (Nat.ble 63 n) (bG n 63 K) (bG n 62 K)) (bH (Nat.ble 61 n) (bG n 61 K) (bG n 60 K))) (bH (Nat.ble 58 n) (bH (Nat.ble 59 n) (bG n 59 K) (bG n 58 K)) (bH (Nat.ble 57 n) (bG n 57 K) (bG n 56 K)))) (bH (Nat.ble 52 n) (bH (Nat.ble 54 n) (bH (Nat.ble 55 n) (bG n 55 K) (bG n 54 K)) (bH (Nat.ble 53 n) (bG n 53 K) (bG n 52 K))) (bH (Nat.ble 50 n) (bH (Nat.ble 51 n) (bG n 51 K) (bG n 50 K)) (bH (Nat.ble 49 n) (bG n 49 K) (bG n 48 K))))) (bH (Nat.ble 40 n) (bH (Nat.ble 44 n) (bH (Nat.ble 46 n) (bH (Nat.ble 47 n) (bG n 47 K) (bG n 46 K)) (bH (Nat.ble 45 n) (bG n 45 K) (bG n 44 K))) (bH (Nat.ble 42 n) (bH (Nat.ble 43 n) (bG n 43 K) (bG n 42 K)) (bH (Nat.ble 41 n) (bG n 41 K) (bG n 40 K)))) (bH (Nat.ble 36 n) (bH (Nat.ble 38 n) (bH (Nat.ble 39 n) (bG n 39 K) (bG n 38 K)) (bH (Nat.ble 37 n) (bG n 37 K) (bG n 36 K))) (bH (Nat.ble 34 n) (bH (Nat.ble 35 n) (bG n 35 K) (bG n 34 K)) (bH (Nat.ble 33 n) (bG n 33 K) (bG n 32 K)))))) (bH (Nat.ble 16 n) (bH (Nat.ble 24 n) (bH (Nat.ble 28 n) (bH (Nat.ble 30 n) (bH (Nat.ble 31 n) (bG n 31 K) (bG n 30 K)) (bH (Nat.ble 29 n) (bG n 29 K) (bG n 28 K))) (bH (Nat.ble 26 n) (bH (Nat.ble 27 n) (bG n 27 K) (bG n 26 K)) (bH (Nat.ble 25 n) (bG n 25 K) (bG n 24 K)))) (bH (Nat.ble 20 n) (bH (Nat.ble 22 n) (bH (Nat.ble 23 n) (bG n 23 K) (bG n 22 K)) (bH (Nat.ble 21 n) (bG n 21 K) (bG n 20 K))) (bH (Nat.ble 18 n) (bH (Nat.ble 19 n) (bG n 19 K) (bG n 18 K)) (bH (Nat.ble 17 n) (bG n 17 K) (bG n 16 K))))) (bH (Nat.ble 8 n) (bH (Nat.ble 12 n) (bH (Nat.ble 14 n) (bH (Nat.ble 15 n) (bG n 15 K) (bG n 14 K)) (bH (Nat.ble 13 n) (bG n 13 K) (bG n 12 K))) (bH (Nat.ble 10 n) (bH (Nat.ble 11 n) (bG n 11 K) (bG n 10 K)) (bH (Nat.ble 9 n) (bG n 9 K) (bG n 8 K)))) (bH (Nat.ble 4 n) (bH (Nat.ble 6 n) (bH (Nat.ble 7 n) (bG n 7 K) (bG n 6 K)) (bH (Nat.ble 5 n) (bG n 5 K) (bG n 4 K))) (bH (Nat.ble 2 n) (bH (Nat.ble 3 n) (bG n 3 K) (bG n 2 K)) (bH (Nat.ble 1 n) (bG n 1 K) (bG n 0 K)))))))
theorem RY(n:Nat)(K:Nat->Prop):RX n K=K n:=by
 repeat' (first|exact agj _ _ _|apply agk)
def nameOf(st:AS)(K:Nat->Prop):Prop:=match st with|⟨_,_,_,b⟩=>RX b K
theorem iM(st:AS)(K:Nat->Prop):nameOf st K=K st.base:=by cases st;exact RY _ _
def aslice(L:Lay)(st:AS)(t:TypeId)(x:AV)(lo hi mx:Option AV)(K:AV->AS->Prop):Prop:=
 match mx,aU L t with
 |none,some ti=>match ti.kind,x with
  | .slice e,.sl s n sc f=>(match aU L e with|some ei=>bif Nat.beq s ei.size then ZJ s n sc f lo hi (λ y=>K y st)else False|none=>False)
  | .slice e,.v (.slice none 0 0)=>(match aU L e with|some _=>acs 0 lo hi (λ _ _=>K (.v (.slice none 0 0)) st)|none=>False)
  | .slice e,.own id=>(match aG id st.heap with|some (.row e' s n sc f)=>(match aU L e with|some ei=>bif Nat.beq s ei.size then ASl (ZJ s n sc f lo hi (λ y=>K y (st.freeze id s n sc f))) (acs n lo hi (λ l h=>K (.jB id s l (h-l)) st)) (acs n lo hi (λ l h=>bif Nat.beq l 0 then nameOf st (λ d=>K (.own d) (st.obj d id (.row e' s h sc f)))else False))else False|none=>False)|_=>False)
  | .str,.v (.string b)=>acr b lo hi (λ y=>K y st)
  | .array m e,.box id k=>ASl (match lo,hi,k,aG id st.heap,aU L e with
    |none,none,0,some (.box _ cs),some ei=>bif Nat.ble 1 ei.size&&Nat.beq cs.length (m*ei.size)&&Nat.ble m 65536&&cs.all MK then K (.sl ei.size m (cs.all isV) (chunk ei.size cs)) (st.iL id)else False
    |_,_,_,_,_=>False) (match lo,hi,aU L e with|none,none,some _=>K (.jB id 1 k m) st|_,_,_=>False) False
  |_,_=>False
 |_,_=>False
def Yl(L:Lay)(st:AS)(s:Nat)(t:TypeId)(x:AV):Option (Nat×Bool×(Nat->List AV)):=
 match aU L t with
 |some ti=>match ti.kind,x with
  | .slice _,.sl s' n sc f=>bif Nat.beq s s' then some (n,sc,f)else none
  | .slice _,.own id=>match aG id st.heap with|some (.row _ s' n sc f)=>bif Nat.beq s s' then some (n,sc,f)else none|_=>none
  | .slice _,.v (.slice none 0 _)=>some (0,true,λ _=>[])
  | .str,.v (.string b)=>bif Nat.beq s 1 then some (b.size,true,λ i=>[.v (.int .u8 ((b.data.toList.getD i 0).toNat:Int))])else none
  |_,_=>none
 |none=>none
def lV(n:Nat)(f g:Nat->List AV):Nat->List AV:=λ i=>bif Nat.ble n i then g (i-n)else f i
def aii(L:Lay)(d:Nat)(st:AS)(e:TypeId)(ei:TI)(tx:TypeId)(x y:AV)(K:AV->AS->Prop):Prop:=
 match aU L tx,y with
 |some ti,.own j=>match ti.kind,aG j st.heap with
  | .slice _,some (.rn _ ds)=>bif Nat.beq ei.size 1&&Nat.ble ei.bytes 1024&&Nat.ble ds.length 1024 then
     (match x with
     | .v (.slice none 0 0)=>K (.own d) (st.obj d d (.rn e ds))
     | .own id=>match aG id st.heap with
       |some (.rn e' cs)=>bif Nat.beq e e'&&Nat.ble cs.length 1024 then K (.own d) (st.obj d id (.rn e (cs++ds)))else False
       |_=>False
     |_=>False)
    else False
  |_,_=>False
 |_,_=>False
def Pv(L:Lay)(d:Nat)(st:AS)(t tx:TypeId)(x y:AV)(K:AV->AS->Prop):Prop:=
 match aU L t with
 |some ti=>match ti.kind with
  | .slice e=>match aU L e with
    |some ei=>
     bif Nat.ble 1 ei.size&&Nat.beq ei.zero.length ei.size then
      (match Yl L st ei.size tx y with
      |some (m,sc',g)=>match x with
       | .v (.slice none 0 0)=>ZH (m*ei.bytes<=140737488355328/\m<=140737488355328) (K (.own d) (st.obj d d (.row e ei.size m sc' g)))
       | .own id=>match aG id st.heap with
         |some (.row e' s n sc f)=>bif Nat.beq e e'&&Nat.beq s ei.size then ZH ((n+m)*ei.bytes<=140737488355328/\n+m<=140737488355328) (K (.own d) (st.obj d id (.row e s (n+m) (sc&&sc') (lV n f g))))else False
         |_=>False
       |_=>False
      |none=>aii L d st e ei tx x y K)
     else False
    |none=>False
  |_=>False
 |none=>False
inductive AMk(b:Nat)(l c:Int)(K:Nat->Prop):Prop where
 |none:l=0->0<=c->c*b<=140737488355328->c<=140737488355328->K 0->AMk b l c K
 |full:0<=l->l=c->c*b<=140737488355328->c<=140737488355328->K l.toNat->AMk b l c K
def acu(L:Lay)(d:Nat)(st:AS)(t:TypeId)(l c:AV)(K:AV->AS->Prop):Prop:=
 match aU L t,l,c with
 |some ti,.v (.int _ l),.v (.int _ c)=>match ti.kind with
  | .slice e=>match aU L e with
    |some ei=>bif (Nat.ble 1 ei.size&&Nat.beq ei.zero.length ei.size)&&ei.zero.all (λ x=>x.oneCell')then AMk ei.bytes l c (λ n=>K (.own d) (st.obj d d (.row e ei.size n true (λ _=>ei.zero.map .v))))else False
    |none=>False
  |_=>False
 |_,_,_=>False
def Wh(L:Lay)(t:TypeId)(x:AV)(K:AV->Prop):Prop:=
 match aU L t,x with
 |some ti,.sl s n _ f=>match ti.kind with
  | .array m e=>match aU L e with
    |some ei=>bif Nat.beq s ei.size&&Nat.ble 1 m then ZH (m<=n) (K (.el (flat m f) 0))else False
    |none=>False
  |_=>False
 |_,_=>False
def aiO(L:Lay)(st:AS)(t:TypeId)(x:AV)(K:AV->Prop):Prop:=
 match aU L t with
 |none=>False
 |some i=>match i.kind,x with
 | .str,.v (.string b)=>K (.v (.int .i64 (b.size:Int)))
 | .slice _,.v (.slice _ n _)=>K (.v (.int .i64 (n:Int)))
 | .slice _,.sl _ n _ _=>K (.v (.int .i64 (n:Int)))
 | .slice _,.own id=>(match aG id st.heap with|some (.row _ _ n _ _)=>K (.v (.int .i64 (n:Int)))|some (.rn _ cs)=>K (.v (.int .i64 (cs.length:Int)))|_=>False)
 | .slice _,.jB _ _ _ m=>K (.v (.int .i64 (m:Int)))
 | .array m _,_=>K (.v (.int .i64 (m:Int)))
 |_,_=>False
def LH(h:List (Nat×AO)):AV->AV
 | .own id=>match aG id h with|some (.row _ s n sc f)=> .sl s n sc f|_=> .junk
 | .v x=> .v x
 | .sl s n sc f=> .sl s n sc f
 |_=> .junk
def Px(h:List (Nat×AO)):AV->AV
 | .agg cs=> .agg (cs.map (LH h))
 |x=>LH h x
inductive agl(h:List (Nat×AO)):AV->AV->Prop where
 |eq (a:AV):agl h a (LH h a)
 |nil (s:Nat) (sc:Bool) (f:Nat->List AV):0<s->agl h (.v (.slice none 0 0)) (.sl s 0 sc f)
inductive ZK(h:List (Nat×AO)):AV->AV->Prop where
 |eq (a:AV):ZK h a (Px h a)
 |nil (s:Nat) (sc:Bool) (f:Nat->List AV):0<s->ZK h (.v (.slice none 0 0)) (.sl s 0 sc f)
 |agg (cs ds:List AV):cs.length=ds.length->(∀(i:Nat)(x y:AV),cs[i]? =some x->ds[i]? =some y->agl h x y)->ZK h (.agg cs) (.agg ds)
def GY(h:List (Nat×AO))(xs ys:List AV):Prop:=xs.length=ys.length/\ ∀(i:Nat)(x y:AV),xs[i]? =some x->ys[i]? =some y->ZK h x y
theorem GY.nil{h:List (Nat×AO)}:GY h [] []:=⟨rfl,λ i x y hx=>by simp at hx⟩
theorem GY.cons{h:List (Nat×AO)}{x y:AV}{xs ys:List AV}(h0:ZK h x y)(hr:GY h xs ys):GY h (x::xs) (y::ys):=by
 refine⟨by simpa using hr.1,λ i a b ha hb=> ?_⟩;cases i with
 |zero=>simp at ha hb;subst ha hb;exact h0
 |succ i=>exact hr.2 i a b (by simpa using ha) (by simpa using hb)
def uz:List Nat->Bool
 |[]=>true
 |x::l=> !(l.any (Nat.beq x))&&uz l
theorem EP:∀{l:List Nat},uz l=true->l.Nodup
 |[],_=>List.nodup_nil
 |x::l,h=>by
  simp only[uz,amY,anB]at h;refine an1.2 ⟨λ hx=> ?_,EP h.2⟩;have:=ao8.1 h.1 x hx;simp at this
def Enters(P:Program)(f:FuncId):Prop:= ∃fn c,P.funcs[f]? =some fn/\(fn.name== "runtime.NumGoroutine")=false/\fn.body=some c
def aF(P:Program)(f:FuncId)(aW:List AV)(r:AV)(h:List (Nat×AO)):Prop:=
 Enters P f/\ ∀(w:World)(keep:Nat->Prop)(args:List Value),(∀b,keep b->b<w.heap.size)->aC (C1 ⟨w,keep,λ _=>undef⟩) aW args->
  Calls P f args.toArray w λ e w'=> ∃u ρ,e= .returned u/\Below w.heap.size w w'/\C2 (aA (base0 w keep) w' ρ h) r u/\(∀p∈h,aQ (aA (base0 w keep) w' ρ h) p.1 p.2)/\(ah ρ h).Nodup/\ ∀b∈ah ρ h,w.heap.size<=b
def aj(P:Program)(f:FuncId)(hin:List (Nat×AO))(aW:List AV)(r:AV)(hout:List (Nat×AO)):Prop:=
 Enters P f/\ ∀(w:World)(keep:Nat->Prop)(ρ:Nat->Value)(args:List Value),(∀b,keep b->b<w.heap.size)->(∀p∈hin,aQ ⟨w,keep,ρ⟩ p.1 p.2)->(ah ρ hin).Nodup->(∀b∈ah ρ hin,b<w.heap.size/\ ¬keep b)->aC (C1 ⟨w,keep,ρ⟩) aW args->
  Calls P f args.toArray w λ e w'=> ∃u ρ',e= .returned u/\dG (λ b=>b∈ah ρ hin) w.heap.size w w'/\(∀p∈hin,∀q∈hout,q.1=p.1->CU (ρ' p.1) (ρ p.1))/\
   C2 (aA (dN w keep (λ b=>b∈ah ρ hin)) w' ρ' hout) r u/\(∀p∈hout,aQ (aA (dN w keep (λ b=>b∈ah ρ hin)) w' ρ' hout) p.1 p.2)/\(ah ρ' hout).Nodup/\ ∀b∈ah ρ' hout,w.heap.size<=b\/b∈ah ρ hin
def bJ(i:Nat):List (Nat×AO)->Bool
 |[]=>false
 |(k,_)::l=>Nat.beq k i||bJ i l
def ZL(h:List (Nat×AO)):AV->Bool
 | .own i=>bJ i h
 | .dn i .. =>bJ i h
 | .jB i .. =>bJ i h
 | .box i _=>bJ i h
 | .cf _ i _=>bJ i h
 |_=>true
def aiP(h:List (Nat×AO)):AV->Bool
 | .agg cs=>cs.all (ZL h)
 | .fn _ cs=>cs.all (ZL h)
 |x=>ZL h x
def acv(h:List (Nat×AO)):AV->Bool
 | .aZ vs=>vs.all (aiP h)
 |x=>aiP h x
def acw(h:List (Nat×AO)):AO->Bool
 | .box _ cs=>cs.all (ZL h)
 | .row .. =>true
 | .mp _ ks _=>ks.all λ p=>match p.2 with|some i=>bJ i h|none=>true
 | .obs _=>true
 | .rn _ cs=>cs.all (ZL h)
def fF(h:List (Nat×AO)):List (Nat×AO)->Bool
 |[]=>true
 |(_,o)::l=>acw h o&&fF h l
def wu(d:Nat)(hin:List (Nat×AO)):List (Nat×AO)->Bool
 |[]=>true
 |(k,_)::l=>(bJ k hin||Nat.beq k d)&&wu d hin l
def RZ:AV->Bool
 | .aZ _=>false
 |_=>true
def xM(d:Nat)(hin:List (Nat×AO)):List (Nat×AO)->List (Nat×AO)
 |[]=>[]
 |(k,o)::l=>bif Nat.beq k d||bJ k hin then xM d hin l else(k,o)::xM d hin l
def AS.RG(st:AS)(d:Nat)(hin hout:List (Nat×AO)):AS:=⟨uw (uy d) st.sl,hout++qC d (xM d hin st.heap),st.back.map (uw (uy d)),Nat.add d 1⟩
def ZM(st:AS):List (Nat×AO)->Prop
 |[]=>True
 |(k,o)::l=>aG k st.heap=some o/\ZM st l
def ok0(d:Option Nat):AV->Bool
 | .v _=>true
 | .sl .. =>true
 | .own i=>(match d with|some j=>Nat.beq i j|none=>false)
 |_=>false
def ok1(d:Option Nat):AV->Bool
 | .agg cs=>cs.all (ok0 d)
 |x=>ok0 d x
def ok2(d:Option Nat):AV->Bool
 | .aZ vs=>vs.all (ok1 d)
 |x=>ok1 d x
def acy:AV->Bool
 | .sl .. =>false
 |_=>true
def acz:AV->Bool
 | .agg cs=>cs.all acy
 |x=>acy x
def rU:AV->Bool
 | .aZ vs=>vs.all acz
 |x=>acz x
def Py(st:AS):AV->AS
 | .own id=>match aG id st.heap with|some (.row _ s n sc f)=>st.freeze id s n sc f|_=>st
 |_=>st
def EO(st:AS):AV->AS
 | .agg cs=>cs.foldl Py st
 |x=>Py st x
def wz(st:AS)(l:List AV):AS:=l.foldl EO st
inductive jd where
 |normal|exit (id:Nat)|ret
abbrev Walk:=Nat->Nat->Code->(jd->AS->Prop)->AS->Prop
def hd0(x:AV)(K:AV->Prop):Prop:=
 match x with
 | .v y=>K (.v y)
 | .agg cs=>K (.agg cs)
 | .aZ vs=>K (.aZ vs)
 | .sl s n sc f=>K (.sl s n sc f)
 | .own i=>K (.own i)
 | .dn i s j k=>K (.dn i s j k)
 | .jB i s j k=>K (.jB i s j k)
 | .box i k=>K (.box i k)
 | .cf g i k=>K (.cf g i k)
 | .el cs k=>K (.el cs k)
 | .fn g cs=>K (.fn g cs)
 | .junk=>K .junk
def Ip:List AV->(List AV->Prop)->Prop
 |[],K=>K []
 |x::l,K=>hd0 x (λ x=>Ip l (λ r=>K (x::r)))
def hd1(x:AV)(K:AV->Prop):Prop:=
 match x with
 | .v y=>K (.v y)
 | .agg cs=>Ip cs (λ cs=>K (.agg cs))
 | .aZ vs=>K (.aZ vs)
 | .sl s n sc f=>K (.sl s n sc f)
 | .own i=>K (.own i)
 | .dn i s j k=>K (.dn i s j k)
 | .jB i s j k=>K (.jB i s j k)
 | .box i k=>K (.box i k)
 | .cf g i k=>K (.cf g i k)
 | .el cs k=>Ip cs (λ cs=>K (.el cs k))
 | .fn g cs=>Ip cs (λ cs=>K (.fn g cs))
 | .junk=>K .junk
def agm:List AV->(List AV->Prop)->Prop
 |[],K=>K []
 |x::l,K=>hd1 x (λ x=>agm l (λ r=>K (x::r)))
def hd2(x:AV)(K:AV->Prop):Prop:=
 match x with
 | .v y=>K (.v y)
 | .agg cs=>Ip cs (λ cs=>K (.agg cs))
 | .aZ vs=>agm vs (λ vs=>K (.aZ vs))
 | .sl s n sc f=>K (.sl s n sc f)
 | .own i=>K (.own i)
 | .dn i s j k=>K (.dn i s j k)
 | .jB i s j k=>K (.jB i s j k)
 | .box i k=>K (.box i k)
 | .cf g i k=>K (.cf g i k)
 | .el cs k=>Ip cs (λ cs=>K (.el cs k))
 | .fn g cs=>Ip cs (λ cs=>K (.fn g cs))
 | .junk=>K .junk
theorem aiQ(x:AV)(K:AV->Prop):hd0 x K=K x:=by cases x<;>rfl
theorem C9:∀(l:List AV)(K:List AV->Prop),Ip l K=K l
 |[],_=>rfl
 |x::l,K=>by simp only[Ip,aiQ,C9 l]
theorem aiR(x:AV)(K:AV->Prop):hd1 x K=K x:=by cases x<;>first|rfl|exact C9 _ _
theorem Ym:∀(l:List AV)(K:List AV->Prop),agm l K=K l
 |[],_=>rfl
 |x::l,K=>by simp only[agm,aiR,Ym l]
theorem Pz(x:AV)(K:AV->Prop):hd2 x K=K x:=by cases x<;>first|rfl|exact C9 _ _|exact Ym _ _
def PD(lv k:Nat):Bool:=Nat.beq (Nat.land (Nat.shiftRight lv k) 1) 1
def GZ(lv:Nat):List (Nat×AV)->List (Nat×AV)
 |[]=>[]
 |(k,v)::l=>bif PD lv k then(k,v)::GZ lv l else GZ lv l
def acA(lv:Nat):List (Nat×AV)->(List (Nat×AV)->Prop)->Prop
 |[],K=>K []
 |(k,v)::l,K=>bif PD lv k then hd2 v (λ v=>acA lv l (λ r=>K ((k,v)::r)))else acA lv l K
def acB:List (Nat×AV)->(List (Nat×AV)->Prop)->Prop
 |[],K=>K []
 |(k,v)::l,K=>hd2 v (λ v=>acB l (λ r=>K ((k,v)::r)))
def ZO:List (ByteArray×Option Nat)->(List (ByteArray×Option Nat)->Prop)->Prop
 |[],K=>K []
 |(k,some i)::l,K=>ZO l (λ r=>K ((k,some i)::r))
 |(k,none)::l,K=>ZO l (λ r=>K ((k,none)::r))
theorem PE:∀(l:List (ByteArray×Option Nat))(K:List (ByteArray×Option Nat)->Prop),ZO l K=K l
 |[],_=>rfl
 |(k,some i)::l,K=>by simp only[ZO,PE l]
 |(k,none)::l,K=>by simp only[ZO,PE l]
def yx:List (Nat×AO)->(List (Nat×AO)->Prop)->Prop
 |[],K=>K []
 |(i,.box t cs)::l,K=>Ip cs (λ cs=>yx l (λ r=>K ((i,.box t cs)::r)))
 |(i,.row e s n sc f)::l,K=>match sc with
  |true=>yx l (λ r=>K ((i,.row e s n true f)::r))
  |false=>yx l (λ r=>K ((i,.row e s n false f)::r))
 |(i,.mp t ks rs)::l,K=>ZO ks (λ ks=>yx l (λ r=>K ((i,.mp t ks rs)::r)))
 |(i,.obs o)::l,K=>yx l (λ r=>K ((i,.obs o)::r))
 |(i,.rn e cs)::l,K=>Ip cs (λ cs=>yx l (λ r=>K ((i,.rn e cs)::r)))
def Yn:List (List (Nat×AV))->(List (List (Nat×AV))->Prop)->Prop
 |[],K=>K []
 |f::fs,K=>acB f (λ f=>Yn fs (λ r=>K (f::r)))
def AS.wB(st:AS)(lv:Nat):AS:=⟨GZ lv st.sl,st.heap,st.back,st.base⟩
def nrm(lv:Nat)(st:AS)(K:AS->Prop):Prop:=match st with|⟨sl,hp,bk,b⟩=>acA lv sl (λ l=>yx hp (λ h=>Yn bk (λ bk=>K ⟨l,h,bk,b⟩)))
def xY(st:AS)(K:AS->Prop):Prop:=match st with|⟨sl,hp,bk,b⟩=>acB sl (λ l=>yx hp (λ h=>K ⟨l,h,bk,b⟩))
theorem PG(lv:Nat):∀(l:List (Nat×AV))(K:List (Nat×AV)->Prop),acA lv l K=K (GZ lv l)
 |[],_=>rfl
 |(k,v)::l,K=>by
  simp only[acA,GZ];cases PD lv k with
  |true=>simp only[cond_true,Pz,PG lv l]
  |false=>simp only[cond_false,PG lv l]
theorem PI:∀(l:List (Nat×AV))(K:List (Nat×AV)->Prop),acB l K=K l
 |[],_=>rfl
 |(k,v)::l,K=>by simp only[acB,Pz,PI l]
theorem tq:∀(l:List (Nat×AO))(K:List (Nat×AO)->Prop),yx l K=K l
 |[],_=>rfl
 |(i,.box t cs)::l,K=>by simp only[yx,C9,tq l]
 |(i,.row e s n true f)::l,K=>by simp only[yx,tq l]
 |(i,.row e s n false f)::l,K=>by simp only[yx,tq l]
 |(i,.mp t ks rs)::l,K=>by simp only[yx,PE,tq l]
 |(i,.obs o)::l,K=>by simp only[yx,tq l]
 |(i,.rn e cs)::l,K=>by simp only[yx,C9,tq l]
theorem Si:∀(l:List (List (Nat×AV)))(K:List (List (Nat×AV))->Prop),Yn l K=K l
 |[],_=>rfl
 |f::fs,K=>by simp only[Yn,PI,Si fs]
theorem Iq(lv:Nat)(st:AS)(K:AS->Prop):nrm lv st K=K (st.wB lv):=by cases st;simp only[nrm,PG,tq,Si];rfl
theorem Yo(st:AS)(K:AS->Prop):xY st K=K st:=by cases st;simp only[xY,PI,tq]
def aij(L:Lay)(st:AS):ResultVar->(AV->Prop)->Prop
 | .tmp t,K=>K (st.tmps t)
 | .cell p t,K=>Yk L st t (st.tmps p) K
def acC(L:Lay)(st:AS):List ResultVar->(List AV->Prop)->Prop
 |[],K=>K []
 |r::rs,K=>aij L st r (λ x=>acC L st rs (λ xs=>K (x::xs)))
def Sj:AV->AV
 | .aZ _=> .junk
 |x=>x
def oN(L:Lay)(st:AS)(rs:List ResultVar)(K:AV->Prop):Prop:=
 acC L st rs (λ xs=>match xs with|[x]=>K x|xs=>K (.aZ (xs.map Sj)))
def Dc:Nat->List AV->List (Nat×AV)
 |_,[]=>[]
 |k,x::l=>(k,x)::Dc (k+1) l
def start(aW:List AV):AS:=⟨Dc 0 aW,[],[],0⟩
def AS.into(st:AS)(aW:List AV):AS:=⟨Dc 0 aW,st.heap,st.sl::st.back,st.base⟩
def acD(st:AS)(aW:List AV)(K:AS->Prop):Prop:=match st with|⟨sl,h,bk,b⟩=>K ⟨Dc 0 aW,h,sl::bk,b⟩
def AS.out(st:AS):AS:=match st.back with|f::r=>⟨f,st.heap,r,st.base⟩|[]=>st
inductive bQ(P:Program)(L:Lay)(W:Walk)(d:Nat)(f:FuncId)(aW:List AV)(st:AS)(K:AV->AS->Prop):Prop where
 |inl (lv:Nat) (fn:Func) (c:Code) (hf:P.funcs[f]? =some fn) (hn:(fn.name== "runtime.NumGoroutine")=false) (hb:fn.body=some c) (hsz:Nat.ble aW.length fn.ntmps=true)
   (h:acD st aW (W fn.ntmps lv c (λ e st'=>match e with| .exit _=>False| .normal=>oN L st' fn.results.toList (λ x=>xY (st'.out) (K x))| .ret=>oN L st' fn.results.toList (λ x=>xY (st'.out) (K x))))):bQ P L W d f aW st K
 |RG (hin hout:List (Nat×AO)) (r:AV) (hs:aj P f hin aW r hout) (hh:ZM st hin) (hb:(uz (hin.map (·.1))&&aW.all RZ&&fF hout hout&&acv hout r&&wu d hin hout)=true):K r (st.RG d hin hout)->bQ P L W d f aW st K
 |plain (bs:List AV) (r:AV) (hs:aF P f bs r []) (hsub:GY st.heap aW bs) (hr:ok2 none r=true):K r (bif rU r then st else wz st aW)->bQ P L W d f aW st K
 |fresh (bs:List AV) (r:AV) (e:TypeId) (s n:Nat) (sc:Bool) (g:Nat->List AV) (hs:aF P f bs r [(d,.row e s n sc g)]) (hsub:GY st.heap aW bs) (hr:ok2 (some d) r=true):
   K r ((bif rU r&&sc then st else wz st aW).obj d d (.row e s n sc g))->bQ P L W d f aW st K
 |sem (hE:Enters P f) (h:∀(g:Base)(N:Nat)(bs:List (Array Value))(ρ:Nat->Value)(a:Act)(w:World)(args:List Value),Rel g N bs ρ a w st->aC (C2 (aA g w ρ st.heap)) aW args->
   Calls P f args.toArray w λ e w'=> ∃u x st' ρ',e= .returned u/\K x st'/\Rel g N bs ρ' a w' st'/\C2 (aA g w' ρ' st'.heap) x u):bQ P L W d f aW st K
def acE:AV->Bool
 | .own _=>false
 |_=>true
def acF:AV->Bool
 | .agg cs=>cs.all acE
 |x=>acE x
inductive Ir(k:ByteArray)(ks:List (ByteArray×Option Nat))(K:Nat->Nat->Prop):Prop where
 |mk (i id:Nat) (k':ByteArray) (h:ks[i]? =some (k',some id)) (hk:k=k') (hK:K i id):Ir k ks K
def PK(L:Lay)(d:Nat)(st:AS)(t:TypeId)(m ix:AV)(K:AV->AS->Prop):Prop:=
 match aU L t,ix,m with
 |some ti,.v (.string k),.own id=>(match ti.kind with
  | .map kt et=>(match aU L kt,aU L et with
    |some ki,some ei=>(match ki.kind,ei.kind with
     | .str,.slice e=>(match aU L e with
       |some ee=>bif Nat.ble 1 ee.size then(match aG id (st.obj d d (.row e ee.size 0 true (λ _=>[]))).heap with
        |some (.mp t' ks rs)=>Ir k ks (λ i _=>K (.aZ []) ⟨(st.obj d d (.row e ee.size 0 true (λ _=>[]))).sl,setObj id (.mp t' (ks.set i (k,some d)) rs) (st.obj d d (.row e ee.size 0 true (λ _=>[]))).heap,(st.obj d d (.row e ee.size 0 true (λ _=>[]))).back,(st.obj d d (.row e ee.size 0 true (λ _=>[]))).base⟩)
        |_=>False)else False
       |none=>False)
     |_,_=>False)
    |_,_=>False)
  |_=>False)
 |_,_,_=>False
def aiS(x y:AV)(K:AV->Prop):Prop:=
 match x,y with
 | .v (.int k a),.v (.int _ b)=>K (.v (.int k (if b<a then b else a)))
 |_,_=>False
def aiT(x y:AV)(K:AV->Prop):Prop:=
 match x,y with
 | .v (.int k a),.v (.int _ b)=>K (.v (.int k (if b>a then b else a)))
 |_,_=>False
def RH(lo k:Nat)(f g:Nat->List AV):Nat->List AV:=lV lo f (lV k g (λ i=>f (lo+k+i)))
def aiU(L:Lay)(st:AS)(s:Nat)(t:TypeId)(y:AV)(K:Nat->Bool->(Nat->List AV)->Prop):Prop:=
 match y with
 | .jB id s1 lo m=>(match aU L t with
   |some ti=>(match ti.kind,aG id st.heap with
    | .slice _,some (.row _ s' r sc f)=>bif Nat.beq s s1&&Nat.beq s s' then ZH (lo+m<=r) (K m sc (λ i=>f (lo+i)))else False
    |_,_=>False)
   |none=>False)
 |y=>match Yl L st s t y with|some (n,sc',g)=>K n sc' g|none=>False
def acG(L:Lay)(st:AS)(t tx:TypeId)(x y:AV)(K:AV->AS->Prop):Prop:=
 match aU L t with
 |some ti=>match ti.kind with
  | .slice e=>match aU L e with
    |some ei=>bif Nat.ble 1 ei.size then aiU L st ei.size tx y (λ n sc' g=>match x with
      | .own id=>(match aG id st.heap with
      |some (.row e' s m sc f)=>bif Nat.beq s ei.size then ZH (n<=m) (K (.v (.int .i64 (n:Int))) ⟨st.sl,setObj id (.row e' s m (sc&&sc') (RH 0 n f g)) st.heap,st.back,st.base⟩)else False
      |_=>False)
      | .jB id s lo m=>(match aG id st.heap with
      |some (.row e' s' r sc f)=>bif Nat.beq s ei.size&&Nat.beq s' s then ZH (n<=m/\lo+m<=r) (K (.v (.int .i64 (n:Int))) ⟨st.sl,setObj id (.row e' s' r (sc&&sc') (RH lo n f g)) st.heap,st.back,st.base⟩)else False
      |some (.box t' cs)=>bif Nat.beq s 1&&Nat.ble n m&&Nat.ble (lo+n*ei.size) cs.length then K (.v (.int .i64 (n:Int))) ⟨st.sl,setObj id (.box t' (splice cs lo (flat n g))) st.heap,st.back,st.base⟩else False
      |_=>False)
      |_=>False)else False
    |none=>False
  |_=>False
 |none=>False
def Wi(L:Lay)(st:AS)(t:TypeId)(x:AV)(K:AV->AS->Prop):Prop:=
 match aU L t with
 |some ti=>match ti.kind,x with
  | .slice _,.v (.slice none _ _)=>K (.v undef) st
  | .slice e,.jB id s lo m=>(match aU L e with
    |some ei=>(match aG id st.heap with
     |some (.row e' s' r sc f)=>bif Nat.beq s ei.size&&Nat.beq s' s&&Nat.beq ei.zero.length ei.size&&Nat.ble 1 ei.size&&ei.zero.all (λ x=>x.oneCell')then ZH (lo+m<=r) (K (.v undef) ⟨st.sl,setObj id (.row e' s' r sc (RH lo m f (λ _=>ei.zero.map .v))) st.heap,st.back,st.base⟩)else False
     |_=>False)
    |none=>False)
  |_,_=>False
 |none=>False
def yA(L:Lay)(d:Nat)(st:AS)(b:Builtin)(ts:List TypeId)(xs:List AV)(K:AV->AS->Prop):Prop:=
 match b,ts,xs with
 | .len,[t],[x]=>aiO L st t x (λ y=>K y st)
 | .append,[t,tx],[x,y]=>Pv L d st t tx x y K
 | .min,_,[x,y]=>aiS x y (λ z=>K z st)
 | .max,_,[x,y]=>aiT x y (λ z=>K z st)
 | .delete,[t,_],[x,y]=>PK L d st t x y K
 | .copy,[t,tx],[x,y]=>acG L st t tx x y K
 | .clear,[t],[x]=>Wi L st t x K
 |_,_,_=>False
structure ZN(P:Program)(t:TypeId)(A:Prop):Prop where
 mk::
 z:∀w,(zeroValue t).run P w= .ok (.slice none 0 0) w
 k:A
def rowB(h:List (Nat×AO))(i:Nat):Bool:=match aG i h with|some (.row ..)=>true|_=>false
def PL(P:Program)(L:Lay)(st:AS)(t:TypeId)(x ix:AV)(K:AV->Prop):Prop:=
 match aU L t,ix with
 |some ti,.v (.string k)=>(match ti.kind with
  | .map kt et=>(match aU L kt with
    |some ki=>(match ki.kind,x with
     | .str,.own id=>(match aG id st.heap with
       |some (.mp _ ks _)=>ZN P et (Ir k ks (λ _ i=>bif rowB st.heap i then K (.own i)else False))
       |_=>False)
     | .str,.v (.map none)=>ZN P et (K (.v (.slice none 0 0)))
     |_,_=>False)
    |none=>False)
  |_=>False)
 |_,_=>False
def Ba(L:Lay)(st:AS)(t:TypeId)(m ix x:AV)(K:AS->Prop):Prop:=
 match aU L t,ix,m,x with
 |some ti,.v (.string k),.own id,.own j=>(match ti.kind with
  | .map kt _=>(match aU L kt with
    |some ki=>(match ki.kind,aG id st.heap,aG j st.heap with
     | .str,some (.mp t' ks rs),some (.row _ _ n _ _)=>ZH (0<n) (Ir k ks (λ i _=>K ⟨st.sl,setObj id (.mp t' (ks.set i (k,some j)) rs) st.heap,st.back,st.base⟩))
     |_,_,_=>False)
    |none=>False)
  |_=>False)
 |_,_,_,_=>False
inductive aiV(K:List ByteArray->Prop):Prop where
 |mk (keys:List ByteArray) (hn:keys.Nodup) (h:K keys):aiV K
def Yp(e:TypeId)(s:Nat):List ByteArray->AS->List (ByteArray×Option Nat)->(List (ByteArray×Option Nat)->AS->Prop)->Prop
 |[],st,acc,K=>K acc st
 |k::r,st,acc,K=>nameOf st (λ d=>Yp e s r (st.obj d d (.row e s 0 true (λ _=>[]))) (acc++[(k,some d)]) K)
def Iu(L:Lay)(st:AS)(t:TypeId)(K:AV->AS->Prop):Prop:=
 match aU L t with
 |some ti=>(match ti.kind with
  | .map kt et=>(match aU L kt,aU L et with
    |some ki,some ei=>(match ki.kind,ei.kind with
     | .str,.slice e=>(match aU L e with
       |some ee=>bif Nat.ble 1 ee.size then aiV (λ keys=>Yp e ee.size keys st [] (λ ks st'=>nameOf st' (λ d=>K (.own d) (st'.obj d d (.mp t ks [])))))else False
       |none=>False)
     |_,_=>False)
    |_,_=>False)
  |_=>False)
 |none=>False
def Yq(L:Lay)(t:TypeId):Bool:=match aU L t with
 |some ti=>(match ti.kind with
  | .map kt _=>(match aU L kt with|some ki=>(match ki.kind with| .str=>true|_=>false)|none=>false)
  |_=>false)
 |none=>false
def mM:Op->Bool
 | .move _=>true
 | .assign _=>true
 | .pick .. =>true
 | .load .. =>true
 | .fieldAddr .. =>true
 | .field .. =>true
 | .indexAddr .. =>true
 | .index .. =>true
 | .extract .. =>true
 | .build .. =>true
 | .binOp .. =>true
 | .unOp .. =>true
 | .convert .. =>true
 | .nilCheck _=>true
 | .sliceToArrayPointer .. =>true
 | .lookup _ _ _ false=>true
 | .makeInterface .. =>true
 | .call {callee:= .builtin .len,.. }=>true
 | .call {callee:= .builtin .min,.. }=>true
 | .call {callee:= .builtin .max,.. }=>true
 |_=>false
def ZP(st:AS):AV->Bool
 | .v (.map none)=>true
 | .own id=>(match aG id st.heap with|some (.obs _)=>true|_=>false)
 | .box id _=>(match aG id st.heap with|some (.obs _)=>true|_=>false)
 |_=>false
def aiW(st:AS):Op->Bool
 | .load _ p=>ZP st (st.ev p)
 | .store _ p _=>ZP st (st.ev p)
 | .indexAddr _ x _=>ZP st (st.ev x)
 | .lookup _ x _ _=>ZP st (st.ev x)
 | .mapUpdate _ m _ _=>ZP st (st.ev m)
 | .call c=>(match c.callee with| .builtin _=>(match c.args.toList with|x::_=>ZP st (st.ev x)|[]=>false)| .value x=>(match st.ev x with| .v (.func (.yield _) _ _)=>true|_=>false)|_=>false)
 |_=>false
inductive kU(P:Program)(st:AS)(op:Op)(K:AV->AS->Prop):Prop where
 |q (x:AV) (hK:K x st) (h:∀(g:Base)(N:Nat)(bs:List (Array Value))(ρ:Nat->Value)(a:Act)(w:World)(o:Oper),o.op=op->Rel g N bs ρ a w st-> ∃u,C2 (aA g w ρ st.heap) x u/\(execOp a.eval o).run P w= .ok (.value u) w)
 |mk (hq:mM op=false) (h:∀(g:Base)(N:Nat)(bs:List (Array Value))(ρ:Nat->Value)(a:Act)(w:World)(o:Oper)(next:Act->World->Prop)(Q:Exit->Act->World->Prop),o.op=op->Rel g N bs ρ a w st->
   (∀x st' u ρ' w',K x st'->Rel g N bs ρ' a w' st'->C2 (aA g w' ρ' st'.heap) x u->next (a.put o.dst u) w')->o.wp P a w next Q)
def Wj(P:Program)(L:Lay)(W:Walk)(_d:Nat)(st:AS)(op:Op)(K:AV->AS->Prop):Prop:=
 bif aiW st op then kU P st op K else
 match op with
 | .move x=>K (st.ev x) st
 | .assign x=>K (st.ev x) st
 | .pick c a b=>match st.ev c with| .v (.bool t)=>K (match t with|true=>st.ev a|false=>st.ev b) st|_=>False
 | .alloc t=>match aU L t with|some i=>nameOf st (λ d=>K (.box d 0) (st.obj d d (.box t (i.zero.map .v))))|none=>False
 | .box t x=>match(st.ev x).cells? with|some cs=>bif cs.all (Aq st.heap)then nameOf st (λ d=>K (.box d 0) (st.obj d d (.box t cs)))else False|none=>False
 | .load t p=>Yk L st t (st.ev p) (λ y=>K y st)
 | .store t p x=>V6 L st t (st.ev p) (st.ev x) (λ st'=>K (.v undef) st')
 | .fieldAddr t x i=>o7 L t (st.ev x) i (λ y=>K y st)
 | .field t x i=>V7 L t (st.ev x) i (λ y=>K y st)
 | .indexAddr t x i=>A8 L st t (st.ev x) (st.ev i) (λ y=>K y st)
 | .index t x i=>V8 L t (st.ev x) (st.ev i) (λ y=>K y st)
 | .extract x i=>Il (st.ev x) i (λ y=>K y st)
 | .build t parts=>EM L st.heap t (parts.toList.map λ p=>(p.1,st.ev p.2)) (λ y=>K y st)
 | .buildSlice t n parts=>nameOf st (λ d=>bif (parts.toList.map λ p=>st.ev p.2).all acF then sZ L d st t n (parts.toList.map λ p=>(p.1,st.ev p.2)) K else xY (wz st (parts.toList.map λ p=>st.ev p.2)) (λ st'=>sZ L d st' t n (parts.toList.map λ p=>(p.1,st'.ev p.2)) K))
 | .binOp o t x y _=>aiN P L o t (st.ev x) (st.ev y) (λ z=>K z st)
 | .unOp o _ x=>aun o (st.ev x) (λ z=>K z st)
 | .convert s t x=>Io L st s t (st.ev x) (λ z=>K z st)
 | .slice t x lo hi mx=>aslice L st t (st.ev x) (lo.map st.ev) (hi.map st.ev) (mx.map st.ev) K
 | .nilCheck x=>match(st.ev x).acj with| .box i k=>K (.box i k) st| .fn g cs=>K (.fn g cs) st|_=>False
 | .makeFunc (.func g) first caps=>match first.toList with
   |[]=>bif (caps.toList.map st.ev).all (Aq st.heap)then K (.fn g (caps.toList.map st.ev)) st else False
   |x::r=>match st.ev x with| .box id off=>bif Nat.blt g million&&r.isEmpty&&caps.toList.isEmpty then K (.cf (Nat.add g million) id off) st else False|_=>False
 | .call c=>match c.callee with
   | .builtin b=>nameOf st (λ d=>yA L d st b c.argTypes.toList (c.args.toList.map st.ev) K)
   | .value x=>match(st.ev x).acj with
     | .fn g caps=>nameOf st (λ d=>bQ P L W d g (c.args.toList.map st.ev++caps) st K)
     | .cf g id off=>bif !Nat.blt g million&&Nat.blt g jI then nameOf st (λ d=>bQ P L W d (Nat.sub g million) (.box id off::c.args.toList.map st.ev) st K)else False
     |_=>False
   |_=>kU P st (.call c) K
 | .makeSlice t l c=>nameOf st (λ d=>acu L d st t (st.ev l) (st.ev c) K)
 | .sliceToArrayPointer t x=>Wh L t (st.ev x) (λ y=>K y st)
 | .lookup t x i false=>PL P L st t (st.ev x) (st.ev i) (λ y=>K y st)
 | .mapUpdate t m i x=>Ba L st t (st.ev m) (st.ev i) (st.ev x) (λ st'=>K (.v undef) st')
 | .makeMap t none=>bif Yq L t then Iu L st t K else kU P st (.makeMap t none) K
 |_=>kU P st op K
def uS(b:Bool)(A B:Prop):Prop:=match b with|true=>A|false=>B
theorem uS.mk{B:Prop}(h1:b=true->A)(h2:b=false->B):uS b A B:=by cases b;exact h2 rfl;exact h1 rfl
theorem uS.dec[Decidable p]{B:Prop}(h1:p->A)(h2:¬p->B):uS (decide p) A B:=by
 by_cases h:p
 ·rw[decide_eq_true h];exact h1 h
 ·rw[decide_eq_false h];exact h2 h
theorem uS.yes{B:Prop}(h:b=true)(a:A):uS b A B:=by rw[h];exact a
theorem uS.no{B:Prop}(h:b=false)(a:B):uS b A B:=by rw[h];exact a
def force(x:AV)(K:AV->Prop):Prop:=
 match x with
 | .v (.bool b)=>uS b (K (.v (.bool true))) (K (.v (.bool false)))
 | .v y=>K (.v y)
 | .agg cs=>K (.agg cs)
 | .aZ vs=>K (.aZ vs)
 | .sl s n sc f=>K (.sl s n sc f)
 | .own i=>K (.own i)
 | .dn i s j k=>K (.dn i s j k)
 | .jB i s j k=>K (.jB i s j k)
 | .box i k=>K (.box i k)
 | .cf g i k=>K (.cf g i k)
 | .el cs k=>K (.el cs k)
 | .fn g cs=>K (.fn g cs)
 | .junk=>K .junk
theorem force_eq(x:AV)(K:AV->Prop):force x K=K x:=by
 cases x with
 |v y=>
  cases y with
  |bool b=>cases b<;>rfl
  |_=>rfl
 |_=>rfl
def qE(N:Nat)(st:AS)(d:Option Tmp)(x:AV)(K:AS->Prop):Prop:=
 match d with
 |some d=>bif Nat.ble (d+1) N then force x (λ x=>match st with|⟨sl,h,bk,b⟩=>K ⟨(d,x)::sl,h,bk,b⟩)else False
 |none=>K st
def Bc(P:Program)(L:Lay)(W:Walk)(dst:Option Tmp)(st:AS)(op:Op)(K:AV->AS->Prop):Prop:=
 match dst with
 |some d=>Wj P L W d st op K
 |none=>Wj P L W 0 st op K
def xZ(P:Program)(L:Lay)(W:Walk)(N:Nat)(ops:List Oper)(Q:AS->Prop):List Oper->AS->Prop
 |[],st=>Q st
 |⟨dst,op,_,_,_,guard⟩::rest,st=>
  match guard with
  |none=>Bc P L W dst st op (λ x st'=>qE N st' dst x (xZ P L W N ops Q rest))
  |some (j,want)=>match(ops[j]?).bind (·.dst)with
   |some dj=>bif Nat.ble (dj+1) N then(match st.tmps dj with
    | .v (.bool b)=>(match b==want with
    |true=>Bc P L W dst st op (λ x st'=>qE N st' dst x (xZ P L W N ops Q rest))
    |false=>qE N st dst (.v undef) (xZ P L W N ops Q rest))
    | .v (.tuple _)=>qE N st dst (.v undef) (xZ P L W N ops Q rest)
    |_=>False)else False
   |none=>False
def dJ(x y:AV):Prop:= ∀(X:CX)(u:Value),C2 X x u->C2 X y u
def dK(o o':AO):Prop:= ∀(X:CX)(id:Nat),aQ X id o->aQ X id o'
theorem dJ.refl(x:AV):dJ x x:=λ _ _ h=>h
theorem dK.refl(o:AO):dK o o:=λ _ _ h=>h
def qF:List (List (Nat×AV))->List (List (Nat×AV))->Prop
 |[],[]=>True
 |f::fs,h::hs=>(∀t,sQ h t= .junk\/dJ (sQ f t) (sQ h t))/\qF fs hs
 |_,_=>False
theorem qF.refl:∀fs,qF fs fs
 |[]=>trivial
 |_::fs=>⟨λ _=> .inr (dJ.refl _),qF.refl fs⟩
structure Iw(st S:AS):Prop where
 tm:∀t,S.tmps t= .junk\/dJ (st.tmps t) (S.tmps t)
 hp:∀p∈S.heap,∃o,aG p.1 st.heap=some o/\dK o p.2
 nd:(S.heap.map (·.1)).Nodup
 bk:qF st.back S.back
def LeT(st:AS):List (Nat×AV)->Prop
 |[]=>True
 |p::l=>dJ (st.tmps p.1) p.2/\LeT st l
def LeH(st:AS):List (Nat×AO)->Prop
 |[]=>True
 |p::l=>(∃o,aG p.1 st.heap=some o/\dK o p.2)/\LeH st l
def nodupB:List Nat->Bool
 |[]=>true
 |x::l=> !(l.any (Nat.beq x))&&nodupB l
theorem nT:∀{l:List Nat},nodupB l=true->l.Nodup
 |[],_=>List.nodup_nil
 |x::l,h=>by
  simp only[nodupB,amY,anB]at h;refine an1.2 ⟨λ hx=> ?_,nT h.2⟩;have:=ao8.1 h.1 x hx;simp at this
theorem Iw.mk'{st:AS}(l:List (Nat×AV))(h:List (Nat×AO))(ht:LeT st l)(hh:LeH st h)(hn:nodupB (h.map (·.1))=true):Iw st ⟨l,h,st.back,st.base⟩:=by
 refine⟨λ t=> ?_,λ p hp=> ?_,nT hn,qF.refl _⟩
 ·induction l with
  |nil=>exact .inl rfl
  |cons p l ih=>
   show sQ (p::l) t= .junk\/dJ (st.tmps t) (sQ (p::l) t);simp only[sQ];cases hb:Nat.beq t p.1 with
   |true=>
    obtain rfl:=am3 hb;exact .inr ht.1
   |false=>exact ih ht.2
 ·induction h with
  |nil=>cases hp
  |cons q h ih=>
   rcases am4.1 hp with rfl|hp'
   ·exact hh.1
   ·exact ih hh.2 (by simp only[anS,nodupB,amY]at hn;exact hn.2) hp'
def jY:List (Nat×Nat)->Nat->Option Nat
 |[],_=>none
 |(k,i)::r,x=>bif Nat.beq x k then some i else jY r x
def ZQ:List (Nat×Nat)->Nat->Bool
 |[],_=>false
 |(_,i)::r,x=>Nat.beq x i||ZQ r x
def lG(σ:List (Nat×Nat))(k:Nat):Option Nat:=match jY σ k with|some i=>some i|none=>bif ZQ σ k then none else some k
def qO(σ:List (Nat×Nat)):AV->AV
 | .v x=> .v x
 | .agg cs=> .agg cs
 | .aZ vs=> .aZ vs
 | .sl s n sc f=> .sl s n sc f
 | .own id=>match lG σ id with|some i=> .own i|none=> .junk
 | .dn id s i k=>match lG σ id with|some j=> .dn j s i k|none=> .junk
 | .jB id s i k=>match lG σ id with|some j=> .jB j s i k|none=> .junk
 | .box id off=>match lG σ id with|some i=> .box i off|none=> .junk
 | .cf g id off=>match lG σ id with|some i=> .cf g i off|none=> .junk
 | .el cs k=> .el cs k
 | .fn g cs=> .fn g cs
 | .junk=> .junk
def Sl(σ:List (Nat×Nat)):AV->AV
 | .v x=> .v x
 | .agg cs=> .agg (cs.map (qO σ))
 | .aZ vs=> .aZ vs
 | .sl s n sc f=> .sl s n sc f
 | .own id=>match lG σ id with|some i=> .own i|none=> .junk
 | .dn id s i k=>match lG σ id with|some j=> .dn j s i k|none=> .junk
 | .jB id s i k=>match lG σ id with|some j=> .jB j s i k|none=> .junk
 | .box id off=>match lG σ id with|some i=> .box i off|none=> .junk
 | .cf g id off=>match lG σ id with|some i=> .cf g i off|none=> .junk
 | .el cs k=> .el cs k
 | .fn g cs=> .fn g (cs.map (qO σ))
 | .junk=> .junk
def ER(σ:List (Nat×Nat)):AV->AV
 | .v x=> .v x
 | .agg cs=> .agg (cs.map (qO σ))
 | .aZ vs=> .aZ (vs.map (Sl σ))
 | .sl s n sc f=> .sl s n sc f
 | .own id=>match lG σ id with|some i=> .own i|none=> .junk
 | .dn id s i k=>match lG σ id with|some j=> .dn j s i k|none=> .junk
 | .jB id s i k=>match lG σ id with|some j=> .jB j s i k|none=> .junk
 | .box id off=>match lG σ id with|some i=> .box i off|none=> .junk
 | .cf g id off=>match lG σ id with|some i=> .cf g i off|none=> .junk
 | .el cs k=> .el cs k
 | .fn g cs=> .fn g (cs.map (qO σ))
 | .junk=> .junk
def jL(σ:List (Nat×Nat)):List (ByteArray×Option Nat)->List (ByteArray×Option Nat)
 |[]=>[]
 |(k,some i)::l=>(k,lG σ i)::jL σ l
 |(k,none)::l=>(k,none)::jL σ l
theorem zB(σ:List (Nat×Nat)):∀ks:List (ByteArray×Option Nat),(jL σ ks).map (·.1)=ks.map (·.1)
 |[]=>rfl
 |(k,some i)::l=>by simp[jL,zB σ l]
 |(k,none)::l=>by simp[jL,zB σ l]
theorem jJ.ren{ρ ρ':Nat->Value}{σ:List (Nat×Nat)}(h:∀k i,lG σ k=some i->ρ' i=ρ k):∀{ks:List (ByteArray×Option Nat)}{vs:List Value},jJ ρ ks vs->jJ ρ' (jL σ ks) vs
 |[],_,k=>k
 |(k,some i)::l,vs,⟨v,r,e,hi,hr⟩=>⟨v,r,e,λ j hj=>by rw[h i j hj];exact hi _ rfl,jJ.ren h hr⟩
 |(k,none)::l,vs,⟨v,r,e,_,hr⟩=>⟨v,r,e,λ j hj=>(by cases hj),jJ.ren h hr⟩
def AO.ren(σ:List (Nat×Nat)):AO->AO
 | .box t cs=> .box t (cs.map (qO σ))
 | .row e s n sc f=> .row e s n sc f
 | .mp t ks rs=> .mp t (jL σ ks) rs
 | .obs o=> .obs o
 | .rn e cs=> .rn e (cs.map (qO σ))
def iO(σ:List (Nat×Nat)):List (Nat×AO)->List (Nat×AO)
 |[]=>[]
 |(k,o)::h=>match lG σ k with|some i=>(i,o.ren σ)::iO σ h|none=>iO σ h
def AS.ren(st:AS)(σ:List (Nat×Nat)):AS:=⟨uw (ER σ) st.sl,iO σ st.heap,st.back.map (uw (ER σ)),st.base⟩
structure dZ(σ:List (Nat×Nat))(st S:AS):Prop where
 nd:nodupB (σ.map (·.2))=true
 le:Iw (st.ren σ) S
def xO(st S:AS):Prop:= ∀(g:Base)(N:Nat)(bs:List (Array Value))(ρ:Nat->Value)(a:Act)(w:World),Rel g N bs ρ a w st-> ∃ρ',Rel g N bs ρ' a w S
theorem xO.refl(st:AS):xO st st:=λ _ _ _ ρ _ _ R=>⟨ρ,R⟩
theorem xO.trans{a b c:AS}(h:xO a b)(k:xO b c):xO a c:=λ g N bs ρ a w R=>by
 obtain⟨ρ1,R1⟩:=h g N bs ρ a w R;exact k g N bs ρ1 a w R1
def Hq(body:(jd->AS->Prop)->AS->Prop)(Q:jd->AS->Prop):Nat->AS->Prop
 |0,_=>False
 |n+1,st=>body (λ e st'=>match e with| .normal=>Hq body Q n st'| .exit i=>Q (.exit i) st'| .ret=>Q .ret st') st
inductive aI(body:(jd->AS->Prop)->AS->Prop)(Q:jd->AS->Prop):AS->Prop where
 |mk {st:AS} (X:Type) (S:X->AS) (m:X->Nat) (x0:X) (σ:List (Nat×Nat)) (h0:dZ σ st (S x0))
  (hb:∀x,body (λ e st'=>match e with| .normal=> ∃y σ,dZ σ st' (S y)/\m y<m x| .exit i=>Q (.exit i) st'| .ret=>Q .ret st') (S x)):aI body Q st
 |rounds {st:AS} (n:Nat) (h:Hq body Q n st):aI body Q st
 |nil {st:AS} (t d:Nat) (e:TypeId) (s:Nat) (f:Nat->List AV) (ht:st.tmps t= .v (.slice none 0 0)) (hs:0<s) (h:aI body Q ((st.obj d d (.row e s 0 true f)).put t (.own d))):aI body Q st
 |acH {st:AS} (id k d:Nat) (e:TypeId) (s:Nat) (f:Nat->List AV) {t:TypeId} {cs:List AV} (hs:0<s) (hf:aG id (st.obj d d (.row e s 0 true f)).heap=some (.box t cs)) (hk:cs[k]? =some (.v (.slice none 0 0)))
   (h:aI body Q ⟨(st.obj d d (.row e s 0 true f)).sl,setObj id (.box t (cs.set k (.own d))) (st.obj d d (.row e s 0 true f)).heap,(st.obj d d (.row e s 0 true f)).back,(st.obj d d (.row e s 0 true f)).base⟩):aI body Q st
 |EO {st:AS} (id:Nat) {e:TypeId} {s n:Nat} {sc:Bool} {f:Nat->List AV} (hf:aG id st.heap=some (.row e s n sc f)) (h:aI body Q (st.freeze id s n sc f)):aI body Q st
 |imp {st:AS} (S:AS) (h0:xO st S) (h:aI body Q S):aI body Q st
 |mkI {st:AS} (X:Type) (S:X->AS) (m:X->Nat) (x0:X) (h0:xO st (S x0))
  (hb:∀x,body (λ e st'=>match e with| .normal=> ∃y,xO st' (S y)/\m y<m x| .exit i=>Q (.exit i) st'| .ret=>Q .ret st') (S x)):aI body Q st
inductive alC(body:AS->Prop)(st:AS):Prop where
 |mk (S:AS) (h0:Iw st S) (hb:body S):alC body st
inductive fU(P:Program)(L:Lay)(W:Walk)(N:Nat)(id:Nat)(ops:Array Oper)(K:AS->Prop)(st:AS):Prop where
 |quiet (hm:P.follows .mixedOrders=true) (hB:Region.lexB .any ops=true) (hq:ops.toList.all (λ o=>mM o.op)=true) (h:xZ P L W N ops.toList K ops.toList st):fU P L W N id ops K st
 |sem (h:∀(g:Base)(bs:List (Array Value))(ρ:Nat->Value)(a:Act)(w:World)(E:Exit->Act->World->Prop),Rel g N bs ρ a w st->(∀ρ a w st,Rel g N bs ρ a w st->K st->E .normal a w)->(Code.region id ops true).wp P E a w):fU P L W N id ops K st
def qOf(g:Base)(N:Nat)(bs:List (Array Value))(Q:jd->AS->Prop)(E:Exit->Act->World->Prop):Prop:=
 (∀ρ a w st,Rel g N bs ρ a w st->Q .normal st->E .normal a w)/\(∀i ρ a w st,Rel g N bs ρ a w st->Q (.exit i) st->E (.exit i) a w)/\(∀ρ a w st,Rel g N bs ρ a w st->Q .ret st->E .ret a w)
inductive Iy(P:Program)(N:Nat)(c:Code)(Q:jd->AS->Prop)(st:AS):Prop where
 |mk (h:∀(g:Base)(bs:List (Array Value))(E:Exit->Act->World->Prop)(ρ:Nat->Value)(a:Act)(w:World),qOf g N bs Q E->Rel g N bs ρ a w st->c.wp P E a w):Iy P N c Q st
def kV(P:Program)(L:Lay)(W:Walk)(N lv:Nat):Code->(jd->AS->Prop)->AS->Prop
 | .skip,Q,st=>Q .normal st
 | .region id ops draw,Q,st=>match draw with|false=>xZ P L W N ops.toList (λ st'=>nrm lv st' (Q .normal)) ops.toList st|true=>fU P L W N id ops (λ st'=>nrm lv st' (Q .normal)) st
 | .seq a b,Q,st=>kV P L W N lv a (λ e st'=>match e with| .normal=>kV P L W N lv b Q st'| .exit i=>Q (.exit i) st'| .ret=>Q .ret st') st
 | .cond c a b,Q,st=>match st.ev c with| .v (.bool t)=>(match t with|true=>kV P L W N lv a Q st|false=>kV P L W N lv b Q st)|_=>False
 | .block id c,Q,st=>kV P L W N lv c (λ e st'=>match e with| .normal=>Q .normal st'| .exit i=>(bif Nat.beq i id then Q .normal st' else Q (.exit i) st')| .ret=>Q .ret st') st
 | .exit id,Q,st=>Q (.exit id) st
 | .ret,Q,st=>Q .ret st
 | .loop c,Q,st=>aI (kV P L W N lv c) Q st
 |c,Q,st=>Iy P N c Q st
def zC(P:Program)(L:Lay):Nat->Walk
 |0=>λ _ _ _ _ _=>False
 |n+1=>λ N lv c Q st=>kV P L (zC P L n) N lv c Q st
def agn(h:List (Nat×AO))(id d:Nat):AV->AV
 | .own i=>bif Nat.beq i id then .own d else LH h (.own i)
 |x=>LH h x
def aiX(h:List (Nat×AO))(id d:Nat):AV->AV
 | .agg cs=> .agg (cs.map (agn h id d))
 |x=>agn h id d x
def akp(h:List (Nat×AO))(id d:Nat):AV->AV
 | .aZ vs=> .aZ (vs.map (aiX h id d))
 |x=>aiX h id d x
def Wn(h:List (Nat×AO)):AV->AV
 | .aZ vs=> .aZ (vs.map (Px h))
 |x=>Px h x
inductive aT(st:AS)(x:AV):AV->List (Nat×AO)->Prop where
 |plain (r:AV) (hr:dJ (Wn st.heap x) r):aT st x r []
 |own (id d:Nat) (r:AV) (e:TypeId) (s n:Nat) (sc:Bool) (f:Nat->List AV) (o':AO) (hf:aG id st.heap=some (.row e s n sc f)) (ho:dK (.row e s n sc f) o') (hr:dJ (akp st.heap id d x) r):aT st x r [(d,o')]
 |nil (d:Nat) (e:TypeId) (s:Nat) (f:Nat->List AV) (hx:x= .v (.slice none 0 0)) (hs:0<s):aT st x (.own d) [(d,.row e s 0 true f)]
def Sm(L:Lay)(fn:Func)(r:AV)(h:List (Nat×AO)):jd->AS->Prop
 | .normal,st=>oN L st fn.results.toList (λ x=>aT st x r h)
 | .ret,st=>oN L st fn.results.toList (λ x=>aT st x r h)
 | .exit _,_=>False
theorem jm{L:Lay}(hL:bD P L){t:TypeId}{i:TI}(h:aU L t=some i):
  ∃info z d,P.info? t=some info/\P.underlying t=some d/\info.zero=some z/\info.size=i.size/\info.bytes=i.bytes/\z.cells.toList=i.zero/\kindOf d=i.kind:=by
 have hf:=hL t i h;unfold V4 at hf;split at hf
 ·rename_i info d h1 h2;cases hz:info.zero with
  |none=>rw[hz]at hf;cases hf
  |some z=>
   rw[hz]at hf;simp only[aoo,ank]at hf;subst hf;exact⟨info,z,d,h1,h2,hz,rfl,rfl,rfl,rfl⟩
 ·cases hf
section
variable{P:Program}{L:Lay}
theorem gy(hL:bD P L){t:TypeId}{i:TI}(h:aU L t=some i)(w:World):(sizeOf t).run P w= .ok i.size w:=by
 obtain⟨info,z,d,h1,h2,h3,h4,_⟩:=jm hL h;simp[sizeOf,typeInfo,h1,h4]
theorem o8(hL:bD P L){t:TypeId}{i:TI}(h:aU L t=some i)(w:World):(isAgg t).run P w= .ok i.isAgg w:=by
 obtain⟨info,z,d,h1,h2,h3,h4,h5,h6,h7⟩:=jm hL h;unfold isAgg;rw[am',run_underlying h2 w];unfold TI.isAgg;rw[<-h7];cases d<;>rfl
theorem Df(hL:bD P L){t:TypeId}{i:TI}(h:aU L t=some i)(w:World):∃z,(zeroValue t).run P w= .ok z w/\z.cells.toList=i.zero:=by
 obtain⟨info,z,d,h1,h2,h3,h4,h5,h6,h7⟩:=jm hL h;exact⟨z,by simp[zeroValue,typeInfo,h1,h3],h6⟩
theorem C2.cO{X:CX}{x u:Value}(h:C2 X (.v x) u):u=x:=h
theorem C2.acI{X:CX}{g:FuncId}{id k:Nat}{u:Value}(h:C2 X (.cf g id k) u):∃b,dD (X.ρ id)= .pointer (some ⟨b,0,none⟩)/\u=cfV g (.pointer (some ⟨b,k,none⟩)):=h
theorem C2.kD{X:CX}{id k:Nat}{u:Value}(h:C2 X (.box id k) u):∃b,dD (X.ρ id)= .pointer (some ⟨b,0,none⟩)/\u= .pointer (some ⟨b,k,none⟩):=h
theorem C2.Wp{X:CX}{cs:List AV}{k:Nat}{u:Value}(h:C2 X (.el cs k) u):∃b o us,u= .pointer (some ⟨b,o+k,none⟩)/\X.keep b/\aC (PC X.w X.keep) cs us/\ ∀(j:Nat)(y:Value),us[j]? =some y->X.w.cell? ⟨b,o+j,none⟩=some y:=h
theorem C2.Dh{X:CX}{id s i k:Nat}{u:Value}(h:C2 X (.dn id s i k) u):∃b n c,X.ρ id= .slice (some ⟨b,0,none⟩) n c/\u= .pointer (some ⟨b,i*s+k,none⟩):=h
theorem C2.tu{X:CX}{id s i m:Nat}{u:Value}(h:C2 X (.jB id s i m) u):(∃b c,iK (dD (X.ρ id))=[b]/\m<=c/\u= .slice (some ⟨b,i*s,none⟩) m c)\/(m=0/\ ∃A c,u= .slice A 0 c):=h
theorem C2.tC{X:CX}{cs:List AV}{u:Value}(h:C2 X (.agg cs) u):∃us,u= .agg us.toArray/\aC (C0 X) cs us:=h
theorem C2.PN{X:CX}{vs:List AV}{u:Value}(h:C2 X (.aZ vs) u):∃us,u= .tuple us.toArray/\aC (C1 X) vs us:=h
theorem C2.ES{X:CX}{g:FuncId}{vs:List AV}{u:Value}(h:C2 X (.fn g vs) u):∃us,u= .func (.func g) #[] us.toArray/\aC (C0 X) vs us:=h
theorem C2.wC{X:CX}{s n:Nat}{sc:Bool}{f:Nat->List AV}{u:Value}(h:C2 X (.sl s n sc f) u):PC X.w X.keep (.sl s n sc f) u:=h
theorem C2.kE{X:CX}{id:Nat}{u:Value}(h:C2 X (.own id) u):u=dD (X.ρ id):=h
theorem aC.vs{X:CX}:∀us:List Value,aC (C0 X) (us.map .v) us
 |[]=>aC.nil
 |u::us=>aC.cons (show C0 X (.v u) u from rfl) (aC.vs us)
variable{g:Base}{N:Nat}{bs:List (Array Value)}{ρ:Nat->Value}{a:Act}{w:World}{st:AS}
theorem Rel.ev(R:Rel g N bs ρ a w st)(x:Operand):C2 (aA g w ρ st.heap) (st.ev x) (a.eval x):=by
 cases x with
 |tmp t=>exact R.tmps t
 |const v=>
  cases v with
  |agg cs=>exact⟨cs.toList,by simp[Act.eval],aC.vs _⟩
  |_=>rfl
 |global g=>trivial
 |func f=>exact⟨[],rfl,aC.nil⟩
theorem kN{o:Oper}{next:Act->World->Prop}{Q:Exit->Act->World->Prop}{u:Value}{w':World}(hrun:(execOp a.eval o).run P w= .ok (.value u) w')(h:next (a.put o.dst u) w'):o.wp P a w next Q:=by
 unfold Oper.wp;rw[hrun];exact h
theorem PO(hL:bD P L){t:TypeId}{i:TI}(hi:aU L t=some i){X:CX}{cs:List AV}{k:Nat}{K:AV->Prop}(h:ld i cs k K){b o:Nat}{us:List Value}(ha:aC (C0 X) cs us)
  (hc:∀(j:Nat)(y:Value),us[j]? =some y->X.w.cell? ⟨b,o+j,none⟩=some y):∃x u,K x/\C2 X x u/\(loadVar t ⟨b,o+k,none⟩).run P X.w= .ok u X.w:=by
 unfold ld at h;cases hg:i.isAgg with
 |true=>
  rw[hg]at h;obtain⟨hle,h⟩:=MJ h;refine⟨_,.agg ((us.drop k).take i.size).toArray,h,⟨_,rfl,(ha.drop k).take i.size⟩, ?_⟩;have hlen:((us.drop k).take i.size).length=i.size:=by rw[am5,anl,<-ha.1];omega
  have hl:=run_loadCells_list (P:=P) X.w ⟨b,o+k,none⟩ ((us.drop k).take i.size) (λ j v hv=>by
   rw[anW];rw[anU]at hv;split at hv
   ·grind
   ·cases hv)
  rw[hlen]at hl;simp only[loadVar,am',o8 hL hi,hg,am8,if_true,gy hL hi,hl,anp]
 |false=>
  rw[hg]at h;obtain⟨hle,h⟩:=MJ h;have hx:cs[k]? =some (cs.getD k .junk):=by simp[amX (show k<cs.length by omega)]
  obtain⟨u,hu,hr⟩:=ha.get hx;refine⟨_,u,h,C2.uO hr, ?_⟩;have:=hc _ _ hu;simp[loadVar,o8 hL hi,hg,this]
theorem zD(hL:bD P L)(R:Rel g N bs ρ a w st){t:TypeId}{p:AV}{pv:Value}(hp:C2 (aA g w ρ st.heap) p pv){K:AV->Prop}(h:Yk L st t p K):
  ∃x u,K x/\C2 (aA g w ρ st.heap) x u/\(Instr.loadAt t pv).run P w= .ok u w:=by
 unfold Yk at h;cases hi:aU L t with
 |none=>rw[hi]at h;exact h.elim
 |some i=>
  rw[hi]at h;cases p with
  |box id k=>
   obtain⟨b,hb,rfl⟩:=C2.kD hp;dsimp only at h;cases hf:aG id st.heap with
   |none=>rw[hf]at h;exact h.elim
   |some o=>
    rw[hf]at h;cases o with
    |row=>exact h.elim
    |mp=>exact h.elim
    |obs=>exact h.elim
    |rn=>exact h.elim
    |box t' cs=>
     obtain⟨b',us,e,hh,ha⟩:=R.objs _ (au hf);have hb:dD (ρ id)=_:=hb;have e:ρ id=_:=e;rw[e]at hb;cases hb;obtain⟨x,u,hk,hc,hr⟩:=PO hL hi h (o:=0) ha (λ j y hy=>by
      rw[cell_of_row _ _ _ _ _ _ hh];simpa using hy)
     refine⟨x,u,hk,hc, ?_⟩;simpa[Instr.loadAt,Instr.sureAddr,aA]using hr
  |el cs k=>
   obtain⟨b,o,us,rfl,kb,ha,hc⟩:=C2.Wp hp;obtain⟨x,u,hk,hc,hr⟩:=PO hL hi h (ha.imp λ _ _=>C0.RS) hc;refine⟨x,u,hk,hc, ?_⟩;simpa[Instr.loadAt,Instr.sureAddr,aA]using hr
  |dn id s j k=>
   obtain⟨b,n,c,hb,rfl⟩:=C2.Dh hp;dsimp only at h;cases hf:aG id st.heap with
   |none=>rw[hf]at h;exact h.elim
   |some o=>
    rw[hf]at h;cases o with
    |box=>exact h.elim
    |mp=>exact h.elim
    |obs=>exact h.elim
    |rn e cs=>
     replace h:=Yj h
     obtain⟨rfl,h⟩:=h;obtain⟨us,⟨hown,_⟩,ha⟩:=R.objs _ (au hf);have hb:ρ id=_:=hb;have hown:w.ownsRow 0 e 1 (ρ id) cs.length us:=hown;rw[hb]at hown;have hcell:=hown.cells rfl;obtain⟨x,u,hk,hc,hr⟩:=PO hL hi h ha (λ i y hy=>by
      have:=hcell _ _ hy;rwa [anW]at this)
     refine⟨x,u,hk,hc, ?_⟩;simpa[Instr.loadAt,Instr.sureAddr,aA]using hr
    |row e s' m sc f=>
     replace h:=Yj h
     obtain⟨rfl,h⟩:=h;obtain⟨hjm,h⟩:=MJ h;obtain⟨us,hown,hs0,hfl,hsc,ha⟩:=R.objs _ (au hf);have hb:ρ id=_:=hb;have hown:w.ownsRow 0 e s (ρ id) m us:=hown;rw[hb]at hown;have hcell:=hown.cells rfl;obtain⟨hseg⟩:aC (PC w (aH g w ρ st.heap)) (f j) ((us.drop (j*s)).take s)/\True:=⟨seg ha hfl o_,trivial⟩;obtain⟨x,u,hk,hc,hr⟩:=PO hL hi h (hseg.imp λ _ _=>C0.RS (X:=aA g w ρ st.heap)) (λ i y hy=>by
      rw[anU]at hy;split at hy
      ·rw[aop]at hy;have:=hcell _ _ hy;rwa [anW,anZ]at this
      ·cases hy)
     refine⟨x,u,hk,hc, ?_⟩;simpa[Instr.loadAt,Instr.sureAddr,aA]using hr
  |_=>exact h.elim
where
 seg {R:AV->Value->Prop} {s:Nat}:∀{n:Nat}{f:Nat->List AV}{us:List Value}{j:Nat},aC R (flat n f) us->(∀i,i<n->(f i).length=s)->j<n->aC R (f j) ((us.drop (j*s)).take s)
  |0,_,_,_,_,_,h=>absurd h o_
  |n+1,f,us,0,ha,hl,_=>by
   have h:=ha.take s;have e:(flat (n+1) f).take s=f 0:=by
    rw[<-hl 0 o_];exact apd
   rw[e]at h;simpa using h
  |n+1,f,us,j+1,ha,hl,hj=>by
   have h:=ha.drop s;have e:(flat (n+1) f).drop s=flat n (λ i=>f (i+1)):=by
    rw[<-hl 0 o_];exact aoc
   rw[e]at h;have:=seg (j:=j) h (λ i hi=>hl (i+1) o_) o_;rw[ao1,show s+j*s=(j+1)*s by rw[aoM];omega]at this;exact this
end
section
variable{P:Program}{L:Lay}{g:Base}{N:Nat}{bs:List (Array Value)}{ρ:Nat->Value}{a:Act}{w:World}{st:AS}
theorem mV{P:Program}{L:Lay}(hL:bD P L){t:TypeId}{i:TI}{fs:List (Nat×TypeId)}(h:aU L t=some i)(hk:i.kind= .struct fs):
  ∃fields:Array Field,P.underlying t=some (.struct fields)/\fields.toList.map (λ f=>(f.offset,f.type))=fs:=by
 obtain⟨info,z,d,h1,h2,h3,h4,h5,h6,h7⟩:=jm hL h;rw[hk]at h7;cases d<;>simp only[kindOf]at h7<;>first|(cases h7;done)|skip
 rename_i fields;exact⟨fields,h2,by injection h7⟩
theorem pW{P:Program}{L:Lay}(hL:bD P L){t:TypeId}{i:TI}{n:Nat}{e:TypeId}(h:aU L t=some i)(hk:i.kind= .array n e):P.underlying t=some (.array n e):=by
 obtain⟨info,z,d,h1,h2,h3,h4,h5,h6,h7⟩:=jm hL h;rw[hk]at h7;cases d<;>simp only[kindOf]at h7<;>cases h7;exact h2
theorem bK{P:Program}{L:Lay}(hL:bD P L){t:TypeId}{i:TI}{e:TypeId}(h:aU L t=some i)(hk:i.kind= .slice e):P.underlying t=some (.slice e):=by
 obtain⟨info,z,d,h1,h2,h3,h4,h5,h6,h7⟩:=jm hL h;rw[hk]at h7;cases d<;>simp only[kindOf]at h7<;>cases h7;exact h2
theorem uD{P:Program}{L:Lay}(hL:bD P L){t:TypeId}{i:TI}(h:aU L t=some i)(hk:i.kind= .str):P.underlying t=some .string:=by
 obtain⟨info,z,d,h1,h2,h3,h4,h5,h6,h7⟩:=jm hL h;rw[hk]at h7;cases d<;>simp only[kindOf]at h7<;>cases h7;exact h2
theorem Bd{P:Program}{L:Lay}(hL:bD P L){t:TypeId}{i:TI}{k:IntKind}(h:aU L t=some i)(hk:i.kind= .int k):P.underlying t=some (.int k):=by
 obtain⟨info,z,d,h1,h2,h3,h4,h5,h6,h7⟩:=jm hL h;rw[hk]at h7;cases d<;>simp only[kindOf]at h7<;>cases h7;exact h2
theorem Iz{fields:Array Field}{fs:List (Nat×TypeId)}(hf:fields.toList.map (λ f=>(f.offset,f.type))=fs){i o:Nat}{ft:TypeId}(h:fs[i]? =some (o,ft)):∃f,fields[i]? =some f/\f.offset=o/\f.type=ft:=by
 grind
theorem yB(hL:bD P L){X:CX}{t:TypeId}{p:AV}{pv:Value}{i:Nat}(hp:C2 X p pv){K:AV->Prop}(h:o7 L t p i K)(w:World):
  ∃x u,K x/\C2 X x u/\(Instr.fieldAt t pv i).run P w= .ok u w:=by
 unfold o7 at h;split at h
 ·rename_i ti hti;split at h
  ·rename_i fs hk;split at h
   ·rename_i o ft hfs;split at h
    ·rename_i fi hfi;obtain⟨fields,hu,hmap⟩:=mV hL hti hk;obtain⟨f,hf,ho,hft⟩:=Iz hmap hfs;obtain⟨h1,h⟩:=MJ h;have Wq:∀a:Addr,(fieldPlace a f).run P w= .ok (a.add f.offset) w:=by
      intro a;have:=gy hL hfi w;rw[<-hft]at this;simp only[fieldPlace,am',this,am8];rw[if_neg o_];rfl
     cases p with
     |box id k=>
      obtain⟨b,hb,rfl⟩:=C2.kD hp;refine⟨_,.pointer (some ⟨b,k+o,none⟩),h,⟨b,hb,rfl⟩, ?_⟩;simp[Instr.fieldAt,run_underlying hu,hf,Instr.sureAddr,Wq,anW]
     |el cs k=>
      obtain⟨b,oo,us,rfl,kb,ha,hc⟩:=C2.Wp hp;refine⟨_,.pointer (some ⟨b,oo+(k+o),none⟩),h,⟨b,oo,us,rfl,kb,ha,hc⟩, ?_⟩;simp[Instr.fieldAt,run_underlying hu,hf,Instr.sureAddr,Wq,anW]
     |dn id s j k=>
      obtain⟨b,n,c,hb,rfl⟩:=C2.Dh hp;refine⟨_,.pointer (some ⟨b,j*s+(k+o),none⟩),h,⟨b,n,c,hb,rfl⟩, ?_⟩;simp[Instr.fieldAt,run_underlying hu,hf,Instr.sureAddr,Wq,anW]
     |_=>exact h.elim
    ·exact h.elim
   ·exact h.elim
  ·exact h.elim
 ·exact h.elim
theorem Sr(hL:bD P L){t:TypeId}{i:TI}(hi:aU L t=some i){X:CX}{cs:List AV}{k:Nat}{K:AV->Prop}(h:ld i cs k K){us:List Value}(ha:aC (C0 X) cs us)(w:World):
  ∃x u,K x/\C2 X x u/\(part t us.toArray k).run P w= .ok u w:=by
 unfold ld at h;cases hg:i.isAgg with
 |true=>
  rw[hg]at h;obtain⟨-,h⟩:=kM h;refine⟨_,.agg ((us.drop k).take i.size).toArray,h,⟨_,rfl,(ha.drop k).take i.size⟩, ?_⟩;simp only[part,am',o8 hL hi,hg,am8,if_true,gy hL hi];simp
 |false=>
  rw[hg]at h;obtain⟨hle,h⟩:=MJ h;have hx:cs[k]? =some (cs.getD k .junk):=by simp[amX (show k<cs.length by omega)]
  obtain⟨u,hu,hr⟩:=ha.get hx;refine⟨_,u,h,C2.uO hr, ?_⟩;simp[part,o8 hL hi,hg,hu]
theorem IB(hL:bD P L){X:CX}{t:TypeId}{p:AV}{pv:Value}{i:Nat}(hp:C2 X p pv){K:AV->Prop}(h:V7 L t p i K)(w:World):
  ∃x u,K x/\C2 X x u/\(Instr.field t pv i).run P w= .ok u w:=by
 unfold V7 at h;split at h
 ·rename_i ti cs hti;split at h
  ·rename_i fs hk;split at h
   ·rename_i o ft hfs;split at h
    ·rename_i fi hfi;obtain⟨fields,hu,hmap⟩:=mV hL hti hk;obtain⟨f,hf,ho,hft⟩:=Iz hmap hfs;obtain⟨us,rfl,ha⟩:=C2.tC hp;obtain⟨x,u,hk',hc,hr⟩:=Sr hL hfi h ha w;refine⟨x,u,hk',hc, ?_⟩;rw[<-ho,<-hft]at hr;simp[Instr.field,run_underlying hu,hf,asAgg,hr]
    ·exact h.elim
   ·exact h.elim
  ·exact h.elim
 ·exact h.elim
theorem iZ{n:Int}{m:Nat}(h:inB n m=true):0<=n/\n<(m:Int):=by simpa[inB]using h
theorem PC.at{R:AV->Value->Prop}{s n:Nat}{f:Nat->List AV}{us:List Value}{j:Nat}(h:aC R (flat n f) us)(hl:∀i,i<n->(f i).length=s)(hj:j<n):aC R (f j) ((us.drop (j*s)).take s):=zD.seg h hl hj
theorem nU(hL:bD P L)(R:Rel g N bs ρ a w st){t:TypeId}{x ix:AV}{xv iv:Value}(hx:C2 (aA g w ρ st.heap) x xv)(hix:C2 (aA g w ρ st.heap) ix iv){K:AV->Prop}(h:A8 L st t x ix K):
  ∃y u,K y/\C2 (aA g w ρ st.heap) y u/\(Instr.indexAt t xv iv).run P w= .ok u w:=by
 unfold A8 at h;simp only[EL,acn]at h;split at h
 ·rename_i ti kk n hti;obtain rfl:=C2.cO hix;split at h
  ·rename_i e hk;have hu:=bK hL hti hk;split at h
   ·rename_i ei qP;have hsz:=gy hL qP w;split at h
    ·rename_i s m sc f;cases hs:Nat.beq s ei.size with
     |false=>rw[hs]at h;exact h.elim
     |true=>
      rw[hs]at h;obtain rfl:=am3 hs;cases hb:inB n m with
      |false=>rw[hb]at h;exact h.elim
      |true=>
       rw[hb]at h;obtain⟨h0,h1⟩:=iZ hb;have hpc:=C2.wC hx;cases hpc with
       |sl _ _ _ _ A c us hs0 hn hc hl hf hsc hu' hr=>
        rcases hr with hz|⟨b,o,rfl,kb,hcell⟩
        ·omega
        ·have hj:n.toNat<m:=o_
         have hseg:=PC.at ⟨by rw[hl];exact flat_length hf,hu'⟩ hf hj;refine⟨_,.pointer (some ⟨b,o+n.toNat*ei.size,none⟩),h,⟨b,o+n.toNat*ei.size,_,by rw[apg],kb,hseg, ?_⟩, ?_⟩
         ·grind
         ·simp[Instr.indexAt,asIntOf,run_underlying hu,h0,h1,hsz,anW]
    ·rename_i id;split at h
     ·rename_i e' s m sc f hfo;cases hs:Nat.beq s ei.size with
      |false=>rw[hs]at h;exact h.elim
      |true=>
       rw[hs]at h;obtain rfl:=am3 hs;cases hb:inB n m with
       |false=>rw[hb]at h;exact h.elim
       |true=>
        rw[hb]at h;obtain⟨h0,h1⟩:=iZ hb;obtain⟨us,hown,hs0,hfl,hsc,ha⟩:=R.objs _ (au hfo);have hown:w.ownsRow 0 e' ei.size (ρ id) m us:=hown;have hxv:xv=ρ id:=(C2.kE hx).trans (dY hown);rcases hown.2 with⟨_,hz⟩|⟨b,cap,cur,hv,hB,hh,_⟩
        ·omega
        ·rw[hxv,hv];refine⟨_,.pointer (some ⟨b,n.toNat*ei.size,none⟩),h,⟨b,m,cap,hv,rfl⟩, ?_⟩;simp[Instr.indexAt,asIntOf,run_underlying hu,h0,h1,hsz,anW]
     ·rename_i e' cs hfo;cases hs:Nat.beq 1 ei.size with
      |false=>rw[hs]at h;exact h.elim
      |true=>
       rw[hs]at h;have hs1:=am3 hs;cases hb:inB n cs.length with
       |false=>rw[hb]at h;exact h.elim
       |true=>
        rw[hb]at h;obtain⟨h0,h1⟩:=iZ hb;obtain⟨us,⟨hown,_⟩,ha⟩:=R.objs _ (au hfo);have hown:w.ownsRow 0 e' 1 (ρ id) cs.length us:=hown;have hxv:xv=ρ id:=(C2.kE hx).trans (dY hown);rcases hown.2 with⟨_,hz⟩|⟨b,cap,cur,hv,hB,hh,_⟩
        ·omega
        ·rw[hxv,hv];refine⟨_,.pointer (some ⟨b,n.toNat*1+0,none⟩),h,⟨b,cs.length,cap,hv,rfl⟩, ?_⟩;simp[Instr.indexAt,asIntOf,run_underlying hu,h0,h1,hsz,<-hs1,anW]
     ·exact h.elim
    ·exact h.elim
   ·exact h.elim
  ·rename_i m e hk;have hu:=pW hL hti hk;split at h
   ·rename_i ei qP;have hsz:=gy hL qP w;cases hb:inB n m with
    |false=>rw[hb]at h;exact h.elim
    |true=>
     rw[hb]at h;obtain⟨h0,h1⟩:=iZ hb;split at h
     ·rename_i id k;obtain⟨b,hbb,rfl⟩:=C2.kD hx;refine⟨_,.pointer (some ⟨b,k+n.toNat*ei.size,none⟩),h,⟨b,hbb,rfl⟩, ?_⟩;simp[Instr.indexAt,asIntOf,run_underlying hu,h0,h1,hsz,anW,Instr.sureAddr]
     ·rename_i cs k;obtain⟨b,o,us,rfl,kb,ha,hc⟩:=C2.Wp hx;refine⟨_,.pointer (some ⟨b,o+(k+n.toNat*ei.size),none⟩),h,⟨b,o,us,rfl,kb,ha,hc⟩, ?_⟩;simp[Instr.indexAt,asIntOf,run_underlying hu,h0,h1,hsz,anW,Instr.sureAddr]
     ·rename_i id s j k;obtain⟨b,nn,c,hbb,rfl⟩:=C2.Dh hx;refine⟨_,.pointer (some ⟨b,j*s+(k+n.toNat*ei.size),none⟩),h,⟨b,nn,c,hbb,rfl⟩, ?_⟩;simp[Instr.indexAt,asIntOf,run_underlying hu,h0,h1,hsz,anW,Instr.sureAddr]
     ·exact h.elim
   ·exact h.elim
  ·exact h.elim
 ·exact h.elim
where
 flat_length {s:Nat}:∀{n:Nat}{f:Nat->List AV},(∀i,i<n->(f i).length=s)->(flat n f).length=n*s
  |0,_,_=>by simp[flat]
  |n+1,f,h=>by
   show(f 0++_).length=_;rw[am0,h 0 o_,flat_length (λ i hi=>h (i+1) o_),aoM,Nat.add_comm]
theorem IC(hL:bD P L){X:CX}{t:TypeId}{x ix:AV}{xv iv:Value}(hx:C2 X x xv)(hix:C2 X ix iv){K:AV->Prop}(h:V8 L t x ix K)(w:World):
  ∃y u,K y/\C2 X y u/\(Instr.index t xv iv).run P w= .ok u w:=by
 unfold V8 at h;simp only[EL,acn]at h;split at h
 ·rename_i ti kk n hti;obtain rfl:=C2.cO hix;split at h
  ·rename_i m e cs hk;have hu:=pW hL hti hk;obtain⟨us,rfl,ha⟩:=C2.tC hx;split at h
   ·rename_i ei qP;obtain⟨hb,h⟩:=kM h;obtain⟨h0,h1⟩:=iZ hb;obtain⟨y,u,hk',hc,hr⟩:=Sr hL qP h ha w;refine⟨y,u,hk',hc, ?_⟩;simp[Instr.index,asIntOf,run_underlying hu,h0,h1,gy hL qP,hr]
   ·exact h.elim
  ·rename_i s hk;have hu:=uD hL hti hk;obtain rfl:=C2.cO hx;obtain⟨hb,h⟩:=kM h;obtain⟨h0,h1⟩:=iZ hb;have hlt:n.toNat<s.size:=o_
   refine⟨_,_,h,rfl, ?_⟩;have e1:s[n.toNat]? =some s[n.toNat]:=by simp[hlt]
   have e2:s.data.toList.getD n.toNat 0=s[n.toNat]:=by
    have hlt':n.toNat<s.data.toList.length:=by rw[anC];exact hlt
    rw[List.getD,amX hlt'];rfl
   rw[e2];simp[Instr.index,asIntOf,run_underlying hu,h0,e1]
  ·exact h.elim
 ·exact h.elim
theorem Di{X:CX}{x:AV}{xv:Value}(hx:C2 X x xv){i:Nat}{K:AV->Prop}(h:Il x i K)(w:World):∃y u,K y/\C2 X y u/\(Instr.extract xv i).run P w= .ok u w:=by
 unfold Il at h;split at h
 ·rename_i vs;obtain⟨us,rfl,ha⟩:=C2.PN hx;split at h
  ·rename_i y hy;obtain⟨u,hu,hc⟩:=ha.get hy;exact⟨y,u,h,C2.mg hc,by simp[Instr.extract,hu]⟩
  ·exact h.elim
 ·exact h.elim
end
section
variable{P:Program}{L:Lay}{g:Base}{N:Nat}{bs:List (Array Value)}{ρ:Nat->Value}{a:Act}{w:World}{st:AS}
theorem Wr.out{n:Int}{K:Int->Prop}{k:IntKind}(h:Wr n K k):K (k.wrap n):=by
 cases h with
 |i64 h0 h1 h=>rw[IntWalk.i64_in n o_];exact h
 |u64 h0 h1 h=>rw[IntWalk.u64_in n o_];exact h
 |u32 h0 h1 h=>rw[IntWalk.u32_in n o_];exact h
 |u8 h0 h1 h=>rw[IntWalk.u8_in n o_];exact h
 |raw k h=>exact h
theorem nR.out{p A B:Prop}(h:nR p A B)[Decidable p]:if p then A else B:=by
 split
 ·rename_i hp;exact h.1 hp
 ·rename_i hp;exact h.2 hp
theorem acJ{op:BinOp}{x y:Int}{K:AV->Prop}(h:aiK op x y K)(w:World):∃b,K (.v (.bool b))/\(Op.intCmp op x y).run P w= .ok (.bool b) w:=by
 cases op<;>simp only[aiK]at h<;>first|(exact h.elim)|skip
 ·obtain⟨h1,h2⟩:=h;by_cases e:x=y
  ·exact⟨true,h1 e,by simp[Op.intCmp,e]⟩
  ·exact⟨false,h2 e,by simp[Op.intCmp,e]⟩
 ·obtain⟨h1,h2⟩:=h;by_cases e:x=y
  ·exact⟨false,h1 e,by simp[Op.intCmp,e]⟩
  ·exact⟨true,h2 e,by simp[Op.intCmp,e]⟩
 ·obtain⟨h1,h2⟩:=h;by_cases e:x<y
  ·exact⟨true,h1 e,by simp[Op.intCmp,e]⟩
  ·exact⟨false,h2 e,by simp[Op.intCmp,e]⟩
 ·obtain⟨h1,h2⟩:=h;by_cases e:x<=y
  ·exact⟨true,h1 e,by simp[Op.intCmp,e]⟩
  ·exact⟨false,h2 e,by simp[Op.intCmp,e]⟩
 ·obtain⟨h1,h2⟩:=h;by_cases e:y<x
  ·exact⟨true,h1 e,by simp[Op.intCmp,e]⟩
  ·exact⟨false,h2 e,by simp[Op.intCmp,e]⟩
 ·obtain⟨h1,h2⟩:=h;by_cases e:y<=x
  ·exact⟨true,h1 e,by simp[Op.intCmp,e]⟩
  ·exact⟨false,h2 e,by simp[Op.intCmp,e]⟩
theorem acK{t:TypeId}{op:BinOp}{k:IntKind}{x y:Int}{K:AV->Prop}(h:agi op k x y K)(w:World):∃u,K (.v u)/\(binOp op t (.int k x) (.int k y)).run P w= .ok u w:=by
 cases op<;>simp only[agi]at h;case add=>exact⟨_,h.out,by simp[binOp,Op.intArith]⟩
 case sub=>exact⟨_,h.out,by simp[binOp,Op.intArith]⟩
 case mul=>exact⟨_,h.out,by simp[binOp,Op.intArith]⟩
 case quo=>
  cases h with
  |pos h0 h1 h=>
   have hy:y≠0:=o_
   exact⟨_,h.out,by simp[binOp,Op.intDiv,hy,Int.tdiv_eq_ediv_of_nonneg h0]⟩
  |raw hy h=>exact⟨_,h.out,by simp[binOp,Op.intDiv,hy]⟩
 case rem=>
  cases h with
  |pos h0 h1 h=>
   have hy:y≠0:=o_
   exact⟨_,h,by simp[binOp,Op.intDiv,hy,Int.tmod_eq_emod_of_nonneg h0]⟩
  |raw hy h=>exact⟨_,h,by simp[binOp,Op.intDiv,hy]⟩
 case and=>exact⟨_,h,by simp[binOp,Op.intBits]⟩
 case or=>exact⟨_,h,by simp[binOp,Op.intBits]⟩
 case xor=>exact⟨_,h,by simp[binOp,Op.intBits]⟩
 all_goals first
  |exact h.elim
  |(obtain⟨b,hk,hr⟩:=acJ (P:=P) h w;exact⟨_,hk,by simp[binOp,hr]⟩)
theorem IE{t:TypeId}{op:BinOp}{k k':IntKind}{x y:Int}{K:AV->Prop}(hop:op= .shl\/op= .shr)(h:V9 op k x y K)(w:World):∃u,K (.v u)/\(binOp op t (.int k x) (.int k' y)).run P w= .ok u w:=by
 rcases hop with rfl|rfl
 ·obtain⟨hy,h⟩:=h;exact⟨_,h.out,by simp[binOp,Op.shift,Int.not_lt.2 hy]⟩
 ·obtain⟨hy,h⟩:=h;exact⟨_,h,by simp[binOp,Op.shift,Int.not_lt.2 hy]⟩
theorem toList_inj{a b:ByteArray}(h:a.toList=b.toList):a=b:=by
 rw[ByteArray.toList_eq,ByteArray.toList_eq]at h;cases a;cases b;congr;exact Array.toList_inj.1 h
theorem acL{t:TypeId}{op:BinOp}{x y:ByteArray}{K:AV->Prop}(h:aiL op x y K)(w:World):∃u,K (.v u)/\(binOp op t (.string x) (.string y)).run P w= .ok u w:=by
 cases op<;>simp only[aiL]at h<;>first|(exact h.elim)|skip
 ·obtain⟨hs,h⟩:=h;refine⟨_,h, ?_⟩;have hm:¬ (((x.size+y.size:Nat):Int)>IntKind.i64.max):=by
   show¬ (_>(9223372036854775807:Int));omega
  simp only[binOp,Op.stringOp,if_neg hm];rfl
 ·obtain⟨h1,h2⟩:=h;by_cases e:x=y
  ·exact⟨_,h1 e,by simp[binOp,Op.stringOp,e]⟩
  ·have e':(x.toList==y.toList)=false:=by rw[beq_eq_false_iff_ne];exact λ hh=>e (toList_inj hh)
   exact⟨_,h2 e,by simp[binOp,Op.stringOp,e']⟩
 ·obtain⟨h1,h2⟩:=h;by_cases e:x=y
  ·exact⟨_,h1 e,by simp[binOp,Op.stringOp,e]⟩
  ·have e':(x.toList==y.toList)=false:=by rw[beq_eq_false_iff_ne];exact λ hh=>e (toList_inj hh)
   exact⟨_,h2 e,by simp[binOp,Op.stringOp,e']⟩
 ·obtain⟨h1,h2⟩:=h;cases e:Op.bytesLess x.toList y.toList with
  |true=>exact⟨_,h1 e,by simp[binOp,Op.stringOp,e]⟩
  |false=>exact⟨_,h2 (by simp[e]),by simp[binOp,Op.stringOp,e]⟩
 ·obtain⟨h1,h2⟩:=h;have e':(x.toList==y.toList)=decide (x=y):=by
   by_cases e:x=y
   ·simp[e]
   ·rw[decide_eq_false e,beq_eq_false_iff_ne];exact λ hh=>e (toList_inj hh)
  cases e:Op.bytesLess x.toList y.toList||decide (x=y)with
  |true=>exact⟨_,h1 (by simpa using e),by simp only[binOp,Op.stringOp,e',e];rfl⟩
  |false=>exact⟨_,h2 (by simpa using e),by simp only[binOp,Op.stringOp,e',e];rfl⟩
 ·obtain⟨h1,h2⟩:=h;have e':(x.toList==y.toList)=decide (x=y):=by
   by_cases e:x=y
   ·simp[e]
   ·rw[decide_eq_false e,beq_eq_false_iff_ne];exact λ hh=>e (toList_inj hh)
  cases e:Op.bytesLess x.toList y.toList||decide (x=y)with
  |true=>exact⟨_,h1 (by simpa using e),by simp only[binOp,Op.stringOp,e',e];rfl⟩
  |false=>exact⟨_,h2 (by simpa using e),by simp only[binOp,Op.stringOp,e',e];rfl⟩
 ·obtain⟨h1,h2⟩:=h;cases e:Op.bytesLess x.toList y.toList with
  |true=>exact⟨_,h1 e,by simp[binOp,Op.stringOp,e]⟩
  |false=>exact⟨_,h2 (by simp[e]),by simp[binOp,Op.stringOp,e]⟩
theorem jZ{op:BinOp}{t:TypeId}{x y:Operand}{u v:Value}(hu:u.oneCell'=true)(hn:u≠ .nilIface)(w:World):(eqGuard op t x y u v).run P w= .ok () w:=by
 unfold eqGuard;cases op<;>cases u<;>first|(simp[Value.oneCell']at hu;done)|(exact absurd rfl hn)|(cases v<;>simp)
theorem Sv(hL:bD P L){X:CX}{op:BinOp}{t:TypeId}{ox oy:Operand}{x y:AV}{xv yv:Value}(hx:C2 X x xv)(hy:C2 X y yv){K:AV->Prop}(h:aiN P L op t x y K)(w:World):
  ∃z u,K z/\C2 X z u/\(eqGuard op t ox oy xv yv).run P w= .ok () w/\(binOp op t xv yv).run P w= .ok u w:=by
 unfold aiN at h;split at h
 ·rename_i k a k' b;obtain rfl:=C2.cO hx;obtain rfl:=C2.cO hy;have hg:=jZ (P:=P) (op:=op) (t:=t) (x:=ox) (y:=oy) (u:= .int k a) (v:= .int k' b) rfl s_ w;split at h
  ·obtain⟨u,hk,hr⟩:=IE (k':=k') (.inl rfl) h w;exact⟨_,u,hk,rfl,hg,hr⟩
  ·obtain⟨u,hk,hr⟩:=IE (k':=k') (.inr rfl) h w;exact⟨_,u,hk,rfl,hg,hr⟩
  ·by_cases e:k=k'
   ·subst e;simp only[cond_true]at h;obtain⟨u,hk,hr⟩:=acK h w;exact⟨_,u,hk,rfl,hg,hr⟩
   ·grind
 ·rename_i a b;obtain rfl:=C2.cO hx;obtain rfl:=C2.cO hy;obtain⟨u,hk,hr⟩:=acL h w;exact⟨_,u,hk,rfl,jZ rfl s_ w,hr⟩
 ·rename_i a b;obtain rfl:=C2.cO hx;obtain rfl:=C2.cO hy;split at h
  ·rename_i i hi;obtain⟨info,z,d,h1,h2,h3,h4,h5,h6,h7⟩:=jm hL hi;split at h
   ·rename_i hk;rw[hk]at h7;cases d<;>simp only[kindOf]at h7<;>first|(cases h7;done)|skip
    exact⟨_,_,h,rfl,jZ rfl s_ w,run_eql_bool w t a b h2⟩
   ·rename_i hk;rw[hk]at h7;cases d<;>simp only[kindOf]at h7<;>first|(cases h7;done)|skip
    exact⟨_,_,h,rfl,jZ rfl s_ w,run_neq_bool w t a b h2⟩
   ·exact h.elim
  ·exact h.elim
 ·rename_i cs ds;obtain⟨us,rfl,ha⟩:=C2.tC hx;obtain⟨vs,rfl,hb⟩:=C2.tC hy;split at h
  ·obtain⟨us',vs',p,rfl,rfl,⟨hgt,hp⟩,hs⟩:=h;obtain rfl:=Sz ha;obtain rfl:=Sz hb;obtain⟨b,hbp,hr⟩:=hp w;refine⟨.v (.bool b),.bool b, ?_,rfl,by simp[eqGuard,hgt],by simp[binOp,hr]⟩;cases b with
   |true=>exact hs.1 (hbp.1 rfl)
   |false=>exact hs.2 (λ q=>by cases hbp.2 q)
  ·obtain⟨us',vs',p,rfl,rfl,⟨hgt,hp⟩,hs⟩:=h;obtain rfl:=Sz ha;obtain rfl:=Sz hb;obtain⟨b,hbp,hr⟩:=hp w;refine⟨.v (.bool (!b)),.bool (!b), ?_,rfl,by simp[eqGuard,hgt],by simp[binOp,hr]⟩;cases b with
   |true=>exact hs.1 (hbp.1 rfl)
   |false=>exact hs.2 (λ q=>by cases hbp.2 q)
  ·exact h.elim
 ·rename_i id off;obtain⟨b,hb,rfl⟩:∃b,dD (X.ρ id)= .pointer (some ⟨b,0,none⟩)/\xv= .pointer (some ⟨b,off,none⟩):=hx;obtain rfl:=C2.cO hy;split at h
  ·rename_i i hi;obtain⟨info,z,d,h1,h2,h3,h4,h5,h6,h7⟩:=jm hL hi;have hg:(eqGuard op t ox oy (.pointer (some ⟨b,off,none⟩)) (.pointer none)).run P w= .ok () w:=jZ rfl s_ w;have he:∀e:TypeId,P.underlying t=some (.pointer e)->(Op.equal t (.pointer (some ⟨b,off,none⟩)) (.pointer none)).run P w= .ok false w:=λ e he=>by
    have h:∀d:Nat,(Op.equalIn (d+1) t (.pointer (some ⟨b,off,none⟩)) (.pointer none)).run P w= .ok false w:=λ d=>by
     simp[Op.equalIn,run_underlying he]
    simp[Op.equal,Op.maxDepth,h 9999]
   split at h
   ·rename_i e hk;rw[hk]at h7;cases d<;>simp only[kindOf]at h7<;>first|(cases h7;done)|skip
    exact⟨_,_,h,rfl,hg,by simp[binOp,he _ h2]⟩
   ·rename_i e hk;rw[hk]at h7;cases d<;>simp only[kindOf]at h7<;>first|(cases h7;done)|skip
    exact⟨_,_,h,rfl,hg,by simp[binOp,he _ h2]⟩
   ·exact h.elim
  ·exact h.elim
 ·obtain rfl:=C2.cO hx;obtain rfl:=C2.cO hy;split at h
  ·rename_i i hi;have hg:(eqGuard op t ox oy (.pointer none) (.pointer none)).run P w= .ok () w:=jZ rfl s_ w;obtain⟨info,z,d,h1,h2,h3,h4,h5,h6,h7⟩:=jm hL hi;have he:∀e:TypeId,P.underlying t=some (.pointer e)->(Op.equal t (.pointer none) (.pointer none)).run P w= .ok true w:=λ e he=>by
    have h:∀d:Nat,(Op.equalIn (d+1) t (.pointer none) (.pointer none)).run P w= .ok true w:=λ d=>by
     simp[Op.equalIn,run_underlying he]
    simp[Op.equal,Op.maxDepth,h 9999]
   split at h
   ·rename_i e hk;rw[hk]at h7;cases d<;>simp only[kindOf]at h7<;>first|(cases h7;done)|skip
    exact⟨_,_,h,rfl,hg,by simp[binOp,he _ h2]⟩
   ·rename_i e hk;rw[hk]at h7;cases d<;>simp only[kindOf]at h7<;>first|(cases h7;done)|skip
    exact⟨_,_,h,rfl,hg,by simp[binOp,he _ h2]⟩
   ·exact h.elim
  ·exact h.elim
 ·obtain rfl:=C2.cO hx;obtain rfl:=C2.cO hy;split at h
  ·rename_i i hi;have hg:(eqGuard op t ox oy (.slice none 0 0) (.slice none 0 0)).run P w= .ok () w:=jZ rfl s_ w;split at h
   ·rename_i e hk;exact⟨_,_,h,rfl,hg,by simp[binOp,eq_nil (bK hL hi hk)]⟩
   ·rename_i e hk;exact⟨_,_,h,rfl,hg,by simp[binOp,eq_nil (bK hL hi hk)]⟩
   ·exact h.elim
  ·exact h.elim
 ·rename_i s n sc f;obtain rfl:=C2.cO hy;cases C2.wC hx with
  |sl s n sc f A c us hs hn hc hl hf hsc hu hr=>
  split at h
  ·rename_i i hi;have hg:(eqGuard op t ox oy (.slice A n c) (.slice none 0 0)).run P w= .ok () w:=jZ rfl s_ w;have hA:A=none->n=0:=λ hA=>by
    rcases hr with h|⟨b,o,h,_⟩
    ·exact h
    ·grind
   split at h
   ·rename_i e hk;refine⟨.v (.bool A.isNone),_, ?_,rfl,hg,by simp[binOp,eq_nil (bK hL hi hk)]⟩;cases A with
    |none=>exact h.y (hA rfl)
    |some x=>exact h.n
   ·rename_i e hk;refine⟨.v (.bool (!A.isNone)),_, ?_,rfl,hg,by simp[binOp,eq_nil (bK hL hi hk)]⟩;cases A with
    |none=>exact h.y (hA rfl)
    |some x=>exact h.n
   ·exact h.elim
  ·exact h.elim
 ·exact h.elim
where
 eq_nil {w:World} {t e:TypeId} {a:Option Addr} {n c:Nat} (h:P.underlying t=some (.slice e)):(Op.equal t (.slice a n c) (.slice none 0 0)).run P w= .ok a.isNone w:=by
  have h:∀d:Nat,(Op.equalIn (d+1) t (.slice a n c) (.slice none 0 0)).run P w= .ok a.isNone w:=λ d=>by
   cases a<;>simp[Op.equalIn,run_underlying h]
  simp[Op.equal,Op.maxDepth,h 9999]
 Sz {X:CX}:∀{us vs:List Value},aC (C0 X) (us.map .v) vs->vs=us
  |[],vs,h=>by
   have:=h.1;exact am9 this.symm
  |u::us,[],h=>by have:=h.1;simp at this
  |u::us,v::vs,h=>by
   have h0:=h.2 0 _ _ rfl rfl;have:=Sz ⟨by simpa using h.1,λ i x y hx hy=>h.2 (i+1) x y (by simpa using hx) (by simpa using hy)⟩;rw[this,show v=u from h0]
theorem Yr{X:CX}{op:UnOp}{x:AV}{xv:Value}(hx:C2 X x xv){K:AV->Prop}(h:aun op x K)(w:World):∃z u,K z/\C2 X z u/\(Op.unary op xv).run P w= .ok u w:=by
 unfold aun at h;split at h
 ·obtain rfl:=C2.cO hx;exact⟨_,_,h,rfl,rfl⟩
 ·obtain rfl:=C2.cO hx;exact⟨_,_,h.out,rfl,rfl⟩
 ·obtain rfl:=C2.cO hx;exact⟨_,_,h,rfl,rfl⟩
 ·exact h.elim
theorem SA(hL:bD P L)(R:Rel g N bs ρ a w st){t ty:TypeId}{x:AV}{xv:Value}(hx:C2 (aA g w ρ st.heap) x xv){K:AV->Prop}(h:aiO L st t x K):
  ∃z u,K z/\C2 (aA g w ρ st.heap) z u/\(Builtin.len_ #[t] ty #[xv]).run P w= .ok u w:=by
 unfold aiO at h;split at h
 ·exact h.elim
 ·rename_i i hi;split at h
  ·rename_i b hk;obtain rfl:=C2.cO hx;exact⟨_,_,h,rfl,by simp[Builtin.len_,run_underlying (uD hL hi hk),goInt]⟩
  ·rename_i e n c hk;obtain rfl:=C2.cO hx;exact⟨_,_,h,rfl,by simp[Builtin.len_,run_underlying (bK hL hi hk),goInt]⟩
  ·rename_i e s n sc f hk;cases C2.wC hx with
   |sl _ _ _ _ A c us hs0 hn hc hl hf hsc hu' hr=>
    exact⟨_,_,h,rfl,by simp[Builtin.len_,run_underlying (bK hL hi hk),goInt]⟩
  ·rename_i e id hk;split at h
   ·rename_i ee s n sc f hfo;obtain⟨us,hown,_⟩:=R.objs _ (au hfo);have hown:w.ownsRow 0 ee s (ρ id) n us:=hown;have hxv:xv=ρ id:=(C2.kE hx).trans (dY hown);rcases hown.2 with⟨hv,hz⟩|⟨b,cap,cur,hv,_⟩
    ·rw[hxv,hv];exact⟨_,_,h,rfl,by simp[Builtin.len_,run_underlying (bK hL hi hk),goInt,hz]⟩
    ·rw[hxv,hv];exact⟨_,_,h,rfl,by simp[Builtin.len_,run_underlying (bK hL hi hk),goInt]⟩
   ·rename_i ee cs hfo;obtain⟨us,⟨hown,_⟩,_⟩:=R.objs _ (au hfo);have hown:w.ownsRow 0 ee 1 (ρ id) cs.length us:=hown;have hxv:xv=ρ id:=(C2.kE hx).trans (dY hown);rcases hown.2 with⟨hv,hz⟩|⟨b,cap,cur,hv,_⟩
    ·rw[hxv,hv];exact⟨_,_,h,rfl,by simp[Builtin.len_,run_underlying (bK hL hi hk),goInt,hz]⟩
    ·rw[hxv,hv];exact⟨_,_,h,rfl,by simp[Builtin.len_,run_underlying (bK hL hi hk),goInt]⟩
   ·exact h.elim
  ·rename_i hk;rcases C2.tu hx with⟨b,c,_,_,rfl⟩|⟨rfl,A,c,rfl⟩<;>exact⟨_,_,h,rfl,by simp[Builtin.len_,run_underlying (bK hL hi hk),goInt]⟩
  ·rename_i m e hk;exact⟨_,_,h,rfl,by simp[Builtin.len_,run_underlying (pW hL hi hk),goInt]⟩
  ·exact h.elim
theorem SB{X:CX}{x y:AV}{xv yv:Value}(hx:C2 X x xv)(hy:C2 X y yv){K:AV->Prop}(h:aiS x y K)(ts:Array TypeId)(ty:TypeId)(w:World):∃z u,K z/\C2 X z u/\(Builtin.min_ ts ty #[xv,yv]).run P w= .ok u w:=by
 unfold aiS at h;split at h
 ·obtain rfl:=C2.cO hx;obtain rfl:=C2.cO hy;exact⟨_,_,h,rfl,run_min_int2 w ts ty _ _ _ _⟩
 ·exact h.elim
theorem SC{X:CX}{x y:AV}{xv yv:Value}(hx:C2 X x xv)(hy:C2 X y yv){K:AV->Prop}(h:aiT x y K)(ts:Array TypeId)(ty:TypeId)(w:World):∃z u,K z/\C2 X z u/\(Builtin.max_ ts ty #[xv,yv]).run P w= .ok u w:=by
 unfold aiT at h;split at h
 ·obtain rfl:=C2.cO hx;obtain rfl:=C2.cO hy;exact⟨_,_,h,rfl,run_max_int2 w ts ty _ _ _ _⟩
 ·exact h.elim
theorem yC{R:AV->Value->Prop}(hR:∀y u,R (.v y) u->u=y):∀{n:Nat}{f:Nat->List AV}{us:List Value}{bs:List UInt8},aC R (flat n f) us->n=bs.length->(∀i,i<n->f i=[.v (.int .u8 ((bs.getD i 0).toNat:Int))])->
 ∀(j:Nat)(hj:j<bs.length),us[j]? =some (.int .u8 (bs[j].toNat:Int))
 |0,_,_,[],_,_,_,j,hj=>by simp at hj
 |0,_,_,b::bs,_,hn,_,_,_=>by simp at hn
 |n+1,f,us,[],_,hn,_,_,_=>by simp at hn
 |n+1,f,us,b::bs,ha,hn,hf,j,hj=>by
  have e0:=hf 0 o_;have hfl:flat (n+1) f=f 0++flat n (λ i=>f (i+1)):=rfl;rw[hfl,e0]at ha;cases us with
  |nil=>have:=ha.1;simp at this
  |cons u us=>
   have h0:=hR _ _ (ha.2 0 _ _ rfl rfl);have ht:aC R (flat n (λ i=>f (i+1))) us:=⟨by have h1:=ha.1;simp at h1;omega,λ i x y hx hy=>ha.2 (i+1) x y (by simpa using hx) (by simpa using hy)⟩;cases j with
   |zero=>simp[h0]
   |succ j=>
    have:=yC hR (bs:=bs) ht (by simpa using hn) (λ i hi=>by have:=hf (i+1) o_;simpa using this) j (by simpa using hj);simpa using this
theorem Dj(hL:bD P L)(R:Rel g N bs ρ a w st){src dst:TypeId}{x:AV}{xv:Value}(hx:C2 (aA g w ρ st.heap) x xv){K:AV->Prop}(h:Io L st src dst x K):
  ∃z u,K z/\C2 (aA g w ρ st.heap) z u/\(convert src dst xv).run P w= .ok u w:=by
 unfold Io at h;split at h
 ·rename_i si di hsi hdi;obtain⟨info,z,d,h1,h2,h3,h4,h5,h6,h7⟩:=jm hL hsi;split at h
  ·rename_i k kk n hk;obtain rfl:=C2.cO hx;exact⟨_,_,h.out,rfl,by cases d<;>simp[convert,run_underlying h2,run_underlying (Bd hL hdi hk),Conv.intToInt]⟩
  ·rename_i s hk;obtain rfl:=C2.cO hx;exact⟨_,_,h,rfl,by cases d<;>simp[convert,run_underlying h2,run_underlying (uD hL hdi hk)]⟩
  ·rename_i e s n sc f hsk hdk;split at h
   ·rename_i ei qP;split at h
    ·rename_i hek;obtain⟨bs,hn,hf,hk⟩:=h;cases C2.wC hx with
     |sl _ _ _ _ A c us hs0 hnc hc hl hfl hsc hu' hr=>
      refine⟨_,.string ⟨bs.toArray⟩,hk,rfl, ?_⟩;subst hn;have hall:aC (PC w (aH g w ρ st.heap)) (flat bs.length f) us:=⟨by rw[hl];exact nU.flat_length hfl,hu'⟩;have hcells:=yC (λ y u h=>by cases h;rfl) hall rfl hf;rcases hr with hz|⟨b,o,rfl,kb,hcell⟩
      ·have hb:=am9 hz;subst hb;cases A with
       |none=>
        rw[show([]:List UInt8).length=0 from rfl,run_convert_bytes_string w _ _ _ none 0 c (bK hL hsi hsk) (Bd hL qP hek) (uD hL hdi hdk)];rfl
       |some aa=>exact run_convert_bytes_back w _ _ _ aa c [] (bK hL hsi hsk) (Bd hL qP hek) (uD hL hdi hdk) (λ j hj=>by simp at hj)
      ·refine run_convert_bytes_back w _ _ _ ⟨b,o,none⟩ c bs (bK hL hsi hsk) (Bd hL qP hek) (uD hL hdi hdk) (λ j hj=> ?_);rw[anW];exact hcell j _ (hcells j hj)
    ·exact h.elim
   ·exact h.elim
  ·rename_i e id hsk hdk;split at h
   ·rename_i ee s n sc f hfo;split at h
    ·rename_i ei qP;split at h
     ·rename_i hek;obtain⟨bs,hn,hf,hk⟩:=h;refine⟨_,.string ⟨bs.toArray⟩,hk,rfl, ?_⟩;obtain⟨us,hown,hs0,hfl,hsc,ha⟩:=R.objs _ (au hfo);have hown:w.ownsRow 0 ee s (ρ id) n us:=hown;subst hn;have hcells:=yC (λ y u h=>by cases h;rfl) ha rfl hf;have hxv:xv=ρ id:=(C2.kE hx).trans (dY hown);rcases hown.2 with⟨hv,hz⟩|⟨b,cap,cur,hv,_⟩
      ·have hb:=am9 hz;subst hb;rw[hxv,hv,run_convert_bytes_string w _ _ _ none 0 0 (bK hL hsi hsk) (Bd hL qP hek) (uD hL hdi hdk)];rfl
      ·rw[hxv,hv];refine run_convert_bytes_back w _ _ _ ⟨b,0,none⟩ cap bs (bK hL hsi hsk) (Bd hL qP hek) (uD hL hdi hdk) (λ j hj=> ?_);exact hown.cells (by rw[hv];rfl) j _ (hcells j hj)
     ·exact h.elim
    ·exact h.elim
   ·exact h.elim
  ·exact h.elim
 ·exact h.elim
end
def Rd(w:World)(B size:Nat)(A:Option Addr)(n:Nat)(xs:List Value):Prop:=
 xs.length=n*size/\(0<n-> ∃b o,A=some ⟨b,o,none⟩/\b<B/\ ∀j u,xs[j]? =some u->w.cell? ⟨b,o+j,none⟩=some u)
section
variable{w w':World}{B B' size n:Nat}{A:Option Addr}{xs:List Value}
theorem Rd.nil:Rd w B size A 0 []:=⟨s_,λ h=>absurd h o_⟩
theorem Rd.keep(h:Rd w B size A n xs)(hk:∀p:Addr,p.block<B->w'.cell? p=w.cell? p):Rd w' B size A n xs:=
 ⟨h.1,λ hn=>let⟨b,o,e,hb,hc⟩:=h.2 hn;⟨b,o,e,hb,λ j u hu=>(hk _ hb).trans (hc j u hu)⟩⟩
theorem Rd.more(h:Rd w B size A n xs)(hB:B<=B'):Rd w B' size A n xs:=
 ⟨h.1,λ hn=>let⟨b,o,e,hb,hc⟩:=h.2 hn;⟨b,o,e,o_,hc⟩⟩
theorem Rd.below(h:Rd w B size A n xs)(hb:Below B w w'):Rd w' B size A n xs:=h.keep λ _ hp=>hb.cell hp
theorem Rd.to(h:Rd w B size A n xs)(hb:Below B w w')(hB:B<=w'.heap.size):Rd w' w'.heap.size size A n xs:=(h.below hb).more hB
theorem Rd.drew(h:Rd w B size A n xs):Rd w.drew B size A n xs:=h
theorem Rd.alloc(h:Rd w B size A n xs)(hB:B<=w.heap.size)(o:Obj):Rd (w.alloc o) B size A n xs:=h.keep λ p hp=>World.cell?_alloc_lt w o p o_
theorem Rd.setCell(h:Rd w B size A n xs){p:Addr}(hB:B<=p.block)(u:Value):Rd (w.setCell p u) B size A n xs:=
 h.keep λ q hq=>World.cell?_setCell_other w p q u (λ e=>by subst e;omega)
theorem Rd.grown(h:Rd w B size A n xs){row:Option Nat}(hg:w.grownBy w' row)(hB:B<=w.heap.size)(hr:∀g,row=some g->B<=g):Rd w' B size A n xs:=
 h.keep λ p hp=>aoF (hg.block p.block o_ (λ e=>by have:=hr _ e.symm;omega))
theorem Rd.cut(h:Rd w B size A n xs){k cap:Nat}(hk:k<=n)(hc:n<=cap):
  Rd w B size (if cap=k then A else A.map (·.add (k*size))) (n-k) (xs.drop (k*size)):=by
 refine⟨by rw[anl,h.1,Nat.sub_mul],λ hn=> ?_⟩;obtain⟨b,o,rfl,hb,hcell⟩:=h.2 o_;rw[if_neg o_];refine⟨b,o+k*size,by simp[anW],hb,λ j u hu=> ?_⟩;rw[Nat.add_assoc];exact hcell _ u (by rw[<-hu,aop])
theorem Rd.first(h:Rd w B size A n xs){k:Nat}(hk:k<=n):Rd w B size A k (xs.take (k*size)):=by
 refine⟨by rw[am5,h.1];exact aow (an5 _ hk),λ hn=> ?_⟩;obtain⟨b,o,e,hb,hcell⟩:=h.2 o_;refine⟨b,o,e,hb,λ j u hu=>hcell j u ?_⟩;rw[anU]at hu;split at hu
 ·exact hu
 ·cases hu
theorem Rd.at1{k:Nat}(h:Rd w B 1 A n xs)(hk:k<n):∃b o,∃hl:k<xs.length,A=some ⟨b,o,none⟩/\b<B/\w.cell? ⟨b,o+k,none⟩=some xs[k]:=by
 obtain⟨b,o,e,hb,hc⟩:=h.2 o_;have hl:k<xs.length:=by have:=h.1;omega
 exact⟨b,o,hl,e,hb,hc k _ (amX hl)⟩
end
theorem AB(b:Nat)(t:TypeId):∀(vs:List Value)(o:Nat)(w:World)(cur:Array Value),w.heap[b]? =some (.cells cur t (0,0))->o+vs.length<=cur.size->
 (w.setCells b o vs).heap[b]? =some (.cells (cur.toList.take o++vs++cur.toList.drop (o+vs.length)).toArray t (0,0))
 |[],o,w,cur,h,_=>by simpa[World.setCells]using h
 |v::r,o,w,cur,h,hl=>by
  have h1:(w.setCell ⟨b,o,none⟩ v).heap[b]? =some (.cells (cur.setIfInBounds o v) t (0,0)):=heap_setCell_same w b o cur t v h;rw[World.setCells,AB b t r (o+1) _ _ h1 (by simp at hl⊢;omega)];have e:=list_seg_step cur.toList o v r (by simp at hl⊢;omega);simp only[Array.toList_setIfInBounds];rw[e];rfl
theorem yD(b:Nat):∀(vs:List Value)(o:Nat)(w:World)(k:Nat),k≠b->(w.setCells b o vs).heap[k]? =w.heap[k]?
 |[],_,_,_,_=>rfl
 |v::r,o,w,k,hk=>by rw[World.setCells,yD b r (o+1) _ k hk,Below.heap_setCell _ _ _ _ hk]
theorem AL(b:Nat):∀(vs:List Value)(o:Nat)(w:World),(w.setCells b o vs).os=w.os/\(w.setCells b o vs).tape=w.tape/\(w.setCells b o vs).output=w.output/\(w.setCells b o vs).heap.size=w.heap.size
 |[],_,_=>⟨rfl,rfl,rfl,rfl⟩
 |v::r,o,w=>by
  obtain⟨h1,h2,h3,h4⟩:=AL b r (o+1) (w.setCell ⟨b,o,none⟩ v);exact⟨h1,h2,h3,h4.trans (by simp[World.setCell])⟩
section
variable{P:Program}(w:World)
theorem nV(base:Nat)(t tx ty e:TypeId)(i:TypeInfo)(z:Value)(size bytes:Nat)(ht:P.underlying t=some (.slice e))(hi:P.info? e=some i)(hz:i.zero=some z)
  (hsize:i.size=size)(hby:i.bytes=bytes)(hzs:z.cells.size=size)
  (v:Value)(n:Nat)(xs:List Value)(hown:w.ownsRow base e size v n xs)
  (X:Value)(m:Nat)(news:List Value)(hsrc:Src P size tx X m news w)
  (h63:n+m<=maxLen)(hbytes:(n+m)*bytes<=140737488355328)(hbase:base<=w.heap.size):
  ∃v' w',(Builtin.append_ #[t,tx] ty #[v,X]).run P w= .ok v' w'/\w'.ownsRow base e size v' (n+m) (xs++news)/\w.grownBy w' v.ownBlock/\
   (v'.ownBlock=v.ownBlock\/v'.ownBlock=some w.heap.size):=by
 subst hsize;subst hby;have hsmall:n+m<=9223372036854775807:=by simp only[maxLen]at h63;omega
 have hlen:(xs++news).length=(n+m)*i.size:=by rw[am0,hown.1,hsrc.newsLen,aor]
 have grown:∀(old:Nat),old<n+m-> ∀(row:Option Nat),
   (w.drew.alloc (.cells ((xs++news).toArray++Builtin.zeroCells z.cells (grownCap w (n+m) old e-(n+m))) e)).ownsRow base e i.size
    (.slice (some ⟨w.heap.size,0,none⟩) (n+m) (grownCap w (n+m) old e)) (n+m) (xs++news)/\
   w.grownBy (w.drew.alloc (.cells ((xs++news).toArray++Builtin.zeroCells z.cells (grownCap w (n+m) old e-(n+m))) e)) row:=by
  intro old ho row;have hge:=grownCap_ge w (n+m) old e;have hcm:=grownCap_le_maxLen w (n+m) old e h63;refine⟨⟨hlen,.inr ⟨w.heap.size,_,_,rfl,hbase,heap_alloc_new w.drew _,hge,hcm, ?_, ?_⟩⟩,⟨rfl,rfl,rfl,s_,λ k hk _=>aph w.drew _ k hk⟩⟩
  ·simp only[Array.size_append,List.size_toArray,size_zeroCells,hzs,hlen,<-aor];congr 1;omega
  ·grind
 rcases hown.2 with⟨rfl,rfl⟩|⟨g,cap,cur,rfl,hbg,hg,hnc,hcm,hcs,htake⟩
 ·have hx:=am9 (by simpa using hown.1);subst hx;by_cases hm:m=0
  ·subst hm;have hn:=am9 (by simpa using hsrc.newsLen);subst hn;refine⟨.slice none 0 0,w, ?_,aoi w base e i.size,⟨rfl,rfl,rfl,ani _,λ _ _ _=>rfl⟩,.inl rfl⟩;rcases hsrc.kind with⟨e',hk⟩|hk<;>simp[Builtin.append_,run_underlying ht,run_underlying hk,sizeOf,typeInfo,hi,hsrc.len,hsrc.cells]
  ·have hr:=run_append_grow_src w t tx ty e i z ht hi hz none 0 0 [] (by simp[Builtin.firstCells]) X m news hsrc o_ o_ (growslice_fits o_ hbytes);have hgr:=grown 0 o_ (Value.ownBlock (.slice none 0 0));exact⟨_,_,hr,hgr.1,hgr.2,.inr rfl⟩
 ·by_cases hroom:n+m<=cap
  ·have hfit:n*i.size+news.length<=cur.size:=by rw[hsrc.newsLen,hcs,<-aor];exact an5 _ hroom
   have hr:=run_append_room_src w t tx ty e i ht hi g 0 n cap X m news hsrc hroom
    (λ j hj=>by rw[cell_of_row w g _ cur e (0,0) hg,aoT o_];rfl) (λ j hj=>frozen_of_row w g _ cur e hg)
   obtain⟨m1,m2,m3,m4⟩:=AL g news (0+n*i.size) w;refine⟨_,_,hr,⟨hlen,.inr ⟨g,cap,_,rfl,hbg,AB g e news (0+n*i.size) w cur hg o_,hroom,hcm, ?_, ?_⟩⟩,⟨m1,m2,m3,o_,λ k _ hk=>yD g news _ w k (λ e=>hk (by simp[Value.ownBlock,e]))⟩,.inl rfl⟩
   ·grind
   ·grind
  ·have holds:=hown.cells rfl;have hf:=run_firstCells_some (P:=P) w.drew i.size n ⟨g,0,none⟩ n cap xs hown.1 (by simpa using holds);have hr:=run_append_grow_src w t tx ty e i z ht hi hz (some ⟨g,0,none⟩) n cap xs hf X m news hsrc o_ o_ (growslice_fits o_ hbytes);have hgr:=grown cap o_ (Value.ownBlock (.slice (some ⟨g,0,none⟩) n cap));exact⟨_,_,hr,hgr.1,hgr.2,.inr rfl⟩
theorem Rd.src{B size n c:Nat}{A:Option Addr}{xs:List Value}{tx e':TypeId}{w:World}(h:Rd w B size A n xs)(hk:P.underlying tx=some (.slice e'))(h1:∀u∈xs,u.oneCell'=true):Src P size tx (.slice A n c) n xs w:=by
 rcases apo n with rfl|hn
 ·have hx:=am9 (by simpa using h.1);subst hx;cases A with
  |none=>exact Src.ofNil w hk c
  |some a=>exact aps w hk a 0 c [] s_ s_ h1
 ·obtain⟨b,o,rfl,_,hc⟩:=h.2 hn;exact aps w hk ⟨b,o,none⟩ n c xs h.1 (λ j u hu=>by rw[anW];exact hc j u hu) h1
end
theorem zF{k:IntKind}{a b:Int}(h:a=b):Ending.returned (.int k a)= .returned (.int k b):=by rw[h]
def bV(b:UInt8):Value:= .int .u8 b.toNat
end Go.Proofs.YtkimgljckickcaaGreat
