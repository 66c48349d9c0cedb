/-
  Contracts of the walk:AmA.
-/
import Derived.WalkKit
import Derived.Deep.AppendSrc
import Derived.Lib.Hide
import Derived.Deep.Quiet
import Derived.Deep.Draws
import Derived.WalkLawsBesides
import Derived.Laws.IdiomStrings
import Derived.Deep.QuietTactic
import Derived.MapKept
set_option maxHeartbeats 16000000
set_option maxRecDepth 100000
set_option linter.unusedVariables false
set_option linter.unusedSimpArgs false
namespace Go.Proofs.YtimhagicagdkfaaGreat
section
open Go.RowKit
inductive AV:Type where
  |v (x:Value)
  |agg (cs:List AV)
  |dF (vs:List AV)
  |sl (s n:Nat) (sc:Bool) (f:Nat→List AV)
  |own (id:Nat)
  |dP (id s i k:Nat)
  |jq (id s i m:Nat)
  |box (id off:Nat)
  |cf (g:FuncId) (id off:Nat)
  |el (cs:List AV) (k:Nat)
  |fn (g:FuncId) (caps:List AV)
  |junk
def flat:Nat→(Nat→List AV)→List AV
  |0,_=>[]
  |n+1,f=>f 0++flat n (fun i=>f (i+1))
def jm:Value→List Nat
  | .pointer (some a)=>[a.block]
  | .slice (some a) _ _=>[a.block]
  | .map (some r)=>[r]
  |_=>[]
def blks:Value→List Nat
  | .tuple us=>us.toList.tail.flatMap jm
  |v=>jm v
def eP:Value→Value
  | .tuple us=>us.toList.headD undef
  |v=>v
structure OB:Type where
 R:World→(Nat→Prop)→Value→Prop
 mono: ∀ {w w':World} {k k':Nat→Prop} {v:Value},(∀b,k b→k' b)→(∀b,k b→w'.heap[b]? =w.heap[b]?)→(∀b∈blks v,w'.heap[b]? =w.heap[b]?)→R w k v→R w' k' v
 lt: ∀ {w:World} {k:Nat→Prop} {v:Value},R w k v→(∀b∈blks v,b<w.heap.size)∧(eP v).oneCell'=true∧(blks v).Nodup
structure RW:Type where
 e:TypeId
 s:Nat
 n:Nat
 sc:Bool
 f:Nat→List AV
inductive AO:Type where
  |box (t:TypeId) (cs:List AV)
  |row (e:TypeId) (s n:Nat) (sc:Bool) (f:Nat→List AV)
  |mp (t:TypeId) (ks:List (ByteArray×Option Nat)) (rs:List (ByteArray×RW))
  |obs (o:OB)
  |rn (e:TypeId) (cs:List AV)
def qW:List (Nat×AV)→Nat→AV
  |[],_=> .junk
  |p::l,t=>bif Nat.beq t p.1 then p.2 else qW l t
def Ad (m:AV→AV):List (Nat×AV)→List (Nat×AV)
  |[]=>[]
  |(k,v)::l=>(k,m v)::Ad m l
theorem qA {m:AV→AV} (hm:m .junk= .junk): ∀ (l:List (Nat×AV)) (t:Nat),qW (Ad m l) t=m (qW l t)
  |[],_=>hm.symm
  | (k,v)::l,t=>by
    simp only[Ad,qW]
    cases Nat.beq t k with
    |true=>rfl
    |false=>exact qA hm l t
structure AS where
 sl:List (Nat×AV)
 heap:List (Nat×AO)
 back:List (List (Nat×AV))
 base:Nat
def AS.tmps (st:AS):Nat→AV:=qW st.sl
structure CX where
 w:World
 keep:Nat→Prop
 ρ:Nat→Value
inductive PC (w:World) (keep:Nat→Prop):AV→Value→Prop where
  |v (x:Value) (h:x.oneCell'=true):PC w keep (.v x) x
  |sl (s n:Nat) (sc:Bool) (f:Nat→List AV) (A:Option Addr) (c:Nat) (us:List Value) (hs:0<s) (hn:n≤c) (hc:c≤maxLen) (hl:us.length=n*s) (hf: ∀i,i<n→(f i).length=s) (hsc:sc=true→ ∀x∈flat n f,∃y,x= .v y)
     (hu: ∀ (i:Nat) (x:AV) (u:Value),(flat n f)[i]? =some x→us[i]? =some u→PC w keep x u)
     (hr:n=0∨ ∃b o,A=some ⟨b,o,none⟩∧keep b∧ ∀ (j:Nat) (u:Value),us[j]? =some u→w.cell? ⟨b,o+j,none⟩=some u):PC w keep (.sl s n sc f) (.slice A n c)
def aI (R:AV→Value→Prop) (xs:List AV) (us:List Value):Prop:=xs.length=us.length∧ ∀ (i:Nat) (x:AV) (u:Value),xs[i]? =some x→us[i]? =some u→R x u
def million:Nat:=1000000
def cfV (g:FuncId) (p:Value):Value:=bif Nat.blt g million then .func (.func g) #[] #[p]else .func (.func (Nat.sub g million)) #[p] #[]
def C0 (X:CX):AV→Value→Prop
  | .own id,u=>u=eP (X.ρ id)
  | .dP id s i k,u=> ∃b n c,X.ρ id= .slice (some ⟨b,0,none⟩) n c∧u= .pointer (some ⟨b,i*s+k,none⟩)
  | .jq id s i m,u=>(∃b c,jm (eP (X.ρ id))=[b]∧m≤c∧u= .slice (some ⟨b,i*s,none⟩) m c)∨(m=0∧ ∃A c,u= .slice A 0 c)
  | .box id off,u=> ∃b,eP (X.ρ id)= .pointer (some ⟨b,0,none⟩)∧u= .pointer (some ⟨b,off,none⟩)
  | .cf g id off,u=> ∃b,eP (X.ρ id)= .pointer (some ⟨b,0,none⟩)∧u=cfV g (.pointer (some ⟨b,off,none⟩))
  | .el cs k,u=> ∃b o us,u= .pointer (some ⟨b,o+k,none⟩)∧X.keep b∧aI (PC X.w X.keep) cs us∧ ∀ (j:Nat) (y:Value),us[j]? =some y→X.w.cell? ⟨b,o+j,none⟩=some y
  | .junk,_=>True
  | .v x,u=>u=x
  | .sl s n sc f,u=>PC X.w X.keep (.sl s n sc f) u
  | .agg _,_=>False
  | .dF _,_=>False
  | .fn _ _,_=>False
def C1 (X:CX):AV→Value→Prop
  | .agg cs,u=> ∃us,u= .agg us.toArray∧aI (C0 X) cs us
  | .fn g caps,u=> ∃us,u= .func (.func g) #[] us.toArray∧aI (C0 X) caps us
  |av,u=>C0 X av u
def C2 (X:CX):AV→Value→Prop
  | .dF vs,u=> ∃us,u= .tuple us.toArray∧aI (C1 X) vs us
  |av,u=>C1 X av u
def dZ (d:Nat):AV→AV
  | .v x=> .v x
  | .agg cs=> .agg cs
  | .dF vs=> .dF vs
  | .sl s n sc f=> .sl s n sc f
  | .own id=>bif Nat.beq id d then .junk else .own id
  | .dP id s i k=>bif Nat.beq id d then .junk else .dP id s i k
  | .jq id s i k=>bif Nat.beq id d then .junk else .jq id s i k
  | .box id off=>bif Nat.beq id d then .junk else .box id off
  | .cf g id off=>bif Nat.beq id d then .junk else .cf g id off
  | .el cs k=> .el cs k
  | .fn g cs=> .fn g cs
  | .junk=> .junk
def Xo (d:Nat):AV→AV
  | .v x=> .v x
  | .agg cs=> .agg (cs.map (dZ d))
  | .dF vs=> .dF vs
  | .sl s n sc f=> .sl s n sc f
  | .own id=>bif Nat.beq id d then .junk else .own id
  | .dP id s i k=>bif Nat.beq id d then .junk else .dP id s i k
  | .jq id s i k=>bif Nat.beq id d then .junk else .jq id s i k
  | .box id off=>bif Nat.beq id d then .junk else .box id off
  | .cf g id off=>bif Nat.beq id d then .junk else .cf g id off
  | .el cs k=> .el cs k
  | .fn g cs=> .fn g (cs.map (dZ d))
  | .junk=> .junk
def sD (d:Nat):AV→AV
  | .v x=> .v x
  | .agg cs=> .agg (cs.map (dZ d))
  | .dF vs=> .dF (vs.map (Xo d))
  | .sl s n sc f=> .sl s n sc f
  | .own id=>bif Nat.beq id d then .junk else .own id
  | .dP id s i k=>bif Nat.beq id d then .junk else .dP id s i k
  | .jq id s i k=>bif Nat.beq id d then .junk else .jq id s i k
  | .box id off=>bif Nat.beq id d then .junk else .box id off
  | .cf g id off=>bif Nat.beq id d then .junk else .cf g id off
  | .el cs k=> .el cs k
  | .fn g cs=> .fn g (cs.map (dZ d))
  | .junk=> .junk
def vJ (d:Nat):List (ByteArray×Option Nat)→List (ByteArray×Option Nat)
  |[]=>[]
  |(k,some i)::l=>(k,bif Nat.beq i d then none else some i)::vJ d l
  |(k,none)::l=>(k,none)::vJ d l
def AO.vK (d:Nat):AO→AO
  | .box t cs=> .box t (cs.map (dZ d))
  | .row e s n sc f=> .row e s n sc f
  | .mp t ks rs=> .mp t (vJ d ks) rs
  | .obs o=> .obs o
  | .rn e cs=> .rn e (cs.map (dZ d))
def Ae (u v:Value):Prop:=u=v∨((∃us,u= .tuple us)∧(∃vs,v= .tuple vs)∧eP u=eP v)
theorem Ae.hd {u v:Value} (h:Ae u v):eP u=eP v:=by
 rcases h with rfl|h
 · rfl
 · exact h.2.2
theorem Ae.sl {u:Value} {a:Option Addr} {n c:Nat} (h:Ae u (.slice a n c)):u= .slice a n c:=by
 rcases h with rfl|⟨_,⟨vs,e⟩,_⟩
 · rfl
 · cases e
theorem Ae.refl (u:Value):Ae u u:= .inl rfl
structure Ext (d:Nat) (X Y:CX):Prop where
 keep: ∀b,X.keep b→Y.keep b
 mem: ∀b,X.keep b→Y.w.heap[b]? =X.w.heap[b]?
 ρ: ∀i,i≠d→Ae (Y.ρ i) (X.ρ i)
theorem PC.mono {w w':World} {k k':Nat→Prop} (hk: ∀b,k b→k' b) (hm: ∀b,k b→w'.heap[b]? =w.heap[b]?) {av:AV} {u:Value} (h:PC w k av u):PC w' k' av u:=by
 induction h with
 |v x h=>exact .v x h
 | sl s n sc f A c us hs hn hc hl hf hsc hu hr ih=>
   refine .sl s n sc f A c us hs hn hc hl hf hsc ih ?_
   rcases hr with h0|⟨b,o,e,kb,hcell⟩
   · exact .inl h0
   · exact .inr ⟨b,o,e,hk b kb,fun j u hj=>(World.cell?_of_block (hm b kb)).trans (hcell j u hj)⟩
theorem aI.imp {R S:AV→Value→Prop} {xs:List AV} {us:List Value} (h:aI R xs us) (hi: ∀x u,R x u→S x u):aI S xs us:=⟨h.1,fun i x u hx hu=>hi x u (h.2 i x u hx hu)⟩
theorem aI.mO {R S:AV→Value→Prop} {g:AV→AV} {xs:List AV} {us:List Value} (h:aI R xs us) (hi: ∀x u,R x u→S (g x) u):aI S (xs.map g) us:=by
 refine⟨by simpa using h.1,fun i x u hx hu=> ?_⟩
 rw[List.getElem?_map]at hx
 cases hx':xs[i]? with
 |none=>rw[hx']at hx;cases hx
 |some y=>rw[hx']at hx;cases hx;exact hi y u (h.2 i y u hx' hu)
theorem aI.nil {R:AV→Value→Prop}:aI R [] []:=⟨rfl,fun i x u h=>by simp at h⟩
theorem aI.cons {R:AV→Value→Prop} {x:AV} {u:Value} {xs:List AV} {us:List Value} (h0:R x u) (h:aI R xs us):aI R (x::xs) (u::us):=by
 refine⟨by simpa using h.1,fun i y z hy hz=> ?_⟩
 cases i with
 |zero=>simp at hy hz;subst hy hz;exact h0
 |succ i=>exact h.2 i y z (by simpa using hy) (by simpa using hz)
theorem aI.app {R:AV→Value→Prop} {xs ys:List AV} {us vs:List Value} (h:aI R xs us) (k:aI R ys vs):aI R (xs++ys) (us++vs):=by
 refine⟨by simp[h.1,k.1],fun i y z hy hz=> ?_⟩
 by_cases hi:i<xs.length
 · rw[List.getElem?_append_left hi]at hy
   rw[List.getElem?_append_left (by rw[←h.1];exact hi)]at hz
   exact h.2 i y z hy hz
 · rw[List.getElem?_append_right (by omega)]at hy
   rw[List.getElem?_append_right (by rw[←h.1];omega),←h.1]at hz
   exact k.2 _ y z hy hz
theorem aI.drop {R:AV→Value→Prop} {xs:List AV} {us:List Value} (h:aI R xs us) (k:Nat):aI R (xs.drop k) (us.drop k):=
 ⟨by simp[h.1],fun i x u hx hu=>h.2 (k+i) x u (by simpa using hx) (by simpa using hu)⟩
theorem aI.take {R:AV→Value→Prop} {xs:List AV} {us:List Value} (h:aI R xs us) (k:Nat):aI R (xs.take k) (us.take k):=by
 refine⟨by simp[h.1],fun i x u hx hu=> ?_⟩
 rw[List.getElem?_take]at hx hu
 split at hx
 · rename_i hi;rw[if_pos hi]at hu;exact h.2 i x u hx hu
 · cases hx
theorem aI.get {R:AV→Value→Prop} {xs:List AV} {us:List Value} (h:aI R xs us) {i:Nat} {x:AV} (hx:xs[i]? =some x): ∃u,us[i]? =some u∧R x u:=by
 have hi:i<xs.length:=by
  rcases Nat.lt_or_ge i xs.length with h'|h'
  · exact h'
  · rw[List.getElem?_eq_none h']at hx;cases hx
 have hu:us[i]? =some (us[i]'(by rw[←h.1];exact hi)):=List.getElem?_eq_getElem _
 exact⟨_,hu,h.2 i x _ hx hu⟩
theorem aI.set {R:AV→Value→Prop} {xs:List AV} {us:List Value} (h:aI R xs us) (i:Nat) {x:AV} {u:Value} (hr:R x u):aI R (xs.set i x) (us.set i u):=by
 refine⟨by simp[h.1],fun j y z hy hz=> ?_⟩
 rw[List.getElem?_set]at hy hz
 by_cases e:i=j
 · subst e
   simp only[if_true]at hy hz
   split at hy
   · rename_i hlt;rw[if_pos (by rw[←h.1];exact hlt)]at hz;cases hy;cases hz;exact hr
   · cases hy
 · rw[if_neg e]at hy hz
   exact h.2 j y z hy hz
section
variable {d:Nat} {X Y:CX}
theorem beq_false {i d:Nat} (h:i≠d):Nat.beq i d=false:=by
 rw[Bool.eq_false_iff];intro e;exact h (Nat.eq_of_beq_eq_true e)
theorem C0.ext (hE:Ext d X Y) {av:AV} {u:Value} (h:C0 X av u):C0 Y (dZ d av) u:=by
 cases av with
 | own id=>
   by_cases e:id=d
   · subst e;simp[dZ,C0]
   · simp only[dZ,beq_false e,cond_false,C0]at h⊢
     rw[(hE.ρ id e).hd];exact h
 | dP id s i k=>
   by_cases e:id=d
   · subst e;simp[dZ,C0]
   · simp only[dZ,beq_false e,cond_false,C0]at h⊢
     obtain⟨b,n,c,h1,h2⟩:=h
     have h3:=hE.ρ id e
     rw[h1]at h3
     exact⟨b,n,c,h3.sl,h2⟩
 | jq id s i k=>
   by_cases e:id=d
   · subst e;simp[dZ,C0]
   · simp only[dZ,beq_false e,cond_false,C0]at h⊢
     rw[(hE.ρ id e).hd];exact h
 | box id off=>
   by_cases e:id=d
   · subst e;simp[dZ,C0]
   · simp only[dZ,beq_false e,cond_false,C0]at h⊢
     rw[(hE.ρ id e).hd];exact h
 | cf g id off=>
   by_cases e:id=d
   · subst e;simp[dZ,C0]
   · simp only[dZ,beq_false e,cond_false,C0]at h⊢
     rw[(hE.ρ id e).hd];exact h
 | el cs k=>
   obtain⟨b,o,us,e,kb,ha,hc⟩:=h
   exact⟨b,o,us,e,hE.keep b kb,ha.imp (fun _ _=>PC.mono hE.keep hE.mem),fun j y hj=>(World.cell?_of_block (hE.mem b kb)).trans (hc j y hj)⟩
 |sl s n sc f=>exact PC.mono hE.keep hE.mem h
 |v x=>exact h
 |junk=>trivial
 |agg cs=>exact h
 |dF cs=>exact h
 |fn g caps=>exact h
theorem C1.ext (hE:Ext d X Y) {av:AV} {u:Value} (h:C1 X av u):C1 Y (Xo d av) u:=by
 cases av with
 |agg cs=>obtain⟨us,e,ha⟩:=h;exact⟨us,e,ha.mO fun _ _=>C0.ext hE⟩
 |fn g cs=>obtain⟨us,e,ha⟩:=h;exact⟨us,e,ha.mO fun _ _=>C0.ext hE⟩
 | own id=>
   have:=C0.ext hE (av:= .own id) h
   show C1 Y (dZ d (.own id)) u
   revert this
   simp only[dZ]
   cases Nat.beq id d<;>exact fun h=>h
 | dP id s i k=>
   have:=C0.ext hE (av:= .dP id s i k) h
   show C1 Y (dZ d (.dP id s i k)) u
   revert this
   simp only[dZ]
   cases Nat.beq id d<;>exact fun h=>h
 | jq id s i k=>
   have:=C0.ext hE (av:= .jq id s i k) h
   show C1 Y (dZ d (.jq id s i k)) u
   revert this
   simp only[dZ]
   cases Nat.beq id d<;>exact fun h=>h
 | box id off=>
   have:=C0.ext hE (av:= .box id off) h
   show C1 Y (dZ d (.box id off)) u
   revert this
   simp only[dZ]
   cases Nat.beq id d<;>exact fun h=>h
 | cf g id off=>
   have:=C0.ext hE (av:= .cf g id off) h
   show C1 Y (dZ d (.cf g id off)) u
   revert this
   simp only[dZ]
   cases Nat.beq id d<;>exact fun h=>h
 |el cs k=>exact C0.ext hE (av:= .el cs k) h
 |sl s n sc f=>exact C0.ext hE (av:= .sl s n sc f) h
 |v x=>exact h
 |junk=>trivial
 |dF cs=>exact h
theorem C2.ext (hE:Ext d X Y) {av:AV} {u:Value} (h:C2 X av u):C2 Y (sD d av) u:=by
 cases av with
 |dF vs=>obtain⟨us,e,ha⟩:=h;exact⟨us,e,ha.mO fun _ _=>C1.ext hE⟩
 |agg cs=>exact C1.ext hE (av:= .agg cs) h
 |fn g cs=>exact C1.ext hE (av:= .fn g cs) h
 | own id=>
   have:=C1.ext hE (av:= .own id) h
   show C2 Y (dZ d (.own id)) u
   have h2:C1 Y (dZ d (.own id)) u:=this
   revert h2
   simp only[dZ]
   cases Nat.beq id d<;>exact fun h=>h
 | dP id s i k=>
   have h2:C1 Y (dZ d (.dP id s i k)) u:=C1.ext hE (av:= .dP id s i k) h
   show C2 Y (dZ d (.dP id s i k)) u
   revert h2
   simp only[dZ]
   cases Nat.beq id d<;>exact fun h=>h
 | jq id s i k=>
   have h2:C1 Y (dZ d (.jq id s i k)) u:=C1.ext hE (av:= .jq id s i k) h
   show C2 Y (dZ d (.jq id s i k)) u
   revert h2
   simp only[dZ]
   cases Nat.beq id d<;>exact fun h=>h
 | box id off=>
   have h2:C1 Y (dZ d (.box id off)) u:=C1.ext hE (av:= .box id off) h
   show C2 Y (dZ d (.box id off)) u
   revert h2
   simp only[dZ]
   cases Nat.beq id d<;>exact fun h=>h
 | cf g id off=>
   have h2:C1 Y (dZ d (.cf g id off)) u:=C1.ext hE (av:= .cf g id off) h
   show C2 Y (dZ d (.cf g id off)) u
   revert h2
   simp only[dZ]
   cases Nat.beq id d<;>exact fun h=>h
 |el cs k=>exact C1.ext hE (av:= .el cs k) h
 |sl s n sc f=>exact C1.ext hE (av:= .sl s n sc f) h
 |v x=>exact h
 |junk=>trivial
theorem C0.same (hk: ∀b,X.keep b→Y.keep b) (hm: ∀b,X.keep b→Y.w.heap[b]? =X.w.heap[b]?) (hρ:Y.ρ=X.ρ) {av:AV} {u:Value} (h:C0 X av u):C0 Y av u:=by
 cases av with
 |own id=>simp only[C0]at h⊢;rw[hρ];exact h
 |dP id s i k=>simp only[C0]at h⊢;rw[hρ];exact h
 |jq id s i k=>simp only[C0]at h⊢;rw[hρ];exact h
 |box id off=>simp only[C0]at h⊢;rw[hρ];exact h
 |cf g id off=>simp only[C0]at h⊢;rw[hρ];exact h
 | el cs k=>
   obtain⟨b,o,us,e,kb,ha,hc⟩:=h
   exact⟨b,o,us,e,hk b kb,ha.imp (fun _ _=>PC.mono hk hm),fun j y hj=>(World.cell?_of_block (hm b kb)).trans (hc j y hj)⟩
 |sl s n sc f=>exact PC.mono hk hm h
 |v x=>exact h
 |junk=>trivial
 |agg cs=>exact h
 |dF cs=>exact h
 |fn g caps=>exact h
theorem C1.same (hk: ∀b,X.keep b→Y.keep b) (hm: ∀b,X.keep b→Y.w.heap[b]? =X.w.heap[b]?) (hρ:Y.ρ=X.ρ) {av:AV} {u:Value} (h:C1 X av u):C1 Y av u:=by
 cases av with
 |agg cs=>obtain⟨us,e,ha⟩:=h;exact⟨us,e,ha.imp fun _ _=>C0.same hk hm hρ⟩
 |fn g cs=>obtain⟨us,e,ha⟩:=h;exact⟨us,e,ha.imp fun _ _=>C0.same hk hm hρ⟩
 |own id=>exact C0.same hk hm hρ (av:= .own id) h
 |dP id s i k=>exact C0.same hk hm hρ (av:= .dP id s i k) h
 |jq id s i k=>exact C0.same hk hm hρ (av:= .jq id s i k) h
 |box id off=>exact C0.same hk hm hρ (av:= .box id off) h
 |cf g id off=>exact C0.same hk hm hρ (av:= .cf g id off) h
 |el cs k=>exact C0.same hk hm hρ (av:= .el cs k) h
 |sl s n sc f=>exact C0.same hk hm hρ (av:= .sl s n sc f) h
 |v x=>exact h
 |junk=>trivial
 |dF cs=>exact h
theorem C2.same (hk: ∀b,X.keep b→Y.keep b) (hm: ∀b,X.keep b→Y.w.heap[b]? =X.w.heap[b]?) (hρ:Y.ρ=X.ρ) {av:AV} {u:Value} (h:C2 X av u):C2 Y av u:=by
 cases av with
 |dF vs=>obtain⟨us,e,ha⟩:=h;exact⟨us,e,ha.imp fun _ _=>C1.same hk hm hρ⟩
 |agg cs=>exact C1.same hk hm hρ (av:= .agg cs) h
 |fn g cs=>exact C1.same hk hm hρ (av:= .fn g cs) h
 |own id=>exact C1.same hk hm hρ (av:= .own id) h
 |dP id s i k=>exact C1.same hk hm hρ (av:= .dP id s i k) h
 |jq id s i k=>exact C1.same hk hm hρ (av:= .jq id s i k) h
 |box id off=>exact C1.same hk hm hρ (av:= .box id off) h
 |cf g id off=>exact C1.same hk hm hρ (av:= .cf g id off) h
 |el cs k=>exact C1.same hk hm hρ (av:= .el cs k) h
 |sl s n sc f=>exact C1.same hk hm hρ (av:= .sl s n sc f) h
 |v x=>exact h
 |junk=>trivial
end
theorem C2.sZ {X:CX} {av:AV} {u:Value} (h:C0 X av u):C2 X av u:=by
 cases av<;>first|exact h|exact h.elim
theorem C2.jP {X:CX} {av:AV} {u:Value} (h:C1 X av u):C2 X av u:=by
 cases av<;>first|exact h|exact(show False from h).elim
theorem C1.sZ {X:CX} {av:AV} {u:Value} (h:C0 X av u):C1 X av u:=by
 cases av<;>first|exact h|exact h.elim
theorem C0.Qq {X:CX} {av:AV} {u:Value} (h:PC X.w X.keep av u):C0 X av u:=by
 cases h with
 |v x h=>rfl
 |sl s n sc f A c us hs hn hc hl hf hsc hu hr=>exact .sl s n sc f A c us hs hn hc hl hf hsc hu hr
def ah (ρ:Nat→Value) (h:List (Nat×AO)):List Nat:=h.flatMap fun p=>blks (ρ p.1)
structure Base where
 w:World
 keep:Nat→Prop
 mu:Nat→Prop
 ds:List Deferred
abbrev gU (w:World) (keep mu:Nat→Prop):Base:=⟨w,keep,mu,[]⟩
abbrev base0 (w:World) (keep:Nat→Prop):Base:=gU w keep fun _=>False
def aK (g:Base) (w:World) (ρ:Nat→Value) (h:List (Nat×AO)) (b:Nat):Prop:=b<w.heap.size∧(b<g.w.heap.size→g.keep b∨g.mu b)∧b ∉ ah ρ h
structure fM (M:Nat→Prop) (B:Nat) (w w':World):Prop where
 os:w'.os=w.os
 tape:w'.tape=w.tape
 output:w'.output=w.output
 size:w.heap.size≤w'.heap.size
 block: ∀k,k<B→ ¬M k→w'.heap[k]? =w.heap[k]?
theorem fM.refl (M:Nat→Prop) (B:Nat) (w:World):fM M B w w:=⟨rfl,rfl,rfl,Nat.le_refl _,fun _ _ _=>rfl⟩
theorem fM.trans {M:Nat→Prop} {B:Nat} {a b c:World} (h:fM M B a b) (k:fM M B b c):fM M B a c:=
 ⟨k.os.trans h.os,k.tape.trans h.tape,k.output.trans h.output,Nat.le_trans h.size k.size,fun i hi hm=>(k.block i hi hm).trans (h.block i hi hm)⟩
theorem fM.of {M:Nat→Prop} {B:Nat} {w w':World} (h:Below B w w'):fM M B w w':=⟨h.os,h.tape,h.output,h.size,fun k hk _=>h.block k hk⟩
theorem fM.less {M:Nat→Prop} {B:Nat} {w w':World} (h:fM M B w w') (hM: ∀k,¬M k):Below B w w':=⟨h.os,h.tape,h.output,h.size,fun k hk=>h.block k hk (hM k)⟩
theorem fM.then {M:Nat→Prop} {B B':Nat} {a b c:World} (h:fM M B a b) (k:Below B' b c) (hB:B≤B'):fM M B a c:=h.trans (.of (k.mono hB))
theorem fM.write {M:Nat→Prop} {B b:Nat} {a w w':World} (h:fM M B a w) (hb:B≤b∨M b) (k:Below b w w') (hm: ∀i,i≠b→w'.heap[i]? =w.heap[i]?):fM M B a w':=
 h.trans ⟨k.os,k.tape,k.output,k.size,fun i hi hM=>hm i (by rintro rfl;rcases hb with hb|hb;omega;exact hM hb)⟩
theorem fM.alloc {M:Nat→Prop} {B:Nat} {a w:World} (h:fM M B a w) (hB:B≤w.heap.size) (o:Obj):fM M B a (w.alloc o):=h.then ((Below.refl _ _).alloc (Nat.le_refl _) o) hB
theorem fM.grown {M:Nat→Prop} {B:Nat} {a w w':World} {row:Option Nat} (h:fM M B a w) (hg:w.grownBy w' row) (hB:B≤w.heap.size) (hr: ∀k,row=some k→B≤k∨M k):fM M B a w':=
 h.trans ⟨hg.os,hg.tape,hg.output,hg.size,fun k hk hM=>hg.block k (by omega) (fun e=>by rcases hr k e.symm with h|h;omega;exact hM h)⟩
def aC (g:Base) (w:World) (ρ:Nat→Value) (h:List (Nat×AO)):CX:=⟨w,aK g w ρ h,ρ⟩
def Nq (ρ:Nat→Value):Nat→Value:=fun i=>eP (ρ i)
def jK (ρ:Nat→Value):List (ByteArray×Option Nat)→List Value→Prop
  |[],vs=>vs=[]
  |(_,o)::l,vs=> ∃v r,vs=v::r∧(∀i,o=some i→v=ρ i)∧jK ρ l r
def lG:List ByteArray→List Value→List (Value×Value)
  |k::l,v::r=>(match v with| .slice none _ _=>lG l r|v=>(.string k,v)::lG l r)
  |_,_=>[]
theorem mG (d:Nat): ∀ks:List (ByteArray×Option Nat),(vJ d ks).map (·.1)=ks.map (·.1)
  |[]=>rfl
  |(k,some i)::l=>by simp[vJ,mG d l]
  |(k,none)::l=>by simp[vJ,mG d l]
theorem jK.imp {ρ ρ':Nat→Value}: ∀ {ks:List (ByteArray×Option Nat)} {vs:List Value},(∀p∈ks,∀i,p.2=some i→ρ' i=ρ i)→jK ρ ks vs→jK ρ' ks vs
  |[],_,_,k=>k
  |(k,o)::l,vs,h,⟨v,r,e,hi,hr⟩=>⟨v,r,e,fun j hj=>by rw[h (k,o) List.mem_cons_self j hj];exact hi j hj,jK.imp (fun p hp=>h p (List.mem_cons_of_mem _ hp)) hr⟩
theorem jK.vK {ρ ρ':Nat→Value} {d:Nat} (h: ∀i,i≠d→ρ' i=ρ i): ∀ {ks:List (ByteArray×Option Nat)} {vs:List Value},jK ρ ks vs→jK ρ' (vJ d ks) vs
  |[],_,k=>k
  | (k,some i)::l,vs,⟨v,r,e,hi,hr⟩=>⟨v,r,e,fun j hj=>by
     by_cases hd:i=d
     · subst hd;simp at hj
     · have:Nat.beq i d=false:=by rw[Bool.eq_false_iff];intro e;exact hd (Nat.eq_of_beq_eq_true e)
       rw[this]at hj
       cases hj
       rw[h _ hd]
       exact hi _ rfl,jK.vK h hr⟩
  |(k,none)::l,vs,⟨v,r,e,_,hr⟩=>⟨v,r,e,fun j hj=>(by cases hj),jK.vK h hr⟩
def oQ (X:CX) (v:Value) (e:TypeId) (s n:Nat) (sc:Bool) (f:Nat→List AV):Prop:=
 ∃us,X.w.ownsRow 0 e s v n us∧0<s∧(∀i,i<n→(f i).length=s)∧(sc=true→ ∀x∈flat n f,∃y,x= .v y)∧aI (PC X.w X.keep) (flat n f) us
def jv (X:CX):List (ByteArray×RW)→List Value→Prop
  |[],vs=>vs=[]
  |(_,r)::l,vs=> ∃v q,vs=v::q∧oQ X v r.e r.s r.n r.sc r.f∧jv X l q
def bn (X:CX) (id:Nat):AO→Prop
  | .box t cs=> ∃b us,X.ρ id= .pointer (some ⟨b,0,none⟩)∧X.w.heap[b]? =some (.cells us.toArray t (0,0))∧aI (C0 X) cs us
  | .row e s n sc f=>oQ X (X.ρ id) e s n sc f
  | .mp _ ks rs=> ∃b es c vs hs,X.ρ id= .tuple (.map (some b):: .map (some b)::hs).toArray∧X.w.heap[b]? =some (.map es c)∧jK (Nq X.ρ) ks vs∧jv X rs hs∧(es.toList.map fun e=>(e.key,e.val)).Perm (lG (ks.map (·.1)++rs.map (·.1)) (vs++hs))∧(ks.map (·.1)++rs.map (·.1)).Nodup∧MapKept.Stamped es c
  | .obs o=> ∃us,X.ρ id= .tuple us∧o.R X.w X.keep (X.ρ id)
  | .rn e cs=> ∃us,(X.w.ownsRow 0 e 1 (X.ρ id) cs.length us∧ ∀u∈us,u.oneCell'=true)∧aI (C0 X) cs us
def lZ (X:CX):List (List (Nat×AV))→List (Array Value)→Prop
  |[],[]=>True
  |f::fs,b::bs=>(∀t,C2 X (qW f t) (b.getD t undef))∧lZ X fs bs
  |_,_=>False
theorem lZ.map {X Y:CX} {m:AV→AV} (hm:m .junk= .junk) (h: ∀x u,C2 X x u→C2 Y (m x) u): ∀ {fs:List (List (Nat×AV))} {bs:List (Array Value)},lZ X fs bs→lZ Y (fs.map (Ad m)) bs
  |[],[],_=>trivial
  |_::_,_::_,k=>⟨fun t=>by rw[qA hm];exact h _ _ (k.1 t),lZ.map hm h k.2⟩
  |[],_::_,k=>k.elim
  |_::_,[],k=>k.elim
theorem lZ.imp {X Y:CX} (h: ∀x u,C2 X x u→C2 Y x u): ∀ {fs:List (List (Nat×AV))} {bs:List (Array Value)},lZ X fs bs→lZ Y fs bs
  |[],[],_=>trivial
  |_::_,_::_,k=>⟨fun t=>h _ _ (k.1 t),lZ.imp h k.2⟩
  |[],_::_,k=>k.elim
  |_::_,[],k=>k.elim
structure Rel (g:Base) (N:Nat) (bs:List (Array Value)) (ρ:Nat→Value) (a:Act) (w:World) (st:AS):Prop where
 size:a.tmps.size=N
 defers:a.defers=g.ds
 below:fM g.mu g.w.heap.size g.w w
 tmps: ∀t,C2 (aC g w ρ st.heap) (st.tmps t) (a.tmps.getD t undef)
 objs: ∀p∈st.heap,bn (aC g w ρ st.heap) p.1 p.2
 apart:(ah ρ st.heap).Nodup
 own: ∀b,b∈ah ρ st.heap→g.w.heap.size≤b∨g.mu b
 back:lZ (aC g w ρ st.heap) st.back bs
end
section
open Go.RowKit
def upd (d:Nat) (x:AV) (f:Nat→AV):Nat→AV:=fun t=>bif Nat.beq t d then x else f t
def AS.put (st:AS) (d:Nat) (x:AV):AS:=⟨(d,x)::st.sl,st.heap,st.back,st.base⟩
def gone (d j:Nat) (h:List (Nat×AO)):List (Nat×AO):=h.filter fun p=> !(Nat.beq p.1 d||Nat.beq p.1 j)
def nX (d:Nat) (h:List (Nat×AO)):List (Nat×AO):=h.map fun p=>(p.1,p.2.vK d)
def AS.obj (st:AS) (d j:Nat) (o:AO):AS:=⟨Ad (sD d) st.sl,(d,o.vK d)::nX d (gone d j st.heap),st.back.map (Ad (sD d)),Nat.add d 1⟩
def dD (ρ:Nat→Value) (d:Nat) (u:Value):Nat→Value:=fun i=>if i=d then u else ρ i
theorem aQ {ρ:Nat→Value} {h:List (Nat×AO)} {b:Nat}:b∈ah ρ h↔ ∃p∈h,b∈blks (ρ p.1):=by simp[ah]
theorem aX (ρ:Nat→Value) (p:Nat×AO) (h:List (Nat×AO)):ah ρ (p::h)=blks (ρ p.1)++ah ρ h:=rfl
theorem jS {ρ:Nat→Value}: ∀ {h:List (Nat×AO)},(ah ρ h).Nodup→ ∀ {p:Nat×AO},p∈h→(blks (ρ p.1)).Nodup
  |[],_,p,hp=>by cases hp
  | q::h,hn,p,hp=>by
    rw[aX,List.nodup_append]at hn
    rcases List.mem_cons.1 hp with rfl|hp
    · exact hn.1
    · exact jS hn.2.1 hp
theorem Fb {X:CX}: ∀ {rs:List (ByteArray×RW)} {hs:List Value},jv X rs hs→ ∀b∈hs.flatMap jm,b<X.w.heap.size
  |[],_,h,b,hb=>by rw[show _=[]from h]at hb;cases hb
  | (_,r)::l,_,⟨v,q,e,⟨us,hown,_⟩,hq⟩,b,hb=>by
    subst e
    rw[List.flatMap_cons]at hb
    rcases List.mem_append.1 hb with hb|hb
    · rcases hown.2 with⟨rfl,_⟩|⟨g,cap,cur,rfl,hg,hh,r⟩
      · cases hb
      · rw[List.mem_singleton.1 hb];exact(Array.getElem?_eq_some_iff.1 hh).1
    · exact Fb hq b hb
theorem zh {ρ:Nat→Value} {p:Nat×AO} {h:List (Nat×AO)} (hn:(ah ρ (p::h)).Nodup):(ah ρ h).Nodup:=by
 rw[aX]at hn
 exact(List.nodup_append.1 hn).2.1
theorem gY {ρ:Nat→Value} {q:Nat×AO→Bool} {h:List (Nat×AO)} {b:Nat} (hb:b∈ah ρ (h.filter q)):b∈ah ρ h:=by
 rw[aQ]at hb⊢
 obtain⟨p,hp,e⟩:=hb
 exact⟨p,(List.mem_filter.1 hp).1,e⟩
theorem pO {ρ:Nat→Value} {q:Nat×AO→Bool}: ∀ {h:List (Nat×AO)},(ah ρ h).Nodup→(ah ρ (h.filter q)).Nodup
  |[],_=>by simp[ah]
  | p ::h,hn=>by
    have ih:=pO (q:=q) (zh hn)
    rw[List.filter_cons]
    split
    · rw[aX]at hn⊢
      rw[List.nodup_append]at hn⊢
      exact⟨hn.1,ih,fun x hx y hy=>hn.2.2 x hx y (gY hy)⟩
    · exact ih
theorem fG {ρ:Nat→Value} {b:Nat}: ∀ {h:List (Nat×AO)},(ah ρ h).Nodup→ ∀p∈h,∀q∈h,b∈blks (ρ p.1)→b∈blks (ρ q.1)→p.1=q.1
  |[],_,p,hp,_,_,_,_=>by cases hp
  | r ::h,hn,p,hp,q,hq,e1,e2=>by
    have ht:=zh hn
    rw[aX,List.nodup_append]at hn
    rcases List.mem_cons.1 hp with rfl|hp'
    · rcases List.mem_cons.1 hq with rfl|hq'
      · rfl
      · exact absurd rfl (hn.2.2 b e1 b (aQ.2 ⟨q,hq',e2⟩))
    · rcases List.mem_cons.1 hq with rfl|hq'
      · exact absurd rfl (hn.2.2 b e2 b (aQ.2 ⟨p,hp',e1⟩))
      · exact fG ht p hp' q hq' e1 e2
theorem mW (ρ:Nat→Value) (d:Nat) (h:List (Nat×AO)):ah ρ (nX d h)=ah ρ h:=by
 simp[ah,nX,List.flatMap_map]
theorem vM {ρ:Nat→Value} {d:Nat} {u:Value} {h:List (Nat×AO)} (hd: ∀p∈h,p.1≠d):ah (dD ρ d u) h=ah ρ h:=by
 induction h with
 |nil=>rfl
 | cons p h ih=>
   rw[aX,aX,ih (fun q hq=>hd q (by simp[hq]))]
   simp[dD,hd p (by simp)]
theorem yP {w w':World} {B:Nat} {e:TypeId} {s n:Nat} {v:Value} {us:List Value} (h:w.ownsRow B e s v n us) (hm: ∀b∈blks v,w'.heap[b]? =w.heap[b]?):w'.ownsRow B e s v n us:=by
 refine⟨h.1, ?_⟩
 rcases h.2 with hn|⟨g,cap,cur,rfl,hg,hh,r⟩
 · exact .inl hn
 · exact .inr ⟨g,cap,cur,rfl,hg,(hm g List.mem_cons_self).trans hh,r⟩
theorem gu {w:World} {B:Nat} {e:TypeId} {s n:Nat} {v:Value} {us:List Value} (h:w.ownsRow B e s v n us):eP v=v:=by
 rcases h.2 with⟨rfl,_⟩|⟨g,cap,cur,rfl,_⟩<;>rfl
theorem Xp {w:World} {B:Nat} {e:TypeId} {s n:Nat} {v:Value} {us:List Value} (h:w.ownsRow B e s v n us):blks v=v.ownBlock.toList:=by
 rcases h.2 with⟨rfl,_⟩|⟨g,cap,cur,rfl,_⟩<;>rfl
theorem Fe {w:World} {B:Nat} {e:TypeId} {s n:Nat} {v:Value} {us:List Value} (h:w.ownsRow B e s v n us):jm v=blks v:=by
 rcases h.2 with⟨rfl,_⟩|⟨g,cap,cur,rfl,_⟩<;>rfl
theorem Af {X:CX} {id:Nat} {e:TypeId} {s n:Nat} {sc:Bool} {f:Nat→List AV} (h:bn X id (.row e s n sc f)):eP (X.ρ id)=X.ρ id:=by
 obtain⟨us,hown,_⟩:=h
 exact gu hown
theorem nY {w:World} {B:Nat} {e:TypeId} {s n:Nat} {v:Value} {us:List Value} (h:w.ownsRow B e s v n us):(blks v).Nodup:=by
 rcases h.2 with⟨rfl,_⟩|⟨g,cap,cur,rfl,_⟩<;>simp[blks,jm]
theorem oQ.mono {X Y:CX} {v:Value} {e:TypeId} {s n:Nat} {sc:Bool} {f:Nat→List AV} (hk: ∀b,X.keep b→Y.keep b) (hmk: ∀b,X.keep b→Y.w.heap[b]? =X.w.heap[b]?) (hm: ∀b∈blks v,Y.w.heap[b]? =X.w.heap[b]?) (h:oQ X v e s n sc f):oQ Y v e s n sc f:=by
 obtain⟨us,ho,hs,hf,hsc,ha⟩:=h
 exact⟨us,yP ho hm,hs,hf,hsc,ha.imp fun _ _=>PC.mono hk hmk⟩
theorem jv.mono {X Y:CX} (hk: ∀b,X.keep b→Y.keep b) (hmk: ∀b,X.keep b→Y.w.heap[b]? =X.w.heap[b]?): ∀ {rs:List (ByteArray×RW)} {hs:List Value},(∀b∈hs.flatMap jm,Y.w.heap[b]? =X.w.heap[b]?)→jv X rs hs→jv Y rs hs
  |[],_,_,h=>h
  | (_,r)::l,_,hm,⟨v,q,e,hr,hq⟩=>by
    subst e
    rw[List.flatMap_cons]at hm
    have hb:jm v=blks v:=by obtain⟨us,ho,_⟩:=hr;exact Fe ho
    exact⟨v,q,rfl,hr.mono hk hmk (fun b hb'=>hm b (List.mem_append_left _ (by rw[hb];exact hb'))),jv.mono hk hmk (fun b hb'=>hm b (List.mem_append_right _ hb')) hq⟩
theorem bn.move {X Y:CX} {id id':Nat} {o o':AO} (hk: ∀b,X.keep b→Y.keep b) (hmk: ∀b,X.keep b→Y.w.heap[b]? =X.w.heap[b]?) (hid:Y.ρ id'=X.ρ id) (hm: ∀b∈blks (X.ρ id),Y.w.heap[b]? =X.w.heap[b]?)
  (ho:match o,o' with| .box t cs,.box t' cs'=>t'=t∧ ∀us,aI (C0 X) cs us→aI (C0 Y) cs' us| .row e s n sc f,o'=>o'= .row e s n sc f| .mp t ks rs,.mp t' ks' rs'=>t'=t∧rs'=rs∧ks'.map (·.1)=ks.map (·.1)∧ ∀vs,jK (Nq X.ρ) ks vs→jK (Nq Y.ρ) ks' vs| .obs o,o'=>o'= .obs o| .rn e cs,.rn e' cs'=>e'=e∧cs'.length=cs.length∧ ∀us,aI (C0 X) cs us→aI (C0 Y) cs' us|_,_=>False)
  (h:bn X id o):bn Y id' o':=by
 cases o with
 | box t cs=>
   cases o' with
   | box t' cs'=>
     obtain⟨rfl,ho⟩:=ho
     obtain⟨b,us,e,hh,ha⟩:=h
     exact⟨b,us,by rw[hid];exact e,(hm b (by rw[e];exact List.mem_cons_self)).trans hh,ho us ha⟩
   |row=>exact ho.elim
   |mp=>exact ho.elim
   |obs=>exact ho.elim
   |rn=>exact ho.elim
 | row e s n sc f=>
   have ho:o'=_:=ho
   subst ho
   show oQ Y (Y.ρ id') e s n sc f
   rw[hid]
   exact oQ.mono hk hmk hm h
 | mp t ks rs=>
   cases o' with
   | mp t' ks' rs'=>
     obtain⟨rfl,rfl,hkk,ho⟩:=ho
     obtain⟨b,es,c,vs,hs,e,hh,hi,hr,hp,hn⟩:=h
     rw[e]at hm
     exact⟨b,es,c,vs,hs,by rw[hid];exact e,(hm b List.mem_cons_self).trans hh,ho vs hi,hr.mono hk hmk (fun b hb=>hm b (List.mem_cons_of_mem _ hb)),by rw[hkk];exact hp,by rw[hkk];exact hn.1,hn.2⟩
   |row=>exact ho.elim
   |box=>exact ho.elim
   |obs=>exact ho.elim
   |rn=>exact ho.elim
 | obs o=>
   have ho:o'=_:=ho
   subst ho
   obtain⟨us,e,hr⟩:=h
   exact⟨us,by rw[hid];exact e,by rw[hid];exact o.mono hk hmk hm hr⟩
 | rn e cs=>
   cases o' with
   | rn e' cs'=>
     obtain⟨rfl,hlen,ho⟩:=ho
     obtain⟨us,⟨hown,hone⟩,ha⟩:=h
     exact⟨us,⟨by rw[hid,hlen];exact yP hown hm,hone⟩,ho us ha⟩
   |row=>exact ho.elim
   |mp=>exact ho.elim
   |obs=>exact ho.elim
   |box=>exact ho.elim
theorem bn.same {X Y:CX} {id:Nat} {o:AO} (hk: ∀b,X.keep b→Y.keep b) (hmk: ∀b,X.keep b→Y.w.heap[b]? =X.w.heap[b]?) (hρ:Y.ρ=X.ρ) (hm: ∀b∈blks (X.ρ id),Y.w.heap[b]? =X.w.heap[b]?) (h:bn X id o):bn Y id o:=by
 refine bn.move hk hmk (by rw[hρ]) hm ?_ h
 cases o with
 |box t cs=>exact⟨rfl,fun us ha=>ha.imp fun _ _=>C0.same hk hmk hρ⟩
 |row=>rfl
 |mp t ks rs=>exact⟨rfl,rfl,rfl,fun vs hv=>by rw[hρ];exact hv⟩
 |obs o=>rfl
 |rn e cs=>exact⟨rfl,rfl,fun us ha=>ha.imp fun _ _=>C0.same hk hmk hρ⟩
theorem bn.lt {X:CX} {id:Nat} {o:AO} (h:bn X id o): ∀b∈blks (X.ρ id),b<X.w.heap.size:=by
 cases o with
 | box t cs=>
   obtain⟨b,us,e,hh,ha⟩:=h
   intro c hc
   rw[e]at hc
   rw[List.mem_singleton.1 hc]
   exact(Array.getElem?_eq_some_iff.1 hh).1
 | row e s n sc f=>
   obtain⟨us,hown,_⟩:=h
   intro c hc
   rcases hown.2 with⟨hv,_⟩|⟨g,cap,cur,hv,hg,hh,r⟩
   · rw[hv]at hc;cases hc
   · rw[hv]at hc;rw[List.mem_singleton.1 hc];exact(Array.getElem?_eq_some_iff.1 hh).1
 | mp t ks rs=>
   obtain⟨b,es,c,vs,hs,e,hh,hi,hr,hp,hn⟩:=h
   intro q hq
   rw[e]at hq
   have hq:q∈b::hs.flatMap jm:=hq
   rcases List.mem_cons.1 hq with rfl|hq
   · exact(Array.getElem?_eq_some_iff.1 hh).1
   · exact Fb hr q hq
 | obs o=>
   obtain⟨us,e,hr⟩:=h
   exact(o.lt hr).1
 | rn e cs=>
   obtain⟨us,⟨hown,_⟩,_⟩:=h
   intro c hc
   rcases hown.2 with⟨hv,_⟩|⟨g,cap,cur,hv,hg,hh,r⟩
   · rw[hv]at hc;cases hc
   · rw[hv]at hc;rw[List.mem_singleton.1 hc];exact(Array.getElem?_eq_some_iff.1 hh).1
theorem bn.ext {X Y:CX} {d id:Nat} {o:AO} (hE:Ext d X Y) (hid:Y.ρ id=X.ρ id) (hm: ∀b∈blks (X.ρ id),Y.w.heap[b]? =X.w.heap[b]?) (h:bn X id o):bn Y id (o.vK d):=by
 refine bn.move hE.keep hE.mem hid hm ?_ h
 cases o with
 |box t cs=>exact⟨rfl,fun us ha=>ha.mO fun _ _=>C0.ext hE⟩
 |row=>rfl
 |mp t ks rs=>exact⟨rfl,rfl,mG d ks,fun vs hv=>hv.vK fun i hi=>(hE.ρ i hi).hd⟩
 |obs o=>rfl
 |rn e cs=>exact⟨rfl,by simp,fun us ha=>ha.mO fun _ _=>C0.ext hE⟩
theorem tq {d j:Nat} {h:List (Nat×AO)} {p:Nat×AO}:p∈gone d j h↔p∈h∧p.1≠d∧p.1≠j:=by
 unfold gone
 rw[List.mem_filter]
 constructor
 · rintro⟨h1,h2⟩
   refine⟨h1, ?_, ?_⟩<;>(intro e;simp[e]at h2)
 · rintro⟨h1,h2,h3⟩
   exact⟨h1,by simp[beq_false h2,beq_false h3]⟩
section
variable {g:Base} {N:Nat} {bs:List (Array Value)} {ρ:Nat→Value} {a:Act} {w:World} {st:AS}
theorem Rel.put (R:Rel g N bs ρ a w st) {d:Nat} {x:AV} {u:Value} (hd:d<N) (h:C2 (aC g w ρ st.heap) x u):Rel g N bs ρ (a.put (some d) u) w (st.put d x):=by
 refine⟨?_,R.defers,R.below,fun t=> ?_,R.objs,R.apart,R.own,R.back⟩
 · simpa[Act.put]using R.size
 · show C2 _ (upd d x st.tmps t) ((a.tmps.setIfInBounds d u).getD t undef)
   by_cases e:t=d
   · subst e
     have hd':t<a.tmps.size:=by rw[R.size];exact hd
     have e1:(a.tmps.setIfInBounds t u).getD t undef=u:=by simp[hd']
     rw[e1]
     simp only[upd,Nat.beq_refl,cond_true]
     exact h
   · have e1:(a.tmps.setIfInBounds d u).getD t undef=a.tmps.getD t undef:=by
      simp[Ne.symm e]
     rw[e1]
     simp only[upd,beq_false e,cond_false]
     exact R.tmps t
theorem Rel.world (R:Rel g N bs ρ a w st) {w':World} (hb:Below w.heap.size w w'):Rel g N bs ρ a w' st:=by
 have hk: ∀b,aK g w ρ st.heap b→aK g w' ρ st.heap b:=fun b h=>⟨Nat.lt_of_lt_of_le h.1 hb.size,h.2⟩
 have hm: ∀b,aK g w ρ st.heap b→w'.heap[b]? =w.heap[b]? :=fun b h=>hb.block b h.1
 refine⟨R.size,R.defers,R.below.then hb R.below.size,fun t=>C2.same (X:=aC g w ρ st.heap) (Y:=aC g w' ρ st.heap) hk hm rfl (R.tmps t),fun p hp=> ?_,R.apart,R.own,R.back.imp fun _ _=>C2.same (X:=aC g w ρ st.heap) (Y:=aC g w' ρ st.heap) hk hm rfl⟩
 have ho:=R.objs p hp
 exact bn.same (X:=aC g w ρ st.heap) (Y:=aC g w' ρ st.heap) hk hm rfl (fun b hb'=>hb.block b (ho.lt b hb')) ho
theorem Rel.gI (R:Rel g N bs ρ a w st) {b:Nat} (h:b∈ah ρ st.heap):b<w.heap.size∧(g.w.heap.size≤b∨g.mu b):=by
 refine⟨?_,R.own b h⟩
 obtain⟨p,hp,e⟩:=aQ.1 h
 exact(R.objs p hp).lt b e
theorem Rel.obj (R:Rel g N bs ρ a w st) (d j:Nat) {w':World} {nv:Value} {o:AO} (hb:fM g.mu g.w.heap.size g.w w') (hsz:w.heap.size≤w'.heap.size)
  (hmem: ∀b,b<w.heap.size→(∀p∈st.heap,p.1=j→ ¬b∈blks (ρ j))→w'.heap[b]? =w.heap[b]?)
  (hnv: ∀b∈blks nv,w.heap.size≤b∨ ∃p∈st.heap,p.1=j∧b∈blks (ρ j))
  (lK:Ext d (aC g w ρ st.heap) (aC g w' (dD ρ d nv) (st.obj d j o).heap)→bn (aC g w' (dD ρ d nv) (st.obj d j o).heap) d (o.vK d)) (hnd:(blks nv).Nodup:=by simp[blks,jm]):
  Rel g N bs (dD ρ d nv) a w' (st.obj d j o):=by
 have hgd: ∀p∈gone d j st.heap,p.1≠d:=fun p hp=>(tq.1 hp).2.1
 have hgs: ∀p∈nX d (gone d j st.heap),p.1≠d:=by
  intro p hp
  simp only[nX,List.mem_map]at hp
  obtain⟨q,hq,rfl⟩:=hp
  exact hgd q hq
 have hblocks:ah (dD ρ d nv) (st.obj d j o).heap=blks nv++ah ρ (gone d j st.heap):=by
  show ah _ (_::_)=_
  rw[aX,vM hgs,mW]
  simp[dD]
 have hsub: ∀b,b∈ah ρ (gone d j st.heap)→b∈ah ρ st.heap:=fun b h=>gY h
 have adH: ∀b,b∈ah ρ (gone d j st.heap)→ ∀p∈st.heap,p.1=j→ ¬b∈blks (ρ j):=by
  intro b hb p hp hpj e
  obtain⟨q,hq,hqe⟩:=aQ.1 hb
  have:=fG R.apart q (tq.1 hq).1 p hp hqe (by rw[hpj];exact e)
  exact(tq.1 hq).2.2 (this.trans hpj)
 have hE:Ext d (aC g w ρ st.heap) (aC g w' (dD ρ d nv) (st.obj d j o).heap):=by
  refine⟨fun b hk=>⟨Nat.lt_of_lt_of_le hk.1 hsz,hk.2.1, ?_⟩,fun b hk=>hmem b hk.1 fun p hp hpj e=>hk.2.2 (aQ.2 ⟨p,hp,by rw[hpj];exact e⟩),fun i hi=> .inl (by simp[aC,dD,hi])⟩
  rw[hblocks,List.mem_append]
  rintro(h|h)
  · rcases hnv b h with hge|⟨p,hp,hpj,e⟩
    · exact absurd hk.1 (by omega)
    · exact hk.2.2 (aQ.2 ⟨p,hp,by rw[hpj];exact e⟩)
  · exact hk.2.2 (hsub b h)
 refine⟨R.size,R.defers,hb,fun t=>by rw[show(st.obj d j o).tmps t=sD d (st.tmps t)from qA rfl st.sl t];exact C2.ext hE (R.tmps t), ?_, ?_, ?_,R.back.map rfl fun _ _=>C2.ext hE⟩
 · intro p hp
   rcases List.mem_cons.1 hp with rfl|hp'
   · exact lK hE
   · simp only[nX,List.mem_map]at hp'
     obtain⟨q,hq,rfl⟩:=hp'
     have hq':=tq.1 hq
     refine bn.ext hE (by simp[aC,dD,hq'.2.1]) (fun b hb=> ?_) (R.objs q hq'.1)
     have hm:b∈ah ρ (gone d j st.heap):=aQ.2 ⟨q,hq,hb⟩
     exact hmem b (R.gI (hsub b hm)).1 (adH b hm)
 · rw[hblocks,List.nodup_append]
   refine⟨hnd,pO R.apart, ?_⟩
   · intro x hx y hy e
     subst e
     rcases hnv x hx with hge|⟨p,hp,hpj,e⟩
     · exact absurd (R.gI (hsub x hy)).1 (by omega)
     · exact adH x hy p hp hpj e
 · intro x hx
   rw[hblocks,List.mem_append]at hx
   rcases hx with hx|hx
   · rcases hnv x hx with hge|⟨p,hp,hpj,e⟩
     · exact .inl (Nat.le_trans R.below.size hge)
     · exact R.own x (aQ.2 ⟨p,hp,by rw[hpj];exact e⟩)
   · exact R.own x (hsub x hx)
def setObj (id:Nat) (o:AO):List (Nat×AO)→List (Nat×AO)
  |[]=>[]
  |p::h=>bif Nat.beq p.1 id then(p.1,o)::h else p::setObj id o h
def aP (id:Nat):List (Nat×AO)→Option AO
  |[]=>none
  |p::h=>bif Nat.beq p.1 id then some p.2 else aP id h
theorem ay {id:Nat} {o:AO}: ∀ {h:List (Nat×AO)},aP id h=some o→(id,o)∈h
  |[],e=>by cases e
  | p ::h,e=>by
    simp only[aP]at e
    cases hb:Nat.beq p.1 id with
    | true=>
      rw[hb]at e
      simp only[cond_true,Option.some.injEq]at e
      have:=Nat.eq_of_beq_eq_true hb
      rw[←this,←e]
      exact List.mem_cons_self
    | false=>
      rw[hb]at e
      exact List.mem_cons_of_mem _ (ay e)
theorem jE (ρ:Nat→Value) (id:Nat) (o:AO): ∀h,ah ρ (setObj id o h)=ah ρ h
  |[]=>rfl
  | p::h=>by
    simp only[setObj]
    cases Nat.beq p.1 id with
    |true=>simp only[cond_true];rw[aX,aX]
    |false=>simp only[cond_false];rw[aX,aX,jE ρ id o h]
theorem uq {id:Nat} {o:AO} {p:Nat×AO}: ∀ {h:List (Nat×AO)},p∈setObj id o h→p=(id,o)∨p∈h
  |[],hp=>by cases hp
  | q ::h,hp=>by
    simp only[setObj]at hp
    cases hb:Nat.beq q.1 id with
    | true=>
      rw[hb]at hp
      rcases List.mem_cons.1 hp with rfl|hp'
      · left;rw[Nat.eq_of_beq_eq_true hb]
      · right;exact List.mem_cons_of_mem _ hp'
    | false=>
      rw[hb]at hp
      rcases List.mem_cons.1 hp with rfl|hp'
      · right;exact List.mem_cons_self
      · rcases uq hp' with h'|h'
        · exact .inl h'
        · exact .inr (List.mem_cons_of_mem _ h')
theorem Rel.write (R:Rel g N bs ρ a w st) {id b:Nat} {w':World} {o o':AO} (hf:aP id st.heap=some o) (hbk:b∈blks (ρ id)) (hb:Below b w w') (hsz:w'.heap.size=w.heap.size)
  (hmem: ∀k,k≠b→w'.heap[k]? =w.heap[k]?) (lK:(∀k,aK g w ρ st.heap k→aK g w' ρ (setObj id o' st.heap) k)→(∀k,aK g w ρ st.heap k→w'.heap[k]? =w.heap[k]?)→bn (aC g w' ρ (setObj id o' st.heap)) id o'):
  Rel g N bs ρ a w' ⟨st.sl,setObj id o' st.heap,st.back,st.base⟩:=by
 have hin:b∈ah ρ st.heap:=aQ.2 ⟨_,ay hf,hbk⟩
 have hlt:=R.gI hin
 have hk: ∀k,aK g w ρ st.heap k→aK g w' ρ (setObj id o' st.heap) k:=fun k h=>⟨by rw[hsz];exact h.1,h.2.1,by rw[jE];exact h.2.2⟩
 have hm: ∀k,aK g w ρ st.heap k→w'.heap[k]? =w.heap[k]? :=fun k h=>hmem k fun e=>h.2.2 (by rw[e];exact hin)
 refine⟨R.size,R.defers,R.below.write hlt.2 hb hmem,fun t=>C2.same (X:=aC g w ρ st.heap) (Y:=aC g w' ρ (setObj id o' st.heap)) hk hm rfl (R.tmps t),fun p hp=> ?_,by rw[jE];exact R.apart,by rw[jE];exact R.own,R.back.imp fun _ _=>C2.same (X:=aC g w ρ st.heap) (Y:=aC g w' ρ (setObj id o' st.heap)) hk hm rfl⟩
 by_cases Qr:p.1=id
 · rcases uq hp with rfl|hp'
   · exact lK hk hm
   · rw[Qr,←Em R hf hbk hp Qr]
     exact lK hk hm
 · rcases uq hp with rfl|hp'
   · exact absurd rfl Qr
   · have ho:=R.objs p hp'
     have hne: ∀k∈blks (ρ p.1),k≠b:=by
      intro k hk' e
      subst e
      exact Qr (fG R.apart p hp' _ (ay hf) hk' hbk)
     exact bn.same (X:=aC g w ρ st.heap) (Y:=aC g w' ρ (setObj id o' st.heap)) hk hm rfl (fun k hk'=>hmem k (hne k hk')) ho
where
 Em {id b:Nat} {o o':AO} {p:Nat×AO} (R:Rel g N bs ρ a w st) (hf:aP id st.heap=some o) (hbk:b∈blks (ρ id)) (hp:p∈setObj id o' st.heap) (Qr:p.1=id):o'=p.2:=by
  have key: ∀h:List (Nat×AO),(ah ρ h).Nodup→p∈setObj id o' h→aP id h=some o→o'=p.2:=by
   intro h
   induction h with
   |nil=>intro _ hp;cases hp
   | cons q h ih=>
     intro hn hp hfq
     simp only[setObj]at hp
     simp only[aP]at hfq
     cases hb:Nat.beq q.1 id with
     | true=>
       rw[hb]at hp
       rcases List.mem_cons.1 hp with rfl|hp'
       · rfl
       · have hq:=Nat.eq_of_beq_eq_true hb
         rw[aX,List.nodup_append]at hn
         exact absurd rfl (hn.2.2 b (by rw[hq];exact hbk) b (aQ.2 ⟨p,hp',by rw[Qr];exact hbk⟩))
     | false=>
       rw[hb]at hp hfq
       rcases List.mem_cons.1 hp with rfl|hp'
       · rw[Qr]at hb;simp at hb
       · exact ih (zh hn) hp' hfq
  exact key st.heap R.apart hp hf
end
end
section
open Go.RowKit
inductive TK:Type where
  |bool|str|int (k:IntKind)|ptr (e:TypeId)|slice (e:TypeId)|array (n:Nat) (e:TypeId)|struct (fs:List (Nat×TypeId))|map (k e:TypeId)|other
structure TI where
 size:Nat
 bytes:Nat
 zero:List Value
 kind:TK
def kindOf:TypeDesc→TK
  | .bool=> .bool
  | .int k=> .int k
  | .string=> .str
  | .pointer e=> .ptr e
  | .slice e=> .slice e
  | .array n e=> .array n e
  | .struct fs=> .struct (fs.toList.map fun f=>(f.offset,f.type))
  | .map k e=> .map k e
  |_=> .other
def TI.isAgg (i:TI):Bool:=match i.kind with| .array _ _=>true| .struct _=>true|_=>false
def Qs (P:Program) (t:TypeId):Option TI:=
 match P.info? t,P.underlying t with
 |some i,some d=>i.zero.map fun z=>⟨i.size,i.bytes,z.cells.toList,kindOf d⟩
 |_,_=>none
abbrev Lay:=List (TypeId×TI)
def aZ:Lay→TypeId→Option TI
  |[],_=>none
  |p::l,t=>bif Nat.beq p.1 t then some p.2 else aZ l t
def bQ (P:Program) (L:Lay):Prop:= ∀t i,aZ L t=some i→Qs P t=some i
theorem Xq {P:Program} {L:Lay} (h:(L.map fun p=>Qs P p.1)=(L.map fun p=>some p.2)):bQ P L:=by
 induction L with
 |nil=>intro t i e;cases e
 | cons p L ih=>
   intro t i e
   simp only[List.map_cons,List.cons.injEq]at h
   simp only[aZ]at e
   cases hb:Nat.beq p.1 t with
   | true=>
     rw[hb]at e
     simp only[cond_true,Option.some.injEq]at e
     rw[←Nat.eq_of_beq_eq_true hb,←e]
     exact h.1
   | false=>
     rw[hb]at e
     exact ih h.2 t i e
inductive UW (p A:Prop):Prop where
  |mk:p→A→UW p A
inductive uZ (p A B:Prop):Prop where
  |mk:(p→A)→(¬p→B)→uZ p A B
theorem uZ.yes {p A B:Prop} (h:p) (a:A):uZ p A B:=⟨fun _=>a,fun n=>absurd h n⟩
theorem uZ.no {p A B:Prop} (h: ¬p) (b:B):uZ p A B:=⟨fun y=>absurd y h,fun _=>b⟩
theorem chk {b:Bool} {A:Prop} (h:b=true) (a:A):(bif b then A else False):=by rw[h];exact a
inductive Wr (n:Int) (K:Int→Prop):IntKind→Prop where
  |i64: -9223372036854775808≤n→n≤9223372036854775807→K n→Wr n K .i64
  |u64:0≤n→n≤18446744073709551615→K n→Wr n K .u64
  |u32:0≤n→n≤4294967295→K n→Wr n K .u32
  |u8:0≤n→n≤255→K n→Wr n K .u8
  |raw (k:IntKind):K (k.wrap n)→Wr n K k
def adI:Value→AV
  | .agg cs=> .agg (cs.toList.map .v)
  |x=> .v x
def AS.ev (st:AS):Operand→AV
  | .tmp t=>st.tmps t
  | .const x=>adI x
  | .func g=> .fn g []
  | .global _=> .junk
def adJ (g:FuncId) (c:AV):Option (List AV):=match c with
  | .box id off=>bif Nat.blt g million then some [.cf g id off]else none
  |_=>none
def AV.cells? :AV→Option (List AV)
  | .agg cs=>some cs
  | .dF _=>none
  | .fn g caps=>(match caps with|[]=>some [.v (.func (.func g) #[] #[])]|c::r=>(match r with|[]=>adJ g c|_::_=>none))
  |x=>some [x]
def Xr (y:Value):AV:=match y with
  | .func (.func g) fs us=>bif fs.toList.isEmpty&&us.toList.isEmpty then .fn g []else .v (.func (.func g) fs us)
  |y=> .v y
def AV.Xt (x:AV):AV:=match x with
  | .v y=>Xr y
  | .cf g id off=>bif Nat.blt g million then .fn g [.box id off]else .cf g id off
  |x=>x
theorem Ag {X:CX} {x:AV} {u:Value} (h:C2 X x u):C2 X x.Xt u:=by
 cases x with
 | v y =>
   show C2 X (Xr y) u
   unfold Xr
   split
   · rename_i g fs us
     cases hb:fs.toList.isEmpty&&us.toList.isEmpty with
     |false=>exact h
     | true=>
       have hb:=Bool.and_eq_true_iff.1 hb
       have h1:fs= #[]:=by simpa using hb.1
       have h2:us= #[]:=by simpa using hb.2
       subst h1 h2
       have h:u= .func (.func g) #[] #[]:=h
       exact⟨[],h,rfl,fun i x u hx=>by simp at hx⟩
   · exact h
 | cf g id off=>
   show C2 X (bif Nat.blt g million then .fn g [.box id off]else .cf g id off) u
   cases hb:Nat.blt g million with
   | true=>
     obtain⟨b,h1,rfl⟩:=h
     exact⟨[.pointer (some ⟨b,off,none⟩)],by unfold cfV;rw[hb];rfl,aI.cons ⟨b,h1,rfl⟩ aI.nil⟩
   |false=>exact h
 |_=>exact h
def vG (h:List (Nat×AO)):AV→Bool
  | .v x=>x.oneCell'
  | .sl .. =>true
  | .own id=>match aP id h with|some (.row ..)=>true|some (.mp ..)=>true|some (.obs _)=>true|some (.rn ..)=>true|_=>false
  | .dP .. =>true
  | .jq .. =>true
  | .box .. =>true
  | .cf .. =>true
  | .el .. =>true
  |_=>false
def DR:AV→Bool
  | .v x=>x.oneCell'
  | .sl .. =>true
  |_=>false
def isV:AV→Bool
  | .v _=>true
  |_=>false
def splice (cs:List AV) (k:Nat) (xs:List AV):List AV:=cs.take k++(xs++cs.drop (k+xs.length))
def ld (i:TI) (cs:List AV) (k:Nat) (K:AV→Prop):Prop:=
 bif i.isAgg then(bif Nat.ble (k+i.size) cs.length then K (.agg ((cs.drop k).take i.size))else False)
 else(bif Nat.ble (k+1) cs.length then K (cs.getD k .junk)else False)
def inB (n:Int) (m:Nat):Bool:=decide (0≤n)&&decide (n<(m:Int))
structure Nr (n:Int) (m:Nat) (A:Prop):Prop where
 mk::
 ok:inB n m=true
 k:A
theorem Cj (n:Int) (m:Nat) (A:Prop):Nr n m A=(bif inB n m then A else False):=by
 cases h:inB n m with
 |true=>exact propext ⟨fun k=>k.k,fun k=>⟨h,k⟩⟩
 |false=>exact propext ⟨fun k=>(by have:=k.ok;rw[h]at this;cases this),fun k=>k.elim⟩
theorem Qu {n:Int} {m:Nat} (h0:0≤n) (h1:n<(m:Int)):inB n m=true:=by simp[inB,h0,h1]
inductive pF (n:Int) (m:Nat) (K:Nat→Prop):Prop where
  |mk (ok:inB n m=true) (k:K n.toNat):pF n m K
  |lit (c:Nat) (e:n=(c:Int)) (hc:Nat.blt c m=true) (k:K c):pF n m K
theorem Xu (n:Int) (m:Nat) (K:Nat→Prop):pF n m K=(bif inB n m then K n.toNat else False):=by
 cases h:inB n m with
 | true=>
   refine propext ⟨fun k=> ?_,fun k=> .mk h k⟩
   cases k with
   |mk _ k=>exact k
   |lit c e _ k=>subst e;exact k
 | false=>
   refine propext ⟨fun k=> ?_,fun k=>k.elim⟩
   cases k with
   |mk ok _=>rw[h]at ok;cases ok
   | lit c e hc _=>
     subst e
     have hc:c<m:=Nat.blt_eq.mp hc
     rw[Qu (by omega) (by omega)]at h
     cases h
def S9 (L:Lay) (st:AS) (t:TypeId) (p:AV) (K:AV→Prop):Prop:=
 match aZ L t,p with
 |some i,.box id k=>match aP id st.heap with|some (.box _ cs)=>ld i cs k K|_=>False
 |some i,.el cs k=>ld i cs k K
 |some i,.dP id s j k=>match aP id st.heap with|some (.row _ s' n _ f)=>bif Nat.beq s s' then(bif Nat.ble (j+1) n then ld i (f j) k K else False)else False|some (.rn _ cs)=>bif Nat.beq s 1 then ld i cs (j+k) K else False|_=>False
 |_,_=>False
def Qv (L:Lay) (st:AS) (t:TypeId) (p x:AV) (K:AS→Prop):Prop:=
 match aZ L t,p,x.cells? with
 | some i,.box id k,some xs=>
   bif Nat.beq xs.length i.size&&xs.all (vG st.heap)then
    (match aP id st.heap with
    |some (.box t' cs)=>bif Nat.ble (k+xs.length) cs.length then K ⟨st.sl,setObj id (.box t' (splice cs k xs)) st.heap,st.back,st.base⟩else False
    |_=>False)
   else False
 | some i,.dP id s j k,some xs=>
   bif Nat.beq xs.length i.size&&xs.all DR then
    (match aP id st.heap with
    | some (.row e s' n sc f)=>
      bif Nat.beq s s'&&Nat.ble (k+xs.length) s then(bif Nat.ble (j+1) n then K ⟨st.sl,setObj id (.row e s n (sc&&xs.all isV) (fun m=>bif Nat.beq m j then splice (f j) k xs else f m)) st.heap,st.back,st.base⟩else False)else False
    |_=>False)
   else False
 |_,_,_=>False
def nZ (L:Lay) (t:TypeId) (p:AV) (i:Nat) (K:AV→Prop):Prop:=
 match aZ L t with
 | some ti=>match ti.kind with
   | .struct fs=>match fs[i]? with
     | some (o,ft)=>match aZ L ft with
       |some fi=>bif Nat.ble 1 fi.size then(match p with| .box id k=>K (.box id (k+o))| .el cs k=>K (.el cs (k+o))| .dP id s j k=>K (.dP id s j (k+o))|_=>False)else False
       |none=>False
     |none=>False
   |_=>False
 |none=>False
def Qw (L:Lay) (t:TypeId) (x:AV) (i:Nat) (K:AV→Prop):Prop:=
 match aZ L t,x with
 | some ti,.agg cs=>match ti.kind with
   | .struct fs=>match fs[i]? with
     |some (o,ft)=>match aZ L ft with|some fi=>ld fi cs o K|none=>False
     |none=>False
   |_=>False
 |_,_=>False
def zi (L:Lay) (st:AS) (t:TypeId) (x ix:AV) (K:AV→Prop):Prop:=
 match aZ L t,ix with
 | some ti,.v (.int _ n)=>match ti.kind with
   | .slice e=>match aZ L e with
     | some ei=>match x with
       | .sl s m _ f=>bif Nat.beq s ei.size then(Nr n m (K (.el (f n.toNat) 0)))else False
       | .own id=>match aP id st.heap with
         |some (.row _ s m _ _)=>bif Nat.beq s ei.size then(Nr n m (K (.dP id s n.toNat 0)))else False
         |some (.rn _ cs)=>bif Nat.beq 1 ei.size then pF n cs.length (fun q=>K (.dP id 1 q 0))else False
         |_=>False
       |_=>False
     |none=>False
   | .array m e=>match aZ L e with
     |some ei=>pF n m (fun q=>match x with| .box id k=>K (.box id (k+q*ei.size))| .el cs k=>K (.el cs (k+q*ei.size))| .dP id s j k=>K (.dP id s j (k+q*ei.size))|_=>False)
     |none=>False
   |_=>False
 |_,_=>False
def Qx (L:Lay) (t:TypeId) (x ix:AV) (K:AV→Prop):Prop:=
 match aZ L t,ix with
 | some ti,.v (.int _ n)=>match ti.kind,x with
   | .array m e,.agg cs=>match aZ L e with|some ei=>pF n m (fun q=>ld ei cs (q*ei.size) K)|none=>False
   | .str,.v (.string s)=>Nr n s.size (K (.v (.int .u8 ((s.data.toList.getD n.toNat 0).toNat:Int))))
   |_,_=>False
 |_,_=>False
def Fg (x:AV) (i:Nat) (K:AV→Prop):Prop:=match x with| .dF vs=>(match vs[i]? with|some y=>K y|none=>False)|_=>False
def yQ (h:List (Nat×AO)) (place:Nat→Option (Nat×Nat)):List AV→List (Nat×AV)→Option (List AV)
  |cs,[]=>some cs
  | cs,(i,x)::r=>match place i,x.cells? with
    |some (o,s),some xs=>bif Nat.beq xs.length s&&Nat.ble (o+xs.length) cs.length&&xs.all (vG h)then yQ h place (splice cs o xs) r else none
    |_,_=>none
def placesOf (L:Lay):List (Nat×TypeId)→Option (List (Nat×Nat))
  |[]=>some []
  |(o,t)::r=>match aZ L t,placesOf L r with|some i,some l=>some ((o,i.size)::l)|_,_=>none
def Cm (L:Lay) (h0:List (Nat×AO)) (t:TypeId) (parts:List (Nat×AV)) (K:AV→Prop):Prop:=
 match aZ L t with
 | some ti=>match ti.kind with
   | .struct fs=>match placesOf L fs with
     |some pl=>match yQ h0 (pl[·]?) (ti.zero.map .v) parts with|some cs=>K (.agg cs)|none=>False
     |none=>False
   | .array _ e=>match aZ L e with
     |some ei=>match yQ h0 (fun i=>some (i*ei.size,ei.size)) (ti.zero.map .v) parts with|some cs=>K (.agg cs)|none=>False
     |none=>False
   |_=>False
 |none=>False
def Xv (z:List AV):Nat→List AV
  |0=>[]
  |n+1=>z++Xv z n
def chunk (s:Nat) (cs:List AV) (i:Nat):List AV:=(cs.drop (i*s)).take s
def ru (L:Lay) (d:Nat) (st:AS) (t:TypeId) (len:Nat) (parts:List (Nat×AV)) (K:AV→AS→Prop):Prop:=
 match aZ L t with
 | some ti=>match ti.kind with
   | .slice e=>match aZ L e with
     | some ei=>
       bif Nat.ble 1 ei.size&&Nat.beq ei.zero.length ei.size&&Nat.ble (len*ei.size) 65536 then
        (match yQ st.heap (fun i=>some (i*ei.size,ei.size)) (Xv (ei.zero.map .v) len) parts with
        |some cs=>bif cs.all DR then K (.own d) (st.obj d d (.row e ei.size len (cs.all isV) (chunk ei.size cs)))else(bif Nat.beq ei.size 1&&Nat.beq cs.length len&&cs.all (vG st.heap)then K (.own d) (st.obj d d (.rn e cs))else False)
        |none=>False)
       else False
     |none=>False
   |_=>False
 |none=>False
def acv (op:BinOp) (a b:Int) (K:AV→Prop):Prop:=
 match op with
 | .eql=>uZ (a=b) (K (.v (.bool true))) (K (.v (.bool false)))
 | .neq=>uZ (a=b) (K (.v (.bool false))) (K (.v (.bool true)))
 | .lss=>uZ (a<b) (K (.v (.bool true))) (K (.v (.bool false)))
 | .leq=>uZ (a≤b) (K (.v (.bool true))) (K (.v (.bool false)))
 | .gtr=>uZ (b<a) (K (.v (.bool true))) (K (.v (.bool false)))
 | .geq=>uZ (b≤a) (K (.v (.bool true))) (K (.v (.bool false)))
 |_=>False
inductive Dv (a b:Int) (K:Int→Prop):Prop where
  |pos:0≤a→0<b→K (a/b)→Dv a b K
  |raw:b≠0→K (a.tdiv b)→Dv a b K
inductive Rm (a b:Int) (K:Int→Prop):Prop where
  |pos:0≤a→0<b→K (a%b)→Rm a b K
  |raw:b≠0→K (a.tmod b)→Rm a b K
def aau (op:BinOp) (k:IntKind) (a b:Int) (K:AV→Prop):Prop:=
 match op with
 | .add=>Wr (a+b) (fun n=>K (.v (.int k n))) k
 | .sub=>Wr (a-b) (fun n=>K (.v (.int k n))) k
 | .mul=>Wr (a*b) (fun n=>K (.v (.int k n))) k
 | .quo=>Dv a b (fun q=>Wr q (fun n=>K (.v (.int k n))) k)
 | .rem=>Rm a b (fun n=>K (.v (.int k n)))
 | .and=>K (.v (.int k (k.wrap (BitVec.ofInt k.bits a&&&BitVec.ofInt k.bits b).toNat)))
 | .or=>K (.v (.int k (k.wrap (BitVec.ofInt k.bits a|||BitVec.ofInt k.bits b).toNat)))
 | .xor=>K (.v (.int k (k.wrap (BitVec.ofInt k.bits a^^^BitVec.ofInt k.bits b).toNat)))
 | .shl=>False
 | .shr=>False
 | .andNot=>False
 |op=>acv op a b K
def Qy (op:BinOp) (k:IntKind) (a b:Int) (K:AV→Prop):Prop:=
 match op with
 | .shl=>UW (0≤b) (Wr (a*2^min b.toNat k.bits) (fun n=>K (.v (.int k n))) k)
 | .shr=>UW (0≤b) (K (.v (.int k (a.fdiv (2^min b.toNat k.bits)))))
 |_=>False
def acw (op:BinOp) (a b:ByteArray) (K:AV→Prop):Prop:=
 match op with
 | .add=>UW (((a.size+b.size:Nat):Int)≤9223372036854775807) (K (.v (.string (a++b))))
 | .eql=>uZ (a=b) (K (.v (.bool true))) (K (.v (.bool false)))
 | .neq=>uZ (a=b) (K (.v (.bool false))) (K (.v (.bool true)))
 | .lss=>uZ (Op.bytesLess a.toList b.toList=true) (K (.v (.bool true))) (K (.v (.bool false)))
 | .geq=>uZ (Op.bytesLess a.toList b.toList=true) (K (.v (.bool false))) (K (.v (.bool true)))
 | .leq=>uZ (Op.bytesLess a.toList b.toList=true∨a=b) (K (.v (.bool true))) (K (.v (.bool false)))
 | .gtr=>uZ (Op.bytesLess a.toList b.toList=true∨a=b) (K (.v (.bool false))) (K (.v (.bool true)))
 |_=>False
def KO (P:Program) (t:TypeId) (us vs:List Value) (p:Prop):Prop:=
 P.eqGuardType P.depth t=false∧ ∀w:World,∃b:Bool,(b=true↔p)∧(Op.equal t (.agg us.toArray) (.agg vs.toArray)).run P w= .ok b w
inductive vg (P:Program) (t:TypeId) (cs ds:List AV) (A B:Prop):Prop where
  |mk (us vs:List Value) (p:Prop) (hu:cs=us.map .v) (hv:ds=vs.map .v) (hp:KO P t us vs p):uZ p A B→vg P t cs ds A B
structure acy (n:Nat) (A B:Prop):Prop where
 y:n=0→A
 n:B
def acz (P:Program) (L:Lay) (op:BinOp) (t:TypeId) (x y:AV) (K:AV→Prop):Prop:=
 match x,y with
 | .v (.int k a),.v (.int k' b)=>(match op with
   | .shl=>Qy .shl k a b K
   | .shr=>Qy .shr k a b K
   |op=>bif decide (k=k')then aau op k a b K else False)
 | .v (.string a),.v (.string b)=>acw op a b K
 | .v (.bool a),.v (.bool b)=>match aZ L t with
   | some i=>(match i.kind,op with
     | .bool,.eql=>K (.v (.bool (a==b)))
     | .bool,.neq=>K (.v (.bool (!(a==b))))
     |_,_=>False)
   |none=>False
 | .agg cs,.agg ds=>(match op with
   | .eql=>vg P t cs ds (K (.v (.bool true))) (K (.v (.bool false)))
   | .neq=>vg P t cs ds (K (.v (.bool false))) (K (.v (.bool true)))
   |_=>False)
 | .box _ _,.v (.pointer none)=>match aZ L t with
   | some i=>(match i.kind,op with
     | .ptr _,.eql=>K (.v (.bool false))
     | .ptr _,.neq=>K (.v (.bool true))
     |_,_=>False)
   |none=>False
 | .v (.pointer none),.v (.pointer none)=>match aZ L t with
   | some i=>(match i.kind,op with
     | .ptr _,.eql=>K (.v (.bool true))
     | .ptr _,.neq=>K (.v (.bool false))
     |_,_=>False)
   |none=>False
 | .v (.slice none 0 0),.v (.slice none 0 0)=>match aZ L t with
   | some i=>(match i.kind,op with
     | .slice _,.eql=>K (.v (.bool true))
     | .slice _,.neq=>K (.v (.bool false))
     |_,_=>False)
   |none=>False
 | .sl _ n _ _,.v (.slice none 0 0)=>match aZ L t with
   | some i=>(match i.kind,op with
     | .slice _,.eql=>acy n (K (.v (.bool true))) (K (.v (.bool false)))
     | .slice _,.neq=>acy n (K (.v (.bool false))) (K (.v (.bool true)))
     |_,_=>False)
   |none=>False
 |_,_=>False
def aun (op:UnOp) (x:AV) (K:AV→Prop):Prop:=
 match op,x with
 | .not,.v (.bool b)=>K (.v (.bool (!b)))
 | .neg,.v (.int k n)=>Wr (0-n) (fun n=>K (.v (.int k n))) k
 | .xor,.v (.int k n)=>aau .xor k (if k.signed then-1 else k.max) n K
 |_,_=>False
inductive Bs (n:Nat) (f:Nat→List AV) (K:List UInt8→Prop):Prop where
  |mk (bs:List UInt8) (hn:n=bs.length) (hf: ∀i,i<n→f i=[.v (.int .u8 ((bs.getD i 0).toNat:Int))]):K bs→Bs n f K
def Fh (L:Lay) (st:AS) (src dst:TypeId) (x:AV) (K:AV→Prop):Prop:=
 match aZ L src,aZ L dst with
 | some si,some di=>match si.kind,di.kind,x with
   |_,.int k,.v (.int _ n)=>Wr n (fun n=>K (.v (.int k n))) k
   |_,.str,.v (.string s)=>K (.v (.string s))
   | .slice e,.str,.sl _ n _ f=>match aZ L e with|some ei=>(match ei.kind with| .int .u8=>Bs n f (fun bs=>K (.v (.string ⟨bs.toArray⟩)))|_=>False)|none=>False
   | .slice e,.str,.own id=>match aP id st.heap with
     |some (.row _ _ n _ f)=>match aZ L e with|some ei=>(match ei.kind with| .int .u8=>Bs n f (fun bs=>K (.v (.string ⟨bs.toArray⟩)))|_=>False)|none=>False
     |_=>False
   |_,_,_=>False
 |_,_=>False
def Ah (i0:Nat) (a:AV):AV→AV
  | .v x=> .v x
  | .agg cs=> .agg cs
  | .dF vs=> .dF vs
  | .sl s n sc f=> .sl s n sc f
  | .own id=>bif Nat.beq id i0 then a else .own id
  | .dP id s i k=> .dP id s i k
  | .jq id s i k=> .jq id s i k
  | .box id off=> .box id off
  | .cf g id off=> .cf g id off
  | .el cs k=> .el cs k
  | .fn g cs=> .fn g cs
  | .junk=> .junk
def Xw (i0:Nat) (a:AV):AV→AV
  | .v x=> .v x
  | .agg cs=> .agg (cs.map (Ah i0 a))
  | .dF vs=> .dF vs
  | .sl s n sc f=> .sl s n sc f
  | .own id=>bif Nat.beq id i0 then a else .own id
  | .dP id s i k=> .dP id s i k
  | .jq id s i k=> .jq id s i k
  | .box id off=> .box id off
  | .cf g id off=> .cf g id off
  | .el cs k=> .el cs k
  | .fn g cs=> .fn g (cs.map (Ah i0 a))
  | .junk=> .junk
def DT (i0:Nat) (a:AV):AV→AV
  | .v x=> .v x
  | .agg cs=> .agg (cs.map (Ah i0 a))
  | .dF vs=> .dF (vs.map (Xw i0 a))
  | .sl s n sc f=> .sl s n sc f
  | .own id=>bif Nat.beq id i0 then a else .own id
  | .dP id s i k=> .dP id s i k
  | .jq id s i k=> .jq id s i k
  | .box id off=> .box id off
  | .cf g id off=> .cf g id off
  | .el cs k=> .el cs k
  | .fn g cs=> .fn g (cs.map (Ah i0 a))
  | .junk=> .junk
def AO.thaw (id:Nat) (a:AV):AO→AO
  | .box t cs=> .box t (cs.map (Ah id a))
  | .row e s n sc f=> .row e s n sc f
  | .mp t ks rs=> .mp t (vJ id ks) rs
  | .obs o=> .obs o
  | .rn e cs=> .rn e (cs.map (Ah id a))
def AS.freeze (st:AS) (id s n:Nat) (sc:Bool) (f:Nat→List AV):AS:=
 ⟨Ad (DT id (.sl s n sc f)) st.sl,(st.heap.filter fun p=> !Nat.beq p.1 id).map fun p=>(p.1,p.2.thaw id (.sl s n sc f)),st.back.map (Ad (DT id (.sl s n sc f))),st.base⟩
def AS.iJ (st:AS) (id:Nat):AS:=⟨Ad (sD id) st.sl,nX id (st.heap.filter fun p=> !Nat.beq p.1 id),st.back.map (Ad (sD id)),st.base⟩
def UY (s n:Nat) (sc:Bool) (f:Nat→List AV) (lo hi:Option AV) (K:AV→Prop):Prop:=
 match lo,hi with
 |none,none=>K (.sl s n sc f)
 |none,some (.v (.int _ h))=>Nr h (n+1) (K (.sl s h.toNat sc f))
 |some (.v (.int _ l)),none=>Nr l (n+1) (K (.sl s (n-l.toNat) sc (fun i=>f (l.toNat+i))))
 |some (.v (.int _ l)),some (.v (.int _ h))=>Nr h (n+1) ((Nr l (h.toNat+1) (K (.sl s (h.toNat-l.toNat) sc (fun i=>f (l.toNat+i))))))
 |_,_=>False
def Xx (b:ByteArray) (lo hi:Option AV) (K:AV→Prop):Prop:=
 match lo,hi with
 |none,none=>K (.v (.string b))
 |none,some (.v (.int _ h))=>Nr h (b.size+1) (K (.v (.string (b.extract 0 h.toNat))))
 |some (.v (.int _ l)),none=>Nr l (b.size+1) (K (.v (.string (b.extract l.toNat b.size))))
 |some (.v (.int _ l)),some (.v (.int _ h))=>Nr h (b.size+1) ((Nr l (h.toNat+1) (K (.v (.string (b.extract l.toNat h.toNat))))))
 |_,_=>False
def Xy (n:Nat) (lo hi:Option AV) (K:Nat→Nat→Prop):Prop:=
 match lo,hi with
 |none,none=>K 0 n
 |none,some (.v (.int _ h))=>Nr h (n+1) (K 0 h.toNat)
 |some (.v (.int _ l)),none=>Nr l (n+1) (K l.toNat n)
 |some (.v (.int _ l)),some (.v (.int _ h))=>Nr h (n+1) (Nr l (h.toNat+1) (K l.toNat h.toNat))
 |_,_=>False
inductive ASl (A B C:Prop):Prop where
  |CB (h:A):ASl A B C
  |part (h:B):ASl A B C
  |cut (h:C):ASl A B C
def bM (n m:Nat) (K:Nat→Prop):Prop:=bif Nat.beq n m then K m else K n
def bP (b:Bool) (X Y:Prop):Prop:=bif b then X else Y
theorem aav (n m:Nat) (K:Nat→Prop):bM n m K=K n:=by
 unfold bM
 cases h:Nat.beq n m with
 |true=>rw[Nat.eq_of_beq_eq_true h];rfl
 |false=>rfl
theorem aaw {b:Bool} {X Y Z:Prop} (h1:X=Z) (h2:Y=Z):bP b X Y=Z:=by cases b;exact h2;exact h1
def Fj (n:Nat) (K:Nat→Prop):Prop:=
 bP (Nat.ble 64 n) (bP (Nat.ble 96 n) (bP (Nat.ble 112 n) (bP (Nat.ble 120 n) (bP (Nat.ble 124 n) (bP (Nat.ble 126 n) (bP (Nat.ble 127 n) (bM n 127 K) (bM n 126 K)) (bP (Nat.ble 125 n) (bM n 125 K) (bM n 124 K))) (bP (Nat.ble 122 n) (bP (Nat.ble 123 n) (bM n 123 K) (bM n 122 K)) (bP (Nat.ble 121 n) (bM n 121 K) (bM n 120 K)))) (bP (Nat.ble 116 n) (bP (Nat.ble 118 n) (bP (Nat.ble 119 n) (bM n 119 K) (bM n 118 K)) (bP (Nat.ble 117 n) (bM n 117 K) (bM n 116 K))) (bP (Nat.ble 114 n) (bP (Nat.ble 115 n) (bM n 115 K) (bM n 114 K)) (bP (Nat.ble 113 n) (bM n 113 K) (bM n 112 K))))) (bP (Nat.ble 104 n) (bP (Nat.ble 108 n) (bP (Nat.ble 110 n) (bP (Nat.ble 111 n) (bM n 111 K) (bM n 110 K)) (bP (Nat.ble 109 n) (bM n 109 K) (bM n 108 K))) (bP (Nat.ble 106 n) (bP (Nat.ble 107 n) (bM n 107 K) (bM n 106 K)) (bP (Nat.ble 105 n) (bM n 105 K) (bM n 104 K)))) (bP (Nat.ble 100 n) (bP (Nat.ble 102 n) (bP (Nat.ble 103 n) (bM n 103 K) (bM n 102 K)) (bP (Nat.ble 101 n) (bM n 101 K) (bM n 100 K))) (bP (Nat.ble 98 n) (bP (Nat.ble 99 n) (bM n 99 K) (bM n 98 K)) (bP (Nat.ble 97 n) (bM n 97 K) (bM n 96 K)))))) (bP (Nat.ble 80 n) (bP (Nat.ble 88 n) (bP (Nat.ble 92 n) (bP (Nat.ble 94 n) (bP (Nat.ble 95 n) (bM n 95 K) (bM n 94 K)) (bP (Nat.ble 93 n) (bM n 93 K) (bM n 92 K))) (bP (Nat.ble 90 n) (bP (Nat.ble 91 n) (bM n 91 K) (bM n 90 K)) (bP (Nat.ble 89 n) (bM n 89 K) (bM n 88 K)))) (bP (Nat.ble 84 n) (bP (Nat.ble 86 n) (bP (Nat.ble 87 n) (bM n 87 K) (bM n 86 K)) (bP (Nat.ble 85 n) (bM n 85 K) (bM n 84 K))) (bP (Nat.ble 82 n) (bP (Nat.ble 83 n) (bM n 83 K) (bM n 82 K)) (bP (Nat.ble 81 n) (bM n 81 K) (bM n 80 K))))) (bP (Nat.ble 72 n) (bP (Nat.ble 76 n) (bP (Nat.ble 78 n) (bP (Nat.ble 79 n) (bM n 79 K) (bM n 78 K)) (bP (Nat.ble 77 n) (bM n 77 K) (bM n 76 K))) (bP (Nat.ble 74 n) (bP (Nat.ble 75 n) (bM n 75 K) (bM n 74 K)) (bP (Nat.ble 73 n) (bM n 73 K) (bM n 72 K)))) (bP (Nat.ble 68 n) (bP (Nat.ble 70 n) (bP (Nat.ble 71 n) (bM n 71 K) (bM n 70 K)) (bP (Nat.ble 69 n) (bM n 69 K) (bM n 68 K))) (bP (Nat.ble 66 n) (bP (Nat.ble 67 n) (bM n 67 K) (bM n 66 K)) (bP (Nat.ble 65 n) (bM n 65 K) (bM n 64 K))))))) (bP (Nat.ble 32 n) (bP (Nat.ble 48 n) (bP (Nat.ble 56 n) (bP (Nat.ble 60 n) (bP (Nat.ble 62 n) (bP (Nat.ble 63 n) (bM n 63 K) (bM n 62 K)) (bP (Nat.ble 61 n) (bM n 61 K) (bM n 60 K))) (bP (Nat.ble 58 n) (bP (Nat.ble 59 n) (bM n 59 K) (bM n 58 K)) (bP (Nat.ble 57 n) (bM n 57 K) (bM n 56 K)))) (bP (Nat.ble 52 n) (bP (Nat.ble 54 n) (bP (Nat.ble 55 n) (bM n 55 K) (bM n 54 K)) (bP (Nat.ble 53 n) (bM n 53 K) (bM n 52 K))) (bP (Nat.ble 50 n) (bP (Nat.ble 51 n) (bM n 51 K) (bM n 50 K)) (bP (Nat.ble 49 n) (bM n 49 K) (bM n 48 K))))) (bP (Nat.ble 40 n) (bP (Nat.ble 44 n) (bP (Nat.ble 46 n) (bP (Nat.ble 47 n) (bM n 47 K) (bM n 46 K)) (bP (Nat.ble 45 n) (bM n 45 K) (bM n 44 K))) (bP (Nat.ble 42 n) (bP (Nat.ble 43 n) (bM n 43 K) (bM n 42 K)) (bP (Nat.ble 41 n) (bM n 41 K) (bM n 40 K)))) (bP (Nat.ble 36 n) (bP (Nat.ble 38 n) (bP (Nat.ble 39 n) (bM n 39 K) (bM n 38 K)) (bP (Nat.ble 37 n) (bM n 37 K) (bM n 36 K))) (bP (Nat.ble 34 n) (bP (Nat.ble 35 n) (bM n 35 K) (bM n 34 K)) (bP (Nat.ble 33 n) (bM n 33 K) (bM n 32 K)))))) (bP (Nat.ble 16 n) (bP (Nat.ble 24 n) (bP (Nat.ble 28 n) (bP (Nat.ble 30 n) (bP (Nat.ble 31 n) (bM n 31 K) (bM n 30 K)) (bP (Nat.ble 29 n) (bM n 29 K) (bM n 28 K))) (bP (Nat.ble 26 n) (bP (Nat.ble 27 n) (bM n 27 K) (bM n 26 K)) (bP (Nat.ble 25 n) (bM n 25 K) (bM n 24 K)))) (bP (Nat.ble 20 n) (bP (Nat.ble 22 n) (bP (Nat.ble 23 n) (bM n 23 K) (bM n 22 K)) (bP (Nat.ble 21 n) (bM n 21 K) (bM n 20 K))) (bP (Nat.ble 18 n) (bP (Nat.ble 19 n) (bM n 19 K) (bM n 18 K)) (bP (Nat.ble 17 n) (bM n 17 K) (bM n 16 K))))) (bP (Nat.ble 8 n) (bP (Nat.ble 12 n) (bP (Nat.ble 14 n) (bP (Nat.ble 15 n) (bM n 15 K) (bM n 14 K)) (bP (Nat.ble 13 n) (bM n 13 K) (bM n 12 K))) (bP (Nat.ble 10 n) (bP (Nat.ble 11 n) (bM n 11 K) (bM n 10 K)) (bP (Nat.ble 9 n) (bM n 9 K) (bM n 8 K)))) (bP (Nat.ble 4 n) (bP (Nat.ble 6 n) (bP (Nat.ble 7 n) (bM n 7 K) (bM n 6 K)) (bP (Nat.ble 5 n) (bM n 5 K) (bM n 4 K))) (bP (Nat.ble 2 n) (bP (Nat.ble 3 n) (bM n 3 K) (bM n 2 K)) (bP (Nat.ble 1 n) (bM n 1 K) (bM n 0 K)))))))
theorem Ns (n:Nat) (K:Nat→Prop):Fj n K=K n:=by
 unfold Fj
 repeat' (first|exact aav _ _ _|apply aaw)
def nameOf (st:AS) (K:Nat→Prop):Prop:=match st with|⟨_,_,_,b⟩=>Fj b K
theorem iW (st:AS) (K:Nat→Prop):nameOf st K=K st.base:=by cases st;exact Ns _ _
def aslice (L:Lay) (st:AS) (t:TypeId) (x:AV) (lo hi mx:Option AV) (K:AV→AS→Prop):Prop:=
 match mx,aZ L t with
 | none,some ti=>match ti.kind,x with
   | .slice e,.sl s n sc f=>(match aZ L e with|some ei=>bif Nat.beq s ei.size then UY s n sc f lo hi (fun y=>K y st)else False|none=>False)
   | .slice e,.v (.slice none 0 0)=>(match aZ L e with|some _=>Xy 0 lo hi (fun _ _=>K (.v (.slice none 0 0)) st)|none=>False)
   | .slice e,.own id=>(match aP id st.heap with|some (.row e' s n sc f)=>(match aZ L e with|some ei=>bif Nat.beq s ei.size then ASl (UY s n sc f lo hi (fun y=>K y (st.freeze id s n sc f))) (Xy n lo hi (fun l h=>K (.jq id s l (h-l)) st)) (Xy n lo hi (fun l h=>bif Nat.beq l 0 then nameOf st (fun d=>K (.own d) (st.obj d id (.row e' s h sc f)))else False))else False|none=>False)|_=>False)
   | .str,.v (.string b)=>Xx b lo hi (fun y=>K y st)
   | .array m e,.box id k=>ASl (match lo,hi,k,aP id st.heap,aZ L e with
     |none,none,0,some (.box _ cs),some ei=>bif Nat.ble 1 ei.size&&Nat.beq cs.length (m*ei.size)&&Nat.ble m 65536&&cs.all DR then K (.sl ei.size m (cs.all isV) (chunk ei.size cs)) (st.iJ id)else False
     |_,_,_,_,_=>False) (match lo,hi,aZ L e with|none,none,some _=>K (.jq id 1 k m) st|_,_,_=>False) False
   |_,_=>False
 |_,_=>False
def Tc (L:Lay) (st:AS) (s:Nat) (t:TypeId) (x:AV):Option (Nat×Bool×(Nat→List AV)):=
 match aZ L t with
 | some ti=>match ti.kind,x with
   | .slice _,.sl s' n sc f=>bif Nat.beq s s' then some (n,sc,f)else none
   | .slice _,.own id=>match aP id st.heap with|some (.row _ s' n sc f)=>bif Nat.beq s s' then some (n,sc,f)else none|_=>none
   | .slice _,.v (.slice none 0 _)=>some (0,true,fun _=>[])
   | .str,.v (.string b)=>bif Nat.beq s 1 then some (b.size,true,fun i=>[.v (.int .u8 ((b.data.toList.getD i 0).toNat:Int))])else none
   |_,_=>none
 |none=>none
def pR (n:Nat) (f g:Nat→List AV):Nat→List AV:=fun i=>bif Nat.ble n i then g (i-n)else f i
def ab4 (L:Lay) (d:Nat) (st:AS) (e:TypeId) (ei:TI) (tx:TypeId) (x y:AV) (K:AV→AS→Prop):Prop:=
 match aZ L tx,y with
 | some ti,.own j=>match ti.kind,aP j st.heap with
   | .slice _,some (.rn _ ds)=>bif Nat.beq ei.size 1&&Nat.ble ei.bytes 1024&&Nat.ble ds.length 1024 then
      (match x with
      | .v (.slice none 0 0)=>K (.own d) (st.obj d d (.rn e ds))
      | .own id=>match aP id st.heap with
        |some (.rn e' cs)=>bif Nat.beq e e'&&Nat.ble cs.length 1024 then K (.own d) (st.obj d id (.rn e (cs++ds)))else False
        |_=>False
      |_=>False)
     else False
   |_,_=>False
 |_,_=>False
def KP (L:Lay) (d:Nat) (st:AS) (t tx:TypeId) (x y:AV) (K:AV→AS→Prop):Prop:=
 match aZ L t with
 | some ti=>match ti.kind with
   | .slice e=>match aZ L e with
     | some ei=>
       bif Nat.ble 1 ei.size&&Nat.beq ei.zero.length ei.size then
        (match Tc L st ei.size tx y with
        | some (m,sc',g)=>match x with
          | .v (.slice none 0 0)=>UW (m*ei.bytes≤140737488355328∧m≤140737488355328) (K (.own d) (st.obj d d (.row e ei.size m sc' g)))
          | .own id=>match aP id st.heap with
            |some (.row e' s n sc f)=>bif Nat.beq e e'&&Nat.beq s ei.size then UW ((n+m)*ei.bytes≤140737488355328∧n+m≤140737488355328) (K (.own d) (st.obj d id (.row e s (n+m) (sc&&sc') (pR n f g))))else False
            |_=>False
          |_=>False
        |none=>ab4 L d st e ei tx x y K)
       else False
     |none=>False
   |_=>False
 |none=>False
inductive AMk (b:Nat) (l c:Int) (K:Nat→Prop):Prop where
  |none:l=0→0≤c→c*b≤140737488355328→c≤140737488355328→K 0→AMk b l c K
  |full:0≤l→l=c→c*b≤140737488355328→c≤140737488355328→K l.toNat→AMk b l c K
def Xz (L:Lay) (d:Nat) (st:AS) (t:TypeId) (l c:AV) (K:AV→AS→Prop):Prop:=
 match aZ L t,l,c with
 | some ti,.v (.int _ l),.v (.int _ c)=>match ti.kind with
   | .slice e=>match aZ L e with
     |some ei=>bif (Nat.ble 1 ei.size&&Nat.beq ei.zero.length ei.size)&&ei.zero.all (fun x=>x.oneCell')then AMk ei.bytes l c (fun n=>K (.own d) (st.obj d d (.row e ei.size n true (fun _=>ei.zero.map .v))))else False
     |none=>False
   |_=>False
 |_,_,_=>False
def Qz (L:Lay) (t:TypeId) (x:AV) (K:AV→Prop):Prop:=
 match aZ L t,x with
 | some ti,.sl s n _ f=>match ti.kind with
   | .array m e=>match aZ L e with
     |some ei=>bif Nat.beq s ei.size&&Nat.ble 1 m then UW (m≤n) (K (.el (flat m f) 0))else False
     |none=>False
   |_=>False
 |_,_=>False
def acA (L:Lay) (st:AS) (t:TypeId) (x:AV) (K:AV→Prop):Prop:=
 match aZ L t with
 |none=>False
 |some i=>match i.kind,x with
 | .str,.v (.string b)=>K (.v (.int .i64 (b.size:Int)))
 | .slice _,.v (.slice _ n _)=>K (.v (.int .i64 (n:Int)))
 | .slice _,.sl _ n _ _=>K (.v (.int .i64 (n:Int)))
 | .slice _,.own id=>(match aP id st.heap with|some (.row _ _ n _ _)=>K (.v (.int .i64 (n:Int)))|some (.rn _ cs)=>K (.v (.int .i64 (cs.length:Int)))|_=>False)
 | .slice _,.jq _ _ _ m=>K (.v (.int .i64 (m:Int)))
 | .array m _,_=>K (.v (.int .i64 (m:Int)))
 |_,_=>False
def IV (h:List (Nat×AO)):AV→AV
  | .own id=>match aP id h with|some (.row _ s n sc f)=> .sl s n sc f|_=> .junk
  | .v x=> .v x
  | .sl s n sc f=> .sl s n sc f
  |_=> .junk
def QA (h:List (Nat×AO)):AV→AV
  | .agg cs=> .agg (cs.map (IV h))
  |x=>IV h x
inductive aax (h:List (Nat×AO)):AV→AV→Prop where
  |eq (a:AV):aax h a (IV h a)
  |nil (s:Nat) (sc:Bool) (f:Nat→List AV):0<s→aax h (.v (.slice none 0 0)) (.sl s 0 sc f)
inductive UZ (h:List (Nat×AO)):AV→AV→Prop where
  |eq (a:AV):UZ h a (QA h a)
  |nil (s:Nat) (sc:Bool) (f:Nat→List AV):0<s→UZ h (.v (.slice none 0 0)) (.sl s 0 sc f)
  |agg (cs ds:List AV):cs.length=ds.length→(∀ (i:Nat) (x y:AV),cs[i]? =some x→ds[i]? =some y→aax h x y)→UZ h (.agg cs) (.agg ds)
def En (h:List (Nat×AO)) (xs ys:List AV):Prop:=xs.length=ys.length∧ ∀ (i:Nat) (x y:AV),xs[i]? =some x→ys[i]? =some y→UZ h x y
theorem En.nil {h:List (Nat×AO)}:En h [] []:=⟨rfl,fun i x y hx=>by simp at hx⟩
theorem En.cons {h:List (Nat×AO)} {x y:AV} {xs ys:List AV} (h0:UZ h x y) (hr:En h xs ys):En h (x::xs) (y::ys):=by
 refine⟨by simpa using hr.1,fun i a b ha hb=> ?_⟩
 cases i with
 |zero=>simp at ha hb;subst ha hb;exact h0
 |succ i=>exact hr.2 i a b (by simpa using ha) (by simpa using hb)
def sF:List Nat→Bool
  |[]=>true
  |x::l=> !(l.any (Nat.beq x))&&sF l
theorem CG: ∀ {l:List Nat},sF l=true→l.Nodup
  |[],_=>List.nodup_nil
  | x::l,h=>by
    simp only[sF,Bool.and_eq_true,Bool.not_eq_true']at h
    refine List.nodup_cons.2 ⟨fun hx=> ?_,CG h.2⟩
    have:=List.any_eq_false.1 h.1 x hx
    simp at this
def Enters (P:Program) (f:FuncId):Prop:= ∃fn c,P.funcs[f]? =some fn∧(fn.name== "runtime.NumGoroutine")=false∧fn.body=some c
def aH (P:Program) (f:FuncId) (dn:List AV) (r:AV) (h:List (Nat×AO)):Prop:=
 Enters P f∧ ∀ (w:World) (keep:Nat→Prop) (args:List Value),(∀b,keep b→b<w.heap.size)→aI (C1 ⟨w,keep,fun _=>undef⟩) dn args→
  Calls P f args.toArray w fun e w'=> ∃u ρ,e= .returned u∧Below w.heap.size w w'∧C2 (aC (base0 w keep) w' ρ h) r u∧(∀p∈h,bn (aC (base0 w keep) w' ρ h) p.1 p.2)∧(ah ρ h).Nodup∧ ∀b∈ah ρ h,w.heap.size≤b
def aV (P:Program) (f:FuncId) (hin:List (Nat×AO)) (dn:List AV) (r:AV) (hout:List (Nat×AO)):Prop:=
 Enters P f∧ ∀ (w:World) (keep:Nat→Prop) (ρ:Nat→Value) (args:List Value),(∀b,keep b→b<w.heap.size)→(∀p∈hin,bn ⟨w,keep,ρ⟩ p.1 p.2)→(ah ρ hin).Nodup→(∀b∈ah ρ hin,b<w.heap.size∧ ¬keep b)→aI (C1 ⟨w,keep,ρ⟩) dn args→
  Calls P f args.toArray w fun e w'=> ∃u ρ',e= .returned u∧fM (fun b=>b∈ah ρ hin) w.heap.size w w'∧(∀p∈hin,∀q∈hout,q.1=p.1→Ae (ρ' p.1) (ρ p.1))∧
   C2 (aC (gU w keep (fun b=>b∈ah ρ hin)) w' ρ' hout) r u∧(∀p∈hout,bn (aC (gU w keep (fun b=>b∈ah ρ hin)) w' ρ' hout) p.1 p.2)∧(ah ρ' hout).Nodup∧ ∀b∈ah ρ' hout,w.heap.size≤b∨b∈ah ρ hin
def gG (i:Nat):List (Nat×AO)→Bool
  |[]=>false
  |(k,_)::l=>Nat.beq k i||gG i l
def U0 (h:List (Nat×AO)):AV→Bool
  | .own i=>gG i h
  | .dP i .. =>gG i h
  | .jq i .. =>gG i h
  | .box i _=>gG i h
  | .cf _ i _=>gG i h
  |_=>true
def acB (h:List (Nat×AO)):AV→Bool
  | .agg cs=>cs.all (U0 h)
  | .fn _ cs=>cs.all (U0 h)
  |x=>U0 h x
def XA (h:List (Nat×AO)):AV→Bool
  | .dF vs=>vs.all (acB h)
  |x=>acB h x
def XB (h:List (Nat×AO)):AO→Bool
  | .box _ cs=>cs.all (U0 h)
  | .row .. =>true
  | .mp _ ks _=>ks.all fun p=>match p.2 with|some i=>gG i h|none=>true
  | .obs _=>true
  | .rn _ cs=>cs.all (U0 h)
def jT (h:List (Nat×AO)):List (Nat×AO)→Bool
  |[]=>true
  |(_,o)::l=>XB h o&&jT h l
def uw (d:Nat) (hin:List (Nat×AO)):List (Nat×AO)→Bool
  |[]=>true
  |(k,_)::l=>(gG k hin||Nat.beq k d)&&uw d hin l
def Nu:AV→Bool
  | .dF _=>false
  |_=>true
def tu (d:Nat) (hin:List (Nat×AO)):List (Nat×AO)→List (Nat×AO)
  |[]=>[]
  |(k,o)::l=>bif Nat.beq k d||gG k hin then tu d hin l else(k,o)::tu d hin l
def AS.QB (st:AS) (d:Nat) (hin hout:List (Nat×AO)):AS:=⟨Ad (sD d) st.sl,hout++nX d (tu d hin st.heap),st.back.map (Ad (sD d)),Nat.add d 1⟩
def U1 (st:AS):List (Nat×AO)→Prop
  |[]=>True
  |(k,o)::l=>aP k st.heap=some o∧U1 st l
def ok0 (d:Option Nat):AV→Bool
  | .v _=>true
  | .sl .. =>true
  | .own i=>(match d with|some j=>Nat.beq i j|none=>false)
  |_=>false
def ok1 (d:Option Nat):AV→Bool
  | .agg cs=>cs.all (ok0 d)
  |x=>ok0 d x
def ok2 (d:Option Nat):AV→Bool
  | .dF vs=>vs.all (ok1 d)
  |x=>ok1 d x
def XC:AV→Bool
  | .sl .. =>false
  |_=>true
def XD:AV→Bool
  | .agg cs=>cs.all XC
  |x=>XC x
def mX:AV→Bool
  | .dF vs=>vs.all XD
  |x=>XD x
def KQ (st:AS):AV→AS
  | .own id=>match aP id st.heap with|some (.row _ s n sc f)=>st.freeze id s n sc f|_=>st
  |_=>st
def CB (st:AS):AV→AS
  | .agg cs=>cs.foldl KQ st
  |x=>KQ st x
def tC (st:AS) (l:List AV):AS:=l.foldl CB st
inductive jI where
  |normal|exit (id:Nat)|ret
abbrev Walk:=Nat→Nat→Code→(jI→AS→Prop)→AS→Prop
def hd0 (x:AV) (K:AV→Prop):Prop:=
 match x with
 | .v y=>K (.v y)
 | .agg cs=>K (.agg cs)
 | .dF vs=>K (.dF vs)
 | .sl s n sc f=>K (.sl s n sc f)
 | .own i=>K (.own i)
 | .dP i s j k=>K (.dP i s j k)
 | .jq i s j k=>K (.jq i s j k)
 | .box i k=>K (.box i k)
 | .cf g i k=>K (.cf g i k)
 | .el cs k=>K (.el cs k)
 | .fn g cs=>K (.fn g cs)
 | .junk=>K .junk
def Fp:List AV→(List AV→Prop)→Prop
  |[],K=>K []
  |x::l,K=>hd0 x (fun x=>Fp l (fun r=>K (x::r)))
def hd1 (x:AV) (K:AV→Prop):Prop:=
 match x with
 | .v y=>K (.v y)
 | .agg cs=>Fp cs (fun cs=>K (.agg cs))
 | .dF vs=>K (.dF vs)
 | .sl s n sc f=>K (.sl s n sc f)
 | .own i=>K (.own i)
 | .dP i s j k=>K (.dP i s j k)
 | .jq i s j k=>K (.jq i s j k)
 | .box i k=>K (.box i k)
 | .cf g i k=>K (.cf g i k)
 | .el cs k=>Fp cs (fun cs=>K (.el cs k))
 | .fn g cs=>Fp cs (fun cs=>K (.fn g cs))
 | .junk=>K .junk
def aay:List AV→(List AV→Prop)→Prop
  |[],K=>K []
  |x::l,K=>hd1 x (fun x=>aay l (fun r=>K (x::r)))
def hd2 (x:AV) (K:AV→Prop):Prop:=
 match x with
 | .v y=>K (.v y)
 | .agg cs=>Fp cs (fun cs=>K (.agg cs))
 | .dF vs=>aay vs (fun vs=>K (.dF vs))
 | .sl s n sc f=>K (.sl s n sc f)
 | .own i=>K (.own i)
 | .dP i s j k=>K (.dP i s j k)
 | .jq i s j k=>K (.jq i s j k)
 | .box i k=>K (.box i k)
 | .cf g i k=>K (.cf g i k)
 | .el cs k=>Fp cs (fun cs=>K (.el cs k))
 | .fn g cs=>Fp cs (fun cs=>K (.fn g cs))
 | .junk=>K .junk
theorem acC (x:AV) (K:AV→Prop):hd0 x K=K x:=by cases x<;>rfl
theorem Ai: ∀ (l:List AV) (K:List AV→Prop),Fp l K=K l
  |[],_=>rfl
  |x::l,K=>by simp only[Fp,acC,Ai l]
theorem acD (x:AV) (K:AV→Prop):hd1 x K=K x:=by cases x<;>first|rfl|exact Ai _ _
theorem Td: ∀ (l:List AV) (K:List AV→Prop),aay l K=K l
  |[],_=>rfl
  |x::l,K=>by simp only[aay,acD,Td l]
theorem KR (x:AV) (K:AV→Prop):hd2 x K=K x:=by cases x<;>first|rfl|exact Ai _ _|exact Td _ _
def KT (lv k:Nat):Bool:=Nat.beq (Nat.land (Nat.shiftRight lv k) 1) 1
def Eo (lv:Nat):List (Nat×AV)→List (Nat×AV)
  |[]=>[]
  |(k,v)::l=>bif KT lv k then(k,v)::Eo lv l else Eo lv l
def XE (lv:Nat):List (Nat×AV)→(List (Nat×AV)→Prop)→Prop
  |[],K=>K []
  |(k,v)::l,K=>bif KT lv k then hd2 v (fun v=>XE lv l (fun r=>K ((k,v)::r)))else XE lv l K
def XF:List (Nat×AV)→(List (Nat×AV)→Prop)→Prop
  |[],K=>K []
  |(k,v)::l,K=>hd2 v (fun v=>XF l (fun r=>K ((k,v)::r)))
def U2:List (ByteArray×Option Nat)→(List (ByteArray×Option Nat)→Prop)→Prop
  |[],K=>K []
  |(k,some i)::l,K=>U2 l (fun r=>K ((k,some i)::r))
  |(k,none)::l,K=>U2 l (fun r=>K ((k,none)::r))
theorem KU: ∀ (l:List (ByteArray×Option Nat)) (K:List (ByteArray×Option Nat)→Prop),U2 l K=K l
  |[],_=>rfl
  |(k,some i)::l,K=>by simp only[U2,KU l]
  |(k,none)::l,K=>by simp only[U2,KU l]
def vN:List (Nat×AO)→(List (Nat×AO)→Prop)→Prop
  |[],K=>K []
  |(i,.box t cs)::l,K=>Fp cs (fun cs=>vN l (fun r=>K ((i,.box t cs)::r)))
  | (i,.row e s n sc f)::l,K=>match sc with
    |true=>vN l (fun r=>K ((i,.row e s n true f)::r))
    |false=>vN l (fun r=>K ((i,.row e s n false f)::r))
  |(i,.mp t ks rs)::l,K=>U2 ks (fun ks=>vN l (fun r=>K ((i,.mp t ks rs)::r)))
  |(i,.obs o)::l,K=>vN l (fun r=>K ((i,.obs o)::r))
  |(i,.rn e cs)::l,K=>Fp cs (fun cs=>vN l (fun r=>K ((i,.rn e cs)::r)))
def Tf:List (List (Nat×AV))→(List (List (Nat×AV))→Prop)→Prop
  |[],K=>K []
  |f::fs,K=>XF f (fun f=>Tf fs (fun r=>K (f::r)))
def AS.vO (st:AS) (lv:Nat):AS:=⟨Eo lv st.sl,st.heap,st.back,st.base⟩
def nrm (lv:Nat) (st:AS) (K:AS→Prop):Prop:=match st with|⟨sl,hp,bk,b⟩=>XE lv sl (fun l=>vN hp (fun h=>Tf bk (fun bk=>K ⟨l,h,bk,b⟩)))
def vH (st:AS) (K:AS→Prop):Prop:=match st with|⟨sl,hp,bk,b⟩=>XF sl (fun l=>vN hp (fun h=>K ⟨l,h,bk,b⟩))
theorem KW (lv:Nat): ∀ (l:List (Nat×AV)) (K:List (Nat×AV)→Prop),XE lv l K=K (Eo lv l)
  |[],_=>rfl
  | (k,v)::l,K=>by
    simp only[XE,Eo]
    cases KT lv k with
    |true=>simp only[cond_true,KR,KW lv l]
    |false=>simp only[cond_false,KW lv l]
theorem KX: ∀ (l:List (Nat×AV)) (K:List (Nat×AV)→Prop),XF l K=K l
  |[],_=>rfl
  |(k,v)::l,K=>by simp only[XF,KR,KX l]
theorem rC: ∀ (l:List (Nat×AO)) (K:List (Nat×AO)→Prop),vN l K=K l
  |[],_=>rfl
  |(i,.box t cs)::l,K=>by simp only[vN,Ai,rC l]
  |(i,.row e s n true f)::l,K=>by simp only[vN,rC l]
  |(i,.row e s n false f)::l,K=>by simp only[vN,rC l]
  |(i,.mp t ks rs)::l,K=>by simp only[vN,KU,rC l]
  |(i,.obs o)::l,K=>by simp only[vN,rC l]
  |(i,.rn e cs)::l,K=>by simp only[vN,Ai,rC l]
theorem Nv: ∀ (l:List (List (Nat×AV))) (K:List (List (Nat×AV))→Prop),Tf l K=K l
  |[],_=>rfl
  |f::fs,K=>by simp only[Tf,KX,Nv fs]
theorem KY (lv:Nat) (st:AS) (K:AS→Prop):nrm lv st K=K (st.vO lv):=by cases st;simp only[nrm,KW,rC,Nv];rfl
theorem Ti (st:AS) (K:AS→Prop):vH st K=K st:=by cases st;simp only[vH,KX,rC]
def ab5 (L:Lay) (st:AS):ResultVar→(AV→Prop)→Prop
  | .tmp t,K=>K (st.tmps t)
  | .cell p t,K=>S9 L st t (st.tmps p) K
def XG (L:Lay) (st:AS):List ResultVar→(List AV→Prop)→Prop
  |[],K=>K []
  |r::rs,K=>ab5 L st r (fun x=>XG L st rs (fun xs=>K (x::xs)))
def Nw:AV→AV
  | .dF _=> .junk
  |x=>x
def mP (L:Lay) (st:AS) (rs:List ResultVar) (K:AV→Prop):Prop:=
 XG L st rs (fun xs=>match xs with|[x]=>K x|xs=>K (.dF (xs.map Nw)))
def Aj:Nat→List AV→List (Nat×AV)
  |_,[]=>[]
  |k,x::l=>(k,x)::Aj (k+1) l
def start (dn:List AV):AS:=⟨Aj 0 dn,[],[],0⟩
def AS.into (st:AS) (dn:List AV):AS:=⟨Aj 0 dn,st.heap,st.sl::st.back,st.base⟩
def Tj (st:AS) (dn:List AV) (K:AS→Prop):Prop:=match st with|⟨sl,h,bk,b⟩=>K ⟨Aj 0 dn,h,sl::bk,b⟩
theorem XH (st:AS) (dn:List AV) (K:AS→Prop):Tj st dn K=K (st.into dn):=by
 obtain⟨sl,h,bk,b⟩:=st
 rfl
def AS.out (st:AS):AS:=match st.back with|f::r=>⟨f,st.heap,r,st.base⟩|[]=>st
inductive dK (P:Program) (L:Lay) (W:Walk) (d:Nat) (f:FuncId) (dn:List AV) (st:AS) (K:AV→AS→Prop):Prop where
  |inl (lv:Nat) (fn:Func) (c:Code) (hf:P.funcs[f]? =some fn) (hn:(fn.name== "runtime.NumGoroutine")=false) (hb:fn.body=some c) (hsz:Nat.ble dn.length fn.ntmps=true)
     (h:Tj st dn (W fn.ntmps lv c (fun e st'=>match e with| .exit _=>False| .normal=>mP L st' fn.results.toList (fun x=>vH (st'.out) (K x))| .ret=>mP L st' fn.results.toList (fun x=>vH (st'.out) (K x))))):dK P L W d f dn st K
  |QB (hin hout:List (Nat×AO)) (r:AV) (hs:aV P f hin dn r hout) (hh:U1 st hin) (hb:(sF (hin.map (·.1))&&dn.all Nu&&jT hout hout&&XA hout r&&uw d hin hout)=true):K r (st.QB d hin hout)→dK P L W d f dn st K
  |plain (bs:List AV) (r:AV) (hs:aH P f bs r []) (hsub:En st.heap dn bs) (hr:ok2 none r=true):K r (bif mX r then st else tC st dn)→dK P L W d f dn st K
  |fresh (bs:List AV) (r:AV) (e:TypeId) (s n:Nat) (sc:Bool) (g:Nat→List AV) (hs:aH P f bs r [(d,.row e s n sc g)]) (hsub:En st.heap dn bs) (hr:ok2 (some d) r=true):
     K r ((bif mX r&&sc then st else tC st dn).obj d d (.row e s n sc g))→dK P L W d f dn st K
  |sem (hE:Enters P f) (h: ∀ (g:Base) (N:Nat) (bs:List (Array Value)) (ρ:Nat→Value) (a:Act) (w:World) (args:List Value),Rel g N bs ρ a w st→aI (C2 (aC g w ρ st.heap)) dn args→
     Calls P f args.toArray w fun e w'=> ∃u x st' ρ',e= .returned u∧K x st'∧Rel g N bs ρ' a w' st'∧C2 (aC g w' ρ' st'.heap) x u):dK P L W d f dn st K
def XI:AV→Bool
  | .own _=>false
  |_=>true
def XJ:AV→Bool
  | .agg cs=>cs.all XI
  |x=>XI x
inductive Ep (k:ByteArray) (ks:List (ByteArray×Option Nat)) (K:Nat→Nat→Prop):Prop where
  |mk (i id:Nat) (k':ByteArray) (h:ks[i]? =some (k',some id)) (hk:k=k') (hK:K i id):Ep k ks K
def KZ (L:Lay) (d:Nat) (st:AS) (t:TypeId) (m ix:AV) (K:AV→AS→Prop):Prop:=
 match aZ L t,ix,m with
 | some ti,.v (.string k),.own id=>(match ti.kind with
   | .map kt et=>(match aZ L kt,aZ L et with
     | some ki,some ei=>(match ki.kind,ei.kind with
       | .str,.slice e=>(match aZ L e with
         | some ee=>bif Nat.ble 1 ee.size then(match aP id (st.obj d d (.row e ee.size 0 true (fun _=>[]))).heap with
           |some (.mp t' ks rs)=>Ep k ks (fun i _=>K (.dF []) ⟨(st.obj d d (.row e ee.size 0 true (fun _=>[]))).sl,setObj id (.mp t' (ks.set i (k,some d)) rs) (st.obj d d (.row e ee.size 0 true (fun _=>[]))).heap,(st.obj d d (.row e ee.size 0 true (fun _=>[]))).back,(st.obj d d (.row e ee.size 0 true (fun _=>[]))).base⟩)
           |_=>False)else False
         |none=>False)
       |_,_=>False)
     |_,_=>False)
   |_=>False)
 |_,_,_=>False
def acE (x y:AV) (K:AV→Prop):Prop:=
 match x,y with
 | .v (.int k a),.v (.int _ b)=>K (.v (.int k (if b<a then b else a)))
 |_,_=>False
def acF (x y:AV) (K:AV→Prop):Prop:=
 match x,y with
 | .v (.int k a),.v (.int _ b)=>K (.v (.int k (if b>a then b else a)))
 |_,_=>False
def Tm (lo k:Nat) (f g:Nat→List AV):Nat→List AV:=pR lo f (pR k g (fun i=>f (lo+k+i)))
def acG (L:Lay) (st:AS) (s:Nat) (t:TypeId) (y:AV) (K:Nat→Bool→(Nat→List AV)→Prop):Prop:=
 match y with
 | .jq id s1 lo m=>(match aZ L t with
   | some ti=>(match ti.kind,aP id st.heap with
     | .slice _,some (.row _ s' r sc f)=>bif Nat.beq s s1&&Nat.beq s s' then UW (lo+m≤r) (K m sc (fun i=>f (lo+i)))else False
     |_,_=>False)
   |none=>False)
 |y=>match Tc L st s t y with|some (n,sc',g)=>K n sc' g|none=>False
def XK (L:Lay) (st:AS) (t tx:TypeId) (x y:AV) (K:AV→AS→Prop):Prop:=
 match aZ L t with
 | some ti =>match ti.kind with
   | .slice e=>match aZ L e with
     |some ei=>bif Nat.ble 1 ei.size then acG L st ei.size tx y (fun n sc' g=>match x with
         | .own id=>(match aP id st.heap with
           |some (.row e' s m sc f)=>bif Nat.beq s ei.size then UW (n≤m) (K (.v (.int .i64 (n:Int))) ⟨st.sl,setObj id (.row e' s m (sc&&sc') (Tm 0 n f g)) st.heap,st.back,st.base⟩)else False
           |_=>False)
         | .jq id s lo m=>(match aP id st.heap with
           |some (.row e' s' r sc f)=>bif Nat.beq s ei.size&&Nat.beq s' s then UW (n≤m∧lo+m≤r) (K (.v (.int .i64 (n:Int))) ⟨st.sl,setObj id (.row e' s' r (sc&&sc') (Tm lo n f g)) st.heap,st.back,st.base⟩)else False
           |some (.box t' cs)=>bif Nat.beq s 1&&Nat.ble n m&&Nat.ble (lo+n*ei.size) cs.length then K (.v (.int .i64 (n:Int))) ⟨st.sl,setObj id (.box t' (splice cs lo (flat n g))) st.heap,st.back,st.base⟩else False
           |_=>False)
         |_=>False)else False
     |none=>False
   |_=>False
 |none=>False
def QC (L:Lay) (st:AS) (t:TypeId) (x:AV) (K:AV→AS→Prop):Prop:=
 match aZ L t with
 | some ti=>match ti.kind,x with
   | .slice _,.v (.slice none _ _)=>K (.v undef) st
   | .slice e,.jq id s lo m=>(match aZ L e with
     | some ei=>(match aP id st.heap with
       |some (.row e' s' r sc f)=>bif Nat.beq s ei.size&&Nat.beq s' s&&Nat.beq ei.zero.length ei.size&&Nat.ble 1 ei.size&&ei.zero.all (fun x=>x.oneCell')then UW (lo+m≤r) (K (.v undef) ⟨st.sl,setObj id (.row e' s' r sc (Tm lo m f (fun _=>ei.zero.map .v))) st.heap,st.back,st.base⟩)else False
       |_=>False)
     |none=>False)
   |_,_=>False
 |none=>False
def vP (L:Lay) (d:Nat) (st:AS) (b:Builtin) (ts:List TypeId) (xs:List AV) (K:AV→AS→Prop):Prop:=
 match b,ts,xs with
 | .len,[t],[x]=>acA L st t x (fun y=>K y st)
 | .append,[t,tx],[x,y]=>KP L d st t tx x y K
 | .min,_,[x,y]=>acE x y (fun z=>K z st)
 | .max,_,[x,y]=>acF x y (fun z=>K z st)
 | .delete,[t,_],[x,y]=>KZ L d st t x y K
 | .copy,[t,tx],[x,y]=>XK L st t tx x y K
 | .clear,[t],[x]=>QC L st t x K
 |_,_,_=>False
structure ZN (P:Program) (t:TypeId) (A:Prop):Prop where
 mk::
 z: ∀w,(zeroValue t).run P w= .ok (.slice none 0 0) w
 k:A
def rowB (h:List (Nat×AO)) (i:Nat):Bool:=match aP i h with|some (.row ..)=>true|_=>false
def La (P:Program) (L:Lay) (st:AS) (t:TypeId) (x ix:AV) (K:AV→Prop):Prop:=
 match aZ L t,ix with
 | some ti,.v (.string k)=>(match ti.kind with
   | .map kt et=>(match aZ L kt with
     | some ki=>(match ki.kind,x with
       | .str,.own id=>(match aP id st.heap with
         |some (.mp _ ks _)=>ZN P et (Ep k ks (fun _ i=>bif rowB st.heap i then K (.own i)else False))
         |_=>False)
       | .str,.v (.map none)=>ZN P et (K (.v (.slice none 0 0)))
       |_,_=>False)
     |none=>False)
   |_=>False)
 |_,_=>False
def zk (L:Lay) (st:AS) (t:TypeId) (m ix x:AV) (K:AS→Prop):Prop:=
 match aZ L t,ix,m,x with
 | some ti,.v (.string k),.own id,.own j=>(match ti.kind with
   | .map kt _=>(match aZ L kt with
     | some ki=>(match ki.kind,aP id st.heap,aP j st.heap with
       | .str,some (.mp t' ks rs),some (.row _ _ n _ _)=>UW (0<n) (Ep k ks (fun i _=>K ⟨st.sl,setObj id (.mp t' (ks.set i (k,some j)) rs) st.heap,st.back,st.base⟩))
       |_,_,_=>False)
     |none=>False)
   |_=>False)
 |_,_,_,_=>False
inductive acH (K:List ByteArray→Prop):Prop where
  |mk (keys:List ByteArray) (hn:keys.Nodup) (h:K keys):acH K
def Tn (e:TypeId) (s:Nat):List ByteArray→AS→List (ByteArray×Option Nat)→(List (ByteArray×Option Nat)→AS→Prop)→Prop
  |[],st,acc,K=>K acc st
  |k::r,st,acc,K=>nameOf st (fun d=>Tn e s r (st.obj d d (.row e s 0 true (fun _=>[]))) (acc++[(k,some d)]) K)
def Fq (L:Lay) (st:AS) (t:TypeId) (K:AV→AS→Prop):Prop:=
 match aZ L t with
 | some ti=>(match ti.kind with
   | .map kt et=>(match aZ L kt,aZ L et with
     | some ki,some ei=>(match ki.kind,ei.kind with
       | .str,.slice e=>(match aZ L e with
         |some ee=>bif Nat.ble 1 ee.size then acH (fun keys=>Tn e ee.size keys st [] (fun ks st'=>nameOf st' (fun d=>K (.own d) (st'.obj d d (.mp t ks [])))))else False
         |none=>False)
       |_,_=>False)
     |_,_=>False)
   |_=>False)
 |none=>False
def Tq (L:Lay) (t:TypeId):Bool:=match aZ L t with
  | some ti=>(match ti.kind with
    | .map kt _=>(match aZ L kt with|some ki=>(match ki.kind with| .str=>true|_=>false)|none=>false)
    |_=>false)
  |none=>false
def lH:Op→Bool
  | .move _=>true
  | .assign _=>true
  | .pick .. =>true
  | .load .. =>true
  | .fieldAddr .. =>true
  | .field .. =>true
  | .indexAddr .. =>true
  | .index .. =>true
  | .extract .. =>true
  | .build .. =>true
  | .binOp .. =>true
  | .unOp .. =>true
  | .convert .. =>true
  | .nilCheck _=>true
  | .sliceToArrayPointer .. =>true
  | .lookup _ _ _ false=>true
  | .call {callee:= .builtin .len,.. }=>true
  | .call {callee:= .builtin .min,.. }=>true
  | .call {callee:= .builtin .max,.. }=>true
  |_=>false
def U3 (st:AS):AV→Bool
  | .v (.map none)=>true
  | .own id=>(match aP id st.heap with|some (.obs _)=>true|_=>false)
  | .box id _=>(match aP id st.heap with|some (.obs _)=>true|_=>false)
  |_=>false
def acI (st:AS):Op→Bool
  | .load _ p=>U3 st (st.ev p)
  | .store _ p _=>U3 st (st.ev p)
  | .indexAddr _ x _=>U3 st (st.ev x)
  | .lookup _ x _ _=>U3 st (st.ev x)
  | .mapUpdate _ m _ _=>U3 st (st.ev m)
  | .call c=>(match c.callee with| .builtin _=>(match c.args.toList with|x::_=>U3 st (st.ev x)|[]=>false)|_=>false)
  |_=>false
inductive nS (P:Program) (st:AS) (op:Op) (K:AV→AS→Prop):Prop where
  |q (x:AV) (hK:K x st) (h: ∀ (g:Base) (N:Nat) (bs:List (Array Value)) (ρ:Nat→Value) (a:Act) (w:World) (o:Oper),o.op=op→Rel g N bs ρ a w st→ ∃u,C2 (aC g w ρ st.heap) x u∧(execOp a.eval o).run P w= .ok (.value u) w)
  |mk (hq:lH op=false) (h: ∀ (g:Base) (N:Nat) (bs:List (Array Value)) (ρ:Nat→Value) (a:Act) (w:World) (o:Oper) (next:Act→World→Prop) (Q:Exit→Act→World→Prop),o.op=op→Rel g N bs ρ a w st→
     (∀x st' u ρ' w',K x st'→Rel g N bs ρ' a w' st'→C2 (aC g w' ρ' st'.heap) x u→next (a.put o.dst u) w')→o.wp P a w next Q)
def QD (P:Program) (L:Lay) (W:Walk) (_d:Nat) (st:AS) (op:Op) (K:AV→AS→Prop):Prop:=
 bif acI st op then nS P st op K else
 match op with
 | .move x=>K (st.ev x) st
 | .assign x=>K (st.ev x) st
 | .pick c a b=>match st.ev c with| .v (.bool t)=>K (match t with|true=>st.ev a|false=>st.ev b) st|_=>False
 | .alloc t=>match aZ L t with|some i=>nameOf st (fun d=>K (.box d 0) (st.obj d d (.box t (i.zero.map .v))))|none=>False
 | .box t x=>match(st.ev x).cells? with|some cs=>bif cs.all (vG st.heap)then nameOf st (fun d=>K (.box d 0) (st.obj d d (.box t cs)))else False|none=>False
 | .load t p=>S9 L st t (st.ev p) (fun y=>K y st)
 | .store t p x=>Qv L st t (st.ev p) (st.ev x) (fun st'=>K (.v undef) st')
 | .fieldAddr t x i=>nZ L t (st.ev x) i (fun y=>K y st)
 | .field t x i=>Qw L t (st.ev x) i (fun y=>K y st)
 | .indexAddr t x i=>zi L st t (st.ev x) (st.ev i) (fun y=>K y st)
 | .index t x i=>Qx L t (st.ev x) (st.ev i) (fun y=>K y st)
 | .extract x i=>Fg (st.ev x) i (fun y=>K y st)
 | .build t parts=>Cm L st.heap t (parts.toList.map fun p=>(p.1,st.ev p.2)) (fun y=>K y st)
 | .buildSlice t n parts=>nameOf st (fun d=>bif (parts.toList.map fun p=>st.ev p.2).all XJ then ru L d st t n (parts.toList.map fun p=>(p.1,st.ev p.2)) K else vH (tC st (parts.toList.map fun p=>st.ev p.2)) (fun st'=>ru L d st' t n (parts.toList.map fun p=>(p.1,st'.ev p.2)) K))
 | .binOp o t x y _=>acz P L o t (st.ev x) (st.ev y) (fun z=>K z st)
 | .unOp o _ x=>aun o (st.ev x) (fun z=>K z st)
 | .convert s t x=>Fh L st s t (st.ev x) (fun z=>K z st)
 | .slice t x lo hi mx=>aslice L st t (st.ev x) (lo.map st.ev) (hi.map st.ev) (mx.map st.ev) K
 | .nilCheck x=>match(st.ev x).Xt with| .box i k=>K (.box i k) st| .fn g cs=>K (.fn g cs) st|_=>False
 | .makeFunc (.func g) first caps=>match first.toList with
   |[]=>bif (caps.toList.map st.ev).all (vG st.heap)then K (.fn g (caps.toList.map st.ev)) st else False
   |x::r=>match st.ev x with| .box id off=>bif Nat.blt g million&&r.isEmpty&&caps.toList.isEmpty then K (.cf (Nat.add g million) id off) st else False|_=>False
 | .call c=>match c.callee with
   | .builtin b=>nameOf st (fun d=>vP L d st b c.argTypes.toList (c.args.toList.map st.ev) K)
   | .value x=>match(st.ev x).Xt with
     | .fn g caps=>nameOf st (fun d=>dK P L W d g (c.args.toList.map st.ev++caps) st K)
     | .cf g id off=>bif Nat.blt g million then False else nameOf st (fun d=>dK P L W d (Nat.sub g million) (.box id off::c.args.toList.map st.ev) st K)
     |_=>False
   |_=>False
 | .makeSlice t l c=>nameOf st (fun d=>Xz L d st t (st.ev l) (st.ev c) K)
 | .sliceToArrayPointer t x=>Qz L t (st.ev x) (fun y=>K y st)
 | .lookup t x i false=>La P L st t (st.ev x) (st.ev i) (fun y=>K y st)
 | .mapUpdate t m i x=>zk L st t (st.ev m) (st.ev i) (st.ev x) (fun st'=>K (.v undef) st')
 | .makeMap t none=>bif Tq L t then Fq L st t K else nS P st (.makeMap t none) K
 |_=>nS P st op K
def iH (b:Bool) (A B:Prop):Prop:=match b with|true=>A|false=>B
theorem iH.mk {b:Bool} {A B:Prop} (h1:b=true→A) (h2:b=false→B):iH b A B:=by cases b;exact h2 rfl;exact h1 rfl
theorem iH.dec {p:Prop} [Decidable p] {A B:Prop} (h1:p→A) (h2: ¬p→B):iH (decide p) A B:=by
 by_cases h:p
 · rw[decide_eq_true h];exact h1 h
 · rw[decide_eq_false h];exact h2 h
theorem iH.yes {b:Bool} {A B:Prop} (h:b=true) (a:A):iH b A B:=by rw[h];exact a
theorem iH.no {b:Bool} {A B:Prop} (h:b=false) (a:B):iH b A B:=by rw[h];exact a
def force (x:AV) (K:AV→Prop):Prop:=
 match x with
 | .v (.bool b)=>iH b (K (.v (.bool true))) (K (.v (.bool false)))
 | .v y=>K (.v y)
 | .agg cs=>K (.agg cs)
 | .dF vs=>K (.dF vs)
 | .sl s n sc f=>K (.sl s n sc f)
 | .own i=>K (.own i)
 | .dP i s j k=>K (.dP i s j k)
 | .jq i s j k=>K (.jq i s j k)
 | .box i k=>K (.box i k)
 | .cf g i k=>K (.cf g i k)
 | .el cs k=>K (.el cs k)
 | .fn g cs=>K (.fn g cs)
 | .junk=>K .junk
theorem force_eq (x:AV) (K:AV→Prop):force x K=K x:=by
 cases x with
 | v y=>
   cases y with
   |bool b=>cases b<;>rfl
   |_=>rfl
 |_=>rfl
def pG (N:Nat) (st:AS) (d:Option Tmp) (x:AV) (K:AS→Prop):Prop:=
 match d with
 |some d=>bif Nat.ble (d+1) N then force x (fun x=>match st with|⟨sl,h,bk,b⟩=>K ⟨(d,x)::sl,h,bk,b⟩)else False
 |none=>K st
def zl (P:Program) (L:Lay) (W:Walk) (dst:Option Tmp) (st:AS) (op:Op) (K:AV→AS→Prop):Prop:=
 match dst with
 |some d=>QD P L W d st op K
 |none=>QD P L W 0 st op K
def vI (P:Program) (L:Lay) (W:Walk) (N:Nat) (ops:List Oper) (Q:AS→Prop):List Oper→AS→Prop
  |[],st=>Q st
  | ⟨dst, op,_,_,_,guard⟩::rest,st=>
    match guard with
    |none=>zl P L W dst st op (fun x st'=>pG N st' dst x (vI P L W N ops Q rest))
    | some (j,want)=>match(ops[j]?).bind (·.dst)with
      | some dj=>bif Nat.ble (dj+1) N then(match st.tmps dj with
        | .v (.bool b)=>(match b==want with
          |true=>zl P L W dst st op (fun x st'=>pG N st' dst x (vI P L W N ops Q rest))
          |false=>pG N st dst (.v undef) (vI P L W N ops Q rest))
        | .v (.tuple _)=>pG N st dst (.v undef) (vI P L W N ops Q rest)
        |_=>False)else False
      |none=>False
def aS (x y:AV):Prop:= ∀ (X:CX) (u:Value),C2 X x u→C2 X y u
def bW (o o':AO):Prop:= ∀ (X:CX) (id:Nat),bn X id o→bn X id o'
theorem aS.refl (x:AV):aS x x:=fun _ _ h=>h
theorem bW.refl (o:AO):bW o o:=fun _ _ h=>h
def pI:List (List (Nat×AV))→List (List (Nat×AV))→Prop
  |[],[]=>True
  |f::fs,h::hs=>(∀t,qW h t= .junk∨aS (qW f t) (qW h t))∧pI fs hs
  |_,_=>False
theorem pI.refl: ∀fs,pI fs fs
  |[]=>trivial
  |_::fs=>⟨fun _=> .inr (aS.refl _),pI.refl fs⟩
structure Fv (st S:AS):Prop where
 tm: ∀t,S.tmps t= .junk∨aS (st.tmps t) (S.tmps t)
 hp: ∀p∈S.heap,∃o,aP p.1 st.heap=some o∧bW o p.2
 nd:(S.heap.map (·.1)).Nodup
 bk:pI st.back S.back
def LeT (st:AS):List (Nat×AV)→Prop
  |[]=>True
  |p::l=>aS (st.tmps p.1) p.2∧LeT st l
def LeH (st:AS):List (Nat×AO)→Prop
  |[]=>True
  |p::l=>(∃o,aP p.1 st.heap=some o∧bW o p.2)∧LeH st l
def nodupB:List Nat→Bool
  |[]=>true
  |x::l=> !(l.any (Nat.beq x))&&nodupB l
theorem oU: ∀ {l:List Nat},nodupB l=true→l.Nodup
  |[],_=>List.nodup_nil
  | x::l,h=>by
    simp only[nodupB,Bool.and_eq_true,Bool.not_eq_true']at h
    refine List.nodup_cons.2 ⟨fun hx=> ?_,oU h.2⟩
    have:=List.any_eq_false.1 h.1 x hx
    simp at this
theorem Fv.mk' {st:AS} (l:List (Nat×AV)) (h:List (Nat×AO)) (ht:LeT st l) (hh:LeH st h) (hn:nodupB (h.map (·.1))=true):Fv st ⟨l,h,st.back,st.base⟩:=by
 refine⟨fun t=> ?_,fun p hp=> ?_,oU hn,pI.refl _⟩
 · induction l with
   |nil=>exact .inl rfl
   | cons p l ih=>
     show qW (p::l) t= .junk∨aS (st.tmps t) (qW (p::l) t)
     simp only[qW]
     cases hb:Nat.beq t p.1 with
     | true=>
       obtain rfl:=Nat.eq_of_beq_eq_true hb
       exact .inr ht.1
     |false=>exact ih ht.2
 · induction h with
   |nil=>cases hp
   | cons q h ih=>
     rcases List.mem_cons.1 hp with rfl|hp'
     · exact hh.1
     · exact ih hh.2 (by simp only[List.map_cons,nodupB,Bool.and_eq_true]at hn;exact hn.2) hp'
def kM:List (Nat×Nat)→Nat→Option Nat
  |[],_=>none
  |(k,i)::r,x=>bif Nat.beq x k then some i else kM r x
def U4:List (Nat×Nat)→Nat→Bool
  |[],_=>false
  |(_,i)::r,x=>Nat.beq x i||U4 r x
def kZ (σ:List (Nat×Nat)) (k:Nat):Option Nat:=match kM σ k with|some i=>some i|none=>bif U4 σ k then none else some k
def pU (σ:List (Nat×Nat)):AV→AV
  | .v x=> .v x
  | .agg cs=> .agg cs
  | .dF vs=> .dF vs
  | .sl s n sc f=> .sl s n sc f
  | .own id=>match kZ σ id with|some i=> .own i|none=> .junk
  | .dP id s i k=>match kZ σ id with|some j=> .dP j s i k|none=> .junk
  | .jq id s i k=>match kZ σ id with|some j=> .jq j s i k|none=> .junk
  | .box id off=>match kZ σ id with|some i=> .box i off|none=> .junk
  | .cf g id off=>match kZ σ id with|some i=> .cf g i off|none=> .junk
  | .el cs k=> .el cs k
  | .fn g cs=> .fn g cs
  | .junk=> .junk
def Ny (σ:List (Nat×Nat)):AV→AV
  | .v x=> .v x
  | .agg cs=> .agg (cs.map (pU σ))
  | .dF vs=> .dF vs
  | .sl s n sc f=> .sl s n sc f
  | .own id=>match kZ σ id with|some i=> .own i|none=> .junk
  | .dP id s i k=>match kZ σ id with|some j=> .dP j s i k|none=> .junk
  | .jq id s i k=>match kZ σ id with|some j=> .jq j s i k|none=> .junk
  | .box id off=>match kZ σ id with|some i=> .box i off|none=> .junk
  | .cf g id off=>match kZ σ id with|some i=> .cf g i off|none=> .junk
  | .el cs k=> .el cs k
  | .fn g cs=> .fn g (cs.map (pU σ))
  | .junk=> .junk
def CJ (σ:List (Nat×Nat)):AV→AV
  | .v x=> .v x
  | .agg cs=> .agg (cs.map (pU σ))
  | .dF vs=> .dF (vs.map (Ny σ))
  | .sl s n sc f=> .sl s n sc f
  | .own id=>match kZ σ id with|some i=> .own i|none=> .junk
  | .dP id s i k=>match kZ σ id with|some j=> .dP j s i k|none=> .junk
  | .jq id s i k=>match kZ σ id with|some j=> .jq j s i k|none=> .junk
  | .box id off=>match kZ σ id with|some i=> .box i off|none=> .junk
  | .cf g id off=>match kZ σ id with|some i=> .cf g i off|none=> .junk
  | .el cs k=> .el cs k
  | .fn g cs=> .fn g (cs.map (pU σ))
  | .junk=> .junk
def jO (σ:List (Nat×Nat)):List (ByteArray×Option Nat)→List (ByteArray×Option Nat)
  |[]=>[]
  |(k,some i)::l=>(k,kZ σ i)::jO σ l
  |(k,none)::l=>(k,none)::jO σ l
theorem xJ (σ:List (Nat×Nat)): ∀ks:List (ByteArray×Option Nat),(jO σ ks).map (·.1)=ks.map (·.1)
  |[]=>rfl
  |(k,some i)::l=>by simp[jO,xJ σ l]
  |(k,none)::l=>by simp[jO,xJ σ l]
theorem jK.ren {ρ ρ':Nat→Value} {σ:List (Nat×Nat)} (h: ∀k i,kZ σ k=some i→ρ' i=ρ k): ∀ {ks:List (ByteArray×Option Nat)} {vs:List Value},jK ρ ks vs→jK ρ' (jO σ ks) vs
  |[],_,k=>k
  |(k,some i)::l,vs,⟨v,r,e,hi,hr⟩=>⟨v,r,e,fun j hj=>by rw[h i j hj];exact hi _ rfl,jK.ren h hr⟩
  |(k,none)::l,vs,⟨v,r,e,_,hr⟩=>⟨v,r,e,fun j hj=>(by cases hj),jK.ren h hr⟩
def AO.ren (σ:List (Nat×Nat)):AO→AO
  | .box t cs=> .box t (cs.map (pU σ))
  | .row e s n sc f=> .row e s n sc f
  | .mp t ks rs=> .mp t (jO σ ks) rs
  | .obs o=> .obs o
  | .rn e cs=> .rn e (cs.map (pU σ))
def iY (σ:List (Nat×Nat)):List (Nat×AO)→List (Nat×AO)
  |[]=>[]
  |(k,o)::h=>match kZ σ k with|some i=>(i,o.ren σ)::iY σ h|none=>iY σ h
def AS.ren (st:AS) (σ:List (Nat×Nat)):AS:=⟨Ad (CJ σ) st.sl,iY σ st.heap,st.back.map (Ad (CJ σ)),st.base⟩
structure dL (σ:List (Nat×Nat)) (st S:AS):Prop where
 nd:nodupB (σ.map (·.2))=true
 le:Fv (st.ren σ) S
def xK (st S:AS):Prop:= ∀ (g:Base) (N:Nat) (bs:List (Array Value)) (ρ:Nat→Value) (a:Act) (w:World),Rel g N bs ρ a w st→ ∃ρ',Rel g N bs ρ' a w S
theorem xK.refl (st:AS):xK st st:=fun _ _ _ ρ _ _ R=>⟨ρ,R⟩
theorem xK.trans {a b c:AS} (h:xK a b) (k:xK b c):xK a c:=fun g N bs ρ a w R=>by
 obtain⟨ρ1,R1⟩:=h g N bs ρ a w R
 exact k g N bs ρ1 a w R1
def Ak (body:(jI→AS→Prop)→AS→Prop) (Q:jI→AS→Prop):Nat→AS→Prop
  |0,_=>False
  |n+1,st=>body (fun e st'=>match e with| .normal=>Ak body Q n st'| .exit i=>Q (.exit i) st'| .ret=>Q .ret st') st
inductive aN (body:(jI→AS→Prop)→AS→Prop) (Q:jI→AS→Prop):AS→Prop where
  | mk {st:AS} (X:Type) (S:X→AS) (m:X→Nat) (x0:X) (σ:List (Nat×Nat)) (h0:dL σ st (S x0))
    (hb: ∀x,body (fun e st'=>match e with| .normal=> ∃y σ,dL σ st' (S y)∧m y<m x| .exit i=>Q (.exit i) st'| .ret=>Q .ret st') (S x)):aN body Q st
  |rounds {st:AS} (n:Nat) (h:Ak body Q n st):aN body Q st
  |nil {st:AS} (t d:Nat) (e:TypeId) (s:Nat) (f:Nat→List AV) (ht:st.tmps t= .v (.slice none 0 0)) (hs:0<s) (h:aN body Q ((st.obj d d (.row e s 0 true f)).put t (.own d))):aN body Q st
  |XL {st:AS} (id k d:Nat) (e:TypeId) (s:Nat) (f:Nat→List AV) {t:TypeId} {cs:List AV} (hs:0<s) (hf:aP id (st.obj d d (.row e s 0 true f)).heap=some (.box t cs)) (hk:cs[k]? =some (.v (.slice none 0 0)))
     (h:aN body Q ⟨(st.obj d d (.row e s 0 true f)).sl,setObj id (.box t (cs.set k (.own d))) (st.obj d d (.row e s 0 true f)).heap,(st.obj d d (.row e s 0 true f)).back,(st.obj d d (.row e s 0 true f)).base⟩):aN body Q st
  |CB {st:AS} (id:Nat) {e:TypeId} {s n:Nat} {sc:Bool} {f:Nat→List AV} (hf:aP id st.heap=some (.row e s n sc f)) (h:aN body Q (st.freeze id s n sc f)):aN body Q st
  |imp {st:AS} (S:AS) (h0:xK st S) (h:aN body Q S):aN body Q st
  | mkI {st:AS} (X:Type) (S:X→AS) (m:X→Nat) (x0:X) (h0:xK st (S x0))
    (hb: ∀x,body (fun e st'=>match e with| .normal=> ∃y,xK st' (S y)∧m y<m x| .exit i=>Q (.exit i) st'| .ret=>Q .ret st') (S x)):aN body Q st
inductive aew (body:AS→Prop) (st:AS):Prop where
  |mk (S:AS) (h0:Fv st S) (hb:body S):aew body st
inductive iK (P:Program) (L:Lay) (W:Walk) (N:Nat) (id:Nat) (ops:Array Oper) (K:AS→Prop) (st:AS):Prop where
  |quiet (hm:P.follows .mixedOrders=true) (hB:Region.lexB .any ops=true) (hq:ops.toList.all (fun o=>lH o.op)=true) (h:vI P L W N ops.toList K ops.toList st):iK P L W N id ops K st
  |sem (h: ∀ (g:Base) (bs:List (Array Value)) (ρ:Nat→Value) (a:Act) (w:World) (E:Exit→Act→World→Prop),Rel g N bs ρ a w st→(∀ρ a w st,Rel g N bs ρ a w st→K st→E .normal a w)→(Code.region id ops true).wp P E a w):iK P L W N id ops K st
def qOf (g:Base) (N:Nat) (bs:List (Array Value)) (Q:jI→AS→Prop) (E:Exit→Act→World→Prop):Prop:=
 (∀ρ a w st,Rel g N bs ρ a w st→Q .normal st→E .normal a w)∧(∀i ρ a w st,Rel g N bs ρ a w st→Q (.exit i) st→E (.exit i) a w)∧(∀ρ a w st,Rel g N bs ρ a w st→Q .ret st→E .ret a w)
inductive Es (P:Program) (N:Nat) (c:Code) (Q:jI→AS→Prop) (st:AS):Prop where
  |mk (h: ∀ (g:Base) (bs:List (Array Value)) (E:Exit→Act→World→Prop) (ρ:Nat→Value) (a:Act) (w:World),qOf g N bs Q E→Rel g N bs ρ a w st→c.wp P E a w):Es P N c Q st
def kL (P:Program) (L:Lay) (W:Walk) (N lv:Nat):Code→(jI→AS→Prop)→AS→Prop
  | .skip,Q,st=>Q .normal st
  | .region id ops draw,Q,st=>match draw with|false=>vI P L W N ops.toList (fun st'=>nrm lv st' (Q .normal)) ops.toList st|true=>iK P L W N id ops (fun st'=>nrm lv st' (Q .normal)) st
  | .seq a b,Q,st=>kL P L W N lv a (fun e st'=>match e with| .normal=>kL P L W N lv b Q st'| .exit i=>Q (.exit i) st'| .ret=>Q .ret st') st
  | .cond c a b,Q,st=>match st.ev c with| .v (.bool t)=>(match t with|true=>kL P L W N lv a Q st|false=>kL P L W N lv b Q st)|_=>False
  | .block id c,Q,st=>kL P L W N lv c (fun e st'=>match e with| .normal=>Q .normal st'| .exit i=>(bif Nat.beq i id then Q .normal st' else Q (.exit i) st')| .ret=>Q .ret st') st
  | .exit id,Q,st=>Q (.exit id) st
  | .ret,Q,st=>Q .ret st
  | .loop c,Q,st=>aN (kL P L W N lv c) Q st
  |c,Q,st=>Es P N c Q st
def yR (P:Program) (L:Lay):Nat→Walk
  |0=>fun _ _ _ _ _=>False
  |n+1=>fun N lv c Q st=>kL P L (yR P L n) N lv c Q st
def aaz (h:List (Nat×AO)) (id d:Nat):AV→AV
  | .own i=>bif Nat.beq i id then .own d else IV h (.own i)
  |x=>IV h x
def acJ (h:List (Nat×AO)) (id d:Nat):AV→AV
  | .agg cs=> .agg (cs.map (aaz h id d))
  |x=>aaz h id d x
def adK (h:List (Nat×AO)) (id d:Nat):AV→AV
  | .dF vs=> .dF (vs.map (acJ h id d))
  |x=>acJ h id d x
def U5 (h:List (Nat×AO)):AV→AV
  | .dF vs=> .dF (vs.map (QA h))
  |x=>QA h x
inductive aJ (st:AS) (x:AV):AV→List (Nat×AO)→Prop where
  |plain (r:AV) (hr:aS (U5 st.heap x) r):aJ st x r []
  |own (id d:Nat) (r:AV) (e:TypeId) (s n:Nat) (sc:Bool) (f:Nat→List AV) (o':AO) (hf:aP id st.heap=some (.row e s n sc f)) (ho:bW (.row e s n sc f) o') (hr:aS (adK st.heap id d x) r):aJ st x r [(d,o')]
  |nil (d:Nat) (e:TypeId) (s:Nat) (f:Nat→List AV) (hx:x= .v (.slice none 0 0)) (hs:0<s):aJ st x (.own d) [(d,.row e s 0 true f)]
def Nz (L:Lay) (fn:Func) (r:AV) (h:List (Nat×AO)):jI→AS→Prop
  | .normal,st=>mP L st fn.results.toList (fun x=>aJ st x r h)
  | .ret,st=>mP L st fn.results.toList (fun x=>aJ st x r h)
  | .exit _,_=>False
end
section
open Go.RowKit
theorem jw {P:Program} {L:Lay} (hL:bQ P L) {t:TypeId} {i:TI} (h:aZ L t=some i):
  ∃info z d,P.info? t=some info∧P.underlying t=some d∧info.zero=some z∧info.size=i.size∧info.bytes=i.bytes∧z.cells.toList=i.zero∧kindOf d=i.kind:=by
 have hf:=hL t i h
 unfold Qs at hf
 split at hf
 · rename_i info d h1 h2
   cases hz:info.zero with
   |none=>rw[hz]at hf;cases hf
   | some z=>
     rw[hz]at hf
     simp only[Option.map_some,Option.some.injEq]at hf
     subst hf
     exact⟨info,z,d,h1,h2,hz,rfl,rfl,rfl,rfl⟩
 · cases hf
section
variable {P:Program} {L:Lay}
theorem iw (hL:bQ P L) {t:TypeId} {i:TI} (h:aZ L t=some i) (w:World):(sizeOf t).run P w= .ok i.size w:=by
 obtain⟨info,z,d,h1,h2,h3,h4,_⟩:=jw hL h
 simp[sizeOf,typeInfo,h1,h4]
theorem og (hL:bQ P L) {t:TypeId} {i:TI} (h:aZ L t=some i) (w:World):(isAgg t).run P w= .ok i.isAgg w:=by
 obtain⟨info,z,d,h1,h2,h3,h4,h5,h6,h7⟩:=jw hL h
 unfold isAgg
 rw[Sem.run_bind,run_underlying h2 w]
 unfold TI.isAgg
 rw[←h7]
 cases d<;>rfl
theorem Am (hL:bQ P L) {t:TypeId} {i:TI} (h:aZ L t=some i) (w:World): ∃z,(zeroValue t).run P w= .ok z w∧z.cells.toList=i.zero:=by
 obtain⟨info,z,d,h1,h2,h3,h4,h5,h6,h7⟩:=jw hL h
 exact⟨z,by simp[zeroValue,typeInfo,h1,h3],h6⟩
theorem C2.dM {X:CX} {x u:Value} (h:C2 X (.v x) u):u=x:=h
theorem C2.acK {X:CX} {g:FuncId} {id k:Nat} {u:Value} (h:C2 X (.cf g id k) u): ∃b,eP (X.ρ id)= .pointer (some ⟨b,0,none⟩)∧u=cfV g (.pointer (some ⟨b,k,none⟩)):=h
theorem C2.kN {X:CX} {id k:Nat} {u:Value} (h:C2 X (.box id k) u): ∃b,eP (X.ρ id)= .pointer (some ⟨b,0,none⟩)∧u= .pointer (some ⟨b,k,none⟩):=h
theorem C2.QE {X:CX} {cs:List AV} {k:Nat} {u:Value} (h:C2 X (.el cs k) u): ∃b o us,u= .pointer (some ⟨b,o+k,none⟩)∧X.keep b∧aI (PC X.w X.keep) cs us∧ ∀ (j:Nat) (y:Value),us[j]? =some y→X.w.cell? ⟨b,o+j,none⟩=some y:=h
theorem C2.Ap {X:CX} {id s i k:Nat} {u:Value} (h:C2 X (.dP id s i k) u): ∃b n c,X.ρ id= .slice (some ⟨b,0,none⟩) n c∧u= .pointer (some ⟨b,i*s+k,none⟩):=h
theorem C2.rD {X:CX} {id s i m:Nat} {u:Value} (h:C2 X (.jq id s i m) u):(∃b c,jm (eP (X.ρ id))=[b]∧m≤c∧u= .slice (some ⟨b,i*s,none⟩) m c)∨(m=0∧ ∃A c,u= .slice A 0 c):=h
theorem C2.rE {X:CX} {cs:List AV} {u:Value} (h:C2 X (.agg cs) u): ∃us,u= .agg us.toArray∧aI (C0 X) cs us:=h
theorem C2.uy {X:CX} {vs:List AV} {u:Value} (h:C2 X (.dF vs) u): ∃us,u= .tuple us.toArray∧aI (C1 X) vs us:=h
theorem C2.CO {X:CX} {g:FuncId} {vs:List AV} {u:Value} (h:C2 X (.fn g vs) u): ∃us,u= .func (.func g) #[] us.toArray∧aI (C0 X) vs us:=h
theorem C2.uz {X:CX} {s n:Nat} {sc:Bool} {f:Nat→List AV} {u:Value} (h:C2 X (.sl s n sc f) u):PC X.w X.keep (.sl s n sc f) u:=h
theorem C2.jU {X:CX} {id:Nat} {u:Value} (h:C2 X (.own id) u):u=eP (X.ρ id):=h
theorem aI.vs {X:CX}: ∀us:List Value,aI (C0 X) (us.map .v) us
  |[]=>aI.nil
  |u::us=>aI.cons (show C0 X (.v u) u from rfl) (aI.vs us)
variable {g:Base} {N:Nat} {bs:List (Array Value)} {ρ:Nat→Value} {a:Act} {w:World} {st:AS}
theorem Rel.ev (R:Rel g N bs ρ a w st) (x:Operand):C2 (aC g w ρ st.heap) (st.ev x) (a.eval x):=by
 cases x with
 |tmp t=>exact R.tmps t
 | const v=>
   cases v with
   |agg cs=>exact⟨cs.toList,by simp[Act.eval],aI.vs _⟩
   |_=>rfl
 |global g=>trivial
 |func f=>exact⟨[],rfl,aI.nil⟩
theorem kE {o:Oper} {next:Act→World→Prop} {Q:Exit→Act→World→Prop} {u:Value} {w':World} (hrun:(execOp a.eval o).run P w= .ok (.value u) w') (h:next (a.put o.dst u) w'):o.wp P a w next Q:=by
 unfold Oper.wp
 rw[hrun]
 exact h
theorem Lc (hL:bQ P L) {t:TypeId} {i:TI} (hi:aZ L t=some i) {X:CX} {cs:List AV} {k:Nat} {K:AV→Prop} (h:ld i cs k K) {b o:Nat} {us:List Value} (ha:aI (C0 X) cs us)
  (hc: ∀ (j:Nat) (y:Value),us[j]? =some y→X.w.cell? ⟨b,o+j,none⟩=some y): ∃x u,K x∧C2 X x u∧(loadVar t ⟨b,o+k,none⟩).run P X.w= .ok u X.w:=by
 unfold ld at h
 cases hg:i.isAgg with
 | true =>
   rw[hg]at h
   simp only[cond_true]at h
   cases hb:Nat.ble (k+i.size) cs.length with
   |false=>rw[hb]at h;exact h.elim
   | true=>
     rw[hb]at h
     have hle:=Nat.le_of_ble_eq_true hb
     refine⟨_,.agg ((us.drop k).take i.size).toArray,h,⟨_,rfl,(ha.drop k).take i.size⟩, ?_⟩
     have hlen:((us.drop k).take i.size).length=i.size:=by rw[List.length_take,List.length_drop,←ha.1];omega
     have hl:=run_loadCells_list (P:=P) X.w ⟨b,o+k,none⟩ ((us.drop k).take i.size) (fun j v hv=>by
      rw[Addr.add_lit]
      rw[List.getElem?_take]at hv
      split at hv
      · rw[List.getElem?_drop]at hv
        rw[Nat.add_assoc]
        exact hc _ _ hv
      · cases hv)
     rw[hlen]at hl
     simp only[loadVar,Sem.run_bind,og hL hi,hg,Result.andThen_ok,if_true,iw hL hi,hl,Sem.run_pure]
 | false=>
   rw[hg]at h
   simp only[cond_false]at h
   cases hb:Nat.ble (k+1) cs.length with
   |false=>rw[hb]at h;exact h.elim
   | true=>
     rw[hb]at h
     have hle:=Nat.le_of_ble_eq_true hb
     have hx:cs[k]? =some (cs.getD k .junk):=by simp[List.getD,List.getElem?_eq_getElem (show k<cs.length by omega)]
     obtain⟨u,hu,hr⟩:=ha.get hx
     refine⟨_,u,h,C2.sZ hr, ?_⟩
     have:=hc _ _ hu
     simp[loadVar,Sem.run_bind,og hL hi,hg,this]
theorem xM (hL:bQ P L) (R:Rel g N bs ρ a w st) {t:TypeId} {p:AV} {pv:Value} (hp:C2 (aC g w ρ st.heap) p pv) {K:AV→Prop} (h:S9 L st t p K):
  ∃x u,K x∧C2 (aC g w ρ st.heap) x u∧(Instr.loadAt t pv).run P w= .ok u w:=by
 unfold S9 at h
 cases hi:aZ L t with
 |none=>rw[hi]at h;exact h.elim
 | some i =>
   rw[hi]at h
   cases p with
   | box id k=>
     obtain⟨b,hb,rfl⟩:=C2.kN hp
     dsimp only at h
     cases hf:aP id st.heap with
     |none=>rw[hf]at h;exact h.elim
     | some o=>
       rw[hf]at h
       cases o with
       |row=>exact h.elim
       |mp=>exact h.elim
       |obs=>exact h.elim
       |rn=>exact h.elim
       | box t' cs=>
         obtain⟨b',us,e,hh,ha⟩:=R.objs _ (ay hf)
         have hb:eP (ρ id)=_:=hb
         have e:ρ id=_:=e
         rw[e]at hb
         cases hb
         obtain⟨x,u,hk,hc,hr⟩:=Lc hL hi h (o:=0) ha (fun j y hy=>by
          rw[cell_of_row _ _ _ _ _ _ hh];simpa using hy)
         refine⟨x,u,hk,hc, ?_⟩
         simpa[Instr.loadAt,Instr.sureAddr,aC]using hr
   | el cs k=>
     obtain⟨b,o,us,rfl,kb,ha,hc⟩:=C2.QE hp
     obtain⟨x,u,hk,hc,hr⟩:=Lc hL hi h (ha.imp fun _ _=>C0.Qq) hc
     refine⟨x,u,hk,hc, ?_⟩
     simpa[Instr.loadAt,Instr.sureAddr,aC]using hr
   | dP id s j k=>
     obtain⟨b,n,c,hb,rfl⟩:=C2.Ap hp
     dsimp only at h
     cases hf:aP id st.heap with
     |none=>rw[hf]at h;exact h.elim
     | some o =>
       rw[hf]at h
       cases o with
       |box=>exact h.elim
       |mp=>exact h.elim
       |obs=>exact h.elim
       | rn e cs=>
         dsimp only at h
         cases hs:Nat.beq s 1 with
         |false=>rw[hs]at h;exact h.elim
         | true=>
           rw[hs]at h
           obtain rfl:=Nat.eq_of_beq_eq_true hs
           simp only[cond_true]at h
           obtain⟨us,⟨hown,_⟩,ha⟩:=R.objs _ (ay hf)
           have hb:ρ id=_:=hb
           have hown:w.ownsRow 0 e 1 (ρ id) cs.length us:=hown
           rw[hb]at hown
           have hcell:=hown.cells (g:=b) rfl
           obtain⟨x,u,hk,hc,hr⟩:=Lc (X:=aC g w ρ st.heap) hL hi h (o:=0) ha (fun i y hy=>by
            have:=hcell _ _ hy
            rwa [Addr.add_lit]at this)
           refine⟨x,u,hk,hc, ?_⟩
           simpa[Instr.loadAt,Instr.sureAddr,aC]using hr
       | row e s' m sc f=>
         dsimp only at h
         cases hs:Nat.beq s s' with
         |false=>rw[hs]at h;exact h.elim
         | true =>
           rw[hs]at h
           obtain rfl:=Nat.eq_of_beq_eq_true hs
           simp only[cond_true]at h
           cases hj:Nat.ble (j+1) m with
           |false=>rw[hj]at h;exact h.elim
           | true=>
             rw[hj]at h
             have hjm:=Nat.le_of_ble_eq_true hj
             obtain⟨us,hown,hs0,hfl,hsc,ha⟩:=R.objs _ (ay hf)
             have hb:ρ id=_:=hb
             have hown:w.ownsRow 0 e s (ρ id) m us:=hown
             rw[hb]at hown
             have hcell:=hown.cells (g:=b) rfl
             obtain⟨hseg⟩:aI (PC w (aK g w ρ st.heap)) (f j) ((us.drop (j*s)).take s)∧True:=⟨seg ha hfl (by omega),trivial⟩
             obtain⟨x,u,hk,hc,hr⟩:=Lc (X:=aC g w ρ st.heap) hL hi h (o:=j*s) (hseg.imp fun _ _=>C0.Qq (X:=aC g w ρ st.heap)) (fun i y hy=>by
              rw[List.getElem?_take]at hy
              split at hy
              · rw[List.getElem?_drop]at hy
                have:=hcell _ _ hy
                rwa [Addr.add_lit,Nat.zero_add]at this
              · cases hy)
             refine⟨x,u,hk,hc, ?_⟩
             simpa[Instr.loadAt,Instr.sureAddr,aC]using hr
   |_=>exact h.elim
where
 seg {R:AV→Value→Prop} {s:Nat}: ∀ {n:Nat} {f:Nat→List AV} {us:List Value} {j:Nat},aI R (flat n f) us→(∀i,i<n→(f i).length=s)→j<n→aI R (f j) ((us.drop (j*s)).take s)
   |0,_,_,_,_,_,h=>absurd h (by omega)
   | n+1,f,us,0,ha,hl,_=>by
     have h:=ha.take s
     have e:(flat (n+1) f).take s=f 0:=by
      show(f 0++_).take s=_
      rw[←hl 0 (by omega)];exact List.take_left
     rw[e]at h
     simpa using h
   | n+1,f,us,j+1,ha,hl,hj=>by
     have h:=ha.drop s
     have e:(flat (n+1) f).drop s=flat n (fun i=>f (i+1)):=by
      show(f 0++_).drop s=_
      rw[←hl 0 (by omega)];exact List.drop_left
     rw[e]at h
     have:=seg (j:=j) h (fun i hi=>hl (i+1) (by omega)) (by omega)
     rw[List.drop_drop,show s+j*s=(j+1)*s by rw[Nat.succ_mul];omega]at this
     exact this
end
end
section
open Go.RowKit
section
variable {P:Program} {L:Lay} {g:Base} {N:Nat} {bs:List (Array Value)} {ρ:Nat→Value} {a:Act} {w:World} {st:AS}
theorem lM {P:Program} {L:Lay} (hL:bQ P L) {t:TypeId} {i:TI} {fs:List (Nat×TypeId)} (h:aZ L t=some i) (hk:i.kind= .struct fs):
  ∃fields:Array Field,P.underlying t=some (.struct fields)∧fields.toList.map (fun f=>(f.offset,f.type))=fs:=by
 obtain⟨info,z,d,h1,h2,h3,h4,h5,h6,h7⟩:=jw hL h
 rw[hk]at h7
 cases d<;>simp only[kindOf]at h7<;>first|(cases h7;done)|skip
 rename_i fields
 exact⟨fields,h2,by injection h7⟩
theorem oV {P:Program} {L:Lay} (hL:bQ P L) {t:TypeId} {i:TI} {n:Nat} {e:TypeId} (h:aZ L t=some i) (hk:i.kind= .array n e):P.underlying t=some (.array n e):=by
 obtain⟨info,z,d,h1,h2,h3,h4,h5,h6,h7⟩:=jw hL h
 rw[hk]at h7
 cases d<;>simp only[kindOf]at h7<;>cases h7
 exact h2
theorem cZ {P:Program} {L:Lay} (hL:bQ P L) {t:TypeId} {i:TI} {e:TypeId} (h:aZ L t=some i) (hk:i.kind= .slice e):P.underlying t=some (.slice e):=by
 obtain⟨info,z,d,h1,h2,h3,h4,h5,h6,h7⟩:=jw hL h
 rw[hk]at h7
 cases d<;>simp only[kindOf]at h7<;>cases h7
 exact h2
theorem sG {P:Program} {L:Lay} (hL:bQ P L) {t:TypeId} {i:TI} (h:aZ L t=some i) (hk:i.kind= .str):P.underlying t=some .string:=by
 obtain⟨info,z,d,h1,h2,h3,h4,h5,h6,h7⟩:=jw hL h
 rw[hk]at h7
 cases d<;>simp only[kindOf]at h7<;>cases h7
 exact h2
theorem zn {P:Program} {L:Lay} (hL:bQ P L) {t:TypeId} {i:TI} {k:IntKind} (h:aZ L t=some i) (hk:i.kind= .int k):P.underlying t=some (.int k):=by
 obtain⟨info,z,d,h1,h2,h3,h4,h5,h6,h7⟩:=jw hL h
 rw[hk]at h7
 cases d<;>simp only[kindOf]at h7<;>cases h7
 exact h2
theorem Fz {fields:Array Field} {fs:List (Nat×TypeId)} (hf:fields.toList.map (fun f=>(f.offset,f.type))=fs) {i o:Nat} {ft:TypeId} (h:fs[i]? =some (o,ft)): ∃f,fields[i]? =some f∧f.offset=o∧f.type=ft:=by
 rw[←hf,List.getElem?_map]at h
 cases hx:fields.toList[i]? with
 |none=>rw[hx]at h;cases h
 | some f=>
   rw[hx]at h
   simp only[Option.map_some,Option.some.injEq,Prod.mk.injEq]at h
   exact⟨f,by simpa using hx,h.1,h.2⟩
theorem vS (hL:bQ P L) {X:CX} {t:TypeId} {p:AV} {pv:Value} {i:Nat} (hp:C2 X p pv) {K:AV→Prop} (h:nZ L t p i K) (w:World):
  ∃x u,K x∧C2 X x u∧(Instr.fieldAt t pv i).run P w= .ok u w:=by
 unfold nZ at h
 split at h
 · rename_i ti hti
   split at h
   · rename_i fs hk
     split at h
     · rename_i o ft hfs
       split at h
       · rename_i fi hfi
         obtain⟨fields,hu,hmap⟩:=lM hL hti hk
         obtain⟨f,hf,ho,hft⟩:=Fz hmap hfs
         cases hs:Nat.ble 1 fi.size with
         |false=>rw[hs]at h;exact h.elim
         | true=>
           rw[hs]at h
           have h1:=Nat.le_of_ble_eq_true hs
           have QF: ∀a:Addr,(fieldPlace a f).run P w= .ok (a.add f.offset) w:=by
            intro a
            have:=iw hL hfi w
            rw[←hft]at this
            simp only[fieldPlace,Sem.run_bind,this,Result.andThen_ok]
            rw[if_neg (by omega)]
            rfl
           cases p with
           | box id k=>
             obtain⟨b,hb,rfl⟩:=C2.kN hp
             refine⟨_,.pointer (some ⟨b,k+o,none⟩),h,⟨b,hb,rfl⟩, ?_⟩
             simp[Instr.fieldAt,run_underlying hu,hf,Instr.sureAddr,QF,ho,Addr.add_lit]
           | el cs k=>
             obtain⟨b,oo,us,rfl,kb,ha,hc⟩:=C2.QE hp
             refine⟨_,.pointer (some ⟨b,oo+(k+o),none⟩),h,⟨b,oo,us,rfl,kb,ha,hc⟩, ?_⟩
             simp[Instr.fieldAt,run_underlying hu,hf,Instr.sureAddr,QF,ho,Addr.add_lit,Nat.add_assoc]
           | dP id s j k=>
             obtain⟨b,n,c,hb,rfl⟩:=C2.Ap hp
             refine⟨_,.pointer (some ⟨b,j*s+(k+o),none⟩),h,⟨b,n,c,hb,rfl⟩, ?_⟩
             simp[Instr.fieldAt,run_underlying hu,hf,Instr.sureAddr,QF,ho,Addr.add_lit,Nat.add_assoc]
           |_=>exact h.elim
       · exact h.elim
     · exact h.elim
   · exact h.elim
 · exact h.elim
theorem NC (hL:bQ P L) {t:TypeId} {i:TI} (hi:aZ L t=some i) {X:CX} {cs:List AV} {k:Nat} {K:AV→Prop} (h:ld i cs k K) {us:List Value} (ha:aI (C0 X) cs us) (w:World):
  ∃x u,K x∧C2 X x u∧(part t us.toArray k).run P w= .ok u w:=by
 unfold ld at h
 cases hg:i.isAgg with
 | true=>
   rw[hg]at h
   simp only[cond_true]at h
   cases hb:Nat.ble (k+i.size) cs.length with
   |false=>rw[hb]at h;exact h.elim
   | true=>
     rw[hb]at h
     refine⟨_,.agg ((us.drop k).take i.size).toArray,h,⟨_,rfl,(ha.drop k).take i.size⟩, ?_⟩
     simp only[part,Sem.run_bind,og hL hi,hg,Result.andThen_ok,if_true,iw hL hi,Sem.run_pure]
     congr 2
     apply Array.ext'
     simp
 | false=>
   rw[hg]at h
   simp only[cond_false]at h
   cases hb:Nat.ble (k+1) cs.length with
   |false=>rw[hb]at h;exact h.elim
   | true=>
     rw[hb]at h
     have hle:=Nat.le_of_ble_eq_true hb
     have hx:cs[k]? =some (cs.getD k .junk):=by simp[List.getD,List.getElem?_eq_getElem (show k<cs.length by omega)]
     obtain⟨u,hu,hr⟩:=ha.get hx
     refine⟨_,u,h,C2.sZ hr, ?_⟩
     simp[part,Sem.run_bind,og hL hi,hg,hu]
theorem FB (hL:bQ P L) {X:CX} {t:TypeId} {p:AV} {pv:Value} {i:Nat} (hp:C2 X p pv) {K:AV→Prop} (h:Qw L t p i K) (w:World):
  ∃x u,K x∧C2 X x u∧(Instr.field t pv i).run P w= .ok u w:=by
 unfold Qw at h
 split at h
 · rename_i ti cs hti
   split at h
   · rename_i fs hk
     split at h
     · rename_i o ft hfs
       split at h
       · rename_i fi hfi
         obtain⟨fields,hu,hmap⟩:=lM hL hti hk
         obtain⟨f,hf,ho,hft⟩:=Fz hmap hfs
         obtain⟨us,rfl,ha⟩:=C2.rE hp
         obtain⟨x,u,hk',hc,hr⟩:=NC hL hfi h ha w
         refine⟨x,u,hk',hc, ?_⟩
         rw[←ho,←hft]at hr
         simp[Instr.field,run_underlying hu,hf,asAgg,hr]
       · exact h.elim
     · exact h.elim
   · exact h.elim
 · exact h.elim
theorem jh {n:Int} {m:Nat} (h:inB n m=true):0≤n∧n<(m:Int):=by simpa[inB]using h
theorem PC.at {R:AV→Value→Prop} {s n:Nat} {f:Nat→List AV} {us:List Value} {j:Nat} (h:aI R (flat n f) us) (hl: ∀i,i<n→(f i).length=s) (hj:j<n):aI R (f j) ((us.drop (j*s)).take s):=xM.seg h hl hj
theorem mY (hL:bQ P L) (R:Rel g N bs ρ a w st) {t:TypeId} {x ix:AV} {xv iv:Value} (hx:C2 (aC g w ρ st.heap) x xv) (hix:C2 (aC g w ρ st.heap) ix iv) {K:AV→Prop} (h:zi L st t x ix K):
  ∃y u,K y∧C2 (aC g w ρ st.heap) y u∧(Instr.indexAt t xv iv).run P w= .ok u w:=by
 unfold zi at h;simp only[Cj,Xu]at h
 split at h
 · rename_i ti kk n hti
   obtain rfl:=C2.dM hix
   split at h
   · rename_i e hk
     have hu:=cZ hL hti hk
     split at h
     · rename_i ei pV
       have hsz:=iw hL pV w
       split at h
       · rename_i s m sc f
         cases hs:Nat.beq s ei.size with
         |false=>rw[hs]at h;exact h.elim
         | true=>
           rw[hs]at h
           obtain rfl:=Nat.eq_of_beq_eq_true hs
           simp only[cond_true]at h
           cases hb:inB n m with
           |false=>rw[hb]at h;exact h.elim
           | true=>
             rw[hb]at h
             obtain⟨h0,h1⟩:=jh hb
             have hpc:=C2.uz hx
             cases hpc with
             | sl _ _ _ _ A c us hs0 hn hc hl hf hsc hu' hr=>
               rcases hr with hz|⟨b,o,rfl,kb,hcell⟩
               · omega
               · have hj:n.toNat<m:=by omega
                 have hseg:=PC.at (j:=n.toNat) (R:=PC w (aK g w ρ st.heap)) ⟨by rw[hl];exact flat_length hf,hu'⟩ hf hj
                 refine⟨_,.pointer (some ⟨b,o+n.toNat*ei.size,none⟩),h,⟨b,o+n.toNat*ei.size,_,by rw[Nat.add_zero],kb,hseg, ?_⟩, ?_⟩
                 · intro j y hy
                   rw[List.getElem?_take]at hy
                   split at hy
                   · rw[List.getElem?_drop]at hy
                     rw[Nat.add_assoc]
                     exact hcell _ _ hy
                   · cases hy
                 · simp[Instr.indexAt,asIntOf,run_underlying hu,h0,h1,hsz,Addr.add_lit]
       · rename_i id
         split at h
         · rename_i e' s m sc f hfo
           cases hs:Nat.beq s ei.size with
           |false=>rw[hs]at h;exact h.elim
           | true=>
             rw[hs]at h
             obtain rfl:=Nat.eq_of_beq_eq_true hs
             simp only[cond_true]at h
             cases hb:inB n m with
             |false=>rw[hb]at h;exact h.elim
             | true=>
               rw[hb]at h
               obtain⟨h0,h1⟩:=jh hb
               obtain⟨us,hown,hs0,hfl,hsc,ha⟩:=R.objs _ (ay hfo)
               have hown:w.ownsRow 0 e' ei.size (ρ id) m us:=hown
               have hxv:xv=ρ id:=(C2.jU hx).trans (gu hown)
               rcases hown.2 with⟨_,hz⟩|⟨b,cap,cur,hv,hB,hh,_⟩
               · omega
               · rw[hxv,hv]
                 refine⟨_,.pointer (some ⟨b,n.toNat*ei.size,none⟩),h,⟨b,m,cap,hv,rfl⟩, ?_⟩
                 simp[Instr.indexAt,asIntOf,run_underlying hu,h0,h1,hsz,Addr.add_lit]
         · rename_i e' cs hfo
           cases hs:Nat.beq 1 ei.size with
           |false=>rw[hs]at h;exact h.elim
           | true=>
             rw[hs]at h
             have hs1:=Nat.eq_of_beq_eq_true hs
             simp only[cond_true]at h
             cases hb:inB n cs.length with
             |false=>rw[hb]at h;exact h.elim
             | true=>
               rw[hb]at h
               obtain⟨h0,h1⟩:=jh hb
               obtain⟨us,⟨hown,_⟩,ha⟩:=R.objs _ (ay hfo)
               have hown:w.ownsRow 0 e' 1 (ρ id) cs.length us:=hown
               have hxv:xv=ρ id:=(C2.jU hx).trans (gu hown)
               rcases hown.2 with⟨_,hz⟩|⟨b,cap,cur,hv,hB,hh,_⟩
               · omega
               · rw[hxv,hv]
                 refine⟨_,.pointer (some ⟨b,n.toNat*1+0,none⟩),h,⟨b,cs.length,cap,hv,rfl⟩, ?_⟩
                 simp[Instr.indexAt,asIntOf,run_underlying hu,h0,h1,hsz,←hs1,Addr.add_lit]
         · exact h.elim
       · exact h.elim
     · exact h.elim
   · rename_i m e hk
     have hu:=oV hL hti hk
     split at h
     · rename_i ei pV
       have hsz:=iw hL pV w
       cases hb:inB n m with
       |false=>rw[hb]at h;exact h.elim
       | true=>
         rw[hb]at h
         obtain⟨h0,h1⟩:=jh hb
         simp only[cond_true]at h
         split at h
         · rename_i id k
           obtain⟨b,hbb,rfl⟩:=C2.kN hx
           refine⟨_,.pointer (some ⟨b,k+n.toNat*ei.size,none⟩),h,⟨b,hbb,rfl⟩, ?_⟩
           simp[Instr.indexAt,asIntOf,run_underlying hu,h0,h1,hsz,Addr.add_lit,Instr.sureAddr]
         · rename_i cs k
           obtain⟨b,o,us,rfl,kb,ha,hc⟩:=C2.QE hx
           refine⟨_,.pointer (some ⟨b,o+(k+n.toNat*ei.size),none⟩),h,⟨b,o,us,rfl,kb,ha,hc⟩, ?_⟩
           simp[Instr.indexAt,asIntOf,run_underlying hu,h0,h1,hsz,Addr.add_lit,Instr.sureAddr,Nat.add_assoc]
         · rename_i id s j k
           obtain⟨b,nn,c,hbb,rfl⟩:=C2.Ap hx
           refine⟨_,.pointer (some ⟨b,j*s+(k+n.toNat*ei.size),none⟩),h,⟨b,nn,c,hbb,rfl⟩, ?_⟩
           simp[Instr.indexAt,asIntOf,run_underlying hu,h0,h1,hsz,Addr.add_lit,Instr.sureAddr,Nat.add_assoc]
         · exact h.elim
     · exact h.elim
   · exact h.elim
 · exact h.elim
where
 flat_length {s:Nat}: ∀ {n:Nat} {f:Nat→List AV},(∀i,i<n→(f i).length=s)→(flat n f).length=n*s
   |0,_,_=>by simp[flat]
   | n+1,f,h=>by
     show(f 0++_).length=_
     rw[List.length_append,h 0 (by omega),flat_length (fun i hi=>h (i+1) (by omega)),Nat.succ_mul,Nat.add_comm]
theorem FC (hL:bQ P L) {X:CX} {t:TypeId} {x ix:AV} {xv iv:Value} (hx:C2 X x xv) (hix:C2 X ix iv) {K:AV→Prop} (h:Qx L t x ix K) (w:World):
  ∃y u,K y∧C2 X y u∧(Instr.index t xv iv).run P w= .ok u w:=by
 unfold Qx at h;simp only[Cj,Xu]at h
 split at h
 · rename_i ti kk n hti
   obtain rfl:=C2.dM hix
   split at h
   · rename_i m e cs hk
     have hu:=oV hL hti hk
     obtain⟨us,rfl,ha⟩:=C2.rE hx
     split at h
     · rename_i ei pV
       cases hb:inB n m with
       |false=>rw[hb]at h;exact h.elim
       | true=>
         rw[hb]at h
         obtain⟨h0,h1⟩:=jh hb
         obtain⟨y,u,hk',hc,hr⟩:=NC hL pV h ha w
         refine⟨y,u,hk',hc, ?_⟩
         simp[Instr.index,asIntOf,run_underlying hu,h0,h1,iw hL pV,hr]
     · exact h.elim
   · rename_i s hk
     have hu:=sG hL hti hk
     obtain rfl:=C2.dM hx
     cases hb:inB n s.size with
     |false=>rw[hb]at h;exact h.elim
     | true=>
       rw[hb]at h
       obtain⟨h0,h1⟩:=jh hb
       have hlt:n.toNat<s.size:=by omega
       refine⟨_,_,h,rfl, ?_⟩
       have e1:s[n.toNat]? =some s[n.toNat]:=by simp[hlt]
       have e2:s.data.toList.getD n.toNat 0=s[n.toNat]:=by
        have hlt':n.toNat<s.data.toList.length:=by rw[Array.length_toList];exact hlt
        rw[List.getD,List.getElem?_eq_getElem hlt']
        rfl
       rw[e2]
       simp[Instr.index,asIntOf,run_underlying hu,h0,e1]
   · exact h.elim
 · exact h.elim
theorem Aq {X:CX} {x:AV} {xv:Value} (hx:C2 X x xv) {i:Nat} {K:AV→Prop} (h:Fg x i K) (w:World): ∃y u,K y∧C2 X y u∧(Instr.extract xv i).run P w= .ok u w:=by
 unfold Fg at h
 split at h
 · rename_i vs
   obtain⟨us,rfl,ha⟩:=C2.uy hx
   split at h
   · rename_i y hy
     obtain⟨u,hu,hc⟩:=ha.get hy
     exact⟨y,u,h,C2.jP hc,by simp[Instr.extract,hu]⟩
   · exact h.elim
 · exact h.elim
end
end
section
open Go.RowKit
section
variable {P:Program} {L:Lay} {g:Base} {N:Nat} {bs:List (Array Value)} {ρ:Nat→Value} {a:Act} {w:World} {st:AS}
theorem Wr.out {n:Int} {K:Int→Prop} {k:IntKind} (h:Wr n K k):K (k.wrap n):=by
 cases h with
 |i64 h0 h1 h=>rw[IntWalk.i64_in n (by omega)];exact h
 |u64 h0 h1 h=>rw[IntWalk.u64_in n (by omega)];exact h
 |u32 h0 h1 h=>rw[IntWalk.u32_in n (by omega)];exact h
 |u8 h0 h1 h=>rw[IntWalk.u8_in n (by omega)];exact h
 |raw k h=>exact h
theorem uZ.out {p A B:Prop} (h:uZ p A B) [Decidable p]:if p then A else B:=by
 split
 · rename_i hp;exact h.1 hp
 · rename_i hp;exact h.2 hp
theorem XM {op:BinOp} {x y:Int} {K:AV→Prop} (h:acv op x y K) (w:World): ∃b,K (.v (.bool b))∧(Op.intCmp op x y).run P w= .ok (.bool b) w:=by
 cases op<;>simp only[acv]at h<;>first|(exact h.elim)|skip
 · obtain⟨h1,h2⟩:=h
   by_cases e:x=y
   · exact⟨true,h1 e,by simp[Op.intCmp,e]⟩
   · exact⟨false,h2 e,by simp[Op.intCmp,e]⟩
 · obtain⟨h1,h2⟩:=h
   by_cases e:x=y
   · exact⟨false,h1 e,by simp[Op.intCmp,e]⟩
   · exact⟨true,h2 e,by simp[Op.intCmp,e]⟩
 · obtain⟨h1,h2⟩:=h
   by_cases e:x<y
   · exact⟨true,h1 e,by simp[Op.intCmp,e]⟩
   · exact⟨false,h2 e,by simp[Op.intCmp,e]⟩
 · obtain⟨h1,h2⟩:=h
   by_cases e:x≤y
   · exact⟨true,h1 e,by simp[Op.intCmp,e]⟩
   · exact⟨false,h2 e,by simp[Op.intCmp,e]⟩
 · obtain⟨h1,h2⟩:=h
   by_cases e:y<x
   · exact⟨true,h1 e,by simp[Op.intCmp,e]⟩
   · exact⟨false,h2 e,by simp[Op.intCmp,e]⟩
 · obtain⟨h1,h2⟩:=h
   by_cases e:y≤x
   · exact⟨true,h1 e,by simp[Op.intCmp,e]⟩
   · exact⟨false,h2 e,by simp[Op.intCmp,e]⟩
theorem XO {t:TypeId} {op:BinOp} {k:IntKind} {x y:Int} {K:AV→Prop} (h:aau op k x y K) (w:World): ∃u,K (.v u)∧(binOp op t (.int k x) (.int k y)).run P w= .ok u w:=by
 cases op<;>simp only[aau]at h
 case add=>exact⟨_,h.out,by simp[binOp,Op.intArith]⟩
 case sub=>exact⟨_,h.out,by simp[binOp,Op.intArith]⟩
 case mul=>exact⟨_,h.out,by simp[binOp,Op.intArith]⟩
 case quo=>
  cases h with
  | pos h0 h1 h=>
    have hy:y≠0:=by omega
    exact⟨_,h.out,by simp[binOp,Op.intDiv,hy,Int.tdiv_eq_ediv_of_nonneg h0]⟩
  |raw hy h=>exact⟨_,h.out,by simp[binOp,Op.intDiv,hy]⟩
 case rem=>
  cases h with
  | pos h0 h1 h=>
    have hy:y≠0:=by omega
    exact⟨_,h,by simp[binOp,Op.intDiv,hy,Int.tmod_eq_emod_of_nonneg h0]⟩
  |raw hy h=>exact⟨_,h,by simp[binOp,Op.intDiv,hy]⟩
 case and=>exact⟨_,h,by simp[binOp,Op.intBits]⟩
 case or=>exact⟨_,h,by simp[binOp,Op.intBits]⟩
 case xor=>exact⟨_,h,by simp[binOp,Op.intBits]⟩
 all_goals first
   |exact h.elim
   |(obtain⟨b,hk,hr⟩:=XM (P:=P) h w;exact⟨_,hk,by simp[binOp,hr]⟩)
theorem FD {t:TypeId} {op:BinOp} {k k':IntKind} {x y:Int} {K:AV→Prop} (hop:op= .shl∨op= .shr) (h:Qy op k x y K) (w:World): ∃u,K (.v u)∧(binOp op t (.int k x) (.int k' y)).run P w= .ok u w:=by
 rcases hop with rfl|rfl
 · obtain⟨hy,h⟩:=h
   exact⟨_,h.out,by simp[binOp,Op.shift,Int.not_lt.2 hy]⟩
 · obtain⟨hy,h⟩:=h
   exact⟨_,h,by simp[binOp,Op.shift,Int.not_lt.2 hy]⟩
theorem toList_inj {a b:ByteArray} (h:a.toList=b.toList):a=b:=by
 rw[ByteArray.toList_eq,ByteArray.toList_eq]at h
 cases a;cases b
 congr
 exact Array.toList_inj.1 h
theorem XP {t:TypeId} {op:BinOp} {x y:ByteArray} {K:AV→Prop} (h:acw op x y K) (w:World): ∃u,K (.v u)∧(binOp op t (.string x) (.string y)).run P w= .ok u w:=by
 cases op<;>simp only[acw]at h<;>first|(exact h.elim)|skip
 · obtain⟨hs,h⟩:=h
   refine⟨_,h, ?_⟩
   have hm: ¬ (((x.size+y.size:Nat):Int)>IntKind.i64.max):=by
    show¬ (_>(9223372036854775807:Int))
    omega
   simp only[binOp,Op.stringOp,if_neg hm]
   rfl
 · obtain⟨h1,h2⟩:=h
   by_cases e:x=y
   · exact⟨_,h1 e,by simp[binOp,Op.stringOp,e]⟩
   · have e':(x.toList==y.toList)=false:=by rw[beq_eq_false_iff_ne];exact fun hh=>e (toList_inj hh)
     exact⟨_,h2 e,by simp[binOp,Op.stringOp,e']⟩
 · obtain⟨h1,h2⟩:=h
   by_cases e:x=y
   · exact⟨_,h1 e,by simp[binOp,Op.stringOp,e]⟩
   · have e':(x.toList==y.toList)=false:=by rw[beq_eq_false_iff_ne];exact fun hh=>e (toList_inj hh)
     exact⟨_,h2 e,by simp[binOp,Op.stringOp,e']⟩
 · obtain⟨h1,h2⟩:=h
   cases e:Op.bytesLess x.toList y.toList with
   |true=>exact⟨_,h1 e,by simp[binOp,Op.stringOp,e]⟩
   |false=>exact⟨_,h2 (by simp[e]),by simp[binOp,Op.stringOp,e]⟩
 · obtain⟨h1,h2⟩:=h
   have e':(x.toList==y.toList)=decide (x=y):=by
    by_cases e:x=y
    · simp[e]
    · rw[decide_eq_false e,beq_eq_false_iff_ne]
      exact fun hh=>e (toList_inj hh)
   cases e:Op.bytesLess x.toList y.toList||decide (x=y)with
   |true=>exact⟨_,h1 (by simpa using e),by simp only[binOp,Op.stringOp,e',e];rfl⟩
   |false=>exact⟨_,h2 (by simpa using e),by simp only[binOp,Op.stringOp,e',e];rfl⟩
 · obtain⟨h1,h2⟩:=h
   have e':(x.toList==y.toList)=decide (x=y):=by
    by_cases e:x=y
    · simp[e]
    · rw[decide_eq_false e,beq_eq_false_iff_ne]
      exact fun hh=>e (toList_inj hh)
   cases e:Op.bytesLess x.toList y.toList||decide (x=y)with
   |true=>exact⟨_,h1 (by simpa using e),by simp only[binOp,Op.stringOp,e',e];rfl⟩
   |false=>exact⟨_,h2 (by simpa using e),by simp only[binOp,Op.stringOp,e',e];rfl⟩
 · obtain⟨h1,h2⟩:=h
   cases e:Op.bytesLess x.toList y.toList with
   |true=>exact⟨_,h1 e,by simp[binOp,Op.stringOp,e]⟩
   |false=>exact⟨_,h2 (by simp[e]),by simp[binOp,Op.stringOp,e]⟩
theorem jQ {op:BinOp} {t:TypeId} {x y:Operand} {u v:Value} (hu:u.oneCell'=true) (hn:u≠ .nilIface) (w:World):(eqGuard op t x y u v).run P w= .ok () w:=by
 unfold eqGuard
 cases op<;>cases u<;>first|(simp[Value.oneCell']at hu;done)|(exact absurd rfl hn)|(cases v<;>simp)
theorem ND (hL:bQ P L) {X:CX} {op:BinOp} {t:TypeId} {ox oy:Operand} {x y:AV} {xv yv:Value} (hx:C2 X x xv) (hy:C2 X y yv) {K:AV→Prop} (h:acz P L op t x y K) (w:World):
  ∃z u,K z∧C2 X z u∧(eqGuard op t ox oy xv yv).run P w= .ok () w∧(binOp op t xv yv).run P w= .ok u w:=by
 unfold acz at h
 split at h
 · rename_i k a k' b
   obtain rfl:=C2.dM hx
   obtain rfl:=C2.dM hy
   have hg:=jQ (P:=P) (op:=op) (t:=t) (x:=ox) (y:=oy) (u:= .int k a) (v:= .int k' b) rfl (by simp) w
   split at h
   · obtain⟨u,hk,hr⟩:=FD (P:=P) (t:=t) (k':=k') (.inl rfl) h w
     exact⟨_,u,hk,rfl,hg,hr⟩
   · obtain⟨u,hk,hr⟩:=FD (P:=P) (t:=t) (k':=k') (.inr rfl) h w
     exact⟨_,u,hk,rfl,hg,hr⟩
   · by_cases e:k=k'
     · subst e
       simp only[decide_true,cond_true]at h
       obtain⟨u,hk,hr⟩:=XO (P:=P) (t:=t) h w
       exact⟨_,u,hk,rfl,hg,hr⟩
     · simp only[e,decide_false,cond_false]at h
 · rename_i a b
   obtain rfl:=C2.dM hx
   obtain rfl:=C2.dM hy
   obtain⟨u,hk,hr⟩:=XP (P:=P) (t:=t) h w
   exact⟨_,u,hk,rfl,jQ rfl (by simp) w,hr⟩
 · rename_i a b
   obtain rfl:=C2.dM hx
   obtain rfl:=C2.dM hy
   split at h
   · rename_i i hi
     obtain⟨info,z,d,h1,h2,h3,h4,h5,h6,h7⟩:=jw hL hi
     split at h
     · rename_i hk
       rw[hk]at h7
       cases d<;>simp only[kindOf]at h7<;>first|(cases h7;done)|skip
       exact⟨_,_,h,rfl,jQ rfl (by simp) w,run_eql_bool w t a b h2⟩
     · rename_i hk
       rw[hk]at h7
       cases d<;>simp only[kindOf]at h7<;>first|(cases h7;done)|skip
       exact⟨_,_,h,rfl,jQ rfl (by simp) w,run_neq_bool w t a b h2⟩
     · exact h.elim
   · exact h.elim
 · rename_i cs ds
   obtain⟨us,rfl,ha⟩:=C2.rE hx
   obtain⟨vs,rfl,hb⟩:=C2.rE hy
   split at h
   · obtain⟨us',vs',p,rfl,rfl,⟨hgt,hp⟩,hs⟩:=h
     obtain rfl:=NG ha
     obtain rfl:=NG hb
     obtain⟨b,hbp,hr⟩:=hp w
     refine⟨.v (.bool b),.bool b, ?_,rfl,by simp[eqGuard,hgt],by simp[binOp,hr]⟩
     cases b with
     |true=>exact hs.1 (hbp.1 rfl)
     |false=>exact hs.2 (fun q=>by cases hbp.2 q)
   · obtain⟨us',vs',p,rfl,rfl,⟨hgt,hp⟩,hs⟩:=h
     obtain rfl:=NG ha
     obtain rfl:=NG hb
     obtain⟨b,hbp,hr⟩:=hp w
     refine⟨.v (.bool (!b)),.bool (!b), ?_,rfl,by simp[eqGuard,hgt],by simp[binOp,hr]⟩
     cases b with
     |true=>exact hs.1 (hbp.1 rfl)
     |false=>exact hs.2 (fun q=>by cases hbp.2 q)
   · exact h.elim
 · rename_i id off
   obtain⟨b,hb,rfl⟩: ∃b,eP (X.ρ id)= .pointer (some ⟨b,0,none⟩)∧xv= .pointer (some ⟨b,off,none⟩):=hx
   obtain rfl:=C2.dM hy
   split at h
   · rename_i i hi
     obtain⟨info,z,d,h1,h2,h3,h4,h5,h6,h7⟩:=jw hL hi
     have hg:(eqGuard op t ox oy (.pointer (some ⟨b,off,none⟩)) (.pointer none)).run P w= .ok () w:=jQ rfl (by simp) w
     have he: ∀e:TypeId,P.underlying t=some (.pointer e)→(Op.equal t (.pointer (some ⟨b,off,none⟩)) (.pointer none)).run P w= .ok false w:=fun e he=>by
      have h: ∀d:Nat,(Op.equalIn (d+1) t (.pointer (some ⟨b,off,none⟩)) (.pointer none)).run P w= .ok false w:=fun d=>by
       simp[Op.equalIn,run_underlying he]
      simp[Op.equal,Op.maxDepth,h 9999]
     split at h
     · rename_i e hk
       rw[hk]at h7
       cases d<;>simp only[kindOf]at h7<;>first|(cases h7;done)|skip
       exact⟨_,_,h,rfl,hg,by simp[binOp,he _ h2]⟩
     · rename_i e hk
       rw[hk]at h7
       cases d<;>simp only[kindOf]at h7<;>first|(cases h7;done)|skip
       exact⟨_,_,h,rfl,hg,by simp[binOp,he _ h2]⟩
     · exact h.elim
   · exact h.elim
 · obtain rfl:=C2.dM hx
   obtain rfl:=C2.dM hy
   split at h
   · rename_i i hi
     have hg:(eqGuard op t ox oy (.pointer none) (.pointer none)).run P w= .ok () w:=jQ rfl (by simp) w
     obtain⟨info,z,d,h1,h2,h3,h4,h5,h6,h7⟩:=jw hL hi
     have he: ∀e:TypeId,P.underlying t=some (.pointer e)→(Op.equal t (.pointer none) (.pointer none)).run P w= .ok true w:=fun e he=>by
      have h: ∀d:Nat,(Op.equalIn (d+1) t (.pointer none) (.pointer none)).run P w= .ok true w:=fun d=>by
       simp[Op.equalIn,run_underlying he]
      simp[Op.equal,Op.maxDepth,h 9999]
     split at h
     · rename_i e hk
       rw[hk]at h7
       cases d<;>simp only[kindOf]at h7<;>first|(cases h7;done)|skip
       exact⟨_,_,h,rfl,hg,by simp[binOp,he _ h2]⟩
     · rename_i e hk
       rw[hk]at h7
       cases d<;>simp only[kindOf]at h7<;>first|(cases h7;done)|skip
       exact⟨_,_,h,rfl,hg,by simp[binOp,he _ h2]⟩
     · exact h.elim
   · exact h.elim
 · obtain rfl:=C2.dM hx
   obtain rfl:=C2.dM hy
   split at h
   · rename_i i hi
     have hg:(eqGuard op t ox oy (.slice none 0 0) (.slice none 0 0)).run P w= .ok () w:=jQ rfl (by simp) w
     split at h
     · rename_i e hk
       exact⟨_,_,h,rfl,hg,by simp[binOp,eq_nil (cZ hL hi hk)]⟩
     · rename_i e hk
       exact⟨_,_,h,rfl,hg,by simp[binOp,eq_nil (cZ hL hi hk)]⟩
     · exact h.elim
   · exact h.elim
 · rename_i s n sc f
   obtain rfl:=C2.dM hy
   cases C2.uz hx with
   |sl s n sc f A c us hs hn hc hl hf hsc hu hr=>
   split at h
   · rename_i i hi
     have hg:(eqGuard op t ox oy (.slice A n c) (.slice none 0 0)).run P w= .ok () w:=jQ rfl (by simp) w
     have hA:A=none→n=0:=fun hA=>by
      rcases hr with h|⟨b,o,h,_⟩
      · exact h
      · rw[hA]at h;cases h
     split at h
     · rename_i e hk
       refine⟨.v (.bool A.isNone),_, ?_,rfl,hg,by simp[binOp,eq_nil (cZ hL hi hk)]⟩
       cases A with
       |none=>exact h.y (hA rfl)
       |some x=>exact h.n
     · rename_i e hk
       refine⟨.v (.bool (!A.isNone)),_, ?_,rfl,hg,by simp[binOp,eq_nil (cZ hL hi hk)]⟩
       cases A with
       |none=>exact h.y (hA rfl)
       |some x=>exact h.n
     · exact h.elim
   · exact h.elim
 · exact h.elim
where
 eq_nil {w:World} {t e:TypeId} {a:Option Addr} {n c:Nat} (h:P.underlying t=some (.slice e)):(Op.equal t (.slice a n c) (.slice none 0 0)).run P w= .ok a.isNone w:=by
  have h: ∀d:Nat,(Op.equalIn (d+1) t (.slice a n c) (.slice none 0 0)).run P w= .ok a.isNone w:=fun d=>by
   cases a<;>simp[Op.equalIn,run_underlying h]
  simp[Op.equal,Op.maxDepth,h 9999]
 NG {X:CX}: ∀ {us vs:List Value},aI (C0 X) (us.map .v) vs→vs=us
   | [],vs,h=>by
     have:=h.1
     simp at this
     exact List.eq_nil_of_length_eq_zero this.symm
   |u::us,[],h=>by have:=h.1;simp at this
   | u::us,v::vs,h=>by
     have h0:=h.2 0 _ _ rfl rfl
     have:vs=us:=NG ⟨by simpa using h.1,fun i x y hx hy=>h.2 (i+1) x y (by simpa using hx) (by simpa using hy)⟩
     rw[this,show v=u from h0]
theorem Tt {X:CX} {op:UnOp} {x:AV} {xv:Value} (hx:C2 X x xv) {K:AV→Prop} (h:aun op x K) (w:World): ∃z u,K z∧C2 X z u∧(Op.unary op xv).run P w= .ok u w:=by
 unfold aun at h
 split at h
 · obtain rfl:=C2.dM hx
   exact⟨_,_,h,rfl,rfl⟩
 · obtain rfl:=C2.dM hx
   exact⟨_,_,h.out,rfl,rfl⟩
 · obtain rfl:=C2.dM hx
   exact⟨_,_,h,rfl,rfl⟩
 · exact h.elim
theorem NH (hL:bQ P L) (R:Rel g N bs ρ a w st) {t ty:TypeId} {x:AV} {xv:Value} (hx:C2 (aC g w ρ st.heap) x xv) {K:AV→Prop} (h:acA L st t x K):
  ∃z u,K z∧C2 (aC g w ρ st.heap) z u∧(Builtin.len_ #[t] ty #[xv]).run P w= .ok u w:=by
 unfold acA at h
 split at h
 · exact h.elim
 · rename_i i hi
   split at h
   · rename_i b hk
     obtain rfl:=C2.dM hx
     exact⟨_,_,h,rfl,by simp[Builtin.len_,run_underlying (sG hL hi hk),goInt]⟩
   · rename_i e n c hk
     obtain rfl:=C2.dM hx
     exact⟨_,_,h,rfl,by simp[Builtin.len_,run_underlying (cZ hL hi hk),goInt]⟩
   · rename_i e s n sc f hk
     cases C2.uz hx with
     | sl _ _ _ _ A c us hs0 hn hc hl hf hsc hu' hr=>
       exact⟨_,_,h,rfl,by simp[Builtin.len_,run_underlying (cZ hL hi hk),goInt]⟩
   · rename_i e id hk
     split at h
     · rename_i ee s n sc f hfo
       obtain⟨us,hown,_⟩:=R.objs _ (ay hfo)
       have hown:w.ownsRow 0 ee s (ρ id) n us:=hown
       have hxv:xv=ρ id:=(C2.jU hx).trans (gu hown)
       rcases hown.2 with⟨hv,hz⟩|⟨b,cap,cur,hv,_⟩
       · rw[hxv,hv]
         exact⟨_,_,h,rfl,by simp[Builtin.len_,run_underlying (cZ hL hi hk),goInt,hz]⟩
       · rw[hxv,hv]
         exact⟨_,_,h,rfl,by simp[Builtin.len_,run_underlying (cZ hL hi hk),goInt]⟩
     · rename_i ee cs hfo
       obtain⟨us,⟨hown,_⟩,_⟩:=R.objs _ (ay hfo)
       have hown:w.ownsRow 0 ee 1 (ρ id) cs.length us:=hown
       have hxv:xv=ρ id:=(C2.jU hx).trans (gu hown)
       rcases hown.2 with⟨hv,hz⟩|⟨b,cap,cur,hv,_⟩
       · rw[hxv,hv]
         exact⟨_,_,h,rfl,by simp[Builtin.len_,run_underlying (cZ hL hi hk),goInt,hz]⟩
       · rw[hxv,hv]
         exact⟨_,_,h,rfl,by simp[Builtin.len_,run_underlying (cZ hL hi hk),goInt]⟩
     · exact h.elim
   · rename_i hk
     rcases C2.rD hx with⟨b,c,_,_,rfl⟩|⟨rfl,A,c,rfl⟩<;>exact⟨_,_,h,rfl,by simp[Builtin.len_,run_underlying (cZ hL hi hk),goInt]⟩
   · rename_i m e hk
     exact⟨_,_,h,rfl,by simp[Builtin.len_,run_underlying (oV hL hi hk),goInt]⟩
   · exact h.elim
theorem NI {X:CX} {x y:AV} {xv yv:Value} (hx:C2 X x xv) (hy:C2 X y yv) {K:AV→Prop} (h:acE x y K) (ts:Array TypeId) (ty:TypeId) (w:World): ∃z u,K z∧C2 X z u∧(Builtin.min_ ts ty #[xv,yv]).run P w= .ok u w:=by
 unfold acE at h
 split at h
 · obtain rfl:=C2.dM hx
   obtain rfl:=C2.dM hy
   exact⟨_,_,h,rfl,run_min_int2 w ts ty _ _ _ _⟩
 · exact h.elim
theorem NJ {X:CX} {x y:AV} {xv yv:Value} (hx:C2 X x xv) (hy:C2 X y yv) {K:AV→Prop} (h:acF x y K) (ts:Array TypeId) (ty:TypeId) (w:World): ∃z u,K z∧C2 X z u∧(Builtin.max_ ts ty #[xv,yv]).run P w= .ok u w:=by
 unfold acF at h
 split at h
 · obtain rfl:=C2.dM hx
   obtain rfl:=C2.dM hy
   exact⟨_,_,h,rfl,run_max_int2 w ts ty _ _ _ _⟩
 · exact h.elim
theorem vT {R:AV→Value→Prop} (hR: ∀y u,R (.v y) u→u=y): ∀ {n:Nat} {f:Nat→List AV} {us:List Value} {bs:List UInt8},aI R (flat n f) us→n=bs.length→(∀i,i<n→f i=[.v (.int .u8 ((bs.getD i 0).toNat:Int))])→
  ∀ (j:Nat) (hj:j<bs.length),us[j]? =some (.int .u8 (bs[j].toNat:Int))
  |0,_,_,[],_,_,_,j,hj=>by simp at hj
  |0,_,_,b::bs,_,hn,_,_,_=>by simp at hn
  |n+1,f,us,[],_,hn,_,_,_=>by simp at hn
  | n + 1,f,us,b::bs,ha,hn,hf,j,hj=>by
    have e0:=hf 0 (by omega)
    have hfl:flat (n+1) f=f 0++flat n (fun i=>f (i+1)):=rfl
    rw[hfl,e0]at ha
    cases us with
    |nil=>have:=ha.1;simp at this
    | cons u us=>
      have h0:=hR _ _ (ha.2 0 _ _ rfl rfl)
      have ht:aI R (flat n (fun i=>f (i+1))) us:=⟨by have h1:=ha.1;simp at h1;omega,fun i x y hx hy=>ha.2 (i+1) x y (by simpa using hx) (by simpa using hy)⟩
      cases j with
      |zero=>simp[h0]
      | succ j=>
        have:=vT hR (bs:=bs) ht (by simpa using hn) (fun i hi=>by have:=hf (i+1) (by omega);simpa using this) j (by simpa using hj)
        simpa using this
theorem Ar (hL:bQ P L) (R:Rel g N bs ρ a w st) {src dst:TypeId} {x:AV} {xv:Value} (hx:C2 (aC g w ρ st.heap) x xv) {K:AV→Prop} (h:Fh L st src dst x K):
  ∃z u,K z∧C2 (aC g w ρ st.heap) z u∧(convert src dst xv).run P w= .ok u w:=by
 unfold Fh at h
 split at h
 · rename_i si di hsi hdi
   obtain⟨info,z,d,h1,h2,h3,h4,h5,h6,h7⟩:=jw hL hsi
   split at h
   · rename_i k kk n hk
     obtain rfl:=C2.dM hx
     exact⟨_,_,h.out,rfl,by cases d<;>simp[convert,run_underlying h2,run_underlying (zn hL hdi hk),Conv.intToInt]⟩
   · rename_i s hk
     obtain rfl:=C2.dM hx
     exact⟨_,_,h,rfl,by cases d<;>simp[convert,run_underlying h2,run_underlying (sG hL hdi hk)]⟩
   · rename_i e s n sc f hsk hdk
     split at h
     · rename_i ei pV
       split at h
       · rename_i hek
         obtain⟨bs,hn,hf,hk⟩:=h
         cases C2.uz hx with
         | sl _ _ _ _ A c us hs0 hnc hc hl hfl hsc hu' hr=>
           refine⟨_,.string ⟨bs.toArray⟩,hk,rfl, ?_⟩
           subst hn
           have hall:aI (PC w (aK g w ρ st.heap)) (flat bs.length f) us:=⟨by rw[hl];exact mY.flat_length hfl,hu'⟩
           have hcells:=vT (fun y u h=>by cases h;rfl) hall rfl hf
           rcases hr with hz|⟨b,o,rfl,kb,hcell⟩
           · have hb:bs=[]:=List.eq_nil_of_length_eq_zero hz
             subst hb
             cases A with
             | none=>
               rw[show([]:List UInt8).length=0 from rfl,run_convert_bytes_string w _ _ _ none 0 c (cZ hL hsi hsk) (zn hL pV hek) (sG hL hdi hdk)]
               rfl
             |some aa=>exact run_convert_bytes_back w _ _ _ aa c [] (cZ hL hsi hsk) (zn hL pV hek) (sG hL hdi hdk) (fun j hj=>by simp at hj)
           · refine run_convert_bytes_back w _ _ _ ⟨b,o,none⟩ c bs (cZ hL hsi hsk) (zn hL pV hek) (sG hL hdi hdk) (fun j hj=> ?_)
             rw[Addr.add_lit]
             exact hcell j _ (hcells j hj)
       · exact h.elim
     · exact h.elim
   · rename_i e id hsk hdk
     split at h
     · rename_i ee s n sc f hfo
       split at h
       · rename_i ei pV
         split at h
         · rename_i hek
           obtain⟨bs,hn,hf,hk⟩:=h
           refine⟨_,.string ⟨bs.toArray⟩,hk,rfl, ?_⟩
           obtain⟨us,hown,hs0,hfl,hsc,ha⟩:=R.objs _ (ay hfo)
           have hown:w.ownsRow 0 ee s (ρ id) n us:=hown
           have ha:aI (PC w (aK g w ρ st.heap)) (flat n f) us:=ha
           subst hn
           have hcells:=vT (fun y u h=>by cases h;rfl) ha rfl hf
           have hxv:xv=ρ id:=(C2.jU hx).trans (gu hown)
           rcases hown.2 with⟨hv,hz⟩|⟨b,cap,cur,hv,_⟩
           · have hb:bs=[]:=List.eq_nil_of_length_eq_zero hz
             subst hb
             rw[hxv,hv,run_convert_bytes_string w _ _ _ none 0 0 (cZ hL hsi hsk) (zn hL pV hek) (sG hL hdi hdk)]
             rfl
           · rw[hxv,hv]
             refine run_convert_bytes_back w _ _ _ ⟨b,0,none⟩ cap bs (cZ hL hsi hsk) (zn hL pV hek) (sG hL hdi hdk) (fun j hj=> ?_)
             exact hown.cells (g:=b) (by rw[hv];rfl) j _ (hcells j hj)
         · exact h.elim
       · exact h.elim
     · exact h.elim
   · exact h.elim
 · exact h.elim
end
end
section
open Go.RowKit
def Rd (w:World) (B size:Nat) (A:Option Addr) (n:Nat) (xs:List Value):Prop:=
 xs.length=n*size∧(0<n→ ∃b o,A=some ⟨b,o,none⟩∧b<B∧ ∀j u,xs[j]? =some u→w.cell? ⟨b,o+j,none⟩=some u)
section
variable {w w':World} {B B' size n:Nat} {A:Option Addr} {xs:List Value}
theorem Rd.nil:Rd w B size A 0 []:=⟨by simp,fun h=>absurd h (by omega)⟩
theorem Rd.keep (h:Rd w B size A n xs) (hk: ∀p:Addr,p.block<B→w'.cell? p=w.cell? p):Rd w' B size A n xs:=
 ⟨h.1,fun hn=>let⟨b,o,e,hb,hc⟩:=h.2 hn;⟨b,o,e,hb,fun j u hu=>(hk _ hb).trans (hc j u hu)⟩⟩
theorem Rd.more (h:Rd w B size A n xs) (hB:B≤B'):Rd w B' size A n xs:=
 ⟨h.1,fun hn=>let⟨b,o,e,hb,hc⟩:=h.2 hn;⟨b,o,e,by omega,hc⟩⟩
theorem Rd.below (h:Rd w B size A n xs) (hb:Below B w w'):Rd w' B size A n xs:=h.keep fun _ hp=>hb.cell hp
theorem Rd.to (h:Rd w B size A n xs) (hb:Below B w w') (hB:B≤w'.heap.size):Rd w' w'.heap.size size A n xs:=(h.below hb).more hB
theorem Rd.drew (h:Rd w B size A n xs):Rd w.drew B size A n xs:=h
theorem Rd.alloc (h:Rd w B size A n xs) (hB:B≤w.heap.size) (o:Obj):Rd (w.alloc o) B size A n xs:=h.keep fun p hp=>World.cell?_alloc_lt w o p (by omega)
theorem Rd.setCell (h:Rd w B size A n xs) {p:Addr} (hB:B≤p.block) (u:Value):Rd (w.setCell p u) B size A n xs:=
 h.keep fun q hq=>World.cell?_setCell_other w p q u (fun e=>by subst e;omega)
theorem Rd.grown (h:Rd w B size A n xs) {row:Option Nat} (hg:w.grownBy w' row) (hB:B≤w.heap.size) (hr: ∀g,row=some g→B≤g):Rd w' B size A n xs:=
 h.keep fun p hp=>World.cell?_of_block (hg.block p.block (by omega) (fun e=>by have:=hr _ e.symm;omega))
theorem Rd.cut (h:Rd w B size A n xs) {k cap:Nat} (hk:k≤n) (hc:n≤cap):
  Rd w B size (if cap=k then A else A.map (·.add (k*size))) (n-k) (xs.drop (k*size)):=by
 refine⟨by rw[List.length_drop,h.1,Nat.sub_mul],fun hn=> ?_⟩
 obtain⟨b,o,rfl,hb,hcell⟩:=h.2 (by omega)
 rw[if_neg (by omega)]
 refine⟨b,o+k*size,by simp[Addr.add_lit],hb,fun j u hu=> ?_⟩
 rw[Nat.add_assoc]
 exact hcell _ u (by rw[←hu,List.getElem?_drop])
theorem Rd.first (h:Rd w B size A n xs) {k:Nat} (hk:k≤n):Rd w B size A k (xs.take (k*size)):=by
 refine⟨by rw[List.length_take,h.1];exact Nat.min_eq_left (Nat.mul_le_mul_right _ hk),fun hn=> ?_⟩
 obtain⟨b,o,e,hb,hcell⟩:=h.2 (by omega)
 refine⟨b,o,e,hb,fun j u hu=>hcell j u ?_⟩
 rw[List.getElem?_take]at hu
 split at hu
 · exact hu
 · cases hu
theorem Rd.at1 {k:Nat} (h:Rd w B 1 A n xs) (hk:k<n): ∃b o,∃hl:k<xs.length,A=some ⟨b,o,none⟩∧b<B∧w.cell? ⟨b,o+k,none⟩=some xs[k]:=by
 obtain⟨b,o,e,hb,hc⟩:=h.2 (by omega)
 have hl:k<xs.length:=by have:=h.1;omega
 exact⟨b,o,hl,e,hb,hc k _ (List.getElem?_eq_getElem hl)⟩
end
theorem yS (b:Nat) (t:TypeId): ∀ (vs:List Value) (o:Nat) (w:World) (cur:Array Value),w.heap[b]? =some (.cells cur t (0,0))→o+vs.length≤cur.size→
  (w.setCells b o vs).heap[b]? =some (.cells (cur.toList.take o++vs++cur.toList.drop (o+vs.length)).toArray t (0,0))
  |[],o,w,cur,h,_=>by simpa[World.setCells]using h
  | v::r,o,w,cur,h,hl=>by
    have h1:(w.setCell ⟨b,o,none⟩ v).heap[b]? =some (.cells (cur.setIfInBounds o v) t (0,0)):=heap_setCell_same w b o cur t v h
    rw[World.setCells,yS b t r (o+1) _ _ h1 (by simp at hl⊢;omega)]
    have e:=list_seg_step cur.toList o v r (by simp at hl⊢;omega)
    simp only[Array.toList_setIfInBounds]
    rw[e]
    rfl
theorem vU (b:Nat): ∀ (vs:List Value) (o:Nat) (w:World) (k:Nat),k≠b→(w.setCells b o vs).heap[k]? =w.heap[k]?
  |[],_,_,_,_=>rfl
  |v::r,o,w,k,hk=>by rw[World.setCells,vU b r (o+1) _ k hk,Below.heap_setCell _ _ _ _ hk]
theorem yT (b:Nat): ∀ (vs:List Value) (o:Nat) (w:World),(w.setCells b o vs).os=w.os∧(w.setCells b o vs).tape=w.tape∧(w.setCells b o vs).output=w.output∧(w.setCells b o vs).heap.size=w.heap.size
  |[],_,_=>⟨rfl,rfl,rfl,rfl⟩
  | v::r,o,w=>by
    obtain⟨h1,h2,h3,h4⟩:=yT b r (o+1) (w.setCell ⟨b,o,none⟩ v)
    exact⟨h1,h2,h3,h4.trans (by simp[World.setCell])⟩
section
variable {P:Program} (w:World)
theorem mZ (base:Nat) (t tx ty e:TypeId) (i:TypeInfo) (z:Value) (size bytes:Nat) (ht:P.underlying t=some (.slice e)) (hi:P.info? e=some i) (hz:i.zero=some z)
  (hsize:i.size=size) (hby:i.bytes=bytes) (hzs:z.cells.size=size)
  (v:Value) (n:Nat) (xs:List Value) (hown:w.ownsRow base e size v n xs)
  (X:Value) (m:Nat) (news:List Value) (hsrc:Src P size tx X m news w)
  (h63:n+m≤maxLen) (hbytes:(n+m)*bytes≤140737488355328) (hbase:base≤w.heap.size):
  ∃v' w',(Builtin.append_ #[t,tx] ty #[v,X]).run P w= .ok v' w'∧w'.ownsRow base e size v' (n+m) (xs++news)∧w.grownBy w' v.ownBlock∧
   (v'.ownBlock=v.ownBlock∨v'.ownBlock=some w.heap.size):=by
 subst hsize
 subst hby
 have hsmall:n+m≤9223372036854775807:=by simp only[maxLen]at h63;omega
 have hlen:(xs++news).length=(n+m)*i.size:=by rw[List.length_append,hown.1,hsrc.newsLen,Nat.add_mul]
 have grown: ∀ (old:Nat),old<n+m→ ∀ (row:Option Nat),
   (w.drew.alloc (.cells ((xs++news).toArray++Builtin.zeroCells z.cells (grownCap w (n+m) old e-(n+m))) e)).ownsRow base e i.size
    (.slice (some ⟨w.heap.size,0,none⟩) (n+m) (grownCap w (n+m) old e)) (n+m) (xs++news)∧
   w.grownBy (w.drew.alloc (.cells ((xs++news).toArray++Builtin.zeroCells z.cells (grownCap w (n+m) old e-(n+m))) e)) row:=by
  intro old ho row
  have hge:=grownCap_ge w (n+m) old e
  have hcm:grownCap w (n+m) old e≤maxLen:=grownCap_le_maxLen w (n+m) old e h63
  refine⟨⟨hlen,.inr ⟨w.heap.size,_,_,rfl,hbase,heap_alloc_new w.drew _,hge,hcm, ?_, ?_⟩⟩,⟨rfl,rfl,rfl,by simp,fun k hk _=>Below.heap_alloc w.drew _ k hk⟩⟩
  · simp only[Array.size_append,List.size_toArray,size_zeroCells,hzs,hlen,←Nat.add_mul]
    congr 1
    omega
  · simp only[Array.toList_append]
    rw[←hlen]
    exact List.take_left
 rcases hown.2 with⟨rfl,rfl⟩|⟨g,cap,cur,rfl,hbg,hg,hnc,hcm,hcs,htake⟩
 · have hx:xs=[]:=List.eq_nil_of_length_eq_zero (by simpa using hown.1)
   subst hx
   by_cases hm:m=0
   · subst hm
     have hn:news=[]:=List.eq_nil_of_length_eq_zero (by simpa using hsrc.newsLen)
     subst hn
     refine⟨.slice none 0 0,w, ?_,World.ownsRow_nil w base e i.size,⟨rfl,rfl,rfl,Nat.le_refl _,fun _ _ _=>rfl⟩,.inl rfl⟩
     rcases hsrc.kind with⟨e',hk⟩|hk<;>simp[Builtin.append_,run_underlying ht,run_underlying hk,sizeOf,typeInfo,hi,hsrc.len,hsrc.cells]
   · have hr:=run_append_grow_src (P:=P) w t tx ty e i z ht hi hz none 0 0 [] (by simp[Builtin.firstCells]) X m news hsrc (by omega) (by omega) (growslice_fits (by omega) hbytes)
     have hgr:=grown 0 (by omega) (Value.ownBlock (.slice none 0 0))
     simp only[Nat.zero_add,List.nil_append]at hgr hr⊢
     exact⟨_,_,hr,hgr.1,hgr.2,.inr rfl⟩
 · by_cases hroom:n+m≤cap
   · have hfit:n*i.size+news.length≤cur.size:=by rw[hsrc.newsLen,hcs,←Nat.add_mul];exact Nat.mul_le_mul_right _ hroom
     have hr:=run_append_room_src (P:=P) w t tx ty e i ht hi g 0 n cap X m news hsrc hroom
      (fun j hj=>by rw[cell_of_row w g _ cur e (0,0) hg,Array.getElem?_eq_getElem (by omega)];rfl) (fun j hj=>frozen_of_row w g _ cur e hg)
     obtain⟨m1,m2,m3,m4⟩:=yT g news (0+n*i.size) w
     refine⟨_,_,hr,⟨hlen,.inr ⟨g,cap,_,rfl,hbg,yS g e news (0+n*i.size) w cur hg (by omega),hroom,hcm, ?_, ?_⟩⟩,⟨m1,m2,m3,by omega,fun k _ hk=>vU g news _ w k (fun e=>hk (by simp[Value.ownBlock,e]))⟩,.inl rfl⟩
     · simp only[List.size_toArray,List.length_append,List.length_take,List.length_drop,Array.length_toList]
       omega
     · rw[Nat.zero_add,htake,←hlen]
       exact List.take_left
   · have holds: ∀j u,xs[j]? =some u→w.cell? ((⟨g,0,none⟩:Addr).add j)=some u:=hown.cells (g:=g) rfl
     have hf:=run_firstCells_some (P:=P) w.drew i.size n ⟨g,0,none⟩ n cap xs hown.1 (by simpa using holds)
     have hr:=run_append_grow_src (P:=P) w t tx ty e i z ht hi hz (some ⟨g,0,none⟩) n cap xs hf X m news hsrc (by omega) (by omega) (growslice_fits (by omega) hbytes)
     have hgr:=grown cap (by omega) (Value.ownBlock (.slice (some ⟨g,0,none⟩) n cap))
     exact⟨_,_,hr,hgr.1,hgr.2,.inr rfl⟩
theorem Rd.src {B size n c:Nat} {A:Option Addr} {xs:List Value} {tx e':TypeId} {w:World} (h:Rd w B size A n xs) (hk:P.underlying tx=some (.slice e')) (h1: ∀u∈xs,u.oneCell'=true):Src P size tx (.slice A n c) n xs w:=by
 rcases Nat.eq_zero_or_pos n with rfl|hn
 · have hx:xs=[]:=List.eq_nil_of_length_eq_zero (by simpa using h.1)
   subst hx
   cases A with
   |none=>exact Src.ofNil w hk c
   |some a=>exact Src.ofSlice w hk a 0 c [] (by simp) (by simp) h1
 · obtain⟨b,o,rfl,_,hc⟩:=h.2 hn
   exact Src.ofSlice w hk ⟨b,o,none⟩ n c xs h.1 (fun j u hu=>by rw[Addr.add_lit];exact hc j u hu) h1
end
theorem xO {k:IntKind} {a b:Int} (h:a=b):Ending.returned (.int k a)= .returned (.int k b):=by rw[h]
def bV (b:UInt8):Value:= .int .u8 b.toNat
end
end Go.Proofs.YtimhagicagdkfaaGreat
