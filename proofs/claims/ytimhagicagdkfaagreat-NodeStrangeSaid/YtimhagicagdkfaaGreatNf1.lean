/-
  Contracts of the walk:AmA.
-/
import Derived.WalkKit
import Derived.Deep.AppendSrc
import Derived.Lib.Hide
import Derived.Deep.Quiet
import Derived.Deep.Draws
import Derived.WalkLawsBesides
import Derived.Laws.IdiomStrings
import Derived.Deep.QuietTactic
import Derived.MapKept
set_option linter.unusedVariables false
set_option linter.unusedSimpArgs false
set_option maxHeartbeats 16000000
set_option maxRecDepth 100000
namespace Go.Proofs.YtimhagicagdkfaaGreat
section
open Go.RowKit
inductive AV:Type where
  |v (x:Value)
  |agg (cs:List AV)
  |dM (vs:List AV)
  |sl (s n:Nat) (sc:Bool) (f:Nat→List AV)
  |own (id:Nat)
  |dN (id s i k:Nat)
  |jh (id s i m:Nat)
  |box (id off:Nat)
  |cf (g:FuncId) (id off:Nat)
  |el (cs:List AV) (k:Nat)
  |fn (g:FuncId) (caps:List AV)
  |junk
def flat:Nat→(Nat→List AV)→List AV
  |0,_=>[]
  |n+1,f=>f 0++flat n (fun i=>f (i+1))
def jF:Value→List Nat
  | .pointer (some a)=>[a.block]
  | .slice (some a) _ _=>[a.block]
  | .map (some r)=>[r]
  |_=>[]
def blks:Value→List Nat
  | .tuple us=>us.toList.tail.flatMap jF
  |v=>jF v
def eF:Value→Value
  | .tuple us=>us.toList.headD undef
  |v=>v
structure OB:Type where
 R:World→(Nat→Prop)→Value→Prop
 mono: ∀ {w w':World} {k k':Nat→Prop} {v:Value},(∀b,k b→k' b)→(∀b,k b→w'.heap[b]? =w.heap[b]?)→(∀b∈blks v,w'.heap[b]? =w.heap[b]?)→R w k v→R w' k' v
 lt: ∀ {w:World} {k:Nat→Prop} {v:Value},R w k v→(∀b∈blks v,b<w.heap.size)∧(eF v).oneCell'=true∧(blks v).Nodup
structure RW:Type where
 e:TypeId
 s:Nat
 n:Nat
 sc:Bool
 f:Nat→List AV
inductive AO:Type where
  |box (t:TypeId) (cs:List AV)
  |row (e:TypeId) (s n:Nat) (sc:Bool) (f:Nat→List AV)
  |mp (t:TypeId) (ks:List (ByteArray×Option Nat)) (rs:List (ByteArray×RW))
  |obs (o:OB)
  |rn (e:TypeId) (cs:List AV)
def qI:List (Nat×AV)→Nat→AV
  |[],_=> .junk
  |p::l,t=>bif Nat.beq t p.1 then p.2 else qI l t
def zJ (m:AV→AV):List (Nat×AV)→List (Nat×AV)
  |[]=>[]
  |(k,v)::l=>(k,m v)::zJ m l
theorem qg {m:AV→AV} (hm:m .junk= .junk): ∀ (l:List (Nat×AV)) (t:Nat),qI (zJ m l) t=m (qI l t)
  |[],_=>hm.symm
  | (k,v)::l,t=>by
    simp only[zJ,qI]
    cases Nat.beq t k with
    |true=>rfl
    |false=>exact qg hm l t
structure AS where
 sl:List (Nat×AV)
 heap:List (Nat×AO)
 back:List (List (Nat×AV))
 base:Nat
def AS.tmps (st:AS):Nat→AV:=qI st.sl
structure CX where
 w:World
 keep:Nat→Prop
 ρ:Nat→Value
inductive PC (w:World) (keep:Nat→Prop):AV→Value→Prop where
  |v (x:Value) (h:x.oneCell'=true):PC w keep (.v x) x
  |sl (s n:Nat) (sc:Bool) (f:Nat→List AV) (A:Option Addr) (c:Nat) (us:List Value) (hs:0<s) (hn:n≤c) (hc:c≤maxLen) (hl:us.length=n*s) (hf: ∀i,i<n→(f i).length=s) (hsc:sc=true→ ∀x∈flat n f,∃y,x= .v y)
     (hu: ∀ (i:Nat) (x:AV) (u:Value),(flat n f)[i]? =some x→us[i]? =some u→PC w keep x u)
     (hr:n=0∨ ∃b o,A=some ⟨b,o,none⟩∧keep b∧ ∀ (j:Nat) (u:Value),us[j]? =some u→w.cell? ⟨b,o+j,none⟩=some u):PC w keep (.sl s n sc f) (.slice A n c)
def aI (R:AV→Value→Prop) (xs:List AV) (us:List Value):Prop:=xs.length=us.length∧ ∀ (i:Nat) (x:AV) (u:Value),xs[i]? =some x→us[i]? =some u→R x u
def million:Nat:=1000000
def ZT (g:FuncId) (p:Value):Value:=bif Nat.blt g million then .func (.func g) #[] #[p]else .func (.func (Nat.sub g million)) #[p] #[]
def C0 (X:CX):AV→Value→Prop
  | .own id,u=>u=eF (X.ρ id)
  | .dN id s i k,u=> ∃b n c,X.ρ id= .slice (some ⟨b,0,none⟩) n c∧u= .pointer (some ⟨b,i*s+k,none⟩)
  | .jh id s i m,u=>(∃b c,jF (eF (X.ρ id))=[b]∧m≤c∧u= .slice (some ⟨b,i*s,none⟩) m c)∨(m=0∧ ∃A c,u= .slice A 0 c)
  | .box id off,u=> ∃b,eF (X.ρ id)= .pointer (some ⟨b,0,none⟩)∧u= .pointer (some ⟨b,off,none⟩)
  | .cf g id off,u=> ∃b,eF (X.ρ id)= .pointer (some ⟨b,0,none⟩)∧u=ZT g (.pointer (some ⟨b,off,none⟩))
  | .el cs k,u=> ∃b o us,u= .pointer (some ⟨b,o+k,none⟩)∧X.keep b∧aI (PC X.w X.keep) cs us∧ ∀ (j:Nat) (y:Value),us[j]? =some y→X.w.cell? ⟨b,o+j,none⟩=some y
  | .junk,_=>True
  | .v x,u=>u=x
  | .sl s n sc f,u=>PC X.w X.keep (.sl s n sc f) u
  | .agg _,_=>False
  | .dM _,_=>False
  | .fn _ _,_=>False
def C1 (X:CX):AV→Value→Prop
  | .agg cs,u=> ∃us,u= .agg us.toArray∧aI (C0 X) cs us
  | .fn g caps,u=> ∃us,u= .func (.func g) #[] us.toArray∧aI (C0 X) caps us
  |av,u=>C0 X av u
def C2 (X:CX):AV→Value→Prop
  | .dM vs,u=> ∃us,u= .tuple us.toArray∧aI (C1 X) vs us
  |av,u=>C1 X av u
def dU (d:Nat):AV→AV
  | .v x=> .v x
  | .agg cs=> .agg cs
  | .dM vs=> .dM vs
  | .sl s n sc f=> .sl s n sc f
  | .own id=>bif Nat.beq id d then .junk else .own id
  | .dN id s i k=>bif Nat.beq id d then .junk else .dN id s i k
  | .jh id s i k=>bif Nat.beq id d then .junk else .jh id s i k
  | .box id off=>bif Nat.beq id d then .junk else .box id off
  | .cf g id off=>bif Nat.beq id d then .junk else .cf g id off
  | .el cs k=> .el cs k
  | .fn g cs=> .fn g cs
  | .junk=> .junk
def WG (d:Nat):AV→AV
  | .v x=> .v x
  | .agg cs=> .agg (cs.map (dU d))
  | .dM vs=> .dM vs
  | .sl s n sc f=> .sl s n sc f
  | .own id=>bif Nat.beq id d then .junk else .own id
  | .dN id s i k=>bif Nat.beq id d then .junk else .dN id s i k
  | .jh id s i k=>bif Nat.beq id d then .junk else .jh id s i k
  | .box id off=>bif Nat.beq id d then .junk else .box id off
  | .cf g id off=>bif Nat.beq id d then .junk else .cf g id off
  | .el cs k=> .el cs k
  | .fn g cs=> .fn g (cs.map (dU d))
  | .junk=> .junk
def rG (d:Nat):AV→AV
  | .v x=> .v x
  | .agg cs=> .agg (cs.map (dU d))
  | .dM vs=> .dM (vs.map (WG d))
  | .sl s n sc f=> .sl s n sc f
  | .own id=>bif Nat.beq id d then .junk else .own id
  | .dN id s i k=>bif Nat.beq id d then .junk else .dN id s i k
  | .jh id s i k=>bif Nat.beq id d then .junk else .jh id s i k
  | .box id off=>bif Nat.beq id d then .junk else .box id off
  | .cf g id off=>bif Nat.beq id d then .junk else .cf g id off
  | .el cs k=> .el cs k
  | .fn g cs=> .fn g (cs.map (dU d))
  | .junk=> .junk
def uX (d:Nat):List (ByteArray×Option Nat)→List (ByteArray×Option Nat)
  |[]=>[]
  |(k,some i)::l=>(k,bif Nat.beq i d then none else some i)::uX d l
  |(k,none)::l=>(k,none)::uX d l
def AO.uY (d:Nat):AO→AO
  | .box t cs=> .box t (cs.map (dU d))
  | .row e s n sc f=> .row e s n sc f
  | .mp t ks rs=> .mp t (uX d ks) rs
  | .obs o=> .obs o
  | .rn e cs=> .rn e (cs.map (dU d))
def zK (u v:Value):Prop:=u=v∨((∃us,u= .tuple us)∧(∃vs,v= .tuple vs)∧eF u=eF v)
theorem zK.hd {u v:Value} (h:zK u v):eF u=eF v:=by
 rcases h with rfl|h
 · rfl
 · exact h.2.2
theorem zK.sl {u:Value} {a:Option Addr} {n c:Nat} (h:zK u (.slice a n c)):u= .slice a n c:=by
 rcases h with rfl|⟨_,⟨vs,e⟩,_⟩
 · rfl
 · cases e
theorem zK.refl (u:Value):zK u u:= .inl rfl
structure Ext (d:Nat) (X Y:CX):Prop where
 keep: ∀b,X.keep b→Y.keep b
 mem: ∀b,X.keep b→Y.w.heap[b]? =X.w.heap[b]?
 ρ: ∀i,i≠d→zK (Y.ρ i) (X.ρ i)
theorem PC.mono {w w':World} {k k':Nat→Prop} (hk: ∀b,k b→k' b) (hm: ∀b,k b→w'.heap[b]? =w.heap[b]?) {av:AV} {u:Value} (h:PC w k av u):PC w' k' av u:=by
 induction h with
 |v x h=>exact .v x h
 | sl s n sc f A c us hs hn hc hl hf hsc hu hr ih=>
   refine .sl s n sc f A c us hs hn hc hl hf hsc ih ?_
   rcases hr with h0|⟨b,o,e,kb,hcell⟩
   · exact .inl h0
   · exact .inr ⟨b,o,e,hk b kb,fun j u hj=>(World.cell?_of_block (hm b kb)).trans (hcell j u hj)⟩
theorem aI.imp {R S:AV→Value→Prop} {xs:List AV} {us:List Value} (h:aI R xs us) (hi: ∀x u,R x u→S x u):aI S xs us:=⟨h.1,fun i x u hx hu=>hi x u (h.2 i x u hx hu)⟩
theorem aI.l7 {R S:AV→Value→Prop} {g:AV→AV} {xs:List AV} {us:List Value} (h:aI R xs us) (hi: ∀x u,R x u→S (g x) u):aI S (xs.map g) us:=by
 refine⟨by simpa using h.1,fun i x u hx hu=> ?_⟩
 rw[List.getElem?_map]at hx
 cases hx':xs[i]? with
 |none=>rw[hx']at hx;cases hx
 |some y=>rw[hx']at hx;cases hx;exact hi y u (h.2 i y u hx' hu)
theorem aI.nil {R:AV→Value→Prop}:aI R [] []:=⟨rfl,fun i x u h=>by simp at h⟩
theorem aI.cons {R:AV→Value→Prop} {x:AV} {u:Value} {xs:List AV} {us:List Value} (h0:R x u) (h:aI R xs us):aI R (x::xs) (u::us):=by
 refine⟨by simpa using h.1,fun i y z hy hz=> ?_⟩
 cases i with
 |zero=>simp at hy hz;subst hy hz;exact h0
 |succ i=>exact h.2 i y z (by simpa using hy) (by simpa using hz)
theorem aI.app {R:AV→Value→Prop} {xs ys:List AV} {us vs:List Value} (h:aI R xs us) (k:aI R ys vs):aI R (xs++ys) (us++vs):=by
 refine⟨by simp[h.1,k.1],fun i y z hy hz=> ?_⟩
 by_cases hi:i<xs.length
 · rw[List.getElem?_append_left hi]at hy
   rw[List.getElem?_append_left (by rw[←h.1];exact hi)]at hz
   exact h.2 i y z hy hz
 · rw[List.getElem?_append_right (by omega)]at hy
   rw[List.getElem?_append_right (by rw[←h.1];omega),←h.1]at hz
   exact k.2 _ y z hy hz
theorem aI.drop {R:AV→Value→Prop} {xs:List AV} {us:List Value} (h:aI R xs us) (k:Nat):aI R (xs.drop k) (us.drop k):=
 ⟨by simp[h.1],fun i x u hx hu=>h.2 (k+i) x u (by simpa using hx) (by simpa using hu)⟩
theorem aI.take {R:AV→Value→Prop} {xs:List AV} {us:List Value} (h:aI R xs us) (k:Nat):aI R (xs.take k) (us.take k):=by
 refine⟨by simp[h.1],fun i x u hx hu=> ?_⟩
 rw[List.getElem?_take]at hx hu
 split at hx
 · rename_i hi;rw[if_pos hi]at hu;exact h.2 i x u hx hu
 · cases hx
theorem aI.get {R:AV→Value→Prop} {xs:List AV} {us:List Value} (h:aI R xs us) {i:Nat} {x:AV} (hx:xs[i]? =some x): ∃u,us[i]? =some u∧R x u:=by
 have hi:i<xs.length:=by
  rcases Nat.lt_or_ge i xs.length with h'|h'
  · exact h'
  · rw[List.getElem?_eq_none h']at hx;cases hx
 have hu:us[i]? =some (us[i]'(by rw[←h.1];exact hi)):=List.getElem?_eq_getElem _
 exact⟨_,hu,h.2 i x _ hx hu⟩
theorem aI.set {R:AV→Value→Prop} {xs:List AV} {us:List Value} (h:aI R xs us) (i:Nat) {x:AV} {u:Value} (hr:R x u):aI R (xs.set i x) (us.set i u):=by
 refine⟨by simp[h.1],fun j y z hy hz=> ?_⟩
 rw[List.getElem?_set]at hy hz
 by_cases e:i=j
 · subst e
   simp only[if_true]at hy hz
   split at hy
   · rename_i hlt;rw[if_pos (by rw[←h.1];exact hlt)]at hz;cases hy;cases hz;exact hr
   · cases hy
 · rw[if_neg e]at hy hz
   exact h.2 j y z hy hz
section
variable {d:Nat} {X Y:CX}
theorem beq_false {i d:Nat} (h:i≠d):Nat.beq i d=false:=by
 rw[Bool.eq_false_iff];intro e;exact h (Nat.eq_of_beq_eq_true e)
theorem C0.ext (hE:Ext d X Y) {av:AV} {u:Value} (h:C0 X av u):C0 Y (dU d av) u:=by
 cases av with
 | own id=>
   by_cases e:id=d
   · subst e;simp[dU,C0]
   · simp only[dU,beq_false e,cond_false,C0]at h⊢
     rw[(hE.ρ id e).hd];exact h
 | dN id s i k=>
   by_cases e:id=d
   · subst e;simp[dU,C0]
   · simp only[dU,beq_false e,cond_false,C0]at h⊢
     obtain⟨b,n,c,h1,h2⟩:=h
     have h3:=hE.ρ id e
     rw[h1]at h3
     exact⟨b,n,c,h3.sl,h2⟩
 | jh id s i k=>
   by_cases e:id=d
   · subst e;simp[dU,C0]
   · simp only[dU,beq_false e,cond_false,C0]at h⊢
     rw[(hE.ρ id e).hd];exact h
 | box id off=>
   by_cases e:id=d
   · subst e;simp[dU,C0]
   · simp only[dU,beq_false e,cond_false,C0]at h⊢
     rw[(hE.ρ id e).hd];exact h
 | cf g id off=>
   by_cases e:id=d
   · subst e;simp[dU,C0]
   · simp only[dU,beq_false e,cond_false,C0]at h⊢
     rw[(hE.ρ id e).hd];exact h
 | el cs k=>
   obtain⟨b,o,us,e,kb,ha,hc⟩:=h
   exact⟨b,o,us,e,hE.keep b kb,ha.imp (fun _ _=>PC.mono hE.keep hE.mem),fun j y hj=>(World.cell?_of_block (hE.mem b kb)).trans (hc j y hj)⟩
 |sl s n sc f=>exact PC.mono hE.keep hE.mem h
 |v x=>exact h
 |junk=>trivial
 |agg cs=>exact h
 |dM cs=>exact h
 |fn g caps=>exact h
theorem C1.ext (hE:Ext d X Y) {av:AV} {u:Value} (h:C1 X av u):C1 Y (WG d av) u:=by
 cases av with
 |agg cs=>obtain⟨us,e,ha⟩:=h;exact⟨us,e,ha.l7 fun _ _=>C0.ext hE⟩
 |fn g cs=>obtain⟨us,e,ha⟩:=h;exact⟨us,e,ha.l7 fun _ _=>C0.ext hE⟩
 | own id=>
   have:=C0.ext hE (av:= .own id) h
   show C1 Y (dU d (.own id)) u
   revert this
   simp only[dU]
   cases Nat.beq id d<;>exact fun h=>h
 | dN id s i k=>
   have:=C0.ext hE (av:= .dN id s i k) h
   show C1 Y (dU d (.dN id s i k)) u
   revert this
   simp only[dU]
   cases Nat.beq id d<;>exact fun h=>h
 | jh id s i k=>
   have:=C0.ext hE (av:= .jh id s i k) h
   show C1 Y (dU d (.jh id s i k)) u
   revert this
   simp only[dU]
   cases Nat.beq id d<;>exact fun h=>h
 | box id off=>
   have:=C0.ext hE (av:= .box id off) h
   show C1 Y (dU d (.box id off)) u
   revert this
   simp only[dU]
   cases Nat.beq id d<;>exact fun h=>h
 | cf g id off=>
   have:=C0.ext hE (av:= .cf g id off) h
   show C1 Y (dU d (.cf g id off)) u
   revert this
   simp only[dU]
   cases Nat.beq id d<;>exact fun h=>h
 |el cs k=>exact C0.ext hE (av:= .el cs k) h
 |sl s n sc f=>exact C0.ext hE (av:= .sl s n sc f) h
 |v x=>exact h
 |junk=>trivial
 |dM cs=>exact h
theorem C2.ext (hE:Ext d X Y) {av:AV} {u:Value} (h:C2 X av u):C2 Y (rG d av) u:=by
 cases av with
 |dM vs=>obtain⟨us,e,ha⟩:=h;exact⟨us,e,ha.l7 fun _ _=>C1.ext hE⟩
 |agg cs=>exact C1.ext hE (av:= .agg cs) h
 |fn g cs=>exact C1.ext hE (av:= .fn g cs) h
 | own id=>
   have:=C1.ext hE (av:= .own id) h
   show C2 Y (dU d (.own id)) u
   have h2:C1 Y (dU d (.own id)) u:=this
   revert h2
   simp only[dU]
   cases Nat.beq id d<;>exact fun h=>h
 | dN id s i k=>
   have h2:C1 Y (dU d (.dN id s i k)) u:=C1.ext hE (av:= .dN id s i k) h
   show C2 Y (dU d (.dN id s i k)) u
   revert h2
   simp only[dU]
   cases Nat.beq id d<;>exact fun h=>h
 | jh id s i k=>
   have h2:C1 Y (dU d (.jh id s i k)) u:=C1.ext hE (av:= .jh id s i k) h
   show C2 Y (dU d (.jh id s i k)) u
   revert h2
   simp only[dU]
   cases Nat.beq id d<;>exact fun h=>h
 | box id off=>
   have h2:C1 Y (dU d (.box id off)) u:=C1.ext hE (av:= .box id off) h
   show C2 Y (dU d (.box id off)) u
   revert h2
   simp only[dU]
   cases Nat.beq id d<;>exact fun h=>h
 | cf g id off=>
   have h2:C1 Y (dU d (.cf g id off)) u:=C1.ext hE (av:= .cf g id off) h
   show C2 Y (dU d (.cf g id off)) u
   revert h2
   simp only[dU]
   cases Nat.beq id d<;>exact fun h=>h
 |el cs k=>exact C1.ext hE (av:= .el cs k) h
 |sl s n sc f=>exact C1.ext hE (av:= .sl s n sc f) h
 |v x=>exact h
 |junk=>trivial
theorem C0.same (hk: ∀b,X.keep b→Y.keep b) (hm: ∀b,X.keep b→Y.w.heap[b]? =X.w.heap[b]?) (hρ:Y.ρ=X.ρ) {av:AV} {u:Value} (h:C0 X av u):C0 Y av u:=by
 cases av with
 |own id=>simp only[C0]at h⊢;rw[hρ];exact h
 |dN id s i k=>simp only[C0]at h⊢;rw[hρ];exact h
 |jh id s i k=>simp only[C0]at h⊢;rw[hρ];exact h
 |box id off=>simp only[C0]at h⊢;rw[hρ];exact h
 |cf g id off=>simp only[C0]at h⊢;rw[hρ];exact h
 | el cs k=>
   obtain⟨b,o,us,e,kb,ha,hc⟩:=h
   exact⟨b,o,us,e,hk b kb,ha.imp (fun _ _=>PC.mono hk hm),fun j y hj=>(World.cell?_of_block (hm b kb)).trans (hc j y hj)⟩
 |sl s n sc f=>exact PC.mono hk hm h
 |v x=>exact h
 |junk=>trivial
 |agg cs=>exact h
 |dM cs=>exact h
 |fn g caps=>exact h
theorem C1.same (hk: ∀b,X.keep b→Y.keep b) (hm: ∀b,X.keep b→Y.w.heap[b]? =X.w.heap[b]?) (hρ:Y.ρ=X.ρ) {av:AV} {u:Value} (h:C1 X av u):C1 Y av u:=by
 cases av with
 |agg cs=>obtain⟨us,e,ha⟩:=h;exact⟨us,e,ha.imp fun _ _=>C0.same hk hm hρ⟩
 |fn g cs=>obtain⟨us,e,ha⟩:=h;exact⟨us,e,ha.imp fun _ _=>C0.same hk hm hρ⟩
 |own id=>exact C0.same hk hm hρ (av:= .own id) h
 |dN id s i k=>exact C0.same hk hm hρ (av:= .dN id s i k) h
 |jh id s i k=>exact C0.same hk hm hρ (av:= .jh id s i k) h
 |box id off=>exact C0.same hk hm hρ (av:= .box id off) h
 |cf g id off=>exact C0.same hk hm hρ (av:= .cf g id off) h
 |el cs k=>exact C0.same hk hm hρ (av:= .el cs k) h
 |sl s n sc f=>exact C0.same hk hm hρ (av:= .sl s n sc f) h
 |v x=>exact h
 |junk=>trivial
 |dM cs=>exact h
theorem C2.same (hk: ∀b,X.keep b→Y.keep b) (hm: ∀b,X.keep b→Y.w.heap[b]? =X.w.heap[b]?) (hρ:Y.ρ=X.ρ) {av:AV} {u:Value} (h:C2 X av u):C2 Y av u:=by
 cases av with
 |dM vs=>obtain⟨us,e,ha⟩:=h;exact⟨us,e,ha.imp fun _ _=>C1.same hk hm hρ⟩
 |agg cs=>exact C1.same hk hm hρ (av:= .agg cs) h
 |fn g cs=>exact C1.same hk hm hρ (av:= .fn g cs) h
 |own id=>exact C1.same hk hm hρ (av:= .own id) h
 |dN id s i k=>exact C1.same hk hm hρ (av:= .dN id s i k) h
 |jh id s i k=>exact C1.same hk hm hρ (av:= .jh id s i k) h
 |box id off=>exact C1.same hk hm hρ (av:= .box id off) h
 |cf g id off=>exact C1.same hk hm hρ (av:= .cf g id off) h
 |el cs k=>exact C1.same hk hm hρ (av:= .el cs k) h
 |sl s n sc f=>exact C1.same hk hm hρ (av:= .sl s n sc f) h
 |v x=>exact h
 |junk=>trivial
end
theorem C2.sD {X:CX} {av:AV} {u:Value} (h:C0 X av u):C2 X av u:=by
 cases av<;>first|exact h|exact h.elim
theorem C2.jK {X:CX} {av:AV} {u:Value} (h:C1 X av u):C2 X av u:=by
 cases av<;>first|exact h|exact(show False from h).elim
theorem C1.sD {X:CX} {av:AV} {u:Value} (h:C0 X av u):C1 X av u:=by
 cases av<;>first|exact h|exact h.elim
theorem C0.MO {X:CX} {av:AV} {u:Value} (h:PC X.w X.keep av u):C0 X av u:=by
 cases h with
 |v x h=>rfl
 |sl s n sc f A c us hs hn hc hl hf hsc hu hr=>exact .sl s n sc f A c us hs hn hc hl hf hsc hu hr
def ah (ρ:Nat→Value) (h:List (Nat×AO)):List Nat:=h.flatMap fun p=>blks (ρ p.1)
structure Base where
 w:World
 keep:Nat→Prop
 mu:Nat→Prop
 ds:List Deferred
abbrev gY (w:World) (keep mu:Nat→Prop):Base:=⟨w,keep,mu,[]⟩
abbrev base0 (w:World) (keep:Nat→Prop):Base:=gY w keep fun _=>False
def aK (g:Base) (w:World) (ρ:Nat→Value) (h:List (Nat×AO)) (b:Nat):Prop:=b<w.heap.size∧(b<g.w.heap.size→g.keep b∨g.mu b)∧b ∉ ah ρ h
structure fH (M:Nat→Prop) (B:Nat) (w w':World):Prop where
 os:w'.os=w.os
 tape:w'.tape=w.tape
 output:w'.output=w.output
 size:w.heap.size≤w'.heap.size
 block: ∀k,k<B→ ¬M k→w'.heap[k]? =w.heap[k]?
theorem fH.refl (M:Nat→Prop) (B:Nat) (w:World):fH M B w w:=⟨rfl,rfl,rfl,Nat.le_refl _,fun _ _ _=>rfl⟩
theorem fH.trans {M:Nat→Prop} {B:Nat} {a b c:World} (h:fH M B a b) (k:fH M B b c):fH M B a c:=
 ⟨k.os.trans h.os,k.tape.trans h.tape,k.output.trans h.output,Nat.le_trans h.size k.size,fun i hi hm=>(k.block i hi hm).trans (h.block i hi hm)⟩
theorem fH.of {M:Nat→Prop} {B:Nat} {w w':World} (h:Below B w w'):fH M B w w':=⟨h.os,h.tape,h.output,h.size,fun k hk _=>h.block k hk⟩
theorem fH.less {M:Nat→Prop} {B:Nat} {w w':World} (h:fH M B w w') (hM: ∀k,¬M k):Below B w w':=⟨h.os,h.tape,h.output,h.size,fun k hk=>h.block k hk (hM k)⟩
theorem fH.then {M:Nat→Prop} {B B':Nat} {a b c:World} (h:fH M B a b) (k:Below B' b c) (hB:B≤B'):fH M B a c:=h.trans (.of (k.mono hB))
theorem fH.write {M:Nat→Prop} {B b:Nat} {a w w':World} (h:fH M B a w) (hb:B≤b∨M b) (k:Below b w w') (hm: ∀i,i≠b→w'.heap[i]? =w.heap[i]?):fH M B a w':=
 h.trans ⟨k.os,k.tape,k.output,k.size,fun i hi hM=>hm i (by rintro rfl;rcases hb with hb|hb;omega;exact hM hb)⟩
theorem fH.alloc {M:Nat→Prop} {B:Nat} {a w:World} (h:fH M B a w) (hB:B≤w.heap.size) (o:Obj):fH M B a (w.alloc o):=h.then ((Below.refl _ _).alloc (Nat.le_refl _) o) hB
theorem fH.grown {M:Nat→Prop} {B:Nat} {a w w':World} {row:Option Nat} (h:fH M B a w) (hg:w.grownBy w' row) (hB:B≤w.heap.size) (hr: ∀k,row=some k→B≤k∨M k):fH M B a w':=
 h.trans ⟨hg.os,hg.tape,hg.output,hg.size,fun k hk hM=>hg.block k (by omega) (fun e=>by rcases hr k e.symm with h|h;omega;exact hM h)⟩
def aC (g:Base) (w:World) (ρ:Nat→Value) (h:List (Nat×AO)):CX:=⟨w,aK g w ρ h,ρ⟩
def MP (ρ:Nat→Value):Nat→Value:=fun i=>eF (ρ i)
def jG (ρ:Nat→Value):List (ByteArray×Option Nat)→List Value→Prop
  |[],vs=>vs=[]
  |(_,o)::l,vs=> ∃v r,vs=v::r∧(∀i,o=some i→v=ρ i)∧jG ρ l r
def lC:List ByteArray→List Value→List (Value×Value)
  |k::l,v::r=>(match v with| .slice none _ _=>lC l r|v=>(.string k,v)::lC l r)
  |_,_=>[]
theorem lX (d:Nat): ∀ks:List (ByteArray×Option Nat),(uX d ks).map (·.1)=ks.map (·.1)
  |[]=>rfl
  |(k,some i)::l=>by simp[uX,lX d l]
  |(k,none)::l=>by simp[uX,lX d l]
theorem jG.imp {ρ ρ':Nat→Value}: ∀ {ks:List (ByteArray×Option Nat)} {vs:List Value},(∀p∈ks,∀i,p.2=some i→ρ' i=ρ i)→jG ρ ks vs→jG ρ' ks vs
  |[],_,_,k=>k
  |(k,o)::l,vs,h,⟨v,r,e,hi,hr⟩=>⟨v,r,e,fun j hj=>by rw[h (k,o) List.mem_cons_self j hj];exact hi j hj,jG.imp (fun p hp=>h p (List.mem_cons_of_mem _ hp)) hr⟩
theorem jG.uY {ρ ρ':Nat→Value} {d:Nat} (h: ∀i,i≠d→ρ' i=ρ i): ∀ {ks:List (ByteArray×Option Nat)} {vs:List Value},jG ρ ks vs→jG ρ' (uX d ks) vs
  |[],_,k=>k
  | (k,some i)::l,vs,⟨v,r,e,hi,hr⟩=>⟨v,r,e,fun j hj=>by
     by_cases hd:i=d
     · subst hd;simp at hj
     · have:Nat.beq i d=false:=by rw[Bool.eq_false_iff];intro e;exact hd (Nat.eq_of_beq_eq_true e)
       rw[this]at hj
       cases hj
       rw[h _ hd]
       exact hi _ rfl,jG.uY h hr⟩
  |(k,none)::l,vs,⟨v,r,e,_,hr⟩=>⟨v,r,e,fun j hj=>(by cases hj),jG.uY h hr⟩
def oV (X:CX) (v:Value) (e:TypeId) (s n:Nat) (sc:Bool) (f:Nat→List AV):Prop:=
 ∃us,X.w.ownsRow 0 e s v n us∧0<s∧(∀i,i<n→(f i).length=s)∧(sc=true→ ∀x∈flat n f,∃y,x= .v y)∧aI (PC X.w X.keep) (flat n f) us
def jk (X:CX):List (ByteArray×RW)→List Value→Prop
  |[],vs=>vs=[]
  |(_,r)::l,vs=> ∃v q,vs=v::q∧oV X v r.e r.s r.n r.sc r.f∧jk X l q
def bg (X:CX) (id:Nat):AO→Prop
  | .box t cs=> ∃b us,X.ρ id= .pointer (some ⟨b,0,none⟩)∧X.w.heap[b]? =some (.cells us.toArray t (0,0))∧aI (C0 X) cs us
  | .row e s n sc f=>oV X (X.ρ id) e s n sc f
  | .mp _ ks rs=> ∃b es c vs hs,X.ρ id= .tuple (.map (some b):: .map (some b)::hs).toArray∧X.w.heap[b]? =some (.map es c)∧jG (MP X.ρ) ks vs∧jk X rs hs∧(es.toList.map fun e=>(e.key,e.val)).Perm (lC (ks.map (·.1)++rs.map (·.1)) (vs++hs))∧(ks.map (·.1)++rs.map (·.1)).Nodup∧MapKept.Stamped es c
  | .obs o=> ∃us,X.ρ id= .tuple us∧o.R X.w X.keep (X.ρ id)
  | .rn e cs=> ∃us,(X.w.ownsRow 0 e 1 (X.ρ id) cs.length us∧ ∀u∈us,u.oneCell'=true)∧aI (C0 X) cs us
def lS (X:CX):List (List (Nat×AV))→List (Array Value)→Prop
  |[],[]=>True
  |f::fs,b::bs=>(∀t,C2 X (qI f t) (b.getD t undef))∧lS X fs bs
  |_,_=>False
theorem lS.map {X Y:CX} {m:AV→AV} (hm:m .junk= .junk) (h: ∀x u,C2 X x u→C2 Y (m x) u): ∀ {fs:List (List (Nat×AV))} {bs:List (Array Value)},lS X fs bs→lS Y (fs.map (zJ m)) bs
  |[],[],_=>trivial
  |_::_,_::_,k=>⟨fun t=>by rw[qg hm];exact h _ _ (k.1 t),lS.map hm h k.2⟩
  |[],_::_,k=>k.elim
  |_::_,[],k=>k.elim
theorem lS.imp {X Y:CX} (h: ∀x u,C2 X x u→C2 Y x u): ∀ {fs:List (List (Nat×AV))} {bs:List (Array Value)},lS X fs bs→lS Y fs bs
  |[],[],_=>trivial
  |_::_,_::_,k=>⟨fun t=>h _ _ (k.1 t),lS.imp h k.2⟩
  |[],_::_,k=>k.elim
  |_::_,[],k=>k.elim
structure Rel (g:Base) (N:Nat) (bs:List (Array Value)) (ρ:Nat→Value) (a:Act) (w:World) (st:AS):Prop where
 size:a.tmps.size=N
 defers:a.defers=g.ds
 below:fH g.mu g.w.heap.size g.w w
 tmps: ∀t,C2 (aC g w ρ st.heap) (st.tmps t) (a.tmps.getD t undef)
 objs: ∀p∈st.heap,bg (aC g w ρ st.heap) p.1 p.2
 apart:(ah ρ st.heap).Nodup
 own: ∀b,b∈ah ρ st.heap→g.w.heap.size≤b∨g.mu b
 back:lS (aC g w ρ st.heap) st.back bs
end
section
open Go.RowKit
def upd (d:Nat) (x:AV) (f:Nat→AV):Nat→AV:=fun t=>bif Nat.beq t d then x else f t
def AS.put (st:AS) (d:Nat) (x:AV):AS:=⟨(d,x)::st.sl,st.heap,st.back,st.base⟩
def gone (d j:Nat) (h:List (Nat×AO)):List (Nat×AO):=h.filter fun p=> !(Nat.beq p.1 d||Nat.beq p.1 j)
def nM (d:Nat) (h:List (Nat×AO)):List (Nat×AO):=h.map fun p=>(p.1,p.2.uY d)
def AS.obj (st:AS) (d j:Nat) (o:AO):AS:=⟨zJ (rG d) st.sl,(d,o.uY d)::nM d (gone d j st.heap),st.back.map (zJ (rG d)),Nat.add d 1⟩
def dD (ρ:Nat→Value) (d:Nat) (u:Value):Nat→Value:=fun i=>if i=d then u else ρ i
theorem aP {ρ:Nat→Value} {h:List (Nat×AO)} {b:Nat}:b∈ah ρ h↔ ∃p∈h,b∈blks (ρ p.1):=by simp[ah]
theorem aT (ρ:Nat→Value) (p:Nat×AO) (h:List (Nat×AO)):ah ρ (p::h)=blks (ρ p.1)++ah ρ h:=rfl
theorem jO {ρ:Nat→Value}: ∀ {h:List (Nat×AO)},(ah ρ h).Nodup→ ∀ {p:Nat×AO},p∈h→(blks (ρ p.1)).Nodup
  |[],_,p,hp=>by cases hp
  | q::h,hn,p,hp=>by
    rw[aT,List.nodup_append]at hn
    rcases List.mem_cons.1 hp with rfl|hp
    · exact hn.1
    · exact jO hn.2.1 hp
theorem Em {X:CX}: ∀ {rs:List (ByteArray×RW)} {hs:List Value},jk X rs hs→ ∀b∈hs.flatMap jF,b<X.w.heap.size
  |[],_,h,b,hb=>by rw[show _=[]from h]at hb;cases hb
  | (_,r)::l,_,⟨v,q,e,⟨us,hown,_⟩,hq⟩,b,hb=>by
    subst e
    rw[List.flatMap_cons]at hb
    rcases List.mem_append.1 hb with hb|hb
    · rcases hown.2 with⟨rfl,_⟩|⟨g,cap,cur,rfl,hg,hh,r⟩
      · cases hb
      · rw[List.mem_singleton.1 hb];exact(Array.getElem?_eq_some_iff.1 hh).1
    · exact Em hq b hb
theorem yR {ρ:Nat→Value} {p:Nat×AO} {h:List (Nat×AO)} (hn:(ah ρ (p::h)).Nodup):(ah ρ h).Nodup:=by
 rw[aT]at hn
 exact(List.nodup_append.1 hn).2.1
theorem gQ {ρ:Nat→Value} {q:Nat×AO→Bool} {h:List (Nat×AO)} {b:Nat} (hb:b∈ah ρ (h.filter q)):b∈ah ρ h:=by
 rw[aP]at hb⊢
 obtain⟨p,hp,e⟩:=hb
 exact⟨p,(List.mem_filter.1 hp).1,e⟩
theorem oZ {ρ:Nat→Value} {q:Nat×AO→Bool}: ∀ {h:List (Nat×AO)},(ah ρ h).Nodup→(ah ρ (h.filter q)).Nodup
  |[],_=>by simp[ah]
  | p ::h,hn=>by
    have ih:=oZ (q:=q) (yR hn)
    rw[List.filter_cons]
    split
    · rw[aT]at hn⊢
      rw[List.nodup_append]at hn⊢
      exact⟨hn.1,ih,fun x hx y hy=>hn.2.2 x hx y (gQ hy)⟩
    · exact ih
theorem fC {ρ:Nat→Value} {b:Nat}: ∀ {h:List (Nat×AO)},(ah ρ h).Nodup→ ∀p∈h,∀q∈h,b∈blks (ρ p.1)→b∈blks (ρ q.1)→p.1=q.1
  |[],_,p,hp,_,_,_,_=>by cases hp
  | r ::h,hn,p,hp,q,hq,e1,e2=>by
    have ht:=yR hn
    rw[aT,List.nodup_append]at hn
    rcases List.mem_cons.1 hp with rfl|hp'
    · rcases List.mem_cons.1 hq with rfl|hq'
      · rfl
      · exact absurd rfl (hn.2.2 b e1 b (aP.2 ⟨q,hq',e2⟩))
    · rcases List.mem_cons.1 hq with rfl|hq'
      · exact absurd rfl (hn.2.2 b e2 b (aP.2 ⟨p,hp',e1⟩))
      · exact fC ht p hp' q hq' e1 e2
theorem mg (ρ:Nat→Value) (d:Nat) (h:List (Nat×AO)):ah ρ (nM d h)=ah ρ h:=by
 simp[ah,nM,List.flatMap_map]
theorem uZ {ρ:Nat→Value} {d:Nat} {u:Value} {h:List (Nat×AO)} (hd: ∀p∈h,p.1≠d):ah (dD ρ d u) h=ah ρ h:=by
 induction h with
 |nil=>rfl
 | cons p h ih=>
   rw[aT,aT,ih (fun q hq=>hd q (by simp[hq]))]
   simp[dD,hd p (by simp)]
theorem yI {w w':World} {B:Nat} {e:TypeId} {s n:Nat} {v:Value} {us:List Value} (h:w.ownsRow B e s v n us) (hm: ∀b∈blks v,w'.heap[b]? =w.heap[b]?):w'.ownsRow B e s v n us:=by
 refine⟨h.1, ?_⟩
 rcases h.2 with hn|⟨g,cap,cur,rfl,hg,hh,r⟩
 · exact .inl hn
 · exact .inr ⟨g,cap,cur,rfl,hg,(hm g List.mem_cons_self).trans hh,r⟩
theorem gU {w:World} {B:Nat} {e:TypeId} {s n:Nat} {v:Value} {us:List Value} (h:w.ownsRow B e s v n us):eF v=v:=by
 rcases h.2 with⟨rfl,_⟩|⟨g,cap,cur,rfl,_⟩<;>rfl
theorem WH {w:World} {B:Nat} {e:TypeId} {s n:Nat} {v:Value} {us:List Value} (h:w.ownsRow B e s v n us):blks v=v.ownBlock.toList:=by
 rcases h.2 with⟨rfl,_⟩|⟨g,cap,cur,rfl,_⟩<;>rfl
theorem En {w:World} {B:Nat} {e:TypeId} {s n:Nat} {v:Value} {us:List Value} (h:w.ownsRow B e s v n us):jF v=blks v:=by
 rcases h.2 with⟨rfl,_⟩|⟨g,cap,cur,rfl,_⟩<;>rfl
theorem zL {X:CX} {id:Nat} {e:TypeId} {s n:Nat} {sc:Bool} {f:Nat→List AV} (h:bg X id (.row e s n sc f)):eF (X.ρ id)=X.ρ id:=by
 obtain⟨us,hown,_⟩:=h
 exact gU hown
theorem nN {w:World} {B:Nat} {e:TypeId} {s n:Nat} {v:Value} {us:List Value} (h:w.ownsRow B e s v n us):(blks v).Nodup:=by
 rcases h.2 with⟨rfl,_⟩|⟨g,cap,cur,rfl,_⟩<;>simp[blks,jF]
theorem oV.mono {X Y:CX} {v:Value} {e:TypeId} {s n:Nat} {sc:Bool} {f:Nat→List AV} (hk: ∀b,X.keep b→Y.keep b) (hmk: ∀b,X.keep b→Y.w.heap[b]? =X.w.heap[b]?) (hm: ∀b∈blks v,Y.w.heap[b]? =X.w.heap[b]?) (h:oV X v e s n sc f):oV Y v e s n sc f:=by
 obtain⟨us,ho,hs,hf,hsc,ha⟩:=h
 exact⟨us,yI ho hm,hs,hf,hsc,ha.imp fun _ _=>PC.mono hk hmk⟩
theorem jk.mono {X Y:CX} (hk: ∀b,X.keep b→Y.keep b) (hmk: ∀b,X.keep b→Y.w.heap[b]? =X.w.heap[b]?): ∀ {rs:List (ByteArray×RW)} {hs:List Value},(∀b∈hs.flatMap jF,Y.w.heap[b]? =X.w.heap[b]?)→jk X rs hs→jk Y rs hs
  |[],_,_,h=>h
  | (_,r)::l,_,hm,⟨v,q,e,hr,hq⟩=>by
    subst e
    rw[List.flatMap_cons]at hm
    have hb:jF v=blks v:=by obtain⟨us,ho,_⟩:=hr;exact En ho
    exact⟨v,q,rfl,hr.mono hk hmk (fun b hb'=>hm b (List.mem_append_left _ (by rw[hb];exact hb'))),jk.mono hk hmk (fun b hb'=>hm b (List.mem_append_right _ hb')) hq⟩
theorem bg.move {X Y:CX} {id id':Nat} {o o':AO} (hk: ∀b,X.keep b→Y.keep b) (hmk: ∀b,X.keep b→Y.w.heap[b]? =X.w.heap[b]?) (hid:Y.ρ id'=X.ρ id) (hm: ∀b∈blks (X.ρ id),Y.w.heap[b]? =X.w.heap[b]?)
  (ho:match o,o' with| .box t cs,.box t' cs'=>t'=t∧ ∀us,aI (C0 X) cs us→aI (C0 Y) cs' us| .row e s n sc f,o'=>o'= .row e s n sc f| .mp t ks rs,.mp t' ks' rs'=>t'=t∧rs'=rs∧ks'.map (·.1)=ks.map (·.1)∧ ∀vs,jG (MP X.ρ) ks vs→jG (MP Y.ρ) ks' vs| .obs o,o'=>o'= .obs o| .rn e cs,.rn e' cs'=>e'=e∧cs'.length=cs.length∧ ∀us,aI (C0 X) cs us→aI (C0 Y) cs' us|_,_=>False)
  (h:bg X id o):bg Y id' o':=by
 cases o with
 | box t cs=>
   cases o' with
   | box t' cs'=>
     obtain⟨rfl,ho⟩:=ho
     obtain⟨b,us,e,hh,ha⟩:=h
     exact⟨b,us,by rw[hid];exact e,(hm b (by rw[e];exact List.mem_cons_self)).trans hh,ho us ha⟩
   |row=>exact ho.elim
   |mp=>exact ho.elim
   |obs=>exact ho.elim
   |rn=>exact ho.elim
 | row e s n sc f=>
   have ho:o'=_:=ho
   subst ho
   show oV Y (Y.ρ id') e s n sc f
   rw[hid]
   exact oV.mono hk hmk hm h
 | mp t ks rs=>
   cases o' with
   | mp t' ks' rs'=>
     obtain⟨rfl,rfl,hkk,ho⟩:=ho
     obtain⟨b,es,c,vs,hs,e,hh,hi,hr,hp,hn⟩:=h
     rw[e]at hm
     exact⟨b,es,c,vs,hs,by rw[hid];exact e,(hm b List.mem_cons_self).trans hh,ho vs hi,hr.mono hk hmk (fun b hb=>hm b (List.mem_cons_of_mem _ hb)),by rw[hkk];exact hp,by rw[hkk];exact hn.1,hn.2⟩
   |row=>exact ho.elim
   |box=>exact ho.elim
   |obs=>exact ho.elim
   |rn=>exact ho.elim
 | obs o=>
   have ho:o'=_:=ho
   subst ho
   obtain⟨us,e,hr⟩:=h
   exact⟨us,by rw[hid];exact e,by rw[hid];exact o.mono hk hmk hm hr⟩
 | rn e cs=>
   cases o' with
   | rn e' cs'=>
     obtain⟨rfl,hlen,ho⟩:=ho
     obtain⟨us,⟨hown,hone⟩,ha⟩:=h
     exact⟨us,⟨by rw[hid,hlen];exact yI hown hm,hone⟩,ho us ha⟩
   |row=>exact ho.elim
   |mp=>exact ho.elim
   |obs=>exact ho.elim
   |box=>exact ho.elim
theorem bg.same {X Y:CX} {id:Nat} {o:AO} (hk: ∀b,X.keep b→Y.keep b) (hmk: ∀b,X.keep b→Y.w.heap[b]? =X.w.heap[b]?) (hρ:Y.ρ=X.ρ) (hm: ∀b∈blks (X.ρ id),Y.w.heap[b]? =X.w.heap[b]?) (h:bg X id o):bg Y id o:=by
 refine bg.move hk hmk (by rw[hρ]) hm ?_ h
 cases o with
 |box t cs=>exact⟨rfl,fun us ha=>ha.imp fun _ _=>C0.same hk hmk hρ⟩
 |row=>rfl
 |mp t ks rs=>exact⟨rfl,rfl,rfl,fun vs hv=>by rw[hρ];exact hv⟩
 |obs o=>rfl
 |rn e cs=>exact⟨rfl,rfl,fun us ha=>ha.imp fun _ _=>C0.same hk hmk hρ⟩
theorem bg.lt {X:CX} {id:Nat} {o:AO} (h:bg X id o): ∀b∈blks (X.ρ id),b<X.w.heap.size:=by
 cases o with
 | box t cs=>
   obtain⟨b,us,e,hh,ha⟩:=h
   intro c hc
   rw[e]at hc
   rw[List.mem_singleton.1 hc]
   exact(Array.getElem?_eq_some_iff.1 hh).1
 | row e s n sc f=>
   obtain⟨us,hown,_⟩:=h
   intro c hc
   rcases hown.2 with⟨hv,_⟩|⟨g,cap,cur,hv,hg,hh,r⟩
   · rw[hv]at hc;cases hc
   · rw[hv]at hc;rw[List.mem_singleton.1 hc];exact(Array.getElem?_eq_some_iff.1 hh).1
 | mp t ks rs=>
   obtain⟨b,es,c,vs,hs,e,hh,hi,hr,hp,hn⟩:=h
   intro q hq
   rw[e]at hq
   have hq:q∈b::hs.flatMap jF:=hq
   rcases List.mem_cons.1 hq with rfl|hq
   · exact(Array.getElem?_eq_some_iff.1 hh).1
   · exact Em hr q hq
 | obs o=>
   obtain⟨us,e,hr⟩:=h
   exact(o.lt hr).1
 | rn e cs=>
   obtain⟨us,⟨hown,_⟩,_⟩:=h
   intro c hc
   rcases hown.2 with⟨hv,_⟩|⟨g,cap,cur,hv,hg,hh,r⟩
   · rw[hv]at hc;cases hc
   · rw[hv]at hc;rw[List.mem_singleton.1 hc];exact(Array.getElem?_eq_some_iff.1 hh).1
theorem bg.ext {X Y:CX} {d id:Nat} {o:AO} (hE:Ext d X Y) (hid:Y.ρ id=X.ρ id) (hm: ∀b∈blks (X.ρ id),Y.w.heap[b]? =X.w.heap[b]?) (h:bg X id o):bg Y id (o.uY d):=by
 refine bg.move hE.keep hE.mem hid hm ?_ h
 cases o with
 |box t cs=>exact⟨rfl,fun us ha=>ha.l7 fun _ _=>C0.ext hE⟩
 |row=>rfl
 |mp t ks rs=>exact⟨rfl,rfl,lX d ks,fun vs hv=>hv.uY fun i hi=>(hE.ρ i hi).hd⟩
 |obs o=>rfl
 |rn e cs=>exact⟨rfl,by simp,fun us ha=>ha.l7 fun _ _=>C0.ext hE⟩
theorem sF {d j:Nat} {h:List (Nat×AO)} {p:Nat×AO}:p∈gone d j h↔p∈h∧p.1≠d∧p.1≠j:=by
 unfold gone
 rw[List.mem_filter]
 constructor
 · rintro⟨h1,h2⟩
   refine⟨h1, ?_, ?_⟩<;>(intro e;simp[e]at h2)
 · rintro⟨h1,h2,h3⟩
   exact⟨h1,by simp[beq_false h2,beq_false h3]⟩
section
variable {g:Base} {N:Nat} {bs:List (Array Value)} {ρ:Nat→Value} {a:Act} {w:World} {st:AS}
theorem Rel.put (R:Rel g N bs ρ a w st) {d:Nat} {x:AV} {u:Value} (hd:d<N) (h:C2 (aC g w ρ st.heap) x u):Rel g N bs ρ (a.put (some d) u) w (st.put d x):=by
 refine⟨?_,R.defers,R.below,fun t=> ?_,R.objs,R.apart,R.own,R.back⟩
 · simpa[Act.put]using R.size
 · show C2 _ (upd d x st.tmps t) ((a.tmps.setIfInBounds d u).getD t undef)
   by_cases e:t=d
   · subst e
     have hd':t<a.tmps.size:=by rw[R.size];exact hd
     have e1:(a.tmps.setIfInBounds t u).getD t undef=u:=by simp[hd']
     rw[e1]
     simp only[upd,Nat.beq_refl,cond_true]
     exact h
   · have e1:(a.tmps.setIfInBounds d u).getD t undef=a.tmps.getD t undef:=by
      simp[Ne.symm e]
     rw[e1]
     simp only[upd,beq_false e,cond_false]
     exact R.tmps t
theorem Rel.world (R:Rel g N bs ρ a w st) {w':World} (hb:Below w.heap.size w w'):Rel g N bs ρ a w' st:=by
 have hk: ∀b,aK g w ρ st.heap b→aK g w' ρ st.heap b:=fun b h=>⟨Nat.lt_of_lt_of_le h.1 hb.size,h.2⟩
 have hm: ∀b,aK g w ρ st.heap b→w'.heap[b]? =w.heap[b]? :=fun b h=>hb.block b h.1
 refine⟨R.size,R.defers,R.below.then hb R.below.size,fun t=>C2.same (X:=aC g w ρ st.heap) (Y:=aC g w' ρ st.heap) hk hm rfl (R.tmps t),fun p hp=> ?_,R.apart,R.own,R.back.imp fun _ _=>C2.same (X:=aC g w ρ st.heap) (Y:=aC g w' ρ st.heap) hk hm rfl⟩
 have ho:=R.objs p hp
 exact bg.same (X:=aC g w ρ st.heap) (Y:=aC g w' ρ st.heap) hk hm rfl (fun b hb'=>hb.block b (ho.lt b hb')) ho
theorem Rel.gu (R:Rel g N bs ρ a w st) {b:Nat} (h:b∈ah ρ st.heap):b<w.heap.size∧(g.w.heap.size≤b∨g.mu b):=by
 refine⟨?_,R.own b h⟩
 obtain⟨p,hp,e⟩:=aP.1 h
 exact(R.objs p hp).lt b e
theorem Rel.obj (R:Rel g N bs ρ a w st) (d j:Nat) {w':World} {nv:Value} {o:AO} (hb:fH g.mu g.w.heap.size g.w w') (hsz:w.heap.size≤w'.heap.size)
  (hmem: ∀b,b<w.heap.size→(∀p∈st.heap,p.1=j→ ¬b∈blks (ρ j))→w'.heap[b]? =w.heap[b]?)
  (hnv: ∀b∈blks nv,w.heap.size≤b∨ ∃p∈st.heap,p.1=j∧b∈blks (ρ j))
  (mD:Ext d (aC g w ρ st.heap) (aC g w' (dD ρ d nv) (st.obj d j o).heap)→bg (aC g w' (dD ρ d nv) (st.obj d j o).heap) d (o.uY d)) (hnd:(blks nv).Nodup:=by simp[blks,jF]):
  Rel g N bs (dD ρ d nv) a w' (st.obj d j o):=by
 have hgd: ∀p∈gone d j st.heap,p.1≠d:=fun p hp=>(sF.1 hp).2.1
 have hgs: ∀p∈nM d (gone d j st.heap),p.1≠d:=by
  intro p hp
  simp only[nM,List.mem_map]at hp
  obtain⟨q,hq,rfl⟩:=hp
  exact hgd q hq
 have hblocks:ah (dD ρ d nv) (st.obj d j o).heap=blks nv++ah ρ (gone d j st.heap):=by
  show ah _ (_::_)=_
  rw[aT,uZ hgs,mg]
  simp[dD]
 have hsub: ∀b,b∈ah ρ (gone d j st.heap)→b∈ah ρ st.heap:=fun b h=>gQ h
 have adf: ∀b,b∈ah ρ (gone d j st.heap)→ ∀p∈st.heap,p.1=j→ ¬b∈blks (ρ j):=by
  intro b hb p hp ZP e
  obtain⟨q,hq,hqe⟩:=aP.1 hb
  have:=fC R.apart q (sF.1 hq).1 p hp hqe (by rw[ZP];exact e)
  exact(sF.1 hq).2.2 (this.trans ZP)
 have hE:Ext d (aC g w ρ st.heap) (aC g w' (dD ρ d nv) (st.obj d j o).heap):=by
  refine⟨fun b hk=>⟨Nat.lt_of_lt_of_le hk.1 hsz,hk.2.1, ?_⟩,fun b hk=>hmem b hk.1 fun p hp ZP e=>hk.2.2 (aP.2 ⟨p,hp,by rw[ZP];exact e⟩),fun i hi=> .inl (by simp[aC,dD,hi])⟩
  rw[hblocks,List.mem_append]
  rintro(h|h)
  · rcases hnv b h with hge|⟨p,hp,ZP,e⟩
    · exact absurd hk.1 (by omega)
    · exact hk.2.2 (aP.2 ⟨p,hp,by rw[ZP];exact e⟩)
  · exact hk.2.2 (hsub b h)
 refine⟨R.size,R.defers,hb,fun t=>by rw[show(st.obj d j o).tmps t=rG d (st.tmps t)from qg rfl st.sl t];exact C2.ext hE (R.tmps t), ?_, ?_, ?_,R.back.map rfl fun _ _=>C2.ext hE⟩
 · intro p hp
   rcases List.mem_cons.1 hp with rfl|hp'
   · exact mD hE
   · simp only[nM,List.mem_map]at hp'
     obtain⟨q,hq,rfl⟩:=hp'
     have hq':=sF.1 hq
     refine bg.ext hE (by simp[aC,dD,hq'.2.1]) (fun b hb=> ?_) (R.objs q hq'.1)
     have hm:b∈ah ρ (gone d j st.heap):=aP.2 ⟨q,hq,hb⟩
     exact hmem b (R.gu (hsub b hm)).1 (adf b hm)
 · rw[hblocks,List.nodup_append]
   refine⟨hnd,oZ R.apart, ?_⟩
   · intro x hx y hy e
     subst e
     rcases hnv x hx with hge|⟨p,hp,ZP,e⟩
     · exact absurd (R.gu (hsub x hy)).1 (by omega)
     · exact adf x hy p hp ZP e
 · intro x hx
   rw[hblocks,List.mem_append]at hx
   rcases hx with hx|hx
   · rcases hnv x hx with hge|⟨p,hp,ZP,e⟩
     · exact .inl (Nat.le_trans R.below.size hge)
     · exact R.own x (aP.2 ⟨p,hp,by rw[ZP];exact e⟩)
   · exact R.own x (hsub x hx)
def setObj (id:Nat) (o:AO):List (Nat×AO)→List (Nat×AO)
  |[]=>[]
  |p::h=>bif Nat.beq p.1 id then(p.1,o)::h else p::setObj id o h
def aO (id:Nat):List (Nat×AO)→Option AO
  |[]=>none
  |p::h=>bif Nat.beq p.1 id then some p.2 else aO id h
theorem ay {id:Nat} {o:AO}: ∀ {h:List (Nat×AO)},aO id h=some o→(id,o)∈h
  |[],e=>by cases e
  | p ::h,e=>by
    simp only[aO]at e
    cases hb:Nat.beq p.1 id with
    | true=>
      rw[hb]at e
      simp only[cond_true,Option.some.injEq]at e
      have:=Nat.eq_of_beq_eq_true hb
      rw[←this,←e]
      exact List.mem_cons_self
    | false=>
      rw[hb]at e
      exact List.mem_cons_of_mem _ (ay e)
theorem jv (ρ:Nat→Value) (id:Nat) (o:AO): ∀h,ah ρ (setObj id o h)=ah ρ h
  |[]=>rfl
  | p::h=>by
    simp only[setObj]
    cases Nat.beq p.1 id with
    |true=>simp only[cond_true];rw[aT,aT]
    |false=>simp only[cond_false];rw[aT,aT,jv ρ id o h]
theorem tN {id:Nat} {o:AO} {p:Nat×AO}: ∀ {h:List (Nat×AO)},p∈setObj id o h→p=(id,o)∨p∈h
  |[],hp=>by cases hp
  | q ::h,hp=>by
    simp only[setObj]at hp
    cases hb:Nat.beq q.1 id with
    | true=>
      rw[hb]at hp
      rcases List.mem_cons.1 hp with rfl|hp'
      · left;rw[Nat.eq_of_beq_eq_true hb]
      · right;exact List.mem_cons_of_mem _ hp'
    | false=>
      rw[hb]at hp
      rcases List.mem_cons.1 hp with rfl|hp'
      · right;exact List.mem_cons_self
      · rcases tN hp' with h'|h'
        · exact .inl h'
        · exact .inr (List.mem_cons_of_mem _ h')
theorem Rel.write (R:Rel g N bs ρ a w st) {id b:Nat} {w':World} {o o':AO} (hf:aO id st.heap=some o) (hbk:b∈blks (ρ id)) (hb:Below b w w') (hsz:w'.heap.size=w.heap.size)
  (hmem: ∀k,k≠b→w'.heap[k]? =w.heap[k]?) (mD:(∀k,aK g w ρ st.heap k→aK g w' ρ (setObj id o' st.heap) k)→(∀k,aK g w ρ st.heap k→w'.heap[k]? =w.heap[k]?)→bg (aC g w' ρ (setObj id o' st.heap)) id o'):
  Rel g N bs ρ a w' ⟨st.sl,setObj id o' st.heap,st.back,st.base⟩:=by
 have hin:b∈ah ρ st.heap:=aP.2 ⟨_,ay hf,hbk⟩
 have hlt:=R.gu hin
 have hk: ∀k,aK g w ρ st.heap k→aK g w' ρ (setObj id o' st.heap) k:=fun k h=>⟨by rw[hsz];exact h.1,h.2.1,by rw[jv];exact h.2.2⟩
 have hm: ∀k,aK g w ρ st.heap k→w'.heap[k]? =w.heap[k]? :=fun k h=>hmem k fun e=>h.2.2 (by rw[e];exact hin)
 refine⟨R.size,R.defers,R.below.write hlt.2 hb hmem,fun t=>C2.same (X:=aC g w ρ st.heap) (Y:=aC g w' ρ (setObj id o' st.heap)) hk hm rfl (R.tmps t),fun p hp=> ?_,by rw[jv];exact R.apart,by rw[jv];exact R.own,R.back.imp fun _ _=>C2.same (X:=aC g w ρ st.heap) (Y:=aC g w' ρ (setObj id o' st.heap)) hk hm rfl⟩
 by_cases PY:p.1=id
 · rcases tN hp with rfl|hp'
   · exact mD hk hm
   · rw[PY,←Dz R hf hbk hp PY]
     exact mD hk hm
 · rcases tN hp with rfl|hp'
   · exact absurd rfl PY
   · have ho:=R.objs p hp'
     have hne: ∀k∈blks (ρ p.1),k≠b:=by
      intro k hk' e
      subst e
      exact PY (fC R.apart p hp' _ (ay hf) hk' hbk)
     exact bg.same (X:=aC g w ρ st.heap) (Y:=aC g w' ρ (setObj id o' st.heap)) hk hm rfl (fun k hk'=>hmem k (hne k hk')) ho
where
 Dz {id b:Nat} {o o':AO} {p:Nat×AO} (R:Rel g N bs ρ a w st) (hf:aO id st.heap=some o) (hbk:b∈blks (ρ id)) (hp:p∈setObj id o' st.heap) (PY:p.1=id):o'=p.2:=by
  have key: ∀h:List (Nat×AO),(ah ρ h).Nodup→p∈setObj id o' h→aO id h=some o→o'=p.2:=by
   intro h
   induction h with
   |nil=>intro _ hp;cases hp
   | cons q h ih=>
     intro hn hp hfq
     simp only[setObj]at hp
     simp only[aO]at hfq
     cases hb:Nat.beq q.1 id with
     | true=>
       rw[hb]at hp
       rcases List.mem_cons.1 hp with rfl|hp'
       · rfl
       · have hq:=Nat.eq_of_beq_eq_true hb
         rw[aT,List.nodup_append]at hn
         exact absurd rfl (hn.2.2 b (by rw[hq];exact hbk) b (aP.2 ⟨p,hp',by rw[PY];exact hbk⟩))
     | false=>
       rw[hb]at hp hfq
       rcases List.mem_cons.1 hp with rfl|hp'
       · rw[PY]at hb;simp at hb
       · exact ih (yR hn) hp' hfq
  exact key st.heap R.apart hp hf
end
end
section
open Go.RowKit
inductive TK:Type where
  |bool|str|int (k:IntKind)|ptr (e:TypeId)|slice (e:TypeId)|array (n:Nat) (e:TypeId)|struct (fs:List (Nat×TypeId))|map (k e:TypeId)|other
structure TI where
 size:Nat
 bytes:Nat
 zero:List Value
 kind:TK
def kindOf:TypeDesc→TK
  | .bool=> .bool
  | .int k=> .int k
  | .string=> .str
  | .pointer e=> .ptr e
  | .slice e=> .slice e
  | .array n e=> .array n e
  | .struct fs=> .struct (fs.toList.map fun f=>(f.offset,f.type))
  | .map k e=> .map k e
  |_=> .other
def TI.isAgg (i:TI):Bool:=match i.kind with| .array _ _=>true| .struct _=>true|_=>false
def PZ (P:Program) (t:TypeId):Option TI:=
 match P.info? t,P.underlying t with
 |some i,some d=>i.zero.map fun z=>⟨i.size,i.bytes,z.cells.toList,kindOf d⟩
 |_,_=>none
abbrev Lay:=List (TypeId×TI)
def aV:Lay→TypeId→Option TI
  |[],_=>none
  |p::l,t=>bif Nat.beq p.1 t then some p.2 else aV l t
def bM (P:Program) (L:Lay):Prop:= ∀t i,aV L t=some i→PZ P t=some i
theorem WI {P:Program} {L:Lay} (h:(L.map fun p=>PZ P p.1)=(L.map fun p=>some p.2)):bM P L:=by
 induction L with
 |nil=>intro t i e;cases e
 | cons p L ih=>
   intro t i e
   simp only[List.map_cons,List.cons.injEq]at h
   simp only[aV]at e
   cases hb:Nat.beq p.1 t with
   | true=>
     rw[hb]at e
     simp only[cond_true,Option.some.injEq]at e
     rw[←Nat.eq_of_beq_eq_true hb,←e]
     exact h.1
   | false=>
     rw[hb]at e
     exact ih h.2 t i e
inductive Ul (p A:Prop):Prop where
  |mk:p→A→Ul p A
inductive yC (p A B:Prop):Prop where
  |mk:(p→A)→(¬p→B)→yC p A B
theorem yC.yes {p A B:Prop} (h:p) (a:A):yC p A B:=⟨fun _=>a,fun n=>absurd h n⟩
theorem yC.no {p A B:Prop} (h: ¬p) (b:B):yC p A B:=⟨fun y=>absurd y h,fun _=>b⟩
theorem chk {b:Bool} {A:Prop} (h:b=true) (a:A):(bif b then A else False):=by rw[h];exact a
inductive Wr (n:Int) (K:Int→Prop):IntKind→Prop where
  |i64: -9223372036854775808≤n→n≤9223372036854775807→K n→Wr n K .i64
  |u64:0≤n→n≤18446744073709551615→K n→Wr n K .u64
  |u32:0≤n→n≤4294967295→K n→Wr n K .u32
  |u8:0≤n→n≤255→K n→Wr n K .u8
  |raw (k:IntKind):K (k.wrap n)→Wr n K k
def adg:Value→AV
  | .agg cs=> .agg (cs.toList.map .v)
  |x=> .v x
def AS.ev (st:AS):Operand→AV
  | .tmp t=>st.tmps t
  | .const x=>adg x
  | .func g=> .fn g []
  | .global _=> .junk
def adh (g:FuncId) (c:AV):Option (List AV):=match c with
  | .box id off=>bif Nat.blt g million then some [.cf g id off]else none
  |_=>none
def AV.cells? :AV→Option (List AV)
  | .agg cs=>some cs
  | .dM _=>none
  | .fn g caps=>(match caps with|[]=>some [.v (.func (.func g) #[] #[])]|c::r=>(match r with|[]=>adh g c|_::_=>none))
  |x=>some [x]
def WJ (y:Value):AV:=match y with
  | .func (.func g) fs us=>bif fs.toList.isEmpty&&us.toList.isEmpty then .fn g []else .v (.func (.func g) fs us)
  |y=> .v y
def AV.WL (x:AV):AV:=match x with
  | .v y=>WJ y
  | .cf g id off=>bif Nat.blt g million then .fn g [.box id off]else .cf g id off
  |x=>x
theorem zM {X:CX} {x:AV} {u:Value} (h:C2 X x u):C2 X x.WL u:=by
 cases x with
 | v y =>
   show C2 X (WJ y) u
   unfold WJ
   split
   · rename_i g fs us
     cases hb:fs.toList.isEmpty&&us.toList.isEmpty with
     |false=>exact h
     | true=>
       have hb:=Bool.and_eq_true_iff.1 hb
       have h1:fs= #[]:=by simpa using hb.1
       have h2:us= #[]:=by simpa using hb.2
       subst h1 h2
       have h:u= .func (.func g) #[] #[]:=h
       exact⟨[],h,rfl,fun i x u hx=>by simp at hx⟩
   · exact h
 | cf g id off=>
   show C2 X (bif Nat.blt g million then .fn g [.box id off]else .cf g id off) u
   cases hb:Nat.blt g million with
   | true=>
     obtain⟨b,h1,rfl⟩:=h
     exact⟨[.pointer (some ⟨b,off,none⟩)],by unfold ZT;rw[hb];rfl,aI.cons ⟨b,h1,rfl⟩ aI.nil⟩
   |false=>exact h
 |_=>exact h
def uT (h:List (Nat×AO)):AV→Bool
  | .v x=>x.oneCell'
  | .sl .. =>true
  | .own id=>match aO id h with|some (.row ..)=>true|some (.mp ..)=>true|some (.obs _)=>true|some (.rn ..)=>true|_=>false
  | .dN .. =>true
  | .jh .. =>true
  | .box .. =>true
  | .cf .. =>true
  | .el .. =>true
  |_=>false
def CQ:AV→Bool
  | .v x=>x.oneCell'
  | .sl .. =>true
  |_=>false
def isV:AV→Bool
  | .v _=>true
  |_=>false
def splice (cs:List AV) (k:Nat) (xs:List AV):List AV:=cs.take k++(xs++cs.drop (k+xs.length))
def ld (i:TI) (cs:List AV) (k:Nat) (K:AV→Prop):Prop:=
 bif i.isAgg then(bif Nat.ble (k+i.size) cs.length then K (.agg ((cs.drop k).take i.size))else False)
 else(bif Nat.ble (k+1) cs.length then K (cs.getD k .junk)else False)
def inB (n:Int) (m:Nat):Bool:=decide (0≤n)&&decide (n<(m:Int))
structure MQ (n:Int) (m:Nat) (A:Prop):Prop where
 mk::
 ok:inB n m=true
 k:A
theorem BD (n:Int) (m:Nat) (A:Prop):MQ n m A=(bif inB n m then A else False):=by
 cases h:inB n m with
 |true=>exact propext ⟨fun k=>k.k,fun k=>⟨h,k⟩⟩
 |false=>exact propext ⟨fun k=>(by have:=k.ok;rw[h]at this;cases this),fun k=>k.elim⟩
theorem P5 {n:Int} {m:Nat} (h0:0≤n) (h1:n<(m:Int)):inB n m=true:=by simp[inB,h0,h1]
inductive qM (n:Int) (m:Nat) (K:Nat→Prop):Prop where
  |mk (ok:inB n m=true) (k:K n.toNat):qM n m K
  |lit (c:Nat) (e:n=(c:Int)) (hc:Nat.blt c m=true) (k:K c):qM n m K
theorem WM (n:Int) (m:Nat) (K:Nat→Prop):qM n m K=(bif inB n m then K n.toNat else False):=by
 cases h:inB n m with
 | true=>
   refine propext ⟨fun k=> ?_,fun k=> .mk h k⟩
   cases k with
   |mk _ k=>exact k
   |lit c e _ k=>subst e;exact k
 | false=>
   refine propext ⟨fun k=> ?_,fun k=>k.elim⟩
   cases k with
   |mk ok _=>rw[h]at ok;cases ok
   | lit c e hc _=>
     subst e
     have hc:c<m:=Nat.blt_eq.mp hc
     rw[P5 (by omega) (by omega)]at h
     cases h
def RQ (L:Lay) (st:AS) (t:TypeId) (p:AV) (K:AV→Prop):Prop:=
 match aV L t,p with
 |some i,.box id k=>match aO id st.heap with|some (.box _ cs)=>ld i cs k K|_=>False
 |some i,.el cs k=>ld i cs k K
 |some i,.dN id s j k=>match aO id st.heap with|some (.row _ s' n _ f)=>bif Nat.beq s s' then(bif Nat.ble (j+1) n then ld i (f j) k K else False)else False|some (.rn _ cs)=>bif Nat.beq s 1 then ld i cs (j+k) K else False|_=>False
 |_,_=>False
def P6 (L:Lay) (st:AS) (t:TypeId) (p x:AV) (K:AS→Prop):Prop:=
 match aV L t,p,x.cells? with
 | some i,.box id k,some xs=>
   bif Nat.beq xs.length i.size&&xs.all (uT st.heap)then
    (match aO id st.heap with
    |some (.box t' cs)=>bif Nat.ble (k+xs.length) cs.length then K ⟨st.sl,setObj id (.box t' (splice cs k xs)) st.heap,st.back,st.base⟩else False
    |_=>False)
   else False
 | some i,.dN id s j k,some xs=>
   bif Nat.beq xs.length i.size&&xs.all CQ then
    (match aO id st.heap with
    | some (.row e s' n sc f)=>
      bif Nat.beq s s'&&Nat.ble (k+xs.length) s then(bif Nat.ble (j+1) n then K ⟨st.sl,setObj id (.row e s n (sc&&xs.all isV) (fun m=>bif Nat.beq m j then splice (f j) k xs else f m)) st.heap,st.back,st.base⟩else False)else False
    |_=>False)
   else False
 |_,_,_=>False
def nO (L:Lay) (t:TypeId) (p:AV) (i:Nat) (K:AV→Prop):Prop:=
 match aV L t with
 | some ti=>match ti.kind with
   | .struct fs=>match fs[i]? with
     | some (o,ft)=>match aV L ft with
       |some fi=>bif Nat.ble 1 fi.size then(match p with| .box id k=>K (.box id (k+o))| .el cs k=>K (.el cs (k+o))| .dN id s j k=>K (.dN id s j (k+o))|_=>False)else False
       |none=>False
     |none=>False
   |_=>False
 |none=>False
def P7 (L:Lay) (t:TypeId) (x:AV) (i:Nat) (K:AV→Prop):Prop:=
 match aV L t,x with
 | some ti,.agg cs=>match ti.kind with
   | .struct fs=>match fs[i]? with
     |some (o,ft)=>match aV L ft with|some fi=>ld fi cs o K|none=>False
     |none=>False
   |_=>False
 |_,_=>False
def yS (L:Lay) (st:AS) (t:TypeId) (x ix:AV) (K:AV→Prop):Prop:=
 match aV L t,ix with
 | some ti,.v (.int _ n)=>match ti.kind with
   | .slice e=>match aV L e with
     | some ei=>match x with
       | .sl s m _ f=>bif Nat.beq s ei.size then(MQ n m (K (.el (f n.toNat) 0)))else False
       | .own id=>match aO id st.heap with
         |some (.row _ s m _ _)=>bif Nat.beq s ei.size then(MQ n m (K (.dN id s n.toNat 0)))else False
         |some (.rn _ cs)=>bif Nat.beq 1 ei.size then qM n cs.length (fun q=>K (.dN id 1 q 0))else False
         |_=>False
       |_=>False
     |none=>False
   | .array m e=>match aV L e with
     |some ei=>qM n m (fun q=>match x with| .box id k=>K (.box id (k+q*ei.size))| .el cs k=>K (.el cs (k+q*ei.size))| .dN id s j k=>K (.dN id s j (k+q*ei.size))|_=>False)
     |none=>False
   |_=>False
 |_,_=>False
def P8 (L:Lay) (t:TypeId) (x ix:AV) (K:AV→Prop):Prop:=
 match aV L t,ix with
 | some ti,.v (.int _ n)=>match ti.kind,x with
   | .array m e,.agg cs=>match aV L e with|some ei=>qM n m (fun q=>ld ei cs (q*ei.size) K)|none=>False
   | .str,.v (.string s)=>MQ n s.size (K (.v (.int .u8 ((s.data.toList.getD n.toNat 0).toNat:Int))))
   |_,_=>False
 |_,_=>False
def Eo (x:AV) (i:Nat) (K:AV→Prop):Prop:=match x with| .dM vs=>(match vs[i]? with|some y=>K y|none=>False)|_=>False
def yJ (h:List (Nat×AO)) (place:Nat→Option (Nat×Nat)):List AV→List (Nat×AV)→Option (List AV)
  |cs,[]=>some cs
  | cs,(i,x)::r=>match place i,x.cells? with
    |some (o,s),some xs=>bif Nat.beq xs.length s&&Nat.ble (o+xs.length) cs.length&&xs.all (uT h)then yJ h place (splice cs o xs) r else none
    |_,_=>none
def placesOf (L:Lay):List (Nat×TypeId)→Option (List (Nat×Nat))
  |[]=>some []
  |(o,t)::r=>match aV L t,placesOf L r with|some i,some l=>some ((o,i.size)::l)|_,_=>none
def BF (L:Lay) (h0:List (Nat×AO)) (t:TypeId) (parts:List (Nat×AV)) (K:AV→Prop):Prop:=
 match aV L t with
 | some ti=>match ti.kind with
   | .struct fs=>match placesOf L fs with
     |some pl=>match yJ h0 (pl[·]?) (ti.zero.map .v) parts with|some cs=>K (.agg cs)|none=>False
     |none=>False
   | .array _ e=>match aV L e with
     |some ei=>match yJ h0 (fun i=>some (i*ei.size,ei.size)) (ti.zero.map .v) parts with|some cs=>K (.agg cs)|none=>False
     |none=>False
   |_=>False
 |none=>False
def WO (z:List AV):Nat→List AV
  |0=>[]
  |n+1=>z++WO z n
def chunk (s:Nat) (cs:List AV) (i:Nat):List AV:=(cs.drop (i*s)).take s
def qN (L:Lay) (d:Nat) (st:AS) (t:TypeId) (len:Nat) (parts:List (Nat×AV)) (K:AV→AS→Prop):Prop:=
 match aV L t with
 | some ti=>match ti.kind with
   | .slice e=>match aV L e with
     | some ei=>
       bif Nat.ble 1 ei.size&&Nat.beq ei.zero.length ei.size&&Nat.ble (len*ei.size) 65536 then
        (match yJ st.heap (fun i=>some (i*ei.size,ei.size)) (WO (ei.zero.map .v) len) parts with
        |some cs=>bif cs.all CQ then K (.own d) (st.obj d d (.row e ei.size len (cs.all isV) (chunk ei.size cs)))else(bif Nat.beq ei.size 1&&Nat.beq cs.length len&&cs.all (uT st.heap)then K (.own d) (st.obj d d (.rn e cs))else False)
        |none=>False)
       else False
     |none=>False
   |_=>False
 |none=>False
def abR (op:BinOp) (a b:Int) (K:AV→Prop):Prop:=
 match op with
 | .eql=>yC (a=b) (K (.v (.bool true))) (K (.v (.bool false)))
 | .neq=>yC (a=b) (K (.v (.bool false))) (K (.v (.bool true)))
 | .lss=>yC (a<b) (K (.v (.bool true))) (K (.v (.bool false)))
 | .leq=>yC (a≤b) (K (.v (.bool true))) (K (.v (.bool false)))
 | .gtr=>yC (b<a) (K (.v (.bool true))) (K (.v (.bool false)))
 | .geq=>yC (b≤a) (K (.v (.bool true))) (K (.v (.bool false)))
 |_=>False
inductive Dv (a b:Int) (K:Int→Prop):Prop where
  |pos:0≤a→0<b→K (a/b)→Dv a b K
  |raw:b≠0→K (a.tdiv b)→Dv a b K
inductive Rm (a b:Int) (K:Int→Prop):Prop where
  |pos:0≤a→0<b→K (a%b)→Rm a b K
  |raw:b≠0→K (a.tmod b)→Rm a b K
def ZU (op:BinOp) (k:IntKind) (a b:Int) (K:AV→Prop):Prop:=
 match op with
 | .add=>Wr (a+b) (fun n=>K (.v (.int k n))) k
 | .sub=>Wr (a-b) (fun n=>K (.v (.int k n))) k
 | .mul=>Wr (a*b) (fun n=>K (.v (.int k n))) k
 | .quo=>Dv a b (fun q=>Wr q (fun n=>K (.v (.int k n))) k)
 | .rem=>Rm a b (fun n=>K (.v (.int k n)))
 | .and=>K (.v (.int k (k.wrap (BitVec.ofInt k.bits a&&&BitVec.ofInt k.bits b).toNat)))
 | .or=>K (.v (.int k (k.wrap (BitVec.ofInt k.bits a|||BitVec.ofInt k.bits b).toNat)))
 | .xor=>K (.v (.int k (k.wrap (BitVec.ofInt k.bits a^^^BitVec.ofInt k.bits b).toNat)))
 | .shl=>False
 | .shr=>False
 | .andNot=>False
 |op=>abR op a b K
def P9 (op:BinOp) (k:IntKind) (a b:Int) (K:AV→Prop):Prop:=
 match op with
 | .shl=>Ul (0≤b) (Wr (a*2^min b.toNat k.bits) (fun n=>K (.v (.int k n))) k)
 | .shr=>Ul (0≤b) (K (.v (.int k (a.fdiv (2^min b.toNat k.bits)))))
 |_=>False
def abS (op:BinOp) (a b:ByteArray) (K:AV→Prop):Prop:=
 match op with
 | .add=>Ul (((a.size+b.size:Nat):Int)≤9223372036854775807) (K (.v (.string (a++b))))
 | .eql=>yC (a=b) (K (.v (.bool true))) (K (.v (.bool false)))
 | .neq=>yC (a=b) (K (.v (.bool false))) (K (.v (.bool true)))
 | .lss=>yC (Op.bytesLess a.toList b.toList=true) (K (.v (.bool true))) (K (.v (.bool false)))
 | .geq=>yC (Op.bytesLess a.toList b.toList=true) (K (.v (.bool false))) (K (.v (.bool true)))
 | .leq=>yC (Op.bytesLess a.toList b.toList=true∨a=b) (K (.v (.bool true))) (K (.v (.bool false)))
 | .gtr=>yC (Op.bytesLess a.toList b.toList=true∨a=b) (K (.v (.bool false))) (K (.v (.bool true)))
 |_=>False
def Ep (P:Program) (t:TypeId) (us vs:List Value) (p:Prop):Prop:=
 P.eqGuardType P.depth t=false∧ ∀w:World,∃b:Bool,(b=true↔p)∧(Op.equal t (.agg us.toArray) (.agg vs.toArray)).run P w= .ok b w
inductive IC (P:Program) (t:TypeId) (cs ds:List AV) (A B:Prop):Prop where
  |mk (us vs:List Value) (p:Prop) (hu:cs=us.map .v) (hv:ds=vs.map .v) (hp:Ep P t us vs p):yC p A B→IC P t cs ds A B
structure abT (n:Nat) (A B:Prop):Prop where
 y:n=0→A
 n:B
def abU (P:Program) (L:Lay) (op:BinOp) (t:TypeId) (x y:AV) (K:AV→Prop):Prop:=
 match x,y with
 | .v (.int k a),.v (.int k' b)=>(match op with
   | .shl=>P9 .shl k a b K
   | .shr=>P9 .shr k a b K
   |op=>bif decide (k=k')then ZU op k a b K else False)
 | .v (.string a),.v (.string b)=>abS op a b K
 | .v (.bool a),.v (.bool b)=>match aV L t with
   | some i=>(match i.kind,op with
     | .bool,.eql=>K (.v (.bool (a==b)))
     | .bool,.neq=>K (.v (.bool (!(a==b))))
     |_,_=>False)
   |none=>False
 | .agg cs,.agg ds=>(match op with
   | .eql=>IC P t cs ds (K (.v (.bool true))) (K (.v (.bool false)))
   | .neq=>IC P t cs ds (K (.v (.bool false))) (K (.v (.bool true)))
   |_=>False)
 | .box _ _,.v (.pointer none)=>match aV L t with
   | some i=>(match i.kind,op with
     | .ptr _,.eql=>K (.v (.bool false))
     | .ptr _,.neq=>K (.v (.bool true))
     |_,_=>False)
   |none=>False
 | .v (.pointer none),.v (.pointer none)=>match aV L t with
   | some i=>(match i.kind,op with
     | .ptr _,.eql=>K (.v (.bool true))
     | .ptr _,.neq=>K (.v (.bool false))
     |_,_=>False)
   |none=>False
 | .v (.slice none 0 0),.v (.slice none 0 0)=>match aV L t with
   | some i=>(match i.kind,op with
     | .slice _,.eql=>K (.v (.bool true))
     | .slice _,.neq=>K (.v (.bool false))
     |_,_=>False)
   |none=>False
 | .sl _ n _ _,.v (.slice none 0 0)=>match aV L t with
   | some i=>(match i.kind,op with
     | .slice _,.eql=>abT n (K (.v (.bool true))) (K (.v (.bool false)))
     | .slice _,.neq=>abT n (K (.v (.bool false))) (K (.v (.bool true)))
     |_,_=>False)
   |none=>False
 |_,_=>False
def aun (op:UnOp) (x:AV) (K:AV→Prop):Prop:=
 match op,x with
 | .not,.v (.bool b)=>K (.v (.bool (!b)))
 | .neg,.v (.int k n)=>Wr (0-n) (fun n=>K (.v (.int k n))) k
 | .xor,.v (.int k n)=>ZU .xor k (if k.signed then-1 else k.max) n K
 |_,_=>False
inductive Bs (n:Nat) (f:Nat→List AV) (K:List UInt8→Prop):Prop where
  |mk (bs:List UInt8) (hn:n=bs.length) (hf: ∀i,i<n→f i=[.v (.int .u8 ((bs.getD i 0).toNat:Int))]):K bs→Bs n f K
def Es (L:Lay) (st:AS) (src dst:TypeId) (x:AV) (K:AV→Prop):Prop:=
 match aV L src,aV L dst with
 | some si,some di=>match si.kind,di.kind,x with
   |_,.int k,.v (.int _ n)=>Wr n (fun n=>K (.v (.int k n))) k
   |_,.str,.v (.string s)=>K (.v (.string s))
   | .slice e,.str,.sl _ n _ f=>match aV L e with|some ei=>(match ei.kind with| .int .u8=>Bs n f (fun bs=>K (.v (.string ⟨bs.toArray⟩)))|_=>False)|none=>False
   | .slice e,.str,.own id=>match aO id st.heap with
     |some (.row _ _ n _ f)=>match aV L e with|some ei=>(match ei.kind with| .int .u8=>Bs n f (fun bs=>K (.v (.string ⟨bs.toArray⟩)))|_=>False)|none=>False
     |_=>False
   |_,_,_=>False
 |_,_=>False
def zN (i0:Nat) (a:AV):AV→AV
  | .v x=> .v x
  | .agg cs=> .agg cs
  | .dM vs=> .dM vs
  | .sl s n sc f=> .sl s n sc f
  | .own id=>bif Nat.beq id i0 then a else .own id
  | .dN id s i k=> .dN id s i k
  | .jh id s i k=> .jh id s i k
  | .box id off=> .box id off
  | .cf g id off=> .cf g id off
  | .el cs k=> .el cs k
  | .fn g cs=> .fn g cs
  | .junk=> .junk
def WQ (i0:Nat) (a:AV):AV→AV
  | .v x=> .v x
  | .agg cs=> .agg (cs.map (zN i0 a))
  | .dM vs=> .dM vs
  | .sl s n sc f=> .sl s n sc f
  | .own id=>bif Nat.beq id i0 then a else .own id
  | .dN id s i k=> .dN id s i k
  | .jh id s i k=> .jh id s i k
  | .box id off=> .box id off
  | .cf g id off=> .cf g id off
  | .el cs k=> .el cs k
  | .fn g cs=> .fn g (cs.map (zN i0 a))
  | .junk=> .junk
def IE (i0:Nat) (a:AV):AV→AV
  | .v x=> .v x
  | .agg cs=> .agg (cs.map (zN i0 a))
  | .dM vs=> .dM (vs.map (WQ i0 a))
  | .sl s n sc f=> .sl s n sc f
  | .own id=>bif Nat.beq id i0 then a else .own id
  | .dN id s i k=> .dN id s i k
  | .jh id s i k=> .jh id s i k
  | .box id off=> .box id off
  | .cf g id off=> .cf g id off
  | .el cs k=> .el cs k
  | .fn g cs=> .fn g (cs.map (zN i0 a))
  | .junk=> .junk
def AO.thaw (id:Nat) (a:AV):AO→AO
  | .box t cs=> .box t (cs.map (zN id a))
  | .row e s n sc f=> .row e s n sc f
  | .mp t ks rs=> .mp t (uX id ks) rs
  | .obs o=> .obs o
  | .rn e cs=> .rn e (cs.map (zN id a))
def AS.freeze (st:AS) (id s n:Nat) (sc:Bool) (f:Nat→List AV):AS:=
 ⟨zJ (IE id (.sl s n sc f)) st.sl,(st.heap.filter fun p=> !Nat.beq p.1 id).map fun p=>(p.1,p.2.thaw id (.sl s n sc f)),st.back.map (zJ (IE id (.sl s n sc f))),st.base⟩
def AS.iE (st:AS) (id:Nat):AS:=⟨zJ (rG id) st.sl,nM id (st.heap.filter fun p=> !Nat.beq p.1 id),st.back.map (zJ (rG id)),st.base⟩
def Um (s n:Nat) (sc:Bool) (f:Nat→List AV) (lo hi:Option AV) (K:AV→Prop):Prop:=
 match lo,hi with
 |none,none=>K (.sl s n sc f)
 |none,some (.v (.int _ h))=>MQ h (n+1) (K (.sl s h.toNat sc f))
 |some (.v (.int _ l)),none=>MQ l (n+1) (K (.sl s (n-l.toNat) sc (fun i=>f (l.toNat+i))))
 |some (.v (.int _ l)),some (.v (.int _ h))=>MQ h (n+1) ((MQ l (h.toNat+1) (K (.sl s (h.toNat-l.toNat) sc (fun i=>f (l.toNat+i))))))
 |_,_=>False
def WR (b:ByteArray) (lo hi:Option AV) (K:AV→Prop):Prop:=
 match lo,hi with
 |none,none=>K (.v (.string b))
 |none,some (.v (.int _ h))=>MQ h (b.size+1) (K (.v (.string (b.extract 0 h.toNat))))
 |some (.v (.int _ l)),none=>MQ l (b.size+1) (K (.v (.string (b.extract l.toNat b.size))))
 |some (.v (.int _ l)),some (.v (.int _ h))=>MQ h (b.size+1) ((MQ l (h.toNat+1) (K (.v (.string (b.extract l.toNat h.toNat))))))
 |_,_=>False
def WS (n:Nat) (lo hi:Option AV) (K:Nat→Nat→Prop):Prop:=
 match lo,hi with
 |none,none=>K 0 n
 |none,some (.v (.int _ h))=>MQ h (n+1) (K 0 h.toNat)
 |some (.v (.int _ l)),none=>MQ l (n+1) (K l.toNat n)
 |some (.v (.int _ l)),some (.v (.int _ h))=>MQ h (n+1) (MQ l (h.toNat+1) (K l.toNat h.toNat))
 |_,_=>False
inductive ASl (A B C:Prop):Prop where
  |BG (h:A):ASl A B C
  |part (h:B):ASl A B C
  |cut (h:C):ASl A B C
def bJ (n m:Nat) (K:Nat→Prop):Prop:=bif Nat.beq n m then K m else K n
def bK (b:Bool) (X Y:Prop):Prop:=bif b then X else Y
theorem ZV (n m:Nat) (K:Nat→Prop):bJ n m K=K n:=by
 unfold bJ
 cases h:Nat.beq n m with
 |true=>rw[Nat.eq_of_beq_eq_true h];rfl
 |false=>rfl
theorem ZW {b:Bool} {X Y Z:Prop} (h1:X=Z) (h2:Y=Z):bK b X Y=Z:=by cases b;exact h2;exact h1
def Et (n:Nat) (K:Nat→Prop):Prop:=
 bK (Nat.ble 64 n) (bK (Nat.ble 96 n) (bK (Nat.ble 112 n) (bK (Nat.ble 120 n) (bK (Nat.ble 124 n) (bK (Nat.ble 126 n) (bK (Nat.ble 127 n) (bJ n 127 K) (bJ n 126 K)) (bK (Nat.ble 125 n) (bJ n 125 K) (bJ n 124 K))) (bK (Nat.ble 122 n) (bK (Nat.ble 123 n) (bJ n 123 K) (bJ n 122 K)) (bK (Nat.ble 121 n) (bJ n 121 K) (bJ n 120 K)))) (bK (Nat.ble 116 n) (bK (Nat.ble 118 n) (bK (Nat.ble 119 n) (bJ n 119 K) (bJ n 118 K)) (bK (Nat.ble 117 n) (bJ n 117 K) (bJ n 116 K))) (bK (Nat.ble 114 n) (bK (Nat.ble 115 n) (bJ n 115 K) (bJ n 114 K)) (bK (Nat.ble 113 n) (bJ n 113 K) (bJ n 112 K))))) (bK (Nat.ble 104 n) (bK (Nat.ble 108 n) (bK (Nat.ble 110 n) (bK (Nat.ble 111 n) (bJ n 111 K) (bJ n 110 K)) (bK (Nat.ble 109 n) (bJ n 109 K) (bJ n 108 K))) (bK (Nat.ble 106 n) (bK (Nat.ble 107 n) (bJ n 107 K) (bJ n 106 K)) (bK (Nat.ble 105 n) (bJ n 105 K) (bJ n 104 K)))) (bK (Nat.ble 100 n) (bK (Nat.ble 102 n) (bK (Nat.ble 103 n) (bJ n 103 K) (bJ n 102 K)) (bK (Nat.ble 101 n) (bJ n 101 K) (bJ n 100 K))) (bK (Nat.ble 98 n) (bK (Nat.ble 99 n) (bJ n 99 K) (bJ n 98 K)) (bK (Nat.ble 97 n) (bJ n 97 K) (bJ n 96 K)))))) (bK (Nat.ble 80 n) (bK (Nat.ble 88 n) (bK (Nat.ble 92 n) (bK (Nat.ble 94 n) (bK (Nat.ble 95 n) (bJ n 95 K) (bJ n 94 K)) (bK (Nat.ble 93 n) (bJ n 93 K) (bJ n 92 K))) (bK (Nat.ble 90 n) (bK (Nat.ble 91 n) (bJ n 91 K) (bJ n 90 K)) (bK (Nat.ble 89 n) (bJ n 89 K) (bJ n 88 K)))) (bK (Nat.ble 84 n) (bK (Nat.ble 86 n) (bK (Nat.ble 87 n) (bJ n 87 K) (bJ n 86 K)) (bK (Nat.ble 85 n) (bJ n 85 K) (bJ n 84 K))) (bK (Nat.ble 82 n) (bK (Nat.ble 83 n) (bJ n 83 K) (bJ n 82 K)) (bK (Nat.ble 81 n) (bJ n 81 K) (bJ n 80 K))))) (bK (Nat.ble 72 n) (bK (Nat.ble 76 n) (bK (Nat.ble 78 n) (bK (Nat.ble 79 n) (bJ n 79 K) (bJ n 78 K)) (bK (Nat.ble 77 n) (bJ n 77 K) (bJ n 76 K))) (bK (Nat.ble 74 n) (bK (Nat.ble 75 n) (bJ n 75 K) (bJ n 74 K)) (bK (Nat.ble 73 n) (bJ n 73 K) (bJ n 72 K)))) (bK (Nat.ble 68 n) (bK (Nat.ble 70 n) (bK (Nat.ble 71 n) (bJ n 71 K) (bJ n 70 K)) (bK (Nat.ble 69 n) (bJ n 69 K) (bJ n 68 K))) (bK (Nat.ble 66 n) (bK (Nat.ble 67 n) (bJ n 67 K) (bJ n 66 K)) (bK (Nat.ble 65 n) (bJ n 65 K) (bJ n 64 K))))))) (bK (Nat.ble 32 n) (bK (Nat.ble 48 n) (bK (Nat.ble 56 n) (bK (Nat.ble 60 n) (bK (Nat.ble 62 n) (bK (Nat.ble 63 n) (bJ n 63 K) (bJ n 62 K)) (bK (Nat.ble 61 n) (bJ n 61 K) (bJ n 60 K))) (bK (Nat.ble 58 n) (bK (Nat.ble 59 n) (bJ n 59 K) (bJ n 58 K)) (bK (Nat.ble 57 n) (bJ n 57 K) (bJ n 56 K)))) (bK (Nat.ble 52 n) (bK (Nat.ble 54 n) (bK (Nat.ble 55 n) (bJ n 55 K) (bJ n 54 K)) (bK (Nat.ble 53 n) (bJ n 53 K) (bJ n 52 K))) (bK (Nat.ble 50 n) (bK (Nat.ble 51 n) (bJ n 51 K) (bJ n 50 K)) (bK (Nat.ble 49 n) (bJ n 49 K) (bJ n 48 K))))) (bK (Nat.ble 40 n) (bK (Nat.ble 44 n) (bK (Nat.ble 46 n) (bK (Nat.ble 47 n) (bJ n 47 K) (bJ n 46 K)) (bK (Nat.ble 45 n) (bJ n 45 K) (bJ n 44 K))) (bK (Nat.ble 42 n) (bK (Nat.ble 43 n) (bJ n 43 K) (bJ n 42 K)) (bK (Nat.ble 41 n) (bJ n 41 K) (bJ n 40 K)))) (bK (Nat.ble 36 n) (bK (Nat.ble 38 n) (bK (Nat.ble 39 n) (bJ n 39 K) (bJ n 38 K)) (bK (Nat.ble 37 n) (bJ n 37 K) (bJ n 36 K))) (bK (Nat.ble 34 n) (bK (Nat.ble 35 n) (bJ n 35 K) (bJ n 34 K)) (bK (Nat.ble 33 n) (bJ n 33 K) (bJ n 32 K)))))) (bK (Nat.ble 16 n) (bK (Nat.ble 24 n) (bK (Nat.ble 28 n) (bK (Nat.ble 30 n) (bK (Nat.ble 31 n) (bJ n 31 K) (bJ n 30 K)) (bK (Nat.ble 29 n) (bJ n 29 K) (bJ n 28 K))) (bK (Nat.ble 26 n) (bK (Nat.ble 27 n) (bJ n 27 K) (bJ n 26 K)) (bK (Nat.ble 25 n) (bJ n 25 K) (bJ n 24 K)))) (bK (Nat.ble 20 n) (bK (Nat.ble 22 n) (bK (Nat.ble 23 n) (bJ n 23 K) (bJ n 22 K)) (bK (Nat.ble 21 n) (bJ n 21 K) (bJ n 20 K))) (bK (Nat.ble 18 n) (bK (Nat.ble 19 n) (bJ n 19 K) (bJ n 18 K)) (bK (Nat.ble 17 n) (bJ n 17 K) (bJ n 16 K))))) (bK (Nat.ble 8 n) (bK (Nat.ble 12 n) (bK (Nat.ble 14 n) (bK (Nat.ble 15 n) (bJ n 15 K) (bJ n 14 K)) (bK (Nat.ble 13 n) (bJ n 13 K) (bJ n 12 K))) (bK (Nat.ble 10 n) (bK (Nat.ble 11 n) (bJ n 11 K) (bJ n 10 K)) (bK (Nat.ble 9 n) (bJ n 9 K) (bJ n 8 K)))) (bK (Nat.ble 4 n) (bK (Nat.ble 6 n) (bK (Nat.ble 7 n) (bJ n 7 K) (bJ n 6 K)) (bK (Nat.ble 5 n) (bJ n 5 K) (bJ n 4 K))) (bK (Nat.ble 2 n) (bK (Nat.ble 3 n) (bJ n 3 K) (bJ n 2 K)) (bK (Nat.ble 1 n) (bJ n 1 K) (bJ n 0 K)))))))
theorem MR (n:Nat) (K:Nat→Prop):Et n K=K n:=by
 unfold Et
 repeat' (first|exact ZV _ _ _|apply ZW)
def nameOf (st:AS) (K:Nat→Prop):Prop:=match st with|⟨_,_,_,b⟩=>Et b K
theorem iO (st:AS) (K:Nat→Prop):nameOf st K=K st.base:=by cases st;exact MR _ _
def aslice (L:Lay) (st:AS) (t:TypeId) (x:AV) (lo hi mx:Option AV) (K:AV→AS→Prop):Prop:=
 match mx,aV L t with
 | none,some ti=>match ti.kind,x with
   | .slice e,.sl s n sc f=>(match aV L e with|some ei=>bif Nat.beq s ei.size then Um s n sc f lo hi (fun y=>K y st)else False|none=>False)
   | .slice e,.v (.slice none 0 0)=>(match aV L e with|some _=>WS 0 lo hi (fun _ _=>K (.v (.slice none 0 0)) st)|none=>False)
   | .slice e,.own id=>(match aO id st.heap with|some (.row e' s n sc f)=>(match aV L e with|some ei=>bif Nat.beq s ei.size then ASl (Um s n sc f lo hi (fun y=>K y (st.freeze id s n sc f))) (WS n lo hi (fun l h=>K (.jh id s l (h-l)) st)) (WS n lo hi (fun l h=>bif Nat.beq l 0 then nameOf st (fun d=>K (.own d) (st.obj d id (.row e' s h sc f)))else False))else False|none=>False)|_=>False)
   | .str,.v (.string b)=>WR b lo hi (fun y=>K y st)
   | .array m e,.box id k=>ASl (match lo,hi,k,aO id st.heap,aV L e with
     |none,none,0,some (.box _ cs),some ei=>bif Nat.ble 1 ei.size&&Nat.beq cs.length (m*ei.size)&&Nat.ble m 65536&&cs.all CQ then K (.sl ei.size m (cs.all isV) (chunk ei.size cs)) (st.iE id)else False
     |_,_,_,_,_=>False) (match lo,hi,aV L e with|none,none,some _=>K (.jh id 1 k m) st|_,_,_=>False) False
   |_,_=>False
 |_,_=>False
def RS (L:Lay) (st:AS) (s:Nat) (t:TypeId) (x:AV):Option (Nat×Bool×(Nat→List AV)):=
 match aV L t with
 | some ti=>match ti.kind,x with
   | .slice _,.sl s' n sc f=>bif Nat.beq s s' then some (n,sc,f)else none
   | .slice _,.own id=>match aO id st.heap with|some (.row _ s' n sc f)=>bif Nat.beq s s' then some (n,sc,f)else none|_=>none
   | .slice _,.v (.slice none 0 _)=>some (0,true,fun _=>[])
   | .str,.v (.string b)=>bif Nat.beq s 1 then some (b.size,true,fun i=>[.v (.int .u8 ((b.data.toList.getD i 0).toNat:Int))])else none
   |_,_=>none
 |none=>none
def qh (n:Nat) (f g:Nat→List AV):Nat→List AV:=fun i=>bif Nat.ble n i then g (i-n)else f i
def abz (L:Lay) (d:Nat) (st:AS) (e:TypeId) (ei:TI) (tx:TypeId) (x y:AV) (K:AV→AS→Prop):Prop:=
 match aV L tx,y with
 | some ti,.own j=>match ti.kind,aO j st.heap with
   | .slice _,some (.rn _ ds)=>bif Nat.beq ei.size 1&&Nat.ble ei.bytes 1024&&Nat.ble ds.length 1024 then
      (match x with
      | .v (.slice none 0 0)=>K (.own d) (st.obj d d (.rn e ds))
      | .own id=>match aO id st.heap with
        |some (.rn e' cs)=>bif Nat.beq e e'&&Nat.ble cs.length 1024 then K (.own d) (st.obj d id (.rn e (cs++ds)))else False
        |_=>False
      |_=>False)
     else False
   |_,_=>False
 |_,_=>False
def Ko (L:Lay) (d:Nat) (st:AS) (t tx:TypeId) (x y:AV) (K:AV→AS→Prop):Prop:=
 match aV L t with
 | some ti=>match ti.kind with
   | .slice e=>match aV L e with
     | some ei=>
       bif Nat.ble 1 ei.size&&Nat.beq ei.zero.length ei.size then
        (match RS L st ei.size tx y with
        | some (m,sc',g)=>match x with
          | .v (.slice none 0 0)=>Ul (m*ei.bytes≤140737488355328∧m≤140737488355328) (K (.own d) (st.obj d d (.row e ei.size m sc' g)))
          | .own id=>match aO id st.heap with
            |some (.row e' s n sc f)=>bif Nat.beq e e'&&Nat.beq s ei.size then Ul ((n+m)*ei.bytes≤140737488355328∧n+m≤140737488355328) (K (.own d) (st.obj d id (.row e s (n+m) (sc&&sc') (qh n f g))))else False
            |_=>False
          |_=>False
        |none=>abz L d st e ei tx x y K)
       else False
     |none=>False
   |_=>False
 |none=>False
inductive AMk (b:Nat) (l c:Int) (K:Nat→Prop):Prop where
  |none:l=0→0≤c→c*b≤140737488355328→c≤140737488355328→K 0→AMk b l c K
  |full:0≤l→l=c→c*b≤140737488355328→c≤140737488355328→K l.toNat→AMk b l c K
def WT (L:Lay) (d:Nat) (st:AS) (t:TypeId) (l c:AV) (K:AV→AS→Prop):Prop:=
 match aV L t,l,c with
 | some ti,.v (.int _ l),.v (.int _ c)=>match ti.kind with
   | .slice e=>match aV L e with
     |some ei=>bif (Nat.ble 1 ei.size&&Nat.beq ei.zero.length ei.size)&&ei.zero.all (fun x=>x.oneCell')then AMk ei.bytes l c (fun n=>K (.own d) (st.obj d d (.row e ei.size n true (fun _=>ei.zero.map .v))))else False
     |none=>False
   |_=>False
 |_,_,_=>False
def Qa (L:Lay) (t:TypeId) (x:AV) (K:AV→Prop):Prop:=
 match aV L t,x with
 | some ti,.sl s n _ f=>match ti.kind with
   | .array m e=>match aV L e with
     |some ei=>bif Nat.beq s ei.size&&Nat.ble 1 m then Ul (m≤n) (K (.el (flat m f) 0))else False
     |none=>False
   |_=>False
 |_,_=>False
def abV (L:Lay) (st:AS) (t:TypeId) (x:AV) (K:AV→Prop):Prop:=
 match aV L t with
 |none=>False
 |some i=>match i.kind,x with
 | .str,.v (.string b)=>K (.v (.int .i64 (b.size:Int)))
 | .slice _,.v (.slice _ n _)=>K (.v (.int .i64 (n:Int)))
 | .slice _,.sl _ n _ _=>K (.v (.int .i64 (n:Int)))
 | .slice _,.own id=>(match aO id st.heap with|some (.row _ _ n _ _)=>K (.v (.int .i64 (n:Int)))|some (.rn _ cs)=>K (.v (.int .i64 (cs.length:Int)))|_=>False)
 | .slice _,.jh _ _ _ m=>K (.v (.int .i64 (m:Int)))
 | .array m _,_=>K (.v (.int .i64 (m:Int)))
 |_,_=>False
def Hz (h:List (Nat×AO)):AV→AV
  | .own id=>match aO id h with|some (.row _ s n sc f)=> .sl s n sc f|_=> .junk
  | .v x=> .v x
  | .sl s n sc f=> .sl s n sc f
  |_=> .junk
def Qb (h:List (Nat×AO)):AV→AV
  | .agg cs=> .agg (cs.map (Hz h))
  |x=>Hz h x
inductive ZX (h:List (Nat×AO)):AV→AV→Prop where
  |eq (a:AV):ZX h a (Hz h a)
  |nil (s:Nat) (sc:Bool) (f:Nat→List AV):0<s→ZX h (.v (.slice none 0 0)) (.sl s 0 sc f)
inductive Un (h:List (Nat×AO)):AV→AV→Prop where
  |eq (a:AV):Un h a (Qb h a)
  |nil (s:Nat) (sc:Bool) (f:Nat→List AV):0<s→Un h (.v (.slice none 0 0)) (.sl s 0 sc f)
  |agg (cs ds:List AV):cs.length=ds.length→(∀ (i:Nat) (x y:AV),cs[i]? =some x→ds[i]? =some y→ZX h x y)→Un h (.agg cs) (.agg ds)
def DC (h:List (Nat×AO)) (xs ys:List AV):Prop:=xs.length=ys.length∧ ∀ (i:Nat) (x y:AV),xs[i]? =some x→ys[i]? =some y→Un h x y
theorem DC.nil {h:List (Nat×AO)}:DC h [] []:=⟨rfl,fun i x y hx=>by simp at hx⟩
theorem DC.cons {h:List (Nat×AO)} {x y:AV} {xs ys:List AV} (h0:Un h x y) (hr:DC h xs ys):DC h (x::xs) (y::ys):=by
 refine⟨by simpa using hr.1,fun i a b ha hb=> ?_⟩
 cases i with
 |zero=>simp at ha hb;subst ha hb;exact h0
 |succ i=>exact hr.2 i a b (by simpa using ha) (by simpa using hb)
def rH:List Nat→Bool
  |[]=>true
  |x::l=> !(l.any (Nat.beq x))&&rH l
theorem BH: ∀ {l:List Nat},rH l=true→l.Nodup
  |[],_=>List.nodup_nil
  | x::l,h=>by
    simp only[rH,Bool.and_eq_true,Bool.not_eq_true']at h
    refine List.nodup_cons.2 ⟨fun hx=> ?_,BH h.2⟩
    have:=List.any_eq_false.1 h.1 x hx
    simp at this
def Enters (P:Program) (f:FuncId):Prop:= ∃fn c,P.funcs[f]? =some fn∧(fn.name== "runtime.NumGoroutine")=false∧fn.body=some c
def aH (P:Program) (f:FuncId) (bP:List AV) (r:AV) (h:List (Nat×AO)):Prop:=
 Enters P f∧ ∀ (w:World) (keep:Nat→Prop) (args:List Value),(∀b,keep b→b<w.heap.size)→aI (C1 ⟨w,keep,fun _=>undef⟩) bP args→
  Calls P f args.toArray w fun e w'=> ∃u ρ,e= .returned u∧Below w.heap.size w w'∧C2 (aC (base0 w keep) w' ρ h) r u∧(∀p∈h,bg (aC (base0 w keep) w' ρ h) p.1 p.2)∧(ah ρ h).Nodup∧ ∀b∈ah ρ h,w.heap.size≤b
def aY (P:Program) (f:FuncId) (hin:List (Nat×AO)) (bP:List AV) (r:AV) (hout:List (Nat×AO)):Prop:=
 Enters P f∧ ∀ (w:World) (keep:Nat→Prop) (ρ:Nat→Value) (args:List Value),(∀b,keep b→b<w.heap.size)→(∀p∈hin,bg ⟨w,keep,ρ⟩ p.1 p.2)→(ah ρ hin).Nodup→(∀b∈ah ρ hin,b<w.heap.size∧ ¬keep b)→aI (C1 ⟨w,keep,ρ⟩) bP args→
  Calls P f args.toArray w fun e w'=> ∃u ρ',e= .returned u∧fH (fun b=>b∈ah ρ hin) w.heap.size w w'∧(∀p∈hin,∀q∈hout,q.1=p.1→zK (ρ' p.1) (ρ p.1))∧
   C2 (aC (gY w keep (fun b=>b∈ah ρ hin)) w' ρ' hout) r u∧(∀p∈hout,bg (aC (gY w keep (fun b=>b∈ah ρ hin)) w' ρ' hout) p.1 p.2)∧(ah ρ' hout).Nodup∧ ∀b∈ah ρ' hout,w.heap.size≤b∨b∈ah ρ hin
def gq (i:Nat):List (Nat×AO)→Bool
  |[]=>false
  |(k,_)::l=>Nat.beq k i||gq i l
def Uo (h:List (Nat×AO)):AV→Bool
  | .own i=>gq i h
  | .dN i .. =>gq i h
  | .jh i .. =>gq i h
  | .box i _=>gq i h
  | .cf _ i _=>gq i h
  |_=>true
def abW (h:List (Nat×AO)):AV→Bool
  | .agg cs=>cs.all (Uo h)
  | .fn _ cs=>cs.all (Uo h)
  |x=>Uo h x
def WU (h:List (Nat×AO)):AV→Bool
  | .dM vs=>vs.all (abW h)
  |x=>abW h x
def WV (h:List (Nat×AO)):AO→Bool
  | .box _ cs=>cs.all (Uo h)
  | .row .. =>true
  | .mp _ ks _=>ks.all fun p=>match p.2 with|some i=>gq i h|none=>true
  | .obs _=>true
  | .rn _ cs=>cs.all (Uo h)
def jP (h:List (Nat×AO)):List (Nat×AO)→Bool
  |[]=>true
  |(_,o)::l=>WV h o&&jP h l
def tV (d:Nat) (hin:List (Nat×AO)):List (Nat×AO)→Bool
  |[]=>true
  |(k,_)::l=>(gq k hin||Nat.beq k d)&&tV d hin l
def MS:AV→Bool
  | .dM _=>false
  |_=>true
def sG (d:Nat) (hin:List (Nat×AO)):List (Nat×AO)→List (Nat×AO)
  |[]=>[]
  |(k,o)::l=>bif Nat.beq k d||gq k hin then sG d hin l else(k,o)::sG d hin l
def AS.Qc (st:AS) (d:Nat) (hin hout:List (Nat×AO)):AS:=⟨zJ (rG d) st.sl,hout++nM d (sG d hin st.heap),st.back.map (zJ (rG d)),Nat.add d 1⟩
def Ur (st:AS):List (Nat×AO)→Prop
  |[]=>True
  |(k,o)::l=>aO k st.heap=some o∧Ur st l
def ok0 (d:Option Nat):AV→Bool
  | .v _=>true
  | .sl .. =>true
  | .own i=>(match d with|some j=>Nat.beq i j|none=>false)
  |_=>false
def ok1 (d:Option Nat):AV→Bool
  | .agg cs=>cs.all (ok0 d)
  |x=>ok0 d x
def ok2 (d:Option Nat):AV→Bool
  | .dM vs=>vs.all (ok1 d)
  |x=>ok1 d x
def WW:AV→Bool
  | .sl .. =>false
  |_=>true
def WX:AV→Bool
  | .agg cs=>cs.all WW
  |x=>WW x
def mF:AV→Bool
  | .dM vs=>vs.all WX
  |x=>WX x
def Kq (st:AS):AV→AS
  | .own id=>match aO id st.heap with|some (.row _ s n sc f)=>st.freeze id s n sc f|_=>st
  |_=>st
def BG (st:AS):AV→AS
  | .agg cs=>cs.foldl Kq st
  |x=>Kq st x
def sH (st:AS) (l:List AV):AS:=l.foldl BG st
inductive jD where
  |normal|exit (id:Nat)|ret
abbrev Walk:=Nat→Nat→Code→(jD→AS→Prop)→AS→Prop
def hd0 (x:AV) (K:AV→Prop):Prop:=
 match x with
 | .v y=>K (.v y)
 | .agg cs=>K (.agg cs)
 | .dM vs=>K (.dM vs)
 | .sl s n sc f=>K (.sl s n sc f)
 | .own i=>K (.own i)
 | .dN i s j k=>K (.dN i s j k)
 | .jh i s j k=>K (.jh i s j k)
 | .box i k=>K (.box i k)
 | .cf g i k=>K (.cf g i k)
 | .el cs k=>K (.el cs k)
 | .fn g cs=>K (.fn g cs)
 | .junk=>K .junk
def Eu:List AV→(List AV→Prop)→Prop
  |[],K=>K []
  |x::l,K=>hd0 x (fun x=>Eu l (fun r=>K (x::r)))
def hd1 (x:AV) (K:AV→Prop):Prop:=
 match x with
 | .v y=>K (.v y)
 | .agg cs=>Eu cs (fun cs=>K (.agg cs))
 | .dM vs=>K (.dM vs)
 | .sl s n sc f=>K (.sl s n sc f)
 | .own i=>K (.own i)
 | .dN i s j k=>K (.dN i s j k)
 | .jh i s j k=>K (.jh i s j k)
 | .box i k=>K (.box i k)
 | .cf g i k=>K (.cf g i k)
 | .el cs k=>Eu cs (fun cs=>K (.el cs k))
 | .fn g cs=>Eu cs (fun cs=>K (.fn g cs))
 | .junk=>K .junk
def ZY:List AV→(List AV→Prop)→Prop
  |[],K=>K []
  |x::l,K=>hd1 x (fun x=>ZY l (fun r=>K (x::r)))
def hd2 (x:AV) (K:AV→Prop):Prop:=
 match x with
 | .v y=>K (.v y)
 | .agg cs=>Eu cs (fun cs=>K (.agg cs))
 | .dM vs=>ZY vs (fun vs=>K (.dM vs))
 | .sl s n sc f=>K (.sl s n sc f)
 | .own i=>K (.own i)
 | .dN i s j k=>K (.dN i s j k)
 | .jh i s j k=>K (.jh i s j k)
 | .box i k=>K (.box i k)
 | .cf g i k=>K (.cf g i k)
 | .el cs k=>Eu cs (fun cs=>K (.el cs k))
 | .fn g cs=>Eu cs (fun cs=>K (.fn g cs))
 | .junk=>K .junk
theorem abX (x:AV) (K:AV→Prop):hd0 x K=K x:=by cases x<;>rfl
theorem zO: ∀ (l:List AV) (K:List AV→Prop),Eu l K=K l
  |[],_=>rfl
  |x::l,K=>by simp only[Eu,abX,zO l]
theorem abY (x:AV) (K:AV→Prop):hd1 x K=K x:=by cases x<;>first|rfl|exact zO _ _
theorem RU: ∀ (l:List AV) (K:List AV→Prop),ZY l K=K l
  |[],_=>rfl
  |x::l,K=>by simp only[ZY,abY,RU l]
theorem Kr (x:AV) (K:AV→Prop):hd2 x K=K x:=by cases x<;>first|rfl|exact zO _ _|exact RU _ _
def Kt (lv k:Nat):Bool:=Nat.beq (Nat.land (Nat.shiftRight lv k) 1) 1
def DF (lv:Nat):List (Nat×AV)→List (Nat×AV)
  |[]=>[]
  |(k,v)::l=>bif Kt lv k then(k,v)::DF lv l else DF lv l
def WY (lv:Nat):List (Nat×AV)→(List (Nat×AV)→Prop)→Prop
  |[],K=>K []
  |(k,v)::l,K=>bif Kt lv k then hd2 v (fun v=>WY lv l (fun r=>K ((k,v)::r)))else WY lv l K
def WZ:List (Nat×AV)→(List (Nat×AV)→Prop)→Prop
  |[],K=>K []
  |(k,v)::l,K=>hd2 v (fun v=>WZ l (fun r=>K ((k,v)::r)))
def Us:List (ByteArray×Option Nat)→(List (ByteArray×Option Nat)→Prop)→Prop
  |[],K=>K []
  |(k,some i)::l,K=>Us l (fun r=>K ((k,some i)::r))
  |(k,none)::l,K=>Us l (fun r=>K ((k,none)::r))
theorem Ku: ∀ (l:List (ByteArray×Option Nat)) (K:List (ByteArray×Option Nat)→Prop),Us l K=K l
  |[],_=>rfl
  |(k,some i)::l,K=>by simp only[Us,Ku l]
  |(k,none)::l,K=>by simp only[Us,Ku l]
def vg:List (Nat×AO)→(List (Nat×AO)→Prop)→Prop
  |[],K=>K []
  |(i,.box t cs)::l,K=>Eu cs (fun cs=>vg l (fun r=>K ((i,.box t cs)::r)))
  | (i,.row e s n sc f)::l,K=>match sc with
    |true=>vg l (fun r=>K ((i,.row e s n true f)::r))
    |false=>vg l (fun r=>K ((i,.row e s n false f)::r))
  |(i,.mp t ks rs)::l,K=>Us ks (fun ks=>vg l (fun r=>K ((i,.mp t ks rs)::r)))
  |(i,.obs o)::l,K=>vg l (fun r=>K ((i,.obs o)::r))
  |(i,.rn e cs)::l,K=>Eu cs (fun cs=>vg l (fun r=>K ((i,.rn e cs)::r)))
def RV:List (List (Nat×AV))→(List (List (Nat×AV))→Prop)→Prop
  |[],K=>K []
  |f::fs,K=>WZ f (fun f=>RV fs (fun r=>K (f::r)))
def AS.vk (st:AS) (lv:Nat):AS:=⟨DF lv st.sl,st.heap,st.back,st.base⟩
def nrm (lv:Nat) (st:AS) (K:AS→Prop):Prop:=match st with|⟨sl,hp,bk,b⟩=>WY lv sl (fun l=>vg hp (fun h=>RV bk (fun bk=>K ⟨l,h,bk,b⟩)))
def uU (st:AS) (K:AS→Prop):Prop:=match st with|⟨sl,hp,bk,b⟩=>WZ sl (fun l=>vg hp (fun h=>K ⟨l,h,bk,b⟩))
theorem Kv (lv:Nat): ∀ (l:List (Nat×AV)) (K:List (Nat×AV)→Prop),WY lv l K=K (DF lv l)
  |[],_=>rfl
  | (k,v)::l,K=>by
    simp only[WY,DF]
    cases Kt lv k with
    |true=>simp only[cond_true,Kr,Kv lv l]
    |false=>simp only[cond_false,Kv lv l]
theorem Kw: ∀ (l:List (Nat×AV)) (K:List (Nat×AV)→Prop),WZ l K=K l
  |[],_=>rfl
  |(k,v)::l,K=>by simp only[WZ,Kr,Kw l]
theorem qO: ∀ (l:List (Nat×AO)) (K:List (Nat×AO)→Prop),vg l K=K l
  |[],_=>rfl
  |(i,.box t cs)::l,K=>by simp only[vg,zO,qO l]
  |(i,.row e s n true f)::l,K=>by simp only[vg,qO l]
  |(i,.row e s n false f)::l,K=>by simp only[vg,qO l]
  |(i,.mp t ks rs)::l,K=>by simp only[vg,Ku,qO l]
  |(i,.obs o)::l,K=>by simp only[vg,qO l]
  |(i,.rn e cs)::l,K=>by simp only[vg,zO,qO l]
theorem MV: ∀ (l:List (List (Nat×AV))) (K:List (List (Nat×AV))→Prop),RV l K=K l
  |[],_=>rfl
  |f::fs,K=>by simp only[RV,Kw,MV fs]
theorem Ky (lv:Nat) (st:AS) (K:AS→Prop):nrm lv st K=K (st.vk lv):=by cases st;simp only[nrm,Kv,qO,MV];rfl
theorem RX (st:AS) (K:AS→Prop):uU st K=K st:=by cases st;simp only[uU,Kw,qO]
def abA (L:Lay) (st:AS):ResultVar→(AV→Prop)→Prop
  | .tmp t,K=>K (st.tmps t)
  | .cell p t,K=>RQ L st t (st.tmps p) K
def W9 (L:Lay) (st:AS):List ResultVar→(List AV→Prop)→Prop
  |[],K=>K []
  |r::rs,K=>abA L st r (fun x=>W9 L st rs (fun xs=>K (x::xs)))
def MW:AV→AV
  | .dM _=> .junk
  |x=>x
def l9 (L:Lay) (st:AS) (rs:List ResultVar) (K:AV→Prop):Prop:=
 W9 L st rs (fun xs=>match xs with|[x]=>K x|xs=>K (.dM (xs.map MW)))
def zQ:Nat→List AV→List (Nat×AV)
  |_,[]=>[]
  |k,x::l=>(k,x)::zQ (k+1) l
def start (bP:List AV):AS:=⟨zQ 0 bP,[],[],0⟩
def AS.into (st:AS) (bP:List AV):AS:=⟨zQ 0 bP,st.heap,st.sl::st.back,st.base⟩
def RY (st:AS) (bP:List AV) (K:AS→Prop):Prop:=match st with|⟨sl,h,bk,b⟩=>K ⟨zQ 0 bP,h,sl::bk,b⟩
theorem Xa (st:AS) (bP:List AV) (K:AS→Prop):RY st bP K=K (st.into bP):=by
 obtain⟨sl,h,bk,b⟩:=st
 rfl
def AS.out (st:AS):AS:=match st.back with|f::r=>⟨f,st.heap,r,st.base⟩|[]=>st
inductive dI (P:Program) (L:Lay) (W:Walk) (d:Nat) (f:FuncId) (bP:List AV) (st:AS) (K:AV→AS→Prop):Prop where
  |inl (lv:Nat) (fn:Func) (c:Code) (hf:P.funcs[f]? =some fn) (hn:(fn.name== "runtime.NumGoroutine")=false) (hb:fn.body=some c) (hsz:Nat.ble bP.length fn.ntmps=true)
     (h:RY st bP (W fn.ntmps lv c (fun e st'=>match e with| .exit _=>False| .normal=>l9 L st' fn.results.toList (fun x=>uU (st'.out) (K x))| .ret=>l9 L st' fn.results.toList (fun x=>uU (st'.out) (K x))))):dI P L W d f bP st K
  |Qc (hin hout:List (Nat×AO)) (r:AV) (hs:aY P f hin bP r hout) (hh:Ur st hin) (hb:(rH (hin.map (·.1))&&bP.all MS&&jP hout hout&&WU hout r&&tV d hin hout)=true):K r (st.Qc d hin hout)→dI P L W d f bP st K
  |plain (bs:List AV) (r:AV) (hs:aH P f bs r []) (hsub:DC st.heap bP bs) (hr:ok2 none r=true):K r (bif mF r then st else sH st bP)→dI P L W d f bP st K
  |fresh (bs:List AV) (r:AV) (e:TypeId) (s n:Nat) (sc:Bool) (g:Nat→List AV) (hs:aH P f bs r [(d,.row e s n sc g)]) (hsub:DC st.heap bP bs) (hr:ok2 (some d) r=true):
     K r ((bif mF r&&sc then st else sH st bP).obj d d (.row e s n sc g))→dI P L W d f bP st K
  |sem (hE:Enters P f) (h: ∀ (g:Base) (N:Nat) (bs:List (Array Value)) (ρ:Nat→Value) (a:Act) (w:World) (args:List Value),Rel g N bs ρ a w st→aI (C2 (aC g w ρ st.heap)) bP args→
     Calls P f args.toArray w fun e w'=> ∃u x st' ρ',e= .returned u∧K x st'∧Rel g N bs ρ' a w' st'∧C2 (aC g w' ρ' st'.heap) x u):dI P L W d f bP st K
def Xb:AV→Bool
  | .own _=>false
  |_=>true
def Xc:AV→Bool
  | .agg cs=>cs.all Xb
  |x=>Xb x
inductive DI (k:ByteArray) (ks:List (ByteArray×Option Nat)) (K:Nat→Nat→Prop):Prop where
  |mk (i id:Nat) (k':ByteArray) (h:ks[i]? =some (k',some id)) (hk:k=k') (hK:K i id):DI k ks K
def Kz (L:Lay) (d:Nat) (st:AS) (t:TypeId) (m ix:AV) (K:AV→AS→Prop):Prop:=
 match aV L t,ix,m with
 | some ti,.v (.string k),.own id=>(match ti.kind with
   | .map kt et=>(match aV L kt,aV L et with
     | some ki,some ei=>(match ki.kind,ei.kind with
       | .str,.slice e=>(match aV L e with
         | some ee=>bif Nat.ble 1 ee.size then(match aO id (st.obj d d (.row e ee.size 0 true (fun _=>[]))).heap with
           |some (.mp t' ks rs)=>DI k ks (fun i _=>K (.dM []) ⟨(st.obj d d (.row e ee.size 0 true (fun _=>[]))).sl,setObj id (.mp t' (ks.set i (k,some d)) rs) (st.obj d d (.row e ee.size 0 true (fun _=>[]))).heap,(st.obj d d (.row e ee.size 0 true (fun _=>[]))).back,(st.obj d d (.row e ee.size 0 true (fun _=>[]))).base⟩)
           |_=>False)else False
         |none=>False)
       |_,_=>False)
     |_,_=>False)
   |_=>False)
 |_,_,_=>False
def abZ (x y:AV) (K:AV→Prop):Prop:=
 match x,y with
 | .v (.int k a),.v (.int _ b)=>K (.v (.int k (if b<a then b else a)))
 |_,_=>False
def ab1 (x y:AV) (K:AV→Prop):Prop:=
 match x,y with
 | .v (.int k a),.v (.int _ b)=>K (.v (.int k (if b>a then b else a)))
 |_,_=>False
def RZ (lo k:Nat) (f g:Nat→List AV):Nat→List AV:=qh lo f (qh k g (fun i=>f (lo+k+i)))
def ab2 (L:Lay) (st:AS) (s:Nat) (t:TypeId) (y:AV) (K:Nat→Bool→(Nat→List AV)→Prop):Prop:=
 match y with
 | .jh id s1 lo m=>(match aV L t with
   | some ti=>(match ti.kind,aO id st.heap with
     | .slice _,some (.row _ s' r sc f)=>bif Nat.beq s s1&&Nat.beq s s' then Ul (lo+m≤r) (K m sc (fun i=>f (lo+i)))else False
     |_,_=>False)
   |none=>False)
 |y=>match RS L st s t y with|some (n,sc',g)=>K n sc' g|none=>False
def Xd (L:Lay) (st:AS) (t tx:TypeId) (x y:AV) (K:AV→AS→Prop):Prop:=
 match aV L t with
 | some ti =>match ti.kind with
   | .slice e=>match aV L e with
     |some ei=>bif Nat.ble 1 ei.size then ab2 L st ei.size tx y (fun n sc' g=>match x with
         | .own id=>(match aO id st.heap with
           |some (.row e' s m sc f)=>bif Nat.beq s ei.size then Ul (n≤m) (K (.v (.int .i64 (n:Int))) ⟨st.sl,setObj id (.row e' s m (sc&&sc') (RZ 0 n f g)) st.heap,st.back,st.base⟩)else False
           |_=>False)
         | .jh id s lo m=>(match aO id st.heap with
           |some (.row e' s' r sc f)=>bif Nat.beq s ei.size&&Nat.beq s' s then Ul (n≤m∧lo+m≤r) (K (.v (.int .i64 (n:Int))) ⟨st.sl,setObj id (.row e' s' r (sc&&sc') (RZ lo n f g)) st.heap,st.back,st.base⟩)else False
           |some (.box t' cs)=>bif Nat.beq s 1&&Nat.ble n m&&Nat.ble (lo+n*ei.size) cs.length then K (.v (.int .i64 (n:Int))) ⟨st.sl,setObj id (.box t' (splice cs lo (flat n g))) st.heap,st.back,st.base⟩else False
           |_=>False)
         |_=>False)else False
     |none=>False
   |_=>False
 |none=>False
def Qd (L:Lay) (st:AS) (t:TypeId) (x:AV) (K:AV→AS→Prop):Prop:=
 match aV L t with
 | some ti=>match ti.kind,x with
   | .slice _,.v (.slice none _ _)=>K (.v undef) st
   | .slice e,.jh id s lo m=>(match aV L e with
     | some ei=>(match aO id st.heap with
       |some (.row e' s' r sc f)=>bif Nat.beq s ei.size&&Nat.beq s' s&&Nat.beq ei.zero.length ei.size&&Nat.ble 1 ei.size&&ei.zero.all (fun x=>x.oneCell')then Ul (lo+m≤r) (K (.v undef) ⟨st.sl,setObj id (.row e' s' r sc (RZ lo m f (fun _=>ei.zero.map .v))) st.heap,st.back,st.base⟩)else False
       |_=>False)
     |none=>False)
   |_,_=>False
 |none=>False
def vw (L:Lay) (d:Nat) (st:AS) (b:Builtin) (ts:List TypeId) (xs:List AV) (K:AV→AS→Prop):Prop:=
 match b,ts,xs with
 | .len,[t],[x]=>abV L st t x (fun y=>K y st)
 | .append,[t,tx],[x,y]=>Ko L d st t tx x y K
 | .min,_,[x,y]=>abZ x y (fun z=>K z st)
 | .max,_,[x,y]=>ab1 x y (fun z=>K z st)
 | .delete,[t,_],[x,y]=>Kz L d st t x y K
 | .copy,[t,tx],[x,y]=>Xd L st t tx x y K
 | .clear,[t],[x]=>Qd L st t x K
 |_,_,_=>False
structure ZN (P:Program) (t:TypeId) (A:Prop):Prop where
 mk::
 z: ∀w,(zeroValue t).run P w= .ok (.slice none 0 0) w
 k:A
def rowB (h:List (Nat×AO)) (i:Nat):Bool:=match aO i h with|some (.row ..)=>true|_=>false
def KA (P:Program) (L:Lay) (st:AS) (t:TypeId) (x ix:AV) (K:AV→Prop):Prop:=
 match aV L t,ix with
 | some ti,.v (.string k)=>(match ti.kind with
   | .map kt et=>(match aV L kt with
     | some ki=>(match ki.kind,x with
       | .str,.own id=>(match aO id st.heap with
         |some (.mp _ ks _)=>ZN P et (DI k ks (fun _ i=>bif rowB st.heap i then K (.own i)else False))
         |_=>False)
       | .str,.v (.map none)=>ZN P et (K (.v (.slice none 0 0)))
       |_,_=>False)
     |none=>False)
   |_=>False)
 |_,_=>False
def yT (L:Lay) (st:AS) (t:TypeId) (m ix x:AV) (K:AS→Prop):Prop:=
 match aV L t,ix,m,x with
 | some ti,.v (.string k),.own id,.own j=>(match ti.kind with
   | .map kt _=>(match aV L kt with
     | some ki=>(match ki.kind,aO id st.heap,aO j st.heap with
       | .str,some (.mp t' ks rs),some (.row _ _ n _ _)=>Ul (0<n) (DI k ks (fun i _=>K ⟨st.sl,setObj id (.mp t' (ks.set i (k,some j)) rs) st.heap,st.back,st.base⟩))
       |_,_,_=>False)
     |none=>False)
   |_=>False)
 |_,_,_,_=>False
inductive ab3 (K:List ByteArray→Prop):Prop where
  |mk (keys:List ByteArray) (hn:keys.Nodup) (h:K keys):ab3 K
def Si (e:TypeId) (s:Nat):List ByteArray→AS→List (ByteArray×Option Nat)→(List (ByteArray×Option Nat)→AS→Prop)→Prop
  |[],st,acc,K=>K acc st
  |k::r,st,acc,K=>nameOf st (fun d=>Si e s r (st.obj d d (.row e s 0 true (fun _=>[]))) (acc++[(k,some d)]) K)
def Ew (L:Lay) (st:AS) (t:TypeId) (K:AV→AS→Prop):Prop:=
 match aV L t with
 | some ti=>(match ti.kind with
   | .map kt et=>(match aV L kt,aV L et with
     | some ki,some ei=>(match ki.kind,ei.kind with
       | .str,.slice e=>(match aV L e with
         |some ee=>bif Nat.ble 1 ee.size then ab3 (fun keys=>Si e ee.size keys st [] (fun ks st'=>nameOf st' (fun d=>K (.own d) (st'.obj d d (.mp t ks [])))))else False
         |none=>False)
       |_,_=>False)
     |_,_=>False)
   |_=>False)
 |none=>False
def Sj (L:Lay) (t:TypeId):Bool:=match aV L t with
  | some ti=>(match ti.kind with
    | .map kt _=>(match aV L kt with|some ki=>(match ki.kind with| .str=>true|_=>false)|none=>false)
    |_=>false)
  |none=>false
def lD:Op→Bool
  | .move _=>true
  | .assign _=>true
  | .pick .. =>true
  | .load .. =>true
  | .fieldAddr .. =>true
  | .field .. =>true
  | .indexAddr .. =>true
  | .index .. =>true
  | .extract .. =>true
  | .build .. =>true
  | .binOp .. =>true
  | .unOp .. =>true
  | .convert .. =>true
  | .nilCheck _=>true
  | .sliceToArrayPointer .. =>true
  | .lookup _ _ _ false=>true
  | .call {callee:= .builtin .len,.. }=>true
  | .call {callee:= .builtin .min,.. }=>true
  | .call {callee:= .builtin .max,.. }=>true
  |_=>false
def Ut (st:AS):AV→Bool
  | .v (.map none)=>true
  | .own id=>(match aO id st.heap with|some (.obs _)=>true|_=>false)
  | .box id _=>(match aO id st.heap with|some (.obs _)=>true|_=>false)
  |_=>false
def ab4 (st:AS):Op→Bool
  | .load _ p=>Ut st (st.ev p)
  | .store _ p _=>Ut st (st.ev p)
  | .indexAddr _ x _=>Ut st (st.ev x)
  | .lookup _ x _ _=>Ut st (st.ev x)
  | .mapUpdate _ m _ _=>Ut st (st.ev m)
  | .call c=>(match c.callee with| .builtin _=>(match c.args.toList with|x::_=>Ut st (st.ev x)|[]=>false)|_=>false)
  |_=>false
inductive nK (P:Program) (st:AS) (op:Op) (K:AV→AS→Prop):Prop where
  |q (x:AV) (hK:K x st) (h: ∀ (g:Base) (N:Nat) (bs:List (Array Value)) (ρ:Nat→Value) (a:Act) (w:World) (o:Oper),o.op=op→Rel g N bs ρ a w st→ ∃u,C2 (aC g w ρ st.heap) x u∧(execOp a.eval o).run P w= .ok (.value u) w)
  |mk (hq:lD op=false) (h: ∀ (g:Base) (N:Nat) (bs:List (Array Value)) (ρ:Nat→Value) (a:Act) (w:World) (o:Oper) (next:Act→World→Prop) (Q:Exit→Act→World→Prop),o.op=op→Rel g N bs ρ a w st→
     (∀x st' u ρ' w',K x st'→Rel g N bs ρ' a w' st'→C2 (aC g w' ρ' st'.heap) x u→next (a.put o.dst u) w')→o.wp P a w next Q)
def Qe (P:Program) (L:Lay) (W:Walk) (_d:Nat) (st:AS) (op:Op) (K:AV→AS→Prop):Prop:=
 bif ab4 st op then nK P st op K else
 match op with
 | .move x=>K (st.ev x) st
 | .assign x=>K (st.ev x) st
 | .pick c a b=>match st.ev c with| .v (.bool t)=>K (match t with|true=>st.ev a|false=>st.ev b) st|_=>False
 | .alloc t=>match aV L t with|some i=>nameOf st (fun d=>K (.box d 0) (st.obj d d (.box t (i.zero.map .v))))|none=>False
 | .box t x=>match(st.ev x).cells? with|some cs=>bif cs.all (uT st.heap)then nameOf st (fun d=>K (.box d 0) (st.obj d d (.box t cs)))else False|none=>False
 | .load t p=>RQ L st t (st.ev p) (fun y=>K y st)
 | .store t p x=>P6 L st t (st.ev p) (st.ev x) (fun st'=>K (.v undef) st')
 | .fieldAddr t x i=>nO L t (st.ev x) i (fun y=>K y st)
 | .field t x i=>P7 L t (st.ev x) i (fun y=>K y st)
 | .indexAddr t x i=>yS L st t (st.ev x) (st.ev i) (fun y=>K y st)
 | .index t x i=>P8 L t (st.ev x) (st.ev i) (fun y=>K y st)
 | .extract x i=>Eo (st.ev x) i (fun y=>K y st)
 | .build t parts=>BF L st.heap t (parts.toList.map fun p=>(p.1,st.ev p.2)) (fun y=>K y st)
 | .buildSlice t n parts=>nameOf st (fun d=>bif (parts.toList.map fun p=>st.ev p.2).all Xc then qN L d st t n (parts.toList.map fun p=>(p.1,st.ev p.2)) K else uU (sH st (parts.toList.map fun p=>st.ev p.2)) (fun st'=>qN L d st' t n (parts.toList.map fun p=>(p.1,st'.ev p.2)) K))
 | .binOp o t x y _=>abU P L o t (st.ev x) (st.ev y) (fun z=>K z st)
 | .unOp o _ x=>aun o (st.ev x) (fun z=>K z st)
 | .convert s t x=>Es L st s t (st.ev x) (fun z=>K z st)
 | .slice t x lo hi mx=>aslice L st t (st.ev x) (lo.map st.ev) (hi.map st.ev) (mx.map st.ev) K
 | .nilCheck x=>match(st.ev x).WL with| .box i k=>K (.box i k) st| .fn g cs=>K (.fn g cs) st|_=>False
 | .makeFunc (.func g) first caps=>match first.toList with
   |[]=>bif (caps.toList.map st.ev).all (uT st.heap)then K (.fn g (caps.toList.map st.ev)) st else False
   |x::r=>match st.ev x with| .box id off=>bif Nat.blt g million&&r.isEmpty&&caps.toList.isEmpty then K (.cf (Nat.add g million) id off) st else False|_=>False
 | .call c=>match c.callee with
   | .builtin b=>nameOf st (fun d=>vw L d st b c.argTypes.toList (c.args.toList.map st.ev) K)
   | .value x=>match(st.ev x).WL with
     | .fn g caps=>nameOf st (fun d=>dI P L W d g (c.args.toList.map st.ev++caps) st K)
     | .cf g id off=>bif Nat.blt g million then False else nameOf st (fun d=>dI P L W d (Nat.sub g million) (.box id off::c.args.toList.map st.ev) st K)
     |_=>False
   |_=>False
 | .makeSlice t l c=>nameOf st (fun d=>WT L d st t (st.ev l) (st.ev c) K)
 | .sliceToArrayPointer t x=>Qa L t (st.ev x) (fun y=>K y st)
 | .lookup t x i false=>KA P L st t (st.ev x) (st.ev i) (fun y=>K y st)
 | .mapUpdate t m i x=>yT L st t (st.ev m) (st.ev i) (st.ev x) (fun st'=>K (.v undef) st')
 | .makeMap t none=>bif Sj L t then Ew L st t K else nK P st (.makeMap t none) K
 |_=>nK P st op K
def iC (b:Bool) (A B:Prop):Prop:=match b with|true=>A|false=>B
theorem iC.mk {b:Bool} {A B:Prop} (h1:b=true→A) (h2:b=false→B):iC b A B:=by cases b;exact h2 rfl;exact h1 rfl
theorem iC.dec {p:Prop} [Decidable p] {A B:Prop} (h1:p→A) (h2: ¬p→B):iC (decide p) A B:=by
 by_cases h:p
 · rw[decide_eq_true h];exact h1 h
 · rw[decide_eq_false h];exact h2 h
theorem iC.yes {b:Bool} {A B:Prop} (h:b=true) (a:A):iC b A B:=by rw[h];exact a
theorem iC.no {b:Bool} {A B:Prop} (h:b=false) (a:B):iC b A B:=by rw[h];exact a
def force (x:AV) (K:AV→Prop):Prop:=
 match x with
 | .v (.bool b)=>iC b (K (.v (.bool true))) (K (.v (.bool false)))
 | .v y=>K (.v y)
 | .agg cs=>K (.agg cs)
 | .dM vs=>K (.dM vs)
 | .sl s n sc f=>K (.sl s n sc f)
 | .own i=>K (.own i)
 | .dN i s j k=>K (.dN i s j k)
 | .jh i s j k=>K (.jh i s j k)
 | .box i k=>K (.box i k)
 | .cf g i k=>K (.cf g i k)
 | .el cs k=>K (.el cs k)
 | .fn g cs=>K (.fn g cs)
 | .junk=>K .junk
theorem force_eq (x:AV) (K:AV→Prop):force x K=K x:=by
 cases x with
 | v y=>
   cases y with
   |bool b=>cases b<;>rfl
   |_=>rfl
 |_=>rfl
def oN (N:Nat) (st:AS) (d:Option Tmp) (x:AV) (K:AS→Prop):Prop:=
 match d with
 |some d=>bif Nat.ble (d+1) N then force x (fun x=>match st with|⟨sl,h,bk,b⟩=>K ⟨(d,x)::sl,h,bk,b⟩)else False
 |none=>K st
def yU (P:Program) (L:Lay) (W:Walk) (dst:Option Tmp) (st:AS) (op:Op) (K:AV→AS→Prop):Prop:=
 match dst with
 |some d=>Qe P L W d st op K
 |none=>Qe P L W 0 st op K
def uV (P:Program) (L:Lay) (W:Walk) (N:Nat) (ops:List Oper) (Q:AS→Prop):List Oper→AS→Prop
  |[],st=>Q st
  | ⟨dst, op,_,_,_,guard⟩::rest,st=>
    match guard with
    |none=>yU P L W dst st op (fun x st'=>oN N st' dst x (uV P L W N ops Q rest))
    | some (j,want)=>match(ops[j]?).bind (·.dst)with
      | some dj=>bif Nat.ble (dj+1) N then(match st.tmps dj with
        | .v (.bool b)=>(match b==want with
          |true=>yU P L W dst st op (fun x st'=>oN N st' dst x (uV P L W N ops Q rest))
          |false=>oN N st dst (.v undef) (uV P L W N ops Q rest))
        | .v (.tuple _)=>oN N st dst (.v undef) (uV P L W N ops Q rest)
        |_=>False)else False
      |none=>False
def aj (x y:AV):Prop:= ∀ (X:CX) (u:Value),C2 X x u→C2 X y u
def au (o o':AO):Prop:= ∀ (X:CX) (id:Nat),bg X id o→bg X id o'
theorem aj.refl (x:AV):aj x x:=fun _ _ h=>h
theorem au.refl (o:AO):au o o:=fun _ _ h=>h
def oO:List (List (Nat×AV))→List (List (Nat×AV))→Prop
  |[],[]=>True
  |f::fs,h::hs=>(∀t,qI h t= .junk∨aj (qI f t) (qI h t))∧oO fs hs
  |_,_=>False
theorem oO.refl: ∀fs,oO fs fs
  |[]=>trivial
  |_::fs=>⟨fun _=> .inr (aj.refl _),oO.refl fs⟩
structure Ey (st S:AS):Prop where
 tm: ∀t,S.tmps t= .junk∨aj (st.tmps t) (S.tmps t)
 hp: ∀p∈S.heap,∃o,aO p.1 st.heap=some o∧au o p.2
 nd:(S.heap.map (·.1)).Nodup
 bk:oO st.back S.back
def LeT (st:AS):List (Nat×AV)→Prop
  |[]=>True
  |p::l=>aj (st.tmps p.1) p.2∧LeT st l
def Z4 (st:AS):List (Nat×AO)→Prop
  |[]=>True
  |p::l=>(∃o,aO p.1 st.heap=some o∧au o p.2)∧Z4 st l
def nodupB:List Nat→Bool
  |[]=>true
  |x::l=> !(l.any (Nat.beq x))&&nodupB l
theorem oz: ∀ {l:List Nat},nodupB l=true→l.Nodup
  |[],_=>List.nodup_nil
  | x::l,h=>by
    simp only[nodupB,Bool.and_eq_true,Bool.not_eq_true']at h
    refine List.nodup_cons.2 ⟨fun hx=> ?_,oz h.2⟩
    have:=List.any_eq_false.1 h.1 x hx
    simp at this
theorem Ey.mk' {st:AS} (l:List (Nat×AV)) (h:List (Nat×AO)) (ht:LeT st l) (hh:Z4 st h) (hn:nodupB (h.map (·.1))=true):Ey st ⟨l,h,st.back,st.base⟩:=by
 refine⟨fun t=> ?_,fun p hp=> ?_,oz hn,oO.refl _⟩
 · induction l with
   |nil=>exact .inl rfl
   | cons p l ih=>
     show qI (p::l) t= .junk∨aj (st.tmps t) (qI (p::l) t)
     simp only[qI]
     cases hb:Nat.beq t p.1 with
     | true=>
       obtain rfl:=Nat.eq_of_beq_eq_true hb
       exact .inr ht.1
     |false=>exact ih ht.2
 · induction h with
   |nil=>cases hp
   | cons q h ih=>
     rcases List.mem_cons.1 hp with rfl|hp'
     · exact hh.1
     · exact ih hh.2 (by simp only[List.map_cons,nodupB,Bool.and_eq_true]at hn;exact hn.2) hp'
def kL:List (Nat×Nat)→Nat→Option Nat
  |[],_=>none
  |(k,i)::r,x=>bif Nat.beq x k then some i else kL r x
def Uu:List (Nat×Nat)→Nat→Bool
  |[],_=>false
  |(_,i)::r,x=>Nat.beq x i||Uu r x
def kU (σ:List (Nat×Nat)) (k:Nat):Option Nat:=match kL σ k with|some i=>some i|none=>bif Uu σ k then none else some k
def o7 (σ:List (Nat×Nat)):AV→AV
  | .v x=> .v x
  | .agg cs=> .agg cs
  | .dM vs=> .dM vs
  | .sl s n sc f=> .sl s n sc f
  | .own id=>match kU σ id with|some i=> .own i|none=> .junk
  | .dN id s i k=>match kU σ id with|some j=> .dN j s i k|none=> .junk
  | .jh id s i k=>match kU σ id with|some j=> .jh j s i k|none=> .junk
  | .box id off=>match kU σ id with|some i=> .box i off|none=> .junk
  | .cf g id off=>match kU σ id with|some i=> .cf g i off|none=> .junk
  | .el cs k=> .el cs k
  | .fn g cs=> .fn g cs
  | .junk=> .junk
def MX (σ:List (Nat×Nat)):AV→AV
  | .v x=> .v x
  | .agg cs=> .agg (cs.map (o7 σ))
  | .dM vs=> .dM vs
  | .sl s n sc f=> .sl s n sc f
  | .own id=>match kU σ id with|some i=> .own i|none=> .junk
  | .dN id s i k=>match kU σ id with|some j=> .dN j s i k|none=> .junk
  | .jh id s i k=>match kU σ id with|some j=> .jh j s i k|none=> .junk
  | .box id off=>match kU σ id with|some i=> .box i off|none=> .junk
  | .cf g id off=>match kU σ id with|some i=> .cf g i off|none=> .junk
  | .el cs k=> .el cs k
  | .fn g cs=> .fn g (cs.map (o7 σ))
  | .junk=> .junk
def BI (σ:List (Nat×Nat)):AV→AV
  | .v x=> .v x
  | .agg cs=> .agg (cs.map (o7 σ))
  | .dM vs=> .dM (vs.map (MX σ))
  | .sl s n sc f=> .sl s n sc f
  | .own id=>match kU σ id with|some i=> .own i|none=> .junk
  | .dN id s i k=>match kU σ id with|some j=> .dN j s i k|none=> .junk
  | .jh id s i k=>match kU σ id with|some j=> .jh j s i k|none=> .junk
  | .box id off=>match kU σ id with|some i=> .box i off|none=> .junk
  | .cf g id off=>match kU σ id with|some i=> .cf g i off|none=> .junk
  | .el cs k=> .el cs k
  | .fn g cs=> .fn g (cs.map (o7 σ))
  | .junk=> .junk
def jJ (σ:List (Nat×Nat)):List (ByteArray×Option Nat)→List (ByteArray×Option Nat)
  |[]=>[]
  |(k,some i)::l=>(k,kU σ i)::jJ σ l
  |(k,none)::l=>(k,none)::jJ σ l
theorem xA (σ:List (Nat×Nat)): ∀ks:List (ByteArray×Option Nat),(jJ σ ks).map (·.1)=ks.map (·.1)
  |[]=>rfl
  |(k,some i)::l=>by simp[jJ,xA σ l]
  |(k,none)::l=>by simp[jJ,xA σ l]
theorem jG.ren {ρ ρ':Nat→Value} {σ:List (Nat×Nat)} (h: ∀k i,kU σ k=some i→ρ' i=ρ k): ∀ {ks:List (ByteArray×Option Nat)} {vs:List Value},jG ρ ks vs→jG ρ' (jJ σ ks) vs
  |[],_,k=>k
  |(k,some i)::l,vs,⟨v,r,e,hi,hr⟩=>⟨v,r,e,fun j hj=>by rw[h i j hj];exact hi _ rfl,jG.ren h hr⟩
  |(k,none)::l,vs,⟨v,r,e,_,hr⟩=>⟨v,r,e,fun j hj=>(by cases hj),jG.ren h hr⟩
def AO.ren (σ:List (Nat×Nat)):AO→AO
  | .box t cs=> .box t (cs.map (o7 σ))
  | .row e s n sc f=> .row e s n sc f
  | .mp t ks rs=> .mp t (jJ σ ks) rs
  | .obs o=> .obs o
  | .rn e cs=> .rn e (cs.map (o7 σ))
def iP (σ:List (Nat×Nat)):List (Nat×AO)→List (Nat×AO)
  |[]=>[]
  |(k,o)::h=>match kU σ k with|some i=>(i,o.ren σ)::iP σ h|none=>iP σ h
def AS.ren (st:AS) (σ:List (Nat×Nat)):AS:=⟨zJ (BI σ) st.sl,iP σ st.heap,st.back.map (zJ (BI σ)),st.base⟩
structure dB (σ:List (Nat×Nat)) (st S:AS):Prop where
 nd:nodupB (σ.map (·.2))=true
 le:Ey (st.ren σ) S
def xB (st S:AS):Prop:= ∀ (g:Base) (N:Nat) (bs:List (Array Value)) (ρ:Nat→Value) (a:Act) (w:World),Rel g N bs ρ a w st→ ∃ρ',Rel g N bs ρ' a w S
theorem xB.refl (st:AS):xB st st:=fun _ _ _ ρ _ _ R=>⟨ρ,R⟩
theorem xB.trans {a b c:AS} (h:xB a b) (k:xB b c):xB a c:=fun g N bs ρ a w R=>by
 obtain⟨Z5,R1⟩:=h g N bs ρ a w R
 exact k g N bs Z5 a w R1
def zS (body:(jD→AS→Prop)→AS→Prop) (Q:jD→AS→Prop):Nat→AS→Prop
  |0,_=>False
  |n+1,st=>body (fun e st'=>match e with| .normal=>zS body Q n st'| .exit i=>Q (.exit i) st'| .ret=>Q .ret st') st
inductive aJ (body:(jD→AS→Prop)→AS→Prop) (Q:jD→AS→Prop):AS→Prop where
  | mk {st:AS} (X:Type) (S:X→AS) (m:X→Nat) (x0:X) (σ:List (Nat×Nat)) (h0:dB σ st (S x0))
    (hb: ∀x,body (fun e st'=>match e with| .normal=> ∃y σ,dB σ st' (S y)∧m y<m x| .exit i=>Q (.exit i) st'| .ret=>Q .ret st') (S x)):aJ body Q st
  |rounds {st:AS} (n:Nat) (h:zS body Q n st):aJ body Q st
  |nil {st:AS} (t d:Nat) (e:TypeId) (s:Nat) (f:Nat→List AV) (ht:st.tmps t= .v (.slice none 0 0)) (hs:0<s) (h:aJ body Q ((st.obj d d (.row e s 0 true f)).put t (.own d))):aJ body Q st
  |Xe {st:AS} (id k d:Nat) (e:TypeId) (s:Nat) (f:Nat→List AV) {t:TypeId} {cs:List AV} (hs:0<s) (hf:aO id (st.obj d d (.row e s 0 true f)).heap=some (.box t cs)) (hk:cs[k]? =some (.v (.slice none 0 0)))
     (h:aJ body Q ⟨(st.obj d d (.row e s 0 true f)).sl,setObj id (.box t (cs.set k (.own d))) (st.obj d d (.row e s 0 true f)).heap,(st.obj d d (.row e s 0 true f)).back,(st.obj d d (.row e s 0 true f)).base⟩):aJ body Q st
  |BG {st:AS} (id:Nat) {e:TypeId} {s n:Nat} {sc:Bool} {f:Nat→List AV} (hf:aO id st.heap=some (.row e s n sc f)) (h:aJ body Q (st.freeze id s n sc f)):aJ body Q st
  |imp {st:AS} (S:AS) (h0:xB st S) (h:aJ body Q S):aJ body Q st
  | mkI {st:AS} (X:Type) (S:X→AS) (m:X→Nat) (x0:X) (h0:xB st (S x0))
    (hb: ∀x,body (fun e st'=>match e with| .normal=> ∃y,xB st' (S y)∧m y<m x| .exit i=>Q (.exit i) st'| .ret=>Q .ret st') (S x)):aJ body Q st
inductive ad5 (body:AS→Prop) (st:AS):Prop where
  |mk (S:AS) (h0:Ey st S) (hb:body S):ad5 body st
inductive iF (P:Program) (L:Lay) (W:Walk) (N:Nat) (id:Nat) (ops:Array Oper) (K:AS→Prop) (st:AS):Prop where
  |quiet (hm:P.follows .mixedOrders=true) (hB:Region.lexB .any ops=true) (hq:ops.toList.all (fun o=>lD o.op)=true) (h:uV P L W N ops.toList K ops.toList st):iF P L W N id ops K st
  |sem (h: ∀ (g:Base) (bs:List (Array Value)) (ρ:Nat→Value) (a:Act) (w:World) (E:Exit→Act→World→Prop),Rel g N bs ρ a w st→(∀ρ a w st,Rel g N bs ρ a w st→K st→E .normal a w)→(Code.region id ops true).wp P E a w):iF P L W N id ops K st
def qOf (g:Base) (N:Nat) (bs:List (Array Value)) (Q:jD→AS→Prop) (E:Exit→Act→World→Prop):Prop:=
 (∀ρ a w st,Rel g N bs ρ a w st→Q .normal st→E .normal a w)∧(∀i ρ a w st,Rel g N bs ρ a w st→Q (.exit i) st→E (.exit i) a w)∧(∀ρ a w st,Rel g N bs ρ a w st→Q .ret st→E .ret a w)
inductive HY (P:Program) (N:Nat) (c:Code) (Q:jD→AS→Prop) (st:AS):Prop where
  |mk (h: ∀ (g:Base) (bs:List (Array Value)) (E:Exit→Act→World→Prop) (ρ:Nat→Value) (a:Act) (w:World),qOf g N bs Q E→Rel g N bs ρ a w st→c.wp P E a w):HY P N c Q st
def kJ (P:Program) (L:Lay) (W:Walk) (N lv:Nat):Code→(jD→AS→Prop)→AS→Prop
  | .skip,Q,st=>Q .normal st
  | .region id ops draw,Q,st=>match draw with|false=>uV P L W N ops.toList (fun st'=>nrm lv st' (Q .normal)) ops.toList st|true=>iF P L W N id ops (fun st'=>nrm lv st' (Q .normal)) st
  | .seq a b,Q,st=>kJ P L W N lv a (fun e st'=>match e with| .normal=>kJ P L W N lv b Q st'| .exit i=>Q (.exit i) st'| .ret=>Q .ret st') st
  | .cond c a b,Q,st=>match st.ev c with| .v (.bool t)=>(match t with|true=>kJ P L W N lv a Q st|false=>kJ P L W N lv b Q st)|_=>False
  | .block id c,Q,st=>kJ P L W N lv c (fun e st'=>match e with| .normal=>Q .normal st'| .exit i=>(bif Nat.beq i id then Q .normal st' else Q (.exit i) st')| .ret=>Q .ret st') st
  | .exit id,Q,st=>Q (.exit id) st
  | .ret,Q,st=>Q .ret st
  | .loop c,Q,st=>aJ (kJ P L W N lv c) Q st
  |c,Q,st=>HY P N c Q st
def yK (P:Program) (L:Lay):Nat→Walk
  |0=>fun _ _ _ _ _=>False
  |n+1=>fun N lv c Q st=>kJ P L (yK P L n) N lv c Q st
def Z7 (h:List (Nat×AO)) (id d:Nat):AV→AV
  | .own i=>bif Nat.beq i id then .own d else Hz h (.own i)
  |x=>Hz h x
def ab5 (h:List (Nat×AO)) (id d:Nat):AV→AV
  | .agg cs=> .agg (cs.map (Z7 h id d))
  |x=>Z7 h id d x
def adi (h:List (Nat×AO)) (id d:Nat):AV→AV
  | .dM vs=> .dM (vs.map (ab5 h id d))
  |x=>ab5 h id d x
def Uw (h:List (Nat×AO)):AV→AV
  | .dM vs=> .dM (vs.map (Qb h))
  |x=>Qb h x
inductive aG (st:AS) (x:AV):AV→List (Nat×AO)→Prop where
  |plain (r:AV) (hr:aj (Uw st.heap x) r):aG st x r []
  |own (id d:Nat) (r:AV) (e:TypeId) (s n:Nat) (sc:Bool) (f:Nat→List AV) (o':AO) (hf:aO id st.heap=some (.row e s n sc f)) (ho:au (.row e s n sc f) o') (hr:aj (adi st.heap id d x) r):aG st x r [(d,o')]
  |nil (d:Nat) (e:TypeId) (s:Nat) (f:Nat→List AV) (hx:x= .v (.slice none 0 0)) (hs:0<s):aG st x (.own d) [(d,.row e s 0 true f)]
def MZ (L:Lay) (fn:Func) (r:AV) (h:List (Nat×AO)):jD→AS→Prop
  | .normal,st=>l9 L st fn.results.toList (fun x=>aG st x r h)
  | .ret,st=>l9 L st fn.results.toList (fun x=>aG st x r h)
  | .exit _,_=>False
end
section
open Go.RowKit
theorem jl {P:Program} {L:Lay} (hL:bM P L) {t:TypeId} {i:TI} (h:aV L t=some i):
  ∃info z d,P.info? t=some info∧P.underlying t=some d∧info.zero=some z∧info.size=i.size∧info.bytes=i.bytes∧z.cells.toList=i.zero∧kindOf d=i.kind:=by
 have hf:=hL t i h
 unfold PZ at hf
 split at hf
 · rename_i info d h1 h2
   cases hz:info.zero with
   |none=>rw[hz]at hf;cases hf
   | some z=>
     rw[hz]at hf
     simp only[Option.map_some,Option.some.injEq]at hf
     subst hf
     exact⟨info,z,d,h1,h2,hz,rfl,rfl,rfl,rfl⟩
 · cases hf
section
variable {P:Program} {L:Lay}
theorem gZ (hL:bM P L) {t:TypeId} {i:TI} (h:aV L t=some i) (w:World):(sizeOf t).run P w= .ok i.size w:=by
 obtain⟨info,z,d,h1,h2,h3,h4,_⟩:=jl hL h
 simp[sizeOf,typeInfo,h1,h4]
theorem nP (hL:bM P L) {t:TypeId} {i:TI} (h:aV L t=some i) (w:World):(isAgg t).run P w= .ok i.isAgg w:=by
 obtain⟨info,z,d,h1,h2,h3,h4,h5,h6,h7⟩:=jl hL h
 unfold isAgg
 rw[Sem.run_bind,run_underlying h2 w]
 unfold TI.isAgg
 rw[←h7]
 cases d<;>rfl
theorem zT (hL:bM P L) {t:TypeId} {i:TI} (h:aV L t=some i) (w:World): ∃z,(zeroValue t).run P w= .ok z w∧z.cells.toList=i.zero:=by
 obtain⟨info,z,d,h1,h2,h3,h4,h5,h6,h7⟩:=jl hL h
 exact⟨z,by simp[zeroValue,typeInfo,h1,h3],h6⟩
theorem C2.dJ {X:CX} {x u:Value} (h:C2 X (.v x) u):u=x:=h
theorem C2.ab6 {X:CX} {g:FuncId} {id k:Nat} {u:Value} (h:C2 X (.cf g id k) u): ∃b,eF (X.ρ id)= .pointer (some ⟨b,0,none⟩)∧u=ZT g (.pointer (some ⟨b,k,none⟩)):=h
theorem C2.kM {X:CX} {id k:Nat} {u:Value} (h:C2 X (.box id k) u): ∃b,eF (X.ρ id)= .pointer (some ⟨b,0,none⟩)∧u= .pointer (some ⟨b,k,none⟩):=h
theorem C2.Qg {X:CX} {cs:List AV} {k:Nat} {u:Value} (h:C2 X (.el cs k) u): ∃b o us,u= .pointer (some ⟨b,o+k,none⟩)∧X.keep b∧aI (PC X.w X.keep) cs us∧ ∀ (j:Nat) (y:Value),us[j]? =some y→X.w.cell? ⟨b,o+j,none⟩=some y:=h
theorem C2.zU {X:CX} {id s i k:Nat} {u:Value} (h:C2 X (.dN id s i k) u): ∃b n c,X.ρ id= .slice (some ⟨b,0,none⟩) n c∧u= .pointer (some ⟨b,i*s+k,none⟩):=h
theorem C2.qP {X:CX} {id s i m:Nat} {u:Value} (h:C2 X (.jh id s i m) u):(∃b c,jF (eF (X.ρ id))=[b]∧m≤c∧u= .slice (some ⟨b,i*s,none⟩) m c)∨(m=0∧ ∃A c,u= .slice A 0 c):=h
theorem C2.qQ {X:CX} {cs:List AV} {u:Value} (h:C2 X (.agg cs) u): ∃us,u= .agg us.toArray∧aI (C0 X) cs us:=h
theorem C2.tX {X:CX} {vs:List AV} {u:Value} (h:C2 X (.dM vs) u): ∃us,u= .tuple us.toArray∧aI (C1 X) vs us:=h
theorem C2.BJ {X:CX} {g:FuncId} {vs:List AV} {u:Value} (h:C2 X (.fn g vs) u): ∃us,u= .func (.func g) #[] us.toArray∧aI (C0 X) vs us:=h
theorem C2.tY {X:CX} {s n:Nat} {sc:Bool} {f:Nat→List AV} {u:Value} (h:C2 X (.sl s n sc f) u):PC X.w X.keep (.sl s n sc f) u:=h
theorem C2.jQ {X:CX} {id:Nat} {u:Value} (h:C2 X (.own id) u):u=eF (X.ρ id):=h
theorem aI.vs {X:CX}: ∀us:List Value,aI (C0 X) (us.map .v) us
  |[]=>aI.nil
  |u::us=>aI.cons (show C0 X (.v u) u from rfl) (aI.vs us)
variable {g:Base} {N:Nat} {bs:List (Array Value)} {ρ:Nat→Value} {a:Act} {w:World} {st:AS}
theorem Rel.ev (R:Rel g N bs ρ a w st) (x:Operand):C2 (aC g w ρ st.heap) (st.ev x) (a.eval x):=by
 cases x with
 |tmp t=>exact R.tmps t
 | const v=>
   cases v with
   |agg cs=>exact⟨cs.toList,by simp[Act.eval],aI.vs _⟩
   |_=>rfl
 |global g=>trivial
 |func f=>exact⟨[],rfl,aI.nil⟩
theorem jZ {o:Oper} {next:Act→World→Prop} {Q:Exit→Act→World→Prop} {u:Value} {w':World} (hrun:(execOp a.eval o).run P w= .ok (.value u) w') (h:next (a.put o.dst u) w'):o.wp P a w next Q:=by
 unfold Oper.wp
 rw[hrun]
 exact h
theorem KC (hL:bM P L) {t:TypeId} {i:TI} (hi:aV L t=some i) {X:CX} {cs:List AV} {k:Nat} {K:AV→Prop} (h:ld i cs k K) {b o:Nat} {us:List Value} (ha:aI (C0 X) cs us)
  (hc: ∀ (j:Nat) (y:Value),us[j]? =some y→X.w.cell? ⟨b,o+j,none⟩=some y): ∃x u,K x∧C2 X x u∧(loadVar t ⟨b,o+k,none⟩).run P X.w= .ok u X.w:=by
 unfold ld at h
 cases hg:i.isAgg with
 | true =>
   rw[hg]at h
   simp only[cond_true]at h
   cases hb:Nat.ble (k+i.size) cs.length with
   |false=>rw[hb]at h;exact h.elim
   | true=>
     rw[hb]at h
     have hle:=Nat.le_of_ble_eq_true hb
     refine⟨_,.agg ((us.drop k).take i.size).toArray,h,⟨_,rfl,(ha.drop k).take i.size⟩, ?_⟩
     have hlen:((us.drop k).take i.size).length=i.size:=by rw[List.length_take,List.length_drop,←ha.1];omega
     have hl:=run_loadCells_list (P:=P) X.w ⟨b,o+k,none⟩ ((us.drop k).take i.size) (fun j v hv=>by
      rw[Addr.add_lit]
      rw[List.getElem?_take]at hv
      split at hv
      · rw[List.getElem?_drop]at hv
        rw[Nat.add_assoc]
        exact hc _ _ hv
      · cases hv)
     rw[hlen]at hl
     simp only[loadVar,Sem.run_bind,nP hL hi,hg,Result.andThen_ok,if_true,gZ hL hi,hl,Sem.run_pure]
 | false=>
   rw[hg]at h
   simp only[cond_false]at h
   cases hb:Nat.ble (k+1) cs.length with
   |false=>rw[hb]at h;exact h.elim
   | true=>
     rw[hb]at h
     have hle:=Nat.le_of_ble_eq_true hb
     have hx:cs[k]? =some (cs.getD k .junk):=by simp[List.getD,List.getElem?_eq_getElem (show k<cs.length by omega)]
     obtain⟨u,hu,hr⟩:=ha.get hx
     refine⟨_,u,h,C2.sD hr, ?_⟩
     have:=hc _ _ hu
     simp[loadVar,Sem.run_bind,nP hL hi,hg,this]
theorem xC (hL:bM P L) (R:Rel g N bs ρ a w st) {t:TypeId} {p:AV} {pv:Value} (hp:C2 (aC g w ρ st.heap) p pv) {K:AV→Prop} (h:RQ L st t p K):
  ∃x u,K x∧C2 (aC g w ρ st.heap) x u∧(Instr.loadAt t pv).run P w= .ok u w:=by
 unfold RQ at h
 cases hi:aV L t with
 |none=>rw[hi]at h;exact h.elim
 | some i =>
   rw[hi]at h
   cases p with
   | box id k=>
     obtain⟨b,hb,rfl⟩:=C2.kM hp
     dsimp only at h
     cases hf:aO id st.heap with
     |none=>rw[hf]at h;exact h.elim
     | some o=>
       rw[hf]at h
       cases o with
       |row=>exact h.elim
       |mp=>exact h.elim
       |obs=>exact h.elim
       |rn=>exact h.elim
       | box t' cs=>
         obtain⟨b',us,e,hh,ha⟩:=R.objs _ (ay hf)
         have hb:eF (ρ id)=_:=hb
         have e:ρ id=_:=e
         rw[e]at hb
         cases hb
         obtain⟨x,u,hk,hc,hr⟩:=KC hL hi h (o:=0) ha (fun j y hy=>by
          rw[cell_of_row _ _ _ _ _ _ hh];simpa using hy)
         refine⟨x,u,hk,hc, ?_⟩
         simpa[Instr.loadAt,Instr.sureAddr,aC]using hr
   | el cs k=>
     obtain⟨b,o,us,rfl,kb,ha,hc⟩:=C2.Qg hp
     obtain⟨x,u,hk,hc,hr⟩:=KC hL hi h (ha.imp fun _ _=>C0.MO) hc
     refine⟨x,u,hk,hc, ?_⟩
     simpa[Instr.loadAt,Instr.sureAddr,aC]using hr
   | dN id s j k=>
     obtain⟨b,n,c,hb,rfl⟩:=C2.zU hp
     dsimp only at h
     cases hf:aO id st.heap with
     |none=>rw[hf]at h;exact h.elim
     | some o =>
       rw[hf]at h
       cases o with
       |box=>exact h.elim
       |mp=>exact h.elim
       |obs=>exact h.elim
       | rn e cs=>
         dsimp only at h
         cases hs:Nat.beq s 1 with
         |false=>rw[hs]at h;exact h.elim
         | true=>
           rw[hs]at h
           obtain rfl:=Nat.eq_of_beq_eq_true hs
           simp only[cond_true]at h
           obtain⟨us,⟨hown,_⟩,ha⟩:=R.objs _ (ay hf)
           have hb:ρ id=_:=hb
           have hown:w.ownsRow 0 e 1 (ρ id) cs.length us:=hown
           rw[hb]at hown
           have hcell:=hown.cells (g:=b) rfl
           obtain⟨x,u,hk,hc,hr⟩:=KC (X:=aC g w ρ st.heap) hL hi h (o:=0) ha (fun i y hy=>by
            have:=hcell _ _ hy
            rwa [Addr.add_lit]at this)
           refine⟨x,u,hk,hc, ?_⟩
           simpa[Instr.loadAt,Instr.sureAddr,aC]using hr
       | row e s' m sc f=>
         dsimp only at h
         cases hs:Nat.beq s s' with
         |false=>rw[hs]at h;exact h.elim
         | true =>
           rw[hs]at h
           obtain rfl:=Nat.eq_of_beq_eq_true hs
           simp only[cond_true]at h
           cases hj:Nat.ble (j+1) m with
           |false=>rw[hj]at h;exact h.elim
           | true=>
             rw[hj]at h
             have hjm:=Nat.le_of_ble_eq_true hj
             obtain⟨us,hown,hs0,hfl,hsc,ha⟩:=R.objs _ (ay hf)
             have hb:ρ id=_:=hb
             have hown:w.ownsRow 0 e s (ρ id) m us:=hown
             rw[hb]at hown
             have hcell:=hown.cells (g:=b) rfl
             obtain⟨hseg⟩:aI (PC w (aK g w ρ st.heap)) (f j) ((us.drop (j*s)).take s)∧True:=⟨seg ha hfl (by omega),trivial⟩
             obtain⟨x,u,hk,hc,hr⟩:=KC (X:=aC g w ρ st.heap) hL hi h (o:=j*s) (hseg.imp fun _ _=>C0.MO (X:=aC g w ρ st.heap)) (fun i y hy=>by
              rw[List.getElem?_take]at hy
              split at hy
              · rw[List.getElem?_drop]at hy
                have:=hcell _ _ hy
                rwa [Addr.add_lit,Nat.zero_add]at this
              · cases hy)
             refine⟨x,u,hk,hc, ?_⟩
             simpa[Instr.loadAt,Instr.sureAddr,aC]using hr
   |_=>exact h.elim
where
 seg {R:AV→Value→Prop} {s:Nat}: ∀ {n:Nat} {f:Nat→List AV} {us:List Value} {j:Nat},aI R (flat n f) us→(∀i,i<n→(f i).length=s)→j<n→aI R (f j) ((us.drop (j*s)).take s)
   |0,_,_,_,_,_,h=>absurd h (by omega)
   | n+1,f,us,0,ha,hl,_=>by
     have h:=ha.take s
     have e:(flat (n+1) f).take s=f 0:=by
      show(f 0++_).take s=_
      rw[←hl 0 (by omega)];exact List.take_left
     rw[e]at h
     simpa using h
   | n+1,f,us,j+1,ha,hl,hj=>by
     have h:=ha.drop s
     have e:(flat (n+1) f).drop s=flat n (fun i=>f (i+1)):=by
      show(f 0++_).drop s=_
      rw[←hl 0 (by omega)];exact List.drop_left
     rw[e]at h
     have:=seg (j:=j) h (fun i hi=>hl (i+1) (by omega)) (by omega)
     rw[List.drop_drop,show s+j*s=(j+1)*s by rw[Nat.succ_mul];omega]at this
     exact this
end
end
section
open Go.RowKit
section
variable {P:Program} {L:Lay} {g:Base} {N:Nat} {bs:List (Array Value)} {ρ:Nat→Value} {a:Act} {w:World} {st:AS}
theorem lF {P:Program} {L:Lay} (hL:bM P L) {t:TypeId} {i:TI} {fs:List (Nat×TypeId)} (h:aV L t=some i) (hk:i.kind= .struct fs):
  ∃fields:Array Field,P.underlying t=some (.struct fields)∧fields.toList.map (fun f=>(f.offset,f.type))=fs:=by
 obtain⟨info,z,d,h1,h2,h3,h4,h5,h6,h7⟩:=jl hL h
 rw[hk]at h7
 cases d<;>simp only[kindOf]at h7<;>first|(cases h7;done)|skip
 rename_i fields
 exact⟨fields,h2,by injection h7⟩
theorem oC {P:Program} {L:Lay} (hL:bM P L) {t:TypeId} {i:TI} {n:Nat} {e:TypeId} (h:aV L t=some i) (hk:i.kind= .array n e):P.underlying t=some (.array n e):=by
 obtain⟨info,z,d,h1,h2,h3,h4,h5,h6,h7⟩:=jl hL h
 rw[hk]at h7
 cases d<;>simp only[kindOf]at h7<;>cases h7
 exact h2
theorem bZ {P:Program} {L:Lay} (hL:bM P L) {t:TypeId} {i:TI} {e:TypeId} (h:aV L t=some i) (hk:i.kind= .slice e):P.underlying t=some (.slice e):=by
 obtain⟨info,z,d,h1,h2,h3,h4,h5,h6,h7⟩:=jl hL h
 rw[hk]at h7
 cases d<;>simp only[kindOf]at h7<;>cases h7
 exact h2
theorem rJ {P:Program} {L:Lay} (hL:bM P L) {t:TypeId} {i:TI} (h:aV L t=some i) (hk:i.kind= .str):P.underlying t=some .string:=by
 obtain⟨info,z,d,h1,h2,h3,h4,h5,h6,h7⟩:=jl hL h
 rw[hk]at h7
 cases d<;>simp only[kindOf]at h7<;>cases h7
 exact h2
theorem yV {P:Program} {L:Lay} (hL:bM P L) {t:TypeId} {i:TI} {k:IntKind} (h:aV L t=some i) (hk:i.kind= .int k):P.underlying t=some (.int k):=by
 obtain⟨info,z,d,h1,h2,h3,h4,h5,h6,h7⟩:=jl hL h
 rw[hk]at h7
 cases d<;>simp only[kindOf]at h7<;>cases h7
 exact h2
theorem Ez {fields:Array Field} {fs:List (Nat×TypeId)} (hf:fields.toList.map (fun f=>(f.offset,f.type))=fs) {i o:Nat} {ft:TypeId} (h:fs[i]? =some (o,ft)): ∃f,fields[i]? =some f∧f.offset=o∧f.type=ft:=by
 rw[←hf,List.getElem?_map]at h
 cases hx:fields.toList[i]? with
 |none=>rw[hx]at h;cases h
 | some f=>
   rw[hx]at h
   simp only[Option.map_some,Option.some.injEq,Prod.mk.injEq]at h
   exact⟨f,by simpa using hx,h.1,h.2⟩
theorem vC (hL:bM P L) {X:CX} {t:TypeId} {p:AV} {pv:Value} {i:Nat} (hp:C2 X p pv) {K:AV→Prop} (h:nO L t p i K) (w:World):
  ∃x u,K x∧C2 X x u∧(Instr.fieldAt t pv i).run P w= .ok u w:=by
 unfold nO at h
 split at h
 · rename_i ti hti
   split at h
   · rename_i fs hk
     split at h
     · rename_i o ft hfs
       split at h
       · rename_i fi hfi
         obtain⟨fields,hu,hmap⟩:=lF hL hti hk
         obtain⟨f,hf,ho,hft⟩:=Ez hmap hfs
         cases hs:Nat.ble 1 fi.size with
         |false=>rw[hs]at h;exact h.elim
         | true=>
           rw[hs]at h
           have h1:=Nat.le_of_ble_eq_true hs
           have Qh: ∀a:Addr,(fieldPlace a f).run P w= .ok (a.add f.offset) w:=by
            intro a
            have:=gZ hL hfi w
            rw[←hft]at this
            simp only[fieldPlace,Sem.run_bind,this,Result.andThen_ok]
            rw[if_neg (by omega)]
            rfl
           cases p with
           | box id k=>
             obtain⟨b,hb,rfl⟩:=C2.kM hp
             refine⟨_,.pointer (some ⟨b,k+o,none⟩),h,⟨b,hb,rfl⟩, ?_⟩
             simp[Instr.fieldAt,run_underlying hu,hf,Instr.sureAddr,Qh,ho,Addr.add_lit]
           | el cs k=>
             obtain⟨b,oo,us,rfl,kb,ha,hc⟩:=C2.Qg hp
             refine⟨_,.pointer (some ⟨b,oo+(k+o),none⟩),h,⟨b,oo,us,rfl,kb,ha,hc⟩, ?_⟩
             simp[Instr.fieldAt,run_underlying hu,hf,Instr.sureAddr,Qh,ho,Addr.add_lit,Nat.add_assoc]
           | dN id s j k=>
             obtain⟨b,n,c,hb,rfl⟩:=C2.zU hp
             refine⟨_,.pointer (some ⟨b,j*s+(k+o),none⟩),h,⟨b,n,c,hb,rfl⟩, ?_⟩
             simp[Instr.fieldAt,run_underlying hu,hf,Instr.sureAddr,Qh,ho,Addr.add_lit,Nat.add_assoc]
           |_=>exact h.elim
       · exact h.elim
     · exact h.elim
   · exact h.elim
 · exact h.elim
theorem Na (hL:bM P L) {t:TypeId} {i:TI} (hi:aV L t=some i) {X:CX} {cs:List AV} {k:Nat} {K:AV→Prop} (h:ld i cs k K) {us:List Value} (ha:aI (C0 X) cs us) (w:World):
  ∃x u,K x∧C2 X x u∧(part t us.toArray k).run P w= .ok u w:=by
 unfold ld at h
 cases hg:i.isAgg with
 | true=>
   rw[hg]at h
   simp only[cond_true]at h
   cases hb:Nat.ble (k+i.size) cs.length with
   |false=>rw[hb]at h;exact h.elim
   | true=>
     rw[hb]at h
     refine⟨_,.agg ((us.drop k).take i.size).toArray,h,⟨_,rfl,(ha.drop k).take i.size⟩, ?_⟩
     simp only[part,Sem.run_bind,nP hL hi,hg,Result.andThen_ok,if_true,gZ hL hi,Sem.run_pure]
     congr 2
     apply Array.ext'
     simp
 | false=>
   rw[hg]at h
   simp only[cond_false]at h
   cases hb:Nat.ble (k+1) cs.length with
   |false=>rw[hb]at h;exact h.elim
   | true=>
     rw[hb]at h
     have hle:=Nat.le_of_ble_eq_true hb
     have hx:cs[k]? =some (cs.getD k .junk):=by simp[List.getD,List.getElem?_eq_getElem (show k<cs.length by omega)]
     obtain⟨u,hu,hr⟩:=ha.get hx
     refine⟨_,u,h,C2.sD hr, ?_⟩
     simp[part,Sem.run_bind,nP hL hi,hg,hu]
theorem EC (hL:bM P L) {X:CX} {t:TypeId} {p:AV} {pv:Value} {i:Nat} (hp:C2 X p pv) {K:AV→Prop} (h:P7 L t p i K) (w:World):
  ∃x u,K x∧C2 X x u∧(Instr.field t pv i).run P w= .ok u w:=by
 unfold P7 at h
 split at h
 · rename_i ti cs hti
   split at h
   · rename_i fs hk
     split at h
     · rename_i o ft hfs
       split at h
       · rename_i fi hfi
         obtain⟨fields,hu,hmap⟩:=lF hL hti hk
         obtain⟨f,hf,ho,hft⟩:=Ez hmap hfs
         obtain⟨us,rfl,ha⟩:=C2.qQ hp
         obtain⟨x,u,hk',hc,hr⟩:=Na hL hfi h ha w
         refine⟨x,u,hk',hc, ?_⟩
         rw[←ho,←hft]at hr
         simp[Instr.field,run_underlying hu,hf,asAgg,hr]
       · exact h.elim
     · exact h.elim
   · exact h.elim
 · exact h.elim
theorem iZ {n:Int} {m:Nat} (h:inB n m=true):0≤n∧n<(m:Int):=by simpa[inB]using h
theorem PC.at {R:AV→Value→Prop} {s n:Nat} {f:Nat→List AV} {us:List Value} {j:Nat} (h:aI R (flat n f) us) (hl: ∀i,i<n→(f i).length=s) (hj:j<n):aI R (f j) ((us.drop (j*s)).take s):=xC.seg h hl hj
theorem mG (hL:bM P L) (R:Rel g N bs ρ a w st) {t:TypeId} {x ix:AV} {xv iv:Value} (hx:C2 (aC g w ρ st.heap) x xv) (hix:C2 (aC g w ρ st.heap) ix iv) {K:AV→Prop} (h:yS L st t x ix K):
  ∃y u,K y∧C2 (aC g w ρ st.heap) y u∧(Instr.indexAt t xv iv).run P w= .ok u w:=by
 unfold yS at h;simp only[BD,WM]at h
 split at h
 · rename_i ti kk n hti
   obtain rfl:=C2.dJ hix
   split at h
   · rename_i e hk
     have hu:=bZ hL hti hk
     split at h
     · rename_i ei o8
       have hsz:=gZ hL o8 w
       split at h
       · rename_i s m sc f
         cases hs:Nat.beq s ei.size with
         |false=>rw[hs]at h;exact h.elim
         | true=>
           rw[hs]at h
           obtain rfl:=Nat.eq_of_beq_eq_true hs
           simp only[cond_true]at h
           cases hb:inB n m with
           |false=>rw[hb]at h;exact h.elim
           | true=>
             rw[hb]at h
             obtain⟨h0,h1⟩:=iZ hb
             have hpc:=C2.tY hx
             cases hpc with
             | sl _ _ _ _ A c us hs0 hn hc hl hf hsc hu' hr=>
               rcases hr with hz|⟨b,o,rfl,kb,hcell⟩
               · omega
               · have hj:n.toNat<m:=by omega
                 have hseg:=PC.at (j:=n.toNat) (R:=PC w (aK g w ρ st.heap)) ⟨by rw[hl];exact flat_length hf,hu'⟩ hf hj
                 refine⟨_,.pointer (some ⟨b,o+n.toNat*ei.size,none⟩),h,⟨b,o+n.toNat*ei.size,_,by rw[Nat.add_zero],kb,hseg, ?_⟩, ?_⟩
                 · intro j y hy
                   rw[List.getElem?_take]at hy
                   split at hy
                   · rw[List.getElem?_drop]at hy
                     rw[Nat.add_assoc]
                     exact hcell _ _ hy
                   · cases hy
                 · simp[Instr.indexAt,asIntOf,run_underlying hu,h0,h1,hsz,Addr.add_lit]
       · rename_i id
         split at h
         · rename_i e' s m sc f hfo
           cases hs:Nat.beq s ei.size with
           |false=>rw[hs]at h;exact h.elim
           | true=>
             rw[hs]at h
             obtain rfl:=Nat.eq_of_beq_eq_true hs
             simp only[cond_true]at h
             cases hb:inB n m with
             |false=>rw[hb]at h;exact h.elim
             | true=>
               rw[hb]at h
               obtain⟨h0,h1⟩:=iZ hb
               obtain⟨us,hown,hs0,hfl,hsc,ha⟩:=R.objs _ (ay hfo)
               have hown:w.ownsRow 0 e' ei.size (ρ id) m us:=hown
               have hxv:xv=ρ id:=(C2.jQ hx).trans (gU hown)
               rcases hown.2 with⟨_,hz⟩|⟨b,cap,cur,hv,hB,hh,_⟩
               · omega
               · rw[hxv,hv]
                 refine⟨_,.pointer (some ⟨b,n.toNat*ei.size,none⟩),h,⟨b,m,cap,hv,rfl⟩, ?_⟩
                 simp[Instr.indexAt,asIntOf,run_underlying hu,h0,h1,hsz,Addr.add_lit]
         · rename_i e' cs hfo
           cases hs:Nat.beq 1 ei.size with
           |false=>rw[hs]at h;exact h.elim
           | true=>
             rw[hs]at h
             have hs1:=Nat.eq_of_beq_eq_true hs
             simp only[cond_true]at h
             cases hb:inB n cs.length with
             |false=>rw[hb]at h;exact h.elim
             | true=>
               rw[hb]at h
               obtain⟨h0,h1⟩:=iZ hb
               obtain⟨us,⟨hown,_⟩,ha⟩:=R.objs _ (ay hfo)
               have hown:w.ownsRow 0 e' 1 (ρ id) cs.length us:=hown
               have hxv:xv=ρ id:=(C2.jQ hx).trans (gU hown)
               rcases hown.2 with⟨_,hz⟩|⟨b,cap,cur,hv,hB,hh,_⟩
               · omega
               · rw[hxv,hv]
                 refine⟨_,.pointer (some ⟨b,n.toNat*1+0,none⟩),h,⟨b,cs.length,cap,hv,rfl⟩, ?_⟩
                 simp[Instr.indexAt,asIntOf,run_underlying hu,h0,h1,hsz,←hs1,Addr.add_lit]
         · exact h.elim
       · exact h.elim
     · exact h.elim
   · rename_i m e hk
     have hu:=oC hL hti hk
     split at h
     · rename_i ei o8
       have hsz:=gZ hL o8 w
       cases hb:inB n m with
       |false=>rw[hb]at h;exact h.elim
       | true=>
         rw[hb]at h
         obtain⟨h0,h1⟩:=iZ hb
         simp only[cond_true]at h
         split at h
         · rename_i id k
           obtain⟨b,hbb,rfl⟩:=C2.kM hx
           refine⟨_,.pointer (some ⟨b,k+n.toNat*ei.size,none⟩),h,⟨b,hbb,rfl⟩, ?_⟩
           simp[Instr.indexAt,asIntOf,run_underlying hu,h0,h1,hsz,Addr.add_lit,Instr.sureAddr]
         · rename_i cs k
           obtain⟨b,o,us,rfl,kb,ha,hc⟩:=C2.Qg hx
           refine⟨_,.pointer (some ⟨b,o+(k+n.toNat*ei.size),none⟩),h,⟨b,o,us,rfl,kb,ha,hc⟩, ?_⟩
           simp[Instr.indexAt,asIntOf,run_underlying hu,h0,h1,hsz,Addr.add_lit,Instr.sureAddr,Nat.add_assoc]
         · rename_i id s j k
           obtain⟨b,nn,c,hbb,rfl⟩:=C2.zU hx
           refine⟨_,.pointer (some ⟨b,j*s+(k+n.toNat*ei.size),none⟩),h,⟨b,nn,c,hbb,rfl⟩, ?_⟩
           simp[Instr.indexAt,asIntOf,run_underlying hu,h0,h1,hsz,Addr.add_lit,Instr.sureAddr,Nat.add_assoc]
         · exact h.elim
     · exact h.elim
   · exact h.elim
 · exact h.elim
where
 flat_length {s:Nat}: ∀ {n:Nat} {f:Nat→List AV},(∀i,i<n→(f i).length=s)→(flat n f).length=n*s
   |0,_,_=>by simp[flat]
   | n+1,f,h=>by
     show(f 0++_).length=_
     rw[List.length_append,h 0 (by omega),flat_length (fun i hi=>h (i+1) (by omega)),Nat.succ_mul,Nat.add_comm]
theorem ED (hL:bM P L) {X:CX} {t:TypeId} {x ix:AV} {xv iv:Value} (hx:C2 X x xv) (hix:C2 X ix iv) {K:AV→Prop} (h:P8 L t x ix K) (w:World):
  ∃y u,K y∧C2 X y u∧(Instr.index t xv iv).run P w= .ok u w:=by
 unfold P8 at h;simp only[BD,WM]at h
 split at h
 · rename_i ti kk n hti
   obtain rfl:=C2.dJ hix
   split at h
   · rename_i m e cs hk
     have hu:=oC hL hti hk
     obtain⟨us,rfl,ha⟩:=C2.qQ hx
     split at h
     · rename_i ei o8
       cases hb:inB n m with
       |false=>rw[hb]at h;exact h.elim
       | true=>
         rw[hb]at h
         obtain⟨h0,h1⟩:=iZ hb
         obtain⟨y,u,hk',hc,hr⟩:=Na hL o8 h ha w
         refine⟨y,u,hk',hc, ?_⟩
         simp[Instr.index,asIntOf,run_underlying hu,h0,h1,gZ hL o8,hr]
     · exact h.elim
   · rename_i s hk
     have hu:=rJ hL hti hk
     obtain rfl:=C2.dJ hx
     cases hb:inB n s.size with
     |false=>rw[hb]at h;exact h.elim
     | true=>
       rw[hb]at h
       obtain⟨h0,h1⟩:=iZ hb
       have hlt:n.toNat<s.size:=by omega
       refine⟨_,_,h,rfl, ?_⟩
       have e1:s[n.toNat]? =some s[n.toNat]:=by simp[hlt]
       have e2:s.data.toList.getD n.toNat 0=s[n.toNat]:=by
        have hlt':n.toNat<s.data.toList.length:=by rw[Array.length_toList];exact hlt
        rw[List.getD,List.getElem?_eq_getElem hlt']
        rfl
       rw[e2]
       simp[Instr.index,asIntOf,run_underlying hu,h0,e1]
   · exact h.elim
 · exact h.elim
theorem zV {X:CX} {x:AV} {xv:Value} (hx:C2 X x xv) {i:Nat} {K:AV→Prop} (h:Eo x i K) (w:World): ∃y u,K y∧C2 X y u∧(Instr.extract xv i).run P w= .ok u w:=by
 unfold Eo at h
 split at h
 · rename_i vs
   obtain⟨us,rfl,ha⟩:=C2.tX hx
   split at h
   · rename_i y hy
     obtain⟨u,hu,hc⟩:=ha.get hy
     exact⟨y,u,h,C2.jK hc,by simp[Instr.extract,hu]⟩
   · exact h.elim
 · exact h.elim
end
end
section
open Go.RowKit
section
variable {P:Program} {L:Lay} {g:Base} {N:Nat} {bs:List (Array Value)} {ρ:Nat→Value} {a:Act} {w:World} {st:AS}
theorem Wr.out {n:Int} {K:Int→Prop} {k:IntKind} (h:Wr n K k):K (k.wrap n):=by
 cases h with
 |i64 h0 h1 h=>rw[IntWalk.i64_in n (by omega)];exact h
 |u64 h0 h1 h=>rw[IntWalk.u64_in n (by omega)];exact h
 |u32 h0 h1 h=>rw[IntWalk.u32_in n (by omega)];exact h
 |u8 h0 h1 h=>rw[IntWalk.u8_in n (by omega)];exact h
 |raw k h=>exact h
theorem yC.out {p A B:Prop} (h:yC p A B) [Decidable p]:if p then A else B:=by
 split
 · rename_i hp;exact h.1 hp
 · rename_i hp;exact h.2 hp
theorem Xf {op:BinOp} {x y:Int} {K:AV→Prop} (h:abR op x y K) (w:World): ∃b,K (.v (.bool b))∧(Op.intCmp op x y).run P w= .ok (.bool b) w:=by
 cases op<;>simp only[abR]at h<;>first|(exact h.elim)|skip
 · obtain⟨h1,h2⟩:=h
   by_cases e:x=y
   · exact⟨true,h1 e,by simp[Op.intCmp,e]⟩
   · exact⟨false,h2 e,by simp[Op.intCmp,e]⟩
 · obtain⟨h1,h2⟩:=h
   by_cases e:x=y
   · exact⟨false,h1 e,by simp[Op.intCmp,e]⟩
   · exact⟨true,h2 e,by simp[Op.intCmp,e]⟩
 · obtain⟨h1,h2⟩:=h
   by_cases e:x<y
   · exact⟨true,h1 e,by simp[Op.intCmp,e]⟩
   · exact⟨false,h2 e,by simp[Op.intCmp,e]⟩
 · obtain⟨h1,h2⟩:=h
   by_cases e:x≤y
   · exact⟨true,h1 e,by simp[Op.intCmp,e]⟩
   · exact⟨false,h2 e,by simp[Op.intCmp,e]⟩
 · obtain⟨h1,h2⟩:=h
   by_cases e:y<x
   · exact⟨true,h1 e,by simp[Op.intCmp,e]⟩
   · exact⟨false,h2 e,by simp[Op.intCmp,e]⟩
 · obtain⟨h1,h2⟩:=h
   by_cases e:y≤x
   · exact⟨true,h1 e,by simp[Op.intCmp,e]⟩
   · exact⟨false,h2 e,by simp[Op.intCmp,e]⟩
theorem Xg {t:TypeId} {op:BinOp} {k:IntKind} {x y:Int} {K:AV→Prop} (h:ZU op k x y K) (w:World): ∃u,K (.v u)∧(binOp op t (.int k x) (.int k y)).run P w= .ok u w:=by
 cases op<;>simp only[ZU]at h
 case add=>exact⟨_,h.out,by simp[binOp,Op.intArith]⟩
 case sub=>exact⟨_,h.out,by simp[binOp,Op.intArith]⟩
 case mul=>exact⟨_,h.out,by simp[binOp,Op.intArith]⟩
 case quo=>
  cases h with
  | pos h0 h1 h=>
    have hy:y≠0:=by omega
    exact⟨_,h.out,by simp[binOp,Op.intDiv,hy,Int.tdiv_eq_ediv_of_nonneg h0]⟩
  |raw hy h=>exact⟨_,h.out,by simp[binOp,Op.intDiv,hy]⟩
 case rem=>
  cases h with
  | pos h0 h1 h=>
    have hy:y≠0:=by omega
    exact⟨_,h,by simp[binOp,Op.intDiv,hy,Int.tmod_eq_emod_of_nonneg h0]⟩
  |raw hy h=>exact⟨_,h,by simp[binOp,Op.intDiv,hy]⟩
 case and=>exact⟨_,h,by simp[binOp,Op.intBits]⟩
 case or=>exact⟨_,h,by simp[binOp,Op.intBits]⟩
 case xor=>exact⟨_,h,by simp[binOp,Op.intBits]⟩
 all_goals first
   |exact h.elim
   |(obtain⟨b,hk,hr⟩:=Xf (P:=P) h w;exact⟨_,hk,by simp[binOp,hr]⟩)
theorem EF {t:TypeId} {op:BinOp} {k k':IntKind} {x y:Int} {K:AV→Prop} (hop:op= .shl∨op= .shr) (h:P9 op k x y K) (w:World): ∃u,K (.v u)∧(binOp op t (.int k x) (.int k' y)).run P w= .ok u w:=by
 rcases hop with rfl|rfl
 · obtain⟨hy,h⟩:=h
   exact⟨_,h.out,by simp[binOp,Op.shift,Int.not_lt.2 hy]⟩
 · obtain⟨hy,h⟩:=h
   exact⟨_,h,by simp[binOp,Op.shift,Int.not_lt.2 hy]⟩
theorem toList_inj {a b:ByteArray} (h:a.toList=b.toList):a=b:=by
 rw[ByteArray.toList_eq,ByteArray.toList_eq]at h
 cases a;cases b
 congr
 exact Array.toList_inj.1 h
theorem Xh {t:TypeId} {op:BinOp} {x y:ByteArray} {K:AV→Prop} (h:abS op x y K) (w:World): ∃u,K (.v u)∧(binOp op t (.string x) (.string y)).run P w= .ok u w:=by
 cases op<;>simp only[abS]at h<;>first|(exact h.elim)|skip
 · obtain⟨hs,h⟩:=h
   refine⟨_,h, ?_⟩
   have hm: ¬ (((x.size+y.size:Nat):Int)>IntKind.i64.max):=by
    show¬ (_>(9223372036854775807:Int))
    omega
   simp only[binOp,Op.stringOp,if_neg hm]
   rfl
 · obtain⟨h1,h2⟩:=h
   by_cases e:x=y
   · exact⟨_,h1 e,by simp[binOp,Op.stringOp,e]⟩
   · have e':(x.toList==y.toList)=false:=by rw[beq_eq_false_iff_ne];exact fun hh=>e (toList_inj hh)
     exact⟨_,h2 e,by simp[binOp,Op.stringOp,e']⟩
 · obtain⟨h1,h2⟩:=h
   by_cases e:x=y
   · exact⟨_,h1 e,by simp[binOp,Op.stringOp,e]⟩
   · have e':(x.toList==y.toList)=false:=by rw[beq_eq_false_iff_ne];exact fun hh=>e (toList_inj hh)
     exact⟨_,h2 e,by simp[binOp,Op.stringOp,e']⟩
 · obtain⟨h1,h2⟩:=h
   cases e:Op.bytesLess x.toList y.toList with
   |true=>exact⟨_,h1 e,by simp[binOp,Op.stringOp,e]⟩
   |false=>exact⟨_,h2 (by simp[e]),by simp[binOp,Op.stringOp,e]⟩
 · obtain⟨h1,h2⟩:=h
   have e':(x.toList==y.toList)=decide (x=y):=by
    by_cases e:x=y
    · simp[e]
    · rw[decide_eq_false e,beq_eq_false_iff_ne]
      exact fun hh=>e (toList_inj hh)
   cases e:Op.bytesLess x.toList y.toList||decide (x=y)with
   |true=>exact⟨_,h1 (by simpa using e),by simp only[binOp,Op.stringOp,e',e];rfl⟩
   |false=>exact⟨_,h2 (by simpa using e),by simp only[binOp,Op.stringOp,e',e];rfl⟩
 · obtain⟨h1,h2⟩:=h
   have e':(x.toList==y.toList)=decide (x=y):=by
    by_cases e:x=y
    · simp[e]
    · rw[decide_eq_false e,beq_eq_false_iff_ne]
      exact fun hh=>e (toList_inj hh)
   cases e:Op.bytesLess x.toList y.toList||decide (x=y)with
   |true=>exact⟨_,h1 (by simpa using e),by simp only[binOp,Op.stringOp,e',e];rfl⟩
   |false=>exact⟨_,h2 (by simpa using e),by simp only[binOp,Op.stringOp,e',e];rfl⟩
 · obtain⟨h1,h2⟩:=h
   cases e:Op.bytesLess x.toList y.toList with
   |true=>exact⟨_,h1 e,by simp[binOp,Op.stringOp,e]⟩
   |false=>exact⟨_,h2 (by simp[e]),by simp[binOp,Op.stringOp,e]⟩
theorem jL {op:BinOp} {t:TypeId} {x y:Operand} {u v:Value} (hu:u.oneCell'=true) (hn:u≠ .nilIface) (w:World):(eqGuard op t x y u v).run P w= .ok () w:=by
 unfold eqGuard
 cases op<;>cases u<;>first|(simp[Value.oneCell']at hu;done)|(exact absurd rfl hn)|(cases v<;>simp)
theorem Nb (hL:bM P L) {X:CX} {op:BinOp} {t:TypeId} {ox oy:Operand} {x y:AV} {xv yv:Value} (hx:C2 X x xv) (hy:C2 X y yv) {K:AV→Prop} (h:abU P L op t x y K) (w:World):
  ∃z u,K z∧C2 X z u∧(eqGuard op t ox oy xv yv).run P w= .ok () w∧(binOp op t xv yv).run P w= .ok u w:=by
 unfold abU at h
 split at h
 · rename_i k a k' b
   obtain rfl:=C2.dJ hx
   obtain rfl:=C2.dJ hy
   have hg:=jL (P:=P) (op:=op) (t:=t) (x:=ox) (y:=oy) (u:= .int k a) (v:= .int k' b) rfl (by simp) w
   split at h
   · obtain⟨u,hk,hr⟩:=EF (P:=P) (t:=t) (k':=k') (.inl rfl) h w
     exact⟨_,u,hk,rfl,hg,hr⟩
   · obtain⟨u,hk,hr⟩:=EF (P:=P) (t:=t) (k':=k') (.inr rfl) h w
     exact⟨_,u,hk,rfl,hg,hr⟩
   · by_cases e:k=k'
     · subst e
       simp only[decide_true,cond_true]at h
       obtain⟨u,hk,hr⟩:=Xg (P:=P) (t:=t) h w
       exact⟨_,u,hk,rfl,hg,hr⟩
     · simp only[e,decide_false,cond_false]at h
 · rename_i a b
   obtain rfl:=C2.dJ hx
   obtain rfl:=C2.dJ hy
   obtain⟨u,hk,hr⟩:=Xh (P:=P) (t:=t) h w
   exact⟨_,u,hk,rfl,jL rfl (by simp) w,hr⟩
 · rename_i a b
   obtain rfl:=C2.dJ hx
   obtain rfl:=C2.dJ hy
   split at h
   · rename_i i hi
     obtain⟨info,z,d,h1,h2,h3,h4,h5,h6,h7⟩:=jl hL hi
     split at h
     · rename_i hk
       rw[hk]at h7
       cases d<;>simp only[kindOf]at h7<;>first|(cases h7;done)|skip
       exact⟨_,_,h,rfl,jL rfl (by simp) w,run_eql_bool w t a b h2⟩
     · rename_i hk
       rw[hk]at h7
       cases d<;>simp only[kindOf]at h7<;>first|(cases h7;done)|skip
       exact⟨_,_,h,rfl,jL rfl (by simp) w,run_neq_bool w t a b h2⟩
     · exact h.elim
   · exact h.elim
 · rename_i cs ds
   obtain⟨us,rfl,ha⟩:=C2.qQ hx
   obtain⟨vs,rfl,hb⟩:=C2.qQ hy
   split at h
   · obtain⟨us',vs',p,rfl,rfl,⟨hgt,hp⟩,hs⟩:=h
     obtain rfl:=Nc ha
     obtain rfl:=Nc hb
     obtain⟨b,hbp,hr⟩:=hp w
     refine⟨.v (.bool b),.bool b, ?_,rfl,by simp[eqGuard,hgt],by simp[binOp,hr]⟩
     cases b with
     |true=>exact hs.1 (hbp.1 rfl)
     |false=>exact hs.2 (fun q=>by cases hbp.2 q)
   · obtain⟨us',vs',p,rfl,rfl,⟨hgt,hp⟩,hs⟩:=h
     obtain rfl:=Nc ha
     obtain rfl:=Nc hb
     obtain⟨b,hbp,hr⟩:=hp w
     refine⟨.v (.bool (!b)),.bool (!b), ?_,rfl,by simp[eqGuard,hgt],by simp[binOp,hr]⟩
     cases b with
     |true=>exact hs.1 (hbp.1 rfl)
     |false=>exact hs.2 (fun q=>by cases hbp.2 q)
   · exact h.elim
 · rename_i id off
   obtain⟨b,hb,rfl⟩: ∃b,eF (X.ρ id)= .pointer (some ⟨b,0,none⟩)∧xv= .pointer (some ⟨b,off,none⟩):=hx
   obtain rfl:=C2.dJ hy
   split at h
   · rename_i i hi
     obtain⟨info,z,d,h1,h2,h3,h4,h5,h6,h7⟩:=jl hL hi
     have hg:(eqGuard op t ox oy (.pointer (some ⟨b,off,none⟩)) (.pointer none)).run P w= .ok () w:=jL rfl (by simp) w
     have he: ∀e:TypeId,P.underlying t=some (.pointer e)→(Op.equal t (.pointer (some ⟨b,off,none⟩)) (.pointer none)).run P w= .ok false w:=fun e he=>by
      have h: ∀d:Nat,(Op.equalIn (d+1) t (.pointer (some ⟨b,off,none⟩)) (.pointer none)).run P w= .ok false w:=fun d=>by
       simp[Op.equalIn,run_underlying he]
      simp[Op.equal,Op.maxDepth,h 9999]
     split at h
     · rename_i e hk
       rw[hk]at h7
       cases d<;>simp only[kindOf]at h7<;>first|(cases h7;done)|skip
       exact⟨_,_,h,rfl,hg,by simp[binOp,he _ h2]⟩
     · rename_i e hk
       rw[hk]at h7
       cases d<;>simp only[kindOf]at h7<;>first|(cases h7;done)|skip
       exact⟨_,_,h,rfl,hg,by simp[binOp,he _ h2]⟩
     · exact h.elim
   · exact h.elim
 · obtain rfl:=C2.dJ hx
   obtain rfl:=C2.dJ hy
   split at h
   · rename_i i hi
     have hg:(eqGuard op t ox oy (.pointer none) (.pointer none)).run P w= .ok () w:=jL rfl (by simp) w
     obtain⟨info,z,d,h1,h2,h3,h4,h5,h6,h7⟩:=jl hL hi
     have he: ∀e:TypeId,P.underlying t=some (.pointer e)→(Op.equal t (.pointer none) (.pointer none)).run P w= .ok true w:=fun e he=>by
      have h: ∀d:Nat,(Op.equalIn (d+1) t (.pointer none) (.pointer none)).run P w= .ok true w:=fun d=>by
       simp[Op.equalIn,run_underlying he]
      simp[Op.equal,Op.maxDepth,h 9999]
     split at h
     · rename_i e hk
       rw[hk]at h7
       cases d<;>simp only[kindOf]at h7<;>first|(cases h7;done)|skip
       exact⟨_,_,h,rfl,hg,by simp[binOp,he _ h2]⟩
     · rename_i e hk
       rw[hk]at h7
       cases d<;>simp only[kindOf]at h7<;>first|(cases h7;done)|skip
       exact⟨_,_,h,rfl,hg,by simp[binOp,he _ h2]⟩
     · exact h.elim
   · exact h.elim
 · obtain rfl:=C2.dJ hx
   obtain rfl:=C2.dJ hy
   split at h
   · rename_i i hi
     have hg:(eqGuard op t ox oy (.slice none 0 0) (.slice none 0 0)).run P w= .ok () w:=jL rfl (by simp) w
     split at h
     · rename_i e hk
       exact⟨_,_,h,rfl,hg,by simp[binOp,eq_nil (bZ hL hi hk)]⟩
     · rename_i e hk
       exact⟨_,_,h,rfl,hg,by simp[binOp,eq_nil (bZ hL hi hk)]⟩
     · exact h.elim
   · exact h.elim
 · rename_i s n sc f
   obtain rfl:=C2.dJ hy
   cases C2.tY hx with
   |sl s n sc f A c us hs hn hc hl hf hsc hu hr=>
   split at h
   · rename_i i hi
     have hg:(eqGuard op t ox oy (.slice A n c) (.slice none 0 0)).run P w= .ok () w:=jL rfl (by simp) w
     have hA:A=none→n=0:=fun hA=>by
      rcases hr with h|⟨b,o,h,_⟩
      · exact h
      · rw[hA]at h;cases h
     split at h
     · rename_i e hk
       refine⟨.v (.bool A.isNone),_, ?_,rfl,hg,by simp[binOp,eq_nil (bZ hL hi hk)]⟩
       cases A with
       |none=>exact h.y (hA rfl)
       |some x=>exact h.n
     · rename_i e hk
       refine⟨.v (.bool (!A.isNone)),_, ?_,rfl,hg,by simp[binOp,eq_nil (bZ hL hi hk)]⟩
       cases A with
       |none=>exact h.y (hA rfl)
       |some x=>exact h.n
     · exact h.elim
   · exact h.elim
 · exact h.elim
where
 eq_nil {w:World} {t e:TypeId} {a:Option Addr} {n c:Nat} (h:P.underlying t=some (.slice e)):(Op.equal t (.slice a n c) (.slice none 0 0)).run P w= .ok a.isNone w:=by
  have h: ∀d:Nat,(Op.equalIn (d+1) t (.slice a n c) (.slice none 0 0)).run P w= .ok a.isNone w:=fun d=>by
   cases a<;>simp[Op.equalIn,run_underlying h]
  simp[Op.equal,Op.maxDepth,h 9999]
 Nc {X:CX}: ∀ {us vs:List Value},aI (C0 X) (us.map .v) vs→vs=us
   | [],vs,h=>by
     have:=h.1
     simp at this
     exact List.eq_nil_of_length_eq_zero this.symm
   |u::us,[],h=>by have:=h.1;simp at this
   | u::us,v::vs,h=>by
     have h0:=h.2 0 _ _ rfl rfl
     have:vs=us:=Nc ⟨by simpa using h.1,fun i x y hx hy=>h.2 (i+1) x y (by simpa using hx) (by simpa using hy)⟩
     rw[this,show v=u from h0]
theorem Sl {X:CX} {op:UnOp} {x:AV} {xv:Value} (hx:C2 X x xv) {K:AV→Prop} (h:aun op x K) (w:World): ∃z u,K z∧C2 X z u∧(Op.unary op xv).run P w= .ok u w:=by
 unfold aun at h
 split at h
 · obtain rfl:=C2.dJ hx
   exact⟨_,_,h,rfl,rfl⟩
 · obtain rfl:=C2.dJ hx
   exact⟨_,_,h.out,rfl,rfl⟩
 · obtain rfl:=C2.dJ hx
   exact⟨_,_,h,rfl,rfl⟩
 · exact h.elim
theorem Nh (hL:bM P L) (R:Rel g N bs ρ a w st) {t ty:TypeId} {x:AV} {xv:Value} (hx:C2 (aC g w ρ st.heap) x xv) {K:AV→Prop} (h:abV L st t x K):
  ∃z u,K z∧C2 (aC g w ρ st.heap) z u∧(Builtin.len_ #[t] ty #[xv]).run P w= .ok u w:=by
 unfold abV at h
 split at h
 · exact h.elim
 · rename_i i hi
   split at h
   · rename_i b hk
     obtain rfl:=C2.dJ hx
     exact⟨_,_,h,rfl,by simp[Builtin.len_,run_underlying (rJ hL hi hk),goInt]⟩
   · rename_i e n c hk
     obtain rfl:=C2.dJ hx
     exact⟨_,_,h,rfl,by simp[Builtin.len_,run_underlying (bZ hL hi hk),goInt]⟩
   · rename_i e s n sc f hk
     cases C2.tY hx with
     | sl _ _ _ _ A c us hs0 hn hc hl hf hsc hu' hr=>
       exact⟨_,_,h,rfl,by simp[Builtin.len_,run_underlying (bZ hL hi hk),goInt]⟩
   · rename_i e id hk
     split at h
     · rename_i ee s n sc f hfo
       obtain⟨us,hown,_⟩:=R.objs _ (ay hfo)
       have hown:w.ownsRow 0 ee s (ρ id) n us:=hown
       have hxv:xv=ρ id:=(C2.jQ hx).trans (gU hown)
       rcases hown.2 with⟨hv,hz⟩|⟨b,cap,cur,hv,_⟩
       · rw[hxv,hv]
         exact⟨_,_,h,rfl,by simp[Builtin.len_,run_underlying (bZ hL hi hk),goInt,hz]⟩
       · rw[hxv,hv]
         exact⟨_,_,h,rfl,by simp[Builtin.len_,run_underlying (bZ hL hi hk),goInt]⟩
     · rename_i ee cs hfo
       obtain⟨us,⟨hown,_⟩,_⟩:=R.objs _ (ay hfo)
       have hown:w.ownsRow 0 ee 1 (ρ id) cs.length us:=hown
       have hxv:xv=ρ id:=(C2.jQ hx).trans (gU hown)
       rcases hown.2 with⟨hv,hz⟩|⟨b,cap,cur,hv,_⟩
       · rw[hxv,hv]
         exact⟨_,_,h,rfl,by simp[Builtin.len_,run_underlying (bZ hL hi hk),goInt,hz]⟩
       · rw[hxv,hv]
         exact⟨_,_,h,rfl,by simp[Builtin.len_,run_underlying (bZ hL hi hk),goInt]⟩
     · exact h.elim
   · rename_i hk
     rcases C2.qP hx with⟨b,c,_,_,rfl⟩|⟨rfl,A,c,rfl⟩<;>exact⟨_,_,h,rfl,by simp[Builtin.len_,run_underlying (bZ hL hi hk),goInt]⟩
   · rename_i m e hk
     exact⟨_,_,h,rfl,by simp[Builtin.len_,run_underlying (oC hL hi hk),goInt]⟩
   · exact h.elim
theorem Nj {X:CX} {x y:AV} {xv yv:Value} (hx:C2 X x xv) (hy:C2 X y yv) {K:AV→Prop} (h:abZ x y K) (ts:Array TypeId) (ty:TypeId) (w:World): ∃z u,K z∧C2 X z u∧(Builtin.min_ ts ty #[xv,yv]).run P w= .ok u w:=by
 unfold abZ at h
 split at h
 · obtain rfl:=C2.dJ hx
   obtain rfl:=C2.dJ hy
   exact⟨_,_,h,rfl,run_min_int2 w ts ty _ _ _ _⟩
 · exact h.elim
theorem Nk {X:CX} {x y:AV} {xv yv:Value} (hx:C2 X x xv) (hy:C2 X y yv) {K:AV→Prop} (h:ab1 x y K) (ts:Array TypeId) (ty:TypeId) (w:World): ∃z u,K z∧C2 X z u∧(Builtin.max_ ts ty #[xv,yv]).run P w= .ok u w:=by
 unfold ab1 at h
 split at h
 · obtain rfl:=C2.dJ hx
   obtain rfl:=C2.dJ hy
   exact⟨_,_,h,rfl,run_max_int2 w ts ty _ _ _ _⟩
 · exact h.elim
theorem vF {R:AV→Value→Prop} (hR: ∀y u,R (.v y) u→u=y): ∀ {n:Nat} {f:Nat→List AV} {us:List Value} {bs:List UInt8},aI R (flat n f) us→n=bs.length→(∀i,i<n→f i=[.v (.int .u8 ((bs.getD i 0).toNat:Int))])→
  ∀ (j:Nat) (hj:j<bs.length),us[j]? =some (.int .u8 (bs[j].toNat:Int))
  |0,_,_,[],_,_,_,j,hj=>by simp at hj
  |0,_,_,b::bs,_,hn,_,_,_=>by simp at hn
  |n+1,f,us,[],_,hn,_,_,_=>by simp at hn
  | n + 1,f,us,b::bs,ha,hn,hf,j,hj=>by
    have e0:=hf 0 (by omega)
    have hfl:flat (n+1) f=f 0++flat n (fun i=>f (i+1)):=rfl
    rw[hfl,e0]at ha
    cases us with
    |nil=>have:=ha.1;simp at this
    | cons u us=>
      have h0:=hR _ _ (ha.2 0 _ _ rfl rfl)
      have ht:aI R (flat n (fun i=>f (i+1))) us:=⟨by have h1:=ha.1;simp at h1;omega,fun i x y hx hy=>ha.2 (i+1) x y (by simpa using hx) (by simpa using hy)⟩
      cases j with
      |zero=>simp[h0]
      | succ j=>
        have:=vF hR (bs:=bs) ht (by simpa using hn) (fun i hi=>by have:=hf (i+1) (by omega);simpa using this) j (by simpa using hj)
        simpa using this
theorem zW (hL:bM P L) (R:Rel g N bs ρ a w st) {src dst:TypeId} {x:AV} {xv:Value} (hx:C2 (aC g w ρ st.heap) x xv) {K:AV→Prop} (h:Es L st src dst x K):
  ∃z u,K z∧C2 (aC g w ρ st.heap) z u∧(convert src dst xv).run P w= .ok u w:=by
 unfold Es at h
 split at h
 · rename_i si di hsi hdi
   obtain⟨info,z,d,h1,h2,h3,h4,h5,h6,h7⟩:=jl hL hsi
   split at h
   · rename_i k kk n hk
     obtain rfl:=C2.dJ hx
     exact⟨_,_,h.out,rfl,by cases d<;>simp[convert,run_underlying h2,run_underlying (yV hL hdi hk),Conv.intToInt]⟩
   · rename_i s hk
     obtain rfl:=C2.dJ hx
     exact⟨_,_,h,rfl,by cases d<;>simp[convert,run_underlying h2,run_underlying (rJ hL hdi hk)]⟩
   · rename_i e s n sc f hsk hdk
     split at h
     · rename_i ei o8
       split at h
       · rename_i hek
         obtain⟨bs,hn,hf,hk⟩:=h
         cases C2.tY hx with
         | sl _ _ _ _ A c us hs0 hnc hc hl hfl hsc hu' hr=>
           refine⟨_,.string ⟨bs.toArray⟩,hk,rfl, ?_⟩
           subst hn
           have hall:aI (PC w (aK g w ρ st.heap)) (flat bs.length f) us:=⟨by rw[hl];exact mG.flat_length hfl,hu'⟩
           have hcells:=vF (fun y u h=>by cases h;rfl) hall rfl hf
           rcases hr with hz|⟨b,o,rfl,kb,hcell⟩
           · have hb:bs=[]:=List.eq_nil_of_length_eq_zero hz
             subst hb
             cases A with
             | none=>
               rw[show([]:List UInt8).length=0 from rfl,run_convert_bytes_string w _ _ _ none 0 c (bZ hL hsi hsk) (yV hL o8 hek) (rJ hL hdi hdk)]
               rfl
             |some aa=>exact run_convert_bytes_back w _ _ _ aa c [] (bZ hL hsi hsk) (yV hL o8 hek) (rJ hL hdi hdk) (fun j hj=>by simp at hj)
           · refine run_convert_bytes_back w _ _ _ ⟨b,o,none⟩ c bs (bZ hL hsi hsk) (yV hL o8 hek) (rJ hL hdi hdk) (fun j hj=> ?_)
             rw[Addr.add_lit]
             exact hcell j _ (hcells j hj)
       · exact h.elim
     · exact h.elim
   · rename_i e id hsk hdk
     split at h
     · rename_i ee s n sc f hfo
       split at h
       · rename_i ei o8
         split at h
         · rename_i hek
           obtain⟨bs,hn,hf,hk⟩:=h
           refine⟨_,.string ⟨bs.toArray⟩,hk,rfl, ?_⟩
           obtain⟨us,hown,hs0,hfl,hsc,ha⟩:=R.objs _ (ay hfo)
           have hown:w.ownsRow 0 ee s (ρ id) n us:=hown
           have ha:aI (PC w (aK g w ρ st.heap)) (flat n f) us:=ha
           subst hn
           have hcells:=vF (fun y u h=>by cases h;rfl) ha rfl hf
           have hxv:xv=ρ id:=(C2.jQ hx).trans (gU hown)
           rcases hown.2 with⟨hv,hz⟩|⟨b,cap,cur,hv,_⟩
           · have hb:bs=[]:=List.eq_nil_of_length_eq_zero hz
             subst hb
             rw[hxv,hv,run_convert_bytes_string w _ _ _ none 0 0 (bZ hL hsi hsk) (yV hL o8 hek) (rJ hL hdi hdk)]
             rfl
           · rw[hxv,hv]
             refine run_convert_bytes_back w _ _ _ ⟨b,0,none⟩ cap bs (bZ hL hsi hsk) (yV hL o8 hek) (rJ hL hdi hdk) (fun j hj=> ?_)
             exact hown.cells (g:=b) (by rw[hv];rfl) j _ (hcells j hj)
         · exact h.elim
       · exact h.elim
     · exact h.elim
   · exact h.elim
 · exact h.elim
end
end
section
open Go.RowKit
def Rd (w:World) (B size:Nat) (A:Option Addr) (n:Nat) (xs:List Value):Prop:=
 xs.length=n*size∧(0<n→ ∃b o,A=some ⟨b,o,none⟩∧b<B∧ ∀j u,xs[j]? =some u→w.cell? ⟨b,o+j,none⟩=some u)
section
variable {w w':World} {B B' size n:Nat} {A:Option Addr} {xs:List Value}
theorem Rd.nil:Rd w B size A 0 []:=⟨by simp,fun h=>absurd h (by omega)⟩
theorem Rd.keep (h:Rd w B size A n xs) (hk: ∀p:Addr,p.block<B→w'.cell? p=w.cell? p):Rd w' B size A n xs:=
 ⟨h.1,fun hn=>let⟨b,o,e,hb,hc⟩:=h.2 hn;⟨b,o,e,hb,fun j u hu=>(hk _ hb).trans (hc j u hu)⟩⟩
theorem Rd.more (h:Rd w B size A n xs) (hB:B≤B'):Rd w B' size A n xs:=
 ⟨h.1,fun hn=>let⟨b,o,e,hb,hc⟩:=h.2 hn;⟨b,o,e,by omega,hc⟩⟩
theorem Rd.below (h:Rd w B size A n xs) (hb:Below B w w'):Rd w' B size A n xs:=h.keep fun _ hp=>hb.cell hp
theorem Rd.to (h:Rd w B size A n xs) (hb:Below B w w') (hB:B≤w'.heap.size):Rd w' w'.heap.size size A n xs:=(h.below hb).more hB
theorem Rd.drew (h:Rd w B size A n xs):Rd w.drew B size A n xs:=h
theorem Rd.alloc (h:Rd w B size A n xs) (hB:B≤w.heap.size) (o:Obj):Rd (w.alloc o) B size A n xs:=h.keep fun p hp=>World.cell?_alloc_lt w o p (by omega)
theorem Rd.setCell (h:Rd w B size A n xs) {p:Addr} (hB:B≤p.block) (u:Value):Rd (w.setCell p u) B size A n xs:=
 h.keep fun q hq=>World.cell?_setCell_other w p q u (fun e=>by subst e;omega)
theorem Rd.grown (h:Rd w B size A n xs) {row:Option Nat} (hg:w.grownBy w' row) (hB:B≤w.heap.size) (hr: ∀g,row=some g→B≤g):Rd w' B size A n xs:=
 h.keep fun p hp=>World.cell?_of_block (hg.block p.block (by omega) (fun e=>by have:=hr _ e.symm;omega))
theorem Rd.cut (h:Rd w B size A n xs) {k cap:Nat} (hk:k≤n) (hc:n≤cap):
  Rd w B size (if cap=k then A else A.map (·.add (k*size))) (n-k) (xs.drop (k*size)):=by
 refine⟨by rw[List.length_drop,h.1,Nat.sub_mul],fun hn=> ?_⟩
 obtain⟨b,o,rfl,hb,hcell⟩:=h.2 (by omega)
 rw[if_neg (by omega)]
 refine⟨b,o+k*size,by simp[Addr.add_lit],hb,fun j u hu=> ?_⟩
 rw[Nat.add_assoc]
 exact hcell _ u (by rw[←hu,List.getElem?_drop])
theorem Rd.first (h:Rd w B size A n xs) {k:Nat} (hk:k≤n):Rd w B size A k (xs.take (k*size)):=by
 refine⟨by rw[List.length_take,h.1];exact Nat.min_eq_left (Nat.mul_le_mul_right _ hk),fun hn=> ?_⟩
 obtain⟨b,o,e,hb,hcell⟩:=h.2 (by omega)
 refine⟨b,o,e,hb,fun j u hu=>hcell j u ?_⟩
 rw[List.getElem?_take]at hu
 split at hu
 · exact hu
 · cases hu
theorem Rd.at1 {k:Nat} (h:Rd w B 1 A n xs) (hk:k<n): ∃b o,∃hl:k<xs.length,A=some ⟨b,o,none⟩∧b<B∧w.cell? ⟨b,o+k,none⟩=some xs[k]:=by
 obtain⟨b,o,e,hb,hc⟩:=h.2 (by omega)
 have hl:k<xs.length:=by have:=h.1;omega
 exact⟨b,o,hl,e,hb,hc k _ (List.getElem?_eq_getElem hl)⟩
end
theorem yL (b:Nat) (t:TypeId): ∀ (vs:List Value) (o:Nat) (w:World) (cur:Array Value),w.heap[b]? =some (.cells cur t (0,0))→o+vs.length≤cur.size→
  (w.setCells b o vs).heap[b]? =some (.cells (cur.toList.take o++vs++cur.toList.drop (o+vs.length)).toArray t (0,0))
  |[],o,w,cur,h,_=>by simpa[World.setCells]using h
  | v::r,o,w,cur,h,hl=>by
    have h1:(w.setCell ⟨b,o,none⟩ v).heap[b]? =some (.cells (cur.setIfInBounds o v) t (0,0)):=heap_setCell_same w b o cur t v h
    rw[World.setCells,yL b t r (o+1) _ _ h1 (by simp at hl⊢;omega)]
    have e:=list_seg_step cur.toList o v r (by simp at hl⊢;omega)
    simp only[Array.toList_setIfInBounds]
    rw[e]
    rfl
theorem vG (b:Nat): ∀ (vs:List Value) (o:Nat) (w:World) (k:Nat),k≠b→(w.setCells b o vs).heap[k]? =w.heap[k]?
  |[],_,_,_,_=>rfl
  |v::r,o,w,k,hk=>by rw[World.setCells,vG b r (o+1) _ k hk,Below.heap_setCell _ _ _ _ hk]
theorem yM (b:Nat): ∀ (vs:List Value) (o:Nat) (w:World),(w.setCells b o vs).os=w.os∧(w.setCells b o vs).tape=w.tape∧(w.setCells b o vs).output=w.output∧(w.setCells b o vs).heap.size=w.heap.size
  |[],_,_=>⟨rfl,rfl,rfl,rfl⟩
  | v::r,o,w=>by
    obtain⟨h1,h2,h3,h4⟩:=yM b r (o+1) (w.setCell ⟨b,o,none⟩ v)
    exact⟨h1,h2,h3,h4.trans (by simp[World.setCell])⟩
section
variable {P:Program} (w:World)
theorem mJ (base:Nat) (t tx ty e:TypeId) (i:TypeInfo) (z:Value) (size bytes:Nat) (ht:P.underlying t=some (.slice e)) (hi:P.info? e=some i) (hz:i.zero=some z)
  (hsize:i.size=size) (hby:i.bytes=bytes) (hzs:z.cells.size=size)
  (v:Value) (n:Nat) (xs:List Value) (hown:w.ownsRow base e size v n xs)
  (X:Value) (m:Nat) (news:List Value) (hsrc:Src P size tx X m news w)
  (h63:n+m≤maxLen) (hbytes:(n+m)*bytes≤140737488355328) (hbase:base≤w.heap.size):
  ∃v' w',(Builtin.append_ #[t,tx] ty #[v,X]).run P w= .ok v' w'∧w'.ownsRow base e size v' (n+m) (xs++news)∧w.grownBy w' v.ownBlock∧
   (v'.ownBlock=v.ownBlock∨v'.ownBlock=some w.heap.size):=by
 subst hsize
 subst hby
 have hsmall:n+m≤9223372036854775807:=by simp only[maxLen]at h63;omega
 have hlen:(xs++news).length=(n+m)*i.size:=by rw[List.length_append,hown.1,hsrc.newsLen,Nat.add_mul]
 have grown: ∀ (old:Nat),old<n+m→ ∀ (row:Option Nat),
   (w.drew.alloc (.cells ((xs++news).toArray++Builtin.zeroCells z.cells (grownCap w (n+m) old e-(n+m))) e)).ownsRow base e i.size
    (.slice (some ⟨w.heap.size,0,none⟩) (n+m) (grownCap w (n+m) old e)) (n+m) (xs++news)∧
   w.grownBy (w.drew.alloc (.cells ((xs++news).toArray++Builtin.zeroCells z.cells (grownCap w (n+m) old e-(n+m))) e)) row:=by
  intro old ho row
  have hge:=grownCap_ge w (n+m) old e
  have hcm:grownCap w (n+m) old e≤maxLen:=grownCap_le_maxLen w (n+m) old e h63
  refine⟨⟨hlen,.inr ⟨w.heap.size,_,_,rfl,hbase,heap_alloc_new w.drew _,hge,hcm, ?_, ?_⟩⟩,⟨rfl,rfl,rfl,by simp,fun k hk _=>Below.heap_alloc w.drew _ k hk⟩⟩
  · simp only[Array.size_append,List.size_toArray,size_zeroCells,hzs,hlen,←Nat.add_mul]
    congr 1
    omega
  · simp only[Array.toList_append]
    rw[←hlen]
    exact List.take_left
 rcases hown.2 with⟨rfl,rfl⟩|⟨g,cap,cur,rfl,hbg,hg,hnc,hcm,hcs,htake⟩
 · have hx:xs=[]:=List.eq_nil_of_length_eq_zero (by simpa using hown.1)
   subst hx
   by_cases hm:m=0
   · subst hm
     have hn:news=[]:=List.eq_nil_of_length_eq_zero (by simpa using hsrc.newsLen)
     subst hn
     refine⟨.slice none 0 0,w, ?_,World.ownsRow_nil w base e i.size,⟨rfl,rfl,rfl,Nat.le_refl _,fun _ _ _=>rfl⟩,.inl rfl⟩
     rcases hsrc.kind with⟨e',hk⟩|hk<;>simp[Builtin.append_,run_underlying ht,run_underlying hk,sizeOf,typeInfo,hi,hsrc.len,hsrc.cells]
   · have hr:=run_append_grow_src (P:=P) w t tx ty e i z ht hi hz none 0 0 [] (by simp[Builtin.firstCells]) X m news hsrc (by omega) (by omega) (growslice_fits (by omega) hbytes)
     have hgr:=grown 0 (by omega) (Value.ownBlock (.slice none 0 0))
     simp only[Nat.zero_add,List.nil_append]at hgr hr⊢
     exact⟨_,_,hr,hgr.1,hgr.2,.inr rfl⟩
 · by_cases hroom:n+m≤cap
   · have hfit:n*i.size+news.length≤cur.size:=by rw[hsrc.newsLen,hcs,←Nat.add_mul];exact Nat.mul_le_mul_right _ hroom
     have hr:=run_append_room_src (P:=P) w t tx ty e i ht hi g 0 n cap X m news hsrc hroom
      (fun j hj=>by rw[cell_of_row w g _ cur e (0,0) hg,Array.getElem?_eq_getElem (by omega)];rfl) (fun j hj=>frozen_of_row w g _ cur e hg)
     obtain⟨m1,m2,m3,m4⟩:=yM g news (0+n*i.size) w
     refine⟨_,_,hr,⟨hlen,.inr ⟨g,cap,_,rfl,hbg,yL g e news (0+n*i.size) w cur hg (by omega),hroom,hcm, ?_, ?_⟩⟩,⟨m1,m2,m3,by omega,fun k _ hk=>vG g news _ w k (fun e=>hk (by simp[Value.ownBlock,e]))⟩,.inl rfl⟩
     · simp only[List.size_toArray,List.length_append,List.length_take,List.length_drop,Array.length_toList]
       omega
     · rw[Nat.zero_add,htake,←hlen]
       exact List.take_left
   · have holds: ∀j u,xs[j]? =some u→w.cell? ((⟨g,0,none⟩:Addr).add j)=some u:=hown.cells (g:=g) rfl
     have hf:=run_firstCells_some (P:=P) w.drew i.size n ⟨g,0,none⟩ n cap xs hown.1 (by simpa using holds)
     have hr:=run_append_grow_src (P:=P) w t tx ty e i z ht hi hz (some ⟨g,0,none⟩) n cap xs hf X m news hsrc (by omega) (by omega) (growslice_fits (by omega) hbytes)
     have hgr:=grown cap (by omega) (Value.ownBlock (.slice (some ⟨g,0,none⟩) n cap))
     exact⟨_,_,hr,hgr.1,hgr.2,.inr rfl⟩
theorem Rd.src {B size n c:Nat} {A:Option Addr} {xs:List Value} {tx e':TypeId} {w:World} (h:Rd w B size A n xs) (hk:P.underlying tx=some (.slice e')) (h1: ∀u∈xs,u.oneCell'=true):Src P size tx (.slice A n c) n xs w:=by
 rcases Nat.eq_zero_or_pos n with rfl|hn
 · have hx:xs=[]:=List.eq_nil_of_length_eq_zero (by simpa using h.1)
   subst hx
   cases A with
   |none=>exact Src.ofNil w hk c
   |some a=>exact Src.ofSlice w hk a 0 c [] (by simp) (by simp) h1
 · obtain⟨b,o,rfl,_,hc⟩:=h.2 hn
   exact Src.ofSlice w hk ⟨b,o,none⟩ n c xs h.1 (fun j u hu=>by rw[Addr.add_lit];exact hc j u hu) h1
end
theorem xE {k:IntKind} {a b:Int} (h:a=b):Ending.returned (.int k a)= .returned (.int k b):=by rw[h]
def bV (b:UInt8):Value:= .int .u8 b.toNat
end
end Go.Proofs.YtimhagicagdkfaaGreat
