/-
  Contracts of the walk:NdM,NdP,NdQ,NdR,NeP,FrV,FrmF,FrmG,FrW,NdV,SlD,SlG,InT.
-/
import Derived.Test.YtimhagicagdkfaaGreatNh24
import Derived.Test.YtimhagicagdkfaaGreatNh12
import Derived.Test.YtimhagicagdkfaaGreatNh13
import Derived.Test.YtimhagicagdkfaaGreatNh15
import Derived.Test.YtimhagicagdkfaaGreatNh11
import Derived.Test.YtimhagicagdkfaaGreatNh9
import Derived.WalkKit
import Derived.Deep.RegionLaw
import Derived.Lib.Walk
import Derived.Lib.SliceRun
import Derived.Lib.LazyBuf
import Derived.Lib.AppendZerosOnto
set_option maxHeartbeats 16000000
set_option maxRecDepth 100000
set_option linter.unusedVariables false
set_option linter.unusedSimpArgs false
namespace Go.Proofs.YtimhagicagdkfaaGreat
section
open Go.RowKit
theorem DF {c:aW} {r:Nat} (hr:r<5) {v:Ev} (h1:v.r=(r:Int)) (h2:v.n=c.at r+1) (h3:v.c.le c=true) (h0:0≤c.at r):mg c [v]=([v],[],c.inc r):=by
 have hh:hasB c v.r v.n=false:=by
  unfold hasB
  rw[h1,h2]
  refine decide_eq_false fun h=>?_
  have:c.get (r:Int)=c.at r:=by
   rcases(show r=0∨r=1∨r=2∨r=3∨r=4 by omega)with rfl|rfl|rfl|rfl|rfl<;>rfl
  omega
 have hw:mM c [v]=[v]:=by
  unfold mM
  rw[List.foldl_cons,List.foldl_nil]
  unfold rP
  rw[hh]
  rfl
 have hn:tX c [v]=some v:=by
  refine JV hr (fun q hq=>?_) ?_
  · unfold tV JU
    rw[List.find?_cons,show decide (v.r=(q:Int)∧v.n=c.at q+1)=false from decide_eq_false fun h=>by omega]
    rfl
  · unfold tV JU
    rw[List.find?_cons,show decide (v.r=(r:Int)∧v.n=c.at r+1)=true from decide_eq_true ⟨h1,h2⟩]
    exact if_pos ⟨by omega,h3⟩
 have hm:EC [v] v=[]:=by simp[EC]
 unfold mg
 rw[hw]
 show YN 1 c [v] []=_
 unfold YN
 rw[hn]
 dsimp only
 rw[hm,h1,Int.toNat_natCast]
 rfl
theorem KH {bs:List UInt8} {l:List Rc} {x:Rc} (h:Dt bs l []) (hx:iI x=true):Dt (bs++aB x) (l++[x]) []:=by
 have e:=h.eq
 rw[List.append_nil]at e
 refine⟨fun r hr=>?_, ?_,DC⟩
 · rcases List.mem_append.1 hr with hr|hr
   · exact h.may r hr
   · rw[List.mem_singleton.1 hr];exact hx
 · rw[e,List.append_nil,J6]
theorem KI {bs:List UInt8} {l:List Rc} {x:Rc} (h:Dt bs l []) (hx:iI x=true) {i:Nat} (hi:i<(aB x).length):Dt (bs++(aB x).take i) l ((aB x).take i):=by
 have e:=h.eq
 rw[List.append_nil]at e
 exact⟨h.may,by rw[e],WQ x hx i hi⟩
theorem abL:Dt [] [] []:=⟨by simp,rfl,DC⟩
def Z4:mQ:=⟨2,1,4,4,4,3⟩
def Z5:ByteArray:=⟨#[99,121]⟩
def ed1:Ed:=⟨1,Z5,0,⟨#[]⟩⟩
def ed2:Ed:=⟨2,Z5,0,⟨#[]⟩⟩
def yO:Ev:=⟨1,1,bY,1,1,Z5,0,⟨#[]⟩⟩
def nv2:Ev:=⟨1,2,⟨0,1,0,0,0⟩,2,2,Z5,0,⟨#[]⟩⟩
def UJ:Rc:=⟨1,1,0,bY,[yO]⟩
def rc2:Rc:=⟨1,1,0,bY,[nv2]⟩
def nS1:Nd:=⟨Z4,1,true,⟨aB UJ,false,false,0⟩,[yO],0,⟨0,1,0,0,0⟩,[],[yO]⟩
def nS2:Nd:=⟨Z4,1,true,⟨aB UJ,false,true,3⟩,[yO],0,⟨0,1,0,0,0⟩,[],[yO]⟩
def nS3:Nd:=⟨Z4,1,false,⟨aB UJ++(aB rc2).take 3,true,false,3⟩,[yO],0,⟨0,1,0,0,0⟩,[],[yO]⟩
def nS4:Nd:=⟨Z4,1,true,⟨kY [UJ],false,false,3⟩,[yO],0,⟨0,1,0,0,0⟩,[],[yO]⟩
theorem UK {e:Ev} (h1:aO e e=false) (h2:1≤e.k∧e.k≤5):Ci (lJ (eqK e.key) []) e:=⟨fun x hx=>(by cases hx),fun x hx=>(by cases hx),h1,fun x hx=>(by cases hx),h2,fun x hx=>(by cases hx)⟩
theorem Kq.mk' {P:List Ev} (one:um P) (hi: ∀a∈P,∀b∈P,aO a b=true→a.h<b.h) (tr: ∀a∈P,∀b∈P,∀c∈P,aO a b=true→aO b c=true→aO a c=true) (key:ByteArray):Kq (lJ (eqK key) P) key:=by
 have hs: ∀x∈lJ (eqK key) P,x∈P:=fun x hx=>(List.mem_filter.1 hx).1
 exact⟨HY,fun a ha b hb=>one a (hs a ha) b (hs b hb),fun a ha b hb=>hi a (hs a ha) b (hs b hb),fun a ha b hb c hc=>tr a (hs a ha) b (hs b hb) c (hs c hc)⟩
theorem abM (key:ByteArray):Kq (lJ (eqK key) []) key:=Kq.mk' (fun a ha=>by cases ha) (fun a ha=>by cases ha) (fun a ha=>by cases ha) key
theorem UL {e:Ev} (h:aO e e=false) (key:ByteArray):Kq (lJ (eqK key) [e]) key:=
 Kq.mk' (fun a ha b hb _=>by rw[List.mem_singleton.1 ha,List.mem_singleton.1 hb]) (fun a ha b hb hq=>by rw[List.mem_singleton.1 ha,List.mem_singleton.1 hb,h]at hq;cases hq)
  (fun a ha b hb c hc hq _=>by rw[List.mem_singleton.1 ha,List.mem_singleton.1 hc,h];rw[List.mem_singleton.1 ha,List.mem_singleton.1 hb,h]at hq;cases hq) key
theorem UM:nU []=[]:=by rw[of_same (l:=[]) (key:=Z5) (fun x hx=>by cases hx)];rfl
theorem EZ:nU [yO]=[fJ Z5 (bI [yO] (aG [yO]))]:=by
 rw[of_same (l:=[yO]) (key:=Z5) (fun x hx=>by rw[List.mem_singleton.1 hx];rfl)]
 rw[if_neg (fun h=>absurd (show(aG [yO]).length=0 by rw[h];rfl) (by decide))]
theorem KJ (A:List Ev):(valsF A).length≤A.length:=by
 unfold valsF
 refine Nat.le_trans (uN _) ?_
 unfold sortL
 rw[List.length_mergeSort,List.length_map]
 exact Nat.le_refl _
theorem P6 (key:ByteArray) (l:Int) (ws:List Ev):(eF key l ws).length≤ws.length:=List.length_filter_le ..
theorem UN (P:List Ev) (hP:P.length≤1000000): ∀x∈nU P,x.s0.length≤1000000∧x.s1.length≤1000000:=fun x hx=>by
 unfold nU at hx
 obtain⟨k,_,rfl⟩:=List.mem_map.1 hx
 have hc:(bI P (aG P)).length≤P.length:=List.length_filter_le ..
 exact⟨Nat.le_trans (Nat.le_trans (KJ _) (P6 _ _ _)) (by omega),Nat.le_trans (Nat.le_trans (KJ _) (P6 _ _ _)) (by omega)⟩
theorem abN (q:Nat):bY.at q=0:=by
 match q with
 |0=>rfl
 |1=>rfl
 |2=>rfl
 |3=>rfl
 |_+4=>rfl
theorem ae3 (c:mQ) (r:Nat) (hr:r<5):NdB (nd0 c r) where
 r:=hr
 ic q:=by show 0≤bY.at q∧bY.at q≤1000000;rw[abN];decide
 pst:=abM
 len:=Nat.zero_le _
 hh e he:=by cases he
 cs x hx:=by rw[show nU (nd0 c r).log=[]from UM]at hx;cases hx
 bs:=Nat.zero_le _
 wl:=Nat.zero_le _
 sent:=⟨Int.le_refl _,by show(0:Int)≤1000000;decide⟩
 wn j:=by show 0≤(([]:List Ev).getD j default).n∧(([]:List Ev).getD j default).n≤1000000;rw[List.getD_nil];decide
end
section
open Go.RowKit
def jD (r:Nat) (x:Int):aW:=⟨if r=0 then x else 0,if r=1 then x else 0,if r=2 then x else 0,if r=3 then x else 0,if r=4 then x else 0⟩
def ji (r m:Nat) (e:Ed):Ev:=⟨r,(m:Int)+1,jD r m,(m:Int)+1,e.k,e.key,e.l,e.v⟩
structure Own (r:Nat) (L:List Ev):Prop where
 at_: ∀j,j<L.length→L.getD j default=ji r j (L.getD j default).ed
 ok: ∀e∈L,jJ e.ed=0
theorem abO {C:Nat→Prop} {r:Nat} (hr:r<5) (h0:C 0) (h1:C 1) (h2:C 2) (h3:C 3) (h4:C 4):C r:=by
 rcases(show r=0∨r=1∨r=2∨r=3∨r=4 by omega)with rfl|rfl|rfl|rfl|rfl<;>assumption
theorem P7 {r:Nat} (hr:r<5) (x:Int):(jD r x).get (r:Int)=x:=abO (C:=fun r=>(jD r x).get (r:Int)=x) hr rfl rfl rfl rfl rfl
theorem Na {r:Nat} (hr:r<5) (x:Int):(jD r x).at r=x:=abO (C:=fun r=>(jD r x).at r=x) hr rfl rfl rfl rfl rfl
theorem P8 {r:Nat} (hr:r<5) (x:Int):(jD r x).inc r=jD r (x+1):=abO (C:=fun r=>(jD r x).inc r=jD r (x+1)) hr rfl rfl rfl rfl rfl
theorem Z7 {r:Nat} (hr:r<5):jD r 0=bY:=abO (C:=fun r=>jD r 0=bY) hr rfl rfl rfl rfl rfl
theorem Z8 {r:Nat} {x:Int} (hx:0≤x) (q:Nat):0≤(jD r x).at q∧(jD r x).at q≤x:=by
 unfold jD
 match q with
 |0=>simp only[aW.at];split<;>omega
 |1=>simp only[aW.at];split<;>omega
 |2=>simp only[aW.at];split<;>omega
 |3=>simp only[aW.at];split<;>omega
 |_+4=>simp only[aW.at];split<;>omega
theorem UO {r:Nat} (hr:r<5) (m i:Nat):hasB (jD r m) r ((i:Int)+1)=decide (i<m):=by
 unfold hasB
 rw[P7 hr]
 exact decide_eq_decide.2 ⟨fun h=>by omega,fun h=>by omega⟩
theorem qU {r:Nat} (hr:r<5) (m i:Nat) (x y:Ed):aO (ji r i x) (ji r m y)=decide (i<m):=UO hr m i
theorem kR {r:Nat} {L:List Ev} (h:Own r L) {e:Ev} (he:e∈L): ∃i,i<L.length∧e=ji r i e.ed∧L.getD i default=e:=by
 obtain⟨i,hi,rfl⟩:=List.getElem_of_mem he
 have hg:L.getD i default=L[i]:=by simp[List.getD,hi]
 exact⟨i,hi,by have:=h.at_ i hi;rwa [hg]at this,hg⟩
theorem Own.nil (r:Nat):Own r []:=⟨fun j hj=>absurd hj (Nat.not_lt_zero j),fun e he=>by cases he⟩
theorem Own.snoc {r:Nat} {L:List Ev} (h:Own r L) {e:Ed} (he:jJ e=0):Own r (L++[ji r L.length e]):=by
 refine⟨fun j hj=>?_,fun x hx=>?_⟩
 · rw[List.length_append]at hj
   by_cases hl:j<L.length
   · rw[show(L++[ji r L.length e]).getD j default=L.getD j default by simp[List.getD,List.getElem?_append_left hl]]
     exact h.at_ j hl
   · obtain rfl:j=L.length:=by have:j<L.length+1:=hj;omega
     rw[show(L++[ji r L.length e]).getD L.length default=ji r L.length e by simp[List.getD]]
     rfl
 · rcases List.mem_append.1 hx with hx|hx
   · exact h.ok x hx
   · rw[List.mem_singleton.1 hx];exact he
theorem DI {e:Ed} (h:jJ e=0):1≤e.k∧e.k≤5:=by
 unfold jJ at h
 split at h
 · omega
 · omega
theorem UQ {r:Nat} (hr:r<5) {L:List Ev} (h:Own r L) {e:Ed} (he:jJ e=0):Ci (lJ (eqK (ji r L.length e).key) L) (ji r L.length e):=by
 have hs: ∀ {key:ByteArray} {x:Ev},x∈lJ (eqK key) L→x∈L:=fun hx=>(List.mem_filter.1 hx).1
 refine⟨HY,fun x hx=>?_, ?_,fun a ha b hb _ _=>?_,DI he,fun x hx=>?_⟩
 · obtain⟨i,hi,hx,_⟩:=kR h (hs hx)
   rw[hx,qU hr]
   exact decide_eq_false (by omega)
 · rw[qU hr]
   exact decide_eq_false (by omega)
 · obtain⟨i,hi,ha,_⟩:=kR h (hs ha)
   rw[ha,qU hr]
   exact decide_eq_true hi
 · exact DI (h.ok x (hs hx))
theorem abP {r:Nat} (hr:r<5) {L:List Ev} (h:Own r L) (key:ByteArray):Kq (lJ (eqK key) L) key:=by
 refine Kq.mk' (fun a ha b hb hq=>?_) (fun a ha b hb hq=>?_) (fun a ha b hb c hc h1 h2=>?_) key
 · obtain⟨i,hi,ea,ga⟩:=kR h ha
   obtain⟨j,hj,eb,gb⟩:=kR h hb
   rw[ea,eb]at hq
   have:(i:Int)+1=(j:Int)+1:=congrArg Prod.fst hq
   obtain rfl:i=j:=by omega
   rw[←ga,←gb]
 · obtain⟨i,hi,ea,ga⟩:=kR h ha
   obtain⟨j,hj,eb,gb⟩:=kR h hb
   rw[ea,eb,qU hr]at hq
   have:=of_decide_eq_true hq
   rw[ea,eb]
   show(i:Int)+1<(j:Int)+1
   omega
 · obtain⟨i,hi,ea,ga⟩:=kR h ha
   obtain⟨j,hj,eb,gb⟩:=kR h hb
   obtain⟨k,hk,ec,gc⟩:=kR h hc
   rw[ea,eb,qU hr]at h1
   rw[eb,ec,qU hr]at h2
   have:=of_decide_eq_true h1
   have:=of_decide_eq_true h2
   rw[ea,ec,qU hr]
   exact decide_eq_true (by omega)
theorem UR {r:Nat} (hr:r<5) {L:List Ev} (h:Own r L) (m:Nat): ∀j,j≤L.length→j≤m→GK (jD r m) (L.take j)=((j:Int),decide (0<j))
  |0,_,_=>by rw[List.take_zero];rfl
  | j+1,hj,hm=>by
    unfold GK
    rw[ql hj]
    rw[show(L.take j).foldl (pK (jD r m)) (0,false)=((j:Int),decide (0<j))from UR hr h m j (by omega) (by omega)]
    rw[h.at_ j hj]
    unfold pK
    rw[show hasB (jD r m) (ji r j (L.getD j default).ed).r (ji r j (L.getD j default).ed).n=true from(UO hr m j).trans (decide_eq_true (by omega))]
    rw[if_pos (by rw[Bool.true_and,Bool.or_eq_true];exact .inr (decide_eq_true (by show(j:Int)<(j:Int)+1;omega)))]
    rw[show decide (0<j+1)=true from decide_eq_true (by omega)]
    show(((j:Int)+1),true)=_
    rw[show(((j+1:Nat):Int))=(j:Int)+1 by omega]
theorem Il {r:Nat} (hr:r<5) {L:List Ev} (h:Own r L):hgt L (jD r L.length)=(L.length:Int)+1:=by
 unfold hgt
 have:=UR hr h L.length L.length (Nat.le_refl _) (Nat.le_refl _)
 rw[List.take_length]at this
 rw[this]
theorem abQ {r:Nat} {L:List Ev} (h:Own r L) {q:Int} (hq:(L.length:Int)<q) (e:Ed):Mc q 0 L (ji r L.length e)=(L++[ji r L.length e],0):=by
 unfold Mc yu
 rw[if_neg (by omega)]
 by_cases h0:L.length=0
 · rw[if_pos h0,if_pos (by show(L.length:Int)+1=0+1;omega)]
 · rw[if_neg h0,h.at_ (L.length-1) (by omega),if_pos (by show(L.length:Int)+1=((L.length-1:Nat):Int)+1+1;omega)]
theorem aW.le_refl (c:aW):c.le c=true:=decide_eq_true ⟨Int.le_refl _,Int.le_refl _,Int.le_refl _,Int.le_refl _,Int.le_refl _⟩
theorem WR {r:Nat} (hr:r<5) (m:Nat) (e:Ed):mg (jD r m) [ji r m e]=([ji r m e],[],(jD r m).inc r):=
 DF hr rfl (by rw[Na hr];rfl) (aW.le_refl _) (by rw[Na hr];omega)
theorem Nb {r:Nat} (hr:r<5) {m:Nat} (hm:m≤1000000) {e:Ed} (he:jJ e=0):eG (ji r m e)=0:=by
 have hk: ∀x:Int,0≤x→x≤1000001→nV x=true:=fun x h1 h2=>by unfold nV fQ;rw[decide_eq_true h1,decide_eq_true (by omega)];rfl
 have h0: ∀b:Prop,∀ [Decidable b],nV (if b then(m:Int)else 0)=true:=fun b _=>by split<;>exact hk _ (by omega) (by omega)
 unfold eG
 rw[if_neg,if_neg,if_neg]
 · exact he
 · show¬ ((jD r m).get (r:Int) !=((m:Int)+1)-1)=true
   rw[P7 hr]
   simp
 · show¬ (!(nV (if r=0 then(m:Int)else 0)&&nV (if r=1 then(m:Int)else 0)&&nV (if r=2 then(m:Int)else 0)&&nV (if r=3 then(m:Int)else 0)&&nV (if r=4 then(m:Int)else 0)))=true
   rw[h0,h0,h0,h0,h0]
   simp
 · show¬ (!(fQ (r:Int) 0 4&&fQ ((m:Int)+1) 1 1048576&&fQ ((m:Int)+1) 1 16777216))=true
   unfold fQ
   rw[decide_eq_true (show(0:Int)≤r by omega),decide_eq_true (show(r:Int)≤4 by omega),decide_eq_true (show(1:Int)≤(m:Int)+1 by omega),decide_eq_true (show(m:Int)+1≤1048576 by omega),decide_eq_true (show(m:Int)+1≤16777216 by omega)]
   simp
end
section
open Go.RowKit
def zf (r:Nat) (v:Ev):Rc:=⟨1,r,0,bY,[v]⟩
def BU (r:Nat) (L:List Ev):List UInt8:=L.flatMap fun v=>aB (zf r v)
def mV (c:mQ) (r:Nat) (L:List Ev):Nd:=⟨c,r,true,⟨BU r L,false,false,0⟩,L,0,jD r L.length,[],L⟩
theorem aeo (c:mQ) {r:Nat} (hr:r<5):mV c r []=nd0 c r:=by
 unfold mV nd0
 rw[show jD r ((([]:List Ev).length:Nat):Int)=bY from Z7 hr]
 rfl
theorem E5 {r:Nat} (hr:r<5) {v:Ev} (hv:eG v=0):iI (zf r v)=true:=by
 unfold iI zf
 dsimp only
 rw[decide_eq_true (show(0:Int)≤r by omega),decide_eq_true (show(r:Int)<5 by omega)]
 simp only[List.all_cons,List.all_nil,hv,decide_true,List.length_singleton,Bool.and_true]
 first|rfl|decide+revert
theorem Io {r:Nat} (hr:r<5): ∀ {L:List Ev},(∀e∈L,eG e=0)→(BU r L).length≤200100*L.length
  |[],_=>Nat.zero_le _
  | v::L,h=>by
    have h1:=jC (zf r v) (E5 hr (h v List.mem_cons_self))
    have h2:=Io hr (L:=L) fun e he=>h e (List.mem_cons_of_mem _ he)
    unfold BU at*
    rw[List.flatMap_cons,List.length_append,List.length_cons]
    omega
theorem xG {r:Nat} (hr:r<5) {L:List Ev} (h:Own r L) (hl:L.length≤1000000): ∀e∈L,eG e=0:=fun e he=>by
 obtain⟨i,hi,e1,_⟩:=kR h he
 rw[e1]
 exact Nb hr (by omega) (h.ok e he)
theorem acr {c:mQ} {r:Nat} (hr:r<5) {L:List Ev} (h:Own r L) (hl:L.length≤30):NdB (mV c r L) where
 r:=hr
 ic q:=by have:=Z8 (r:=r) (x:=L.length) (by omega) q;exact⟨this.1,by show(jD r L.length).at q≤1000000;omega⟩
 pst:=abP hr h
 len:=by show L.length≤_;omega
 hh e he:=by
  obtain⟨i,hi,e1,_⟩:=kR h he
  rw[e1]
  show 0≤(i:Int)+1∧(i:Int)+1≤1000000
  omega
 cs:=UN L (by omega)
 bs:=by
  have:=Io hr (xG hr h (by omega))
  show(BU r L).length≤100000000
  omega
 wl:=by show L.length≤_;omega
 sent:=⟨Int.le_refl _,(by decide:(0:Int)≤1000000)⟩
 wn j:=by
  show 0≤(L.getD j default).n∧(L.getD j default).n≤1000000
  by_cases hj:j<L.length
  · rw[h.at_ j hj]
    show 0≤(j:Int)+1∧(j:Int)+1≤1000000
    omega
  · rw[show L.getD j default=default by simp[List.getD,hj]]
    decide
def BX (c:mQ) (r:Nat) (L:List Ev) (e:Ed):List Ev×Ev×Int:=
 if l9 c.l c.p (nU L) e≠0 then(L,KG,l9 c.l c.p (nU L) e)else if(L.length:Int)<c.q then(L++[ji r L.length e],ji r L.length e,0)else(L,KG,17)
theorem Z9 {c:mQ} {r:Nat} (hr:r<5) {L:List Ev} (h:Own r L) (hl:L.length≤30) {e:Ed} (he:jJ e=0) {L':List Ev} {v:Ev} {x:Int} (hs:BX c r L e=(L',v,x)):
  aV Tryz.prog 22 [(0,.obs (gX (mV c r L)))] [.box 0 0,e.av] (.dF [v.av,.v (.int .i64 x)]) [(0,.obs (gX (mV c r L')))]:=by
 have hB:=acr (c:=c) hr h hl
 unfold BX at hs
 by_cases hc:l9 c.l c.p (nU L) e=0
 · rw [if_neg (by simp[hc])]at hs
   by_cases hq:(L.length:Int)<c.q
   · rw[if_pos hq]at hs
     cases hs
     have hH:hgt (mV c r L).log (mV c r L).ic=(L.length:Int)+1:=Il hr h
     have hv:iV (mV c r L) e=ji r L.length e:=by
      unfold iV
      rw[hH]
      unfold ji mV
      dsimp only
      rw[Na hr]
     have hm:=Nb hr (m:=L.length) (by omega) he
     have hw:lI (mV c r L).d (aB (zf r (ji r L.length e)))=(⟨BU r (L++[ji r L.length e]),false,false,0⟩,0):=by
      unfold lI mV BU
      rw[if_neg (by simp),if_neg (by simp),List.flatMap_append]
      simp
     have:=Ik (mV c r L) e ⟨BU r (L++[ji r L.length e]),false,false,0⟩ hB rfl hc hq (by rw[hH];omega) (by rw[hv];exact E5 hr hm) (by rw[hv];exact hw) (by rw[hv];exact WR hr L.length e) (by rw[hv];exact abQ h hq e)
      (by rw[hv];exact UQ hr h he) (by rw[hv];exact hm)
     rw[hv]at this
     have e1:(⟨(mV c r L).c,(mV c r L).r,true,⟨BU r (L++[ji r L.length e]),false,false,0⟩,(mV c r L).log++[ji r L.length e],(mV c r L).sent,(mV c r L).ic.inc (mV c r L).r,(mV c r L).held,(mV c r L).wait++[ji r L.length e]⟩:Nd)=mV c r (L++[ji r L.length e]):=by
      unfold mV
      dsimp only
      rw[P8 hr,List.length_append,show((L.length+[ji r L.length e].length:Nat):Int)=(L.length:Int)+1 by simp]
     rw[e1]at this
     exact this
   · rw[if_neg hq]at hs
     cases hs
     exact MZ (mV c r L) e hB rfl hc hq
 · rw[if_pos hc]at hs
   cases hs
   exact SB (mV c r L) e hB rfl _ rfl hc
end
section
open Go.RowKit
instance:Inhabited Ed:=⟨⟨0,⟨#[]⟩,0,⟨#[]⟩⟩⟩
abbrev edF (l:List Ed):Nat→List AV:=qX Ed.cs l
def Ed.rng (e:Ed):Prop:=e.key.size≤140737488355328∧e.v.size≤140737488355328
def qZ (c:mQ) (r:Nat) (l:List Ed):List Ev:=l.foldl (fun L e=>(BX c r L (kU e)).1) []
theorem DJ (c:mQ) (r:Nat) {l:List Ed} {i:Nat} (h:i<l.length):qZ c r (l.take (i+1))=(BX c r (qZ c r (l.take i)) (kU (l.getD i default))).1:=by
 unfold qZ
 rw[ql h]
theorem xH (c:mQ) (r:Nat) (L:List Ev) (e:Ed):(BX c r L e=(L++[ji r L.length e],ji r L.length e,0)∧(L.length:Int)<c.q)∨ ∃x,x≠0∧BX c r L e=(L,KG,x):=by
 unfold BX
 by_cases h:l9 c.l c.p (nU L) e≠0
 · rw[if_pos h];exact .inr ⟨_,h,rfl⟩
 · rw[if_neg h]
   by_cases h':(L.length:Int)<c.q
   · rw[if_pos h'];exact .inl ⟨rfl,h'⟩
   · rw[if_neg h'];exact .inr ⟨17,by decide,rfl⟩
theorem Ip {c:mQ} {r:Nat} (hq:0≤c.q) (l:List Ed): ∀i,i≤l.length→Own r (qZ c r (l.take i))∧(qZ c r (l.take i)).length≤i∧((qZ c r (l.take i)).length:Int)≤c.q
  |0,_=>⟨Own.nil r,Nat.le_refl _,hq⟩
  | i +1,h=>by
    obtain⟨h1,h2,h3⟩:=Ip (r:=r) hq l i (by omega)
    rw[DJ c r h]
    rcases xH c r (qZ c r (l.take i)) (kU (l.getD i default))with⟨e,hlt⟩|⟨x,hx,e⟩
    · rw[e]
      refine⟨h1.snoc (O5 _), ?_, ?_⟩<;>(simp only[List.length_append,List.length_singleton];omega)
    · rw[e]
      exact⟨h1,by dsimp only;omega,h3⟩
end
section
open Go.RowKit
theorem aac {x:Int} (h0:0≤x) (h1:x≤1048576):nV x=true:=by unfold nV fQ;rw[decide_eq_true h0,decide_eq_true h1];rfl
theorem SC {r u:Int} (h0:0≤r) (h5:r<5) (hu:0≤u∧u≤1048576):jY ⟨2,r,u,bY,[]⟩=true:=by
 unfold jY
 dsimp only
 rw[decide_eq_true h0,decide_eq_true h5,aac hu.1 hu.2]
 rfl
theorem adA {r s:Int} (h0:0≤r) (h5:r<5) (hs:0≤s∧s≤1048576):iI ⟨3,r,s,bY,[]⟩=true:=by
 unfold iI
 dsimp only
 rw[decide_eq_true h0,decide_eq_true h5,aac hs.1 hs.2]
 rfl
end
section
open Go.RowKit
theorem P9 (k:Int) (h:k=1∨k=4):aH Tryz.prog 75 [.v (.int .i64 k)] (.dF [.agg [.v (.bool true),.v (.bool false),.v (.bool false)],.v (.bool true)]) []:=by
 have:=kW k
 rcases h with rfl|rfl<;>exact this
theorem Qa (k:Int) (h:k=2):aH Tryz.prog 75 [.v (.int .i64 k)] (.dF [.agg [.v (.bool false),.v (.bool true),.v (.bool false)],.v (.bool true)]) []:=by
 have:=kW k
 rcases h with rfl
 exact this
theorem qx (k:Int) (h:k=3∨k=5):aH Tryz.prog 75 [.v (.int .i64 k)] (.dF [.agg [.v (.bool false),.v (.bool false),.v (.bool true)],.v (.bool true)]) []:=by
 have:=kW k
 rcases h with rfl|rfl<;>exact this
theorem abR (b:List UInt8) (hl:b.length≤1000000000) (h:(dG b).2.2≠0∨b.length<(dG b).2.1+2):aH Tryz.prog 45 [.sl 1 b.length true (aU b)] (.dF [(jB b).1.av,.v (.bool (jB b).2)]) []:=by
 have hs:=jd b (bg.bytes b) rfl
 have hle:=wL b
 rw[show jB b=(Ze,false) by unfold jB;rw[if_pos h]]
 obtain⟨⟨v,u,e⟩,hv⟩: ∃p,dG b=p:=⟨_,rfl⟩
 rw[hv]at hs h hle
 dsimp only at hs h hle
 refine K1.E 0x830100200000020007ed Tryz.func45 ?_
 repeat' ((conv=>whnf);first|refine K1.w ?_|refine K1.u ?_|refine K1.P1 hs rfl ?_|refine aJ.dO ?_|refine K1.o (id:=4) [(0,none),(1,none),(2,none),(3,none),(4,none),(5,none),(6,none),(7,none),(8,none),(9,none),(10,none),(11,none),(12,some []),(13,some [10,9,7,4,3])] [(4,[3]),(8,[7]),(9,[7]),(10,[9,7]),(11,[10,9,7,4,3]),(12,[]),(13,[10,9,7,4,3])] ?_|refine K1.z ?_|refine K1.y (fun _=>?_) (fun _=>?_)|fail)
 all_goals(conv=>whnf)
 all_goals first
   |exact bF.mk (aS.iq _)
   |(exfalso;omega)
theorem abS (b:List UInt8) (hl:b.length≤1000000000) {v u:Nat} (hv:dG b=(v,u,0)) (hu:u+2≤b.length) (hk:((b.getD u default).toNat:Int)=1∨((b.getD u default).toNat:Int)=4):
  aH Tryz.prog 45 [.sl 1 b.length true (aU b)] (.dF [(jB b).1.av,.v (.bool (jB b).2)]) []:=by
 have hs:=jd b (bg.bytes b) rfl
 rw[hv]at hs
 dsimp only at hs
 have hr:jB b=rdB ((b.getD u default).toNat:Int) ((b.getD (u+1) default).toNat:Int) (b.drop (u+2)):=by
  unfold jB
  rw[hv,if_neg (by dsimp only;omega)]
 rw[hr]
 unfold rdB
 rw[if_pos hk]
 have he:=Ph (n:=b.length-(u+2)) (b.drop (u+2)) (bg.drop (bg.bytes b) (u+2)) (by simp) (by simp;omega)
 cases hE:Jc (b.drop (u+2))with
 | none=>
   rw[hE]at he
   dsimp only[Jd]at he
   dsimp only[Rc.av,Rc.cs]
   refine K1.E 0x830100200000020007ed Tryz.func45 ?_
   repeat' ((conv=>whnf);first|refine K1.w ?_|refine K1.u ?_|refine K1.P1 hs rfl ?_|refine K1.P1 (P9 _ hk) rfl ?_|refine K1.P1 he rfl ?_|refine aN.qY 72 6 rfl ?_|refine aJ.dO ?_|refine K1.o (id:=4) [(0,none),(1,none),(2,none),(3,none),(4,none),(5,none),(6,none),(7,none),(8,none),(9,none),(10,none),(11,none),(12,some []),(13,some [10,9,7,4,3])] [(4,[3]),(8,[7]),(9,[7]),(10,[9,7]),(11,[10,9,7,4,3]),(12,[]),(13,[10,9,7,4,3])] ?_|refine K1.z ?_|refine K1.y (fun _=>?_) (fun _=>?_)|fail)
   all_goals(conv=>whnf)
   exact bF.mk (aS.iq _)
 | some l=>
   rw[hE]at he
   dsimp only[Jd]at he
   dsimp only[Rc.av,Rc.cs]
   refine K1.E 0x830100200000020007ed Tryz.func45 ?_
   repeat' ((conv=>whnf);first|refine K1.w ?_|refine K1.u ?_|refine K1.P1 hs rfl ?_|refine K1.P1 (P9 _ hk) rfl ?_|refine K1.P1 he rfl ?_|refine aN.qY 72 6 rfl ?_|refine aJ.dO ?_|refine K1.o (id:=4) [(0,none),(1,none),(2,none),(3,none),(4,none),(5,none),(6,none),(7,none),(8,none),(9,none),(10,none),(11,none),(12,some []),(13,some [10,9,7,4,3])] [(4,[3]),(8,[7]),(9,[7]),(10,[9,7]),(11,[10,9,7,4,3]),(12,[]),(13,[10,9,7,4,3])] ?_|refine K1.z ?_|refine K1.y (fun _=>?_) (fun _=>?_)|fail)
   all_goals(conv=>whnf)
   exact bF.mk (aj)
theorem Iq {b:List UInt8} {v u:Nat} (hv:dG b=(v,u,0)) (hu:u+2≤b.length):jB b=rdB ((b.getD u default).toNat:Int) ((b.getD (u+1) default).toNat:Int) (b.drop (u+2)):=by
 unfold jB
 rw[hv,if_neg (by dsimp only;omega)]
theorem abT (b:List UInt8) (hl:b.length≤1000000000) {v u:Nat} (hv:dG b=(v,u,0)) (hu:u+2≤b.length) (hk:((b.getD u default).toNat:Int)=2):
  aH Tryz.prog 45 [.sl 1 b.length true (aU b)] (.dF [(jB b).1.av,.v (.bool (jB b).2)]) []:=by
 have hs:=jd b (bg.bytes b) rfl
 rw[hv]at hs
 dsimp only at hs
 rw[Iq hv hu]
 unfold rdB
 rw[if_neg (by omega),if_pos hk]
 cases hE:kX (b.drop (u+2))with
 | none=>
   have he:=qw (n:=b.length-(u+2)) (b.drop (u+2)) hE (bg.drop (bg.bytes b) (u+2)) (by simp)
   dsimp only[Rc.av,Rc.cs]
   refine K1.E 0x830100200000020007ed Tryz.func45 ?_
   repeat' ((conv=>whnf);first|refine K1.w ?_|refine K1.u ?_|refine K1.P1 hs rfl ?_|refine K1.P1 (Qa _ hk) rfl ?_|refine K1.P1 he rfl ?_|refine aN.qY 72 6 rfl ?_|refine aJ.dO ?_|refine K1.o (id:=4) [(0,none),(1,none),(2,none),(3,none),(4,none),(5,none),(6,none),(7,none),(8,none),(9,none),(10,none),(11,none),(12,some []),(13,some [10,9,7,4,3])] [(4,[3]),(8,[7]),(9,[7]),(10,[9,7]),(11,[10,9,7,4,3]),(12,[]),(13,[10,9,7,4,3])] ?_|refine K1.z ?_|refine K1.y (fun _=>?_) (fun _=>?_)|fail)
   all_goals(conv=>whnf)
   exact bF.mk (aS.iq _)
 | some p=>
   obtain⟨m,k⟩:=p
   have he:=qp (n:=b.length-(u+2)) (b.drop (u+2)) hE (bg.drop (bg.bytes b) (u+2)) (by simp)
   dsimp only[Rc.av,Rc.cs]
   refine K1.E 0x830100200000020007ed Tryz.func45 ?_
   repeat' ((conv=>whnf);first|refine K1.w ?_|refine K1.u ?_|refine K1.P1 hs rfl ?_|refine K1.P1 (Qa _ hk) rfl ?_|refine K1.P1 he rfl ?_|refine aN.qY 72 6 rfl ?_|refine aJ.dO ?_|refine K1.o (id:=4) [(0,none),(1,none),(2,none),(3,none),(4,none),(5,none),(6,none),(7,none),(8,none),(9,none),(10,none),(11,none),(12,some []),(13,some [10,9,7,4,3])] [(4,[3]),(8,[7]),(9,[7]),(10,[9,7]),(11,[10,9,7,4,3]),(12,[]),(13,[10,9,7,4,3])] ?_|refine K1.z ?_|refine K1.y (fun _=>?_) (fun _=>?_)|fail)
   all_goals(conv=>whnf)
   exact bF.mk (aS.iq _)
theorem adB {k:Int} (h: ¬ (k=1∨k=4)∧ ¬k=2∧ ¬ (k=3∨k=5)): ¬ (1≤k∧k≤5):=by omega
theorem WS (b:List UInt8) (hl:b.length≤1000000000) {v u:Nat} (hv:dG b=(v,u,0)) (hu:u+2≤b.length) (hk: ¬ (((b.getD u default).toNat:Int)=1∨((b.getD u default).toNat:Int)=4)∧ ¬ ((b.getD u default).toNat:Int)=2∧ ¬ (((b.getD u default).toNat:Int)=3∨((b.getD u default).toNat:Int)=5)):
  aH Tryz.prog 45 [.sl 1 b.length true (aU b)] (.dF [(jB b).1.av,.v (.bool (jB b).2)]) []:=by
 have hs:=jd b (bg.bytes b) rfl
 rw[hv]at hs
 dsimp only at hs
 rw[Iq hv hu]
 unfold rdB
 rw[if_neg hk.1,if_neg hk.2.1,if_neg hk.2.2]
 have hk5:=adB hk
 dsimp only[Rc.av,Rc.cs]
 refine K1.E 0x830100200000020007ed Tryz.func45 ?_
 repeat' ((conv=>whnf);first|refine K1.w ?_|refine K1.u ?_|refine K1.P1 hs rfl ?_|refine K1.P1 (O6 _ hk5) rfl ?_|refine aN.qY 72 6 rfl ?_|refine aJ.dO ?_|refine K1.o (id:=4) [(0,none),(1,none),(2,none),(3,none),(4,none),(5,none),(6,none),(7,none),(8,none),(9,none),(10,none),(11,none),(12,some []),(13,some [10,9,7,4,3])] [(4,[3]),(8,[7]),(9,[7]),(10,[9,7]),(11,[10,9,7,4,3]),(12,[]),(13,[10,9,7,4,3])] ?_|refine K1.z ?_|refine K1.y (fun _=>?_) (fun _=>?_)|fail)
 all_goals(conv=>whnf)
 exact bF.mk (aS.iq _)
theorem aad (b:List UInt8) (hl:b.length≤1000000000) {v u:Nat} (hv:dG b=(v,u,0)) (hu:u+2≤b.length) (hk:((b.getD u default).toNat:Int)=3∨((b.getD u default).toNat:Int)=5):
  aH Tryz.prog 45 [.sl 1 b.length true (aU b)] (.dF [(jB b).1.av,.v (.bool (jB b).2)]) []:=by
 have hs:=jd b (bg.bytes b) rfl
 rw[hv]at hs
 dsimp only at hs
 rw[Iq hv hu]
 unfold rdB
 rw[if_neg (by omega),if_neg (by omega),if_pos hk]
 have hF:=bg.drop (bg.bytes b) (u+2)
 have hn:b.length-(u+2)=(b.drop (u+2)).length:=by simp
 cases g0:kX (b.drop (u+2))with
 | none=>
   have e0:=qw (n:=b.length-(u+2)) (b.drop (u+2)) g0 hF hn
   have hr:zZ (b.drop (u+2))=(⟨0,0,0,0,0⟩,false):=by unfold zZ;simp only[g0]
   rw[hr]
   dsimp only[Rc.av,Rc.cs]
   refine K1.E 0x830100200000020007ed Tryz.func45 ?_
   repeat' ((conv=>whnf);first|refine K1.w ?_|refine K1.u ?_|refine K1.P1 hs rfl ?_|refine K1.P1 (qx _ hk) rfl ?_|refine K1.P1 e0 rfl ?_|refine aN.qY 72 6 rfl ?_|refine aJ.dO ?_|refine K1.o (id:=4) [(0,none),(1,none),(2,none),(3,none),(4,none),(5,none),(6,none),(7,none),(8,none),(9,none),(10,none),(11,none),(12,some []),(13,some [10,9,7,4,3])] [(4,[3]),(8,[7]),(9,[7]),(10,[9,7]),(11,[10,9,7,4,3]),(12,[]),(13,[10,9,7,4,3])] ?_|refine K1.z ?_|refine K1.y (fun _=>?_) (fun _=>?_)|fail)
   all_goals(conv=>whnf)
   exact bF.mk (aS.iq _)
 | some p0 =>
   obtain⟨m0,k0⟩:=p0
   have l0:=uV g0
   rw[←hn]at l0
   have e0:=qp (n:=b.length-(u+2)) (b.drop (u+2)) g0 hF hn
   have n1:(b.length-(u+2)-k0)=((b.drop (u+2)).drop k0).length:=by simp;omega
   cases g1:kX ((b.drop (u+2)).drop k0)with
   | none=>
     have e1:=qw (n:=(b.length-(u+2)-k0)) ((b.drop (u+2)).drop k0) g1 (bg.drop hF k0) (by simp;omega)
     have hr:zZ (b.drop (u+2))=(⟨m0,0,0,0,0⟩,false):=by unfold zZ;simp only[g0,g1]
     rw[hr]
     dsimp only[Rc.av,Rc.cs]
     refine K1.E 0x830100200000020007ed Tryz.func45 ?_
     repeat' ((conv=>whnf);first|refine K1.w ?_|refine K1.u ?_|refine K1.P1 hs rfl ?_|refine K1.P1 (qx _ hk) rfl ?_|refine K1.P1 e0 rfl ?_|refine K1.P1 e1 rfl ?_|refine aN.qY 72 6 rfl ?_|refine aJ.dO ?_|refine K1.o (id:=4) [(0,none),(1,none),(2,none),(3,none),(4,none),(5,none),(6,none),(7,none),(8,none),(9,none),(10,none),(11,none),(12,some []),(13,some [10,9,7,4,3])] [(4,[3]),(8,[7]),(9,[7]),(10,[9,7]),(11,[10,9,7,4,3]),(12,[]),(13,[10,9,7,4,3])] ?_|refine K1.z ?_|refine K1.y (fun _=>?_) (fun _=>?_)|fail)
     all_goals(conv=>whnf)
     exact bF.mk (aS.iq _)
   | some p1=>
     obtain⟨m1,k1⟩:=p1
     have l1:=uV g1
     rw[←n1]at l1
     have e1:=qp (n:=(b.length-(u+2)-k0)) ((b.drop (u+2)).drop k0) g1 (bg.drop hF k0) (by simp;omega)
     have n2:((b.length-(u+2)-k0)-k1)=(((b.drop (u+2)).drop k0).drop k1).length:=by simp;omega
     cases g2:kX (((b.drop (u+2)).drop k0).drop k1)with
     | none=>
       have e2:=qw (n:=((b.length-(u+2)-k0)-k1)) (((b.drop (u+2)).drop k0).drop k1) g2 (bg.drop (bg.drop hF k0) k1) (by simp;omega)
       have hr:zZ (b.drop (u+2))=(⟨m0,m1,0,0,0⟩,false):=by unfold zZ;simp only[g0,g1,g2]
       rw[hr]
       dsimp only[Rc.av,Rc.cs]
       refine K1.E 0x830100200000020007ed Tryz.func45 ?_
       repeat' ((conv=>whnf);first|refine K1.w ?_|refine K1.u ?_|refine K1.P1 hs rfl ?_|refine K1.P1 (qx _ hk) rfl ?_|refine K1.P1 e0 rfl ?_|refine K1.P1 e1 rfl ?_|refine K1.P1 e2 rfl ?_|refine aN.qY 72 6 rfl ?_|refine aJ.dO ?_|refine K1.o (id:=4) [(0,none),(1,none),(2,none),(3,none),(4,none),(5,none),(6,none),(7,none),(8,none),(9,none),(10,none),(11,none),(12,some []),(13,some [10,9,7,4,3])] [(4,[3]),(8,[7]),(9,[7]),(10,[9,7]),(11,[10,9,7,4,3]),(12,[]),(13,[10,9,7,4,3])] ?_|refine K1.z ?_|refine K1.y (fun _=>?_) (fun _=>?_)|fail)
       all_goals(conv=>whnf)
       exact bF.mk (aS.iq _)
     | some p2=>
       obtain⟨m2,k2⟩:=p2
       have l2:=uV g2
       rw[←n2]at l2
       have e2:=qp (n:=((b.length-(u+2)-k0)-k1)) (((b.drop (u+2)).drop k0).drop k1) g2 (bg.drop (bg.drop hF k0) k1) (by simp;omega)
       have n3:(((b.length-(u+2)-k0)-k1)-k2)=((((b.drop (u+2)).drop k0).drop k1).drop k2).length:=by simp;omega
       cases g3:kX ((((b.drop (u+2)).drop k0).drop k1).drop k2)with
       | none=>
         have e3:=qw (n:=(((b.length-(u+2)-k0)-k1)-k2)) ((((b.drop (u+2)).drop k0).drop k1).drop k2) g3 (bg.drop (bg.drop (bg.drop hF k0) k1) k2) (by simp;omega)
         have hr:zZ (b.drop (u+2))=(⟨m0,m1,m2,0,0⟩,false):=by unfold zZ;simp only[g0,g1,g2,g3]
         rw[hr]
         dsimp only[Rc.av,Rc.cs]
         refine K1.E 0x830100200000020007ed Tryz.func45 ?_
         repeat' ((conv=>whnf);first|refine K1.w ?_|refine K1.u ?_|refine K1.P1 hs rfl ?_|refine K1.P1 (qx _ hk) rfl ?_|refine K1.P1 e0 rfl ?_|refine K1.P1 e1 rfl ?_|refine K1.P1 e2 rfl ?_|refine K1.P1 e3 rfl ?_|refine aN.qY 72 6 rfl ?_|refine aJ.dO ?_|refine K1.o (id:=4) [(0,none),(1,none),(2,none),(3,none),(4,none),(5,none),(6,none),(7,none),(8,none),(9,none),(10,none),(11,none),(12,some []),(13,some [10,9,7,4,3])] [(4,[3]),(8,[7]),(9,[7]),(10,[9,7]),(11,[10,9,7,4,3]),(12,[]),(13,[10,9,7,4,3])] ?_|refine K1.z ?_|refine K1.y (fun _=>?_) (fun _=>?_)|fail)
         all_goals(conv=>whnf)
         exact bF.mk (aS.iq _)
       | some p3=>
         obtain⟨m3,k3⟩:=p3
         have l3:=uV g3
         rw[←n3]at l3
         have e3:=qp (n:=(((b.length-(u+2)-k0)-k1)-k2)) ((((b.drop (u+2)).drop k0).drop k1).drop k2) g3 (bg.drop (bg.drop (bg.drop hF k0) k1) k2) (by simp;omega)
         have n4:((((b.length-(u+2)-k0)-k1)-k2)-k3)=(((((b.drop (u+2)).drop k0).drop k1).drop k2).drop k3).length:=by simp;omega
         cases g4:kX (((((b.drop (u+2)).drop k0).drop k1).drop k2).drop k3)with
         | none=>
           have e4:=qw (n:=((((b.length-(u+2)-k0)-k1)-k2)-k3)) (((((b.drop (u+2)).drop k0).drop k1).drop k2).drop k3) g4 (bg.drop (bg.drop (bg.drop (bg.drop hF k0) k1) k2) k3) (by simp;omega)
           have hr:zZ (b.drop (u+2))=(⟨m0,m1,m2,m3,0⟩,false):=by unfold zZ;simp only[g0,g1,g2,g3,g4]
           rw[hr]
           dsimp only[Rc.av,Rc.cs]
           refine K1.E 0x830100200000020007ed Tryz.func45 ?_
           repeat' ((conv=>whnf);first|refine K1.w ?_|refine K1.u ?_|refine K1.P1 hs rfl ?_|refine K1.P1 (qx _ hk) rfl ?_|refine K1.P1 e0 rfl ?_|refine K1.P1 e1 rfl ?_|refine K1.P1 e2 rfl ?_|refine K1.P1 e3 rfl ?_|refine K1.P1 e4 rfl ?_|refine aN.qY 72 6 rfl ?_|refine aJ.dO ?_|refine K1.o (id:=4) [(0,none),(1,none),(2,none),(3,none),(4,none),(5,none),(6,none),(7,none),(8,none),(9,none),(10,none),(11,none),(12,some []),(13,some [10,9,7,4,3])] [(4,[3]),(8,[7]),(9,[7]),(10,[9,7]),(11,[10,9,7,4,3]),(12,[]),(13,[10,9,7,4,3])] ?_|refine K1.z ?_|refine K1.y (fun _=>?_) (fun _=>?_)|fail)
           all_goals(conv=>whnf)
           exact bF.mk (aS.iq _)
         | some p4=>
           obtain⟨m4,k4⟩:=p4
           have l4:=uV g4
           rw[←n4]at l4
           have e4:=qp (n:=((((b.length-(u+2)-k0)-k1)-k2)-k3)) (((((b.drop (u+2)).drop k0).drop k1).drop k2).drop k3) g4 (bg.drop (bg.drop (bg.drop (bg.drop hF k0) k1) k2) k3) (by simp;omega)
           have hr:zZ (b.drop (u+2))=(⟨m0,m1,m2,m3,m4⟩,true):=by unfold zZ;simp only[g0,g1,g2,g3,g4]
           rw[hr]
           dsimp only[Rc.av,Rc.cs]
           refine K1.E 0x830100200000020007ed Tryz.func45 ?_
           repeat' ((conv=>whnf);first|refine K1.w ?_|refine K1.u ?_|refine K1.P1 hs rfl ?_|refine K1.P1 (qx _ hk) rfl ?_|refine K1.P1 e0 rfl ?_|refine K1.P1 e1 rfl ?_|refine K1.P1 e2 rfl ?_|refine K1.P1 e3 rfl ?_|refine K1.P1 e4 rfl ?_|refine aN.qY 72 6 rfl ?_|refine aJ.dO ?_|refine K1.o (id:=4) [(0,none),(1,none),(2,none),(3,none),(4,none),(5,none),(6,none),(7,none),(8,none),(9,none),(10,none),(11,none),(12,some []),(13,some [10,9,7,4,3])] [(4,[3]),(8,[7]),(9,[7]),(10,[9,7]),(11,[10,9,7,4,3]),(12,[]),(13,[10,9,7,4,3])] ?_|refine K1.z ?_|refine K1.y (fun _=>?_) (fun _=>?_)|fail)
           all_goals(conv=>whnf)
           exact bF.mk (aS.iq _)
theorem adC (b:List UInt8) (hl:b.length≤1000000000):aH Tryz.prog 45 [.sl 1 b.length true (aU b)] (.dF [(jB b).1.av,.v (.bool (jB b).2)]) []:=by
 by_cases h:(dG b).2.2≠0∨b.length<(dG b).2.1+2
 · exact abR b hl h
 · obtain⟨⟨v,u,e⟩,hv⟩: ∃p,dG b=p:=⟨_,rfl⟩
   rw[hv]at h
   dsimp only at h
   obtain rfl:e=0:=by omega
   have hu:u+2≤b.length:=by omega
   by_cases h1:((b.getD u default).toNat:Int)=1∨((b.getD u default).toNat:Int)=4
   · exact abS b hl hv hu h1
   · by_cases h2:((b.getD u default).toNat:Int)=2
     · exact abT b hl hv hu h2
     · by_cases h3:((b.getD u default).toNat:Int)=3∨((b.getD u default).toNat:Int)=5
       · exact aad b hl hv hu h3
       · exact WS b hl hv hu ⟨h1,h2,h3⟩
theorem WT {n:Nat} {F:Nat→List AV} (b:List UInt8) (hF:bg F b) (hn:n=b.length) (hl:b.length≤1000000000):aH Tryz.prog 45 [.sl 1 n true F] (.dF [(jB b).1.av,.v (.bool (jB b).2)]) []:=
 (adC b hl).args (Ch.nT hF hn .nil)
end
section
open Go.RowKit
end
section
open Go.RowKit
theorem Nc {n:Nat} {F:Nat→List AV} (h:2048<n):aH Tryz.prog 20 [.sl 1 n true F] (.dF [.agg (abb 0 0 0 0 0 0 0 0 (.v (.slice none 0 0))),.v (.int .i64 5)]) []:=by
 refine K1.E 0x200080809fd Tryz.func20 ?_
 repeat' ((conv=>whnf);first|refine K1.w ?_|refine K1.u ?_|refine aJ.dO ?_|refine K1.z ?_|refine K1.y (fun _=>?_) (fun _=>?_)|fail)
 conv=>whnf
 exact bF.mk (aj)
end
section
open Go.RowKit
theorem aae {b:List UInt8} {l:List Ev} (h:Jc b=some l):l.length≤255:=by
 rcases b with _|⟨c,t⟩
 · cases h
 · have h:(jl t c.toNat).map (·.1)=some l:=h
   cases h0:jl t c.toNat with
   |none=>rw[h0]at h;cases h
   | some p=>
     obtain⟨l0,r0⟩:=p
     rw[h0]at h
     simp only[Option.map_some,Option.some.injEq]at h
     subst h
     have:=(oD h0).1
     have:=UInt8.toNat_lt c
     omega
theorem WU (b:List UInt8):(jB b).1.ev.length≤255:=by
 unfold jB
 split
 · simp[Ze]
 · unfold rdB
   split
   · split
     · simp
     · rename_i l h
       exact aae h
   · split
     · split<;>simp
     · split<;>simp
theorem aaf (l:List UInt8) (hl:l.length≤2048):aH Tryz.prog 20 [.sl 1 l.length true (aU l)] (.dF [(yY l).1.av,.v (.int .i64 (yY l).2)]) []:=by
 unfold yY
 rw[if_neg (by omega)]
 by_cases ho:sS l
 · rw [if_pos ho]
   have hF:bg (aU l) (dW (inner l)):=by rw[←BG ho];exact bg.bytes l
   have hil:(inner l).length≤l.length:=by unfold inner;rw[List.length_take];omega
   have hop:=(JX 0 (inner l) hF (by rw[←BG ho]) (by omega)).thaw
   have hrd:=WT (inner l) (bg.bytes _) rfl (by omega)
   have hrl:=WU (inner l)
   generalize inner l=m at hop hrd hrl
   obtain⟨⟨z,ok⟩,hz⟩: ∃p,jB m=p:=⟨_,rfl⟩
   rw[hz]at hrd hrl⊢
   dsimp only at hrd hrl⊢
   cases ok with
   | false=>
     rw[if_neg (by simp)]
     refine K1.E 0x200080809fd Tryz.func20 ?_
     repeat' ((conv=>whnf);first|refine K1.w ?_|refine K1.u ?_|refine K1.P1 hop rfl ?_|refine K1.P1 hrd rfl ?_|refine aJ.dO ?_|refine K1.z ?_|refine K1.y (fun _=>?_) (fun _=>?_)|fail)
     all_goals(conv=>whnf)
     all_goals exact bF.mk (aS.iq _)
   | true=>
     cases hm:jY z with
     | false=>
       rw[if_neg (by simp)]
       have hp:=Za z (by omega) hm
       refine K1.E 0x200080809fd Tryz.func20 ?_
       repeat' ((conv=>whnf);first|refine K1.w ?_|refine K1.u ?_|refine K1.P1 hop rfl ?_|refine K1.P1 hrd rfl ?_|refine K1.P1 hp rfl ?_|refine aJ.dO ?_|refine K1.z ?_|refine K1.y (fun _=>?_) (fun _=>?_)|fail)
       all_goals(conv=>whnf)
       all_goals exact bF.mk (aS.iq _)
     | true=>
       have hp:=(VK 0 z hm).thaw
       have he:=Hq (cO z) l (bg.bytes _) rfl (bg.bytes _) rfl
       by_cases hb:cO z=l
       · rw[if_pos ⟨rfl,rfl,hb⟩]
         rw[decide_eq_true hb]at he
         generalize cO z=w at hp he
         refine K1.E 0x200080809fd Tryz.func20 ?_
         repeat' ((conv=>whnf);first|refine K1.w ?_|refine K1.u ?_|refine K1.P1 hop rfl ?_|refine K1.P1 hrd rfl ?_|refine K1.P1 hp rfl ?_|refine K1.P1 he rfl ?_|refine aJ.dO ?_|refine K1.z ?_|refine K1.y (fun _=>?_) (fun _=>?_)|fail)
         all_goals(conv=>whnf)
         all_goals exact bF.mk (aj)
       · rw[if_neg (fun h=>hb h.2.2)]
         rw[decide_eq_false hb]at he
         generalize cO z=w at hp he
         refine K1.E 0x200080809fd Tryz.func20 ?_
         repeat' ((conv=>whnf);first|refine K1.w ?_|refine K1.u ?_|refine K1.P1 hop rfl ?_|refine K1.P1 hrd rfl ?_|refine K1.P1 hp rfl ?_|refine K1.P1 he rfl ?_|refine aJ.dO ?_|refine K1.z ?_|refine K1.y (fun _=>?_) (fun _=>?_)|fail)
         all_goals(conv=>whnf)
         all_goals exact bF.mk (aS.iq _)
 · rw[if_neg ho]
   have hop:=Um l ho (bg.bytes _) rfl (by omega)
   refine K1.E 0x200080809fd Tryz.func20 ?_
   repeat' ((conv=>whnf);first|refine K1.w ?_|refine K1.u ?_|refine K1.P1 hop rfl ?_|refine aJ.dO ?_|refine K1.z ?_|refine K1.y (fun _=>?_) (fun _=>?_)|fail)
   all_goals(conv=>whnf)
   all_goals exact bF.mk (aS.iq _)
theorem zV {n:Nat} {F:Nat→List AV} (l:List UInt8) {z:Rc} {x:Int} (ht:yY l=(z,x)) (hF:bg F l) (hn:n=l.length):
  aH Tryz.prog 20 [.sl 1 n true F] (.dF [z.av,.v (.int .i64 x)]) []:=by
 rcases Nat.lt_or_ge 2048 l.length with h|h
 · unfold yY at ht
   rw[if_pos h]at ht
   simp only[Prod.mk.injEq]at ht
   obtain⟨rfl,rfl⟩:=ht
   exact(Nc (n:=n) (F:=F) (by omega)).res (aS.iq _)
 · have:=aaf l h
   rw[ht]at this
   exact this.args (Ch.nT hF hn .nil)
end
section
open Go.RowKit
theorem SE (h:Nd) (hu:h.up=false) {av:AV} (hav:av=iP∨ ∃n F,av= .sl 1 n true F):aV Tryz.prog 16 [(0,.obs (gX h))] [.box 0 0,av] (.v (.int .i64 18)) [(0,.obs (gX h))]:=by
 refine oP (ho:=[]) ⟨_,_,Tryz.func16,rfl,rfl⟩ ?_ (by rcases hav with rfl|⟨n,F,rfl⟩<;>rfl)
 obtain⟨c,r,up,d,log,sent,ic,held,wait⟩:=h
 dsimp only[Ac,Aa,iP,List.append_nil]at hu hav⊢
 subst hu
 rcases hav with rfl|⟨n,F,rfl⟩
 all_goals
  refine K1.M 0x41900003d0102173 Tryz.func16 40 ?_
  repeat' ((conv=>whnf);first|refine K1.w ?_|refine K1.u ?_|refine K1.z ?_|refine K1.y (fun _=>?_) (fun _=>?_)|fail)
  all_goals(conv=>whnf)
  exact⟨[],rfl,rfl,⟨aF rfl,aF rfl,aF rfl,aF rfl,aF rfl,aF rfl,aF rfl,aF rfl,trivial⟩,rfl,rfl,aj⟩
def aep (r:Nat) (n:Int) (e:Ev):Prop:=e.r=(r:Int)∨n≤e.r
end
section
open Go.RowKit
theorem Qb {w:World} {keep:Nat→Prop} {v:Value} {e:TypeId} {s:Nat} {F:Nat→List AV} (hs:0<s) (hv:v= .slice none 0 0∨ ∃g G cur,v= .slice (some ⟨g,0,none⟩) 0 G∧w.heap[g]? =some (.cells cur e (0,0))∧G≤maxLen∧cur.size=G*s) {ρ:Nat→Value}:oQ ⟨w,keep,ρ⟩ v e s 0 true F:=by
 refine⟨[],⟨by simp, ?_⟩,hs,fun i hi=>absurd hi (Nat.not_lt_zero i),fun _ x hx=>(by cases hx),aI.nil⟩
 rcases hv with rfl|⟨g,G,cur,rfl,h1,h2,h3⟩
 · exact .inl ⟨rfl,rfl⟩
 · exact .inr ⟨g,G,cur,rfl,Nat.zero_le _,h1,Nat.zero_le _,h2,h3,by simp⟩
theorem acs {w w':World} {keep keep':Nat→Prop} {xs:List AV} {us:List Value} (hs: ∀x∈xs,∃y,x= .v y) (h:aI (PC w keep) xs us):aI (PC w' keep') xs us∧ ∀u∈us,u.oneCell'=true:=by
 refine⟨⟨h.1,fun i x u hx hu=>?_⟩,fun u hu=>?_⟩
 · obtain⟨y,rfl⟩:=hs x (List.mem_of_getElem? hx)
   have:=h.2 i _ u hx hu
   cases this with|v _ h1=>exact .v _ h1
 · obtain⟨i,hi⟩:=List.mem_iff_getElem?.1 hu
   have hl:i<xs.length:=by rw[h.1];exact(List.getElem?_eq_some_iff.1 hi).1
   obtain⟨y,hy⟩:=hs xs[i] (List.getElem_mem hl)
   have:=h.2 i _ u (by rw[List.getElem?_eq_getElem hl,hy]) hi
   cases this with|v _ h1=>exact h1
end
section
open Go.RowKit
theorem SG (n:Nat) (hn:n≤1000000) (w:World):Calls Tryz.prog 138 #[.slice none 0 0,.int .i64 (n:Int)] w fun e w'=>
  (e= .returned (.slice none 0 0)∧w'=w)∨ ∃G cur,e= .returned (.slice (some ⟨w.heap.size,0,none⟩) 0 G)∧w'=w.drew.alloc (.cells cur 42)∧G≤maxLen∧cur.size=G*12:=by
 obtain⟨i0,hi0,hz0,hs0,hb0,hzc⟩: ∃i0:TypeInfo,Tryz.prog.info? 42=some i0∧(∃z,i0.zero=some z∧z.cells.size=12)∧i0.size=12∧i0.bytes≤200∧True:=⟨_,rfl,⟨_,rfl,rfl⟩,rfl,by decide+kernel,trivial⟩
 obtain⟨z,hz,hzs⟩:=hz0
 by_cases h0:n=0
 · subst h0
   go_enter Tryz.func138,Tryz.ntmps138
   go_wp2
   go_ret
   exact .inl ⟨rfl,rfl⟩
 · have h1: ¬ ((n:Int)<0):=by omega
   have h4:(n:Int)>0:=by omega
   have hby:n*i0.bytes≤200000000:=Nat.le_trans (Nat.mul_le_mul hn hb0) (by decide)
   have hrz: ∀ty,(Builtin.append_ #[39,3] ty #[.slice none 0 0,.int .i64 (n:Int)]).run Tryz.prog w=
     .ok (.slice (some ⟨w.heap.size,0,none⟩) n (grownCap w n 0 42)) (w.drew.alloc (.cells (#[]++Builtin.zeroCells z.cells n++Builtin.zeroCells z.cells (grownCap w n 0 42-n)) 42)):=fun ty=>by
    have h:=Lib.run_append_grow_zeros w 39 3 ty 42 i0 z .i64 .i64 Tryz.underlying39 Tryz.underlying3 hi0 hz none 0 0 [] (run_firstCells_none w.drew i0.size 0 0 0) n (by omega) (by omega) (by omega) (by omega) (by omega) (by rw[Nat.zero_add];exact growslice_fits (by omega) (by omega))
    rw[Nat.zero_add]at h
    exact h
   have hGn:n≤grownCap w n 0 42:=grownCap_ge w _ _ _
   have hGm:grownCap w n 0 42≤maxLen:=grownCap_le_maxLen w n 0 _ (by unfold maxLen;omega)
   obtain⟨G,hG⟩: ∃G,G=grownCap w n 0 42:=⟨_,rfl⟩
   rw[←hG]at hrz hGn hGm
   have hG63:G≤9223372036854775807:=by unfold maxLen at hGm;omega
   have hsz:(#[]++Builtin.zeroCells z.cells n++Builtin.zeroCells z.cells (G-n)).size=G*12:=by
    simp[Builtin.zeroCells,hzs]
    rw[←Nat.add_mul]
    congr 1
    omega
   obtain⟨C,hC⟩: ∃C,C= #[]++Builtin.zeroCells z.cells n++Builtin.zeroCells z.cells (G-n):=⟨_,rfl⟩
   rw[←hC]at hrz hsz
   clear hG hC hz hzs z hi0 hs0 hb0 hzc hby
   go_enter Tryz.func138,Tryz.ntmps138
   go_wp2_with (at_builtin;refine Lib.wpList_append_run _ rfl _ _ _ _ rfl _ _ rfl rfl _ _ (hrz _) ?_)
   all_goals(go_ret;exact .inr ⟨G,rfl,C,rfl,hGm,hsz⟩)
theorem cells_at {w:World} {o:Obj}:(w.drew.alloc o).heap[w.heap.size]? =some o:=by first|rfl|exact Array.getElem?_push_size ..
theorem adD (d:Nat) (x:Int) (h0:0≤x) (h1:x≤1000000):aH Tryz.prog 138 [.v (.slice none 0 0),.v (.int .i64 x)] (.own d) [(d,.row 42 12 0 true (dX []))]:=by
 obtain⟨n,rfl⟩: ∃n:Nat,x=(n:Int):=⟨x.toNat,by omega⟩
 refine⟨⟨_,_,Tryz.func138,rfl,rfl⟩,fun w keep args hk hargs=>?_⟩
 obtain⟨u,v,rfl,hu,hv⟩:=lN hargs
 have hu:u= .slice none 0 0:=hu
 have hv:v= .int .i64 (n:Int):=hv
 subst hu hv
 refine(SG n (by omega) w).mono ?_
 rintro e w' (⟨rfl,rfl⟩|⟨G,cur,rfl,rfl,hG,hc⟩)
 · exact⟨_,fun _=> .slice none 0 0,rfl,Below.refl _ _,rfl,fun p hp=>by rw[List.mem_singleton.1 hp];exact Qb (by decide) (.inl rfl),by simp[ah,blks,jm],fun b hb=>by simp[ah,blks,jm]at hb⟩
 · refine⟨_,fun _=> .slice (some ⟨w.heap.size,0,none⟩) 0 G,rfl,((Below.refl _ _).drew).alloc (Nat.le_refl _) _,rfl,fun p hp=>by rw[List.mem_singleton.1 hp];exact Qb (by decide) (.inr ⟨_,G,cur,rfl,cells_at,hG,hc⟩),by simp[ah,blks,jm],fun b hb=>?_⟩
   have:b=w.heap.size:=by simpa[ah,blks,jm]using hb
   omega
theorem Ir (d:Nat) (h l:List Ev) (hh:h.length≤400000) (hl:l.length≤400000):aH Tryz.prog 107 [.sl 1 2 false (chunk 1 [.sl 12 h.length true (dX h),.sl 12 l.length true (dX l)])] (.own d) [(d,fC (h++l))]:=by
 refine K1.E 0x1e101f6d Tryz.func107 ?_
 repeat' ((conv=>whnf);first|refine K1.w ?_|refine K1.u ?_|refine K1.F1 (adD _ _ (by omega) (by omega)) rfl ?_|refine aN.qY 11 3 rfl ?_|refine aN.qY 27 3 rfl ?_|refine K1.z ?_|refine K1.y (fun _=>?_) (fun _=>?_)|fail)
 all_goals(conv=>whnf)
 exact aJ.oz d rfl rfl (bW.row (by simp) fun i hi=>by
  have e1:pR 0 (dX []) (dX h)=dX h:=funext fun i=>els_app (c:=Ev.cs) (l:=[]) (l':=h) rfl i
  rw[e1]
  exact els_app (c:=Ev.cs) (by omega) i) (aj)
end
section
open Go.RowKit
theorem DK (most:Int) (c:aW) (h l:List Ev) (hc: ∀r,0≤c.at r∧c.at r≤1000000) (hh:h.length≤400000) (hl:l.length≤400000) {d w:List Ev} {c':aW} (hd:mg c (h++l)=(d,w,c')) (hw:(w.length:Int)≤most):
  aV Tryz.prog 73 [(0,zY most c (yH h))] [.box 0 0,yH l] (.dF [yH d,.v (.int .i64 0)]) [(0,zY most c' (yH w))]:=by
 have hcc:=(Ir 0 h l hh hl).thaw
 have hdr:=Df c (h++l) hc (by rw[List.length_append];omega) hd (n:=(h++l).length) (F:=dX (h++l)) rfl fun i hi=>rfl
 clear hd
 dsimp only[aW.av,aW.cs,zY,yH,DT]at hcc hdr⊢
 refine K1.M 0x800003f3 Tryz.func73 40 ?_
 repeat' ((conv=>whnf);first|refine K1.w ?_|refine K1.u ?_|refine K1.P1 hcc rfl ?_|refine K1.P1 hdr rfl ?_|refine K1.I 0x73 Tryz.func95 ?_|refine K1.z ?_|refine K1.y (fun _=>?_) (fun _=>?_)|fail)
 all_goals(conv=>whnf)
 exact⟨[],rfl,rfl,⟨aF rfl,trivial⟩,rfl,rfl,aj⟩
theorem WV (most:Int) (c:aW) (h l:List Ev) (hc: ∀r,0≤c.at r∧c.at r≤1000000) (hh:h.length≤400000) (hl:l.length≤400000) {d w:List Ev} {c':aW} (hd:mg c (h++l)=(d,w,c')) (hw:most<(w.length:Int)):
  aV Tryz.prog 73 [(0,zY most c (yH h))] [.box 0 0,yH l] (.dF [iP,.v (.int .i64 22)]) [(0,zY most c (yH h))]:=by
 have hcc:=(Ir 0 h l hh hl).thaw
 have hdr:=Df c (h++l) hc (by rw[List.length_append];omega) hd (n:=(h++l).length) (F:=dX (h++l)) rfl fun i hi=>rfl
 clear hd
 dsimp only[aW.av,aW.cs,zY,yH,DT,iP]at hcc hdr⊢
 refine K1.M 0x800003f3 Tryz.func73 40 ?_
 repeat' ((conv=>whnf);first|refine K1.w ?_|refine K1.u ?_|refine K1.P1 hcc rfl ?_|refine K1.P1 hdr rfl ?_|refine K1.I 0x73 Tryz.func95 ?_|refine K1.z ?_|refine K1.y (fun _=>?_) (fun _=>?_)|fail)
 all_goals(conv=>whnf)
 exact⟨[],rfl,rfl,⟨aF rfl,trivial⟩,rfl,rfl,aj⟩
end
end Go.Proofs.YtimhagicagdkfaaGreat
