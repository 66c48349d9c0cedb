/-
  Contracts of the walk:NdM,NdP,NdQ,NdR,NdS,SlD,OuB,OuS.
-/
import Derived.Test.YtimhagicagdkfaaGreatNi25
import Derived.Test.YtimhagicagdkfaaGreatNi12
import Derived.Test.YtimhagicagdkfaaGreatNi9
import Derived.WalkKit
import Derived.Deep.RegionLaw
import Derived.Lib.Walk
import Derived.Lib.SliceRun
import Derived.Lib.LazyBuf
import Derived.RegionTactic
import Derived.RegionCalls
set_option maxHeartbeats 16000000
set_option maxRecDepth 100000
set_option linter.unusedVariables false
set_option linter.unusedSimpArgs false
namespace Go.Proofs.YtimhagicagdkfaaGreat
section
open Go.RowKit
theorem JM {c:bn} {r:Nat} (hr:r<5) {v:Ev} (h1:v.r=(r:Int)) (h2:v.n=c.at r+1) (h3:v.c.le c=true) (h0:0≤c.at r):wu c [v]=([v],[],c.inc r):=by
 have hh:hasB c v.r v.n=false:=by
  unfold hasB
  rw[h1,h2]
  refine decide_eq_false fun h=>?_
  have:c.get (r:Int)=c.at r:=by
   rcases(show r=0∨r=1∨r=2∨r=3∨r=4 by omega)with rfl|rfl|rfl|rfl|rfl<;>rfl
  omega
 have hw:lZ c [v]=[v]:=by
  unfold lZ
  rw[List.foldl_cons,List.foldl_nil]
  unfold qY
  rw[hh]
  rfl
 have hn:sS c [v]=some v:=by
  refine Jh hr (fun q hq=>?_) ?_
  · unfold sQ Jg
    rw[List.find?_cons,show decide (v.r=(q:Int)∧v.n=c.at q+1)=false from decide_eq_false fun h=>by omega]
    rfl
  · unfold sQ Jg
    rw[List.find?_cons,show decide (v.r=(r:Int)∧v.n=c.at r+1)=true from decide_eq_true ⟨h1,h2⟩]
    exact if_pos ⟨by omega,h3⟩
 have hm:DL [v] v=[]:=by simp[DL]
 unfold wu
 rw[hw]
 show Ye 1 c [v] []=_
 unfold Ye
 rw[hn]
 dsimp only
 rw[hm,h1,Int.toNat_natCast]
 rfl
theorem VX {bs:List UInt8} {l:List Rc} {x:Rc} (h:Gs bs l []) (hx:lC x=true):Gs (bs++aQ x) (l++[x]) []:=by
 have e:=h.eq
 rw[List.append_nil]at e
 refine⟨fun r hr=>?_, ?_,JL⟩
 · rcases List.mem_append.1 hr with hr|hr
   · exact h.may r hr
   · rw[List.mem_singleton.1 hr];exact hx
 · rw[e,List.append_nil,Jt]
theorem VY {bs:List UInt8} {l:List Rc} {x:Rc} (h:Gs bs l []) (hx:lC x=true) {i:Nat} (hi:i<(aQ x).length):Gs (bs++(aQ x).take i) l ((aQ x).take i):=by
 have e:=h.eq
 rw[List.append_nil]at e
 exact⟨h.may,by rw[e],VW x hx i hi⟩
theorem abf:Gs [] [] []:=⟨by simp,rfl,JL⟩
def Zo:nJ:=⟨2,1,4,4,4,3⟩
def Zp:ByteArray:=⟨#[99,121]⟩
def ed1:Ed:=⟨1,Zp,0,⟨#[]⟩⟩
def ed2:Ed:=⟨2,Zp,0,⟨#[]⟩⟩
def yx:Ev:=⟨1,1,dS,1,1,Zp,0,⟨#[]⟩⟩
def nv2:Ev:=⟨1,2,⟨0,1,0,0,0⟩,2,2,Zp,0,⟨#[]⟩⟩
def TT:Rc:=⟨1,1,0,dS,[yx]⟩
def rc2:Rc:=⟨1,1,0,dS,[nv2]⟩
def nS1:Nd:=⟨Zo,1,true,⟨aQ TT,false,false,0⟩,[yx],0,⟨0,1,0,0,0⟩,[],[yx]⟩
def nS2:Nd:=⟨Zo,1,true,⟨aQ TT,false,true,3⟩,[yx],0,⟨0,1,0,0,0⟩,[],[yx]⟩
def nS3:Nd:=⟨Zo,1,false,⟨aQ TT++(aQ rc2).take 3,true,false,3⟩,[yx],0,⟨0,1,0,0,0⟩,[],[yx]⟩
def nS4:Nd:=⟨Zo,1,true,⟨kY [TT],false,false,3⟩,[yx],0,⟨0,1,0,0,0⟩,[],[yx]⟩
theorem TU {e:Ev} (h1:aK e e=false) (h2:1≤e.k∧e.k≤5):Dj (lV (eqK e.key) []) e:=⟨fun x hx=>(by cases hx),fun x hx=>(by cases hx),h1,fun x hx=>(by cases hx),h2,fun x hx=>(by cases hx)⟩
theorem Jz.mk' {P:List Ev} (one:tu P) (hi: ∀a∈P,∀b∈P,aK a b=true→a.h<b.h) (tr: ∀a∈P,∀b∈P,∀c∈P,aK a b=true→aK b c=true→aK a c=true) (key:ByteArray):Jz (lV (eqK key) P) key:=by
 have hs: ∀x∈lV (eqK key) P,x∈P:=fun x hx=>(List.mem_filter.1 hx).1
 exact⟨LH,fun a ha b hb=>one a (hs a ha) b (hs b hb),fun a ha b hb=>hi a (hs a ha) b (hs b hb),fun a ha b hb c hc=>tr a (hs a ha) b (hs b hb) c (hs c hc)⟩
theorem abg (key:ByteArray):Jz (lV (eqK key) []) key:=Jz.mk' (fun a ha=>by cases ha) (fun a ha=>by cases ha) (fun a ha=>by cases ha) key
theorem TV {e:Ev} (h:aK e e=false) (key:ByteArray):Jz (lV (eqK key) [e]) key:=
 Jz.mk' (fun a ha b hb _=>by rw[List.mem_singleton.1 ha,List.mem_singleton.1 hb]) (fun a ha b hb hq=>by rw[List.mem_singleton.1 ha,List.mem_singleton.1 hb,h]at hq;cases hq)
  (fun a ha b hb c hc hq _=>by rw[List.mem_singleton.1 ha,List.mem_singleton.1 hc,h];rw[List.mem_singleton.1 ha,List.mem_singleton.1 hb,h]at hq;cases hq) key
theorem TW:oU []=[]:=by rw[of_same (l:=[]) (key:=Zp) (fun x hx=>by cases hx)];rfl
theorem Ei:oU [yx]=[fH Zp (bI [yx] (aC [yx]))]:=by
 rw[of_same (l:=[yx]) (key:=Zp) (fun x hx=>by rw[List.mem_singleton.1 hx];rfl)]
 rw[if_neg (fun h=>absurd (show(aC [yx]).length=0 by rw[h];rfl) (by decide))]
theorem JO (A:List Ev):(valsF A).length≤A.length:=by
 unfold valsF
 refine Nat.le_trans (uo _) ?_
 unfold sortL
 rw[List.length_mergeSort,List.length_map]
 exact Nat.le_refl _
theorem O7 (key:ByteArray) (l:Int) (ws:List Ev):(dY key l ws).length≤ws.length:=List.length_filter_le ..
theorem TY (P:List Ev) (hP:P.length≤1000000): ∀x∈oU P,x.s0.length≤1000000∧x.s1.length≤1000000:=fun x hx=>by
 unfold oU at hx
 obtain⟨k,_,rfl⟩:=List.mem_map.1 hx
 have hc:(bI P (aC P)).length≤P.length:=List.length_filter_le ..
 exact⟨Nat.le_trans (Nat.le_trans (JO _) (O7 _ _ _)) (by omega),Nat.le_trans (Nat.le_trans (JO _) (O7 _ _ _)) (by omega)⟩
theorem abh (q:Nat):dS.at q=0:=by
 match q with
 |0=>rfl
 |1=>rfl
 |2=>rfl
 |3=>rfl
 |_+4=>rfl
theorem aeH (c:nJ) (r:Nat) (hr:r<5):NdB (nd0 c r) where
 r:=hr
 ic q:=by show 0≤dS.at q∧dS.at q≤1000000;rw[abh];decide
 pst:=abg
 len:=Nat.zero_le _
 hh e he:=by cases he
 cs x hx:=by rw[show oU (nd0 c r).log=[]from TW]at hx;cases hx
 bs:=Nat.zero_le _
 wl:=Nat.zero_le _
 sent:=⟨Int.le_refl _,by show(0:Int)≤1000000;decide⟩
 wn j:=by show 0≤(([]:List Ev).getD j default).n∧(([]:List Ev).getD j default).n≤1000000;rw[List.getD_nil];decide
end
section
open Go.RowKit
def jK (r:Nat) (x:Int):bn:=⟨if r=0 then x else 0,if r=1 then x else 0,if r=2 then x else 0,if r=3 then x else 0,if r=4 then x else 0⟩
def kZ (r m:Nat) (e:Ed):Ev:=⟨r,(m:Int)+1,jK r m,(m:Int)+1,e.k,e.key,e.l,e.v⟩
structure Own (r:Nat) (L:List Ev):Prop where
 at_: ∀j,j<L.length→L.getD j default=kZ r j (L.getD j default).ed
 ok: ∀e∈L,jF e.ed=0
theorem abj {C:Nat→Prop} {r:Nat} (hr:r<5) (h0:C 0) (h1:C 1) (h2:C 2) (h3:C 3) (h4:C 4):C r:=by
 rcases(show r=0∨r=1∨r=2∨r=3∨r=4 by omega)with rfl|rfl|rfl|rfl|rfl<;>assumption
theorem O8 {r:Nat} (hr:r<5) (x:Int):(jK r x).get (r:Int)=x:=abj (C:=fun r=>(jK r x).get (r:Int)=x) hr rfl rfl rfl rfl rfl
theorem Ej {r:Nat} (hr:r<5) (x:Int):(jK r x).at r=x:=abj (C:=fun r=>(jK r x).at r=x) hr rfl rfl rfl rfl rfl
theorem Zq {r:Nat} (hr:r<5) (x:Int):(jK r x).inc r=jK r (x+1):=abj (C:=fun r=>(jK r x).inc r=jK r (x+1)) hr rfl rfl rfl rfl rfl
theorem ac7 {r:Nat} (hr:r<5):jK r 0=dS:=abj (C:=fun r=>jK r 0=dS) hr rfl rfl rfl rfl rfl
theorem O9 {r:Nat} {x:Int} (hx:0≤x) (q:Nat):0≤(jK r x).at q∧(jK r x).at q≤x:=by
 unfold jK
 match q with
 |0=>simp only[bn.at];split<;>omega
 |1=>simp only[bn.at];split<;>omega
 |2=>simp only[bn.at];split<;>omega
 |3=>simp only[bn.at];split<;>omega
 |_+4=>simp only[bn.at];split<;>omega
theorem Ua {r:Nat} (hr:r<5) (m i:Nat):hasB (jK r m) r ((i:Int)+1)=decide (i<m):=by
 unfold hasB
 rw[O8 hr]
 exact decide_eq_decide.2 ⟨fun h=>by omega,fun h=>by omega⟩
theorem qI {r:Nat} (hr:r<5) (m i:Nat) (x y:Ed):aK (kZ r i x) (kZ r m y)=decide (i<m):=Ua hr m i
theorem lQ {r:Nat} {L:List Ev} (h:Own r L) {e:Ev} (he:e∈L): ∃i,i<L.length∧e=kZ r i e.ed∧L.getD i default=e:=by
 obtain⟨i,hi,rfl⟩:=List.getElem_of_mem he
 have hg:L.getD i default=L[i]:=by simp[List.getD,hi]
 exact⟨i,hi,by have:=h.at_ i hi;rwa [hg]at this,hg⟩
theorem Own.nil (r:Nat):Own r []:=⟨fun j hj=>absurd hj (Nat.not_lt_zero j),fun e he=>by cases he⟩
theorem Own.snoc {r:Nat} {L:List Ev} (h:Own r L) {e:Ed} (he:jF e=0):Own r (L++[kZ r L.length e]):=by
 refine⟨fun j hj=>?_,fun x hx=>?_⟩
 · rw[List.length_append]at hj
   by_cases hl:j<L.length
   · rw[show(L++[kZ r L.length e]).getD j default=L.getD j default by simp[List.getD,List.getElem?_append_left hl]]
     exact h.at_ j hl
   · obtain rfl:j=L.length:=by have:j<L.length+1:=hj;omega
     rw[show(L++[kZ r L.length e]).getD L.length default=kZ r L.length e by simp[List.getD]]
     rfl
 · rcases List.mem_append.1 hx with hx|hx
   · exact h.ok x hx
   · rw[List.mem_singleton.1 hx];exact he
theorem JQ {e:Ed} (h:jF e=0):1≤e.k∧e.k≤5:=by
 unfold jF at h
 split at h
 · omega
 · omega
theorem abk {r:Nat} (hr:r<5) {L:List Ev} (h:Own r L) {e:Ed} (he:jF e=0):Dj (lV (eqK (kZ r L.length e).key) L) (kZ r L.length e):=by
 have hs: ∀ {key:ByteArray} {x:Ev},x∈lV (eqK key) L→x∈L:=fun hx=>(List.mem_filter.1 hx).1
 refine⟨LH,fun x hx=>?_, ?_,fun a ha b hb _ _=>?_,JQ he,fun x hx=>?_⟩
 · obtain⟨i,hi,hx,_⟩:=lQ h (hs hx)
   rw[hx,qI hr]
   exact decide_eq_false (by omega)
 · rw[qI hr]
   exact decide_eq_false (by omega)
 · obtain⟨i,hi,ha,_⟩:=lQ h (hs ha)
   rw[ha,qI hr]
   exact decide_eq_true hi
 · exact JQ (h.ok x (hs hx))
theorem abl {r:Nat} (hr:r<5) {L:List Ev} (h:Own r L) (key:ByteArray):Jz (lV (eqK key) L) key:=by
 refine Jz.mk' (fun a ha b hb hq=>?_) (fun a ha b hb hq=>?_) (fun a ha b hb c hc h1 h2=>?_) key
 · obtain⟨i,hi,ea,ga⟩:=lQ h ha
   obtain⟨j,hj,eb,gb⟩:=lQ h hb
   rw[ea,eb]at hq
   have:(i:Int)+1=(j:Int)+1:=congrArg Prod.fst hq
   obtain rfl:i=j:=by omega
   rw[←ga,←gb]
 · obtain⟨i,hi,ea,ga⟩:=lQ h ha
   obtain⟨j,hj,eb,gb⟩:=lQ h hb
   rw[ea,eb,qI hr]at hq
   have:=of_decide_eq_true hq
   rw[ea,eb]
   show(i:Int)+1<(j:Int)+1
   omega
 · obtain⟨i,hi,ea,ga⟩:=lQ h ha
   obtain⟨j,hj,eb,gb⟩:=lQ h hb
   obtain⟨k,hk,ec,gc⟩:=lQ h hc
   rw[ea,eb,qI hr]at h1
   rw[eb,ec,qI hr]at h2
   have:=of_decide_eq_true h1
   have:=of_decide_eq_true h2
   rw[ea,ec,qI hr]
   exact decide_eq_true (by omega)
theorem Ub {r:Nat} (hr:r<5) {L:List Ev} (h:Own r L) (m:Nat): ∀j,j≤L.length→j≤m→FP (jK r m) (L.take j)=((j:Int),decide (0<j))
  |0,_,_=>by rw[List.take_zero];rfl
  | j+1,hj,hm=>by
    unfold FP
    rw[pV hj]
    rw[show(L.take j).foldl (oZ (jK r m)) (0,false)=((j:Int),decide (0<j))from Ub hr h m j (by omega) (by omega)]
    rw[h.at_ j hj]
    unfold oZ
    rw[show hasB (jK r m) (kZ r j (L.getD j default).ed).r (kZ r j (L.getD j default).ed).n=true from(Ua hr m j).trans (decide_eq_true (by omega))]
    rw[if_pos (by rw[Bool.true_and,Bool.or_eq_true];exact .inr (decide_eq_true (by show(j:Int)<(j:Int)+1;omega)))]
    rw[show decide (0<j+1)=true from decide_eq_true (by omega)]
    show(((j:Int)+1),true)=_
    rw[show(((j+1:Nat):Int))=(j:Int)+1 by omega]
theorem Rl {r:Nat} (hr:r<5) {L:List Ev} (h:Own r L):hgt L (jK r L.length)=(L.length:Int)+1:=by
 unfold hgt
 have:=Ub hr h L.length L.length (Nat.le_refl _) (Nat.le_refl _)
 rw[List.take_length]at this
 rw[this]
theorem abm {r:Nat} {L:List Ev} (h:Own r L) {q:Int} (hq:(L.length:Int)<q) (e:Ed):Ld q 0 L (kZ r L.length e)=(L++[kZ r L.length e],0):=by
 unfold Ld xR
 rw[if_neg (by omega)]
 by_cases h0:L.length=0
 · rw[if_pos h0,if_pos (by show(L.length:Int)+1=0+1;omega)]
 · rw[if_neg h0,h.at_ (L.length-1) (by omega),if_pos (by show(L.length:Int)+1=((L.length-1:Nat):Int)+1+1;omega)]
theorem bn.le_refl (c:bn):c.le c=true:=decide_eq_true ⟨Int.le_refl _,Int.le_refl _,Int.le_refl _,Int.le_refl _,Int.le_refl _⟩
theorem VZ {r:Nat} (hr:r<5) (m:Nat) (e:Ed):wu (jK r m) [kZ r m e]=([kZ r m e],[],(jK r m).inc r):=
 JM hr rfl (by rw[Ej hr];rfl) (bn.le_refl _) (by rw[Ej hr];omega)
theorem Uc {r:Nat} (hr:r<5) {m:Nat} (hm:m≤1000000) {e:Ed} (he:jF e=0):fB (kZ r m e)=0:=by
 have hk: ∀x:Int,0≤x→x≤1000001→nG x=true:=fun x h1 h2=>by unfold nG gu;rw[decide_eq_true h1,decide_eq_true (by omega)];rfl
 have h0: ∀b:Prop,∀ [Decidable b],nG (if b then(m:Int)else 0)=true:=fun b _=>by split<;>exact hk _ (by omega) (by omega)
 unfold fB
 rw[if_neg,if_neg,if_neg]
 · exact he
 · show¬ ((jK r m).get (r:Int) !=((m:Int)+1)-1)=true
   rw[O8 hr]
   simp
 · show¬ (!(nG (if r=0 then(m:Int)else 0)&&nG (if r=1 then(m:Int)else 0)&&nG (if r=2 then(m:Int)else 0)&&nG (if r=3 then(m:Int)else 0)&&nG (if r=4 then(m:Int)else 0)))=true
   rw[h0,h0,h0,h0,h0]
   simp
 · show¬ (!(gu (r:Int) 0 4&&gu ((m:Int)+1) 1 1048576&&gu ((m:Int)+1) 1 16777216))=true
   unfold gu
   rw[decide_eq_true (show(0:Int)≤r by omega),decide_eq_true (show(r:Int)≤4 by omega),decide_eq_true (show(1:Int)≤(m:Int)+1 by omega),decide_eq_true (show(m:Int)+1≤1048576 by omega),decide_eq_true (show(m:Int)+1≤16777216 by omega)]
   simp
end
section
open Go.RowKit
def rcO (r:Nat) (v:Ev):Rc:=⟨1,r,0,dS,[v]⟩
def CJ (r:Nat) (L:List Ev):List UInt8:=L.flatMap fun v=>aQ (rcO r v)
def nH (c:nJ) (r:Nat) (L:List Ev):Nd:=⟨c,r,true,⟨CJ r L,false,false,0⟩,L,0,jK r L.length,[],L⟩
theorem ad1 (c:nJ) {r:Nat} (hr:r<5):nH c r []=nd0 c r:=by
 unfold nH nd0
 rw[show jK r ((([]:List Ev).length:Nat):Int)=dS from ac7 hr]
 rfl
theorem Ud {r:Nat} (hr:r<5) {v:Ev} (hv:fB v=0):lC (rcO r v)=true:=by
 unfold lC rcO
 dsimp only
 rw[decide_eq_true (show(0:Int)≤r by omega),decide_eq_true (show(r:Int)<5 by omega)]
 simp only[List.all_cons,List.all_nil,hv,decide_true,List.length_singleton,Bool.and_true]
 first|rfl|decide+revert
theorem GZ {r:Nat} (hr:r<5): ∀ {L:List Ev},(∀e∈L,fB e=0)→(CJ r L).length≤200100*L.length
  |[],_=>Nat.zero_le _
  | v::L,h=>by
    have h1:=oO (rcO r v) (Ud hr (h v List.mem_cons_self))
    have h2:=GZ hr (L:=L) fun e he=>h e (List.mem_cons_of_mem _ he)
    unfold CJ at*
    rw[List.flatMap_cons,List.length_append,List.length_cons]
    omega
theorem G5 {r:Nat} (hr:r<5) {L:List Ev} (h:Own r L) (hl:L.length≤1000000): ∀e∈L,fB e=0:=fun e he=>by
 obtain⟨i,hi,e1,_⟩:=lQ h he
 rw[e1]
 exact Uc hr (by omega) (h.ok e he)
theorem ad2 {c:nJ} {r:Nat} (hr:r<5) {L:List Ev} (h:Own r L) (hl:L.length≤30):NdB (nH c r L) where
 r:=hr
 ic q:=by have:=O9 (r:=r) (x:=L.length) (by omega) q;exact⟨this.1,by show(jK r L.length).at q≤1000000;omega⟩
 pst:=abl hr h
 len:=by show L.length≤_;omega
 hh e he:=by
  obtain⟨i,hi,e1,_⟩:=lQ h he
  rw[e1]
  show 0≤(i:Int)+1∧(i:Int)+1≤1000000
  omega
 cs:=TY L (by omega)
 bs:=by
  have:=GZ hr (G5 hr h (by omega))
  show(CJ r L).length≤100000000
  omega
 wl:=by show L.length≤_;omega
 sent:=⟨Int.le_refl _,(by decide:(0:Int)≤1000000)⟩
 wn j:=by
  show 0≤(L.getD j default).n∧(L.getD j default).n≤1000000
  by_cases hj:j<L.length
  · rw[h.at_ j hj]
    show 0≤(j:Int)+1∧(j:Int)+1≤1000000
    omega
  · rw[show L.getD j default=default by simp[List.getD,hj]]
    decide
def Bj (c:nJ) (r:Nat) (L:List Ev) (e:Ed):List Ev×Ev×Int:=
 if nS c.l c.p (oU L) e≠0 then(L,Zn,nS c.l c.p (oU L) e)else if(L.length:Int)<c.q then(L++[kZ r L.length e],kZ r L.length e,0)else(L,Zn,17)
theorem Zr {c:nJ} {r:Nat} (hr:r<5) {L:List Ev} (h:Own r L) (hl:L.length≤30) {e:Ed} (he:jF e=0) {L':List Ev} {v:Ev} {x:Int} (hs:Bj c r L e=(L',v,x)):
  aW Tryz.prog 22 [(0,.obs (lM (nH c r L)))] [.box 0 0,e.av] (.dL [v.av,.v (.int .i64 x)]) [(0,.obs (lM (nH c r L')))]:=by
 have hB:=ad2 (c:=c) hr h hl
 unfold Bj at hs
 by_cases hc:nS c.l c.p (oU L) e=0
 · rw [if_neg (by simp[hc])]at hs
   by_cases hq:(L.length:Int)<c.q
   · rw[if_pos hq]at hs
     cases hs
     have hH:hgt (nH c r L).log (nH c r L).ic=(L.length:Int)+1:=Rl hr h
     have hv:jf (nH c r L) e=kZ r L.length e:=by
      unfold jf
      rw[hH]
      unfold kZ nH
      dsimp only
      rw[Ej hr]
     have hm:=Uc hr (m:=L.length) (by omega) he
     have hw:oV (nH c r L).d (aQ (rcO r (kZ r L.length e)))=(⟨CJ r (L++[kZ r L.length e]),false,false,0⟩,0):=by
      unfold oV nH CJ
      rw[if_neg (by simp),if_neg (by simp),List.flatMap_append]
      simp
     have:=GY (nH c r L) e ⟨CJ r (L++[kZ r L.length e]),false,false,0⟩ hB rfl hc hq (by rw[hH];omega) (by rw[hv];exact Ud hr hm) (by rw[hv];exact hw) (by rw[hv];exact VZ hr L.length e) (by rw[hv];exact abm h hq e)
      (by rw[hv];exact abk hr h he) (by rw[hv];exact hm)
     rw[hv]at this
     have e1:(⟨(nH c r L).c,(nH c r L).r,true,⟨CJ r (L++[kZ r L.length e]),false,false,0⟩,(nH c r L).log++[kZ r L.length e],(nH c r L).sent,(nH c r L).ic.inc (nH c r L).r,(nH c r L).held,(nH c r L).wait++[kZ r L.length e]⟩:Nd)=nH c r (L++[kZ r L.length e]):=by
      unfold nH
      dsimp only
      rw[Zq hr,List.length_append,show((L.length+[kZ r L.length e].length:Nat):Int)=(L.length:Int)+1 by simp]
     rw[e1]at this
     exact this
   · rw[if_neg hq]at hs
     cases hs
     exact LY (nH c r L) e hB rfl hc hq
 · rw[if_pos hc]at hs
   cases hs
   exact Rk (nH c r L) e hB rfl _ rfl hc
end
section
open Go.RowKit
instance:Inhabited Ed:=⟨⟨0,⟨#[]⟩,0,⟨#[]⟩⟩⟩
abbrev edF (l:List Ed):Nat→List AV:=qL Ed.cs l
def Ed.rng (e:Ed):Prop:=e.key.size≤140737488355328∧e.v.size≤140737488355328
def wV (c:nJ) (r:Nat) (l:List Ed):List Ev:=l.foldl (fun L e=>(Bj c r L (lY e)).1) []
theorem JR (c:nJ) (r:Nat) {l:List Ed} {i:Nat} (h:i<l.length):wV c r (l.take (i+1))=(Bj c r (wV c r (l.take i)) (lY (l.getD i default))).1:=by
 unfold wV
 rw[pV h]
theorem Du (c:nJ) (r:Nat) (L:List Ev) (e:Ed):(Bj c r L e=(L++[kZ r L.length e],kZ r L.length e,0)∧(L.length:Int)<c.q)∨ ∃x,x≠0∧Bj c r L e=(L,Zn,x):=by
 unfold Bj
 by_cases h:nS c.l c.p (oU L) e≠0
 · rw[if_pos h];exact .inr ⟨_,h,rfl⟩
 · rw[if_neg h]
   by_cases h':(L.length:Int)<c.q
   · rw[if_pos h'];exact .inl ⟨rfl,h'⟩
   · rw[if_neg h'];exact .inr ⟨17,by decide,rfl⟩
theorem G6 {c:nJ} {r:Nat} (hq:0≤c.q) (l:List Ed): ∀i,i≤l.length→Own r (wV c r (l.take i))∧(wV c r (l.take i)).length≤i∧((wV c r (l.take i)).length:Int)≤c.q
  |0,_=>⟨Own.nil r,Nat.le_refl _,hq⟩
  | i +1,h=>by
    obtain⟨h1,h2,h3⟩:=G6 (r:=r) hq l i (by omega)
    rw[JR c r h]
    rcases Du c r (wV c r (l.take i)) (lY (l.getD i default))with⟨e,hlt⟩|⟨x,hx,e⟩
    · rw[e]
      refine⟨h1.snoc (Om _), ?_, ?_⟩<;>(simp only[List.length_append,List.length_singleton];omega)
    · rw[e]
      exact⟨h1,by dsimp only;omega,h3⟩
end
section
open Go.RowKit
theorem abn (c:nJ) {r:Nat} (hr:r<5) (hq:0≤c.q) (l:List Ed) (hl: ∀e∈l,e.rng) (hn:l.length≤140737488355328):
  aW Tryz.prog 13 [(0,.obs (lM (nH c r [])))] [.box 0 0,.sl 4 l.length true (edF l)] (.own 3) [(0,.obs (lM (nH c r (wV c r (l.take 30))))),(3,fK (wV c r (l.take 30)))]:=by
 have hown:=G6 (c:=c) (r:=r) hq l
 have hsn:=fun i=>JR c r (l:=l) (i:=i)
 have hfit: ∀i,i<l.length→aG Tryz.prog 32 [(l.getD i default).av] (lY (l.getD i default)).av []:=fun i hi=>by
  have:=hl (l.getD i default) (by simp[List.getD,hi])
  exact QA _ this.1 this.2
 have hed: ∀i,i<l.length→i<30→ ∀ {L' v x},Bj c r (wV c r (l.take i)) (lY (l.getD i default))=(L',v,x)→aW Tryz.prog 22 [(0,.obs (lM (nH c r (wV c r (l.take i)))))] [.box 0 0,(lY (l.getD i default)).av] (.dL [v.av,.v (.int .i64 x)]) [(0,.obs (lM (nH c r L')))]:=fun i hi h30 L' v x hs=>
  Zr hr (hown i (by omega)).1 (by have:=(hown i (by omega)).2.1;omega) (Om _) hs
 have hcs:=fun i=>Du c r (wV c r (l.take i)) (lY (l.getD i default))
 have hle:=fun i (h:i≤l.length)=>(hown i h).2.1
 have h30: ∀i,¬i<l.length∨ ¬i<30→i≤l.length→i≤30→wV c r (l.take 30)=wV c r (l.take i):=fun i h h1 h2=>by
  congr 1
  rcases h with h|h
  · rw[List.take_of_length_le (by omega),List.take_of_length_le (by omega)]
  · rw[show i=30 by omega]
 have hz:wV c r (l.take 0)=[]:=rfl
 clear hl hown
 generalize wV c r=R at*
 generalize nH c r=S at*
 clear hr hq
 generalize Bj c r=T at*
 refine K1.M 0x800201f3 Tryz.func13 40 ?_
 repeat' ((conv=>whnf);first|refine K1.w ?_|refine K1.u ?_|refine K1.z ?_|refine K1.y (fun _=>?_) (fun _=>?_)|fail)
 conv=>whnf
 refine aN.mk {j:Nat//j≤l.length∧j≤30} (fun j=>⟨[(0,.box 0 0),(1,.sl 4 l.length true (edF l)),(5,.own 40),(6,.v (.int .i64 (j.1:Int)))],[(40,fK (R (l.take j.1))),(0,.obs (lM (S (R (l.take j.1)))))],[[(0,.own 0)]],41⟩) (fun j=>l.length-j.1) ⟨0,Nat.zero_le _,Nat.zero_le _⟩ _
  (dO.mk' [] _ _ _ rfl ⟨aj,aj,aj,aT.int rfl,trivial⟩ ⟨⟨_,rfl,cO.row (by rw[hz];rfl) fun i hi=>absurd hi (Nat.not_lt_zero i)⟩,⟨_,rfl,by rw[hz];exact cO.refl _⟩,trivial⟩ rfl) ?_
 rintro⟨j,hj,hj3⟩
 dsimp only[fK]
 by_cases hjl:j<l.length
 · by_cases Zt:j<30
   · have hf:=hfit j hjl
     have hlen:=hle j hj
     rcases hcs j with⟨e,_⟩|⟨x,hx,e⟩
     · have hd:=hed j hjl Zt e
       have hn:=hsn j hjl
       rw[e]at hn
       dsimp only at hn
       clear hfit hed hcs hle h30 hsn e
       generalize R (l.take j)=L at*
       generalize kZ r L.length (lY (l.getD j default))=v at*
       generalize lY (l.getD j default)=fe at*
       dsimp only[Ed.av,Ev.av,Ev.cs]at hf hd
       repeat' ((conv=>whnf);first|refine K1.w ?_|refine K1.u ?_|refine K1.P1 hf rfl ?_|refine K1.C 1 [(0,_)] (hd) rfl ?_|refine K1.z ?_|refine K1.y (fun _=>?_) (fun _=>?_)|fail)
       all_goals(conv=>whnf)
       exact⟨⟨j+1,hjl,Zt⟩,_,dO.mk' [(44,40)] _ _ _ rfl ⟨aj,aj,aj,aT.int rfl,trivial⟩ ⟨⟨_,rfl,by rw[hn];exact cO.row (by simp) fun m hm=>bJ (c:=Ev.cs) (l:=L) rfl rfl m hm⟩,⟨_,rfl,by rw[hn];exact cO.refl _⟩,trivial⟩ rfl,by show l.length-(j+1)<l.length-j;omega⟩
     · have hd:=hed j hjl Zt e
       have hn:=hsn j hjl
       rw[e]at hn
       dsimp only at hn
       clear hfit hed hcs hle h30 hsn e
       generalize R (l.take j)=L at*
       generalize lY (l.getD j default)=fe at*
       dsimp only[Ed.av,Ev.av,Ev.cs]at hf hd
       repeat' ((conv=>whnf);first|refine K1.w ?_|refine K1.u ?_|refine K1.P1 hf rfl ?_|refine K1.C 1 [(0,_)] (hd) rfl ?_|refine K1.z ?_|refine K1.y (fun _=>?_) (fun _=>?_)|fail)
       all_goals(conv=>whnf)
       exact⟨⟨j+1,hjl,Zt⟩,_,dO.mk' [] _ _ _ rfl ⟨aj,aj,aj,aT.int rfl,trivial⟩ ⟨⟨_,rfl,by rw[hn];exact cO.refl _⟩,⟨_,rfl,by rw[hn];exact cO.refl _⟩,trivial⟩ rfl,by show l.length-(j+1)<l.length-j;omega⟩
   · rw[h30 j (.inr Zt) hj hj3]
     repeat' ((conv=>whnf);first|refine K1.w ?_|refine K1.u ?_|refine K1.z ?_|refine K1.y (fun _=>?_) (fun _=>?_)|fail)
     all_goals(conv=>whnf)
     exact⟨[(40,3)],rfl,rfl,⟨aH rfl,aH rfl,trivial⟩,rfl,rfl,aj⟩
 · rw[h30 j (.inl hjl) hj hj3]
   repeat' ((conv=>whnf);first|refine K1.w ?_|refine K1.u ?_|refine K1.z ?_|refine K1.y (fun _=>?_) (fun _=>?_)|fail)
   all_goals(conv=>whnf)
   exact⟨[(40,3)],rfl,rfl,⟨aH rfl,aH rfl,trivial⟩,rfl,rfl,aj⟩
end
section
open Go.RowKit
theorem Ue {z:Value} (hz:z.cells.size=12) (h1: ∀u∈z.cells.toList,u.oneCell'=true): ∀m,(List.replicate m z.cells.toList).flatten.length=m*12∧ ∀u∈(List.replicate m z.cells.toList).flatten,u.oneCell'=true
  |0=>⟨by simp,fun u h=>by simp at h⟩
  | m+1=>by
    obtain⟨a,b⟩:=Ue hz h1 m
    rw[List.replicate_succ,List.flatten_cons]
    refine⟨by rw[List.length_append,a,Array.length_toList,hz];omega,fun u hu=>?_⟩
    rcases List.mem_append.1 hu with h|h
    · exact h1 u h
    · exact b u h
theorem Pg {t e ty:TypeId} {z:Value} {w:World} (hu:Tryz.prog.underlying t=some (.slice e)) (hz:(zeroValue e).run Tryz.prog w= .ok z w) (hzs:z.cells.size=12) (h1: ∀u∈z.cells.toList,u.oneCell'=true) {b o m c:Nat} (hm:0<m)
  (hc: ∀j,j<m*12→(w.cell? ⟨b,o+j,none⟩).isSome=true) (hf: ∀j,j<m*12→w.frozen? ⟨b,o+j,none⟩=false):
  (Builtin.clear_ #[t] ty #[.slice (some ⟨b,o,none⟩) m c]).run Tryz.prog w= .ok (.tuple #[]) (w.setCells b o (List.replicate m z.cells.toList).flatten):=by
 obtain⟨z1,z2⟩:=Ue hzs h1 m
 have hst:=run_storeCells_cells (P:=Tryz.prog) b o (List.replicate m z.cells.toList).flatten 0 w (by rw[z1];simpa using hc) (by rw[z1];simpa using hf) z2
 simp only[Nat.add_zero]at hst
 exact vI hu hz hzs hm hst
theorem uM {w:World} {b:Nat} {t:TypeId} {n:Nat} {f:Nat→Value} (h:w.rowIs b t n f) {j:Nat} (hj:j<n):w.cell? ⟨b,j,none⟩=some (f j)∧w.frozen? ⟨b,j,none⟩=false:=by
 obtain⟨c,h1,h2,h3⟩:=h
 have:=h3 j hj
 exact⟨by simp[World.cell?,h1,this],by simp[World.frozen?,h1]⟩
theorem zD (b:Nat) (w:World): ∀ (vs:List Value) (o:Nat) (v:World),eF (fun k=>k=b) w.heap.size w v→eF (fun k=>k=b) w.heap.size w (v.setCells b o vs)
  |[],_,_,h=>h
  |x::r,o,v,h=>zD b w r (o+1) _ ⟨h.os,h.tape,h.output,by
     have:=h.size
     simpa[World.setCell]using this,fun k hk hM=>by
     rw[←h.block k hk hM]
     exact heap_setCell_other v _ k x hM⟩
theorem Zu {w:World} {keep:Nat→Prop} {v:Value} {e:TypeId} {s:Nat} {F:Nat→List AV} (hs:0<s) (hv:v= .slice none 0 0∨ ∃g G cur,v= .slice (some ⟨g,0,none⟩) 0 G∧w.heap[g]? =some (.cells cur e (0,0))∧G≤maxLen∧cur.size=G*s) {ρ:Nat→Value}:oC ⟨w,keep,ρ⟩ v e s 0 true F:=by
 refine⟨[],⟨by simp, ?_⟩,hs,fun i hi=>absurd hi (Nat.not_lt_zero i),fun _ x hx=>(by cases hx),aF.nil⟩
 rcases hv with rfl|⟨g,G,cur,rfl,h1,h2,h3⟩
 · exact .inl ⟨rfl,rfl⟩
 · exact .inr ⟨g,G,cur,rfl,Nat.zero_le _,h1,Nat.zero_le _,h2,h3,by simp⟩
theorem Rn {R:AV→Value→Prop} {x y z:AV} {us:List Value} (h:aF R [x,y,z] us): ∃u v t,us=[u,v,t]∧R x u∧R y v∧R z t:=by
 match us,h with
 |[u,v,t],h=>exact⟨u,v,t,rfl,h.2 0 _ _ rfl rfl,h.2 1 _ _ rfl rfl,h.2 2 _ _ rfl rfl⟩
theorem V3 (g cap n k:Nat) (cur:Array Value) (w:World) (hg:w.heap[g]? =some (.cells cur 42 (0,0))) (hn:n≤cap) (hcm:cap≤maxLen) (hcs:cur.size=cap*12) (hk:k≤n) (h1: ∀u∈cur.toList.take (n*12),u.oneCell'=true):
  Calls Tryz.prog 106 #[.slice (some ⟨g,0,none⟩) n cap,.int .i64 0,.int .i64 (k:Int)] w fun e w'=>e= .returned (.slice (some ⟨g,0,none⟩) (n-k) cap)∧eF (fun b=>b=g) w.heap.size w w'∧
   ∃cur',w'.heap[g]? =some (.cells cur' 42 (0,0))∧cur'.size=cur.size∧cur'.toList.take ((n-k)*12)=(cur.toList.drop (k*12)).take ((n-k)*12):=by
 obtain⟨i0,hi0,hz0,hs0⟩: ∃i0:TypeInfo,Tryz.prog.info? 42=some i0∧i0.zero=some (WA ev0)∧i0.size=12:=⟨_,rfl,rfl,rfl⟩
 have hcap:cap≤9223372036854775807:=by unfold maxLen at hcm;omega
 by_cases h0:k=0
 · subst h0
   have hc:Calls Tryz.prog 106 #[.slice (some ⟨g,0,none⟩) n cap,.int .i64 0,.int .i64 0] w fun e w'=>e= .returned (.slice (some ⟨g,0,none⟩) n cap)∧w'=w:=by
    clear hg
    go_enter Tryz.func106,Tryz.ntmps106
    go_wp2
    all_goals(go_ret;exact⟨rfl,rfl⟩)
   refine hc.mono ?_
   rintro e w' ⟨rfl,rfl⟩
   exact⟨rfl,eF.refl _ _ _,cur,hg,rfl,by simp⟩
 · have hR:w.drew.rowIs g 42 (cap*12) (fun j=>cur[j]?.getD default):=⟨cur,hg,hcs,fun i hi=>by show cur[i]? =some (cur[i]?.getD default);rw[Array.getElem?_eq_getElem (by omega)];rfl⟩
   obtain⟨news,hnews⟩: ∃news,news=(cur.toList.drop (k*12)).take ((n-k)*12):=⟨_,rfl⟩
   have hlen:news.length=(n-k)*12:=by rw[hnews,List.length_take,List.length_drop,Array.length_toList,hcs];omega
   have hget: ∀t u,news[t]? =some u→cur[k*12+t]? =some u:=by
    intro t u h
    rw[hnews,List.getElem?_take]at h
    split at h
    · rw[List.getElem?_drop,Array.getElem?_toList]at h;exact h
    · cases h
   obtain⟨A,hA,hsrc⟩: ∃A:Addr,(if cap=k then some (⟨g,0,none⟩:Addr)else some ⟨g,k*12,none⟩)=some A∧Hid (∀t u,news[t]? =some u→w.drew.cell? (A.add t)=some u):=by
    by_cases h:cap=k
    · refine⟨⟨g,0,none⟩,by simp[h],fun t u hu=>?_⟩
      have h0:news.length=0:=by rw[hlen];omega
      rw[List.length_eq_zero_iff.1 h0]at hu
      simp at hu
    · refine⟨⟨g,k*12,none⟩,by simp[h],fun t u hu=>?_⟩
      have hc:=hget t u hu
      have ht:k*12+t<cap*12:=by rw[←hcs];exact(Array.getElem?_eq_some_iff.1 hc).1
      rw[add_lit,(uM hR ht).1,hc]
      rfl
   have s1:Hid (news.length=(n-k)*12):=hlen
   have s2:Hid (∀u∈news,u.oneCell'=true):=by
    intro u hu
    rw[hnews]at hu
    obtain⟨t,ht,rfl⟩:=List.getElem_of_mem hu
    have h2:=hget t _ (by rw[hnews];exact List.getElem?_eq_getElem ht)
    rw[List.length_take,List.length_drop,Array.length_toList,hcs]at ht
    refine h1 _ (List.mem_iff_getElem?.2 ⟨k*12+t, ?_⟩)
    rw[List.getElem?_take,if_pos (by omega),Array.getElem?_toList]
    exact h2
   have s3:Hid (∀t,t<news.length→(w.drew.cell? ⟨g,0+0*12+t,none⟩).isSome=true∧w.drew.frozen? ⟨g,0+0*12+t,none⟩=false):=by
    intro t ht
    rw[hlen]at ht
    have:=uM hR (j:=t) (by omega)
    rw[show 0+0*12+t=t by omega]
    exact⟨by rw[this.1];rfl,this.2⟩
   obtain⟨W1,hW1⟩: ∃W1,W1=w.drew.setCells g (0+0*12) news:=⟨_,rfl⟩
   have hR1:=Go.rowIs_setCells news (0+0*12) w.drew _ hR
   have hB1:eF (fun b=>b=g) w.heap.size w W1:=by rw[hW1];exact zD g w news _ _ ⟨rfl,rfl,rfl,Nat.le_refl _,fun _ _ _=>rfl⟩
   rw[←hW1]at hR1
   have hcl: ∀ty,(Builtin.clear_ #[39] ty #[.slice (some ⟨g,(n-k)*12,none⟩) (n-(n-k)) (cap-(n-k))]).run Tryz.prog W1= .ok (.tuple #[]) (W1.setCells g ((n-k)*12) (List.replicate (n-(n-k)) (WA ev0).cells.toList).flatten):=
    fun ty=>Pg Tryz.underlying39 (pI W1) rfl (by decide) (by omega) (fun j hj=>by rw[(uM hR1 (by omega)).1];rfl) (fun j hj=>(uM hR1 (by omega)).2)
   obtain⟨W2,hW2⟩: ∃W2,W2=W1.setCells g ((n-k)*12) (List.replicate (n-(n-k)) (WA ev0).cells.toList).flatten:=⟨_,rfl⟩
   have hR2:=Go.rowIs_setCells (List.replicate (n-(n-k)) (WA ev0).cells.toList).flatten ((n-k)*12) W1 _ hR1
   have hB2:eF (fun b=>b=g) w.heap.size w W2:=by rw[hW2];exact zD g w _ _ _ hB1
   rw[←hW2]at hR2 hcl
   have hfin: ∃cur',W2.heap[g]? =some (.cells cur' 42 (0,0))∧cur'.size=cur.size∧cur'.toList.take ((n-k)*12)=news:=by
    obtain⟨c,c1,c2,c3⟩:=hR2
    refine⟨c,c1,by omega,List.ext_getElem? fun t=>?_⟩
    rw[List.getElem?_take]
    by_cases ht:t<(n-k)*12
    · rw[if_pos ht,Array.getElem?_toList,c3 t (by omega)]
      dsimp only
      rw[if_neg (by omega),if_pos (by omega),show t-(0+0*12)=t by omega,List.getElem?_eq_getElem (by omega)]
      rfl
    · rw[if_neg ht,List.getElem?_eq_none (by omega)]
   have hW:Hid (W1=w.drew.setCells g (0+0*12) news):=hW1
   have hnk:n-k≤cap:=by omega
   have hkc:k≤cap:=by omega
   have hne: ¬ ((0:Int)=(k:Int)):=by omega
   rw[←hnews]
   clear hW1 hR hR1 hR2 hB1 hg hcs h1 hget hlen hW2 hi0 hz0
   refine Calls.mono (R:=fun e w'=>e= .returned (.slice (some ⟨g,0,none⟩) (n-k) cap)∧w'=W2) ?_ (by rintro e w' ⟨rfl,rfl⟩;exact⟨rfl,hB2,hfin⟩)
   clear hB2 hfin
   obtain⟨i0,hi0,hs0⟩: ∃i0:TypeInfo,Tryz.prog.info? 42=some i0∧i0.size=12:=⟨_,rfl,rfl⟩
   go_enter Tryz.func106,Tryz.ntmps106
   go_wp2_with fail
   go_region_law (refine step_append_room rfl (.tmp 22) (.tmp 25) 39 rfl 42 i0 12 Tryz.underlying39 hi0 hs0 g 0 0 cap (by simp[Act.eval,Act.put]) A (n-k) (cap-k) news (by simp[Act.eval,Act.put]) s1.out hsrc.out s2.out (by omega) s3.out ?_;rw[←hW.out])
   go_wp2
   go_ret
   exact⟨rfl,rfl⟩
theorem abo (w:World):Calls Tryz.prog 106 #[.slice none 0 0,.int .i64 0,.int .i64 0] w fun e w'=>e= .returned (.slice none 0 0)∧w'=w:=by
 go_enter Tryz.func106,Tryz.ntmps106
 go_wp2
 all_goals(go_ret;exact⟨rfl,rfl⟩)
theorem JU {α:Type} {c:α→List AV} {s:Nat} (hc: ∀e,(c e).length=s): ∀ (k:Nat) (l:List α),k≤l.length→(l.flatMap c).drop (k*s)=(l.drop k).flatMap c
  |0,l,_=>by simp
  |k+1,[],h=>absurd h (by simp)
  | k+1,x::l,h=>by
    rw[List.flatMap_cons,List.drop_succ_cons,←JU hc k l (by simpa using h),show(k+1)*s=(c x).length+k*s by rw[hc,Nat.add_mul];omega,List.drop_length_add_append]
theorem Uf {w w':World} {keep keep':Nat→Prop} {xs:List AV} {us:List Value} (hs: ∀x∈xs,∃y,x= .v y) (h:aF (PC w keep) xs us):aF (PC w' keep') xs us∧ ∀u∈us,u.oneCell'=true:=by
 refine⟨⟨h.1,fun i x u hx hu=>?_⟩,fun u hu=>?_⟩
 · obtain⟨y,rfl⟩:=hs x (List.mem_of_getElem? hx)
   have:=h.2 i _ u hx hu
   cases this with|v _ h1=>exact .v _ h1
 · obtain⟨i,hi⟩:=List.mem_iff_getElem?.1 hu
   have hl:i<xs.length:=by rw[h.1];exact(List.getElem?_eq_some_iff.1 hi).1
   obtain⟨y,hy⟩:=hs xs[i] (List.getElem_mem hl)
   have:=h.2 i _ u (by rw[List.getElem?_eq_getElem hl,hy]) hi
   cases this with|v _ h1=>exact h1
theorem aF.drop' {R:AV→Value→Prop} {xs:List AV} {us:List Value} (h:aF R xs us) (k:Nat):aF R (xs.drop k) (us.drop k):=
 ⟨by rw[List.length_drop,List.length_drop,h.1],fun i x u hx hu=>h.2 (k+i) x u (by rw[List.getElem?_drop]at hx;exact hx) (by rw[List.getElem?_drop]at hu;exact hu)⟩
theorem ad3 (k:Nat) (l:List Ev) (hk:k≤l.length):aW Tryz.prog 106 [(0,fK l)] [.own 0,.v (.int .i64 0),.v (.int .i64 (k:Int))] (.own 1) [(1,fK (l.drop k))]:=by
 refine⟨⟨_,_,Tryz.func106,rfl,rfl⟩,fun w keep ρ args hkp kL hnd hbl hargs=>?_⟩
 obtain⟨us,hown,_,hfl,hsc,ha⟩:=kL _ (List.mem_singleton.2 rfl)
 have hsc:=hsc rfl
 obtain⟨u,v,x,rfl,hu,hv,hx⟩:=Rn hargs
 have hu:u=ρ 0:=Eq.trans (show u=dZ (ρ 0)from hu) (fQ hown)
 have hv:v= .int .i64 0:=hv
 have hx:x= .int .i64 (k:Int):=hx
 subst hu hv hx
 have hlen: ∀e:Ev,(Ev.cs e).length=12:=fun _=>rfl
 have Us:us.length=l.length*12:=hown.1
 have hfe:flat l.length (eG l)=l.flatMap Ev.cs:=Aq Ev.cs l
 have hfd:flat (l.drop k).length (eG (l.drop k))=(flat l.length (eG l)).drop (k*12):=by rw[hfe,JU hlen k l hk];exact Aq Ev.cs _
 have hsd: ∀x∈flat (l.drop k).length (eG (l.drop k)),∃y,x= .v y:=fun x hx=>by rw[hfd]at hx;exact hsc x (List.mem_of_mem_drop hx)
 rcases hown.2 with⟨hv,hn⟩|⟨g,cap,cur,hv,_,hg,hncap,hcm,hcs,htk⟩
 · have hnil:l=[]:=List.eq_nil_of_length_eq_zero hn
   subst hnil
   obtain rfl:k=0:=Nat.le_zero.1 hk
   rw[show(ρ 0)= .slice none 0 0 from hv]
   refine(abo w).mono ?_
   rintro e w' ⟨rfl,rfl⟩
   let ρ':Nat→Value:=fun _=> .slice none 0 0
   refine⟨_,ρ',rfl,eF.refl _ _ _,fun p hp q hq h=>?_,rfl,fun p hp=>?_,by simp[ah,ρ',blks,jg],fun b hb=>by simp[ah,ρ',blks,jg]at hb⟩
   · obtain rfl:=List.mem_singleton.1 hp
     obtain rfl:=List.mem_singleton.1 hq
     cases h
   · obtain rfl:=List.mem_singleton.1 hp
     exact Zu (by decide) (.inl rfl)
 · rw [show(ρ 0)= .slice (some ⟨g,0,none⟩) l.length cap from hv]
   refine(V3 g cap l.length k cur w hg hncap hcm hcs hk (by rw[htk];exact(Uf (w':=w) (keep':=keep) hsc ha).2)).mono ?_
   rintro e w' ⟨rfl,hB,cur',hg',hcs',aeI⟩
   have hb:g∈ah ρ [(0,fK l)]:=aO.2 ⟨_,List.mem_singleton.2 rfl,by rw[show ρ 0= .slice (some ⟨g,0,none⟩) l.length cap from hv];exact List.mem_cons_self⟩
   let ρ':Nat→Value:=fun _=> .slice (some ⟨g,0,none⟩) (l.length-k) cap
   have hdl:(l.drop k).length=l.length-k:=List.length_drop
   refine⟨_,ρ',rfl,⟨hB.os,hB.tape,hB.output,hB.size,fun j hj hM=>hB.block j hj (by rintro rfl;exact hM hb)⟩,fun p hp q hq h=>?_,rfl,fun p hp=>?_,by simp[ah,ρ',blks,jg],fun b hbm=>?_⟩
   · obtain rfl:=List.mem_singleton.1 hp
     obtain rfl:=List.mem_singleton.1 hq
     cases h
   · obtain rfl:=List.mem_singleton.1 hp
     refine⟨us.drop (k*12),⟨by rw[List.length_drop,Us,hdl,Nat.sub_mul],.inr ⟨g,cap,cur',by rw[hdl];rfl,Nat.zero_le _,hg',by omega,hcm,by rw[hcs',hcs], ?_⟩⟩,by decide,fun _ _=>rfl,fun _=>hsd, ?_⟩
     · rw[hdl,aeI,←htk,List.drop_take,Nat.sub_mul]
     · rw[hfd]
       exact(Uf (fun x hx=>hsc x (List.mem_of_mem_drop hx)) (ha.drop' (k*12))).1
   · have:b=g:=by simpa[ah,ρ',blks,jg]using hbm
     subst this
     exact .inr hb
end
section
open Go.RowKit
theorem Ro (d:Nat) {n:Nat} {F:Nat→List AV} (hl:n≤1000000000):aG Tryz.prog 65 [.sl 12 n true F] (.own d) [(d,.row 42 12 n true F)]:=by
 refine K1.E 0x15 Tryz.func65 ?_
 repeat' ((conv=>whnf);first|refine K1.w ?_|refine K1.u ?_|refine K1.z ?_|refine K1.y (fun _=>?_) (fun _=>?_)|fail)
 all_goals(conv=>whnf)
 · obtain rfl:n=0:=by assumption
   exact aJ.nil d _ 12 _ rfl (by decide)
 · exact aJ.qo d rfl rfl (cO.row (by omega) fun i hi=>rfl) (aj)
theorem Ph (b:Nat) (most batch sent:Int) (n cap:Nat) (w:World) (A:Option Addr) (hb:w.heap[b]? =some (.cells #[.int .i64 most,.int .i64 batch,.int .i64 sent,.slice A n cap] 132 (0,0))) (hn:n≤cap) (hc:cap≤maxLen) (hA:A=none→cap=0)
  {Φ:Value→World→Prop} (hcl:Calls Tryz.prog 65 #[.slice A (min (max batch 0) (n:Int)).toNat (min (max batch 0) (n:Int)).toNat] w.drew fun e w2=> ∃u,e= .returned u∧Φ u w2):
  Calls Tryz.prog 42 #[.pointer (some ⟨b,0,none⟩)] w fun e w2=> ∃u,e= .returned u∧Φ u w2:=by
 have c1:w.cell? ⟨b,1,none⟩=some (.int .i64 batch):=by simp[World.cell?,hb]
 have c3:w.cell? ⟨b,3,none⟩=some (.slice A n cap):=by simp[World.cell?,hb]
 have hk:(min (max batch 0) (n:Int)).toNat≤cap:=by omega
 have hk0:0≤min (max batch 0) (n:Int):=by omega
 have hkc:min (max batch 0) (n:Int)≤cap:=by omega
 clear hb
 go_enter Tryz.func42,Tryz.ntmps42
 go_wp2
 go_region
 all_goals go_wp2_with (go_at_call 65;refine hcl.mono ?_;rintro e w2 ⟨u,rfl,hu⟩)
 all_goals go_ret
 all_goals exact⟨_,rfl,hu⟩
theorem JV {s:Nat}: ∀ (k n:Nat) (F:Nat→List AV),k≤n→(∀i,i<k→(F i).length=s)→flat k F=(flat n F).take (k*s)
  |0,n,F,_,_=>by rw[Nat.zero_mul,List.take_zero];rfl
  |k+1,0,F,h,_=>absurd h (by omega)
  | k+1,n+1,F,h,hF=>by
    show F 0++flat k (fun i=>F (i+1))=(F 0++flat n (fun i=>F (i+1))).take ((k+1)*s)
    rw[JV k n (fun i=>F (i+1)) (by omega) (fun i hi=>hF (i+1) (by omega)),show(k+1)*s=(F 0).length+k*s by rw[hF 0 (by omega),Nat.add_mul];omega,List.take_length_add_append]
theorem aF.take' {R:AV→Value→Prop} {xs:List AV} {us:List Value} (h:aF R xs us) (k:Nat):aF R (xs.take k) (us.take k):=
 ⟨by rw[List.length_take,List.length_take,h.1],fun i x u hx hu=>by
  rw[List.getElem?_take]at hx hu
  split at hx
  · rw[if_pos ‹_›]at hu;exact h.2 i x u hx hu
  · cases hx⟩
theorem abp (most batch sent:Int) (l:List Ev) (hl:l.length≤1000000):aW Tryz.prog 42 [(0,zi most batch sent (.own 1)),(1,fK l)] [.box 0 0] (.sl 12 (min (max batch 0) (l.length:Int)).toNat true (eG l)) [(0,zi most batch sent (.own 1)),(1,fK l)]:=by
 refine⟨⟨_,_,Tryz.func42,rfl,rfl⟩,fun w keep ρ args hkp kL hnd hbl hargs=>?_⟩
 obtain⟨b,us0,hρ,hb,ha0⟩:=kL (0,zi most batch sent (.own 1)) List.mem_cons_self
 obtain⟨us,hown,_,hfl,hsc,ha⟩:=kL (1,fK l) (List.mem_cons_of_mem _ List.mem_cons_self)
 have hρ:ρ 0= .pointer (some ⟨b,0,none⟩):=hρ
 have hb:w.heap[b]? =some (.cells us0.toArray 132 (0,0)):=hb
 have hown:w.ownsRow 0 42 12 (ρ 1) l.length us:=hown
 have e0:us0=[.int .i64 most,.int .i64 batch,.int .i64 sent,ρ 1]:=by
  match us0,ha0 with
  | [x0,x1,x2,x3],h=>
    have h0:x0=_:=h.2 0 _ _ rfl rfl
    have h1:x1=_:=h.2 1 _ _ rfl rfl
    have h2:x2=_:=h.2 2 _ _ rfl rfl
    have h3:x3=dZ (ρ 1):=h.2 3 _ _ rfl rfl
    rw[h0,h1,h2,h3,fQ hown]
 obtain⟨u,rfl,hu⟩:=qR hargs
 obtain⟨b',hb1,rfl⟩: ∃b',dZ (ρ 0)= .pointer (some ⟨b',0,none⟩)∧u= .pointer (some ⟨b',0,none⟩):=hu
 rw[hρ]at hb1
 cases hb1
 obtain⟨A,cap,hv,hA,hnc,hcm⟩: ∃A cap,ρ 1= .slice A l.length cap∧(A=none→cap=0)∧l.length≤cap∧cap≤maxLen:=by
  rcases hown.2 with⟨hv,hn⟩|⟨g,cap,cur,hv,_,_,h1,h2,_⟩
  · exact⟨none,0,by rw[hv,hn],fun _=>rfl,by omega,by simp[maxLen]⟩
  · exact⟨some ⟨g,0,none⟩,cap,hv,fun h=>(by cases h),h1,h2⟩
 generalize hK:(min (max batch 0) (l.length:Int)).toNat=K
 have hKl:K≤l.length:=by omega
 have hb2:w.heap[b]? =some (.cells #[.int .i64 most,.int .i64 batch,.int .i64 sent,.slice A l.length cap] 132 (0,0)):=by rw[hb,e0,hv]
 refine(Ph b most batch sent l.length cap w A hb2 hnc hcm hA (Φ:=fun u w'=>Below w.heap.size w w'∧PC w' (aI (gU w keep (fun b=>b∈ah ρ [(0,zi most batch sent (.own 1)),(1,fK l)])) w' ρ [(0,zi most batch sent (.own 1)),(1,fK l)]) (.sl 12 K true (eG l)) u) ?_).mono ?_
 · rw [hK]
   have hblk: ∀c∈blks (ρ 1),c<w.heap.size:=fun c hc=>(hbl c (aO.2 ⟨(1,fK l),List.mem_cons_of_mem _ List.mem_cons_self,hc⟩)).1
   have hfk:flat K (eG l)=(flat l.length (eG l)).take (K*12):=JV K l.length _ hKl (fun i _=>rfl)
   have hpc:PC w.drew (fun c=>c∈blks (ρ 1)) (.sl 12 K true (eG l)) (.slice A K K):=by
    refine .sl 12 K true (eG l) A K (us.take (K*12)) (by decide) (Nat.le_refl _) (by omega) (by rw[List.length_take,hown.1];omega) (fun _ _=>rfl) (fun _ x hx=>?_) ?_ ?_
    · rw[hfk]at hx
      exact hsc rfl x (List.mem_of_mem_take hx)
    · rw[hfk]
      exact((Uf (fun x hx=>hsc rfl x hx) ha).1.take' (K*12)).2
    · rcases hown.2 with⟨hv',hn⟩|⟨g,cap',cur,hv',_,hg,h1,h2,h3,h4⟩
      · exact .inl (by omega)
      · rw[hv]at hv'
        cases hv'
        refine .inr ⟨g,0,rfl,by rw[hv];exact List.mem_cons_self,fun j u hj=>?_⟩
        have hj':us[j]? =some u:=by rw[List.getElem?_take]at hj;split at hj;exact hj;cases hj
        have:=hown.cells (g:=g) (by rw[hv];rfl) j u hj'
        rw[Addr.add_lit]at this
        exact this
   refine((Ro 0 (n:=K) (F:=eG l) (by omega)).2 w.drew (fun c=>c∈blks (ρ 1)) [.slice A K K] hblk ⟨rfl,fun i x u hx hu=>?_⟩).mono ?_
   · match i,hx,hu with
     |0,hx,hu=>cases hx;cases hu;exact hpc
   · rintro e w' ⟨u,ρ',h1,h2,h3,h4,h5,h6⟩
     obtain⟨us',hown',hs0,ab7,Ut,hall⟩:=h4 _ (List.mem_singleton.2 rfl)
     have hown':w'.ownsRow 0 42 12 (ρ' 0) K us':=hown'
     have h2:Below w.heap.size w w':=⟨h2.os,h2.tape,h2.output,h2.size,h2.block⟩
     refine⟨u,h1,h2, ?_⟩
     have h3:u=ρ' 0:=Eq.trans (show u=dZ (ρ' 0)from h3) (fQ hown')
     have ha':=(Uf (w':=w') (keep':=aI (gU w keep (fun b=>b∈ah ρ [(0,zi most batch sent (.own 1)),(1,fK l)])) w' ρ [(0,zi most batch sent (.own 1)),(1,fK l)]) (fun x hx=>Ut rfl x hx) hall).1
     rw[h3]
     rcases hown'.2 with⟨hv',hz⟩|⟨g,cap',cur,hv',hB,hh,hnc',hcm',_⟩
     · rw[hv']
       rw[hz]at hown' ha'⊢
       exact .sl 12 0 true _ none 0 us' (by decide) (Nat.le_refl _) (by simp[maxLen]) hown'.1 (fun _ _=>rfl) (fun _ x hx=>by simp[flat]at hx) ha'.2 (.inl rfl)
     · rw[hv']
       have hge:w.heap.size≤g:=h6 g (aO.2 ⟨_,List.mem_singleton.2 rfl,by rw[hv'];exact List.mem_cons_self⟩)
       refine .sl 12 K true _ _ cap' us' (by decide) hnc' hcm' hown'.1 (fun _ _=>rfl) (fun h x hx=>Ut h x hx) ha'.2 (.inr ⟨g,0,rfl,⟨(Array.getElem?_eq_some_iff.1 hh).1,fun hlt=>absurd (show g<w.heap.size from hlt) (by omega),fun h=>?_⟩,fun j u hj=>?_⟩)
       · have:=(hbl g h).1
         omega
       · have:=hown'.cells (g:=g) (by rw[hv'];rfl) j u hj
         rwa [Addr.add_lit]at this
 · rintro e w' ⟨u,rfl,hB,hp⟩
   have hkk: ∀c,keep c→aI (gU w keep (fun b=>b∈ah ρ [(0,zi most batch sent (.own 1)),(1,fK l)])) w' ρ [(0,zi most batch sent (.own 1)),(1,fK l)] c:=fun c hc=>⟨Nat.lt_of_lt_of_le (hkp c hc) hB.size,fun _=> .inl hc,fun h=>(hbl c h).2 hc⟩
   have hmem: ∀c,c<w.heap.size→w'.heap[c]? =w.heap[c]? :=fun c hc=>hB.block c hc
   have hbm: ∀p∈[(0,zi most batch sent (.own 1)),(1,fK l)],∀c∈blks (ρ p.1),w'.heap[c]? =w.heap[c]? :=fun p hp c hc=>hmem c (hbl c (aO.2 ⟨p,hp,hc⟩)).1
   refine⟨u,ρ,rfl,.of hB,fun _ _ _ _ _=> .refl _,hp,fun p hpm=>?_,hnd,fun c hc=> .inr hc⟩
   have hob:=kL p hpm
   refine aZ.move (X:=⟨w,keep,ρ⟩) (id:=p.1) (o:=p.2) hkk (fun c hc=>hmem c (hkp c hc)) rfl (hbm p hpm) ?_ hob
   simp only[List.mem_cons,List.not_mem_nil,or_false]at hpm
   rcases hpm with rfl|rfl
   · refine⟨rfl,fun us h=>⟨h.1,fun i x u hx hu=>?_⟩⟩
     have:=h.2 i x u hx hu
     match i,hx with
     |0,hx=>cases hx;exact this
     |1,hx=>cases hx;exact this
     |2,hx=>cases hx;exact this
     |3,hx=>cases hx;exact this
   · rfl
end
section
open Go.RowKit
def wW (sent upto:Int) (n:Nat):Nat:=if upto≤sent then 0 else min (upto-sent).toNat n
theorem V4 (most batch sent upto:Int) (l:List Ev) (hl:l.length≤1000000) (hs:0≤sent∧sent≤1000000000) (hu:0≤upto∧upto≤1000000000):
  aW Tryz.prog 72 [(0,zi most batch sent (.own 1)),(1,fK l)] [.box 0 0,.v (.int .i64 upto)] (.v (.int .i64 (sent+(wW sent upto l.length:Int)))) [(0,zi most batch (sent+(wW sent upto l.length:Int)) (.own 2)),(2,fK (l.drop (wW sent upto l.length)))]:=by
 unfold wW
 by_cases h:upto≤sent
 · rw[if_pos h]
   dsimp only[zi,fK,List.drop_zero]
   rw[show sent+((0:Nat):Int)=sent by omega]
   refine K1.M 0x833 Tryz.func72 40 ?_
   repeat' ((conv=>whnf);first|refine K1.w ?_|refine K1.u ?_|refine K1.z ?_|refine K1.y (fun _=>?_) (fun _=>?_)|fail)
   all_goals(conv=>whnf)
   exact⟨[(1,2)],rfl,rfl,⟨aH rfl,aH rfl,trivial⟩,rfl,rfl,aj⟩
 · rw[if_neg h]
   obtain⟨k,hk⟩: ∃k,k=min (upto-sent).toNat l.length:=⟨_,rfl⟩
   have hkl:k≤l.length:=by omega
   have hd:=ad3 k l hkl
   rw[←hk]
   have e:(k:Int)=if(l.length:Int)<upto-sent then(l.length:Int)else upto-sent:=by split<;>omega
   clear hk hkl
   rw[e]at hd⊢
   dsimp only[zi,fK]at hd⊢
   refine K1.M 0x833 Tryz.func72 40 ?_
   repeat' ((conv=>whnf);first|refine K1.w ?_|refine K1.u ?_|refine K1.C 1 [(0,_)] (hd) rfl ?_|refine K1.z ?_|refine K1.y (fun _=>?_) (fun _=>?_)|fail)
   all_goals(conv=>whnf)
   exact⟨[(40,2)],rfl,rfl,⟨aH rfl,aH rfl,trivial⟩,rfl,rfl,aj⟩
end
end Go.Proofs.YtimhagicagdkfaaGreat
