/-
  Contracts of the walk:La1,Lv1,Lv2,Lv3,Lv4,LvK.
-/
import Derived.Test.YtimhagicagdkfaaGreatNh16
import Derived.Test.YtimhagicagdkfaaGreatNh10
import Derived.Tactics
import Derived.Tactics2
import Derived.Defers
import Derived.Laws.Pointers
import Derived.Laws.LoneSync
import Derived.RegionTactic
import Derived.RegionCalls
set_option maxHeartbeats 16000000
set_option maxRecDepth 100000
set_option linter.unusedVariables false
set_option linter.unusedSimpArgs false
namespace Go.Proofs.YtimhagicagdkfaaGreat
section
open Go.RowKit
def eqK (key:ByteArray):ByteArray→Bool:=fun k=>decide (k=key)
theorem Zv:uniq []=[]:=List.eq_nil_iff_forall_not_mem.2 fun x hx=>by
 have:=((iM []).2 x).1 hx
 cases this
theorem of_same {l:List Ev} {key:ByteArray} (h: ∀x∈l,x.key=key):nU l=if aG l=[]then []else [fJ key (bI l (aG l))]:=by
 have hk:keysB l=uniq ((aG l).map fun e=>dI e.key):=rfl
 by_cases h0:aG l=[]
 · rw[if_pos h0]
   unfold nU
   rw[hk,h0,List.map_nil,Zv]
   rfl
 · rw [if_neg h0]
   have e:keysB l=[dI key]:=by
    rw[hk]
    refine yt (iM _).1 (List.pairwise_singleton _ _) fun x=>?_
    rw[(iM _).2,List.mem_singleton,List.mem_map]
    constructor
    · rintro⟨y,hy,rfl⟩
      rw[h y (List.mem_filter.1 hy).1]
    · rintro rfl
      obtain⟨y,hy⟩:=List.exists_mem_of_ne_nil _ h0
      exact⟨y,hy,by rw[h y (List.mem_filter.1 hy).1]⟩
   unfold nU
   rw[e,List.map_singleton,V4]
theorem HY {l:List Ev} {key:ByteArray}: ∀x∈lJ (eqK key) l,x.key=key:=fun x hx=>by
 have:=(List.mem_filter.1 hx).2
 exact of_decide_eq_true this
structure CR (e:Ev) (a b:Cont):Prop where
 afc:e.l=0→a.h1=b.h1∧a.f1=b.f1∧a.s1.length=b.s1.length
 afd:e.l=1→a.h0=b.h0∧a.f0=b.f0∧a.s0.length=b.s0.length
 set0:e.k=3→e.l=0→b.h0=true∧b.f0=e.v∧a.s0.length=b.s0.length
 set1:e.k=3→e.l=1→b.h1=true∧b.f1=e.v∧a.s1.length=b.s1.length
 oth:e.k≠3→(a.h0=b.h0∧a.h1=b.h1)∧(a.f0=b.f0∧a.f1=b.f1)
 in0:e.k≠3→e.l=0→(dI e.v∈b.s0↔e.k=4)
 in1:e.k≠3→e.l=1→(dI e.v∈b.s1↔e.k=4)
structure ae' (A B:List Cont) (e:Ev):Prop where
 wo:woL A e.key=woL B e.key
 two:e.k=2→sV B e.key= -1
 one:e.k=1→0≤sV B e.key
 more:3≤e.k→(sV A e.key= -1∧sV B e.key= -1)∨
  (∃a b,(0≤sV A e.key∧sV A e.key<(A.length:Int)∧A.getD (sV A e.key).toNat default=a)∧(0≤sV B e.key∧sV B e.key<(B.length:Int)∧B.getD (sV B e.key).toNat default=b)∧CR e a b)
section
variable {l:List Ev} {e:Ev}
theorem kC {k:Int} {same:Ev→Ev→Bool} {x:Ev}:fB k same (l++[e]) x=(fB k same l x||(decide (e.k=k)&&(same e x&&aO x e))):=by
 unfold fB
 rw[List.any_append]
 simp
theorem Ko {k:Int} {same:Ev→Ev→Bool} (non: ∀x∈l,aO e x=false):fB k same l e=false:=by
 unfold fB
 rw[List.any_eq_false]
 intro x hx
 rw[non x hx]
 simp
structure V6 (l:List Ev) (e:Ev):Prop where
 key: ∀x∈l,x.key=e.key
 all: ∀x∈l,aO x e=true
 non: ∀x∈l,aO e x=false
 self:aO e e=false
 hi: ∀x∈l,x.h<e.h
 one:um (l++[e])
variable (t:V6 l e)
include t
theorem V6.keys: ∀x∈l++[e],x.key=e.key:=fun x hx=>by
 rcases List.mem_append.1 hx with hx|hx
 · exact t.key x hx
 · rw[List.mem_singleton.1 hx]
theorem V6.BL:bK (l++[e]) e=decide (e.k=1):=by
 unfold bK
 rw[kC,Ko t.non,t.self]
 simp
theorem V6.uo {x:Ev} (hx:x∈l):bK (l++[e]) x=(bK l x&& !decide (e.k=2)):=by
 have:eX e x=true:=decide_eq_true (t.key x hx).symm
 unfold bK
 rw[kC,this,t.all x hx]
 cases fB 2 eX l x<;>cases decide (x.k=1)<;>simp
theorem V6.living:aG (l++[e])=(if e.k=2 then []else aG l)++(if e.k=1 then [e]else []):=by
 unfold aG
 rw[List.filter_append,List.filter_cons,t.BL]
 congr 1
 · by_cases h:e.k=2
   · rw[if_pos h,List.filter_eq_nil_iff]
     intro x hx
     rw[t.uo hx,decide_eq_true h]
     simp
   · rw[if_neg h]
     refine List.filter_congr fun x hx=>?_
     rw[t.uo hx,decide_eq_false h]
     simp
 · by_cases h:e.k=1
   · rw[if_pos h,if_pos (decide_eq_true h)]
     rfl
   · rw[if_neg h,if_neg (by rw[decide_eq_false h];simp)]
     rfl
theorem V6.Py {C:List Ev} {x:Ev} (hx:x∈l):countB (l++[e]) C x=(countB l C x&& !(decide (e.k=5)&&(decide (x.k=4)&&jk e x))):=by
 unfold countB
 rw[kC,t.all x hx]
 by_cases h3:x.k=3
 · rw[decide_eq_true h3,decide_eq_false (show¬x.k=4 by omega)]
   simp
 · rw[decide_eq_false h3]
   cases decide (x.k=4)<;>cases fB 5 jk l x<;>cases gZ 1 eX C x<;>simp
end
theorem Pz {a b:ByteArray} (h:dI a=dI b):a=b:=by rw[←V4 a,h,V4]
section
variable {l:List Ev} {e:Ev} {ws:List Ev}
end
theorem UA (p:ByteArray→Bool) (l:List Ev) (e:Ev):lJ p (l++[e])=lJ p l++(if p e.key=true then [e]else []):=by
 unfold lJ
 rw[List.filter_append,List.filter_cons]
 rfl
end
section
open Go.RowKit
def jg (l:List Ev) (e:Ev):Bool:=bK l e||(countB l (aG l) e&& !fE l e)
def iQ (l:List Ev):List Ev:=l.filter (jg l)
def rV (l:List Ev) (e:Ev):Bool:=l.any fun a=>decide (a.k=1)&&aO a e
def qQ (kind:Int) (same:Ev→Bool) (e:Ev) (l:List Ev):List Ev:=l.filter fun a=> !decide (a.k=kind)||(!same a|| !aO a e)
def wX (e a:Ev):Bool:=decide (a.l=e.l)
def pJ (e a:Ev):Bool:=decide (a.l=e.l)&&decide (a.v=e.v)
def kH (l:List Ev) (e:Ev):List Ev:=
 if e.k=1 then l++[e]
 else if e.k=2 then(qQ 1 (fun _=>true) e l).filter fun a=>decide (a.k=1)||rV (qQ 1 (fun _=>true) e l) a
 else if e.k=3 then(if rV l e=true then qQ 3 (wX e) e l++[e]else l)
 else if e.k=5 then qQ 4 (pJ e) e l
 else if rV l e=true then qQ 4 (pJ e) e l++[e]else l
structure Ci (p:List Ev) (e:Ev):Prop where
 key: ∀x∈p,x.key=e.key
 non: ∀x∈p,aO e x=false
 self:aO e e=false
 tr: ∀a∈p,∀b∈p,aO a b=true→aO b e=true→aO a e=true
 kind:1≤e.k∧e.k≤5
 kinds: ∀x∈p,1≤x.k∧x.k≤5
theorem wY {a b:Ev} (h:a.key=b.key):eX a b=true:=decide_eq_true h
section
variable {p:List Ev} {e:Ev} (t:Ci p e)
include t
theorem Ci.keys {x:Ev} (hx:x∈p):eX e x=true∧eX x e=true:=⟨wY (t.key x hx).symm,wY (t.key x hx)⟩
theorem Ci.ML {k:Int} {same:Ev→Ev→Bool}:fB k same (p++[e]) e=false:=by
 rw[kC,Ko t.non,t.self]
 simp
theorem Ci.BL:bK (p++[e]) e=decide (e.k=1):=by
 unfold bK
 rw[t.ML]
 simp
theorem Ci.uo {x:Ev} (hx:x∈p):bK (p++[e]) x=(bK p x&& !(decide (e.k=2)&&aO x e)):=by
 unfold bK
 rw[kC,(t.keys hx).1]
 cases fB 2 eX p x<;>cases decide (x.k=1)<;>simp
theorem Ci.living:aG (p++[e])=(aG p).filter (fun x=> !(decide (e.k=2)&&aO x e))++(if e.k=1 then [e]else []):=by
 unfold aG
 rw[List.filter_append,List.filter_cons,t.BL,List.filter_filter]
 congr 1
 · refine List.filter_congr fun x hx=>?_
   rw[t.uo hx,Bool.and_comm]
 · by_cases h:e.k=1
   · rw[if_pos h,if_pos (decide_eq_true h)];rfl
   · rw[if_neg h,if_neg (by rw[decide_eq_false h];simp)];rfl
theorem Ci.PD {x:Ev} (hx:x∈p):gZ 1 eX (aG (p++[e])) x=(aG p).any fun a=> !(decide (e.k=2)&&aO a e)&&aO a x:=by
 unfold gZ
 rw[t.living,List.any_append,List.any_filter]
 have h2:((if e.k=1 then [e]else []).any fun a=>decide (a.k=1)&&(eX a x&&aO a x))=false:=by
  split
  · rw[List.any_cons,List.any_nil,t.non x hx];simp
  · rfl
 rw[h2,Bool.or_false]
 refine any_congr fun a ha=>?_
 obtain⟨hap,hal⟩:=List.mem_filter.1 ha
 have hk:a.k=1:=by
  simp only[bK,Bool.and_eq_true,decide_eq_true_eq]at hal
  exact hal.1
 rw[decide_eq_true hk,wY (show a.key=x.key by rw[t.key a hap,t.key x hx])]
 cases decide (e.k=2)<;>cases aO a e<;>cases aO a x<;>rfl
theorem Ci.Dx {x:Ev} (hx:x∈p):gZ 1 eX (aG p) x=(aG p).any fun a=>aO a x:=by
 refine any_congr fun a ha=>?_
 obtain⟨hap,hal⟩:=List.mem_filter.1 ha
 have hk:a.k=1:=by
  simp only[bK,Bool.and_eq_true,decide_eq_true_eq]at hal
  exact hal.1
 rw[decide_eq_true hk,wY (show a.key=x.key by rw[t.key a hap,t.key x hx])]
 simp
theorem Ci.abt:gZ 1 eX (aG (p++[e])) e=(aG p).any fun a=> !(decide (e.k=2)&&aO a e)&&aO a e:=by
 unfold gZ
 rw[t.living,List.any_append,List.any_filter]
 have h2:((if e.k=1 then [e]else []).any fun a=>decide (a.k=1)&&(eX a e&&aO a e))=false:=by
  split
  · rw[List.any_cons,List.any_nil,t.self];simp
  · rfl
 rw[h2,Bool.or_false]
 refine any_congr fun a ha=>?_
 obtain⟨hap,hal⟩:=List.mem_filter.1 ha
 have hk:a.k=1:=by
  simp only[bK,Bool.and_eq_true,decide_eq_true_eq]at hal
  exact hal.1
 rw[decide_eq_true hk,(t.keys hap).2]
 cases decide (e.k=2)<;>cases aO a e<;>rfl
theorem Ci.Zw {x:Ev} (hx:x∈p):rJ e x=wX e x:=by
 unfold rJ wX
 rw[(t.keys hx).1,Bool.true_and]
 exact decide_eq_decide.2 eq_comm
theorem Ci.Zx {x:Ev} (hx:x∈p):jk e x=pJ e x:=by
 have h:=t.Zw hx
 unfold jk pJ
 rw[h]
 unfold wX
 congr 1
 exact decide_eq_decide.2 eq_comm
theorem Ci.PE {x:Ev} (hx:x∈p):fE (p++[e]) x=(fE p x||(decide (e.k=x.k)&&((if x.k=4 then pJ e x else wX e x)&&aO x e))):=by
 unfold fE
 by_cases h:x.k=4
 · rw[if_pos h,if_pos h,kC,t.Zx hx]
 · rw[if_neg h,if_neg h,kC,t.Zw hx]
theorem Ci.Py {x:Ev} (hx:x∈p) (h2:e.k≠2):countB (p++[e]) (aG (p++[e])) x=(countB p (aG p) x&& !(decide (e.k=5)&&(decide (x.k=4)&&(pJ e x&&aO x e)))):=by
 have hu:gZ 1 eX (aG (p++[e])) x=gZ 1 eX (aG p) x:=by
  rw[t.PD hx,t.Dx hx]
  refine any_congr fun a _=>?_
  rw[decide_eq_false h2]
  rfl
 unfold countB
 rw[hu,kC,t.Zx hx]
 by_cases h3:x.k=3
 · rw[decide_eq_true h3,decide_eq_false (show¬x.k=4 by omega)]
   simp
 · rw[decide_eq_false h3]
   cases decide (x.k=4)<;>cases fB 5 jk p x<;>cases gZ 1 eX (aG p) x<;>simp
theorem Ci.abu (h:e.k=1):jg (p++[e]) e=true:=by
 unfold jg
 rw[t.BL,decide_eq_true h]
 rfl
theorem Ci.yC {x:Ev} (hx:x∈p) (h2:e.k≠2):jg (p++[e]) x=(bK p x||(countB p (aG p) x&& !(decide (e.k=5)&&(decide (x.k=4)&&(pJ e x&&aO x e)))&& !(fE p x||(decide (e.k=x.k)&&((if x.k=4 then pJ e x else wX e x)&&aO x e))))):=by
 unfold jg
 rw[t.uo hx,t.Py hx h2,t.PE hx,decide_eq_false h2]
 simp
omit t in
theorem iO {l:List Ev} {x:Ev} (h:bK l x=true):x.k=1:=by
 simp only[bK,Bool.and_eq_true,decide_eq_true_eq]at h
 exact h.1
omit t in
theorem kD {l C:List Ev} {x:Ev} (h:countB l C x=true):x.k=3∨x.k=4:=by
 simp only[countB,Bool.and_eq_true,Bool.or_eq_true,decide_eq_true_eq]at h
 rcases h.1 with h|h
 · exact .inl h
 · exact .inr h.1
omit t in
theorem H6 {x:Ev}:rV (iQ p) x=(aG p).any fun a=>aO a x:=by
 unfold rV iQ aG
 rw[List.any_filter,List.any_filter]
 refine any_congr fun a _=>?_
 cases hl:bK p a with
 |true=>rw[decide_eq_true (iO hl)];simp[jg,hl]
 | false=>
   cases hc:countB p (aG p) a with
   | false=>
     have:jg p a=false:=by unfold jg;rw[hl,hc];rfl
     rw[this]
     rfl
   | true=>
     have: ¬a.k=1:=by rcases kD hc with h|h<;>omega
     rw[decide_eq_false this]
     simp
theorem Ci.adg {h2:e.k≠1}:jg (p++[e]) e=((decide (e.k=3)||decide (e.k=4))&&rV (iQ p) e):=by
 have hl:fE (p++[e]) e=false:=by unfold fE;split<;>exact t.ML
 unfold jg
 rw[t.BL,decide_eq_false h2,hl,H6]
 unfold countB
 rw[t.ML,t.abt]
 by_cases h:e.k=2
 · rw[decide_eq_false (show¬e.k=3 by omega),decide_eq_false (show¬e.k=4 by omega)]
   rfl
 · rw[decide_eq_false h]
   simp
omit t in
theorem RS (l:List Ev) (x:Ev):iQ (l++[x])=l.filter (jg (l++[x]))++(if jg (l++[x]) x=true then [x]else []):=by
 unfold iQ
 rw[List.filter_append,List.filter_cons]
 rfl
theorem Ci.UC {x:Ev} (hx:x∈p) (hc:countB p (aG p) x=true) (hb:aO x e=true):rV (iQ p) e=true:=by
 have hu:gZ 1 eX (aG p) x=true:=by
  simp only[countB,Bool.and_eq_true]at hc
  exact hc.2
 rw[t.Dx hx]at hu
 rw[H6]
 obtain⟨a,ha,hax⟩:=List.any_eq_true.1 hu
 exact List.any_eq_true.2 ⟨a,ha,t.tr a (List.mem_filter.1 ha).1 x hx hax hb⟩
theorem Ci.step:kH (iQ p) e=iQ (p++[e]):=by
 rw[RS]
 unfold kH
 have hk:=t.kind
 by_cases k1:e.k=1
 · rw[if_pos k1,if_pos (t.abu k1)]
   congr 1
   refine List.filter_congr fun x hx=>?_
   rw[t.yC hx (by omega),decide_eq_false (show¬e.k=5 by omega)]
   unfold jg
   cases hc:countB p (aG p) x with
   |false=>simp
   | true=>
     have: ¬e.k=x.k:=by rcases kD hc with h|h<;>omega
     rw[decide_eq_false this]
     simp
 rw[if_neg k1,t.adg (h2:=k1)]
 by_cases k2:e.k=2
 · rw [if_pos k2,decide_eq_false (show¬e.k=3 by omega),decide_eq_false (show¬e.k=4 by omega),if_neg (by simp),List.append_nil]
   have hcr: ∀x∈p,rV (qQ 1 (fun _=>true) e (iQ p)) x=(aG p).any fun a=> !aO a e&&aO a x:=fun x _=>by
    unfold rV qQ iQ aG
    rw[List.any_filter,List.any_filter,List.any_filter]
    refine any_congr fun a _=>?_
    cases hl:bK p a with
    |true=>rw[decide_eq_true (iO hl)];simp[jg,hl]
    | false=>
      cases hc:countB p (aG p) a with
      | false=>
        have:jg p a=false:=by unfold jg;rw[hl,hc];rfl
        rw[this]
        rfl
      | true=>
        have: ¬a.k=1:=by rcases kD hc with h|h<;>omega
        rw[decide_eq_false this]
        simp
   have hd:qQ 1 (fun _=>true) e (iQ p)=p.filter fun x=>(!decide (x.k=1)|| !aO x e)&&jg p x:=by
    unfold qQ iQ
    rw[List.filter_filter]
    exact List.filter_congr fun x _=>by simp
   rw[List.filter_congr (q:=fun a=>decide (a.k=1)||(aG p).any fun c=> !aO c e&&aO c a) (fun x hx=>by
    rw[hcr x]
    rw[hd]at hx
    exact(List.mem_filter.1 hx).1),hd,List.filter_filter]
   refine List.filter_congr fun x hx=>?_
   have hl:=t.uo hx
   have hlt:fE (p++[e]) x=(fE p x||(decide (e.k=x.k)&&((if x.k=4 then pJ e x else wX e x)&&aO x e))):=t.PE hx
   have hu:=t.PD hx
   have huo:=t.Dx hx
   rw[decide_eq_true k2]at hl hu
   simp only[Bool.true_and]at hl hu
   have hle:((aG p).any fun a=> !aO a e&&aO a x)=true→gZ 1 eX (aG p) x=true:=fun h=>by
    rw[huo]
    obtain⟨a,ha,h⟩:=List.any_eq_true.1 h
    simp only[Bool.and_eq_true]at h
    exact List.any_eq_true.2 ⟨a,ha,h.2⟩
   unfold jg
   rw[hl,hlt]
   unfold countB
   rw[hu,kC,decide_eq_false (show¬e.k=5 by omega)]
   generalize((aG p).any fun a=>(!aO a e&&aO a x))=u' at*
   generalize gZ 1 eX (aG p) x=u at*
   rcases(show x.k=1∨x.k=3∨x.k=4∨(x.k≠1∧x.k≠3∧x.k≠4) by omega)with h|h|h|⟨h1,h2,h3⟩
   · rw[decide_eq_true h,decide_eq_false (show¬x.k=3 by omega),decide_eq_false (show¬x.k=4 by omega)]
     cases bK p x<;>cases aO x e<;>simp
   · have hnl:bK p x=false:=by rw[Bool.eq_false_iff];intro k;have:=iO k;omega
     rw[hnl,decide_eq_false (show¬x.k=1 by omega),decide_eq_true h,decide_eq_false (show¬x.k=4 by omega),decide_eq_false (show¬e.k=x.k by omega)]
     cases u' with
     |true=>rw[hle rfl];simp
     |false=>simp
   · have hnl:bK p x=false:=by rw[Bool.eq_false_iff];intro k;have:=iO k;omega
     rw[hnl,decide_eq_false (show¬x.k=1 by omega),decide_eq_true h,decide_eq_false (show¬x.k=3 by omega),decide_eq_false (show¬e.k=x.k by omega)]
     cases u' with
     |true=>rw[hle rfl];simp
     |false=>simp
   · have hnl:bK p x=false:=by rw[Bool.eq_false_iff];intro k;have:=iO k;omega
     rw[hnl,decide_eq_false h1,decide_eq_false h2,decide_eq_false h3]
     simp
 rw[if_neg k2]
 by_cases k3:e.k=3
 · rw [if_pos k3,decide_eq_true k3,Bool.true_or,Bool.true_and]
   by_cases hcr:rV (iQ p) e=true
   · rw [if_pos hcr,if_pos hcr]
     congr 1
     unfold qQ iQ
     rw[List.filter_filter]
     refine List.filter_congr fun x hx=>?_
     rw[t.yC hx k2,decide_eq_false (show¬e.k=5 by omega),k3]
     unfold jg
     cases hl:bK p x with
     |true=>rw[decide_eq_false (show¬x.k=3 by have:=iO hl;omega)];simp
     | false=>
       by_cases h:x.k=3
       · rw[decide_eq_true h,decide_eq_true h.symm,if_neg (by omega)]
         cases countB p (aG p) x<;>cases fE p x<;>simp
       · rw[decide_eq_false h,decide_eq_false (show¬3=x.k from fun k=>h k.symm)]
         simp
   · rw[if_neg hcr,if_neg hcr,List.append_nil]
     unfold iQ
     refine List.filter_congr fun x hx=>?_
     rw[t.yC hx k2,decide_eq_false (show¬e.k=5 by omega)]
     unfold jg
     cases hc:countB p (aG p) x with
     |false=>simp
     | true=>
       have:aO x e=false:=by rw[Bool.eq_false_iff];exact fun k=>hcr (t.UC hx hc k)
       rw[this]
       simp
 rw[if_neg k3,decide_eq_false k3,Bool.false_or]
 by_cases k5:e.k=5
 · rw [if_pos k5,decide_eq_false (show¬e.k=4 by omega),Bool.false_and,if_neg (by simp),List.append_nil]
   unfold qQ iQ
   rw[List.filter_filter]
   refine List.filter_congr fun x hx=>?_
   rw[t.yC hx k2,decide_eq_true k5]
   unfold jg
   cases hl:bK p x with
   |true=>rw[decide_eq_false (show¬x.k=4 by have:=iO hl;omega)];simp
   | false=>
     cases hc:countB p (aG p) x with
     |false=>simp
     | true=>
       rw[decide_eq_false (show¬e.k=x.k by rcases kD hc with h|h<;>omega)]
       by_cases h:x.k=4
       · rw[decide_eq_true h]
         cases pJ e x<;>cases aO x e<;>simp
       · rw[decide_eq_false h]
         simp
 have k4:e.k=4:=by omega
 rw[if_neg k5,decide_eq_true k4,Bool.true_and]
 by_cases hcr:rV (iQ p) e=true
 · rw [if_pos hcr,if_pos hcr]
   congr 1
   unfold qQ iQ
   rw[List.filter_filter]
   refine List.filter_congr fun x hx=>?_
   rw[t.yC hx k2,decide_eq_false k5,k4]
   unfold jg
   cases hl:bK p x with
   |true=>rw[decide_eq_false (show¬x.k=4 by have:=iO hl;omega)];simp
   | false=>
     by_cases h:x.k=4
     · rw[decide_eq_true h,decide_eq_true h.symm,if_pos h]
       cases countB p (aG p) x<;>cases fE p x<;>simp
     · rw[decide_eq_false h,decide_eq_false (show¬4=x.k from fun k=>h k.symm)]
       simp
 · rw[if_neg hcr,if_neg hcr,List.append_nil]
   unfold iQ
   refine List.filter_congr fun x hx=>?_
   rw[t.yC hx k2,decide_eq_false k5]
   unfold jg
   cases hc:countB p (aG p) x with
   |false=>simp
   | true=>
     have:aO x e=false:=by rw[Bool.eq_false_iff];exact fun k=>hcr (t.UC hx hc k)
     rw[this]
     simp
end
end
section
open Go.RowKit
structure Kq (p:List Ev) (key:ByteArray):Prop where
 key: ∀x∈p,x.key=key
 one:um p
 hi: ∀a∈p,∀b∈p,aO a b=true→a.h<b.h
 tr: ∀a∈p,∀b∈p,∀c∈p,aO a b=true→aO b c=true→aO a c=true
section
variable {p:List Ev} {key:ByteArray} (t:Kq p key)
theorem zQ {x:Ev} (h:jg p x=true):(bK p x=true∧x.k=1)∨(countB p (aG p) x=true∧fE p x=false∧(x.k=3∨x.k=4)):=by
 unfold jg at h
 simp only[Bool.or_eq_true,Bool.and_eq_true,Bool.not_eq_true']at h
 rcases h with h|⟨h1,h2⟩
 · exact .inl ⟨h,iO h⟩
 · exact .inr ⟨h1,h2,kD h1⟩
theorem H7 {k:Int} (hk:k=2∨k=5) (same:Ev→Ev→Bool) (x:Ev):fB k same (iQ p) x=false:=by
 unfold fB
 rw[List.any_eq_false]
 intro a ha
 have:=zQ (List.mem_filter.1 ha).2
 have: ¬a.k=k:=by rcases this with⟨_,h⟩|⟨_,_,h⟩<;>omega
 rw[decide_eq_false this]
 simp
theorem Ec:aG (iQ p)=aG p:=by
 unfold aG
 have: ∀x,bK (iQ p) x=decide (x.k=1):=fun x=>by unfold bK;rw[H7 (.inl rfl)];simp
 rw[List.filter_congr (q:=fun x=>decide (x.k=1)) (fun x _=>this x)]
 unfold iQ
 rw[List.filter_filter]
 refine List.filter_congr fun x _=>?_
 cases hl:bK p x with
 |true=>rw[decide_eq_true (iO hl)];simp[jg,hl]
 | false=>
   cases hc:countB p (aG p) x with
   |true=>rw[decide_eq_false (show¬x.k=1 by rcases kD hc with h|h<;>omega)];rfl
   |false=>simp[jg,hl,hc]
theorem Je:bI (iQ p) (aG (iQ p))=(bI p (aG p)).filter fun x=> !fE p x:=by
 rw[Ec]
 unfold bI
 rw[List.filter_filter]
 have hcn: ∀x∈iQ p,countB (iQ p) (aG p) x=countB p (aG p) x:=fun x hx=>by
  unfold countB
  rw[H7 (.inr rfl)]
  rcases zQ (List.mem_filter.1 hx).2 with⟨_,h⟩|⟨h,_,_⟩
  · rw[decide_eq_false (show¬x.k=3 by omega),decide_eq_false (show¬x.k=4 by omega)];rfl
  · unfold countB at h
    rw[h]
    simp only[Bool.and_eq_true,Bool.or_eq_true,decide_eq_true_eq]at h
    obtain⟨h1,h2⟩:=h
    rw[h2]
    rcases h1 with h1|h1
    · rw[decide_eq_true h1];rfl
    · rw[decide_eq_true h1.1];simp
 rw[List.filter_congr hcn]
 unfold iQ
 rw[List.filter_filter]
 refine List.filter_congr fun x _=>?_
 cases hc:countB p (aG p) x with
 |false=>simp
 | true=>
   have hl:bK p x=false:=by rw[Bool.eq_false_iff];intro k;have:=iO k;rcases kD hc with h|h<;>omega
   unfold jg
   rw[hl,hc]
   simp
include t
theorem Kq.V7 {x y:Ev} (hx:x∈bI p (aG p)) (hy:y∈p) (hb:aO x y=true) (hk:y.k=x.k) (hs:y.k=4→jk y x=true):y∈bI p (aG p):=by
 obtain⟨hxp,hc⟩:=List.mem_filter.1 hx
 refine List.mem_filter.2 ⟨hy, ?_⟩
 unfold countB at hc⊢
 simp only[Bool.and_eq_true]at hc⊢
 obtain⟨h1,h2⟩:=hc
 refine⟨?_, ?_⟩
 · rw [hk]
   by_cases k3:x.k=3
   · rw[decide_eq_true k3];rfl
   · rw[decide_eq_false k3,Bool.false_or,Bool.and_eq_true]at h1⊢
     refine⟨h1.1, ?_⟩
     have hx5:=h1.2
     simp only[Bool.not_eq_true']at hx5⊢
     rw[Bool.eq_false_iff]
     intro ha
     obtain⟨z,hz,hz2⟩:=List.any_eq_true.1 ha
     simp only[Bool.and_eq_true,decide_eq_true_eq]at hz2
     have k4:y.k=4:=by rw[hk];exact of_decide_eq_true h1.1
     have hzx:jk z x=true:=by
      have e1:=hz2.2.1
      have e2:=hs k4
      simp only[jk,rJ,eX,Bool.and_eq_true,decide_eq_true_eq]at e1 e2⊢
      exact⟨⟨e1.1.1.trans e2.1.1,e1.1.2.trans e2.1.2⟩,e1.2.trans e2.2⟩
     have:fB 5 jk p x=true:=List.any_eq_true.2 ⟨z,hz,by
      simp only[Bool.and_eq_true,decide_eq_true_eq]
      exact⟨hz2.1,hzx,t.tr x hxp y hy z hz hb hz2.2.2⟩⟩
     rw[this]at hx5
     cases hx5
 · obtain⟨c,hc,h⟩:=List.any_eq_true.1 h2
   simp only[Bool.and_eq_true,decide_eq_true_eq]at h
   have hcp:=(List.mem_filter.1 hc).1
   refine List.any_eq_true.2 ⟨c,hc, ?_⟩
   simp only[Bool.and_eq_true,decide_eq_true_eq]
   exact⟨h.1,wY (by rw[t.key c hcp,t.key y hy]),t.tr c hcp x hxp y hy h.2.2 hb⟩
theorem Kq.Zy {A:List Ev} {m:Ev} (hm:m∈A) (hA: ∀x∈A,x∈bI p (aG p)) (htop: ∀x∈A,¬jR (dh m) (dh x)=true)
  (hin: ∀y∈bI p (aG p),y.k=m.k→(if m.k=4 then jk y m else rJ y m)=true→y∈A):fE p m=false:=by
 rw[Bool.eq_false_iff]
 intro hl
 have hmc:=hA m hm
 have hmp:=(List.mem_filter.1 hmc).1
 have: ∃y∈p,y.k=m.k∧(if m.k=4 then jk y m else rJ y m)=true∧aO m y=true:=by
  unfold fE at hl
  by_cases h:m.k=4
  · rw[if_pos h]at hl
    obtain⟨y,hy,h2⟩:=List.any_eq_true.1 hl
    simp only[Bool.and_eq_true,decide_eq_true_eq]at h2
    exact⟨y,hy,h2.1,by rw[if_pos h];exact h2.2.1,h2.2.2⟩
  · rw[if_neg h]at hl
    obtain⟨y,hy,h2⟩:=List.any_eq_true.1 hl
    simp only[Bool.and_eq_true,decide_eq_true_eq]at h2
    exact⟨y,hy,h2.1,by rw[if_neg h];exact h2.2.1,h2.2.2⟩
 obtain⟨y,hy,hyk,hys,hyb⟩:=this
 have hyc:=t.V7 hmc hy hyb hyk (fun k4=>by rw[if_pos (by omega)]at hys;exact hys)
 have hyA:=hin y hyc hyk hys
 have:=t.hi m hmp y hy hyb
 refine htop y hyA ?_
 rw[nO]
 exact .inl this
theorem Kq.abv:fJ key ((bI p (aG p)).filter fun x=> !fE p x)=fJ key (bI p (aG p)):=by
 have hkind: ∀x∈bI p (aG p),(x.k=3∨x.k=4)∧x.key=key:=fun x hx=>⟨kD (List.mem_filter.1 hx).2,t.key x (List.mem_filter.1 hx).1⟩
 have hone:um (bI p (aG p)):=fun a ha b hb=>t.one a (List.mem_filter.1 ha).1 b (List.mem_filter.1 hb).1
 have htop:= @Kq.Zy p key t
 generalize hws:bI p (aG p)=ws at*
 have hs: ∀n,dA key n (ws.filter fun x=> !fE p x)=(dA key n ws).filter fun x=> !fE p x:=fun n=>by
  unfold dA
  rw[List.filter_filter,List.filter_filter]
  exact List.filter_congr fun x _=>Bool.and_comm _ _
 have ha: ∀n,eF key n (ws.filter fun x=> !fE p x)=(eF key n ws).filter fun x=> !fE p x:=fun n=>by
  unfold eF
  rw[List.filter_filter,List.filter_filter]
  exact List.filter_congr fun x _=>Bool.and_comm _ _
 have hsw: ∀n,∀x∈dA key n ws,x∈ws∧x.k=3∧x.l=n:=fun n x hx=>by
  obtain⟨h1,h2⟩:=List.mem_filter.1 hx
  simp only[yV,Bool.and_eq_true,decide_eq_true_eq]at h2
  exact⟨h1,h2.2,h2.1.2⟩
 have haw: ∀n,∀x∈eF key n ws,x∈ws∧x.k=4∧x.l=n:=fun n x hx=>by
  obtain⟨h1,h2⟩:=List.mem_filter.1 hx
  simp only[yV,Bool.and_eq_true,decide_eq_true_eq,Bool.not_eq_true',decide_eq_false_iff_not]at h2
  exact⟨h1,(hkind x h1).1.resolve_left h2.2,h2.1.2⟩
 have hset: ∀n,LW (dA key n (ws.filter fun x=> !fE p x))=LW (dA key n ws)∧qH (dA key n (ws.filter fun x=> !fE p x))=qH (dA key n ws):=fun n=>by
  rw[hs]
  by_cases h0:(dA key n ws).length=0
  · have:dA key n ws=[]:=List.length_eq_zero_iff.1 h0
    rw[this]
    exact⟨rfl,rfl⟩
  · obtain⟨m,hm,e1,e2⟩:=Hz h0
    have hmx: ∀x∈dA key n ws,¬jR (dh m) (dh x)=true:=fun x hx=>by
     rw[e2]
     exact(EX ((dA key n ws).map dh) (((dA key n ws).map dh).getD 0 default)).2 _ (List.mem_map.2 ⟨x,hx,rfl⟩)
    obtain⟨m1,m2,m3⟩:=hsw n m hm
    have hlt:fE p m=false:=htop hm (fun x hx=>(hsw n x hx).1) hmx fun y hy hyk hys=>by
     rw[if_neg (by omega)]at hys
     refine List.mem_filter.2 ⟨hy, ?_⟩
     simp only[rJ,eX,Bool.and_eq_true,decide_eq_true_eq]at hys
     simp only[yV,Bool.and_eq_true,decide_eq_true_eq]
     exact⟨⟨(hkind y hy).2,by rw[hys.2];exact m3⟩,by omega⟩
    have hmf:m∈(dA key n ws).filter fun x=> !fE p x:=List.mem_filter.2 ⟨hm,by rw[hlt];rfl⟩
    refine⟨?_, ?_⟩
    · unfold LW
      rw[decide_eq_false h0,decide_eq_false (fun h=>by rw[List.length_eq_zero_iff]at h;rw[h]at hmf;cases hmf)]
    · rw[e1]
      exact V5 (fun a ha b hb=>hone a (hsw n a (List.mem_filter.1 ha).1).1 b (hsw n b (List.mem_filter.1 hb).1).1) hmf fun x hx=>hmx x (List.mem_filter.1 hx).1
 have hadd: ∀n,valsF (eF key n (ws.filter fun x=> !fE p x))=valsF (eF key n ws):=fun n=>by
  rw[ha]
  refine OE fun v=>?_
  rw[List.mem_map,List.mem_map]
  constructor
  · rintro⟨x,hx,e⟩
    exact⟨x,(List.mem_filter.1 hx).1,e⟩
  · rintro⟨x,hx,e⟩
    have h0: ¬ ((eF key n ws).filter fun y=>decide (y.v=x.v)).length=0:=fun h=>by
     rw[List.length_eq_zero_iff]at h
     have:x∈(eF key n ws).filter fun y=>decide (y.v=x.v):=List.mem_filter.2 ⟨hx,decide_eq_true rfl⟩
     rw[h]at this
     cases this
    obtain⟨m,hm,e1,e2⟩:=Hz h0
    obtain⟨hma,hmv⟩:=List.mem_filter.1 hm
    have hmv:m.v=x.v:=of_decide_eq_true hmv
    obtain⟨m1,m2,m3⟩:=haw n m hma
    have hmx: ∀y∈(eF key n ws).filter fun y=>decide (y.v=x.v),¬jR (dh m) (dh y)=true:=fun y hy=>by
     rw[e2]
     exact(EX _ _).2 _ (List.mem_map.2 ⟨y,hy,rfl⟩)
    have hlt:fE p m=false:=htop hm (fun y hy=>(haw n y (List.mem_filter.1 hy).1).1) hmx fun y hy hyk hys=>by
     rw[if_pos m2]at hys
     simp only[jk,rJ,eX,Bool.and_eq_true,decide_eq_true_eq]at hys
     refine List.mem_filter.2 ⟨List.mem_filter.2 ⟨hy, ?_⟩,decide_eq_true (hys.2.trans hmv)⟩
     simp only[yV,Bool.and_eq_true,decide_eq_true_eq,Bool.not_eq_true',decide_eq_false_iff_not]
     exact⟨⟨(hkind y hy).2,by rw[hys.1.2];exact m3⟩,by omega⟩
    exact⟨m,List.mem_filter.2 ⟨hma,by rw[hlt];rfl⟩,by rw[hmv];exact e⟩
 unfold fJ
 rw[(hset 0).1,(hset 1).1,(hset 0).2,(hset 1).2,hadd,hadd]
theorem Kq.abw:nU (iQ p)=nU p:=by
 rw[of_same (l:=iQ p) (key:=key) (fun x hx=>t.key x (List.mem_filter.1 hx).1),of_same t.key,Je,Ec,t.abv]
omit t in
theorem Kr:(iQ p).length=o9 p:=by
 unfold iQ o9
 have hd: ∀e,bK p e=true→countB p (aG p) e=false:=fun e he=>by
  have:=iO he
  rw[Bool.eq_false_iff]
  intro k
  rcases kD k with h|h<;>omega
 have : ∀l:List Ev,(l.filter (jg p)).length=(l.filter (bK p)).length+((l.filter (countB p (aG p))).filter fun e=> !fE p e).length:=by
  intro l
  induction l with
  |nil=>rfl
  | cons x l ih=>
    rw[List.filter_cons,List.filter_cons,List.filter_cons]
    have hq:jg p x=(bK p x||(countB p (aG p) x&& !fE p x)):=rfl
    rw[hq]
    cases hl:bK p x with
    |true=>simp[hd x hl,ih];omega
    | false=>
      cases hc:countB p (aG p) x with
      |false=>simp[ih]
      | true=>
        simp only[Bool.false_or,Bool.true_and,if_true,Bool.false_eq_true,if_false]
        rw[List.filter_cons]
        cases fE p x<;>simp[ih]<;>omega
 exact this p
end
end
section
open Go.RowKit
def keyS (k:Str):ByteArray:=⟨k.toArray⟩
theorem V8 (k:Str):dI (keyS k)=k:=rfl
def iU (P:List Ev) (key:ByteArray):List Ev:=iQ (lJ (eqK key) P)
theorem H8 {P:List Ev} {e:Ev} (t:Ci (lJ (eqK e.key) P) e):iU (P++[e]) e.key=kH (iU P e.key) e:=by
 unfold iU
 rw[UA,if_pos (show eqK e.key e.key=true from decide_eq_true rfl),t.step]
theorem Ee {P:List Ev} {e:Ev} {key:ByteArray} (h:key≠e.key):iU (P++[e]) key=iU P key:=by
 unfold iU
 rw[UA,if_neg (by unfold eqK;rw[decide_eq_false (fun k=>h k.symm)];simp),List.append_nil]
theorem V9 {P:List Ev} {key:ByteArray}:iU P key≠[]↔aG (lJ (eqK key) P)≠[]:=by
 constructor
 · intro h hl
   obtain⟨x,hx⟩:=List.exists_mem_of_ne_nil _ h
   obtain⟨hx,hq⟩:=List.mem_filter.1 hx
   rcases zQ hq with⟨h1,_⟩|⟨h1,_,_⟩
   · have:x∈aG (lJ (eqK key) P):=List.mem_filter.2 ⟨hx,h1⟩
     rw[hl]at this
     cases this
   · unfold countB at h1
     rw[hl]at h1
     simp[gZ]at h1
 · intro h hk
   obtain⟨x,hx⟩:=List.exists_mem_of_ne_nil _ h
   obtain⟨hx,hl⟩:=List.mem_filter.1 hx
   have:x∈iU P key:=List.mem_filter.2 ⟨hx,by unfold jg;rw[hl];rfl⟩
   rw[hk]at this
   cases this
theorem Ia {P:List Ev} {k:Str}:k∈keysB P↔aG (lJ (eqK (keyS k)) P)≠[]:=by
 have h1:k∈keysB P↔k∈(aG P).map fun e:Ev=>dI e.key:=(iM _).2 k
 rw[h1,yB,List.mem_map]
 constructor
 · rintro⟨e,he,rfl⟩ h
   have:e∈lJ (eqK (keyS (dI e.key))) (aG P):=List.mem_filter.2 ⟨he,decide_eq_true (show e.key=keyS (dI e.key) by unfold keyS;rw[V4])⟩
   rw[h]at this
   cases this
 · intro h
   obtain⟨e,he⟩:=List.exists_mem_of_ne_nil _ h
   obtain⟨he,hk⟩:=List.mem_filter.1 he
   have hk:e.key=keyS k:=of_decide_eq_true hk
   exact⟨e,he,by rw[hk];rfl⟩
theorem adh {P:List Ev} {k:Str} (h:k∈keysB P):nU (lJ (eqK (keyS k)) P)=[fJ (keyS k) (bI P (aG P))]:=by
 rw[of_same (key:=keyS k) HY,if_neg (Ia.1 h),Eb,RQ (show eqK (keyS k) (keyS k)=true from decide_eq_true rfl)]
theorem Wh {P:List Ev} (hp: ∀key,Kq (lJ (eqK key) P) key) {ks:List Str} (hs:ks.Pairwise (· < ·)) (hm: ∀k,k∈ks↔iU P (keyS k)≠[]):
  ks.flatMap (fun k=>nU (iU P (keyS k)))=nU P:=by
 have hk:ks=keysB P:=yt hs (iM ((aG P).map fun e:Ev=>dI e.key)).1 fun k=>by
  rw[hm,V9]
  exact Ia.symm
 have h2: ∀l:List Str,(∀k∈l,k∈keysB P)→l.flatMap (fun k=>nU (iU P (keyS k)))=l.map fun k=>fJ (keyS k) (bI P (aG P)):=by
  intro l
  induction l with
  |nil=>intro _;rfl
  | cons k l ih=>
    intro h
    rw[List.flatMap_cons,List.map_cons,ih fun x hx=>h x (List.mem_cons_of_mem _ hx)]
    unfold iU
    rw[(hp (keyS k)).abw,adh (h k List.mem_cons_self)]
    rfl
 rw[hk,h2 _ fun k h=>h]
 rfl
theorem PG {P:List Ev} (h:aG P=[]):o9 P=0:=by
 unfold o9
 rw[h]
 have:bI P []=[]:=by
  unfold bI
  rw[List.filter_eq_nil_iff]
  intro x _
  simp[countB,gZ]
 rw[this]
 rfl
theorem aeh {p q:ByteArray→Bool} {P:List Ev} (h: ∀k,p k=true→q k=true):lJ p (lJ q P)=lJ p P:=by
 unfold lJ
 rw[List.filter_filter]
 refine List.filter_congr fun x _=>?_
 cases hp:p x.key with
 |false=>simp
 |true=>rw[h _ hp];rfl
theorem Dy: ∀ (ks:List Str) (P:List Ev),ks.Nodup→(∀x∈aG P,dI x.key∈ks)→(ks.map fun k=>(iU P (keyS k)).length).sum=o9 P
  | [],P,_,h=>by
    have:aG P=[]:=List.eq_nil_iff_forall_not_mem.2 fun x hx=>by have:=h x hx;cases this
    rw[PG this]
    rfl
  | k ::ks,P,hn,h=>by
    obtain⟨hk,hn⟩:=List.nodup_cons.1 hn
    have ih:=Dy ks (lJ (fun x=> !eqK (keyS k) x) P) hn (fun x hx=>by
     rw[yB]at hx
     obtain⟨hx,hne⟩:=List.mem_filter.1 hx
     rcases List.mem_cons.1 (h x hx)with e|h
     · exfalso
       have:eqK (keyS k) x.key=true:=decide_eq_true (by rw[←e];unfold keyS;rw[V4])
       have hne:(!eqK (keyS k) x.key)=true:=hne
       rw[this]at hne
       cases hne
     · exact h)
    have hc:(ks.map fun q=>(iU (lJ (fun x=> !eqK (keyS k) x) P) (keyS q)).length)=ks.map fun q=>(iU P (keyS q)).length:=List.map_congr_left fun q hq=>by
     unfold iU
     rw[aeh]
     intro y hy
     have hy:y=keyS q:=of_decide_eq_true hy
     have:y≠keyS k:=fun e=>by
      rw[hy]at e
      have e:q=k:=congrArg dI e
      exact hk (e▸hq)
     unfold eqK
     rw[decide_eq_false this]
     rfl
    rw[hc]at ih
    rw[List.map_cons,List.sum_cons,ih,size_two (p:=eqK (keyS k)) (l:=P)]
    congr 1
    exact Kr
theorem Inv.pst {T P:List Ev} {H:Nat→aW} (hI:Inv T H) (hP: ∀x∈P,x∈T) (htr: ∀a∈T,∀b∈T,∀c∈T,aO a b=true→aO b c=true→aO a c=true) (key:ByteArray):Kq (lJ (eqK key) P) key:=by
 have hs: ∀x∈lJ (eqK key) P,x∈T:=fun x hx=>hP x (List.mem_filter.1 hx).1
 exact⟨HY,fun a ha b hb=>hI.stamp a (hs a ha) b (hs b hb),fun a ha b hb=>hI.hgt a (hs a ha) b (hs b hb),fun a ha b hb c hc=>htr a (hs a ha) b (hs b hb) c (hs c hc)⟩
end
section
open Go.RowKit
structure MN (W:List Ev) (s:Spr):Prop where
 full: ∀e∈W,∀r:Nat,r<5→e.r=(r:Int)→e.n≤s.hv.at r→e∈s.out
 le: ∀e∈s.out,∀r:Nat,r<5→e.c.at r≤s.hv.at r
 ord:s.out.Pairwise fun a b=>aO b a=false
theorem MN.step {W:List Ev} {H:Nat→aW} (hI:Inv W H) {s:Spr} (hok:Uz W s) (h:MN W s) {k:Nat} (hk:k∈adf s.left s.hv):MN W (Uy s k):=by
 obtain⟨hkl,RU⟩:=abq.1 hk
 obtain⟨out,left,hv⟩:=s
 obtain⟨h1,h2,h3⟩:=h
 obtain⟨p1,p2,p3,p4⟩:=hok
 simp only at h1 h2 h3 p1 p2 p3 p4 hkl RU
 have hg:left.getD k default=left[k]:=by rw[List.getD,List.getElem?_eq_getElem hkl];rfl
 have hm:left[k]∈W:=p2.subset (List.getElem_mem hkl)
 have hle: ∀r:Nat,r<5→left[k].c.at r≤hv.at r:=by
  have:left[k].c.le hv=true:=by rw[←hg];exact RU
  exact aed.1 this
 obtain⟨p,q1,q2,q3,q4,q5⟩:=hI.ev _ hm
 have ep:left[k].r.toNat=p:=by rw[q2];omega
 have htop: ∀r:Nat,r<5→hv.at r≤(hv.top p left[k].n).at r:=fun r hr=>by
  rw[MK _ _ q1 hr]
  split
  · exact Zl _ _
  · exact Int.le_refl _
 have aei:left[k] ∉ out:=fun ho=>by
  have hd:(out++left).Pairwise fun a b=> ¬ (a.r=b.r∧a.n=b.n):=(p1.symm.pairwise_iff (fun h k=>h ⟨k.1.symm,k.2.symm⟩)).1 hI.dis
  exact(List.pairwise_append.1 hd).2.2 _ ho _ (List.getElem_mem hkl) ⟨rfl,rfl⟩
 unfold Uy
 simp only[hg,ep]
 refine⟨fun e he r hr er en=>?_,fun e he r hr=>?_, ?_⟩
 · have en:e.n≤(hv.top p left[k].n).at r:=en
   rw[MK _ _ q1 hr]at en
   by_cases aej:r=p
   · subst aej
     rw[if_pos rfl]at en
     rcases Int.lt_or_le (hv.at r) e.n with k1|k1
     · have hh:=hle r hr
       have:e.n≤left[k].n:=by unfold IQ at en;split at en<;>omega
       have hen:e.n=left[k].n:=by omega
       have:e=left[k]:=hI.mark he hm (by rw[er,q2]) hen
       rw[this]
       exact List.mem_append.2 (.inr (List.mem_singleton.2 rfl))
     · exact List.mem_append.2 (.inl (h1 e he r hr er k1))
   · rw[if_neg aej]at en
     exact List.mem_append.2 (.inl (h1 e he r hr er en))
 · have:=htop r hr
   have he:e∈out++[left[k]]:=he
   show e.c.at r≤(hv.top p left[k].n).at r
   rcases List.mem_append.1 he with he|he
   · have:=h2 e he r hr
     omega
   · rw[List.mem_singleton.1 he]
     have:=hle r hr
     omega
 · show(out++[left[k]]).Pairwise _
   refine List.pairwise_append.2 ⟨h3,List.pairwise_singleton _ _,fun x hx y hy=>?_⟩
   rw[List.mem_singleton.1 hy,Bool.eq_false_iff]
   intro hb
   unfold aO at hb
   rw[q2,qP q1]at hb
   have:=h2 x hx p q1
   exact aei (h1 _ hm p q1 q2 (by omega))
end
section
open Go.RowKit
theorem Kt (w:World):(callFunc 202 #[]).run Tryz.prog w= .ok (.value (.tuple #[])) w:=run_call_mark0 Tryz.func202 (by kernel_rfl) (by kernel_rfl) (by kernel_rfl) .disable (by kernel_rfl) w
theorem PI (w:World):(callFunc 204 #[]).run Tryz.prog w= .ok (.value (.tuple #[])) w:=run_call_mark0 Tryz.func204 (by kernel_rfl) (by kernel_rfl) (by kernel_rfl) .enable (by kernel_rfl) w
theorem Wi (a:Addr) (w:World):(callFunc 205 #[.pointer (some a)]).run Tryz.prog w= .ok (.value (.tuple #[])) w:=run_call_marked Tryz.func205 (by kernel_rfl) (by kernel_rfl) (by kernel_rfl) .acquire (by kernel_rfl) a w
theorem Wj (a:Addr) (w:World):(callFunc 207 #[.pointer (some a)]).run Tryz.prog w= .ok (.value (.tuple #[])) w:=run_call_marked Tryz.func207 (by kernel_rfl) (by kernel_rfl) (by kernel_rfl) .releaseMerge (by kernel_rfl) a w
theorem abx (a:Addr) (x:Value) (u:FrameMode) (w:World) (hc:w.cell? a=some x) (hz:w.frozen? a=false):
  CallsD Tryz.prog 188 #[.pointer (some a),.bool true] u w fun e u' w'=>u'=u∧(e= .returned (.tuple #[])∧w'=w.drew.setCell a (.int .u32 1)):=by
 have hc':w.drew.cell? a=some x:=by go_simp
 have hz':w.drew.frozen? a=false:=by go_simp
 have hst:=run_call_store (P:=Tryz.prog) Tryz.func199 (by kernel_rfl) (by kernel_rfl) (by kernel_rfl) (by kernel_rfl) (k:= .u32) (y:=1) hc' hz'
 go_enter_d Tryz.func188,Tryz.ntmps188
 go_wp2
 go_region_calls
 all_goals(go_end0;exact⟨rfl,rfl⟩)
theorem Zz (a:Addr) (u:FrameMode) (w:World) (hc:w.cell? a=some (.int .i32 1)) (hz:w.frozen? a=false):
  CallsD Tryz.prog 187 #[.pointer (some a)] u w fun e u' w'=>u'=u∧(e= .returned (.tuple #[])∧w'=w.setCell a (.int .i32 0)):=by
 have hd:=Kt
 have he:=PI
 have hr:=Wj
 have hadd:=run_call_add (P:=Tryz.prog) Tryz.func208 (by kernel_rfl) (by kernel_rfl) (by kernel_rfl) .i32 (by kernel_rfl) (y:= -1) (s:=0) hc hz (by simp[go_sem];rfl)
 have hcv:=run_convert_to_unsafe (P:=Tryz.prog) (src:=264) (dst:=268) Tryz.underlying264 Tryz.underlying268 (by kernel_rfl) hc
 go_enter_d Tryz.func187,Tryz.ntmps187
 go_wp2
 go_end0
 go_wp2
 all_goals(go_end0;exact⟨rfl,rfl⟩)
theorem adi (a:Addr) (w:World) (hc:w.cell? a=some (.int .i32 0)) (hz:w.frozen? a=false):
  Calls Tryz.prog 186 #[.pointer (some a)] w fun e w'=>e= .returned (.tuple #[])∧w'=w.setCell a (.int .i32 1):=by
 have hd:=Kt
 have he:=PI
 have ha:=Wi
 have hcas:=run_call_cas_hit (P:=Tryz.prog) Tryz.func203 (by kernel_rfl) (by kernel_rfl) (by kernel_rfl) .i32 (by kernel_rfl) (y:=1) hc hz
 have hc':(w.setCell a (.int .i32 1)).cell? a=some (.int .i32 1):=World.cell?_setCell_same w a _ hc
 have hcv:=run_convert_to_unsafe (P:=Tryz.prog) (src:=264) (dst:=268) Tryz.underlying264 Tryz.underlying268 (by kernel_rfl) hc'
 go_enter Tryz.func186,Tryz.ntmps186
 go_wp2
 first|go_end0|(simp only[Exit.inBlock,Exit.then];refine bodyPost_ret (results_none rfl _ _ _) rfl ?_)|refine bodyPost_ret (results_none rfl _ _ _) rfl ?_
 go_wp2
 all_goals(go_end0;exact⟨rfl,rfl⟩)
theorem RV (a:Addr) (x:Int) (w:World) (hc:w.cell? a=some (.int .u32 x)):
  Calls Tryz.prog 156 #[.pointer (some a)] w fun e w'=>e= .returned (.bool (x !=0))∧w'=w:=by
 have hl:=run_call_load (P:=Tryz.prog) Tryz.func185 (by kernel_rfl) (by kernel_rfl) (by kernel_rfl) .u32 (by kernel_rfl) (w:=w) (a:=a) (x:=x) hc
 go_enter Tryz.func156,Tryz.ntmps156
 go_wp2
 go_ret
 exact⟨rfl,rfl⟩
theorem adk (b off:Nat) (caps:Array Value) (w:World) (Φ:World→Prop)
  (h0:w.cell? ⟨b,off,none⟩=some (.int .u32 0)) (h1:w.cell? ⟨b,off+1,none⟩=some (.int .i32 0))
  (f1:w.frozen? ⟨b,off+1,none⟩=false)
  (hcl:Calls Tryz.prog 131 caps (w.setCell ⟨b,off+1,none⟩ (.int .i32 1)) fun e w1=>e= .returned (.tuple #[])∧Φ w1)
  (hΦ: ∀w1,Φ w1→w1.cell? ⟨b,off,none⟩=some (.int .u32 0)∧w1.cell? ⟨b,off+1,none⟩=some (.int .i32 1)∧w1.frozen? ⟨b,off,none⟩=false∧w1.frozen? ⟨b,off+1,none⟩=false):
  Calls Tryz.prog 157 #[.pointer (some ⟨b,off,none⟩),.func (.func 131) #[] caps] w fun e w'=>e= .returned (.tuple #[])∧
   ∃w1,Φ w1∧w'=(w1.drew.setCell ⟨b,off,none⟩ (.int .u32 1)).setCell ⟨b,off+1,none⟩ (.int .i32 0):=by
 have g0':(w.setCell ⟨b,off+1,none⟩ (.int .i32 1)).cell? ⟨b,off,none⟩=some (.int .u32 0):=(World.cell?_setCell_other _ ⟨b,off+1,none⟩ ⟨b,off,none⟩ _ (by simp)).trans h0
 have hnot: ∀ (x:Bool) (w:World),(Op.unary .not (.bool x)).run Tryz.prog w= .ok (.bool (!x)) w:=fun _ _=>rfl
 go_enter_defers Tryz.func157,Tryz.ntmps157
 go_wp2_with (first|(go_at_call 186;refine(adi ⟨b,off+1,none⟩ _ (by go_simp) (by go_simp)).mono ?_;rintro e w' ⟨rfl,rfl⟩)|(go_at_call 156;refine(RV ⟨b,off,none⟩ 0 _ g0').mono ?_;rintro e w' ⟨rfl,rfl⟩)|(go_at_call 131;refine hcl.mono ?_;rintro e w1 ⟨rfl,hw1⟩))
 obtain⟨g0,g1,z0,z1⟩:=hΦ _ hw1
 refine leaves_cons (f:=188) (args:= #[.pointer (some ⟨b,off,none⟩),.bool true]) (by simp) (by simp[go_sem]) ?_
 refine(abx ⟨b,off,none⟩ (.int .u32 0) .returning _ g0 z0).mono ?_
 rintro e u' w'' ⟨rfl,rfl,rfl⟩
 refine leaves_cons (f:=187) (args:= #[.pointer (some ⟨b,off+1,none⟩)]) (by simp[settle]) (by simp[go_sem]) ?_
 refine(Zz ⟨b,off+1,none⟩ _ _ ?_ (by simp[z1])).mono ?_
 · refine(World.cell?_setCell_other _ ⟨b,off,none⟩ ⟨b,off+1,none⟩ _ (by simp)).trans ?_
   rw[World.cell?_drew]
   exact g1
 rintro e u' w'' ⟨rfl,rfl,rfl⟩
 simp[Leaves,settle,results,Tryz.results157]
 exact⟨w1,hw1,rfl⟩
theorem aby (b off:Nat) (caps:Array Value) (w:World) (Φ:World→Prop)
  (h0:w.cell? ⟨b,off,none⟩=some (.int .u32 0)) (h1:w.cell? ⟨b,off+1,none⟩=some (.int .i32 0))
  (f1:w.frozen? ⟨b,off+1,none⟩=false)
  (hcl:Calls Tryz.prog 131 caps (w.setCell ⟨b,off+1,none⟩ (.int .i32 1)) fun e w1=>e= .returned (.tuple #[])∧Φ w1)
  (hΦ: ∀w1,Φ w1→w1.cell? ⟨b,off,none⟩=some (.int .u32 0)∧w1.cell? ⟨b,off+1,none⟩=some (.int .i32 1)∧w1.frozen? ⟨b,off,none⟩=false∧w1.frozen? ⟨b,off+1,none⟩=false):
  Calls Tryz.prog 130 #[.pointer (some ⟨b,off,none⟩),.func (.func 131) #[] caps] w fun e w'=>e= .returned (.tuple #[])∧
   ∃w1,Φ w1∧w'=(w1.drew.setCell ⟨b,off,none⟩ (.int .u32 1)).setCell ⟨b,off+1,none⟩ (.int .i32 0):=by
 have hnot: ∀ (x:Bool) (w:World),(Op.unary .not (.bool x)).run Tryz.prog w= .ok (.bool (!x)) w:=fun _ _=>rfl
 go_enter Tryz.func130,Tryz.ntmps130
 go_wp2_with (first|(go_at_call 156;refine(RV ⟨b,off,none⟩ 0 _ h0).mono ?_;rintro e w' ⟨rfl,rfl⟩)|(go_at_call 157;refine(adk b off caps _ Φ h0 h1 f1 hcl hΦ).mono ?_;rintro e w1 ⟨rfl,hw1⟩))
 go_end0
 exact⟨rfl,hw1⟩
theorem adl (a:Addr) (g:Value) (w:World) (h0:w.cell? a=some (.int .u32 1)):
  Calls Tryz.prog 130 #[.pointer (some a),g] w fun e w'=>e= .returned (.tuple #[])∧w'=w:=by
 have hnot: ∀ (x:Bool) (w:World),(Op.unary .not (.bool x)).run Tryz.prog w= .ok (.bool (!x)) w:=fun _ _=>rfl
 go_enter Tryz.func130,Tryz.ntmps130
 go_wp2_with (first|(go_at_call 156;refine(RV a 1 _ h0).mono ?_;rintro e w' ⟨rfl,rfl⟩))
 go_end0
 exact⟨rfl,rfl⟩
theorem aek (a:Addr) (x y z:Int) (w:World) (hc:w.cell? a=some (.int .i64 x)) (hz:w.frozen? a=false) (hs:(Op.intArith .add .i64 x y).run Tryz.prog w= .ok (.int .i64 z) w):
  Calls Tryz.prog 133 #[.pointer (some a),.int .i64 y] w fun e w'=>e= .returned (.int .i64 z)∧w'=w.setCell a (.int .i64 z):=by
 have hadd:=run_call_add (P:=Tryz.prog) Tryz.func164 (by kernel_rfl) (by kernel_rfl) (by kernel_rfl) .i64 (by kernel_rfl) (y:=y) (s:=z) hc hz hs
 go_enter Tryz.func133,Tryz.ntmps133
 go_wp2
 go_ret
 exact⟨rfl,rfl⟩
end
end Go.Proofs.YtimhagicagdkfaaGreat
