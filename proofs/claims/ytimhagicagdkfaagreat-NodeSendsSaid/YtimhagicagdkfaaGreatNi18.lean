/-
  Contracts of the walk:Lv1,Lv2,Lv3,Lv4,LvK.
-/
import Derived.Test.YtimhagicagdkfaaGreatNi17
import Derived.Test.YtimhagicagdkfaaGreatNi10
import Derived.Tactics
import Derived.Tactics2
import Derived.Defers
import Derived.Laws.Pointers
import Derived.Laws.LoneSync
import Derived.RegionTactic
import Derived.RegionCalls
set_option maxHeartbeats 16000000
set_option maxRecDepth 100000
set_option linter.unusedVariables false
set_option linter.unusedSimpArgs false
namespace Go.Proofs.YtimhagicagdkfaaGreat
section
open Go.RowKit
def iZ (l:List Ev) (e:Ev):Bool:=bK l e||(countB l (aC l) e&& !fD l e)
def iJ (l:List Ev):List Ev:=l.filter (iZ l)
def rC (l:List Ev) (e:Ev):Bool:=l.any fun a=>decide (a.k=1)&&aK a e
def qG (kind:Int) (same:Ev→Bool) (e:Ev) (l:List Ev):List Ev:=l.filter fun a=> !decide (a.k=kind)||(!same a|| !aK a e)
def wK (e a:Ev):Bool:=decide (a.l=e.l)
def oW (e a:Ev):Bool:=decide (a.l=e.l)&&decide (a.v=e.v)
def kD (l:List Ev) (e:Ev):List Ev:=
 if e.k=1 then l++[e]
 else if e.k=2 then(qG 1 (fun _=>true) e l).filter fun a=>decide (a.k=1)||rC (qG 1 (fun _=>true) e l) a
 else if e.k=3 then(if rC l e=true then qG 3 (wK e) e l++[e]else l)
 else if e.k=5 then qG 4 (oW e) e l
 else if rC l e=true then qG 4 (oW e) e l++[e]else l
structure Dj (p:List Ev) (e:Ev):Prop where
 key: ∀x∈p,x.key=e.key
 non: ∀x∈p,aK e x=false
 self:aK e e=false
 tr: ∀a∈p,∀b∈p,aK a b=true→aK b e=true→aK a e=true
 kind:1≤e.k∧e.k≤5
 kinds: ∀x∈p,1≤x.k∧x.k≤5
theorem wL {a b:Ev} (h:a.key=b.key):eU a b=true:=decide_eq_true h
section
variable {p:List Ev} {e:Ev} (t:Dj p e)
include t
theorem Dj.keys {x:Ev} (hx:x∈p):eU e x=true∧eU x e=true:=⟨wL (t.key x hx).symm,wL (t.key x hx)⟩
theorem Dj.LJ {k:Int} {same:Ev→Ev→Bool}:fC k same (p++[e]) e=false:=by
 rw[jX,Jy t.non,t.self]
 simp
theorem Dj.Ba:bK (p++[e]) e=decide (e.k=1):=by
 unfold bK
 rw[t.LJ]
 simp
theorem Dj.tC {x:Ev} (hx:x∈p):bK (p++[e]) x=(bK p x&& !(decide (e.k=2)&&aK x e)):=by
 unfold bK
 rw[jX,(t.keys hx).1]
 cases fC 2 eU p x<;>cases decide (x.k=1)<;>simp
theorem Dj.living:aC (p++[e])=(aC p).filter (fun x=> !(decide (e.k=2)&&aK x e))++(if e.k=1 then [e]else []):=by
 unfold aC
 rw[List.filter_append,List.filter_cons,t.Ba,List.filter_filter]
 congr 1
 · refine List.filter_congr fun x hx=>?_
   rw[t.tC hx,Bool.and_comm]
 · by_cases h:e.k=1
   · rw[if_pos h,if_pos (decide_eq_true h)];rfl
   · rw[if_neg h,if_neg (by rw[decide_eq_false h];simp)];rfl
theorem Dj.OJ {x:Ev} (hx:x∈p):gY 1 eU (aC (p++[e])) x=(aC p).any fun a=> !(decide (e.k=2)&&aK a e)&&aK a x:=by
 unfold gY
 rw[t.living,List.any_append,List.any_filter]
 have h2:((if e.k=1 then [e]else []).any fun a=>decide (a.k=1)&&(eU a x&&aK a x))=false:=by
  split
  · rw[List.any_cons,List.any_nil,t.non x hx];simp
  · rfl
 rw[h2,Bool.or_false]
 refine any_congr fun a ha=>?_
 obtain⟨hap,hal⟩:=List.mem_filter.1 ha
 have hk:a.k=1:=by
  simp only[bK,Bool.and_eq_true,decide_eq_true_eq]at hal
  exact hal.1
 rw[decide_eq_true hk,wL (show a.key=x.key by rw[t.key a hap,t.key x hx])]
 cases decide (e.k=2)<;>cases aK a e<;>cases aK a x<;>rfl
theorem Dj.Cj {x:Ev} (hx:x∈p):gY 1 eU (aC p) x=(aC p).any fun a=>aK a x:=by
 refine any_congr fun a ha=>?_
 obtain⟨hap,hal⟩:=List.mem_filter.1 ha
 have hk:a.k=1:=by
  simp only[bK,Bool.and_eq_true,decide_eq_true_eq]at hal
  exact hal.1
 rw[decide_eq_true hk,wL (show a.key=x.key by rw[t.key a hap,t.key x hx])]
 simp
theorem Dj.aaX:gY 1 eU (aC (p++[e])) e=(aC p).any fun a=> !(decide (e.k=2)&&aK a e)&&aK a e:=by
 unfold gY
 rw[t.living,List.any_append,List.any_filter]
 have h2:((if e.k=1 then [e]else []).any fun a=>decide (a.k=1)&&(eU a e&&aK a e))=false:=by
  split
  · rw[List.any_cons,List.any_nil,t.self];simp
  · rfl
 rw[h2,Bool.or_false]
 refine any_congr fun a ha=>?_
 obtain⟨hap,hal⟩:=List.mem_filter.1 ha
 have hk:a.k=1:=by
  simp only[bK,Bool.and_eq_true,decide_eq_true_eq]at hal
  exact hal.1
 rw[decide_eq_true hk,(t.keys hap).2]
 cases decide (e.k=2)<;>cases aK a e<;>rfl
theorem Dj.YW {x:Ev} (hx:x∈p):qW e x=wK e x:=by
 unfold qW wK
 rw[(t.keys hx).1,Bool.true_and]
 exact decide_eq_decide.2 eq_comm
theorem Dj.YX {x:Ev} (hx:x∈p):jd e x=oW e x:=by
 have h:=t.YW hx
 unfold jd oW
 rw[h]
 unfold wK
 congr 1
 exact decide_eq_decide.2 eq_comm
theorem Dj.OL {x:Ev} (hx:x∈p):fD (p++[e]) x=(fD p x||(decide (e.k=x.k)&&((if x.k=4 then oW e x else wK e x)&&aK x e))):=by
 unfold fD
 by_cases h:x.k=4
 · rw[if_pos h,if_pos h,jX,t.YX hx]
 · rw[if_neg h,if_neg h,jX,t.YW hx]
theorem Dj.OH {x:Ev} (hx:x∈p) (h2:e.k≠2):countB (p++[e]) (aC (p++[e])) x=(countB p (aC p) x&& !(decide (e.k=5)&&(decide (x.k=4)&&(oW e x&&aK x e)))):=by
 have hu:gY 1 eU (aC (p++[e])) x=gY 1 eU (aC p) x:=by
  rw[t.OJ hx,t.Cj hx]
  refine any_congr fun a _=>?_
  rw[decide_eq_false h2]
  rfl
 unfold countB
 rw[hu,jX,t.YX hx]
 by_cases h3:x.k=3
 · rw[decide_eq_true h3,decide_eq_false (show¬x.k=4 by omega)]
   simp
 · rw[decide_eq_false h3]
   cases decide (x.k=4)<;>cases fC 5 jd p x<;>cases gY 1 eU (aC p) x<;>simp
theorem Dj.aaY (h:e.k=1):iZ (p++[e]) e=true:=by
 unfold iZ
 rw[t.Ba,decide_eq_true h]
 rfl
theorem Dj.xZ {x:Ev} (hx:x∈p) (h2:e.k≠2):iZ (p++[e]) x=(bK p x||(countB p (aC p) x&& !(decide (e.k=5)&&(decide (x.k=4)&&(oW e x&&aK x e)))&& !(fD p x||(decide (e.k=x.k)&&((if x.k=4 then oW e x else wK e x)&&aK x e))))):=by
 unfold iZ
 rw[t.tC hx,t.OH hx h2,t.OL hx,decide_eq_false h2]
 simp
omit t in
theorem iI {l:List Ev} {x:Ev} (h:bK l x=true):x.k=1:=by
 simp only[bK,Bool.and_eq_true,decide_eq_true_eq]at h
 exact h.1
omit t in
theorem jY {l C:List Ev} {x:Ev} (h:countB l C x=true):x.k=3∨x.k=4:=by
 simp only[countB,Bool.and_eq_true,Bool.or_eq_true,decide_eq_true_eq]at h
 rcases h.1 with h|h
 · exact .inl h
 · exact .inr h.1
omit t in
theorem Gy {x:Ev}:rC (iJ p) x=(aC p).any fun a=>aK a x:=by
 unfold rC iJ aC
 rw[List.any_filter,List.any_filter]
 refine any_congr fun a _=>?_
 cases hl:bK p a with
 |true=>rw[decide_eq_true (iI hl)];simp[iZ,hl]
 | false=>
   cases hc:countB p (aC p) a with
   | false=>
     have:iZ p a=false:=by unfold iZ;rw[hl,hc];rfl
     rw[this]
     rfl
   | true=>
     have: ¬a.k=1:=by rcases jY hc with h|h<;>omega
     rw[decide_eq_false this]
     simp
theorem Dj.acO {h2:e.k≠1}:iZ (p++[e]) e=((decide (e.k=3)||decide (e.k=4))&&rC (iJ p) e):=by
 have hl:fD (p++[e]) e=false:=by unfold fD;split<;>exact t.LJ
 unfold iZ
 rw[t.Ba,decide_eq_false h2,hl,Gy]
 unfold countB
 rw[t.LJ,t.aaX]
 by_cases h:e.k=2
 · rw[decide_eq_false (show¬e.k=3 by omega),decide_eq_false (show¬e.k=4 by omega)]
   rfl
 · rw[decide_eq_false h]
   simp
omit t in
theorem QU (l:List Ev) (x:Ev):iJ (l++[x])=l.filter (iZ (l++[x]))++(if iZ (l++[x]) x=true then [x]else []):=by
 unfold iJ
 rw[List.filter_append,List.filter_cons]
 rfl
theorem Dj.TL {x:Ev} (hx:x∈p) (hc:countB p (aC p) x=true) (hb:aK x e=true):rC (iJ p) e=true:=by
 have hu:gY 1 eU (aC p) x=true:=by
  simp only[countB,Bool.and_eq_true]at hc
  exact hc.2
 rw[t.Cj hx]at hu
 rw[Gy]
 obtain⟨a,ha,hax⟩:=List.any_eq_true.1 hu
 exact List.any_eq_true.2 ⟨a,ha,t.tr a (List.mem_filter.1 ha).1 x hx hax hb⟩
theorem Dj.step:kD (iJ p) e=iJ (p++[e]):=by
 rw[QU]
 unfold kD
 have hk:=t.kind
 by_cases k1:e.k=1
 · rw[if_pos k1,if_pos (t.aaY k1)]
   congr 1
   refine List.filter_congr fun x hx=>?_
   rw[t.xZ hx (by omega),decide_eq_false (show¬e.k=5 by omega)]
   unfold iZ
   cases hc:countB p (aC p) x with
   |false=>simp
   | true=>
     have: ¬e.k=x.k:=by rcases jY hc with h|h<;>omega
     rw[decide_eq_false this]
     simp
 rw[if_neg k1,t.acO (h2:=k1)]
 by_cases k2:e.k=2
 · rw [if_pos k2,decide_eq_false (show¬e.k=3 by omega),decide_eq_false (show¬e.k=4 by omega),if_neg (by simp),List.append_nil]
   have hcr: ∀x∈p,rC (qG 1 (fun _=>true) e (iJ p)) x=(aC p).any fun a=> !aK a e&&aK a x:=fun x _=>by
    unfold rC qG iJ aC
    rw[List.any_filter,List.any_filter,List.any_filter]
    refine any_congr fun a _=>?_
    cases hl:bK p a with
    |true=>rw[decide_eq_true (iI hl)];simp[iZ,hl]
    | false=>
      cases hc:countB p (aC p) a with
      | false=>
        have:iZ p a=false:=by unfold iZ;rw[hl,hc];rfl
        rw[this]
        rfl
      | true=>
        have: ¬a.k=1:=by rcases jY hc with h|h<;>omega
        rw[decide_eq_false this]
        simp
   have hd:qG 1 (fun _=>true) e (iJ p)=p.filter fun x=>(!decide (x.k=1)|| !aK x e)&&iZ p x:=by
    unfold qG iJ
    rw[List.filter_filter]
    exact List.filter_congr fun x _=>by simp
   rw[List.filter_congr (q:=fun a=>decide (a.k=1)||(aC p).any fun c=> !aK c e&&aK c a) (fun x hx=>by
    rw[hcr x]
    rw[hd]at hx
    exact(List.mem_filter.1 hx).1),hd,List.filter_filter]
   refine List.filter_congr fun x hx=>?_
   have hl:=t.tC hx
   have hlt:fD (p++[e]) x=(fD p x||(decide (e.k=x.k)&&((if x.k=4 then oW e x else wK e x)&&aK x e))):=t.OL hx
   have hu:=t.OJ hx
   have huo:=t.Cj hx
   rw[decide_eq_true k2]at hl hu
   simp only[Bool.true_and]at hl hu
   have hle:((aC p).any fun a=> !aK a e&&aK a x)=true→gY 1 eU (aC p) x=true:=fun h=>by
    rw[huo]
    obtain⟨a,ha,h⟩:=List.any_eq_true.1 h
    simp only[Bool.and_eq_true]at h
    exact List.any_eq_true.2 ⟨a,ha,h.2⟩
   unfold iZ
   rw[hl,hlt]
   unfold countB
   rw[hu,jX,decide_eq_false (show¬e.k=5 by omega)]
   generalize((aC p).any fun a=>(!aK a e&&aK a x))=u' at*
   generalize gY 1 eU (aC p) x=u at*
   rcases(show x.k=1∨x.k=3∨x.k=4∨(x.k≠1∧x.k≠3∧x.k≠4) by omega)with h|h|h|⟨h1,h2,h3⟩
   · rw[decide_eq_true h,decide_eq_false (show¬x.k=3 by omega),decide_eq_false (show¬x.k=4 by omega)]
     cases bK p x<;>cases aK x e<;>simp
   · have hnl:bK p x=false:=by rw[Bool.eq_false_iff];intro k;have:=iI k;omega
     rw[hnl,decide_eq_false (show¬x.k=1 by omega),decide_eq_true h,decide_eq_false (show¬x.k=4 by omega),decide_eq_false (show¬e.k=x.k by omega)]
     cases u' with
     |true=>rw[hle rfl];simp
     |false=>simp
   · have hnl:bK p x=false:=by rw[Bool.eq_false_iff];intro k;have:=iI k;omega
     rw[hnl,decide_eq_false (show¬x.k=1 by omega),decide_eq_true h,decide_eq_false (show¬x.k=3 by omega),decide_eq_false (show¬e.k=x.k by omega)]
     cases u' with
     |true=>rw[hle rfl];simp
     |false=>simp
   · have hnl:bK p x=false:=by rw[Bool.eq_false_iff];intro k;have:=iI k;omega
     rw[hnl,decide_eq_false h1,decide_eq_false h2,decide_eq_false h3]
     simp
 rw[if_neg k2]
 by_cases k3:e.k=3
 · rw [if_pos k3,decide_eq_true k3,Bool.true_or,Bool.true_and]
   by_cases hcr:rC (iJ p) e=true
   · rw [if_pos hcr,if_pos hcr]
     congr 1
     unfold qG iJ
     rw[List.filter_filter]
     refine List.filter_congr fun x hx=>?_
     rw[t.xZ hx k2,decide_eq_false (show¬e.k=5 by omega),k3]
     unfold iZ
     cases hl:bK p x with
     |true=>rw[decide_eq_false (show¬x.k=3 by have:=iI hl;omega)];simp
     | false=>
       by_cases h:x.k=3
       · rw[decide_eq_true h,decide_eq_true h.symm,if_neg (by omega)]
         cases countB p (aC p) x<;>cases fD p x<;>simp
       · rw[decide_eq_false h,decide_eq_false (show¬3=x.k from fun k=>h k.symm)]
         simp
   · rw[if_neg hcr,if_neg hcr,List.append_nil]
     unfold iJ
     refine List.filter_congr fun x hx=>?_
     rw[t.xZ hx k2,decide_eq_false (show¬e.k=5 by omega)]
     unfold iZ
     cases hc:countB p (aC p) x with
     |false=>simp
     | true=>
       have:aK x e=false:=by rw[Bool.eq_false_iff];exact fun k=>hcr (t.TL hx hc k)
       rw[this]
       simp
 rw[if_neg k3,decide_eq_false k3,Bool.false_or]
 by_cases k5:e.k=5
 · rw [if_pos k5,decide_eq_false (show¬e.k=4 by omega),Bool.false_and,if_neg (by simp),List.append_nil]
   unfold qG iJ
   rw[List.filter_filter]
   refine List.filter_congr fun x hx=>?_
   rw[t.xZ hx k2,decide_eq_true k5]
   unfold iZ
   cases hl:bK p x with
   |true=>rw[decide_eq_false (show¬x.k=4 by have:=iI hl;omega)];simp
   | false=>
     cases hc:countB p (aC p) x with
     |false=>simp
     | true=>
       rw[decide_eq_false (show¬e.k=x.k by rcases jY hc with h|h<;>omega)]
       by_cases h:x.k=4
       · rw[decide_eq_true h]
         cases oW e x<;>cases aK x e<;>simp
       · rw[decide_eq_false h]
         simp
 have k4:e.k=4:=by omega
 rw[if_neg k5,decide_eq_true k4,Bool.true_and]
 by_cases hcr:rC (iJ p) e=true
 · rw [if_pos hcr,if_pos hcr]
   congr 1
   unfold qG iJ
   rw[List.filter_filter]
   refine List.filter_congr fun x hx=>?_
   rw[t.xZ hx k2,decide_eq_false k5,k4]
   unfold iZ
   cases hl:bK p x with
   |true=>rw[decide_eq_false (show¬x.k=4 by have:=iI hl;omega)];simp
   | false=>
     by_cases h:x.k=4
     · rw[decide_eq_true h,decide_eq_true h.symm,if_pos h]
       cases countB p (aC p) x<;>cases fD p x<;>simp
     · rw[decide_eq_false h,decide_eq_false (show¬4=x.k from fun k=>h k.symm)]
       simp
 · rw[if_neg hcr,if_neg hcr,List.append_nil]
   unfold iJ
   refine List.filter_congr fun x hx=>?_
   rw[t.xZ hx k2,decide_eq_false k5]
   unfold iZ
   cases hc:countB p (aC p) x with
   |false=>simp
   | true=>
     have:aK x e=false:=by rw[Bool.eq_false_iff];exact fun k=>hcr (t.TL hx hc k)
     rw[this]
     simp
end
end
section
open Go.RowKit
structure Jz (p:List Ev) (key:ByteArray):Prop where
 key: ∀x∈p,x.key=key
 one:tu p
 hi: ∀a∈p,∀b∈p,aK a b=true→a.h<b.h
 tr: ∀a∈p,∀b∈p,∀c∈p,aK a b=true→aK b c=true→aK a c=true
section
variable {p:List Ev} {key:ByteArray} (t:Jz p key)
theorem zA {x:Ev} (h:iZ p x=true):(bK p x=true∧x.k=1)∨(countB p (aC p) x=true∧fD p x=false∧(x.k=3∨x.k=4)):=by
 unfold iZ at h
 simp only[Bool.or_eq_true,Bool.and_eq_true,Bool.not_eq_true']at h
 rcases h with h|⟨h1,h2⟩
 · exact .inl ⟨h,iI h⟩
 · exact .inr ⟨h1,h2,jY h1⟩
theorem Gz {k:Int} (hk:k=2∨k=5) (same:Ev→Ev→Bool) (x:Ev):fC k same (iJ p) x=false:=by
 unfold fC
 rw[List.any_eq_false]
 intro a ha
 have:=zA (List.mem_filter.1 ha).2
 have: ¬a.k=k:=by rcases this with⟨_,h⟩|⟨_,_,h⟩<;>omega
 rw[decide_eq_false this]
 simp
theorem Dl:aC (iJ p)=aC p:=by
 unfold aC
 have: ∀x,bK (iJ p) x=decide (x.k=1):=fun x=>by unfold bK;rw[Gz (.inl rfl)];simp
 rw[List.filter_congr (q:=fun x=>decide (x.k=1)) (fun x _=>this x)]
 unfold iJ
 rw[List.filter_filter]
 refine List.filter_congr fun x _=>?_
 cases hl:bK p x with
 |true=>rw[decide_eq_true (iI hl)];simp[iZ,hl]
 | false=>
   cases hc:countB p (aC p) x with
   |true=>rw[decide_eq_false (show¬x.k=1 by rcases jY hc with h|h<;>omega)];rfl
   |false=>simp[iZ,hl,hc]
theorem Ii:bI (iJ p) (aC (iJ p))=(bI p (aC p)).filter fun x=> !fD p x:=by
 rw[Dl]
 unfold bI
 rw[List.filter_filter]
 have hcn: ∀x∈iJ p,countB (iJ p) (aC p) x=countB p (aC p) x:=fun x hx=>by
  unfold countB
  rw[Gz (.inr rfl)]
  rcases zA (List.mem_filter.1 hx).2 with⟨_,h⟩|⟨h,_,_⟩
  · rw[decide_eq_false (show¬x.k=3 by omega),decide_eq_false (show¬x.k=4 by omega)];rfl
  · unfold countB at h
    rw[h]
    simp only[Bool.and_eq_true,Bool.or_eq_true,decide_eq_true_eq]at h
    obtain⟨h1,h2⟩:=h
    rw[h2]
    rcases h1 with h1|h1
    · rw[decide_eq_true h1];rfl
    · rw[decide_eq_true h1.1];simp
 rw[List.filter_congr hcn]
 unfold iJ
 rw[List.filter_filter]
 refine List.filter_congr fun x _=>?_
 cases hc:countB p (aC p) x with
 |false=>simp
 | true=>
   have hl:bK p x=false:=by rw[Bool.eq_false_iff];intro k;have:=iI k;rcases jY hc with h|h<;>omega
   unfold iZ
   rw[hl,hc]
   simp
include t
theorem Jz.Vr {x y:Ev} (hx:x∈bI p (aC p)) (hy:y∈p) (hb:aK x y=true) (hk:y.k=x.k) (hs:y.k=4→jd y x=true):y∈bI p (aC p):=by
 obtain⟨hxp,hc⟩:=List.mem_filter.1 hx
 refine List.mem_filter.2 ⟨hy, ?_⟩
 unfold countB at hc⊢
 simp only[Bool.and_eq_true]at hc⊢
 obtain⟨h1,h2⟩:=hc
 refine⟨?_, ?_⟩
 · rw [hk]
   by_cases k3:x.k=3
   · rw[decide_eq_true k3];rfl
   · rw[decide_eq_false k3,Bool.false_or,Bool.and_eq_true]at h1⊢
     refine⟨h1.1, ?_⟩
     have hx5:=h1.2
     simp only[Bool.not_eq_true']at hx5⊢
     rw[Bool.eq_false_iff]
     intro ha
     obtain⟨z,hz,hz2⟩:=List.any_eq_true.1 ha
     simp only[Bool.and_eq_true,decide_eq_true_eq]at hz2
     have k4:y.k=4:=by rw[hk];exact of_decide_eq_true h1.1
     have hzx:jd z x=true:=by
      have e1:=hz2.2.1
      have e2:=hs k4
      simp only[jd,qW,eU,Bool.and_eq_true,decide_eq_true_eq]at e1 e2⊢
      exact⟨⟨e1.1.1.trans e2.1.1,e1.1.2.trans e2.1.2⟩,e1.2.trans e2.2⟩
     have:fC 5 jd p x=true:=List.any_eq_true.2 ⟨z,hz,by
      simp only[Bool.and_eq_true,decide_eq_true_eq]
      exact⟨hz2.1,hzx,t.tr x hxp y hy z hz hb hz2.2.2⟩⟩
     rw[this]at hx5
     cases hx5
 · obtain⟨c,hc,h⟩:=List.any_eq_true.1 h2
   simp only[Bool.and_eq_true,decide_eq_true_eq]at h
   have hcp:=(List.mem_filter.1 hc).1
   refine List.any_eq_true.2 ⟨c,hc, ?_⟩
   simp only[Bool.and_eq_true,decide_eq_true_eq]
   exact⟨h.1,wL (by rw[t.key c hcp,t.key y hy]),t.tr c hcp x hxp y hy h.2.2 hb⟩
theorem Jz.YZ {A:List Ev} {m:Ev} (hm:m∈A) (hA: ∀x∈A,x∈bI p (aC p)) (htop: ∀x∈A,¬jO (dA m) (dA x)=true)
  (hin: ∀y∈bI p (aC p),y.k=m.k→(if m.k=4 then jd y m else qW y m)=true→y∈A):fD p m=false:=by
 rw[Bool.eq_false_iff]
 intro hl
 have hmc:=hA m hm
 have hmp:=(List.mem_filter.1 hmc).1
 have: ∃y∈p,y.k=m.k∧(if m.k=4 then jd y m else qW y m)=true∧aK m y=true:=by
  unfold fD at hl
  by_cases h:m.k=4
  · rw[if_pos h]at hl
    obtain⟨y,hy,h2⟩:=List.any_eq_true.1 hl
    simp only[Bool.and_eq_true,decide_eq_true_eq]at h2
    exact⟨y,hy,h2.1,by rw[if_pos h];exact h2.2.1,h2.2.2⟩
  · rw[if_neg h]at hl
    obtain⟨y,hy,h2⟩:=List.any_eq_true.1 hl
    simp only[Bool.and_eq_true,decide_eq_true_eq]at h2
    exact⟨y,hy,h2.1,by rw[if_neg h];exact h2.2.1,h2.2.2⟩
 obtain⟨y,hy,hyk,hys,hyb⟩:=this
 have hyc:=t.Vr hmc hy hyb hyk (fun k4=>by rw[if_pos (by omega)]at hys;exact hys)
 have hyA:=hin y hyc hyk hys
 have:=t.hi m hmp y hy hyb
 refine htop y hyA ?_
 rw[ni]
 exact .inl this
theorem Jz.aaZ:fH key ((bI p (aC p)).filter fun x=> !fD p x)=fH key (bI p (aC p)):=by
 have hkind: ∀x∈bI p (aC p),(x.k=3∨x.k=4)∧x.key=key:=fun x hx=>⟨jY (List.mem_filter.1 hx).2,t.key x (List.mem_filter.1 hx).1⟩
 have hone:tu (bI p (aC p)):=fun a ha b hb=>t.one a (List.mem_filter.1 ha).1 b (List.mem_filter.1 hb).1
 have htop:= @Jz.YZ p key t
 generalize hws:bI p (aC p)=ws at*
 have hs: ∀n,dD key n (ws.filter fun x=> !fD p x)=(dD key n ws).filter fun x=> !fD p x:=fun n=>by
  unfold dD
  rw[List.filter_filter,List.filter_filter]
  exact List.filter_congr fun x _=>Bool.and_comm _ _
 have ha: ∀n,dY key n (ws.filter fun x=> !fD p x)=(dY key n ws).filter fun x=> !fD p x:=fun n=>by
  unfold dY
  rw[List.filter_filter,List.filter_filter]
  exact List.filter_congr fun x _=>Bool.and_comm _ _
 have hsw: ∀n,∀x∈dD key n ws,x∈ws∧x.k=3∧x.l=n:=fun n x hx=>by
  obtain⟨h1,h2⟩:=List.mem_filter.1 hx
  simp only[yG,Bool.and_eq_true,decide_eq_true_eq]at h2
  exact⟨h1,h2.2,h2.1.2⟩
 have haw: ∀n,∀x∈dY key n ws,x∈ws∧x.k=4∧x.l=n:=fun n x hx=>by
  obtain⟨h1,h2⟩:=List.mem_filter.1 hx
  simp only[yG,Bool.and_eq_true,decide_eq_true_eq,Bool.not_eq_true',decide_eq_false_iff_not]at h2
  exact⟨h1,(hkind x h1).1.resolve_left h2.2,h2.1.2⟩
 have hset: ∀n,KT (dD key n (ws.filter fun x=> !fD p x))=KT (dD key n ws)∧qx (dD key n (ws.filter fun x=> !fD p x))=qx (dD key n ws):=fun n=>by
  rw[hs]
  by_cases h0:(dD key n ws).length=0
  · have:dD key n ws=[]:=List.length_eq_zero_iff.1 h0
    rw[this]
    exact⟨rfl,rfl⟩
  · obtain⟨m,hm,e1,e2⟩:=Gx h0
    have hmx: ∀x∈dD key n ws,¬jO (dA m) (dA x)=true:=fun x hx=>by
     rw[e2]
     exact(Ee ((dD key n ws).map dA) (((dD key n ws).map dA).getD 0 default)).2 _ (List.mem_map.2 ⟨x,hx,rfl⟩)
    obtain⟨m1,m2,m3⟩:=hsw n m hm
    have hlt:fD p m=false:=htop hm (fun x hx=>(hsw n x hx).1) hmx fun y hy hyk hys=>by
     rw[if_neg (by omega)]at hys
     refine List.mem_filter.2 ⟨hy, ?_⟩
     simp only[qW,eU,Bool.and_eq_true,decide_eq_true_eq]at hys
     simp only[yG,Bool.and_eq_true,decide_eq_true_eq]
     exact⟨⟨(hkind y hy).2,by rw[hys.2];exact m3⟩,by omega⟩
    have hmf:m∈(dD key n ws).filter fun x=> !fD p x:=List.mem_filter.2 ⟨hm,by rw[hlt];rfl⟩
    refine⟨?_, ?_⟩
    · unfold KT
      rw[decide_eq_false h0,decide_eq_false (fun h=>by rw[List.length_eq_zero_iff]at h;rw[h]at hmf;cases hmf)]
    · rw[e1]
      exact Vp (fun a ha b hb=>hone a (hsw n a (List.mem_filter.1 ha).1).1 b (hsw n b (List.mem_filter.1 hb).1).1) hmf fun x hx=>hmx x (List.mem_filter.1 hx).1
 have hadd: ∀n,valsF (dY key n (ws.filter fun x=> !fD p x))=valsF (dY key n ws):=fun n=>by
  rw[ha]
  refine NW fun v=>?_
  rw[List.mem_map,List.mem_map]
  constructor
  · rintro⟨x,hx,e⟩
    exact⟨x,(List.mem_filter.1 hx).1,e⟩
  · rintro⟨x,hx,e⟩
    have h0: ¬ ((dY key n ws).filter fun y=>decide (y.v=x.v)).length=0:=fun h=>by
     rw[List.length_eq_zero_iff]at h
     have:x∈(dY key n ws).filter fun y=>decide (y.v=x.v):=List.mem_filter.2 ⟨hx,decide_eq_true rfl⟩
     rw[h]at this
     cases this
    obtain⟨m,hm,e1,e2⟩:=Gx h0
    obtain⟨hma,hmv⟩:=List.mem_filter.1 hm
    have hmv:m.v=x.v:=of_decide_eq_true hmv
    obtain⟨m1,m2,m3⟩:=haw n m hma
    have hmx: ∀y∈(dY key n ws).filter fun y=>decide (y.v=x.v),¬jO (dA m) (dA y)=true:=fun y hy=>by
     rw[e2]
     exact(Ee _ _).2 _ (List.mem_map.2 ⟨y,hy,rfl⟩)
    have hlt:fD p m=false:=htop hm (fun y hy=>(haw n y (List.mem_filter.1 hy).1).1) hmx fun y hy hyk hys=>by
     rw[if_pos m2]at hys
     simp only[jd,qW,eU,Bool.and_eq_true,decide_eq_true_eq]at hys
     refine List.mem_filter.2 ⟨List.mem_filter.2 ⟨hy, ?_⟩,decide_eq_true (hys.2.trans hmv)⟩
     simp only[yG,Bool.and_eq_true,decide_eq_true_eq,Bool.not_eq_true',decide_eq_false_iff_not]
     exact⟨⟨(hkind y hy).2,by rw[hys.1.2];exact m3⟩,by omega⟩
    exact⟨m,List.mem_filter.2 ⟨hma,by rw[hlt];rfl⟩,by rw[hmv];exact e⟩
 unfold fH
 rw[(hset 0).1,(hset 1).1,(hset 0).2,(hset 1).2,hadd,hadd]
theorem Jz.aa0:oU (iJ p)=oU p:=by
 rw[of_same (l:=iJ p) (key:=key) (fun x hx=>t.key x (List.mem_filter.1 hx).1),of_same t.key,Ii,Dl,t.aaZ]
omit t in
theorem JA:(iJ p).length=oL p:=by
 unfold iJ oL
 have hd: ∀e,bK p e=true→countB p (aC p) e=false:=fun e he=>by
  have:=iI he
  rw[Bool.eq_false_iff]
  intro k
  rcases jY k with h|h<;>omega
 have : ∀l:List Ev,(l.filter (iZ p)).length=(l.filter (bK p)).length+((l.filter (countB p (aC p))).filter fun e=> !fD p e).length:=by
  intro l
  induction l with
  |nil=>rfl
  | cons x l ih=>
    rw[List.filter_cons,List.filter_cons,List.filter_cons]
    have hq:iZ p x=(bK p x||(countB p (aC p) x&& !fD p x)):=rfl
    rw[hq]
    cases hl:bK p x with
    |true=>simp[hd x hl,ih];omega
    | false=>
      cases hc:countB p (aC p) x with
      |false=>simp[ih]
      | true=>
        simp only[Bool.false_or,Bool.true_and,if_true,Bool.false_eq_true,if_false]
        rw[List.filter_cons]
        cases fD p x<;>simp[ih]<;>omega
 exact this p
end
end
section
open Go.RowKit
def keyS (k:Str):ByteArray:=⟨k.toArray⟩
theorem Vs (k:Str):dN (keyS k)=k:=rfl
def iO (P:List Ev) (key:ByteArray):List Ev:=iJ (lV (eqK key) P)
theorem GH {P:List Ev} {e:Ev} (t:Dj (lV (eqK e.key) P) e):iO (P++[e]) e.key=kD (iO P e.key) e:=by
 unfold iO
 rw[TJ,if_pos (show eqK e.key e.key=true from decide_eq_true rfl),t.step]
theorem Dn {P:List Ev} {e:Ev} {key:ByteArray} (h:key≠e.key):iO (P++[e]) key=iO P key:=by
 unfold iO
 rw[TJ,if_neg (by unfold eqK;rw[decide_eq_false (fun k=>h k.symm)];simp),List.append_nil]
theorem Vt {P:List Ev} {key:ByteArray}:iO P key≠[]↔aC (lV (eqK key) P)≠[]:=by
 constructor
 · intro h hl
   obtain⟨x,hx⟩:=List.exists_mem_of_ne_nil _ h
   obtain⟨hx,hq⟩:=List.mem_filter.1 hx
   rcases zA hq with⟨h1,_⟩|⟨h1,_,_⟩
   · have:x∈aC (lV (eqK key) P):=List.mem_filter.2 ⟨hx,h1⟩
     rw[hl]at this
     cases this
   · unfold countB at h1
     rw[hl]at h1
     simp[gY]at h1
 · intro h hk
   obtain⟨x,hx⟩:=List.exists_mem_of_ne_nil _ h
   obtain⟨hx,hl⟩:=List.mem_filter.1 hx
   have:x∈iO P key:=List.mem_filter.2 ⟨hx,by unfold iZ;rw[hl];rfl⟩
   rw[hk]at this
   cases this
theorem GI {P:List Ev} {k:Str}:k∈keysB P↔aC (lV (eqK (keyS k)) P)≠[]:=by
 have h1:k∈keysB P↔k∈(aC P).map fun e:Ev=>dN e.key:=(jB _).2 k
 rw[h1,xY,List.mem_map]
 constructor
 · rintro⟨e,he,rfl⟩ h
   have:e∈lV (eqK (keyS (dN e.key))) (aC P):=List.mem_filter.2 ⟨he,decide_eq_true (show e.key=keyS (dN e.key) by unfold keyS;rw[Vo])⟩
   rw[h]at this
   cases this
 · intro h
   obtain⟨e,he⟩:=List.exists_mem_of_ne_nil _ h
   obtain⟨he,hk⟩:=List.mem_filter.1 he
   have hk:e.key=keyS k:=of_decide_eq_true hk
   exact⟨e,he,by rw[hk];rfl⟩
theorem acP {P:List Ev} {k:Str} (h:k∈keysB P):oU (lV (eqK (keyS k)) P)=[fH (keyS k) (bI P (aC P))]:=by
 rw[of_same (key:=keyS k) LH,if_neg (GI.1 h),Di,QT (show eqK (keyS k) (keyS k)=true from decide_eq_true rfl)]
theorem Vu {P:List Ev} (hp: ∀key,Jz (lV (eqK key) P) key) {ks:List Str} (hs:ks.Pairwise (· < ·)) (hm: ∀k,k∈ks↔iO P (keyS k)≠[]):
  ks.flatMap (fun k=>oU (iO P (keyS k)))=oU P:=by
 have hk:ks=keysB P:=xQ hs (jB ((aC P).map fun e:Ev=>dN e.key)).1 fun k=>by
  rw[hm,Vt]
  exact GI.symm
 have h2: ∀l:List Str,(∀k∈l,k∈keysB P)→l.flatMap (fun k=>oU (iO P (keyS k)))=l.map fun k=>fH (keyS k) (bI P (aC P)):=by
  intro l
  induction l with
  |nil=>intro _;rfl
  | cons k l ih=>
    intro h
    rw[List.flatMap_cons,List.map_cons,ih fun x hx=>h x (List.mem_cons_of_mem _ hx)]
    unfold iO
    rw[(hp (keyS k)).aa0,acP (h k List.mem_cons_self)]
    rfl
 rw[hk,h2 _ fun k h=>h]
 rfl
theorem OM {P:List Ev} (h:aC P=[]):oL P=0:=by
 unfold oL
 rw[h]
 have:bI P []=[]:=by
  unfold bI
  rw[List.filter_eq_nil_iff]
  intro x _
  simp[countB,gY]
 rw[this]
 rfl
theorem adT {p q:ByteArray→Bool} {P:List Ev} (h: ∀k,p k=true→q k=true):lV p (lV q P)=lV p P:=by
 unfold lV
 rw[List.filter_filter]
 refine List.filter_congr fun x _=>?_
 cases hp:p x.key with
 |false=>simp
 |true=>rw[h _ hp];rfl
theorem Cm: ∀ (ks:List Str) (P:List Ev),ks.Nodup→(∀x∈aC P,dN x.key∈ks)→(ks.map fun k=>(iO P (keyS k)).length).sum=oL P
  | [],P,_,h=>by
    have:aC P=[]:=List.eq_nil_iff_forall_not_mem.2 fun x hx=>by have:=h x hx;cases this
    rw[OM this]
    rfl
  | k ::ks,P,hn,h=>by
    obtain⟨hk,hn⟩:=List.nodup_cons.1 hn
    have ih:=Cm ks (lV (fun x=> !eqK (keyS k) x) P) hn (fun x hx=>by
     rw[xY]at hx
     obtain⟨hx,hne⟩:=List.mem_filter.1 hx
     rcases List.mem_cons.1 (h x hx)with e|h
     · exfalso
       have:eqK (keyS k) x.key=true:=decide_eq_true (by rw[←e];unfold keyS;rw[Vo])
       have hne:(!eqK (keyS k) x.key)=true:=hne
       rw[this]at hne
       cases hne
     · exact h)
    have hc:(ks.map fun q=>(iO (lV (fun x=> !eqK (keyS k) x) P) (keyS q)).length)=ks.map fun q=>(iO P (keyS q)).length:=List.map_congr_left fun q hq=>by
     unfold iO
     rw[adT]
     intro y hy
     have hy:y=keyS q:=of_decide_eq_true hy
     have:y≠keyS k:=fun e=>by
      rw[hy]at e
      have e:q=k:=congrArg dN e
      exact hk (e▸hq)
     unfold eqK
     rw[decide_eq_false this]
     rfl
    rw[hc]at ih
    rw[List.map_cons,List.sum_cons,ih,size_two (p:=eqK (keyS k)) (l:=P)]
    congr 1
    exact JA
theorem Inv.pst {T P:List Ev} {H:Nat→bn} (hI:Inv T H) (hP: ∀x∈P,x∈T) (htr: ∀a∈T,∀b∈T,∀c∈T,aK a b=true→aK b c=true→aK a c=true) (key:ByteArray):Jz (lV (eqK key) P) key:=by
 have hs: ∀x∈lV (eqK key) P,x∈T:=fun x hx=>hP x (List.mem_filter.1 hx).1
 exact⟨LH,fun a ha b hb=>hI.stamp a (hs a ha) b (hs b hb),fun a ha b hb=>hI.hgt a (hs a ha) b (hs b hb),fun a ha b hb c hc=>htr a (hs a ha) b (hs b hb) c (hs c hc)⟩
end
section
open Go.RowKit
structure LK (W:List Ev) (s:Spr):Prop where
 full: ∀e∈W,∀r:Nat,r<5→e.r=(r:Int)→e.n≤s.hv.at r→e∈s.out
 le: ∀e∈s.out,∀r:Nat,r<5→e.c.at r≤s.hv.at r
 ord:s.out.Pairwise fun a b=>aK b a=false
theorem LK.step {W:List Ev} {H:Nat→bn} (hI:Inv W H) {s:Spr} (hok:TG W s) (h:LK W s) {k:Nat} (hk:k∈acN s.left s.hv):LK W (TF s k):=by
 obtain⟨hkl,hrp⟩:=aaV.1 hk
 obtain⟨out,left,hv⟩:=s
 obtain⟨h1,h2,h3⟩:=h
 obtain⟨p1,p2,p3,p4⟩:=hok
 simp only at h1 h2 h3 p1 p2 p3 p4 hkl hrp
 have hg:left.getD k default=left[k]:=by rw[List.getD,List.getElem?_eq_getElem hkl];rfl
 have hm:left[k]∈W:=p2.subset (List.getElem_mem hkl)
 have hle: ∀r:Nat,r<5→left[k].c.at r≤hv.at r:=by
  have:left[k].c.le hv=true:=by rw[←hg];exact hrp
  exact adP.1 this
 obtain⟨p,q1,q2,q3,q4,q5⟩:=hI.ev _ hm
 have ep:left[k].r.toNat=p:=by rw[q2];omega
 have htop: ∀r:Nat,r<5→hv.at r≤(hv.top p left[k].n).at r:=fun r hr=>by
  rw[LG _ _ q1 hr]
  split
  · exact YM _ _
  · exact Int.le_refl _
 have adU:left[k] ∉ out:=fun ho=>by
  have hd:(out++left).Pairwise fun a b=> ¬ (a.r=b.r∧a.n=b.n):=(p1.symm.pairwise_iff (fun h k=>h ⟨k.1.symm,k.2.symm⟩)).1 hI.dis
  exact(List.pairwise_append.1 hd).2.2 _ ho _ (List.getElem_mem hkl) ⟨rfl,rfl⟩
 unfold TF
 simp only[hg,ep]
 refine⟨fun e he r hr er en=>?_,fun e he r hr=>?_, ?_⟩
 · have en:e.n≤(hv.top p left[k].n).at r:=en
   rw[LG _ _ q1 hr]at en
   by_cases adV:r=p
   · subst adV
     rw[if_pos rfl]at en
     rcases Int.lt_or_le (hv.at r) e.n with k1|k1
     · have hh:=hle r hr
       have:e.n≤left[k].n:=by unfold Hq at en;split at en<;>omega
       have hen:e.n=left[k].n:=by omega
       have:e=left[k]:=hI.mark he hm (by rw[er,q2]) hen
       rw[this]
       exact List.mem_append.2 (.inr (List.mem_singleton.2 rfl))
     · exact List.mem_append.2 (.inl (h1 e he r hr er k1))
   · rw[if_neg adV]at en
     exact List.mem_append.2 (.inl (h1 e he r hr er en))
 · have:=htop r hr
   have he:e∈out++[left[k]]:=he
   show e.c.at r≤(hv.top p left[k].n).at r
   rcases List.mem_append.1 he with he|he
   · have:=h2 e he r hr
     omega
   · rw[List.mem_singleton.1 he]
     have:=hle r hr
     omega
 · show(out++[left[k]]).Pairwise _
   refine List.pairwise_append.2 ⟨h3,List.pairwise_singleton _ _,fun x hx y hy=>?_⟩
   rw[List.mem_singleton.1 hy,Bool.eq_false_iff]
   intro hb
   unfold aK at hb
   rw[q2,qF q1]at hb
   have:=h2 x hx p q1
   exact adU (h1 _ hm p q1 q2 (by omega))
end
section
open Go.RowKit
theorem JB (w:World):(callFunc 202 #[]).run Tryz.prog w= .ok (.value (.tuple #[])) w:=run_call_mark0 Tryz.func202 (by kernel_rfl) (by kernel_rfl) (by kernel_rfl) .disable (by kernel_rfl) w
theorem OO (w:World):(callFunc 204 #[]).run Tryz.prog w= .ok (.value (.tuple #[])) w:=run_call_mark0 Tryz.func204 (by kernel_rfl) (by kernel_rfl) (by kernel_rfl) .enable (by kernel_rfl) w
theorem Vw (a:Addr) (w:World):(callFunc 205 #[.pointer (some a)]).run Tryz.prog w= .ok (.value (.tuple #[])) w:=run_call_marked Tryz.func205 (by kernel_rfl) (by kernel_rfl) (by kernel_rfl) .acquire (by kernel_rfl) a w
theorem Vx (a:Addr) (w:World):(callFunc 207 #[.pointer (some a)]).run Tryz.prog w= .ok (.value (.tuple #[])) w:=run_call_marked Tryz.func207 (by kernel_rfl) (by kernel_rfl) (by kernel_rfl) .releaseMerge (by kernel_rfl) a w
theorem aa1 (a:Addr) (x:Value) (u:FrameMode) (w:World) (hc:w.cell? a=some x) (hz:w.frozen? a=false):
  CallsD Tryz.prog 188 #[.pointer (some a),.bool true] u w fun e u' w'=>u'=u∧(e= .returned (.tuple #[])∧w'=w.drew.setCell a (.int .u32 1)):=by
 have hc':w.drew.cell? a=some x:=by go_simp
 have hz':w.drew.frozen? a=false:=by go_simp
 have hst:=run_call_store (P:=Tryz.prog) Tryz.func199 (by kernel_rfl) (by kernel_rfl) (by kernel_rfl) (by kernel_rfl) (k:= .u32) (y:=1) hc' hz'
 go_enter_d Tryz.func188,Tryz.ntmps188
 go_wp2
 go_region_calls
 all_goals(go_end0;exact⟨rfl,rfl⟩)
theorem Y0 (a:Addr) (u:FrameMode) (w:World) (hc:w.cell? a=some (.int .i32 1)) (hz:w.frozen? a=false):
  CallsD Tryz.prog 187 #[.pointer (some a)] u w fun e u' w'=>u'=u∧(e= .returned (.tuple #[])∧w'=w.setCell a (.int .i32 0)):=by
 have hd:=JB
 have he:=OO
 have hr:=Vx
 have hadd:=run_call_add (P:=Tryz.prog) Tryz.func208 (by kernel_rfl) (by kernel_rfl) (by kernel_rfl) .i32 (by kernel_rfl) (y:= -1) (s:=0) hc hz (by simp[go_sem];rfl)
 have hcv:=run_convert_to_unsafe (P:=Tryz.prog) (src:=264) (dst:=268) Tryz.underlying264 Tryz.underlying268 (by kernel_rfl) hc
 go_enter_d Tryz.func187,Tryz.ntmps187
 go_wp2
 go_end0
 go_wp2
 all_goals(go_end0;exact⟨rfl,rfl⟩)
theorem acQ (a:Addr) (w:World) (hc:w.cell? a=some (.int .i32 0)) (hz:w.frozen? a=false):
  Calls Tryz.prog 186 #[.pointer (some a)] w fun e w'=>e= .returned (.tuple #[])∧w'=w.setCell a (.int .i32 1):=by
 have hd:=JB
 have he:=OO
 have ha:=Vw
 have hcas:=run_call_cas_hit (P:=Tryz.prog) Tryz.func203 (by kernel_rfl) (by kernel_rfl) (by kernel_rfl) .i32 (by kernel_rfl) (y:=1) hc hz
 have hc':(w.setCell a (.int .i32 1)).cell? a=some (.int .i32 1):=World.cell?_setCell_same w a _ hc
 have hcv:=run_convert_to_unsafe (P:=Tryz.prog) (src:=264) (dst:=268) Tryz.underlying264 Tryz.underlying268 (by kernel_rfl) hc'
 go_enter Tryz.func186,Tryz.ntmps186
 go_wp2
 first|go_end0|(simp only[Exit.inBlock,Exit.then];refine bodyPost_ret (results_none rfl _ _ _) rfl ?_)|refine bodyPost_ret (results_none rfl _ _ _) rfl ?_
 go_wp2
 all_goals(go_end0;exact⟨rfl,rfl⟩)
theorem QV (a:Addr) (x:Int) (w:World) (hc:w.cell? a=some (.int .u32 x)):
  Calls Tryz.prog 156 #[.pointer (some a)] w fun e w'=>e= .returned (.bool (x !=0))∧w'=w:=by
 have hl:=run_call_load (P:=Tryz.prog) Tryz.func185 (by kernel_rfl) (by kernel_rfl) (by kernel_rfl) .u32 (by kernel_rfl) (w:=w) (a:=a) (x:=x) hc
 go_enter Tryz.func156,Tryz.ntmps156
 go_wp2
 go_ret
 exact⟨rfl,rfl⟩
theorem acR (b off:Nat) (caps:Array Value) (w:World) (Φ:World→Prop)
  (h0:w.cell? ⟨b,off,none⟩=some (.int .u32 0)) (h1:w.cell? ⟨b,off+1,none⟩=some (.int .i32 0))
  (f1:w.frozen? ⟨b,off+1,none⟩=false)
  (hcl:Calls Tryz.prog 131 caps (w.setCell ⟨b,off+1,none⟩ (.int .i32 1)) fun e w1=>e= .returned (.tuple #[])∧Φ w1)
  (hΦ: ∀w1,Φ w1→w1.cell? ⟨b,off,none⟩=some (.int .u32 0)∧w1.cell? ⟨b,off+1,none⟩=some (.int .i32 1)∧w1.frozen? ⟨b,off,none⟩=false∧w1.frozen? ⟨b,off+1,none⟩=false):
  Calls Tryz.prog 157 #[.pointer (some ⟨b,off,none⟩),.func (.func 131) #[] caps] w fun e w'=>e= .returned (.tuple #[])∧
   ∃w1,Φ w1∧w'=(w1.drew.setCell ⟨b,off,none⟩ (.int .u32 1)).setCell ⟨b,off+1,none⟩ (.int .i32 0):=by
 have g0':(w.setCell ⟨b,off+1,none⟩ (.int .i32 1)).cell? ⟨b,off,none⟩=some (.int .u32 0):=(World.cell?_setCell_other _ ⟨b,off+1,none⟩ ⟨b,off,none⟩ _ (by simp)).trans h0
 have hnot: ∀ (x:Bool) (w:World),(Op.unary .not (.bool x)).run Tryz.prog w= .ok (.bool (!x)) w:=fun _ _=>rfl
 go_enter_defers Tryz.func157,Tryz.ntmps157
 go_wp2_with (first|(go_at_call 186;refine(acQ ⟨b,off+1,none⟩ _ (by go_simp) (by go_simp)).mono ?_;rintro e w' ⟨rfl,rfl⟩)|(go_at_call 156;refine(QV ⟨b,off,none⟩ 0 _ g0').mono ?_;rintro e w' ⟨rfl,rfl⟩)|(go_at_call 131;refine hcl.mono ?_;rintro e w1 ⟨rfl,hw1⟩))
 obtain⟨g0,g1,z0,z1⟩:=hΦ _ hw1
 refine leaves_cons (f:=188) (args:= #[.pointer (some ⟨b,off,none⟩),.bool true]) (by simp) (by simp[go_sem]) ?_
 refine(aa1 ⟨b,off,none⟩ (.int .u32 0) .returning _ g0 z0).mono ?_
 rintro e u' w'' ⟨rfl,rfl,rfl⟩
 refine leaves_cons (f:=187) (args:= #[.pointer (some ⟨b,off+1,none⟩)]) (by simp[settle]) (by simp[go_sem]) ?_
 refine(Y0 ⟨b,off+1,none⟩ _ _ ?_ (by simp[z1])).mono ?_
 · refine(World.cell?_setCell_other _ ⟨b,off,none⟩ ⟨b,off+1,none⟩ _ (by simp)).trans ?_
   rw[World.cell?_drew]
   exact g1
 rintro e u' w'' ⟨rfl,rfl,rfl⟩
 simp[Leaves,settle,results,Tryz.results157]
 exact⟨w1,hw1,rfl⟩
theorem aa2 (b off:Nat) (caps:Array Value) (w:World) (Φ:World→Prop)
  (h0:w.cell? ⟨b,off,none⟩=some (.int .u32 0)) (h1:w.cell? ⟨b,off+1,none⟩=some (.int .i32 0))
  (f1:w.frozen? ⟨b,off+1,none⟩=false)
  (hcl:Calls Tryz.prog 131 caps (w.setCell ⟨b,off+1,none⟩ (.int .i32 1)) fun e w1=>e= .returned (.tuple #[])∧Φ w1)
  (hΦ: ∀w1,Φ w1→w1.cell? ⟨b,off,none⟩=some (.int .u32 0)∧w1.cell? ⟨b,off+1,none⟩=some (.int .i32 1)∧w1.frozen? ⟨b,off,none⟩=false∧w1.frozen? ⟨b,off+1,none⟩=false):
  Calls Tryz.prog 130 #[.pointer (some ⟨b,off,none⟩),.func (.func 131) #[] caps] w fun e w'=>e= .returned (.tuple #[])∧
   ∃w1,Φ w1∧w'=(w1.drew.setCell ⟨b,off,none⟩ (.int .u32 1)).setCell ⟨b,off+1,none⟩ (.int .i32 0):=by
 have hnot: ∀ (x:Bool) (w:World),(Op.unary .not (.bool x)).run Tryz.prog w= .ok (.bool (!x)) w:=fun _ _=>rfl
 go_enter Tryz.func130,Tryz.ntmps130
 go_wp2_with (first|(go_at_call 156;refine(QV ⟨b,off,none⟩ 0 _ h0).mono ?_;rintro e w' ⟨rfl,rfl⟩)|(go_at_call 157;refine(acR b off caps _ Φ h0 h1 f1 hcl hΦ).mono ?_;rintro e w1 ⟨rfl,hw1⟩))
 go_end0
 exact⟨rfl,hw1⟩
theorem acS (a:Addr) (g:Value) (w:World) (h0:w.cell? a=some (.int .u32 1)):
  Calls Tryz.prog 130 #[.pointer (some a),g] w fun e w'=>e= .returned (.tuple #[])∧w'=w:=by
 have hnot: ∀ (x:Bool) (w:World),(Op.unary .not (.bool x)).run Tryz.prog w= .ok (.bool (!x)) w:=fun _ _=>rfl
 go_enter Tryz.func130,Tryz.ntmps130
 go_wp2_with (first|(go_at_call 156;refine(QV a 1 _ h0).mono ?_;rintro e w' ⟨rfl,rfl⟩))
 go_end0
 exact⟨rfl,rfl⟩
theorem adW (a:Addr) (x y z:Int) (w:World) (hc:w.cell? a=some (.int .i64 x)) (hz:w.frozen? a=false) (hs:(Op.intArith .add .i64 x y).run Tryz.prog w= .ok (.int .i64 z) w):
  Calls Tryz.prog 133 #[.pointer (some a),.int .i64 y] w fun e w'=>e= .returned (.int .i64 z)∧w'=w.setCell a (.int .i64 z):=by
 have hadd:=run_call_add (P:=Tryz.prog) Tryz.func164 (by kernel_rfl) (by kernel_rfl) (by kernel_rfl) .i64 (by kernel_rfl) (y:=y) (s:=z) hc hz hs
 go_enter Tryz.func133,Tryz.ntmps133
 go_wp2
 go_ret
 exact⟨rfl,rfl⟩
end
end Go.Proofs.YtimhagicagdkfaaGreat
