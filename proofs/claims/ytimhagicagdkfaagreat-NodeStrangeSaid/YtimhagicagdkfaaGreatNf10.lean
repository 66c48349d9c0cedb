/-
  Contracts of the walk:OpG,BkO,Ch,Mk1,Cf,NdF.
-/
import Derived.Test.YtimhagicagdkfaaGreatRows
import Derived.Test.YtimhagicagdkfaaGreatNf6
import Derived.ProofKit
import Derived.OpenShut
import Derived.SizedLaws
import Derived.ChangeOld
import Derived.Test.YtimhagicagdkfaaGreatNf9
import Derived.Test.YtimhagicagdkfaaGreatNf8
set_option linter.unusedVariables false
set_option linter.unusedSimpArgs false
set_option maxHeartbeats 16000000
set_option maxRecDepth 100000
namespace Go.Proofs.YtimhagicagdkfaaGreat
section
open Go.ChangeShapes Go.WideShapes Go.ChangeAt Go.RowKit
theorem own:ownKnob Tryz.prog.godebug=none:=by kernel_rfl
theorem laidOut:laidOutB Tryz.prog=true:=by kernel_rfl
section
variable {H:Type} {enc:TypeId×Value→H}
theorem yP {W W':World} (hb:Below W.heap.size W W'): ∀ (ts:List TypeId) (vs:List Value) (ds:List (DataW H)) (ps:List MemPlace),
  (∀t∈ts,Tryz.prog.readableRec t=true∧t<Tryz.prog.types.size)→DataW.TrodAll enc Tryz.prog W 0 (fun _=>true) true ts vs ds ps→(∀x∈ps,x.block<W.heap.size)→
  DataW.TrodAll enc Tryz.prog W' 0 (fun b=>decide (b<W.heap.size)) true ts vs ds ps
  | [],vs,ds,ps,_,h,_=>by
    obtain⟨rfl,rfl,rfl⟩:=trodAll_nil h
    exact trodAll_mk0
  | t::ts,vs,ds,ps,ht,h,hlt=>by
    obtain⟨v,vs',d,ds',p,q,rfl,rfl,rfl,h0,h1⟩:=trodAll_cons h
    have hp:=ht t (by simp)
    exact trodAll_cons_mk (Below.trod laidOut hp.1 hp.2 h0 hb (fun x hx=>hlt x (by simp[hx]))) (yP hb ts vs' ds' q (fun u hu=>ht u (by simp[hu])) h1 (fun x hx=>hlt x (by simp[hx])))
theorem law_lifted (os:Os) (started:os.Started) (f:FuncId) (fn:Func) (s:ChangeSpec) (hvars:s.vars=[]) (noInit:Tryz.prog.inits.idxOf? f=none) (hfn:Tryz.prog.funcs[f]? =some fn)
  (hres:fn.resultTypes= #[4]) (aaw: ∀t∈fn.params.toList,Tryz.prog.readableRec t=true∧t<Tryz.prog.types.size)
  (hspec: ∀ds:List (DataW H),ds.length=fn.params.toList.length→s.fn H ds={results:=[.lit (.bool true)],args:=ds})
  (witness: ∃ (w:World) (tape:Tape) (i:Input),w.os=os∧(w.forCall tape i).Shaped Tryz.checked.prog∧i.vars=[]∧Input.okWide Tryz.checked.prog (w.forCall tape i) .any w.heap.size f i∧
   s.pre6 enc Tryz.checked.prog fn [] false (w.forCall tape i).memory i.args∧({}:Assume).holds Tryz.checked.prog (lone (Frame.enter Tryz.checked.prog f i.args .normal) [] (w.forCall tape i)))
  (walk: ∀ (W:World) (base:Nat) (args:Array Value) (ds:List (DataW H)) (p:List MemPlace),
   (∀ (j:Nat) t v,fn.params[j]? =some t→args[j]? =some v→Value.okWide Tryz.prog W .any base t v)→
   DataW.TrodAll enc Tryz.prog W 0 (fun _=>true) true fn.params.toList args.toList ds p→
   (DataW.weightsEach Tryz.prog fn.params.toList ds).all (· ≤reachBytes)=true→
   Calls Tryz.prog f args W fun e W'=>e= .returned (.bool true)∧Below W.heap.size W W'):
  ReturnsInHanded {} Tryz.checked os f .any (s.pre6 enc Tryz.prog fn [] false) (s.post enc Tryz.prog fn false true false false):=by
 refine returnsInHanded_of_change_sized (C:=Tryz.checked) own started noInit hfn witness ?_
 intro W base args ds gs before hval0 hW _ hsz0 _
 have hval: ∀ (j:Nat) t v,fn.params[j]? =some t→args[j]? =some v→Value.okWide Tryz.prog W .any base t v:=hval0
 have hW':=hW
 have hlt: ∀x∈before,x.block<W.heap.size:=fun x hx=>by simpa using hW'.lt x hx
 obtain⟨p,q,hA0,hV,rfl,hfz,hnd⟩:=hW
 have hA:DataW.TrodAll enc Tryz.prog W 0 (fun _=>true) true fn.params.toList args.toList ds p:=hA0
 rw[hvars]at hV
 obtain⟨rfl,rfl⟩:=trodVars_none hV
 simp only[List.append_nil]at hW' hlt
 have hsz:(DataW.weightsEach Tryz.prog fn.params.toList ds).all (· ≤reachBytes)=true:=by
  have h:(DataW.weightsEach Tryz.prog (fn.params.toList++s.plain.varTypes Tryz.prog) (ds++[])).all (· ≤reachBytes)=true:=hsz0
  have hv:s.plain.varTypes Tryz.prog=[]:=by
   show s.vars.filterMap _=[]
   rw[hvars];rfl
  simpa[hv]using h
 refine(walk W base args ds p hval hA hsz).mono fun e W' ⟨he,bel⟩=> ?_
 subst he
 have hlen:ds.length=fn.params.toList.length:=Dc fn.params.toList args.toList ds p hA
 have hsp:=hspec ds hlen
 refine⟨_,rfl,ds,[],p,[],p,[],hW', ?_, ?_, ?_,bel.frame _,fun h=>by cases h⟩
 · rw[List.append_nil,hsp,hres]
   exact trodAll_mk1 (shut_bool Tryz.underlying4 _)
 · rw[List.append_nil,hsp]
   exact yP bel _ _ _ _ aaw hA hlt
 · rw[hvars]
   rw[List.append_nil,hsp]
   rfl
where
 Dc {W:World}: ∀ (ts:List TypeId) (vs:List Value) (ds:List (DataW H)) (ps:List MemPlace),DataW.TrodAll enc Tryz.prog W 0 (fun _=>true) true ts vs ds ps→ds.length=ts.length
   | [],vs,ds,ps,h=>by
     obtain⟨rfl,rfl,rfl⟩:=trodAll_nil h
     rfl
   | t::ts,vs,ds,ps,h=>by
     obtain⟨v,vs',d,ds',p,q,rfl,rfl,rfl,h0,h1⟩:=trodAll_cons h
     simp[Dc ts vs' ds' q h1]
end
abbrev allOf (w:World):Nat→Prop:=fun b=>b<w.heap.size
structure Sh (t:TypeId) (S:List AV→Prop):Prop where
 mk::
 h: ∀ (H:Type) (enc:TypeId×Value→H) (w:World) (spare:Nat→Bool) (held:Bool) (fuel:Nat) (cs:List Value) (x:DataW H×List MemPlace),
  DataW.trod enc Tryz.prog w 0 spare held fuel t cs=some x→(∀n∈x.1.weights Tryz.prog t,n≤reachBytes)→ ∃bP,aI (PC w (allOf w)) bP cs∧S bP
theorem Sh.imp {t:TypeId} {S T:List AV→Prop} (h:Sh t S) (hi: ∀bP,S bP→T bP):Sh t T:=⟨fun _ _ _ _ _ _ _ _ h1 h2=>by
 obtain⟨bP,h3,h4⟩:=h.h _ _ _ _ _ _ _ _ h1 h2
 exact⟨bP,h3,hi bP h4⟩⟩
theorem kK {t:TypeId} {k:IntKind} (ht:Tryz.prog.underlying t=some (.int k)):Sh t (fun bP=> ∃n:Int,bP=[.v (.int k n)]∧(Lit.int k n).wf=true):=⟨fun _ _ _ _ _ _ _ _ h _=>by
 obtain⟨n,rfl,rfl,hw⟩:=DataW.trod_int ht h
 exact⟨_,aI.cons (PC.v _ rfl) aI.nil,n,rfl,hw⟩⟩
theorem xY {t:TypeId} (ht:Tryz.prog.underlying t=some .string):Sh t (fun bP=> ∃s:ByteArray,bP=[.v (.string s)]∧s.size≤140737488355328):=⟨fun _ _ _ _ _ _ _ _ h hw=>by
 obtain⟨s,rfl,rfl,_⟩:=DataW.trod_string ht h
 refine⟨_,aI.cons (PC.v _ rfl) aI.nil,s,rfl, ?_⟩
 have:=hw s.size (by simp[DataW.weights])
 have hr:reachBytes≤140737488355328:=by decide
 omega⟩
def Cat:List (List AV→Prop)→List AV→Prop
  |[],bP=>bP=[]
  |S::Ss,bP=> ∃a b,bP=a++b∧S a∧Cat Ss b
def Lp:Nat→List Field→Nat→Prop
  |o,[],m=>o=m
  |o,f::fs,m=>f.offset=o∧Lp (o+Tryz.prog.cellsOf f.type) fs m
def Au (c:TypeId→Nat):Nat→List Field→Nat→Bool
  |o,[],m=>Nat.beq o m
  |o,f::fs,m=>Nat.beq f.offset o&&Au c (o+c f.type) fs m
theorem Jh: ∀ {o:Nat} {fs:List Field} {m:Nat},Au Tryz.prog.cellsOf o fs m=true→Lp o fs m
  |_,[],_,h=>Nat.eq_of_beq_eq_true h
  | _,_::_,_,h=>by
    simp only[Au,Bool.and_eq_true]at h
    exact⟨Nat.eq_of_beq_eq_true h.1,Jh h.2⟩
inductive ShL:List TypeId→List (List AV→Prop)→Prop where
  |nil:ShL [] []
  |cons {t:TypeId} {S:List AV→Prop} {ts:List TypeId} {Ss:List (List AV→Prop)} (h:Sh t S) (hs:ShL ts Ss):ShL (t::ts) (S::Ss)
theorem Ji {H:Type} {enc:TypeId×Value→H} {w:World} {spare:Nat→Bool} {held:Bool} {fuel:Nat} {cs:List Value}: ∀ (fs:List Field) (xs:List (DataW H×List MemPlace)) (Ss:List (List AV→Prop)) (o:Nat),Lp o fs cs.length→xs.length=fs.length→
  (∀ (i:Nat) (f:Field),fs[i]? =some f→DataW.trod enc Tryz.prog w 0 spare held fuel f.type ((cs.drop f.offset).take (Tryz.prog.cellsOf f.type))=xs[i]?)→ShL (fs.map (·.type)) Ss→(∀n∈DataW.weightsEach Tryz.prog (fs.map (·.type)) (xs.map (·.1)),n≤reachBytes)→
  ∃bP,aI (PC w (allOf w)) bP (cs.drop o)∧Cat Ss bP
  | [],xs,Ss,o,hc,hl,_,hs,_=>by
    cases hs
    refine⟨[], ?_,rfl⟩
    rw[List.drop_eq_nil_of_le (by simp only[Lp]at hc;omega)]
    exact aI.nil
  | f :: fs,xs,_,o,hc,hl,hg,hs,hw=>by
    cases hs with
    | cons hS hs'=>
      cases xs with
      |nil=>simp at hl
      | cons x xs=>
        obtain⟨ho,hc'⟩:=hc
        have g0:=hg 0 f rfl
        rw[ho]at g0
        simp only[List.map_cons,DataW.weightsEach,List.mem_append]at hw
        obtain⟨a,ha,hSa⟩:=hS.h _ _ _ _ _ _ _ _ g0 (fun n hn=>hw n (.inl hn))
        obtain⟨b,hb,hSb⟩:=Ji fs xs _ (o+Tryz.prog.cellsOf f.type) hc' (by simpa using hl) (fun i g hi=>hg (i+1) g (by simpa using hi)) hs' (fun n hn=>hw n (.inr hn))
        refine⟨a++b, ?_,a,b,rfl,hSa,hSb⟩
        have e:cs.drop o=(cs.drop o).take (Tryz.prog.cellsOf f.type)++cs.drop (o+Tryz.prog.cellsOf f.type):=by
         rw[←List.drop_drop,List.take_append_drop]
        rw[e]
        exact aI.app ha hb
theorem xZ {t:TypeId} {fs:Array Field} {Ss:List (List AV→Prop)} (ht:Tryz.prog.underlying t=some (.struct fs)) (hc0:Au Tryz.prog.cellsOf 0 fs.toList (Tryz.prog.cellsOf t)=true) {ts:List TypeId} (hts:fs.toList.map (·.type)=ts) (hs:ShL ts Ss):Sh t (Cat Ss):=⟨fun _ _ _ _ _ _ _ _ h hw=>by
 subst hts
 have hc:=Jh hc0
 obtain⟨xs,m,_,rfl,hlen,hxl,hg⟩:=DataW.trod_struct ht h
 rw[←hlen]at hc
 obtain⟨bP,h1,h2⟩:=Ji fs.toList xs Ss 0 hc (by simpa using hxl) (fun i f hf=>hg i f (by simpa using hf)) hs (by simpa[DataW.weights,ht]using hw)
 exact⟨bP,by simpa using h1,h2⟩⟩
theorem X8 {t e:TypeId} {n s:Nat} {S:List AV→Prop} (ht:Tryz.prog.underlying t=some (.array n e)) (hc:Tryz.prog.cellsOf t=n*s) (he:Tryz.prog.cellsOf e=s) (hs:Sh e S):Sh t (Cat (List.replicate n S)):=by
 refine⟨fun H enc w spare held fuel cs x h hw=> ?_⟩
 obtain⟨xs,m,_,rfl,hlen,hxl,hg⟩:=DataW.trod_array ht h
 rw[he]at hg
 simp only[DataW.weights,ht]at hw
 have main: ∀ (k o:Nat) (xs:List (DataW H×List MemPlace)),xs.length=k→cs.length=(o+k)*s→(∀i,i<k→DataW.trod enc Tryz.prog w 0 spare held m e ((cs.drop ((o+i)*s)).take s)=xs[i]?)→(∀n∈DataW.weightsAll Tryz.prog e (xs.map (·.1)),n≤reachBytes)→
   ∃bP,aI (PC w (allOf w)) bP (cs.drop (o*s))∧Cat (List.replicate k S) bP:=by
  intro k
  induction k with
  | zero=>
    intro o xs _ hl _ _
    refine⟨[], ?_,rfl⟩
    rw[List.drop_eq_nil_of_le (by rw[hl];simp)]
    exact aI.nil
  | succ k ih=>
    intro o xs hx hl hg hw
    cases xs with
    |nil=>simp at hx
    | cons x xs=>
      simp only[List.map_cons,DataW.weightsAll,List.mem_append]at hw
      obtain⟨a,ha,hSa⟩:=hs.h _ _ _ _ _ _ _ _ (hg 0 (by omega)) (fun n hn=>hw n (.inl hn))
      obtain⟨b,hb,hSb⟩:=ih (o+1) xs (by simpa using hx) (by rw[hl,show o+(k+1)=o+1+k by omega]) (fun i hi=>by have:=hg (i+1) (by omega);rw[show o+1+i=o+(i+1) by omega];simpa using this) (fun n hn=>hw n (.inr hn))
      refine⟨a++b, ?_,a,b,rfl,hSa,hSb⟩
      have e1:cs.drop (o*s)=(cs.drop (o*s)).take s++cs.drop ((o+1)*s):=by
       rw[show(o+1)*s=o*s+s by rw[Nat.add_mul,Nat.one_mul],←List.drop_drop,List.take_append_drop]
      rw[e1]
      exact aI.app (by simpa using ha) hb
 obtain⟨bP,h1,h2⟩:=main n 0 xs hxl (by rw[hlen,hc,Nat.zero_add]) (fun i hi=>by simpa using hg i hi) hw
 exact⟨bP,by simpa using h1,h2⟩
theorem X9 {w:World} {a:Addr} {s:Nat} {cs:List Value} (h:w.cells? 0 a s=some cs):cs.length=s∧ ∀i,i<s→w.cell? (a.add i)=cs[i]? :=by
 unfold World.cells? at h
 rw[if_pos (Nat.zero_le _)]at h
 refine⟨by simpa using mapM_some_length h,fun i hi=>mapM_some_get h i i (by simp[hi])⟩
theorem add_add (a:Addr) (i j:Nat):(a.add i).add j=a.add (i+j):=by
 unfold Addr.add
 by_cases hi:i=0
 · subst hi;simp
 · by_cases hj:j=0
   · subst hj;simp[hi]
   · simp[hi,hj,Nat.add_assoc]
theorem add_lit {b o j:Nat}:(⟨b,o,none⟩:Addr).add j=⟨b,o+j,none⟩:=by
 unfold Addr.add
 split
 · rename_i h;subst h;rfl
 · rfl
theorem Oh {α:Type} [Inhabited α] (c:α→List AV): ∀l:List α,flat l.length (qK c l)=l.flatMap c
  |[]=>rfl
  | a::l=>by
    show qK c (a::l) 0++flat l.length (fun i=>qK c (a::l) (i+1))=_
    rw[List.flatMap_cons,←Oh c l]
    rfl
theorem Oi {t e:TypeId} {s:Nat} {α:Type} [Inhabited α] {c:α→List AV} {good:α→Prop} (sc:Bool) (ht:Tryz.prog.underlying t=some (.slice e)) (he:Tryz.prog.cellsOf e=s) (hs0:0<s) (hb:0<Tryz.prog.bytesOf e) (hlen: ∀a,(c a).length=s) (hsc:sc=true→ ∀a,∀x∈c a,∃y,x= .v y)
  (hs:Sh e (fun bP=> ∃a,bP=c a∧good a)):Sh t (fun bP=> ∃l:List α,bP=[.sl s l.length sc (qK c l)]∧(∀a∈l,good a)∧l.length≤140737488355328):=by
 refine⟨fun H enc w spare held fuel cs x h hw=> ?_⟩
 rcases DataW.trod_slice ht h with⟨rfl,rfl⟩|⟨a,len,cap,elems,rest,n,_,rfl,rfl,_,hlc,hcm,hel,hg,_,_⟩
 · refine⟨[.sl s 0 sc (qK c [])],aI.cons (.sl s 0 sc _ none 0 [] hs0 (Nat.le_refl _) (Nat.zero_le _) (by simp) (fun i hi=>absurd hi (Nat.not_lt_zero _)) (fun _ x hx=>by simp[flat]at hx) (fun i x u hx=>by simp[flat]at hx) (.inl rfl)) aI.nil,[],rfl,(fun a ha=>by cases ha),Nat.zero_le _⟩
 · rw [he] at hg
   simp only[DataW.weights,ht]at hw
   have hwb:=hw ((elems.length+rest.length)*Tryz.prog.bytesOf e) (by simp)
   have hr:reachBytes≤140737488355328:=by decide
   have hlm:elems.length≤140737488355328:=by
    have:elems.length*1≤(elems.length+rest.length)*Tryz.prog.bytesOf e:=Nat.mul_le_mul (Nat.le_add_right _ _) hb
    omega
   have hwe: ∀n∈DataW.weightsAll Tryz.prog e (elems.map (·.1)),n≤reachBytes:=fun n hn=>hw n (by simp only[List.mem_cons,List.mem_append]at hn⊢;simp[hn])
   have main: ∀ (k o:Nat) (elems:List (DataW H×List MemPlace)),elems.length=k→(∀i,i<k→(w.cells? 0 (a.add ((o+i)*s)) s).bind (DataW.trod enc Tryz.prog w 0 spare held n e)=elems[i]?)→(∀n∈DataW.weightsAll Tryz.prog e (elems.map (·.1)),n≤reachBytes)→
     ∃ (l:List α) (us:List Value),l.length=k∧us.length=k*s∧(∀a∈l,good a)∧aI (PC w (allOf w)) (l.flatMap c) us∧ ∀ (j:Nat) (u:Value),us[j]? =some u→w.cell? (a.add (o*s+j))=some u:=by
    intro k
    induction k with
    |zero=>intro o elems _ _ _;exact⟨[],[],rfl,by simp,(fun a ha=>by cases ha),aI.nil,fun j u hj=>by simp at hj⟩
    | succ k ih=>
      intro o elems hl hg hw
      cases elems with
      |nil=>simp at hl
      | cons x xs=>
        simp only[List.map_cons,DataW.weightsAll,List.mem_append]at hw
        obtain⟨l,us,h1,h2,h3,h4,h5⟩:=ih (o+1) xs (by simpa using hl) (fun i hi=>by have:=hg (i+1) (by omega);rw[show o+1+i=o+(i+1) by omega];simpa using this) (fun n hn=>hw n (.inr hn))
        have g0:=hg 0 (by omega)
        simp only[Nat.add_zero,List.getElem?_cons_zero,Option.bind_eq_some_iff]at g0
        obtain⟨ds,hd1,hd2⟩:=g0
        obtain⟨bP,ha,a0,rfl,hg0⟩:=hs.h _ _ _ _ _ _ _ _ hd2 (fun n hn=>hw n (.inl hn))
        obtain⟨hdl,hdc⟩:=X9 hd1
        refine⟨a0::l,ds++us,by simp[h1],by simp[hdl,h2,Nat.add_mul,Nat.add_comm], ?_,by simpa using aI.app ha h4,fun j u hj=> ?_⟩
        · intro a ha
          rcases List.mem_cons.1 ha with rfl|ha
          · exact hg0
          · exact h3 a ha
        · by_cases hjs:j<s
          · rw[List.getElem?_append_left (by omega)]at hj
            have:=hdc j hjs
            rw[hj]at this
            rw[←this,←add_add a]
          · rw[List.getElem?_append_right (by omega),hdl]at hj
            have:=h5 _ _ hj
            rw[←this,show(o+1)*s+(j-s)=o*s+j by rw[Nat.add_mul];omega]
   obtain⟨l,us,h1,h2,h3,h4,h5⟩:=main elems.length 0 elems rfl (fun i hi=>by simpa using hg i (by omega)) hwe
   have hfl:flat len (qK c l)=l.flatMap c:=by
    rw[←hel,←h1]
    exact Oh c l
   refine⟨[.sl s len sc (qK c l)],aI.cons (.sl s len sc _ (some a) cap us hs0 hlc hcm (by rw[h2,hel]) (fun i _=>hlen _) (fun ael x hx=> ?_) (fun i x u hx hu=> ?_) ?_) aI.nil,l,by rw[h1,hel],h3,by omega⟩
   · rw[hfl]at hx
     obtain⟨a0,_,hx⟩:=List.mem_flatMap.1 hx
     exact hsc ael a0 x hx
   · rw[hfl]at hx
     exact h4.2 i x u hx hu
   · by_cases h0:len=0
     · exact .inl h0
     · obtain⟨b,o,sp⟩:=a
       have hpos:0<us.length:=by rw[h2,hel];exact Nat.mul_pos (by omega) hs0
       have c0:=h5 0 _ (List.getElem?_eq_getElem hpos)
       have hsp:sp=none:=by simpa[Addr.add]using World.cell?_spot c0
       subst hsp
       refine .inr ⟨b,o,rfl, ?_,fun j u hj=> ?_⟩
       · rcases Nat.lt_or_ge b w.heap.size with h|h
         · exact h
         · exfalso
           unfold World.cell? at c0
           rw[Array.getElem?_eq_none (by simpa[Addr.add]using h)]at c0
           cases c0
       · have:=h5 j u hj
         rw[Nat.zero_mul,Nat.zero_add]at this
         rw[←this,add_lit]
section
variable {H:Type} {enc:TypeId×Value→H} {w:World} {spare:Nat→Bool} {held:Bool} {v:Value} {d:DataW H} {p:List MemPlace} {r:Reach} {b0:Nat}
theorem S9 {t:TypeId} {S:List AV→Prop} (hs:Sh t S) (h1: ∀bP,S bP→bP.length=1) (h:DataW.Trod enc Tryz.prog w 0 spare held t v d p) (hw: ∀n∈d.weights Tryz.prog t,n≤reachBytes) (hv:v.cells.toList=[v]): ∃x,S [x]∧C1 ⟨w,allOf w,fun _=>undef⟩ x v:=by
 obtain⟨fuel,hf⟩:=h
 obtain⟨bP,ha,hS⟩:=hs.h _ _ _ _ _ _ _ _ hf hw
 match bP,h1 bP hS with
 | [x],_=>
   rw[hv]at ha
   exact⟨x,hS,C1.sD (C0.MO (X:=⟨w,allOf w,fun _=>undef⟩) (ha.2 0 x v rfl rfl))⟩
theorem Tc {t:TypeId} {S:List AV→Prop} (hs:Sh t S) (h:DataW.Trod enc Tryz.prog w 0 spare held t v d p) (hw: ∀n∈d.weights Tryz.prog t,n≤reachBytes) (hv: ∃cs,v= .agg cs): ∃xs,S xs∧C1 ⟨w,allOf w,fun _=>undef⟩ (.agg xs) v:=by
 obtain⟨cs,rfl⟩:=hv
 obtain⟨fuel,hf⟩:=h
 obtain⟨bP,ha,hS⟩:=hs.h _ _ _ _ _ _ _ _ hf hw
 exact⟨bP,hS,cs.toList,rfl,(show aI (PC w (allOf w)) bP cs.toList from ha).imp fun _ _ h=>C0.MO (X:=⟨w,allOf w,fun _=>undef⟩) h⟩
end
theorem kR {H:Type} {ts:List TypeId} {ds:List (DataW H)} (h:(DataW.weightsEach Tryz.prog ts ds).all (· ≤reachBytes)=true) {j:Nat} {t:TypeId} {d:DataW H} (ht:ts[j]? =some t) (hd:ds[j]? =some d):
  ∀n∈d.weights Tryz.prog t,n≤reachBytes:=fun n hn=>by
 simpa using List.all_eq_true.1 h _ (DataW.weights_mem_each ht hd n hn)
theorem Lr {f:FuncId} {bP:List AV} (h:aH Tryz.prog f bP (.v (.bool true)) []) {W:World} {args:List Value} (ha:aI (C1 ⟨W,allOf W,fun _=>undef⟩) bP args):
  Calls Tryz.prog f args.toArray W fun e W'=>e= .returned (.bool true)∧Below W.heap.size W W':=
 (h.2 W (allOf W) args (fun _ hb=>hb) ha).mono fun e W' ⟨u,ρ,h1,h2,h3,_⟩=>⟨by rw[h1,show u= .bool true from h3],h2⟩
end
section
open Go.ChangeShapes Go.WideShapes Go.ChangeAt Go.RowKit
def Ev.rng (e:Ev):Prop:=e.key.size≤140737488355328∧e.v.size≤140737488355328
theorem Ya:Sh 31 (fun bP=> ∃c:aZ,bP=c.cs):=
 (X8 (s:=1) Tryz.underlying31 (by kernel_rfl) (by kernel_rfl) (kK Tryz.underlying3)).imp fun bP h=>by
  obtain⟨_,_,rfl,⟨a,rfl,_⟩,_,_,rfl,⟨b,rfl,_⟩,_,_,rfl,⟨c,rfl,_⟩,_,_,rfl,⟨d,rfl,_⟩,_,_,rfl,⟨e,rfl,_⟩,rfl⟩:=h
  exact⟨⟨a,b,c,d,e⟩,rfl⟩
theorem adG:Sh 42 (fun bP=> ∃e:Ev,bP=e.cs∧e.rng):=
 (xZ Tryz.underlying42 (by kernel_rfl) rfl (.cons (kK Tryz.underlying3) (.cons (kK Tryz.underlying3) (.cons Ya (.cons (kK Tryz.underlying3) (.cons (kK Tryz.underlying3) (.cons (xY Tryz.underlying9) (.cons (kK Tryz.underlying3) (.cons (xY Tryz.underlying9) .nil))))))))).imp fun bP h=>by
  obtain⟨_,_,rfl,⟨a,rfl,_⟩,_,_,rfl,⟨b,rfl,_⟩,_,_,rfl,⟨c,rfl⟩,_,_,rfl,⟨d,rfl,_⟩,_,_,rfl,⟨e,rfl,_⟩,_,_,rfl,⟨f,rfl,hf⟩,_,_,rfl,⟨g,rfl,_⟩,_,_,rfl,⟨i,rfl,hi⟩,rfl⟩:=h
  exact⟨⟨a,b,c,d,e,f,g,i⟩,rfl,hf,hi⟩
theorem acz:Sh 39 (fun bP=> ∃l:List Ev,bP=[.sl 12 l.length true (dV l)]∧(∀e∈l,e.rng)∧l.length≤140737488355328):=
 Oi (s:=12) (c:=Ev.cs) (good:=Ev.rng) true Tryz.underlying39 (by kernel_rfl) (by omega) (of_decide_eq_true (by kernel_rfl)) (fun _=>rfl)
  (fun _ a x hx=>by
   simp only[Ev.cs,List.mem_cons,List.not_mem_nil,or_false]at hx
   rcases hx with rfl|rfl|rfl|rfl|rfl|rfl|rfl|rfl|rfl|rfl|rfl|rfl<;>exact⟨_,rfl⟩) adG
section
variable {H:Type} {enc:TypeId×Value→H} {w:World} {spare:Nat→Bool} {held:Bool} {v:Value} {d:DataW H} {p:List MemPlace} {r:Reach} {b0:Nat}
end
end
section
open Go.ChangeShapes Go.WideShapes Go.ChangeAt Go.RowKit
structure WB where
 (r f:Int) (sy:Bool) (k:Int) (key:ByteArray) (l:Int) (v:ByteArray)
instance:Inhabited WB:=⟨⟨0,0,false,0,⟨#[]⟩,0,⟨#[]⟩⟩⟩
def WB.cs (c:WB):List AV:=[.v (.int .u8 c.r),.v (.int .u8 c.f),.v (.bool c.sy),.v (.int .i64 c.k),.v (.string c.key),.v (.int .i64 c.l),.v (.string c.v)]
def WB.av (c:WB):AV:= .agg c.cs
def WB.rng (c:WB):Prop:=(0≤c.r∧c.r≤255)∧(0≤c.f∧c.f≤255)∧ -9223372036854775808≤c.k∧c.k≤9223372036854775807∧ -9223372036854775808≤c.l∧c.l≤9223372036854775807∧c.key.size≤140737488355328∧c.v.size≤140737488355328
section
variable {H:Type} {enc:TypeId×Value→H} {w:World} {spare:Nat→Bool} {held:Bool} {v:Value} {d:DataW H} {p:List MemPlace} {r:Reach} {b0:Nat}
theorem Ls {t:TypeId} {k:IntKind} (ht:Tryz.prog.underlying t=some (.int k)) (hv:Value.okWide Tryz.prog w r b0 t v) (h:DataW.Trod enc Tryz.prog w 0 spare held t v d p) (hw: ∀n∈d.weights Tryz.prog t,n≤reachBytes): ∃n:Int,(Lit.int k n).wf=true∧C1 ⟨w,allOf w,fun _=>undef⟩ (.v (.int k n)) v:=by
 obtain⟨n,rfl⟩:=okWide_int ht hv
 obtain⟨x,⟨m,e,hm⟩,hc⟩:=S9 (kK ht) (fun _ ⟨l,e,_⟩=>by rw[e];rfl) h hw rfl
 cases e
 exact⟨m,hm,hc⟩
end
end
section
open Go.RowKit
def Hw (a b:Int):Int:=if b>a then b else a
def aZ.join (a b:aZ):aZ:=⟨Hw a.c0 b.c0,Hw a.c1 b.c1,Hw a.c2 b.c2,Hw a.c3 b.c3,Hw a.c4 b.c4⟩
def aZ.le (a b:aZ):Bool:=decide (a.c0≤b.c0∧a.c1≤b.c1∧a.c2≤b.c2∧a.c3≤b.c3∧a.c4≤b.c4)
def oW (c:aZ) (s:Int×Bool) (e:Ev):Int×Bool:=if(hasB c e.r e.n&&(!s.2||decide (s.1<e.h)))=true then(e.h,true)else s
def FV (c:aZ) (l:List Ev):Int×Bool:=l.foldl (oW c) (0,false)
def hgt (l:List Ev) (c:aZ):Int:=(FV c l).1+1
theorem pV {α β:Type} [Inhabited α] {f:β→α→β} {b:β} {l:List α} {j:Nat} (h:j<l.length):(l.take (j+1)).foldl f b=f ((l.take j).foldl f b) (l.getD j default):=by
 rw[List.take_add_one,List.getElem?_eq_getElem h,List.getD,List.getElem?_eq_getElem h,List.foldl_append]
 rfl
theorem FW {c:aZ} {M:Int} (hM:0≤M): ∀ (l:List Ev),(∀e∈l,0≤e.h∧e.h≤M)→ ∀s:Int×Bool,0≤s.1∧s.1≤M→0≤(l.foldl (oW c) s).1∧(l.foldl (oW c) s).1≤M
  |[],_,s,hs=>hs
  | e::l,h,s,hs=>by
    rw[List.foldl_cons]
    refine FW hM l (fun x hx=>h x (List.mem_cons_of_mem _ hx)) _ ?_
    unfold oW
    split
    · exact h e List.mem_cons_self
    · exact hs
theorem aax {c:aZ} {M:Int} (hM:0≤M) {l:List Ev} (h: ∀e∈l,0≤e.h∧e.h≤M):1≤hgt l c∧hgt l c≤M+1:=by
 have:=FW (c:=c) hM l h (0,false) ⟨by simp,hM⟩
 unfold hgt FV
 omega
end
section
open Go.RowKit
structure kZ where
 (n w q h l p:Int)
def kZ.cs (c:kZ):List AV:=[.v (.int .i64 c.n),.v (.int .i64 c.w),.v (.int .i64 c.q),.v (.int .i64 c.h),.v (.int .i64 c.l),.v (.int .i64 c.p)]
def kZ.av (c:kZ):AV:= .agg c.cs
def UR (n m:Int):Bool:=decide (1≤n)&&decide (n≤m)
def zu (c:kZ):Bool:=UR c.n 5&&UR c.w 4&&UR c.q 8&&UR c.h 20&&UR c.l 4&&UR c.p 3
theorem Lu {n m:Int}:UR n m=true↔1≤n∧n≤m:=by simp[UR]
theorem UU (n m:Int):aH Tryz.prog 64 [.v (.int .i64 n),.v (.int .i64 m)] (.v (.bool (UR n m))) []:=by
 refine K1.E 0x13 Tryz.func64 ?_
 repeat' ((conv=>whnf);first|refine K1.w ?_|refine K1.u ?_|refine aG.cO ?_|refine K1.z ?_|refine K1.y (fun _=> ?_) (fun _=> ?_)|fail)
 all_goals(conv=>whnf)
 all_goals(refine aW.mk (aj.of ?_))
 all_goals simp[UR, *]
theorem UW (n m:Int):aH Tryz.prog 28 [.v (.int .i64 n),.v (.int .i64 m)] (.v (.bool (UR n m))) []:=by
 refine K1.E 0x13 Tryz.func28 ?_
 repeat' ((conv=>whnf);first|refine K1.w ?_|refine K1.u ?_|refine aG.cO ?_|refine K1.z ?_|refine K1.y (fun _=> ?_) (fun _=> ?_)|fail)
 all_goals(conv=>whnf)
 all_goals(refine aW.mk (aj.of ?_))
 all_goals simp[UR, *]
theorem Jj (c:kZ):aH Tryz.prog 27 [c.av] (.v (.bool (zu c))) []:=by
 obtain⟨n,w,q,h,l,p⟩:=c
 dsimp only[kZ.av,kZ.cs]
 refine K1.E 0x7 Tryz.func27 ?_
 repeat' ((conv=>whnf);first|refine K1.w ?_|refine K1.u ?_|refine K1.P1 (UU _ _) rfl ?_|refine aG.cO ?_|refine K1.z ?_|refine K1.y (fun _=> ?_) (fun _=> ?_)|fail)
 all_goals(conv=>whnf)
 all_goals(refine aW.mk (aj.of ?_))
 all_goals simp[zu, *]
theorem QI (c:kZ):aH Tryz.prog 10 [c.av] (.v (.bool (zu c))) []:=by
 obtain⟨n,w,q,h,l,p⟩:=c
 dsimp only[kZ.av,kZ.cs]
 refine K1.E 0x7 Tryz.func10 ?_
 repeat' ((conv=>whnf);first|refine K1.w ?_|refine K1.u ?_|refine K1.P1 (UW _ _) rfl ?_|refine aG.cO ?_|refine K1.z ?_|refine K1.y (fun _=> ?_) (fun _=> ?_)|fail)
 all_goals(conv=>whnf)
 all_goals(refine aW.mk (aj.of ?_))
 all_goals simp[zu, *]
theorem Yb {c:kZ} (h:zu c=true): ∃n:Nat,c.n=(n:Int)∧1≤n∧n≤5:=by
 simp only[zu,Bool.and_eq_true]at h
 have h1:=Lu.1 h.1.1.1.1.1
 exact⟨c.n.toNat,by omega,by omega,by omega⟩
def mN (m x:Int):Int:=(x.tmod m+m)%m
theorem Jk (x m:Int) (hm:0<m): -m<x.tmod m∧x.tmod m<m:=⟨by have:=Int.lt_tmod_of_pos x hm;omega,Int.tmod_lt_of_pos x hm⟩
theorem Jl (m x:Int) (hm:0<m):0≤mN m x∧mN m x<m:=⟨Int.emod_nonneg _ (by omega),Int.emod_lt_of_pos _ hm⟩
def Oj (c:kZ):kZ:=⟨1+mN 5 c.n,1+mN 4 c.w,1+mN 8 c.q,1+mN 20 c.h,1+mN 4 c.l,1+mN 3 c.p⟩
theorem Jm (c:kZ):zu (Oj c)=true:=by
 have h1:=Jl 5 c.n (by omega);have h2:=Jl 4 c.w (by omega);have h3:=Jl 8 c.q (by omega)
 have h4:=Jl 20 c.h (by omega);have h5:=Jl 4 c.l (by omega);have h6:=Jl 3 c.p (by omega)
 have f: ∀ {m x:Int},0≤x∧x<m→UR (1+x) m=true:=fun h=>Lu.2 (by omega)
 simp only[zu,Bool.and_eq_true]
 exact⟨⟨⟨⟨⟨f h1,f h2⟩,f h3⟩,f h4⟩,f h5⟩,f h6⟩
theorem FX (c:kZ):aH Tryz.prog 12 [c.av] (Oj c).av []:=by
 have h1:=Jk c.n 5 (by omega);have h2:=Jk c.w 4 (by omega);have h3:=Jk c.q 8 (by omega)
 have h4:=Jk c.h 20 (by omega);have h5:=Jk c.l 4 (by omega);have h6:=Jk c.p 3 (by omega)
 obtain⟨n,w,q,h,l,p⟩:=c
 dsimp only[kZ.av,kZ.cs,Oj,mN]at*
 refine K1.E 0x7 Tryz.func12 ?_
 repeat' ((conv=>whnf);first|refine K1.w ?_|refine K1.u ?_|refine Rm.pos (by omega) (by omega) ?_|refine Rm.raw (by decide) ?_|refine aG.cO ?_|refine K1.z ?_|refine K1.y (fun _=> ?_) (fun _=> ?_)|fail)
 all_goals(conv=>whnf)
 all_goals exact aW.mk (aj.refl _)
end
section
open Go.RowKit
def Aw (l:List Cont) (key:ByteArray):Int:=match l.findIdx? (fun c=>decide (c.key=key))with|some i=>(i:Int)|none=> -1
def inS (s:List (List UInt8)) (v:ByteArray):Bool:=s.any fun x=>decide (v=⟨x.toArray⟩)
theorem Td {l:List Cont} {key:ByteArray} {j:Nat} (hj:j<l.length) (hq: ∀i,i<j→(l.getD i default).key≠key) (h:(l.getD j default).key=key):Aw l key=j:=by
 have:l.findIdx? (fun c=>decide (c.key=key))=some j:=by
  rw[List.findIdx?_eq_some_iff_getElem]
  refine⟨hj, ?_,fun i hi=> ?_⟩
  · rw[show l[j]=l.getD j default by simp[List.getD,hj]]
    exact decide_eq_true h
  · have:=hq i hi
    rw[show l.getD i default=l[i] by simp[List.getD,show i<l.length by omega]]at this
    simpa using this
 unfold Aw
 rw[this]
theorem aay {l:List Cont} {key:ByteArray} (hq: ∀i,i<l.length→(l.getD i default).key≠key):Aw l key= -1:=by
 have:l.findIdx? (fun c=>decide (c.key=key))=none:=by
  rw[List.findIdx?_eq_none_iff]
  intro c hc
  obtain⟨i,hi,rfl⟩:=List.getElem_of_mem hc
  have:=hq i hi
  rw[show l.getD i default=l[i] by simp[List.getD,hi]]at this
  simpa using this
 unfold Aw
 rw[this]
theorem aaz (l:List Cont) (key:ByteArray):Aw l key= -1∨ ∃i:Nat,i<l.length∧Aw l key=i:=by
 unfold Aw
 cases h:l.findIdx? (fun c=>decide (c.key=key))with
 |none=>exact .inl rfl
 |some i=>exact .inr ⟨i,(List.findIdx?_eq_some_iff_getElem.1 h).1,rfl⟩
theorem acA (ed:Ed) (l:List Cont) (hl:l.length≤1000000000):aY Tryz.prog 86 [(0,.box 64 ed.cs)] [.sl 7 l.length false (QF l),.fn 87 [.box 0 0]] (.v (.int .i64 (Aw l ed.key))) [(0,.box 64 ed.cs)]:=by
 dsimp only[Ed.cs]
 refine K1.M 0x103b3 Tryz.func86 10 ?_
 repeat' ((conv=>whnf);first|refine K1.w ?_|refine K1.u ?_|refine K1.z ?_|refine K1.y (fun _=> ?_) (fun _=> ?_)|fail)
 conv=>whnf
 refine aJ.mk {j:Nat//j≤l.length∧ ∀i,i<j→(l.getD i default).key≠ed.key} (fun j=>⟨[(8,.v (.int .i64 (j.1:Int))),(7,.v (.int .i64 (l.length:Int))),(0,.sl 7 l.length false (QF l)),(1,.fn 87 [.box 0 0])],[(0,.box 64 [.v (.int .i64 ed.k),.v (.string ed.key),.v (.int .i64 ed.l),.v (.string ed.v)])],[[(0,.box 0 0)]],11⟩)
  (fun j=>l.length-j.1) ⟨0,Nat.zero_le _,fun i h=>absurd h (Nat.not_lt_zero i)⟩ _ (dB.mk' [] _ _ _ rfl ⟨aj.int rfl,aj.refl _,aj.refl _,aj.refl _,trivial⟩ ⟨⟨_,rfl,au.refl _⟩,trivial⟩ rfl) ?_
 rintro⟨j,hj,hq⟩
 dsimp only
 by_cases hjl:j<l.length
 · by_cases hk:(l.getD j default).key=ed.key
   · rw[Td hjl hq hk]
     have hk:(l.getD (j:Int).toNat default).key=ed.key:=hk
     clear hq
     repeat' ((conv=>whnf);first|refine K1.w ?_|refine K1.u ?_|refine K1.I 0xf Tryz.func87 ?_|refine K1.z ?_|refine K1.y (fun _=> ?_) (fun _=> ?_)|fail)
     all_goals(conv=>whnf)
     exact⟨[],rfl,rfl,⟨⟨_,rfl,au.refl _⟩,trivial⟩,rfl,rfl,aj.refl _⟩
   · have hq2: ∀i,i<j+1→(l.getD i default).key≠ed.key:=fun i hi=>by
      rcases Nat.lt_or_ge i j with h|h
      · exact hq i h
      · obtain rfl:=Nat.le_antisymm (Nat.le_of_lt_succ hi) h
        exact hk
     have hk: ¬ (l.getD (j:Int).toNat default).key=ed.key:=hk
     clear hq
     repeat' ((conv=>whnf);first|refine K1.w ?_|refine K1.u ?_|refine K1.I 0xf Tryz.func87 ?_|refine K1.z ?_|refine K1.y (fun _=> ?_) (fun _=> ?_)|fail)
     all_goals(conv=>whnf)
     exact⟨⟨j+1,hjl,hq2⟩,_,dB.mk' [] _ _ _ rfl ⟨aj.int rfl,aj.refl _,aj.refl _,aj.refl _,trivial⟩ ⟨⟨_,rfl,au.refl _⟩,trivial⟩ rfl,by show l.length-(j+1)<l.length-j;omega⟩
 · obtain rfl:j=l.length:=by omega
   rw[aay hq]
   repeat' ((conv=>whnf);first|refine K1.w ?_|refine K1.u ?_|refine K1.z ?_|refine K1.y (fun _=> ?_) (fun _=> ?_)|fail)
   all_goals(conv=>whnf)
   exact⟨[],rfl,rfl,⟨⟨_,rfl,au.refl _⟩,trivial⟩,rfl,rfl,aj.refl _⟩
theorem Jo (s:List (List UInt8)) (v:ByteArray) (hl:s.length≤1000000000):aH Tryz.prog 88 [.sl 1 s.length true (iw s),.v (.string v)] (.v (.bool (inS s v))) []:=by
 refine K1.E 0x13 Tryz.func88 ?_
 repeat' ((conv=>whnf);first|refine K1.w ?_|refine K1.u ?_|refine K1.I 0x103b3 Tryz.func118 ?_|refine K1.z ?_|refine K1.y (fun _=> ?_) (fun _=> ?_)|fail)
 conv=>whnf
 refine aJ.mk {j:Nat//j≤s.length∧ ∀i,i<j→ ¬v=⟨(s.getD i []).toArray⟩} (fun j=>⟨[(8,.v (.int .i64 (j.1:Int))),(7,.v (.int .i64 (s.length:Int))),(0,.sl 1 s.length true (iw s)),(1,.v (.string v))],[],
   [[(6,.v (.string v)),(5,.sl 1 s.length true (iw s)),(4,.v (.bool false)),(0,.sl 1 s.length true (iw s)),(1,.v (.string v))]],0⟩)
  (fun j=>s.length-j.1) ⟨0,Nat.zero_le _,fun i h=>absurd h (Nat.not_lt_zero i)⟩ _ (dB.mk' [] _ _ _ rfl ⟨aj.int rfl,aj.refl _,aj.refl _,aj.refl _,trivial⟩ trivial rfl) ?_
 rintro⟨j,hj,hq⟩
 dsimp only
 by_cases hjl:j<s.length
 · by_cases hk:v=⟨(s.getD j []).toArray⟩
   · have hin:inS s v=true:=List.any_eq_true.2 ⟨s[j],List.getElem_mem hjl,by rw[show s.getD j []=s[j] by simp[List.getD,hjl]]at hk;exact decide_eq_true hk⟩
     rw[hin]
     have hk:v=⟨(s.getD (j:Int).toNat []).toArray⟩:=hk
     clear hq
     repeat' ((conv=>whnf);first|refine K1.w ?_|refine K1.u ?_|refine yC.yes hk ?_|refine aG.cO ?_|refine K1.z ?_|refine K1.y (fun _=> ?_) (fun _=> ?_)|fail)
     all_goals(conv=>whnf)
     exact aW.mk (aj.refl _)
   · have hq2: ∀i,i<j+1→ ¬v=⟨(s.getD i []).toArray⟩:=fun i hi=>by
      rcases Nat.lt_or_ge i j with h|h
      · exact hq i h
      · obtain rfl:=Nat.le_antisymm (Nat.le_of_lt_succ hi) h
        exact hk
     have hk: ¬v=⟨(s.getD (j:Int).toNat []).toArray⟩:=hk
     clear hq
     repeat' ((conv=>whnf);first|refine K1.w ?_|refine K1.u ?_|refine yC.no hk ?_|refine K1.z ?_|refine K1.y (fun _=> ?_) (fun _=> ?_)|fail)
     all_goals(conv=>whnf)
     exact⟨⟨j+1,hjl,hq2⟩,_,dB.mk' [] _ _ _ rfl ⟨aj.int rfl,aj.refl _,aj.refl _,aj.refl _,trivial⟩ trivial rfl,by show s.length-(j+1)<s.length-j;omega⟩
 · obtain rfl:j=s.length:=by omega
   have hin:inS s v=false:=by
    rw[Bool.eq_false_iff]
    intro h
    obtain⟨x,hx,hv⟩:=List.any_eq_true.1 h
    obtain⟨i,hi,rfl⟩:=List.getElem_of_mem hx
    exact hq i hi (by rw[show s.getD i []=s[i] by simp[List.getD,hi]];exact of_decide_eq_true hv)
   rw[hin]
   repeat' ((conv=>whnf);first|refine K1.w ?_|refine K1.u ?_|refine aG.cO ?_|refine K1.z ?_|refine K1.y (fun _=> ?_) (fun _=> ?_)|fail)
   all_goals(conv=>whnf)
   exact aW.mk (aj.refl _)
def UY (c:Cont) (n:Int):List (List UInt8):=if n=0 then c.s0 else c.s1
def nT (cL cP:Int) (l:List Cont) (e:Ed):Int:=
 if jE e≠0 then jE e
 else if e.k=1 then(if Aw l e.key= -1 then(if cL≤(l.length:Int)then 15 else 0)else 13)
 else if Aw l e.key= -1 then 14
 else if e.k=4 then(if cP≤((UY (l.getD (Aw l e.key).toNat default) e.l).length:Int)then 15 else 0)
 else if e.k=5 then(if inS (UY (l.getD (Aw l e.key).toNat default) e.l) e.v=true then 0 else 16)
 else 0
theorem uD (c:kZ) (l:List Cont) (e:Ed) (hl:l.length≤1000000) (hs: ∀x∈l,x.s0.length≤1000000∧x.s1.length≤1000000):aH Tryz.prog 49 [c.av,.sl 7 l.length false (QF l),e.av] (.v (.int .i64 (nT c.l c.p l e))) []:=by
 have hed:=BU e
 have hix:=acA e l (by omega)
 have hin:=aaz l e.key
 generalize hi:Aw l e.key=ix at hix hin
 unfold nT
 rw[hi]
 clear hi
 obtain⟨cn,cw,cq,ch,cl,cp⟩:=c
 obtain⟨k,key,lab,v⟩:=e
 dsimp only[kZ.av,kZ.cs,Ed.av,Ed.cs]at hed hix⊢
 refine N8 dR 9 0x8004001a81011ef 0x43 Tryz.func49 rfl rfl rfl Tryz.func85 rfl rfl rfl (i:=6) (j:=7) rfl rfl rfl rfl rfl rfl rfl ?_
 by_cases he:jE ⟨k,key,lab,v⟩=0
 · rw [if_neg (by simp[he])]
   rw[he]at hed
   have hlab:k=4∨k=5→lab=0∨lab=1:=fun h=>by
    have g:=(qx he).2.2.2.2.2.1 (by unfold dK;rcases h with rfl|rfl<;>rfl)
    have g1:=g.1
    have g2:=g.2.1
    dsimp only at g1 g2
    omega
   clear he
   rcases hin with rfl|⟨i,hil,rfl⟩
   · rw[if_pos rfl,if_pos rfl]
     clear hlab hs
     by_cases hk1:k=1
     · rw[if_pos hk1]
       by_cases hcl:cl≤(l.length:Int)
       all_goals first|rw[if_pos hcl]|rw[if_neg hcl]
       all_goals repeat' ((conv=>whnf);first|refine K1.w ?_|refine K1.u ?_|refine K1.P1 (hed) rfl ?_|refine K1.C 1 [(0,_)] (hix) rfl ?_|refine qM.mk (by decide) ?_|refine aG.cO ?_|refine K1.o (id:=16) [(0,none),(1,none),(2,none),(3,none),(4,none),(5,none),(6,none),(7,none),(8,none),(9,none),(10,none),(11,none),(12,some [11,10,7,3])] [(6,[3]),(7,[3]),(8,[7,3]),(11,[10,7,3]),(12,[11,10,7,3])] ?_|refine K1.o (id:=18) [(0,none),(1,none),(2,none),(3,none),(4,none),(5,none),(6,none),(7,none),(8,none),(9,none),(10,some [9,7,3]),(11,none)] [(6,[3]),(7,[3]),(10,[9,7,3]),(11,[9,7,3])] ?_|refine K1.z ?_|refine K1.y (fun _=> ?_) (fun _=> ?_)|fail)
       all_goals(conv=>whnf)
       all_goals exact aW.mk (aj.refl _)
     · rw[if_neg hk1]
       repeat' ((conv=>whnf);first|refine K1.w ?_|refine K1.u ?_|refine K1.P1 (hed) rfl ?_|refine K1.C 1 [(0,_)] (hix) rfl ?_|refine qM.mk (by decide) ?_|refine aG.cO ?_|refine K1.o (id:=16) [(0,none),(1,none),(2,none),(3,none),(4,none),(5,none),(6,none),(7,none),(8,none),(9,none),(10,none),(11,none),(12,some [11,10,7,3])] [(6,[3]),(7,[3]),(8,[7,3]),(11,[10,7,3]),(12,[11,10,7,3])] ?_|refine K1.o (id:=18) [(0,none),(1,none),(2,none),(3,none),(4,none),(5,none),(6,none),(7,none),(8,none),(9,none),(10,some [9,7,3]),(11,none)] [(6,[3]),(7,[3]),(10,[9,7,3]),(11,[9,7,3])] ?_|refine K1.z ?_|refine K1.y (fun _=> ?_) (fun _=> ?_)|fail)
       all_goals(conv=>whnf)
       all_goals exact aW.mk (aj.refl _)
   · have hne: ¬ ((i:Int)= -1):=by omega
     rw[if_neg hne,if_neg hne,Int.toNat_natCast]
     by_cases hk1:k=1
     · rw[if_pos hk1];clear hlab hs
       repeat' ((conv=>whnf);first|refine K1.w ?_|refine K1.u ?_|refine K1.P1 (hed) rfl ?_|refine K1.C 1 [(0,_)] (hix) rfl ?_|refine qM.mk (by decide) ?_|refine aG.cO ?_|refine K1.o (id:=16) [(0,none),(1,none),(2,none),(3,none),(4,none),(5,none),(6,none),(7,none),(8,none),(9,none),(10,none),(11,none),(12,some [11,10,7,3])] [(6,[3]),(7,[3]),(8,[7,3]),(11,[10,7,3]),(12,[11,10,7,3])] ?_|refine K1.o (id:=18) [(0,none),(1,none),(2,none),(3,none),(4,none),(5,none),(6,none),(7,none),(8,none),(9,none),(10,some [9,7,3]),(11,none)] [(6,[3]),(7,[3]),(10,[9,7,3]),(11,[9,7,3])] ?_|refine K1.z ?_|refine K1.y (fun _=> ?_) (fun _=> ?_)|fail)
       all_goals(conv=>whnf)
       all_goals exact aW.mk (aj.refl _)
     · rw [if_neg hk1]
       have hmem:l.getD i default∈l:=by rw[show l.getD i default=l[i] by simp[List.getD,hil]];exact List.getElem_mem hil
       have hb:=hs _ hmem
       have c0:=Jo (l.getD i default).s0 v (by omega)
       have c1:=Jo (l.getD i default).s1 v (by omega)
       clear hs hmem
       rw[show l.getD i default=l.getD (i:Int).toNat default from rfl]at c0 c1 hb⊢
       by_cases hk4:k=4
       · rw[if_pos hk4]
         rcases hlab (.inl hk4)with rfl|rfl
         all_goals first|rw[show UY (l.getD (i:Int).toNat default) 0=(l.getD (i:Int).toNat default).s0 from rfl]|rw[show UY (l.getD (i:Int).toNat default) 1=(l.getD (i:Int).toNat default).s1 from rfl]
         all_goals split
         all_goals repeat' ((conv=>whnf);first|refine K1.w ?_|refine K1.u ?_|refine K1.P1 (hed) rfl ?_|refine K1.C 1 [(0,_)] (hix) rfl ?_|refine qM.mk (by decide) ?_|refine aG.cO ?_|refine K1.o (id:=16) [(0,none),(1,none),(2,none),(3,none),(4,none),(5,none),(6,none),(7,none),(8,none),(9,none),(10,none),(11,none),(12,some [11,10,7,3])] [(6,[3]),(7,[3]),(8,[7,3]),(11,[10,7,3]),(12,[11,10,7,3])] ?_|refine K1.o (id:=18) [(0,none),(1,none),(2,none),(3,none),(4,none),(5,none),(6,none),(7,none),(8,none),(9,none),(10,some [9,7,3]),(11,none)] [(6,[3]),(7,[3]),(10,[9,7,3]),(11,[9,7,3])] ?_|refine K1.z ?_|refine K1.y (fun _=> ?_) (fun _=> ?_)|fail)
         all_goals(conv=>whnf)
         all_goals exact aW.mk (aj.refl _)
       · rw[if_neg hk4]
         by_cases hk5:k=5
         · rw[if_pos hk5]
           rcases hlab (.inr hk5)with rfl|rfl
           all_goals first|rw[show UY (l.getD (i:Int).toNat default) 0=(l.getD (i:Int).toNat default).s0 from rfl];generalize inS (l.getD (i:Int).toNat default).s0 v=b at c0⊢|rw[show UY (l.getD (i:Int).toNat default) 1=(l.getD (i:Int).toNat default).s1 from rfl];generalize inS (l.getD (i:Int).toNat default).s1 v=b at c1⊢
           all_goals cases b
           all_goals first|rw[if_pos rfl]|rw[if_neg Bool.false_ne_true]
           all_goals repeat' ((conv=>whnf);first|refine K1.w ?_|refine K1.u ?_|refine K1.P1 (hed) rfl ?_|refine K1.C 1 [(0,_)] (hix) rfl ?_|refine K1.P1 (c0) rfl ?_|refine K1.P1 (c1) rfl ?_|refine qM.mk (by decide) ?_|refine aG.cO ?_|refine K1.o (id:=16) [(0,none),(1,none),(2,none),(3,none),(4,none),(5,none),(6,none),(7,none),(8,none),(9,none),(10,none),(11,none),(12,some [11,10,7,3])] [(6,[3]),(7,[3]),(8,[7,3]),(11,[10,7,3]),(12,[11,10,7,3])] ?_|refine K1.o (id:=18) [(0,none),(1,none),(2,none),(3,none),(4,none),(5,none),(6,none),(7,none),(8,none),(9,none),(10,some [9,7,3]),(11,none)] [(6,[3]),(7,[3]),(10,[9,7,3]),(11,[9,7,3])] ?_|refine K1.z ?_|refine K1.y (fun _=> ?_) (fun _=> ?_)|fail)
           all_goals(conv=>whnf)
           all_goals exact aW.mk (aj.refl _)
         · rw[if_neg hk5]
           repeat' ((conv=>whnf);first|refine K1.w ?_|refine K1.u ?_|refine K1.P1 (hed) rfl ?_|refine K1.C 1 [(0,_)] (hix) rfl ?_|refine qM.mk (by decide) ?_|refine aG.cO ?_|refine K1.o (id:=16) [(0,none),(1,none),(2,none),(3,none),(4,none),(5,none),(6,none),(7,none),(8,none),(9,none),(10,none),(11,none),(12,some [11,10,7,3])] [(6,[3]),(7,[3]),(8,[7,3]),(11,[10,7,3]),(12,[11,10,7,3])] ?_|refine K1.o (id:=18) [(0,none),(1,none),(2,none),(3,none),(4,none),(5,none),(6,none),(7,none),(8,none),(9,none),(10,some [9,7,3]),(11,none)] [(6,[3]),(7,[3]),(10,[9,7,3]),(11,[9,7,3])] ?_|refine K1.z ?_|refine K1.y (fun _=> ?_) (fun _=> ?_)|fail)
           all_goals(conv=>whnf)
           all_goals exact aW.mk (aj.refl _)
 · rw[if_pos he]
   generalize jE ⟨k,key,lab,v⟩=x at hed he⊢
   repeat' ((conv=>whnf);first|refine K1.w ?_|refine K1.u ?_|refine K1.P1 (hed) rfl ?_|refine aG.cO ?_|refine K1.o (id:=16) [(0,none),(1,none),(2,none),(3,none),(4,none),(5,none),(6,none),(7,none),(8,none),(9,none),(10,none),(11,none),(12,some [11,10,7,3])] [(6,[3]),(7,[3]),(8,[7,3]),(11,[10,7,3]),(12,[11,10,7,3])] ?_|refine K1.o (id:=18) [(0,none),(1,none),(2,none),(3,none),(4,none),(5,none),(6,none),(7,none),(8,none),(9,none),(10,some [9,7,3]),(11,none)] [(6,[3]),(7,[3]),(10,[9,7,3]),(11,[9,7,3])] ?_|refine K1.z ?_|refine K1.y (fun _=> ?_) (fun _=> ?_)|fail)
   all_goals(conv=>whnf)
   all_goals exact aW.mk (aj.refl _)
end
end Go.Proofs.YtimhagicagdkfaaGreat
