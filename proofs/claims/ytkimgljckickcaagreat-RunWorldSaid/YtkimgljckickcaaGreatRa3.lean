/-
  Contracts of the walk:Mp1.
-/
import Derived.Test.YtkimgljckickcaaGreatRa2
import Derived.MapKept
set_option maxHeartbeats 16000000
set_option maxRecDepth 100000
set_option linter.unusedVariables false
set_option linter.unusedSimpArgs false
namespace Go.Proofs.YtkimgljckickcaaGreat
open Go.RowKit
variable{i j:Nat}{α:Type}
theorem PS(a b:ByteArray):(a==b)=true↔a=b:=by
 obtain⟨a⟩:=a;obtain⟨b⟩:=b;show(a==b)=true↔_;rw[beq_iff_eq,ByteArray.mk.injEq]
theorem ML{l:List α}(h:l.Nodup)(hi:i<l.length)(hj:j<l.length)(e:l[i]=l[j]):i=j:=by
 rcases Nat.lt_trichotomy i j with k|k|k
 ·exact absurd e (aoS.1 h i j hi hj k)
 ·exact k
 ·exact absurd e.symm (aoS.1 h j i hj hi k)
def pairs(es:List MapEntry):List (Value×Value):=es.map λ e=>(e.key,e.val)
theorem Gf(k:ByteArray):∀(es:List MapEntry)(n:Nat),(∀e∈es,∃s,e.key= .string s)->
 (∃j e,es[j]? =some e/\e.key= .string k/\Instr.findNow .string (.string k) es n=some (some (n+j,e.val)))\/((∀e∈es,e.key≠ .string k)/\Instr.findNow .string (.string k) es n=some none)
 |[],n,_=> .inr ⟨λ e h=>(by cases h),rfl⟩
 |e::es,n,h=>by
  obtain⟨s,hs⟩:=h e amW;have hn:Instr.sameNow .string (.string k) e.key=some (k==s):=by rw[hs];rfl
  by_cases he:k=s
  ·refine .inl ⟨0,e,rfl,by rw[hs,he], ?_⟩;unfold Instr.findNow;rw[hn,show(k==s)=true from(PS k s).2 he];rfl
  ·have hb:(k==s)=false:=by rw[anw];exact λ e=>he ((PS k s).1 e)
   have hne:e.key≠ .string k:=by rw[hs];intro x;cases x;exact he rfl
   rcases Gf k es (n+1) (λ x hx=>h x (am1 _ hx))with⟨j,x,h1,h2,h3⟩|⟨h1,h2⟩
   ·refine .inl ⟨j+1,x,by simpa using h1,h2, ?_⟩;unfold Instr.findNow;rw[hn,hb];dsimp only;rw[h3,show n+1+j=n+(j+1) by omega]
   ·refine .inr ⟨λ x hx=> ?_, ?_⟩
    ·rcases am4.1 hx with rfl|hx
     ·exact hne
     ·exact h1 x hx
    ·unfold Instr.findNow;rw[hn,hb];exact h2
theorem yE{p:Value×Value}:∀{ks:List ByteArray}{vs:List Value},p∈mF ks vs-> ∃(i:Nat) (k:ByteArray) (v:Value),ks[i]? =some k/\vs[i]? =some v/\p=(.string k,v)/\(∀a b,v≠ .slice none a b)
 |[],_,h=>by simp[mF]at h
 |_::_,[],h=>by simp[mF]at h
 |k::ks,v::vs,h=>by
  unfold mF at h;split at h
  ·obtain⟨i,k',v',h1,h2,h3⟩:=yE h;exact⟨i+1,k',v',by simpa using h1,by simpa using h2,h3⟩
  ·rename_i hv;rcases am4.1 h with rfl|h
   ·exact⟨0,k,v,rfl,rfl,rfl,λ a b e=>hv a b e⟩
   ·obtain⟨i,k',v',h1,h2,h3⟩:=yE h;exact⟨i+1,k',v',by simpa using h1,by simpa using h2,h3⟩
theorem PU:∀{ks:List ByteArray}{vs:List Value}{i:Nat}{k:ByteArray}{v:Value},ks[i]? =some k->vs[i]? =some v->(∀a b,v≠ .slice none a b)->(.string k,v)∈mF ks vs
 |[],_,i,_,_,h,_,_=>by simp at h
 |_::_,[],i,_,_,_,h,_=>by simp at h
 |k::ks,v::vs,0,k',v',h1,h2,h3=>by
  simp only[aoh,ank]at h1 h2;subst h1 h2;unfold mF;split
  ·rename_i a b;exact absurd rfl (h3 a b)
  ·exact amW
 |k::ks,v::vs,i+1,k',v',h1,h2,h3=>by
  have ih:=PU (ks:=ks) (vs:=vs) (i:=i) (by simpa using h1) (by simpa using h2) h3;unfold mF;split
  ·exact ih
  ·exact am1 _ ih
theorem PV{es:List MapEntry}{ks:List ByteArray}{vs:List Value}(hp:(pairs es).Perm (mF ks vs))(hn:ks.Nodup){k:ByteArray}{v:Value}(hk:ks[i]? =some k)(hv:vs[i]? =some v):
  (∃j e,es[j]? =some e/\e.key= .string k/\e.val=v/\(∀a b,v≠ .slice none a b)/\Instr.findNow .string (.string k) es 0=some (some (j,v)))\/((∃a b,v= .slice none a b)/\(∀e∈es,e.key≠ .string k)/\Instr.findNow .string (.string k) es 0=some none):=by
 have hstr:∀e∈es,∃s,e.key= .string s:=λ e he=>by
  have:(e.key,e.val)∈mF ks vs:=hp.mem_iff.1 (ant.2 ⟨e,he,rfl⟩);obtain⟨_,s,_,_,_,h,_⟩:=yE this;exact⟨s,congrArg Prod.fst h⟩
 rcases Gf k es 0 hstr with⟨j,e,h1,h2,h3⟩|⟨h1,h2⟩
 ·have he:e∈es:=anG h1;have:(e.key,e.val)∈mF ks vs:=hp.mem_iff.1 (ant.2 ⟨e,he,rfl⟩);obtain⟨i',s,v',g1,g2,g3,g4⟩:=yE this;have gk:e.key= .string s:=congrArg Prod.fst g3;have gv:e.val=v':=congrArg Prod.snd g3;rw[h2]at gk;cases gk;have hi:i'=i:=by
   have h1':=(anc.1 g1);have h2':=(anc.1 hk);obtain⟨a1,a2⟩:=h1';obtain⟨b1,b2⟩:=h2';exact ML hn a1 b1 (a2.trans b2.symm)
  subst hi;rw[hv]at g2;cases g2;rw[anZ,gv]at h3;exact .inl ⟨j,e,h1,h2,gv,g4,h3⟩
 ·refine .inr ⟨?_,h1,h2⟩;refine Classical.byContradiction λ hc=> ?_;have:=PU hk hv (λ a b e=>hc ⟨a,b,e⟩);obtain⟨e,he,e2⟩:=ant.1 (hp.mem_iff.2 this);exact h1 e he (congrArg Prod.fst e2)
def G5(k:ByteArray)(v:Value):List (Value×Value):=match v with| .slice none _ _=>[]|v=>[(.string k,v)]
theorem kS(k:ByteArray)(v:Value)(ks:List ByteArray)(vs:List Value):mF (k::ks) (v::vs)=G5 k v++mF ks vs:=by
 conv=>lhs;unfold mF
 unfold G5;split
 ·rfl
 ·rename_i hv;split
  ·rename_i a b;exact(hv a b rfl).elim
  ·rfl
theorem Dl:∀{ks:List ByteArray}{vs:List Value}{i:Nat}{k:ByteArray}{v:Value},ks[i]? =some k->vs[i]? =some v->(mF ks vs).Perm (G5 k v++mF (ks.eraseIdx i) (vs.eraseIdx i))
 |[],_,_,_,_,h,_=>by simp at h
 |_::_,[],_,_,_,_,h=>by simp at h
 |k::ks,v::vs,0,k',v',h1,h2=>by
  simp only[aoh,ank]at h1 h2;subst h1 h2;rw[kS];exact .refl _
 |k::ks,v::vs,i+1,k',v',h1,h2=>by
  have ih:=Dl (ks:=ks) (vs:=vs) (i:=i) (by simpa using h1) (by simpa using h2);rw[kS,aoZ,aoZ,kS];refine(ih.append_left _).trans ?_;rw[<-anm,<-anm];exact aoR.append_right _
theorem MN{α:Type}:∀(l:List α)(i:Nat)(x:α),(l.set i x).eraseIdx i=l.eraseIdx i
 |[],_,_=>rfl
 |_::_,0,_=>rfl
 |y::l,i+1,x=>by rw[List.set_cons_succ,aoZ,aoZ,MN l i x]
theorem acM{l:List α}{e:α}(h:l[j]? =some e):l=l.take j++e::l.drop (j+1):=by
 obtain⟨h1,h2⟩:=anc.1 h;rw[<-h2,<-aok h1,an8]
section
variable{es:List MapEntry}{ks:List ByteArray}{vs:List Value}{i:Nat}{k:ByteArray}{v:Value}(hp:(pairs es).Perm (mF ks vs))(hk:ks[i]? =some k)(hv:vs[i]? =some v)
include hp hk hv
theorem IG{j:Nat}{e:MapEntry}(hj:es[j]? =some e)(he:e.key= .string k)(hev:e.val=v)(hn:∀a b,v≠ .slice none a b):
  (pairs (es.take j)++pairs (es.drop (j+1))).Perm (mF (ks.eraseIdx i) (vs.eraseIdx i)):=by
 have h1:=Dl hk hv;have h2:G5 k v=[(.string k,v)]:=by
  unfold G5;split
  ·rename_i a b;exact absurd rfl (hn a b)
  ·rfl
 rw[h2]at h1;have h3:pairs es=pairs (es.take j)++(.string k,v)::pairs (es.drop (j+1)):=by
  have:=congrArg pairs (acM hj);unfold pairs at this⊢;rw[an2,anS,he,hev]at this;exact this
 rw[h3]at hp;exact(List.perm_cons (.string k,v)).1 ((aoO.symm.trans hp).trans h1)
theorem rest_none(hn:∃a b,v= .slice none a b):(pairs es).Perm (mF (ks.eraseIdx i) (vs.eraseIdx i)):=by
 obtain⟨a,b,rfl⟩:=hn;exact hp.trans (Dl hk hv)
omit hp hv in
theorem acN{v':Value}(hi:i<vs.length):(mF ks (vs.set i v')).Perm (G5 k v'++mF (ks.eraseIdx i) (vs.eraseIdx i)):=by
 have:=Dl (vs:=vs.set i v') hk (v:=v') (by rw[apt hi]);rwa [MN]at this
end
section
variable{P:Program}{w:World}{t kt et:TypeId}{b c:Nat}{es:Array MapEntry}{k:ByteArray}
theorem gG(hkt:P.underlying kt=some .string)(m:Bool):(Instr.checkKey m 10000 kt (.string k)).run P w= .ok () w:=by
 exact MapKept.run_checkKey hkt (by trivial) m 9999
theorem iw(hkt:P.underlying kt=some .string){r:Option (Nat×Value)}(hf:Instr.findNow .string (.string k) es.toList 0=some r):(Instr.findKey kt (.string k) es.toList).run P w= .ok r w:=by
 simp[Instr.findKey,run_underlying hkt,am',Result.andThen,hf]
theorem LJ(ht:P.underlying t=some (.map kt et))(hkt:P.underlying kt=some .string)(hb:w.heap[b]? =some (.map es c)){v:Value}
  (h:(∃j,Instr.findNow .string (.string k) es.toList 0=some (some (j,v)))\/(Instr.findNow .string (.string k) es.toList 0=some none/\(zeroValue et).run P w= .ok v w)):
  (Instr.lookup t (.map (some b)) (.string k) false).run P w= .ok v w:=by
 rcases h with⟨j,hf⟩|⟨hf,hz⟩
 ·simp[Instr.lookup,run_underlying ht,anY hb,am',Result.andThen,gG hkt,iw hkt hf]
 ·simp[Instr.lookup,run_underlying ht,anY hb,am',Result.andThen,gG hkt,iw hkt hf,hz]
theorem II(ht:P.underlying t=some (.map kt et))(hkt:P.underlying kt=some .string){v:Value}(hz:(zeroValue et).run P w= .ok v w):(Instr.lookup t (.map none) (.string k) false).run P w= .ok v w:=by
 have hf:(Instr.findKey kt (.string k) []).run P w= .ok none w:=iw (es:= #[]) hkt rfl;simp[Instr.lookup,run_underlying ht,am',Result.andThen,gG hkt,hf,hz]
theorem IJ(ht:P.underlying t=some (.map kt et))(hkt:P.underlying kt=some .string)(hb:w.heap[b]? =some (.map es c)){v u:Value}{j:Nat}{e:MapEntry}
  (hf:Instr.findNow .string (.string k) es.toList 0=some (some (j,u)))(hj:es.toList[j]? =some e)(he:e.key= .string k):
  ∃es',(Instr.mapUpdate t (.map (some b)) (.string k) v).run P w= .ok () {w with heap:=w.heap.setIfInBounds b (.map es' c)}/\pairs es'.toList=pairs (es.toList.take j)++(.string k,v)::pairs (es.toList.drop (j+1))/\(MapKept.Stamped es c->MapKept.Stamped es' c):=by
 have hj':es[j]? =some e:=by rw[<-aod];exact hj
 have hs:Instr.sameBits 10000 (.string k) (.string k)=true:=by
  have:(k==k)=true:=(PS k k).2 rfl;simpa[Instr.sameBits]using this
 have hks:(Instr.keyThatStays (.string k) (.string k)).run P w= .ok (.string k) w:=by
  unfold Instr.keyThatStays;rw[hs];rfl
 refine⟨es.modify j λ e=>{e with key:= .string k,val:=v}, ?_, ?_,λ hst=>MapKept.stamped_modify hst j _ (λ _ _=>rfl) (λ x hx hxj=> ?_)⟩;rotate_left 2
 ·rw[hj']at hxj;cases hxj;exact he.symm
 ·simp[Instr.mapUpdate,run_underlying ht,anY hb,am',Result.andThen,gG hkt,iw hkt hf,hj',he,hks,aoz _ hb]
 ·obtain⟨h1,h2⟩:=anc.1 hj;rw[Array.toList_modify,List.modify_eq_take_cons_drop h1];simp[pairs]
theorem IK(ht:P.underlying t=some (.map kt et))(hkt:P.underlying kt=some .string)(hb:w.heap[b]? =some (.map es c)){v:Value}(hf:Instr.findNow .string (.string k) es.toList 0=some none):
  ∃es',(Instr.mapUpdate t (.map (some b)) (.string k) v).run P w= .ok () {w with heap:=w.heap.setIfInBounds b (.map es' (c+1))}/\pairs es'.toList=pairs es.toList++[(.string k,v)]/\(MapKept.Stamped es c->(∀e∈es.toList,e.key≠ .string k)->MapKept.Stamped es' (c+1)):=by
 refine⟨es.push {key:= .string k,val:=v,born:=c}, ?_, ?_,λ hst hno=>MapKept.stamped_push hst hno⟩
 ·simp[Instr.mapUpdate,run_underlying ht,anY hb,am',Result.andThen,gG hkt,iw hkt hf,aoz _ hb]
 ·simp[pairs]
theorem IL(ht:P.underlying t=some (.map kt et))(hkt:P.underlying kt=some .string)(hb:w.heap[b]? =some (.map es c)){u:Value}{j:Nat}{ty Ws:TypeId}
  (hf:Instr.findNow .string (.string k) es.toList 0=some (some (j,u)))(_hj:j<es.toList.length):
  ∃es',(Builtin.delete_ #[t,Ws] ty #[.map (some b),.string k]).run P w= .ok (.tuple #[]) {w with heap:=w.heap.setIfInBounds b (.map es' c)}/\pairs es'.toList=pairs (es.toList.take j)++pairs (es.toList.drop (j+1))/\(MapKept.Stamped es c->MapKept.Stamped es' c):=by
 refine⟨es.eraseIdxIfInBounds j, ?_, ?_,λ hst=>MapKept.stamped_erase hst j⟩
 ·simp[Builtin.delete_,run_underlying ht,anY hb,am',Result.andThen,gG hkt,iw hkt hf,aoz _ hb]
 ·have:(es.eraseIdxIfInBounds j).toList=es.toList.eraseIdx j:=s_
  rw[this,aoU];simp[pairs]
theorem G6(ht:P.underlying t=some (.map kt et))(hkt:P.underlying kt=some .string)(hb:w.heap[b]? =some (.map es c)){ty Ws:TypeId}(hf:Instr.findNow .string (.string k) es.toList 0=some none):
  (Builtin.delete_ #[t,Ws] ty #[.map (some b),.string k]).run P w= .ok (.tuple #[]) {w with heap:=w.heap.setIfInBounds b (.map es c)}:=by
 simp[Builtin.delete_,run_underlying ht,anY hb,am',Result.andThen,gG hkt,iw hkt hf,aoz _ hb]
end
section
variable{P:Program}{L:Lay}{g:Base}{N:Nat}{bs:List (Array Value)}{ρ:Nat->Value}{a:Act}{w:World}{st:AS}
theorem jJ.len:∀{ks:List (ByteArray×Option Nat)}{vs:List Value},jJ ρ ks vs->vs.length=ks.length
 |[],_,h=>by rw[show _=[]from h];rfl
 |_::l,_,⟨v,r,e,_,hr⟩=>by rw[e,anb,anb,jJ.len hr]
theorem jJ.get:∀{ks:List (ByteArray×Option Nat)}{vs:List Value}{i id:Nat}{k:ByteArray},jJ ρ ks vs->ks[i]? =some (k,some id)->vs[i]? =some (ρ id)
 |[],_,_,_,_,_,h=>by simp at h
 |p::l,_,0,id,k,⟨v,r,e,hi,hr⟩,h=>by
  simp only[aoh,ank]at h;subst h e;rw[aoh,hi id rfl]
 |p::l,_,i+1,id,k,⟨v,r,e,_,hr⟩,h=>by
  subst e;rw[List.getElem?_cons_succ];exact jJ.get hr (by simpa using h)
theorem jJ.set:∀{ks:List (ByteArray×Option Nat)}{vs:List Value}{i j:Nat}{k:ByteArray},jJ ρ ks vs->jJ ρ (ks.set i (k,some j)) (vs.set i (ρ j))
 |[],_,_,_,_,h=>by rw[show _=[]from h];rfl
 |p::l,_,0,j,k,⟨v,r,e,hi,hr⟩=>by
  subst e;exact⟨ρ j,r,rfl,λ i h=>by cases h;rfl,hr⟩
 |p::l,_,i+1,j,k,⟨v,r,e,hi,hr⟩=>by
  subst e;exact⟨v,r.set i (ρ j),rfl,hi,jJ.set hr⟩
theorem SE{ks:List (ByteArray×Option Nat)}{i:Nat}{k:ByteArray}{o o':Option Nat}(h:ks[i]? =some (k,o)):(ks.set i (k,o')).map (·.1)=ks.map (·.1):=by
 rw[List.map_set];apply aos;intro n;rw[aoJ];split
 ·rename_i e;subst e;split
  ·rw[anE,h];rfl
  ·rename_i hlt;rw[anz (by simpa using hlt)]
 ·rfl
theorem Dn(hL:bD P L){t kt et:TypeId}{ti:TI}(h:aU L t=some ti)(hk:ti.kind= .map kt et):P.underlying t=some (.map kt et):=by
 obtain⟨info,z,d,h1,h2,h3,h4,h5,h6,h7⟩:=jm hL h;rw[hk]at h7;cases d<;>simp[kindOf]at h7;rw[h2,h7.1,h7.2]
theorem Dp(hL:bD P L){t:TypeId}{ti:TI}(h:aU L t=some ti)(hk:ti.kind= .str):P.underlying t=some .string:=by
 obtain⟨info,z,d,h1,h2,h3,h4,h5,h6,h7⟩:=jm hL h;rw[hk]at h7;cases d<;>simp[kindOf]at h7;exact h2
theorem Yt(R:Rel g N bs ρ a w st){id:Nat}(h:rowB st.heap id=true)(hn:∃a b,ρ id= .slice none a b):ρ id= .slice none 0 0:=by
 unfold rowB at h;split at h
 ·rename_i e s n sc f hf;obtain⟨us,hown,_⟩:=R.objs _ (au hf);have hown:w.ownsRow 0 e s (ρ id) n us:=hown;rcases hown.2 with⟨hv,_⟩|⟨b,cap,cur,hv,_⟩
  ·exact hv
  ·obtain⟨x,y,e⟩:=hn;rw[hv]at e;cases e
 ·cases h
theorem agp(R:Rel g N bs ρ a w st){id:Nat}(h:rowB st.heap id=true):dD (ρ id)=ρ id:=by
 unfold rowB at h;split at h
 ·rename_i e s n sc f hf;exact CV (X:=aA g w ρ st.heap) (R.objs _ (au hf))
 ·cases h
theorem Gg(hL:bD P L)(R:Rel g N bs ρ a w st){t:TypeId}{x ix:AV}{xv iv:Value}(hx:C2 (aA g w ρ st.heap) x xv)(hi:C2 (aA g w ρ st.heap) ix iv){K:AV->Prop}(h:PL P L st t x ix K):
  ∃z u,K z/\C2 (aA g w ρ st.heap) z u/\(Instr.lookup t xv iv false).run P w= .ok u w:=by
 unfold PL at h;split at h
 ·rename_i ti k hti;split at h
  ·rename_i kt et hkind;split at h
   ·rename_i ki hki;split at h
    ·rename_i id hstr;split at h
     ·rename_i t' ks rs hf;obtain⟨hz,h⟩:=h;obtain⟨i,j,k',hks,hkk,hK⟩:=h;subst hkk;cases hr:rowB st.heap j with
      |false=>rw[hr]at hK;exact hK.elim
      |true=>
       rw[hr]at hK;have hx:xv=dD (ρ id):=hx;have hi:iv= .string k:=hi;obtain⟨b,es,c,vs,hs,e,hh,hmi,hr',hp,hn,hst⟩:=R.objs _ (au hf);have e:ρ id=_:=e;have hv':=hmi.get hks;have hv:(vs++hs)[i]? =some (dD (ρ j)):=by rw[anq (anc.1 hv').1];exact hv'
       have hkx:(ks.map (·.1)++rs.map (·.1))[i]? =some k:=by
        have h0:(ks.map (·.1))[i]? =some k:=by rw[anE,hks];rfl
        rw[anq (anc.1 h0).1];exact h0
       refine⟨_,dD (ρ j),hK,rfl, ?_⟩;rw[hx,e,hi];refine LJ (Dn hL hti hkind) (Dp hL hki hstr) hh ?_;rcases PV (es:=es.toList) hp hn hkx hv with⟨q,en,_,_,_,_,h3⟩|⟨hnil,_,h3⟩
       ·exact .inl ⟨q,h3⟩
       ·exact .inr ⟨h3,by rw[agp R hr]at hnil⊢;rw[Yt R hr hnil];exact hz w⟩
     ·exact h.elim
    ·rename_i hstr;obtain⟨hz,h⟩:=h;have hx:xv= .map none:=hx;have hi:iv= .string k:=hi;refine⟨_,_,h,rfl, ?_⟩;rw[hx,hi];exact II (Dn hL hti hkind) (Dp hL hki hstr) (hz w)
    ·exact h.elim
   ·exact h.elim
  ·exact h.elim
 ·exact h.elim
theorem ZR{k:ByteArray}{v:Value}(h:∀a b,v≠ .slice none a b):G5 k v=[(.string k,v)]:=by
 unfold G5;split
 ·rename_i a b;exact absurd rfl (h a b)
 ·rfl
theorem Dq(R:Rel g N bs ρ a w st){id b i j c c':Nat}{t':TypeId}{ks:List (ByteArray×Option Nat)}{rs:List (ByteArray×RW)}{o:Option Nat}{k:ByteArray}{es es':Array MapEntry}{vs hs:List Value}(hf:aG id st.heap=some (.mp t' ks rs))(e:ρ id= .tuple (.map (some b):: .map (some b)::hs).toArray)(hh:w.heap[b]? =some (.map es c))(hmi:jJ (RU ρ) ks vs)(hr:jl (aA g w ρ st.heap) rs hs)
  (hn:(ks.map (·.1)++rs.map (·.1)).Nodup)(hks:ks[i]? =some (k,o))(hp:(pairs es'.toList).Perm (mF (ks.map (·.1)++rs.map (·.1)) ((vs++hs).set i (dD (ρ j)))))(hst:MapKept.Stamped es' c'):
  Rel g N bs ρ a {w with heap:=w.heap.setIfInBounds b (.map es' c')} ⟨st.sl,setObj id (.mp t' (ks.set i (k,some j)) rs) st.heap,st.back,st.base⟩:=by
 have hlt:b<w.heap.size:=(anQ.1 hh).1;have hoth:∀q,q≠b->(w.heap.setIfInBounds b (.map es' c'))[q]? =w.heap[q]? :=λ q hq=>Array.getElem?_setIfInBounds_ne (apn hq);have hnd:(b::hs.flatMap iK).Nodup:=by
  have:=nS R.apart (au hf);rw[e]at this;exact this
 refine R.write hf (b:=b) (by rw[e];exact amW) ⟨rfl,rfl,rfl,s_,λ q hq=>hoth q o_⟩ s_ hoth (λ hk hm=> ?_);refine⟨b,es',c',vs.set i (dD (ρ j)),hs,e, ?_,hmi.set,jl.mono (X:=aA g w ρ st.heap) (Y:=aA g {w with heap:=w.heap.setIfInBounds b (.map es' c')} ρ (setObj id (.mp t' (ks.set i (k,some j)) rs) st.heap)) hk hm (λ q hq=>hoth q ?_) hr, ?_,by rw[SE hks];exact hn,hst⟩
 ·show(w.heap.setIfInBounds b (.map es' c'))[b]? =_;rw[Array.getElem?_setIfInBounds_self_of_lt hlt]
 ·rintro rfl;exact(an1.1 hnd).1 hq
 ·rw[SE hks];have hi:i<vs.length:=by rw[hmi.len];exact(anc.1 hks).1
  rw[List.set_append_left _ _ hi]at hp;exact hp
theorem IQ(hL:bD P L)(R:Rel g N bs ρ a w st){t:TypeId}{m ix x:AV}{mv iv xv:Value}(hm:C2 (aA g w ρ st.heap) m mv)(hi:C2 (aA g w ρ st.heap) ix iv)(hx:C2 (aA g w ρ st.heap) x xv){K:AS->Prop}(h:Ba L st t m ix x K):
  ∃st' w',K st'/\Rel g N bs ρ a w' st'/\(Instr.mapUpdate t mv iv xv).run P w= .ok () w':=by
 unfold Ba at h;split at h
 ·rename_i ti k id j hti;split at h
  ·rename_i kt et hkind;split at h
   ·rename_i ki hki;split at h
    ·rename_i t' ks rs e0 s0 n0 sc0 f0 hstr hf hfj;obtain⟨hpos,h⟩:=h;obtain⟨i,j0,k',hks,hkk,hK⟩:=h;subst hkk;have hm:mv=dD (ρ id):=hm;have hi:iv= .string k:=hi;have hx:xv=dD (ρ j):=hx;have hjd:dD (ρ j)=ρ j:=CV (X:=aA g w ρ st.heap) (R.objs _ (au hfj));obtain⟨b,es,c,vs,hs,e,hh,hmi,hr',hp,hn,hst⟩:=R.objs _ (au hf);have e:ρ id=_:=e;have hv':=hmi.get hks;have hv:(vs++hs)[i]? =some (dD (ρ j0)):=by rw[anq (anc.1 hv').1];exact hv'
     have hil:i<(vs++hs).length:=(anc.1 hv).1;have hkx:(ks.map (·.1)++rs.map (·.1))[i]? =some k:=by
      have h0:(ks.map (·.1))[i]? =some k:=by rw[anE,hks];rfl
      rw[anq (anc.1 h0).1];exact h0
     have hnn:∀x y,ρ j≠ .slice none x y:=λ x y hc=>by
      have:=Yt R (id:=j) (by unfold rowB;rw[hfj]) ⟨x,y,hc⟩;obtain⟨us,hown,_⟩:=R.objs _ (au hfj);have hown:w.ownsRow 0 e0 s0 (ρ j) n0 us:=hown;rcases hown.2 with⟨_,hz⟩|⟨b,cap,cur,hv,_⟩
      ·omega
      ·rw[hv]at this;cases this
     have hset:=acN (ks:=ks.map (·.1)++rs.map (·.1)) (vs:=vs++hs) (v':=dD (ρ j)) hkx hil;rw[ZR (by rw[hjd];exact hnn)]at hset;have hT:=Dn hL hti hkind;have hS:=Dp hL hki hstr;rw[hm,e,hi,hx];rcases PV (es:=es.toList) hp hn hkx hv with⟨q,en,g1,g2,g3,g4,h3⟩|⟨hnil,hno,h3⟩
     ·obtain⟨es',r1,r2,r3⟩:=IJ (v:=dD (ρ j)) hT hS hh h3 g1 g2;refine⟨_,_,hK,Dq R hf e hh hmi hr' hn hks ?_ (r3 hst),r1⟩;rw[r2];exact(aoO.trans ((List.perm_cons _).2 (IG hp hkx hv g1 g2 g3 g4))).trans hset.symm
     ·obtain⟨es',r1,r2,r3⟩:=IK (v:=dD (ρ j)) hT hS hh h3;refine⟨_,_,hK,Dq R hf e hh hmi hr' hn hks ?_ (r3 hst hno),r1⟩;rw[r2];exact(aoR.trans ((List.perm_cons _).2 (rest_none hp hkx hv hnil))).trans hset.symm
    ·exact h.elim
   ·exact h.elim
  ·exact h.elim
 ·exact h.elim
theorem SG(hL:bD P L)(R:Rel g N bs ρ a w st){d:Nat}{t Ws ty:TypeId}{m ix:AV}{mv iv:Value}(hm:C2 (aA g w ρ st.heap) m mv)(hi:C2 (aA g w ρ st.heap) ix iv){K:AV->AS->Prop}(h:PK L d st t m ix K):
  ∃z st' ρ' w',K z st'/\Rel g N bs ρ' a w' st'/\C2 (aA g w' ρ' st'.heap) z (.tuple #[])/\(Builtin.delete_ #[t,Ws] ty #[mv,iv]).run P w= .ok (.tuple #[]) w':=by
 unfold PK at h;split at h
 ·rename_i ti k id hti;split at h
  ·rename_i kt et hkind;split at h
   ·rename_i ki ei hki qP;split at h
    ·rename_i e hstr hsl;split at h
     ·rename_i ee hee;cases hb:Nat.ble 1 ee.size with
      |false=>rw[hb]at h;exact h.elim
      |true=>
       rw[hb,cond_true]at h;have hpos:0<ee.size:=am7 hb;have R1:Rel g N bs (bZ ρ d (.slice none 0 0)) a w (st.obj d d (.row e ee.size 0 true (λ _=>[]))):=by
        refine R.obj d d R.below (ani _) (λ _ _ _=>rfl) (λ b hb=>by cases hb) (λ _=> ?_);exact⟨[],by simpa[aA,bZ]using aoi w _ e ee.size,hpos,λ i hi=>absurd hi o_,(λ _ x hx=>by cases hx),aC.nil⟩
       split at h
       ·rename_i t' ks rs hf;obtain⟨i,j0,k',hks,hkk,hK⟩:=h;subst hkk;have hid:id≠d:=by
         rintro rfl;simp[AS.obj,aG,AO.yu]at hf
        have hm:mv=dD (ρ id):=hm;have hi:iv= .string k:=hi;have hre:bZ ρ d (.slice none 0 0) id=ρ id:=by simp[bZ,hid]
        obtain⟨b,es,c,vs,hs,e',hh,hmi,hr',hp,hn,hst⟩:=R1.objs _ (au hf);have e':bZ ρ d (.slice none 0 0) id=_:=e';have hv':=hmi.get hks;have hv:(vs++hs)[i]? =_:=(anq (anc.1 hv').1).trans hv';have hil:i<(vs++hs).length:=(anc.1 hv).1;have hkx:(ks.map (·.1)++rs.map (·.1))[i]? =some k:=by
         have h0:(ks.map (·.1))[i]? =some k:=by rw[anE,hks];rfl
         rw[anq (anc.1 h0).1];exact h0
        have hd:dD (bZ ρ d (.slice none 0 0) d)= .slice none 0 0:=by simp[bZ,dD]
        have hset:=acN (ks:=ks.map (·.1)++rs.map (·.1)) (vs:=vs++hs) (v':=dD (bZ ρ d (.slice none 0 0) d)) hkx hil;have hent:G5 k (dD (bZ ρ d (.slice none 0 0) d))=[]:=by rw[hd];rfl
        rw[hent,ano]at hset;have hT:=Dn hL hti hkind;have hS:=Dp hL hki hstr;rw[hm,<-hre,e',hi];rcases PV (es:=es.toList) hp hn hkx hv with⟨q,en,g1,g2,g3,g4,h3⟩|⟨hnil,hno,h3⟩
        ·obtain⟨es',r1,r2,r3⟩:=IL (ty:=ty) (Ws:=Ws) hT hS hh h3 (anc.1 g1).1;refine⟨_,_,_,_,hK,Dq (j:=d) R1 hf e' hh hmi hr' hn hks ?_ (r3 hst),⟨[],rfl,aC.nil⟩,r1⟩;rw[r2];exact(IG hp hkx hv g1 g2 g3 g4).trans hset.symm
        ·refine⟨_,_,_,_,hK,Dq (j:=d) R1 hf e' hh hmi hr' hn hks ?_ hst,⟨[],rfl,aC.nil⟩,G6 hT hS hh h3⟩;exact(rest_none hp hkx hv hnil).trans hset.symm
       ·exact h.elim
     ·exact h.elim
    ·exact h.elim
   ·exact h.elim
  ·exact h.elim
 ·exact h.elim
theorem jJ.akq:∀{ks:List (ByteArray×Option Nat)},(∀p∈ks,∃i,p.2=some i/\ρ i= .slice none 0 0)-> ∃vs,jJ (RU ρ) ks vs/\mF (ks.map (·.1)) vs=[]
 |[],_=>⟨[],rfl,rfl⟩
 |(k,o)::l,h=>by
  obtain⟨i,e,hi⟩:=h (k,o) amW;have e:o=some i:=e;subst e;obtain⟨vs,h1,h2⟩:=jJ.akq (ks:=l) λ p hp=>h p (am1 _ hp);refine⟨.slice none 0 0::vs,⟨_,_,rfl,λ j hj=>by cases hj;show _=dD (ρ _);rw[hi];rfl,h1⟩, ?_⟩;rw[anS,kS];exact h2
theorem MO{e:TypeId}{s:Nat}(hs:0<s):∀{keys:List ByteArray}{st:AS}{ρ:Nat->Value}{acc:List (ByteArray×Option Nat)}{K:List (ByteArray×Option Nat)->AS->Prop},Rel g N bs ρ a w st->(∀p∈acc,∃i,p.2=some i/\i<st.base/\ρ i= .slice none 0 0)->Yp e s keys st acc K->
 ∃ks st' ρ',K ks st'/\Rel g N bs ρ' a w st'/\ks.map (·.1)=acc.map (·.1)++keys/\ ∀p∈ks,∃i,p.2=some i/\i<st'.base/\ρ' i= .slice none 0 0
 |[],st,ρ,acc,K,R,ha,h=>⟨acc,st,ρ,h,R,s_,ha⟩
 |k::r,st,ρ,acc,K,R,ha,h=>by
  unfold Yp at h;rw[iM]at h;have R1:Rel g N bs (bZ ρ st.base (.slice none 0 0)) a w (st.obj st.base st.base (.row e s 0 true (λ _=>[]))):=by
   refine R.obj st.base st.base R.below (ani _) (λ _ _ _=>rfl) (λ b hb=>by cases hb) (λ _=> ?_);exact⟨[],by simpa[aA,bZ]using aoi w _ e s,hs,λ i hi=>absurd hi o_,(λ _ x hx=>by cases hx),aC.nil⟩
  have hb:(st.obj st.base st.base (.row e s 0 true (λ _=>[]))).base=st.base+1:=rfl;obtain⟨ks,st',ρ',h1,h2,h3,h4⟩:=MO hs (keys:=r) R1 (acc:=acc++[(k,some st.base)]) (λ p hp=>by
   rw[hb];rcases am6.1 hp with hp|hp
   ·obtain⟨i,e1,e2,e3⟩:=ha p hp;exact⟨i,e1,o_,by simp[bZ,show i≠st.base by omega,e3]⟩
   ·rw[amZ.1 hp];exact⟨st.base,rfl,o_,by simp[bZ]⟩) h
  exact⟨ks,st',ρ',h1,h2,by rw[h3];simp,h4⟩
theorem PW(R:Rel g N bs ρ a w st){t:TypeId}{K:AV->AS->Prop}(h:Iu L st t K):
  ∃z u st' ρ' w',K z st'/\Rel g N bs ρ' a w' st'/\C2 (aA g w' ρ' st'.heap) z u/\(Instr.makeMap t none).run P w= .ok u w':=by
 unfold Iu at h;split at h
 ·split at h
  ·split at h
   ·split at h
    ·rename_i e _ _;split at h
     ·rename_i ee _;cases hb:Nat.ble 1 ee.size with
      |false=>rw[hb]at h;exact h.elim
      |true=>
       rw[hb,cond_true]at h;obtain⟨keys,hn,h⟩:=h;obtain⟨ks,st',ρ',h1,R',h3,h4⟩:=MO (am7 hb) R (acc:=[]) (λ p hp=>by cases hp) h;rw[iM]at h1;have hkeys:ks.map (·.1)=keys:=by rw[h3];rfl
       refine⟨_,.map (some w.heap.size),_,bZ ρ' st'.base (.tuple [.map (some w.heap.size),.map (some w.heap.size)].toArray),w.alloc (.map #[] 0),h1, ?_,by simp[C2,C1,C0,aA,bZ,dD],by simp[Instr.makeMap,Result.andThen]⟩;refine R'.obj st'.base st'.base (R'.below.alloc R'.below.size _) s_ (λ b hb _=>aph w _ b hb) (λ b hb=>by rw[show b=w.heap.size from amZ.1 hb];exact .inl (ani _)) (λ _=> ?_);obtain⟨vs,g1,g2⟩:=jJ.akq (ρ:=bZ ρ' st'.base (.tuple [.map (some w.heap.size),.map (some w.heap.size)].toArray)) (ks:=ks) (λ p hp=>by
        obtain⟨i,e1,e2,e3⟩:=h4 p hp;exact⟨i,e1,by simp[bZ,show i≠st'.base by omega,e3]⟩)
       refine⟨w.heap.size, #[],0,vs,[],by simp[aA,bZ],heap_alloc_new w _,g1.yu λ _ _=>rfl,rfl, ?_,by rw[nK,hkeys,aox,am2];exact hn,MapKept.stamped_empty 0⟩;simp[nK,g2]
     ·exact h.elim
    ·exact h.elim
   ·exact h.elim
  ·exact h.elim
 ·exact h.elim
end
end Go.Proofs.YtkimgljckickcaaGreat
