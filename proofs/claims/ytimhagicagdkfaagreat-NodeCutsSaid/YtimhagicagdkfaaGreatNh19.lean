/-
  Contracts of the walk:LvO,LvU.
-/
import Derived.Test.YtimhagicagdkfaaGreatNh18
import Derived.Test.YtimhagicagdkfaaGreatNh2
set_option maxHeartbeats 16000000
set_option maxRecDepth 100000
set_option linter.unusedVariables false
set_option linter.unusedSimpArgs false
namespace Go.Proofs.YtimhagicagdkfaaGreat
section
open Go.RowKit
theorem jv.split {X:CX} {k:ByteArray} {r:RW} {post:List (ByteArray×RW)}: ∀ {pre:List (ByteArray×RW)} {hs:List Value},jv X (pre++(k,r)::post) hs→ ∃hp v hq,hs=hp++v::hq∧hp.length=pre.length∧oQ X v r.e r.s r.n r.sc r.f∧jv X (pre++post) (hp++hq)
  |[],_,⟨v,q,e,hr,hq⟩=>⟨[],v,q,e,rfl,hr,hq⟩
  | (_,r')::pre,_,⟨v',q,e,hr,hq⟩=>by
    obtain⟨hp,v,hq',e',hl,h1,h2⟩:=jv.split hq
    exact⟨v'::hp,v,hq',by rw[e,e'];rfl,by simp[hl],h1,v',_,rfl,hr,h2⟩
theorem jv.len {X:CX}: ∀ {rs:List (ByteArray×RW)} {hs:List Value},jv X rs hs→hs.length=rs.length
  |[],_,h=>by rw[show _=[]from h];rfl
  |_::l,_,⟨v,q,e,_,hq⟩=>by rw[e,List.length_cons,List.length_cons,jv.len hq]
theorem jv.ρ {w:World} {k:Nat→Prop} {ρ ρ':Nat→Value} {rs:List (ByteArray×RW)} {hs:List Value} (h:jv ⟨w,k,ρ⟩ rs hs):jv ⟨w,k,ρ'⟩ rs hs:=
 jv.mono (X:=⟨w,k,ρ⟩) (Y:=⟨w,k,ρ'⟩) (fun _ h=>h) (fun _ _=>rfl) (fun _ _=>rfl) h
theorem ZB {k:ByteArray} {v:Value} {pre post:List ByteArray} {hp hq:List Value} (hl:hp.length=pre.length):(lG (pre++k::post) (hp++v::hq)).Perm (Et k v++lG (pre++post) (hp++hq)):=by
 have h1:(pre++k::post)[pre.length]? =some k:=by simp
 have h2:(hp++v::hq)[pre.length]? =some v:=by rw[←hl];simp
 have:=Au h1 h2
 have e1:(pre++k::post).eraseIdx pre.length=pre++post:=by rw[List.eraseIdx_append_of_length_le (Nat.le_refl _)];simp
 have e2:(hp++v::hq).eraseIdx pre.length=hp++hq:=by rw[←hl,List.eraseIdx_append_of_length_le (Nat.le_refl _)];simp
 rw[e1,e2]at this
 exact this
def re2 (ρ:Nat→Value) (i:Nat) (u:Value) (j:Nat) (v:Value):Nat→Value:=fun x=>if x=i then u else if x=j then v else ρ x
theorem ZC {X:CX} {i j:Nat} {t:TypeId} {k:ByteArray} {r:RW} {pre post:List (ByteArray×RW)} (hij:i≠j) (h:bn X i (.mp t [] (pre++(k,r)::post))):
  ∃u v,eP u=eP (X.ρ i)∧(blks u++blks v).Perm (blks (X.ρ i))∧bn ⟨X.w,X.keep,re2 X.ρ i u j v⟩ i (.mp t [(k,some j)] (pre++post))∧bn ⟨X.w,X.keep,re2 X.ρ i u j v⟩ j (.row r.e r.s r.n r.sc r.f):=by
 obtain⟨b,es,c,vs,hs,e,hh,hi,hr,hp,hn,hst⟩:=h
 have hvs:vs=[]:=hi
 subst hvs
 obtain⟨hp',v,hq,rfl,hl,hrow,hrest⟩:=hr.split
 have hbv:jm v=blks v:=by obtain⟨us,ho,_⟩:=hrow;exact Fe ho
 have hv:eP v=v:=by obtain⟨us,ho,_⟩:=hrow;exact gu ho
 refine⟨.tuple (.map (some b):: .map (some b)::(hp'++hq)).toArray,v,by rw[e];rfl, ?_,⟨b,es,c,[v],hp'++hq,by simp[re2],hh,⟨v,[],rfl,fun i' hi'=>by cases hi';simp[Nq,re2,hij.symm,hv],rfl⟩,hrest.ρ, ?_, ?_,hst⟩, ?_⟩
 · rw[e,lT,lT,List.flatMap_cons,List.flatMap_cons,List.flatMap_append,List.flatMap_append,List.flatMap_cons,hbv]
   simp only[List.append_assoc]
   refine(List.Perm.append_left _ (List.Perm.append_left _ ?_))
   exact List.perm_append_comm
 · refine hp.trans ?_
   simp only[List.map_nil,List.nil_append,List.map_append,List.map_cons,List.cons_append]
   rw[kJ]
   refine(ZB (by simpa using hl)).trans (.of_eq ?_)
   simp
 · simp only[List.map_nil,List.nil_append,List.map_append,List.map_cons,List.cons_append]at hn⊢
   exact(List.perm_middle.nodup_iff).1 hn
 · show oQ _ (re2 X.ρ i _ j v j) _ _ _ _ _
   rw[show re2 X.ρ i (.tuple (.map (some b):: .map (some b)::(hp'++hq)).toArray) j v j=v by simp[re2,hij.symm]]
   exact hrow.mono (X:=X) (fun _ h=>h) (fun _ _=>rfl) (fun _ _=>rfl)
theorem ZE {X:CX} {i j:Nat} {t:TypeId} {k:ByteArray} {rs:List (ByteArray×RW)} (hij:i≠j) (hk:k ∉ rs.map (·.1)) (h:bn X i (.mp t [] rs)):
  bn ⟨X.w,X.keep,re2 X.ρ i (X.ρ i) j (.slice none 0 0)⟩ i (.mp t [(k,some j)] rs):=by
 obtain⟨b,es,c,vs,hs,e,hh,hi,hr,hp,hn,hst⟩:=h
 have hvs:vs=[]:=hi
 subst hvs
 refine⟨b,es,c,[.slice none 0 0],hs,by simp[re2,e],hh,⟨_,[],rfl,fun i' hi'=>by cases hi';simp[Nq,re2,hij.symm,eP],rfl⟩,hr.ρ, ?_, ?_,hst⟩
 · refine hp.trans ?_
   simp only[List.map_nil,List.nil_append,List.map_cons,List.cons_append]
   rw[kJ]
   exact .refl _
 · simp only[List.map_nil,List.nil_append,List.map_cons,List.cons_append]at hn⊢
   exact List.nodup_cons.2 ⟨hk,hn⟩
theorem acn {X:CX} {i j:Nat} {t:TypeId} {k:ByteArray} {rs:List (ByteArray×RW)} {e:TypeId} {s n:Nat} {sc:Bool} {f:Nat→List AV} (h:bn X i (.mp t [(k,some j)] rs)) (hr:bn X j (.row e s n sc f)):
  ∃u,eP u=eP (X.ρ i)∧(blks u).Perm (blks (X.ρ i)++blks (X.ρ j))∧bn ⟨X.w,X.keep,re2 X.ρ i u i u⟩ i (.mp t [] ((k,⟨e,s,n,sc,f⟩)::rs)):=by
 obtain⟨b,es,c,vs,hs,e',hh,hi,ae0,hp,hn,hst⟩:=h
 obtain⟨v,q,rfl,hv,hq⟩:=hi
 have hq:q=[]:=hq
 subst hq
 have hv:v=eP (X.ρ j):=hv j rfl
 rw[Af hr]at hv
 have hrow:oQ X v e s n sc f:=by rw[hv];exact hr
 have hbv:jm v=blks v:=by obtain⟨us,ho,_⟩:=hrow;exact Fe ho
 refine⟨.tuple (.map (some b):: .map (some b)::v::hs).toArray,by rw[e'];rfl, ?_,b,es,c,[],v::hs,by simp[re2],hh,rfl,⟨v,hs,rfl,hrow.mono (X:=X) (fun _ h=>h) (fun _ _=>rfl) (fun _ _=>rfl),jv.ρ (w:=X.w) (k:=X.keep) (ρ:=X.ρ) ae0⟩,hp,hn,hst⟩
 rw[e',lT,lT,List.flatMap_cons,List.flatMap_cons,List.flatMap_cons,hbv,hv]
 simp only[List.append_assoc]
 exact(List.Perm.append_left _ List.perm_append_comm)
theorem adn {X:CX} {i j:Nat} {t:TypeId} {k:ByteArray} {rs:List (ByteArray×RW)} (hj:X.ρ j= .slice none 0 0) (hk:k ∉ rs.map (·.1)) (h:bn X i (.mp t [] rs)):bn X i (.mp t [(k,some j)] rs):=by
 obtain⟨b,es,c,vs,hs,e,hh,hi,hr,hp,hn,hst⟩:=h
 have hvs:vs=[]:=hi
 subst hvs
 refine⟨b,es,c,[.slice none 0 0],hs,e,hh,⟨_,[],rfl,fun i' hi'=>by cases hi';simp[Nq,hj,eP],rfl⟩,hr, ?_, ?_,hst⟩
 · refine hp.trans ?_
   simp only[List.map_nil,List.nil_append,List.map_cons,List.cons_append]
   rw[kJ]
   exact .refl _
 · simp only[List.map_nil,List.nil_append,List.map_cons,List.cons_append]at hn⊢
   exact List.nodup_cons.2 ⟨hk,hn⟩
def Wn (x:AV) (st S:AS):Prop:= ∀ (g:Base) (N:Nat) (bs:List (Array Value)) (ρ:Nat→Value) (a:Act) (w:World) (u:Value),Rel g N bs ρ a w st→C2 (aC g w ρ st.heap) x u→ ∃ρ',Rel g N bs ρ' a w S∧C2 (aC g w ρ' S.heap) x u
theorem dK.thn {P:Program} {L:Lay} (hL:bQ P L) {W:Walk} (hW:IZ P W) {d:Nat} {f:FuncId} {dn:List AV} {st:AS} {K:AV→AS→Prop} (hE:Enters P f) (h:dK P L W d f dn st (fun x st'=> ∃S,Wn x st' S∧K x S)):dK P L W d f dn st K:=by
 refine .sem hE fun g N bs ρ a w args R hargs=>?_
 refine((xR R hargs h (fun lv fn c hf' hnm hb hsz h'=>EL hL hW R hargs lv fn c hf' hb hsz h')).2).mono ?_
 rintro e w' ⟨u,x,st',ρ',rfl,⟨S,hI,hK⟩,R',hc⟩
 obtain⟨TB,R2,hc2⟩:=hI _ _ _ _ _ _ _ R' hc
 exact⟨u,x,S,TB,rfl,hK,R2,hc2⟩
theorem Wn.foc {st:AS} (id d:Nat) {t e:TypeId} {s:Nat} {f:Nat→List AV} {k:ByteArray} {rs:List (ByteArray×RW)} (hs:0<s) (hf:aP id (st.obj d d (.row e s 0 true f)).heap=some (.mp t [] rs)) (hk:k ∉ rs.map (·.1)):
  Wn (.dF []) st ⟨(st.obj d d (.row e s 0 true f)).sl,setObj id (.mp t [(k,some d)] rs) (st.obj d d (.row e s 0 true f)).heap,(st.obj d d (.row e s 0 true f)).back,(st.obj d d (.row e s 0 true f)).base⟩:=by
 intro g N bs ρ a w u R hc
 have R1:Rel g N bs (dD ρ d (.slice none 0 0)) a w (st.obj d d (.row e s 0 true f)):=by
  refine R.obj d d R.below (Nat.le_refl _) (fun _ _ _=>rfl) (fun b hb=>by cases hb) (fun _=>?_)
  exact⟨[],by simpa[aC,dD]using World.ownsRow_nil w _ e s,hs,fun i hi=>absurd hi (by omega),(fun _ x hx=>by cases hx),aI.nil⟩
 have ho:=R1.objs _ (ay hf)
 have hd:dD ρ d (.slice none 0 0) d= .slice none 0 0:=by simp[dD]
 obtain⟨b,es,c,vs,hs',e',_⟩:=ho
 have e':dD ρ d (.slice none 0 0) id=_:=e'
 obtain⟨vs',rfl,hvs'⟩: ∃us:List Value,u= .tuple us.toArray∧aI _ [] us:=hc
 refine⟨_,R1.write hf (b:=b) (by rw[e'];exact List.mem_cons_self) (Below.refl _ _) rfl (fun _ _=>rfl) (fun hk' hm=>?_),vs',rfl,hvs'.1,fun i x u hx=>by simp at hx⟩
 exact bn.same (X:=aC g w (dD ρ d (.slice none 0 0)) (st.obj d d (.row e s 0 true f)).heap) (Y:=aC g w (dD ρ d (.slice none 0 0)) (setObj id (.mp t [(k,some d)] rs) (st.obj d d (.row e s 0 true f)).heap)) hk' hm rfl (fun _ _=>rfl) (adn hd hk (R1.objs _ (ay hf)))
def stB (d:Int) (m:AV) (n:Int):AO:= .box 171 [.v (.int .u32 d),.v (.int .i32 0),.v (.int .u32 0),m,.v (.int .i64 n)]
def rwE (l:List Ev):RW:=⟨42,12,l.length,true,dX l⟩
abbrev jo:TypeId:=155
def fF (kv:List (ByteArray×List Ev)):List (ByteArray×RW):=kv.map fun p=>(p.1,rwE p.2)
theorem Ku (kv:List (ByteArray×List Ev)):(fF kv).map (·.1)=kv.map (·.1):=by simp[fF,Function.comp_def]
def nR:List (ByteArray×List Ev)→ByteArray→List Ev
  |[],_=>[]
  |p::l,k=>if p.1=k then p.2 else nR l k
structure KV (K:ByteArray→List Ev) (m:Nat) (kv:List (ByteArray×List Ev)):Prop where
 nd:(kv.map (·.1)).Nodup
 eq: ∀k,K k=nR kv k
 ln:kv.length≤m
 ky: ∀p∈kv,p.1.size≤9223372036854775807
inductive aco (K:ByteArray→List Ev) (m:Nat):Type where
  |new (h: ∀k,K k=[])
  |old (kv:List (ByteArray×List Ev)) (h:KV K m kv)
def sW (K:ByteArray→List Ev) (n:Int) (m:Nat):aco K m→List (Nat×AO)
  | .new _=>[(0,stB 0 (.v (.map none)) n)]
  | .old kv _=>[(0,stB 1 (.own 1) n),(1,.mp jo [] (fF kv))]
def vw (K:ByteArray→List Ev) (n:Int) (m:Nat):OB:=OB.pack (sW K n m)
inductive ael (K:ByteArray→List Ev) (m:Nat) (k:ByteArray):Type where
  |new (h: ∀k,K k=[])
  |old (kv:List (ByteArray×List Ev)) (hn:(kv.map (·.1)).Nodup) (hk:k ∉ kv.map (·.1)) (he: ∀q,q≠k→K q=nR kv q) (hm:kv.length≤m) (hky: ∀p∈kv,p.1.size≤9223372036854775807)
def RX (K:ByteArray→List Ev) (n:Int) (m:Nat) (k:ByteArray):ael K m k→List (Nat×AO)
  | .new _=>[(0,stB 0 (.v (.map none)) n)]
  | .old kv _ _ _ _ _=>[(0,stB 1 (.own 1) n),(1,.mp jo [(k,some 2)] (fF kv)),(2,jM (K k))]
theorem yD: ∀ {kv:List (ByteArray×List Ev)} {k:ByteArray},k∈kv.map (·.1)→ ∃pre l post,kv=pre++(k,l)::post∧k ∉ pre.map (·.1)
  |[],_,h=>by cases h
  | (q,l)::kv,k,h=>by
    by_cases e:q=k
    · subst e;exact⟨[],l,kv,rfl,by simp⟩
    · have:k∈kv.map (·.1):=by
       rcases List.mem_cons.1 h with h|h
       · exact absurd h.symm e
       · exact h
      obtain⟨pre,l',post,rfl,hn⟩:=yD this
      exact⟨(q,l)::pre,l',post,rfl,by simp only[List.map_cons,List.mem_cons,not_or];exact⟨fun h=>e h.symm,hn⟩⟩
theorem zS: ∀ {kv:List (ByteArray×List Ev)} {k:ByteArray},k ∉ kv.map (·.1)→nR kv k=[]
  |[],_,_=>rfl
  | (q,l)::kv,k,h=>by
    simp only[List.map_cons,List.mem_cons,not_or]at h
    simp only[nR]
    rw[if_neg (fun e=>h.1 e.symm)]
    exact zS h.2
theorem yE: ∀ {pre post:List (ByteArray×List Ev)} {k:ByteArray},k ∉ pre.map (·.1)→nR (pre++post) k=nR post k
  |[],_,_,_=>rfl
  | (q,l)::pre,post,k,h=>by
    simp only[List.map_cons,List.mem_cons,not_or]at h
    simp only[List.cons_append,nR]
    rw[if_neg (fun e=>h.1 e.symm)]
    exact yE h.2
theorem Dz {k:ByteArray} {l:List Ev}: ∀ {pre post:List (ByteArray×List Ev)} {q:ByteArray},q≠k→nR (pre++(k,l)::post) q=nR (pre++post) q
  |[],_,q,h=>by simp only[List.nil_append,nR];rw[if_neg (fun e=>h e.symm)]
  | (p,m)::pre,post,q,h=>by
    simp only[List.cons_append,nR]
    rw[Dz h]
theorem PL (K:ByteArray→List Ev) (n:Int) (m:Nat) (k:ByteArray):Opens (vw K n m) 0 (RX K n m k):=by
 refine(Opens.pack (sW K n m)).imp fun X y hnd hok=>?_
 cases y with
 |new h=>exact⟨.new h,X.ρ,rfl,.refl _,hok⟩
 | old kv h=>
   have h0:=hok (0,stB 1 (.own 1) n) List.mem_cons_self
   have h1:=hok (1,.mp jo [] (fF kv)) (List.mem_cons_of_mem _ List.mem_cons_self)
   have box: ∀ (ρ':Nat→Value),ρ' 0=X.ρ 0→eP (ρ' 1)=eP (X.ρ 1)→bn ⟨X.w,X.keep,ρ'⟩ 0 (stB 1 (.own 1) n):=by
    intro ρ' e0 e1
    obtain⟨b,us,e,hh,ha⟩:=h0
    refine⟨b,us,e0.trans e,hh,ha.1,fun i x u hx hu=>?_⟩
    have:=ha.2 i x u hx hu
    exact C0.nD (X:=X) (Y:=⟨X.w,X.keep,ρ'⟩) (q:=fun _=>false) (j:=1) (fun _ h=>h) rfl (fun _ h=>by cases h) e1 (by
     have hm:=List.mem_of_getElem? hx
     simp only[List.mem_cons,List.not_mem_nil,or_false]at hm
     rcases hm with rfl|rfl|rfl|rfl|rfl<;>rfl) this
   by_cases hk:k∈kv.map (·.1)
   · obtain⟨pre,l,post,rfl,hpre⟩:=yD hk
     have hK:K k=l:=by rw[h.eq,yE hpre];simp[nR]
     have hm:fF (pre++(k,l)::post)=fF pre++(k,rwE l)::fF post:=by simp[fF]
     rw[hm]at h1
     obtain⟨u,v,hu,hp,g1,g2⟩:=ZC (i:=1) (j:=2) (by decide) h1
     have hnd':=h.nd
     rw[List.map_append,List.map_cons]at hnd'
     have RY:=(List.perm_middle.nodup_iff).1 hnd'
     rw[←List.map_append]at RY
     refine⟨.old (pre++post) (List.nodup_cons.1 RY).2 (List.nodup_cons.1 RY).1 (fun q hq=>by rw[h.eq,Dz hq]) (by have:=h.ln;simp at this⊢;omega) (fun p hp=>h.ky p (by rcases List.mem_append.1 hp with hp|hp<;>simp[hp])),re2 X.ρ 1 u 2 v,by simp[re2], ?_, ?_⟩
     · show(ah (re2 X.ρ 1 u 2 v) [(0,stB 1 (.own 1) n),(1,.mp jo [(k,some 2)] (fF (pre++post))),(2,jM (K k))]).Perm (ah X.ρ [(0,stB 1 (.own 1) n),(1,.mp jo [] (fF (pre++(k,l)::post)))])
       simp only[aX]
       rw[show re2 X.ρ 1 u 2 v 0=X.ρ 0 from rfl,show re2 X.ρ 1 u 2 v 1=u from rfl,show re2 X.ρ 1 u 2 v 2=v from rfl]
       refine List.Perm.append_left _ ?_
       rw[←List.append_assoc]
       exact hp.append_right _
     · intro p hp'
       simp only[RX,List.mem_cons,List.not_mem_nil,or_false]at hp'
       rcases hp' with rfl|rfl|rfl
       · exact box _ rfl hu
       · have:fF (pre++post)=fF pre++fF post:=by simp[fF]
         rw[this];exact g1
       · rw[hK];exact g2
   · refine⟨.old kv h.nd hk (fun q _=>h.eq q) h.ln h.ky,re2 X.ρ 1 (X.ρ 1) 2 (.slice none 0 0),by simp[re2], ?_, ?_⟩
     · show(ah (re2 X.ρ 1 (X.ρ 1) 2 (.slice none 0 0)) [(0,stB 1 (.own 1) n),(1,.mp jo [(k,some 2)] (fF kv)),(2,jM (K k))]).Perm (ah X.ρ [(0,stB 1 (.own 1) n),(1,.mp jo [] (fF kv))])
       simp only[aX]
       exact .refl _
     · intro p hp'
       simp only[RX,List.mem_cons,List.not_mem_nil,or_false]at hp'
       rcases hp' with rfl|rfl|rfl
       · exact box _ rfl rfl
       · exact ZE (i:=1) (by decide) (by rw[Ku];exact hk) h1
       · rw[h.eq,zS hk]
         exact⟨[],World.ownsRow_nil _ _ _ _,by decide,fun i hi=>absurd hi (by simp),fun _ x hx=>absurd hx (by simp[flat]),aI.nil⟩
theorem MO {X:CX} {t:TypeId} {cs:List AV} (h:bn X 0 (.box t cs)):(eP (X.ρ 0)).oneCell'=true:=by
 obtain⟨b,us,e,_⟩:=h
 rw[e];rfl
theorem Kv (K:ByteArray→List Ev) (n:Int) (m:Nat) (h: ∀k,K k=[]):Closes [(0,stB 0 (.v (.map none)) n)] 0 (vw K n m):=
 Closes.pack (sW K n m) (.new h) rfl fun _ hok=>MO (hok _ List.mem_cons_self)
theorem BM (K':ByteArray→List Ev) (n:Int) (m:Nat) (j:Nat) (_hj:2≤j) (k:ByteArray) (l:List Ev) (kv:List (ByteArray×List Ev)) (hn:(kv.map (·.1)).Nodup) (hk:k ∉ kv.map (·.1)) (he: ∀q,q≠k→K' q=nR kv q) (hl:K' k=l) (hm:kv.length+1≤m) (hky: ∀p∈kv,p.1.size≤9223372036854775807) (hks:k.size≤9223372036854775807):
  Closes [(0,stB 1 (.own 1) n),(1,.mp jo [(k,some j)] (fF kv)),(j,jM l)] 0 (vw K' n m):=by
 have hkv:KV K' m ((k,l)::kv):=⟨List.nodup_cons.2 ⟨hk,hn⟩,fun q=>by
  simp only[nR]
  split
  · rename_i e;rw[←e];exact hl
  · rename_i e;exact he q (fun h=>e h.symm),by simpa using hm,fun p hp=>by
  rcases List.mem_cons.1 hp with rfl|hp
  · exact hks
  · exact hky p hp⟩
 refine(Closes.pack (sW K' n m) (.old ((k,l)::kv) hkv) rfl fun X hok=>MO (hok _ List.mem_cons_self)).imp fun X hnd hok=>?_
 have h0:=hok (0,stB 1 (.own 1) n) List.mem_cons_self
 have h1:=hok (1,.mp jo [(k,some j)] (fF kv)) (List.mem_cons_of_mem _ List.mem_cons_self)
 have h2:=hok (j,jM l) (List.mem_cons_of_mem _ (List.mem_cons_of_mem _ List.mem_cons_self))
 obtain⟨u,hu,hp,g1⟩:=acn h1 h2
 have hsub:(ah (re2 X.ρ 1 u 1 u) [(0,stB 1 (.own 1) n),(1,.mp jo [] (fF ((k,l)::kv)))]).Perm (ah X.ρ [(0,stB 1 (.own 1) n),(1,.mp jo [(k,some j)] (fF kv)),(j,jM l)]):=by
  simp only[aX]
  rw[show re2 X.ρ 1 u 1 u 0=X.ρ 0 from rfl,show re2 X.ρ 1 u 1 u 1=u from rfl]
  refine List.Perm.append_left _ ?_
  rw[←List.append_assoc]
  exact hp.append_right _
 refine⟨re2 X.ρ 1 u 1 u,rfl,hsub.nodup_iff.2 hnd,fun b hb=>hsub.mem_iff.1 hb,fun p hp'=>?_⟩
 simp only[sW,List.mem_cons,List.not_mem_nil,or_false]at hp'
 rcases hp' with rfl|rfl
 · obtain⟨b,us,e,hh,ha⟩:=h0
   refine⟨b,us,e,hh,ha.1,fun i x v hx hv=>?_⟩
   have:=ha.2 i x v hx hv
   exact C0.nD (X:=X) (Y:=⟨X.w,X.keep,re2 X.ρ 1 u 1 u⟩) (q:=fun _=>false) (j:=1) (fun _ h=>h) rfl (fun _ h=>by cases h) hu (by
    have hm:=List.mem_of_getElem? hx
    simp only[List.mem_cons,List.not_mem_nil,or_false]at hm
    rcases hm with rfl|rfl|rfl|rfl|rfl<;>rfl) this
 · exact g1
end
section
open Go.RowKit
theorem xK.leR {σ:List (Nat×Nat)} {st S:AS} (h:dL σ st S):xK st S:=fun _ _ _ _ _ _ R=>R.N8 h
theorem Ic {q:Nat→Bool} {j:Nat}: ∀ {l:List (Nat×AV)} (t:Nat),(l.all fun p=>kG q j p.2)=true→kG q j (qW l t)=true
  |[],_,_=>rfl
  | p::l,t,h=>by
    simp only[List.all_cons,Bool.and_eq_true]at h
    simp only[qW]
    cases Nat.beq t p.1 with
    |true=>exact h.1
    |false=>exact Ic t h.2
theorem Kw {X Y:CX} {q:Nat→Bool} {j:Nat} (hk: ∀b,X.keep b→Y.keep b) (hm:Y.w=X.w) (hρ: ∀i,q i=true→Y.ρ i=X.ρ i) (hj:eP (Y.ρ j)=eP (X.ρ j)):
  ∀ {fs:List (List (Nat×AV))} {bs:List (Array Value)},(fs.all fun f=>f.all fun p=>kG q j p.2)=true→lZ X fs bs→lZ Y fs bs
  |[],[],_,_=>trivial
  | _::_,_::_,h,k=>by
    simp only[List.all_cons,Bool.and_eq_true]at h
    exact⟨fun t=>C2.nD hk hm hρ hj (Ic t h.1) (k.1 t),Kw hk hm hρ hj h.2 k.2⟩
  |[],_::_,_,k=>k.elim
  |_::_,[],_,k=>k.elim
theorem xK.QB {st S:AS} (q:Nat→Bool) (j:Nat) (hsl:S.sl=st.sl) (hbk:S.back=st.back) (h1:(st.sl.all fun p=>kG q j p.2)=true) (h2:(st.back.all fun f=>f.all fun p=>kG q j p.2)=true)
  (h: ∀X:CX,(ah X.ρ st.heap).Nodup→(∀p∈st.heap,bn X p.1 p.2)→ ∃ρ':Nat→Value,(∀i,q i=true→ρ' i=X.ρ i)∧eP (ρ' j)=eP (X.ρ j)∧(ah ρ' S.heap).Nodup∧(∀b∈ah ρ' S.heap,b∈ah X.ρ st.heap)∧ ∀p∈S.heap,bn ⟨X.w,X.keep,ρ'⟩ p.1 p.2):xK st S:=by
 intro g N bs ρ a w R
 obtain⟨ρ',g1,g2,gn,g3,g4⟩:=h (aC g w ρ st.heap) R.apart R.objs
 have hk: ∀b,aK g w ρ st.heap b→aK g w ρ' S.heap b:=fun b hb=>⟨hb.1,hb.2.1,fun h=>hb.2.2 (g3 b h)⟩
 refine⟨ρ',R.size,R.defers,R.below,fun t=>?_,fun p hp=>?_,gn,fun b hb=>R.own b (g3 b hb), ?_⟩
 · show C2 _ (qW S.sl t) _
   rw[hsl]
   exact C2.nD (X:=aC g w ρ st.heap) (Y:=aC g w ρ' S.heap) hk rfl g1 g2 (Ic t h1) (R.tmps t)
 · have:=g4 p hp
   exact bn.same (X:=⟨w,aK g w ρ st.heap,ρ'⟩) (Y:=aC g w ρ' S.heap) hk (fun _ _=>rfl) rfl (fun _ _=>rfl) this
 · rw[hbk]
   exact Kw (X:=aC g w ρ st.heap) (Y:=aC g w ρ' S.heap) hk rfl g1 g2 h2 R.back
theorem xK.ado {st S:AS} (q:Nat→Bool) (j:Nat) (hsl:S.sl=st.sl) (hbk:S.back=st.back) (h1:(st.sl.all fun p=>kG q j p.2)=true) (h2:(st.back.all fun f=>f.all fun p=>kG q j p.2)=true)
  (h: ∀X:CX,(ah X.ρ st.heap).Nodup→(∀p∈st.heap,bn X p.1 p.2)→ ∃ρ':Nat→Value,(∀i,q i=true→ρ' i=X.ρ i)∧eP (ρ' j)=eP (X.ρ j)∧(ah ρ' S.heap).Perm (ah X.ρ st.heap)∧ ∀p∈S.heap,bn ⟨X.w,X.keep,ρ'⟩ p.1 p.2):xK st S:=
 xK.QB q j hsl hbk h1 h2 fun X hn ho=>by
  obtain⟨ρ',g1,g2,g3,g4⟩:=h X hn ho
  exact⟨ρ',g1,g2,g3.nodup_iff.2 hn,fun b hb=>g3.mem_iff.1 hb,g4⟩
def rowA:AO→Bool
  | .row .. =>true
  |_=>false
def n12 (i:Nat):Bool:= !(Nat.beq i 1)&& !(Nat.beq i 2)
theorem PN {X:CX} {p:Nat×AO} {ρ':Nat→Value} (hp:rowA p.2=true) (hρ:ρ' p.1=X.ρ p.1) (h:bn X p.1 p.2):bn ⟨X.w,X.keep,ρ'⟩ p.1 p.2:=by
 obtain⟨i,o⟩:=p
 cases o with
 | row e s n sc f=>
   show oQ _ (ρ' i) e s n sc f
   rw[show ρ' i=X.ρ i from hρ]
   exact oQ.mono (X:=X) (Y:=⟨X.w,X.keep,ρ'⟩) (fun _ h=>h) (fun _ _=>rfl) (fun _ _=>rfl) h
 |_=>cases hp
theorem RZ {X:CX} {p:Nat×AO} {ρ':Nat→Value} (hp:(rowA p.2&&n12 p.1)=true) (hρ: ∀i,n12 i=true→ρ' i=X.ρ i) (h:bn X p.1 p.2):bn ⟨X.w,X.keep,ρ'⟩ p.1 p.2:=by
 simp only[Bool.and_eq_true]at hp
 exact PN hp.1 (hρ _ hp.2) h
theorem xK.cls {sl:List (Nat×AV)} {back:List (List (Nat×AV))} {b:Nat} {hs' H:List (Nat×AO)} {o:OB} (hC:Closes hs' 0 o)
  (h1:(sl.all fun p=>kG (fun i=>gG i H) 0 p.2)=true) (h2:(back.all fun f=>f.all fun p=>kG (fun i=>gG i H) 0 p.2)=true) (hH:(H.all fun p=>rowA p.2)=true) (h0:gG 0 H=false):
  xK ⟨sl,hs'++H,back,b⟩ ⟨sl,(0,.obs o)::H,back,b⟩:=by
 refine xK.QB (fun i=>gG i H) 0 rfl rfl h1 h2 fun X hnd hok=>?_
 dsimp only at hnd hok⊢
 rw[gV,List.nodup_append]at hnd
 obtain⟨us,a1,a2,a3⟩:=hC X.w X.keep X.ρ hnd.1 fun p hp=>hok p (List.mem_append_left _ hp)
 have hne: ∀i,gG i H=true→(if i=0 then Value.tuple us else X.ρ i)=X.ρ i:=fun i hi=>by
  have:i≠0:=by rintro rfl;rw[h0]at hi;cases hi
  rw[if_neg this]
 have hb:ah (fun i=>if i=0 then Value.tuple us else X.ρ i) ((0,.obs o)::H)=blks (.tuple us)++ah X.ρ H:=by
  rw[aX,jy fun p hp=>hne p.1 (fH.2 ⟨p,hp,rfl⟩)]
  rfl
 refine⟨fun i=>if i=0 then .tuple us else X.ρ i,hne,a2, ?_,fun b hb'=>?_,fun p hp=>?_⟩
 · rw[hb,List.nodup_append]
   exact⟨(o.lt a1).2.2,hnd.2.1,fun a ha c hc=>hnd.2.2 a (a3 a ha) c hc⟩
 · rw[hb]at hb'
   rw[gV]
   exact(List.mem_append.1 hb').elim (fun h=>List.mem_append_left _ (a3 b h)) (fun h=>List.mem_append_right _ h)
 · rcases List.mem_cons.1 hp with rfl|hp
   · exact⟨us,rfl,a1⟩
   · exact PN (List.all_eq_true.1 hH p hp) (hne p.1 (fH.2 ⟨p,hp,rfl⟩)) (hok p (List.mem_append_right _ hp))
theorem Closes.obs (o:OB):Closes [(0,.obs o)] 0 o:=by
 intro w k ρ hnd hok
 obtain⟨us,e,hR⟩:=hok _ List.mem_cons_self
 have e:ρ 0= .tuple us:=e
 have hR:o.R w k (ρ 0):=hR
 rw[e]at hR
 exact⟨us,hR,by show _=eP (ρ 0);rw[e],fun b hb=>aQ.2 ⟨_,List.mem_cons_self,by show b∈blks (ρ 0);rw[e];exact hb⟩⟩
theorem MP (ρ:Nat→Value) (u v:Value) (i:Nat) (h:n12 i=true):re2 ρ 1 u 2 v i=ρ i:=by
 simp only[n12,Bool.and_eq_true,Bool.not_eq_true']at h
 have h1:i≠1:=fun e=>by rw[e]at h;simp at h
 have h2:i≠2:=fun e=>by rw[e]at h;simp at h
 simp[re2,h1,h2]
theorem yF (ρ:Nat→Value) (u v:Value) (i:Nat) (h:n12 i=true):re2 ρ 1 u 1 v i=ρ i:=by
 simp only[n12,Bool.and_eq_true,Bool.not_eq_true']at h
 have h1:i≠1:=fun e=>by rw[e]at h;simp at h
 simp[re2,h1]
theorem zT {ρ ρ':Nat→Value} {H:List (Nat×AO)} (hH:(H.all fun p=>rowA p.2&&n12 p.1)=true) (hρ: ∀i,n12 i=true→ρ' i=ρ i):ah ρ' H=ah ρ H:=
 jy fun p hp=>hρ _ (by
  have:=List.all_eq_true.1 hH p hp
  simp only[Bool.and_eq_true]at this
  exact this.2)
theorem Si {X:CX} {n:Int} {ρ':Nat→Value} (e0:ρ' 0=X.ρ 0) (e1:eP (ρ' 1)=eP (X.ρ 1)) (h0:bn X 0 (stB 1 (.own 1) n)):bn ⟨X.w,X.keep,ρ'⟩ 0 (stB 1 (.own 1) n):=by
 obtain⟨b,us,e,hh,ha⟩:=h0
 refine⟨b,us,e0.trans e,hh,ha.1,fun i x u hx hu=>?_⟩
 have:=ha.2 i x u hx hu
 exact C0.nD (X:=X) (Y:=⟨X.w,X.keep,ρ'⟩) (q:=fun _=>false) (j:=1) (fun _ h=>h) rfl (fun _ h=>by cases h) e1 (by
  have hm:=List.mem_of_getElem? hx
  simp only[List.mem_cons,List.not_mem_nil,or_false]at hm
  rcases hm with rfl|rfl|rfl|rfl|rfl<;>rfl) this
theorem PO {sl:List (Nat×AV)} {back:List (List (Nat×AV))} {b:Nat} {n:Int} {k:ByteArray} {l:List Ev} {pre post:List (ByteArray×List Ev)} {H:List (Nat×AO)}
  (h1:(sl.all fun p=>kG n12 1 p.2)=true) (h2:(back.all fun f=>f.all fun p=>kG n12 1 p.2)=true) (hH:(H.all fun p=>rowA p.2&&n12 p.1)=true):
  xK ⟨sl,(0,stB 1 (.own 1) n)::(1,.mp jo [] (fF (pre++(k,l)::post)))::H,back,b⟩ ⟨sl,(0,stB 1 (.own 1) n)::(1,.mp jo [(k,some 2)] (fF (pre++post)))::(2,jM l)::H,back,b⟩:=by
 refine xK.ado n12 1 rfl rfl h1 h2 fun X hnd hok=>?_
 have g0:=hok (0,stB 1 (.own 1) n) List.mem_cons_self
 have g1:=hok (1,.mp jo [] (fF (pre++(k,l)::post))) (List.mem_cons_of_mem _ List.mem_cons_self)
 rw[show fF (pre++(k,l)::post)=fF pre++(k,rwE l)::fF post by simp[fF]]at g1
 obtain⟨u,v,hu,hp,a1,a2⟩:=ZC (i:=1) (j:=2) (by decide) g1
 refine⟨re2 X.ρ 1 u 2 v,MP X.ρ u v,hu, ?_,fun p hp'=>?_⟩
 · simp only[aX]
   rw[show re2 X.ρ 1 u 2 v 0=X.ρ 0 from rfl,show re2 X.ρ 1 u 2 v 1=u from rfl,show re2 X.ρ 1 u 2 v 2=v from rfl,zT hH (MP X.ρ u v)]
   refine List.Perm.append_left _ ?_
   rw[←List.append_assoc]
   exact hp.append_right _
 · simp only[List.mem_cons]at hp'
   rcases hp' with rfl|rfl|rfl|hp'
   · exact Si rfl hu g0
   · rw[show fF (pre++post)=fF pre++fF post by simp[fF]];exact a1
   · exact a2
   · exact RZ (List.all_eq_true.1 hH p hp') (MP X.ρ u v) (hok p (List.mem_cons_of_mem _ (List.mem_cons_of_mem _ hp')))
theorem Ky {sl:List (Nat×AV)} {back:List (List (Nat×AV))} {b:Nat} {n:Int} {k:ByteArray} {l:List Ev} {kv:List (ByteArray×List Ev)} {H:List (Nat×AO)}
  (h1:(sl.all fun p=>kG n12 1 p.2)=true) (h2:(back.all fun f=>f.all fun p=>kG n12 1 p.2)=true) (hH:(H.all fun p=>rowA p.2&&n12 p.1)=true):
  xK ⟨sl,(0,stB 1 (.own 1) n)::(1,.mp jo [(k,some 2)] (fF kv))::(2,jM l)::H,back,b⟩ ⟨sl,(0,stB 1 (.own 1) n)::(1,.mp jo [] (fF ((k,l)::kv)))::H,back,b⟩:=by
 refine xK.ado n12 1 rfl rfl h1 h2 fun X hnd hok=>?_
 have g0:=hok (0,stB 1 (.own 1) n) List.mem_cons_self
 have g1:=hok (1,.mp jo [(k,some 2)] (fF kv)) (List.mem_cons_of_mem _ List.mem_cons_self)
 have g2:=hok (2,jM l) (List.mem_cons_of_mem _ (List.mem_cons_of_mem _ List.mem_cons_self))
 obtain⟨u,hu,hp,a1⟩:=acn g1 g2
 refine⟨re2 X.ρ 1 u 1 u,yF X.ρ u u,hu, ?_,fun p hp'=>?_⟩
 · simp only[aX]
   rw[show re2 X.ρ 1 u 1 u 0=X.ρ 0 from rfl,show re2 X.ρ 1 u 1 u 1=u from rfl,zT hH (yF X.ρ u u)]
   refine List.Perm.append_left _ ?_
   rw[←List.append_assoc]
   exact hp.append_right _
 · simp only[List.mem_cons]at hp'
   rcases hp' with rfl|rfl|hp'
   · exact Si rfl hu g0
   · exact a1
   · exact RZ (List.all_eq_true.1 hH p hp') (yF X.ρ u u) (hok p (List.mem_cons_of_mem _ (List.mem_cons_of_mem _ (List.mem_cons_of_mem _ hp'))))
theorem ZF {X:CX} {rs' rs:List (ByteArray×RW)} (hp:rs'.Perm rs): ∀ {hs':List Value},jv X rs' hs'→ ∃hs,jv X rs hs∧(lG (rs.map (·.1)) hs).Perm (lG (rs'.map (·.1)) hs')∧(hs.flatMap jm).Perm (hs'.flatMap jm):=by
 induction hp with
 |nil=>exact fun{hs'} h=>⟨hs',h,.refl _,.refl _⟩
 | cons p _ ih=>
   intro hs' h
   obtain⟨v,q,rfl,hr,hq⟩: ∃v q,hs'=v::q∧_∧_:=h
   obtain⟨hs,h1,h2,h3⟩:=ih hq
   refine⟨v::hs,⟨v,hs,rfl,hr,h1⟩, ?_, ?_⟩
   · simp only[List.map_cons,kJ]
     exact h2.append_left _
   · simp only[List.flatMap_cons]
     exact h3.append_left _
 | swap p q l=>
   intro hs' h
   obtain⟨v,r,rfl,hr,u,t,rfl,hu,ht⟩: ∃v r,hs'=v::r∧_∧ ∃u t,r=u::t∧_∧_:=h
   refine⟨u::v::t,⟨u,v::t,rfl,hu,v,t,rfl,hr,ht⟩, ?_, ?_⟩
   · simp only[List.map_cons,kJ,←List.append_assoc]
     exact List.perm_append_comm.append_right _
   · simp only[List.flatMap_cons,←List.append_assoc]
     exact List.perm_append_comm.append_right _
 | trans _ _ ih1 ih2=>
   intro hs' h
   obtain⟨h1,a1,a2,a3⟩:=ih1 h
   obtain⟨h2,b1,b2,b3⟩:=ih2 a1
   exact⟨h2,b1,b2.trans a2,b3.trans a3⟩
theorem ZG {sl:List (Nat×AV)} {back:List (List (Nat×AV))} {b:Nat} {n:Int} {kv kv':List (ByteArray×List Ev)} {H:List (Nat×AO)} (hp:kv.Perm kv')
  (h1:(sl.all fun p=>kG n12 1 p.2)=true) (h2:(back.all fun f=>f.all fun p=>kG n12 1 p.2)=true) (hH:(H.all fun p=>rowA p.2&&n12 p.1)=true):
  xK ⟨sl,(0,stB 1 (.own 1) n)::(1,.mp jo [] (fF kv))::H,back,b⟩ ⟨sl,(0,stB 1 (.own 1) n)::(1,.mp jo [] (fF kv'))::H,back,b⟩:=by
 refine xK.ado n12 1 rfl rfl h1 h2 fun X hnd hok=>?_
 have g0:=hok (0,stB 1 (.own 1) n) List.mem_cons_self
 obtain⟨c,es,cl,vs,hs,e,hh,hi,hr,hpe,hn,hst⟩:=hok (1,.mp jo [] (fF kv)) (List.mem_cons_of_mem _ List.mem_cons_self)
 have e:X.ρ 1=_:=e
 have hvs:vs=[]:=hi
 subst hvs
 have hpr:(fF kv).Perm (fF kv'):=hp.map _
 obtain⟨hs2,a1,a2,a3⟩:=ZF hpr hr
 simp only[List.map_nil,List.nil_append]at hpe hn
 obtain⟨u,eu⟩: ∃u:Value,u= .tuple (.map (some c):: .map (some c)::hs2).toArray:=⟨_,rfl⟩
 have hu:eP u=eP (X.ρ 1):=by rw[e,eu];rfl
 refine⟨re2 X.ρ 1 u 1 u,yF X.ρ u u,hu, ?_,fun p hp'=>?_⟩
 · simp only[aX]
   rw[show re2 X.ρ 1 u 1 u 0=X.ρ 0 from rfl,show re2 X.ρ 1 u 1 u 1=u from rfl,zT hH (yF X.ρ u u)]
   refine List.Perm.append_left _ (List.Perm.append_right _ ?_)
   rw[e,eu,lT,lT,List.flatMap_cons,List.flatMap_cons]
   exact a3.append_left _
 · simp only[List.mem_cons]at hp'
   rcases hp' with rfl|rfl|hp'
   · exact Si rfl hu g0
   · refine⟨c,es,cl,[],hs2,eu,hh,rfl,jv.ρ (w:=X.w) (k:=X.keep) (ρ:=X.ρ) a1,hpe.trans (by simpa using a2.symm), ?_,hst⟩
     simpa using((hpr.map _).nodup_iff).1 hn
   · exact RZ (List.all_eq_true.1 hH p hp') (yF X.ρ u u) (hok p (List.mem_cons_of_mem _ (List.mem_cons_of_mem _ hp')))
structure FOK (K:ByteArray→List Ev) (m:Nat) (k:ByteArray) (ss:List ByteArray) (kv:List (ByteArray×List Ev)):Prop where
 nd:(kv.map (·.1)).Nodup
 nk:k ∉ kv.map (·.1)
 eq: ∀q,q≠k→K q=nR kv q
 ln:kv.length+1≤m
 ky: ∀p∈kv,p.1.size≤9223372036854775807
 ks:k.size≤9223372036854775807
 mem: ∀x∈ss,x=k∨x∈kv.map (·.1)
theorem FOK.close {K:ByteArray→List Ev} {m:Nat} {k:ByteArray} {ss:List ByteArray} {kv:List (ByteArray×List Ev)} (h:FOK K m k ss kv):KV K m ((k,K k)::kv)∧ ∀x∈ss,x∈((k,K k)::kv).map (·.1):=by
 refine⟨⟨List.nodup_cons.2 ⟨h.nk,h.nd⟩,fun q=>?_,h.ln,fun p hp=>?_⟩,fun x hx=>?_⟩
 · simp only[nR]
   split
   · rename_i e;rw[←e]
   · rename_i e;exact h.eq q (fun h=>e h.symm)
 · rcases List.mem_cons.1 hp with rfl|hp
   · exact h.ks
   · exact h.ky p hp
 · rcases h.mem x hx with rfl|h
   · exact List.mem_cons_self
   · exact List.mem_cons_of_mem _ h
theorem FOK.open {K:ByteArray→List Ev} {m:Nat} {k:ByteArray} {ss:List ByteArray} {kv:List (ByteArray×List Ev)} (h:KV K m kv) (hs: ∀x∈ss,x∈kv.map (·.1)) (hk:k∈kv.map (·.1)):
  ∃pre post,kv=pre++(k,K k)::post∧FOK K m k ss (pre++post):=by
 obtain⟨pre,l,post,rfl,hpre⟩:=yD hk
 have hK:K k=l:=by rw[h.eq,yE hpre];simp[nR]
 have hnd':=h.nd
 rw[List.map_append,List.map_cons]at hnd'
 have RY:=(List.perm_middle.nodup_iff).1 hnd'
 rw[←List.map_append]at RY
 refine⟨pre,post,by rw[hK],(List.nodup_cons.1 RY).2,(List.nodup_cons.1 RY).1,fun q hq=>by rw[h.eq,Dz hq],by have:=h.ln;simp at this⊢;omega,fun p hp=>h.ky p (by rcases List.mem_append.1 hp with hp|hp<;>simp[hp]),h.ky (k,l) (by simp),fun x hx=>?_⟩
 have:=hs x hx
 simp only[List.map_append,List.map_cons,List.mem_append,List.mem_cons]at this⊢
 grind
theorem ZH {K:ByteArray→List Ev} {m:Nat} {ss:List ByteArray} {sl:List (Nat×AV)} {back:List (List (Nat×AV))} {b:Nat} {n:Int} {k k':ByteArray} {kv:List (ByteArray×List Ev)} {H:List (Nat×AO)} (hf:FOK K m k ss kv) (hk:k'∈ss)
  (h1:(sl.all fun p=>kG n12 1 p.2)=true) (h2:(back.all fun f=>f.all fun p=>kG n12 1 p.2)=true) (hH:(H.all fun p=>rowA p.2&&n12 p.1)=true):
  ∃kv',FOK K m k' ss kv'∧((k,K k)::kv).Perm ((k',K k')::kv')∧xK ⟨sl,(0,stB 1 (.own 1) n)::(1,.mp jo [(k,some 2)] (fF kv))::(2,jM (K k))::H,back,b⟩ ⟨sl,(0,stB 1 (.own 1) n)::(1,.mp jo [(k',some 2)] (fF kv'))::(2,jM (K k'))::H,back,b⟩:=by
 obtain⟨c1,c2⟩:=hf.close
 obtain⟨pre,post,e,hf'⟩:=FOK.open c1 c2 (c2 k' hk)
 refine⟨pre++post,hf',by rw[e];exact List.perm_middle,(Ky h1 h2 hH).trans ?_⟩
 rw[e]
 exact PO h1 h2 hH
theorem Wp {K:ByteArray→List Ev} {m:Nat} {ss:List ByteArray} {sl:List (Nat×AV)} {back:List (List (Nat×AV))} {b:Nat} {n:Int} {k':ByteArray} {kv:List (ByteArray×List Ev)} {H:List (Nat×AO)} (hf:KV K m kv) (hs: ∀x∈ss,x∈kv.map (·.1)) (hk:k'∈ss)
  (h1:(sl.all fun p=>kG n12 1 p.2)=true) (h2:(back.all fun f=>f.all fun p=>kG n12 1 p.2)=true) (hH:(H.all fun p=>rowA p.2&&n12 p.1)=true):
  ∃kv',FOK K m k' ss kv'∧kv.Perm ((k',K k')::kv')∧xK ⟨sl,(0,stB 1 (.own 1) n)::(1,.mp jo [] (fF kv))::H,back,b⟩ ⟨sl,(0,stB 1 (.own 1) n)::(1,.mp jo [(k',some 2)] (fF kv'))::(2,jM (K k'))::H,back,b⟩:=by
 obtain⟨pre,post,e,hf'⟩:=FOK.open hf hs (hs k' hk)
 refine⟨pre++post,hf',by rw[e];exact List.perm_middle, ?_⟩
 rw[e]
 exact PO h1 h2 hH
end
end Go.Proofs.YtimhagicagdkfaaGreat
