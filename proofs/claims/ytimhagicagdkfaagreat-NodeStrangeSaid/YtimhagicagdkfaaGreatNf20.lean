/-
  Contracts of the walk:LvO,LvU.
-/
import Derived.Test.YtimhagicagdkfaaGreatNf19
import Derived.Test.YtimhagicagdkfaaGreatNf2
set_option linter.unusedVariables false
set_option linter.unusedSimpArgs false
set_option maxHeartbeats 16000000
set_option maxRecDepth 100000
namespace Go.Proofs.YtimhagicagdkfaaGreat
section
open Go.RowKit
theorem jk.split {X:CX} {k:ByteArray} {r:RW} {post:List (ByteArray×RW)}: ∀ {pre:List (ByteArray×RW)} {hs:List Value},jk X (pre++(k,r)::post) hs→ ∃hp v hq,hs=hp++v::hq∧hp.length=pre.length∧oV X v r.e r.s r.n r.sc r.f∧jk X (pre++post) (hp++hq)
  |[],_,⟨v,q,e,hr,hq⟩=>⟨[],v,q,e,rfl,hr,hq⟩
  | (_,r')::pre,_,⟨v',q,e,hr,hq⟩=>by
    obtain⟨hp,v,hq',e',hl,h1,h2⟩:=jk.split hq
    exact⟨v'::hp,v,hq',by rw[e,e'];rfl,by simp[hl],h1,v',_,rfl,hr,h2⟩
theorem jk.len {X:CX}: ∀ {rs:List (ByteArray×RW)} {hs:List Value},jk X rs hs→hs.length=rs.length
  |[],_,h=>by rw[show _=[]from h];rfl
  |_::l,_,⟨v,q,e,_,hq⟩=>by rw[e,List.length_cons,List.length_cons,jk.len hq]
theorem jk.ρ {w:World} {k:Nat→Prop} {ρ ρ':Nat→Value} {rs:List (ByteArray×RW)} {hs:List Value} (h:jk ⟨w,k,ρ⟩ rs hs):jk ⟨w,k,ρ'⟩ rs hs:=
 jk.mono (X:=⟨w,k,ρ⟩) (Y:=⟨w,k,ρ'⟩) (fun _ h=>h) (fun _ _=>rfl) (fun _ _=>rfl) h
theorem Y6 {k:ByteArray} {v:Value} {pre post:List ByteArray} {hp hq:List Value} (hl:hp.length=pre.length):(lC (pre++k::post) (hp++v::hq)).Perm (DJ k v++lC (pre++post) (hp++hq)):=by
 have h1:(pre++k::post)[pre.length]? =some k:=by simp
 have h2:(hp++v::hq)[pre.length]? =some v:=by rw[←hl];simp
 have:=zX h1 h2
 have e1:(pre++k::post).eraseIdx pre.length=pre++post:=by rw[List.eraseIdx_append_of_length_le (Nat.le_refl _)];simp
 have e2:(hp++v::hq).eraseIdx pre.length=hp++hq:=by rw[←hl,List.eraseIdx_append_of_length_le (Nat.le_refl _)];simp
 rw[e1,e2]at this
 exact this
def re2 (ρ:Nat→Value) (i:Nat) (u:Value) (j:Nat) (v:Value):Nat→Value:=fun x=>if x=i then u else if x=j then v else ρ x
theorem Y7 {X:CX} {i j:Nat} {t:TypeId} {k:ByteArray} {r:RW} {pre post:List (ByteArray×RW)} (hij:i≠j) (h:bg X i (.mp t [] (pre++(k,r)::post))):
  ∃u v,eF u=eF (X.ρ i)∧(blks u++blks v).Perm (blks (X.ρ i))∧bg ⟨X.w,X.keep,re2 X.ρ i u j v⟩ i (.mp t [(k,some j)] (pre++post))∧bg ⟨X.w,X.keep,re2 X.ρ i u j v⟩ j (.row r.e r.s r.n r.sc r.f):=by
 obtain⟨b,es,c,vs,hs,e,hh,hi,hr,hp,hn,hst⟩:=h
 have hvs:vs=[]:=hi
 subst hvs
 obtain⟨hp',v,hq,rfl,hl,hrow,hrest⟩:=hr.split
 have hbv:jF v=blks v:=by obtain⟨us,ho,_⟩:=hrow;exact En ho
 have hv:eF v=v:=by obtain⟨us,ho,_⟩:=hrow;exact gU ho
 refine⟨.tuple (.map (some b):: .map (some b)::(hp'++hq)).toArray,v,by rw[e];rfl, ?_,⟨b,es,c,[v],hp'++hq,by simp[re2],hh,⟨v,[],rfl,fun i' hi'=>by cases hi';simp[MP,re2,hij.symm,hv],rfl⟩,hrest.ρ, ?_, ?_,hst⟩, ?_⟩
 · rw[e,lI,lI,List.flatMap_cons,List.flatMap_cons,List.flatMap_append,List.flatMap_append,List.flatMap_cons,hbv]
   simp only[List.append_assoc]
   refine(List.Perm.append_left _ (List.Perm.append_left _ ?_))
   exact List.perm_append_comm
 · refine hp.trans ?_
   simp only[List.map_nil,List.nil_append,List.map_append,List.map_cons,List.cons_append]
   rw[kG]
   refine(Y6 (by simpa using hl)).trans (.of_eq ?_)
   simp
 · simp only[List.map_nil,List.nil_append,List.map_append,List.map_cons,List.cons_append]at hn⊢
   exact(List.perm_middle.nodup_iff).1 hn
 · show oV _ (re2 X.ρ i _ j v j) _ _ _ _ _
   rw[show re2 X.ρ i (.tuple (.map (some b):: .map (some b)::(hp'++hq)).toArray) j v j=v by simp[re2,hij.symm]]
   exact hrow.mono (X:=X) (fun _ h=>h) (fun _ _=>rfl) (fun _ _=>rfl)
theorem Y8 {X:CX} {i j:Nat} {t:TypeId} {k:ByteArray} {rs:List (ByteArray×RW)} (hij:i≠j) (hk:k ∉ rs.map (·.1)) (h:bg X i (.mp t [] rs)):
  bg ⟨X.w,X.keep,re2 X.ρ i (X.ρ i) j (.slice none 0 0)⟩ i (.mp t [(k,some j)] rs):=by
 obtain⟨b,es,c,vs,hs,e,hh,hi,hr,hp,hn,hst⟩:=h
 have hvs:vs=[]:=hi
 subst hvs
 refine⟨b,es,c,[.slice none 0 0],hs,by simp[re2,e],hh,⟨_,[],rfl,fun i' hi'=>by cases hi';simp[MP,re2,hij.symm,eF],rfl⟩,hr.ρ, ?_, ?_,hst⟩
 · refine hp.trans ?_
   simp only[List.map_nil,List.nil_append,List.map_cons,List.cons_append]
   rw[kG]
   exact .refl _
 · simp only[List.map_nil,List.nil_append,List.map_cons,List.cons_append]at hn⊢
   exact List.nodup_cons.2 ⟨hk,hn⟩
theorem abM {X:CX} {i j:Nat} {t:TypeId} {k:ByteArray} {rs:List (ByteArray×RW)} {e:TypeId} {s n:Nat} {sc:Bool} {f:Nat→List AV} (h:bg X i (.mp t [(k,some j)] rs)) (hr:bg X j (.row e s n sc f)):
  ∃u,eF u=eF (X.ρ i)∧(blks u).Perm (blks (X.ρ i)++blks (X.ρ j))∧bg ⟨X.w,X.keep,re2 X.ρ i u i u⟩ i (.mp t [] ((k,⟨e,s,n,sc,f⟩)::rs)):=by
 obtain⟨b,es,c,vs,hs,e',hh,hi,aeA,hp,hn,hst⟩:=h
 obtain⟨v,q,rfl,hv,hq⟩:=hi
 have hq:q=[]:=hq
 subst hq
 have hv:v=eF (X.ρ j):=hv j rfl
 rw[zL hr]at hv
 have hrow:oV X v e s n sc f:=by rw[hv];exact hr
 have hbv:jF v=blks v:=by obtain⟨us,ho,_⟩:=hrow;exact En ho
 refine⟨.tuple (.map (some b):: .map (some b)::v::hs).toArray,by rw[e'];rfl, ?_,b,es,c,[],v::hs,by simp[re2],hh,rfl,⟨v,hs,rfl,hrow.mono (X:=X) (fun _ h=>h) (fun _ _=>rfl) (fun _ _=>rfl),jk.ρ (w:=X.w) (k:=X.keep) (ρ:=X.ρ) aeA⟩,hp,hn,hst⟩
 rw[e',lI,lI,List.flatMap_cons,List.flatMap_cons,List.flatMap_cons,hbv,hv]
 simp only[List.append_assoc]
 exact(List.Perm.append_left _ List.perm_append_comm)
theorem acT {X:CX} {i j:Nat} {t:TypeId} {k:ByteArray} {rs:List (ByteArray×RW)} (hj:X.ρ j= .slice none 0 0) (hk:k ∉ rs.map (·.1)) (h:bg X i (.mp t [] rs)):bg X i (.mp t [(k,some j)] rs):=by
 obtain⟨b,es,c,vs,hs,e,hh,hi,hr,hp,hn,hst⟩:=h
 have hvs:vs=[]:=hi
 subst hvs
 refine⟨b,es,c,[.slice none 0 0],hs,e,hh,⟨_,[],rfl,fun i' hi'=>by cases hi';simp[MP,hj,eF],rfl⟩,hr, ?_, ?_,hst⟩
 · refine hp.trans ?_
   simp only[List.map_nil,List.nil_append,List.map_cons,List.cons_append]
   rw[kG]
   exact .refl _
 · simp only[List.map_nil,List.nil_append,List.map_cons,List.cons_append]at hn⊢
   exact List.nodup_cons.2 ⟨hk,hn⟩
def VE (x:AV) (st S:AS):Prop:= ∀ (g:Base) (N:Nat) (bs:List (Array Value)) (ρ:Nat→Value) (a:Act) (w:World) (u:Value),Rel g N bs ρ a w st→C2 (aC g w ρ st.heap) x u→ ∃ρ',Rel g N bs ρ' a w S∧C2 (aC g w ρ' S.heap) x u
theorem dI.thn {P:Program} {L:Lay} (hL:bM P L) {W:Walk} (hW:Ia P W) {d:Nat} {f:FuncId} {bP:List AV} {st:AS} {K:AV→AS→Prop} (hE:Enters P f) (h:dI P L W d f bP st (fun x st'=> ∃S,VE x st' S∧K x S)):dI P L W d f bP st K:=by
 refine .sem hE fun g N bs ρ a w args R hargs=> ?_
 refine((xI R hargs h (fun lv fn c hf' hnm hb hsz h'=>D5 hL hW R hargs lv fn c hf' hb hsz h')).2).mono ?_
 rintro e w' ⟨u,x,st',ρ',rfl,⟨S,hI,hK⟩,R',hc⟩
 obtain⟨Sz,R2,hc2⟩:=hI _ _ _ _ _ _ _ R' hc
 exact⟨u,x,S,Sz,rfl,hK,R2,hc2⟩
theorem VE.foc {st:AS} (id d:Nat) {t e:TypeId} {s:Nat} {f:Nat→List AV} {k:ByteArray} {rs:List (ByteArray×RW)} (hs:0<s) (hf:aO id (st.obj d d (.row e s 0 true f)).heap=some (.mp t [] rs)) (hk:k ∉ rs.map (·.1)):
  VE (.dM []) st ⟨(st.obj d d (.row e s 0 true f)).sl,setObj id (.mp t [(k,some d)] rs) (st.obj d d (.row e s 0 true f)).heap,(st.obj d d (.row e s 0 true f)).back,(st.obj d d (.row e s 0 true f)).base⟩:=by
 intro g N bs ρ a w u R hc
 have R1:Rel g N bs (dD ρ d (.slice none 0 0)) a w (st.obj d d (.row e s 0 true f)):=by
  refine R.obj d d R.below (Nat.le_refl _) (fun _ _ _=>rfl) (fun b hb=>by cases hb) (fun _=> ?_)
  exact⟨[],by simpa[aC,dD]using World.ownsRow_nil w _ e s,hs,fun i hi=>absurd hi (by omega),(fun _ x hx=>by cases hx),aI.nil⟩
 have ho:=R1.objs _ (ay hf)
 have hd:dD ρ d (.slice none 0 0) d= .slice none 0 0:=by simp[dD]
 obtain⟨b,es,c,vs,hs',e',_⟩:=ho
 have e':dD ρ d (.slice none 0 0) id=_:=e'
 obtain⟨vs',rfl,hvs'⟩: ∃us:List Value,u= .tuple us.toArray∧aI _ [] us:=hc
 refine⟨_,R1.write hf (b:=b) (by rw[e'];exact List.mem_cons_self) (Below.refl _ _) rfl (fun _ _=>rfl) (fun hk' hm=> ?_),vs',rfl,hvs'.1,fun i x u hx=>by simp at hx⟩
 exact bg.same (X:=aC g w (dD ρ d (.slice none 0 0)) (st.obj d d (.row e s 0 true f)).heap) (Y:=aC g w (dD ρ d (.slice none 0 0)) (setObj id (.mp t [(k,some d)] rs) (st.obj d d (.row e s 0 true f)).heap)) hk' hm rfl (fun _ _=>rfl) (acT hd hk (R1.objs _ (ay hf)))
def stB (d:Int) (m:AV) (n:Int):AO:= .box 171 [.v (.int .u32 d),.v (.int .i32 0),.v (.int .u32 0),m,.v (.int .i64 n)]
def rwE (l:List Ev):RW:=⟨42,12,l.length,true,dV l⟩
abbrev jg:TypeId:=155
def fB (kv:List (ByteArray×List Ev)):List (ByteArray×RW):=kv.map fun p=>(p.1,rwE p.2)
theorem JO (kv:List (ByteArray×List Ev)):(fB kv).map (·.1)=kv.map (·.1):=by simp[fB,Function.comp_def]
def nI:List (ByteArray×List Ev)→ByteArray→List Ev
  |[],_=>[]
  |p::l,k=>if p.1=k then p.2 else nI l k
structure KV (K:ByteArray→List Ev) (m:Nat) (kv:List (ByteArray×List Ev)):Prop where
 nd:(kv.map (·.1)).Nodup
 eq: ∀k,K k=nI kv k
 ln:kv.length≤m
 ky: ∀p∈kv,p.1.size≤9223372036854775807
inductive abN (K:ByteArray→List Ev) (m:Nat):Type where
  |new (h: ∀k,K k=[])
  |old (kv:List (ByteArray×List Ev)) (h:KV K m kv)
def su (K:ByteArray→List Ev) (n:Int) (m:Nat):abN K m→List (Nat×AO)
  | .new _=>[(0,stB 0 (.v (.map none)) n)]
  | .old kv _=>[(0,stB 1 (.own 1) n),(1,.mp jg [] (fB kv))]
def uS (K:ByteArray→List Ev) (n:Int) (m:Nat):OB:=OB.pack (su K n m)
inductive adW (K:ByteArray→List Ev) (m:Nat) (k:ByteArray):Type where
  |new (h: ∀k,K k=[])
  |old (kv:List (ByteArray×List Ev)) (hn:(kv.map (·.1)).Nodup) (hk:k ∉ kv.map (·.1)) (he: ∀q,q≠k→K q=nI kv q) (hm:kv.length≤m) (hky: ∀p∈kv,p.1.size≤9223372036854775807)
def Rh (K:ByteArray→List Ev) (n:Int) (m:Nat) (k:ByteArray):adW K m k→List (Nat×AO)
  | .new _=>[(0,stB 0 (.v (.map none)) n)]
  | .old kv _ _ _ _ _=>[(0,stB 1 (.own 1) n),(1,.mp jg [(k,some 2)] (fB kv)),(2,jI (K k))]
theorem yu: ∀ {kv:List (ByteArray×List Ev)} {k:ByteArray},k∈kv.map (·.1)→ ∃pre l post,kv=pre++(k,l)::post∧k ∉ pre.map (·.1)
  |[],_,h=>by cases h
  | (q,l)::kv,k,h=>by
    by_cases e:q=k
    · subst e;exact⟨[],l,kv,rfl,by simp⟩
    · have:k∈kv.map (·.1):=by
       rcases List.mem_cons.1 h with h|h
       · exact absurd h.symm e
       · exact h
      obtain⟨pre,l',post,rfl,hn⟩:=yu this
      exact⟨(q,l)::pre,l',post,rfl,by simp only[List.map_cons,List.mem_cons,not_or];exact⟨fun h=>e h.symm,hn⟩⟩
theorem zF: ∀ {kv:List (ByteArray×List Ev)} {k:ByteArray},k ∉ kv.map (·.1)→nI kv k=[]
  |[],_,_=>rfl
  | (q,l)::kv,k,h=>by
    simp only[List.map_cons,List.mem_cons,not_or]at h
    simp only[nI]
    rw[if_neg (fun e=>h.1 e.symm)]
    exact zF h.2
theorem yw: ∀ {pre post:List (ByteArray×List Ev)} {k:ByteArray},k ∉ pre.map (·.1)→nI (pre++post) k=nI post k
  |[],_,_,_=>rfl
  | (q,l)::pre,post,k,h=>by
    simp only[List.map_cons,List.mem_cons,not_or]at h
    simp only[List.cons_append,nI]
    rw[if_neg (fun e=>h.1 e.symm)]
    exact yw h.2
theorem CJ {k:ByteArray} {l:List Ev}: ∀ {pre post:List (ByteArray×List Ev)} {q:ByteArray},q≠k→nI (pre++(k,l)::post) q=nI (pre++post) q
  |[],_,q,h=>by simp only[List.nil_append,nI];rw[if_neg (fun e=>h e.symm)]
  | (p,m)::pre,post,q,h=>by
    simp only[List.cons_append,nI]
    rw[CJ h]
theorem O8 (K:ByteArray→List Ev) (n:Int) (m:Nat) (k:ByteArray):Opens (uS K n m) 0 (Rh K n m k):=by
 refine(Opens.pack (su K n m)).imp fun X y hnd hok=> ?_
 cases y with
 |new h=>exact⟨.new h,X.ρ,rfl,.refl _,hok⟩
 | old kv h=>
   have h0:=hok (0,stB 1 (.own 1) n) List.mem_cons_self
   have h1:=hok (1,.mp jg [] (fB kv)) (List.mem_cons_of_mem _ List.mem_cons_self)
   have box: ∀ (ρ':Nat→Value),ρ' 0=X.ρ 0→eF (ρ' 1)=eF (X.ρ 1)→bg ⟨X.w,X.keep,ρ'⟩ 0 (stB 1 (.own 1) n):=by
    intro ρ' e0 e1
    obtain⟨b,us,e,hh,ha⟩:=h0
    refine⟨b,us,e0.trans e,hh,ha.1,fun i x u hx hu=> ?_⟩
    have:=ha.2 i x u hx hu
    exact C0.mV (X:=X) (Y:=⟨X.w,X.keep,ρ'⟩) (q:=fun _=>false) (j:=1) (fun _ h=>h) rfl (fun _ h=>by cases h) e1 (by
     have hm:=List.mem_of_getElem? hx
     simp only[List.mem_cons,List.not_mem_nil,or_false]at hm
     rcases hm with rfl|rfl|rfl|rfl|rfl<;>rfl) this
   by_cases hk:k∈kv.map (·.1)
   · obtain⟨pre,l,post,rfl,hpre⟩:=yu hk
     have hK:K k=l:=by rw[h.eq,yw hpre];simp[nI]
     have hm:fB (pre++(k,l)::post)=fB pre++(k,rwE l)::fB post:=by simp[fB]
     rw[hm]at h1
     obtain⟨u,v,hu,hp,g1,g2⟩:=Y7 (i:=1) (j:=2) (by decide) h1
     have hnd':=h.nd
     rw[List.map_append,List.map_cons]at hnd'
     have Ri:=(List.perm_middle.nodup_iff).1 hnd'
     rw[←List.map_append]at Ri
     refine⟨.old (pre++post) (List.nodup_cons.1 Ri).2 (List.nodup_cons.1 Ri).1 (fun q hq=>by rw[h.eq,CJ hq]) (by have:=h.ln;simp at this⊢;omega) (fun p hp=>h.ky p (by rcases List.mem_append.1 hp with hp|hp<;>simp[hp])),re2 X.ρ 1 u 2 v,by simp[re2], ?_, ?_⟩
     · show(ah (re2 X.ρ 1 u 2 v) [(0,stB 1 (.own 1) n),(1,.mp jg [(k,some 2)] (fB (pre++post))),(2,jI (K k))]).Perm (ah X.ρ [(0,stB 1 (.own 1) n),(1,.mp jg [] (fB (pre++(k,l)::post)))])
       simp only[aT]
       rw[show re2 X.ρ 1 u 2 v 0=X.ρ 0 from rfl,show re2 X.ρ 1 u 2 v 1=u from rfl,show re2 X.ρ 1 u 2 v 2=v from rfl]
       refine List.Perm.append_left _ ?_
       rw[←List.append_assoc]
       exact hp.append_right _
     · intro p hp'
       simp only[Rh,List.mem_cons,List.not_mem_nil,or_false]at hp'
       rcases hp' with rfl|rfl|rfl
       · exact box _ rfl hu
       · have:fB (pre++post)=fB pre++fB post:=by simp[fB]
         rw[this];exact g1
       · rw[hK];exact g2
   · refine⟨.old kv h.nd hk (fun q _=>h.eq q) h.ln h.ky,re2 X.ρ 1 (X.ρ 1) 2 (.slice none 0 0),by simp[re2], ?_, ?_⟩
     · show(ah (re2 X.ρ 1 (X.ρ 1) 2 (.slice none 0 0)) [(0,stB 1 (.own 1) n),(1,.mp jg [(k,some 2)] (fB kv)),(2,jI (K k))]).Perm (ah X.ρ [(0,stB 1 (.own 1) n),(1,.mp jg [] (fB kv))])
       simp only[aT]
       exact .refl _
     · intro p hp'
       simp only[Rh,List.mem_cons,List.not_mem_nil,or_false]at hp'
       rcases hp' with rfl|rfl|rfl
       · exact box _ rfl rfl
       · exact Y8 (i:=1) (by decide) (by rw[JO];exact hk) h1
       · rw[h.eq,zF hk]
         exact⟨[],World.ownsRow_nil _ _ _ _,by decide,fun i hi=>absurd hi (by simp),fun _ x hx=>absurd hx (by simp[flat]),aI.nil⟩
theorem L8 {X:CX} {t:TypeId} {cs:List AV} (h:bg X 0 (.box t cs)):(eF (X.ρ 0)).oneCell'=true:=by
 obtain⟨b,us,e,_⟩:=h
 rw[e];rfl
theorem JQ (K:ByteArray→List Ev) (n:Int) (m:Nat) (h: ∀k,K k=[]):Closes [(0,stB 0 (.v (.map none)) n)] 0 (uS K n m):=
 Closes.pack (su K n m) (.new h) rfl fun _ hok=>L8 (hok _ List.mem_cons_self)
theorem Bf (K':ByteArray→List Ev) (n:Int) (m:Nat) (j:Nat) (_hj:2≤j) (k:ByteArray) (l:List Ev) (kv:List (ByteArray×List Ev)) (hn:(kv.map (·.1)).Nodup) (hk:k ∉ kv.map (·.1)) (he: ∀q,q≠k→K' q=nI kv q) (hl:K' k=l) (hm:kv.length+1≤m) (hky: ∀p∈kv,p.1.size≤9223372036854775807) (hks:k.size≤9223372036854775807):
  Closes [(0,stB 1 (.own 1) n),(1,.mp jg [(k,some j)] (fB kv)),(j,jI l)] 0 (uS K' n m):=by
 have hkv:KV K' m ((k,l)::kv):=⟨List.nodup_cons.2 ⟨hk,hn⟩,fun q=>by
  simp only[nI]
  split
  · rename_i e;rw[←e];exact hl
  · rename_i e;exact he q (fun h=>e h.symm),by simpa using hm,fun p hp=>by
  rcases List.mem_cons.1 hp with rfl|hp
  · exact hks
  · exact hky p hp⟩
 refine(Closes.pack (su K' n m) (.old ((k,l)::kv) hkv) rfl fun X hok=>L8 (hok _ List.mem_cons_self)).imp fun X hnd hok=> ?_
 have h0:=hok (0,stB 1 (.own 1) n) List.mem_cons_self
 have h1:=hok (1,.mp jg [(k,some j)] (fB kv)) (List.mem_cons_of_mem _ List.mem_cons_self)
 have h2:=hok (j,jI l) (List.mem_cons_of_mem _ (List.mem_cons_of_mem _ List.mem_cons_self))
 obtain⟨u,hu,hp,g1⟩:=abM h1 h2
 have hsub:(ah (re2 X.ρ 1 u 1 u) [(0,stB 1 (.own 1) n),(1,.mp jg [] (fB ((k,l)::kv)))]).Perm (ah X.ρ [(0,stB 1 (.own 1) n),(1,.mp jg [(k,some j)] (fB kv)),(j,jI l)]):=by
  simp only[aT]
  rw[show re2 X.ρ 1 u 1 u 0=X.ρ 0 from rfl,show re2 X.ρ 1 u 1 u 1=u from rfl]
  refine List.Perm.append_left _ ?_
  rw[←List.append_assoc]
  exact hp.append_right _
 refine⟨re2 X.ρ 1 u 1 u,rfl,hsub.nodup_iff.2 hnd,fun b hb=>hsub.mem_iff.1 hb,fun p hp'=> ?_⟩
 simp only[su,List.mem_cons,List.not_mem_nil,or_false]at hp'
 rcases hp' with rfl|rfl
 · obtain⟨b,us,e,hh,ha⟩:=h0
   refine⟨b,us,e,hh,ha.1,fun i x v hx hv=> ?_⟩
   have:=ha.2 i x v hx hv
   exact C0.mV (X:=X) (Y:=⟨X.w,X.keep,re2 X.ρ 1 u 1 u⟩) (q:=fun _=>false) (j:=1) (fun _ h=>h) rfl (fun _ h=>by cases h) hu (by
    have hm:=List.mem_of_getElem? hx
    simp only[List.mem_cons,List.not_mem_nil,or_false]at hm
    rcases hm with rfl|rfl|rfl|rfl|rfl<;>rfl) this
 · exact g1
end
section
open Go.RowKit
theorem xB.leR {σ:List (Nat×Nat)} {st S:AS} (h:dB σ st S):xB st S:=fun _ _ _ _ _ _ R=>R.NH h
theorem G6 {q:Nat→Bool} {j:Nat}: ∀ {l:List (Nat×AV)} (t:Nat),(l.all fun p=>kD q j p.2)=true→kD q j (qI l t)=true
  |[],_,_=>rfl
  | p::l,t,h=>by
    simp only[List.all_cons,Bool.and_eq_true]at h
    simp only[qI]
    cases Nat.beq t p.1 with
    |true=>exact h.1
    |false=>exact G6 t h.2
theorem JR {X Y:CX} {q:Nat→Bool} {j:Nat} (hk: ∀b,X.keep b→Y.keep b) (hm:Y.w=X.w) (hρ: ∀i,q i=true→Y.ρ i=X.ρ i) (hj:eF (Y.ρ j)=eF (X.ρ j)):
  ∀ {fs:List (List (Nat×AV))} {bs:List (Array Value)},(fs.all fun f=>f.all fun p=>kD q j p.2)=true→lS X fs bs→lS Y fs bs
  |[],[],_,_=>trivial
  | _::_,_::_,h,k=>by
    simp only[List.all_cons,Bool.and_eq_true]at h
    exact⟨fun t=>C2.mV hk hm hρ hj (G6 t h.1) (k.1 t),JR hk hm hρ hj h.2 k.2⟩
  |[],_::_,_,k=>k.elim
  |_::_,[],_,k=>k.elim
theorem xB.Qc {st S:AS} (q:Nat→Bool) (j:Nat) (hsl:S.sl=st.sl) (hbk:S.back=st.back) (h1:(st.sl.all fun p=>kD q j p.2)=true) (h2:(st.back.all fun f=>f.all fun p=>kD q j p.2)=true)
  (h: ∀X:CX,(ah X.ρ st.heap).Nodup→(∀p∈st.heap,bg X p.1 p.2)→ ∃ρ':Nat→Value,(∀i,q i=true→ρ' i=X.ρ i)∧eF (ρ' j)=eF (X.ρ j)∧(ah ρ' S.heap).Nodup∧(∀b∈ah ρ' S.heap,b∈ah X.ρ st.heap)∧ ∀p∈S.heap,bg ⟨X.w,X.keep,ρ'⟩ p.1 p.2):xB st S:=by
 intro g N bs ρ a w R
 obtain⟨ρ',g1,g2,gn,g3,g4⟩:=h (aC g w ρ st.heap) R.apart R.objs
 have hk: ∀b,aK g w ρ st.heap b→aK g w ρ' S.heap b:=fun b hb=>⟨hb.1,hb.2.1,fun h=>hb.2.2 (g3 b h)⟩
 refine⟨ρ',R.size,R.defers,R.below,fun t=> ?_,fun p hp=> ?_,gn,fun b hb=>R.own b (g3 b hb), ?_⟩
 · show C2 _ (qI S.sl t) _
   rw[hsl]
   exact C2.mV (X:=aC g w ρ st.heap) (Y:=aC g w ρ' S.heap) hk rfl g1 g2 (G6 t h1) (R.tmps t)
 · have:=g4 p hp
   exact bg.same (X:=⟨w,aK g w ρ st.heap,ρ'⟩) (Y:=aC g w ρ' S.heap) hk (fun _ _=>rfl) rfl (fun _ _=>rfl) this
 · rw[hbk]
   exact JR (X:=aC g w ρ st.heap) (Y:=aC g w ρ' S.heap) hk rfl g1 g2 h2 R.back
theorem xB.acU {st S:AS} (q:Nat→Bool) (j:Nat) (hsl:S.sl=st.sl) (hbk:S.back=st.back) (h1:(st.sl.all fun p=>kD q j p.2)=true) (h2:(st.back.all fun f=>f.all fun p=>kD q j p.2)=true)
  (h: ∀X:CX,(ah X.ρ st.heap).Nodup→(∀p∈st.heap,bg X p.1 p.2)→ ∃ρ':Nat→Value,(∀i,q i=true→ρ' i=X.ρ i)∧eF (ρ' j)=eF (X.ρ j)∧(ah ρ' S.heap).Perm (ah X.ρ st.heap)∧ ∀p∈S.heap,bg ⟨X.w,X.keep,ρ'⟩ p.1 p.2):xB st S:=
 xB.Qc q j hsl hbk h1 h2 fun X hn ho=>by
  obtain⟨ρ',g1,g2,g3,g4⟩:=h X hn ho
  exact⟨ρ',g1,g2,g3.nodup_iff.2 hn,fun b hb=>g3.mem_iff.1 hb,g4⟩
def rowA:AO→Bool
  | .row .. =>true
  |_=>false
def n12 (i:Nat):Bool:= !(Nat.beq i 1)&& !(Nat.beq i 2)
theorem O9 {X:CX} {p:Nat×AO} {ρ':Nat→Value} (hp:rowA p.2=true) (hρ:ρ' p.1=X.ρ p.1) (h:bg X p.1 p.2):bg ⟨X.w,X.keep,ρ'⟩ p.1 p.2:=by
 obtain⟨i,o⟩:=p
 cases o with
 | row e s n sc f=>
   show oV _ (ρ' i) e s n sc f
   rw[show ρ' i=X.ρ i from hρ]
   exact oV.mono (X:=X) (Y:=⟨X.w,X.keep,ρ'⟩) (fun _ h=>h) (fun _ _=>rfl) (fun _ _=>rfl) h
 |_=>cases hp
theorem Rj {X:CX} {p:Nat×AO} {ρ':Nat→Value} (hp:(rowA p.2&&n12 p.1)=true) (hρ: ∀i,n12 i=true→ρ' i=X.ρ i) (h:bg X p.1 p.2):bg ⟨X.w,X.keep,ρ'⟩ p.1 p.2:=by
 simp only[Bool.and_eq_true]at hp
 exact O9 hp.1 (hρ _ hp.2) h
theorem xB.cls {sl:List (Nat×AV)} {back:List (List (Nat×AV))} {b:Nat} {hs' H:List (Nat×AO)} {o:OB} (hC:Closes hs' 0 o)
  (h1:(sl.all fun p=>kD (fun i=>gq i H) 0 p.2)=true) (h2:(back.all fun f=>f.all fun p=>kD (fun i=>gq i H) 0 p.2)=true) (hH:(H.all fun p=>rowA p.2)=true) (h0:gq 0 H=false):
  xB ⟨sl,hs'++H,back,b⟩ ⟨sl,(0,.obs o)::H,back,b⟩:=by
 refine xB.Qc (fun i=>gq i H) 0 rfl rfl h1 h2 fun X hnd hok=> ?_
 dsimp only at hnd hok⊢
 rw[gJ,List.nodup_append]at hnd
 obtain⟨us,a1,a2,a3⟩:=hC X.w X.keep X.ρ hnd.1 fun p hp=>hok p (List.mem_append_left _ hp)
 have hne: ∀i,gq i H=true→(if i=0 then Value.tuple us else X.ρ i)=X.ρ i:=fun i hi=>by
  have:i≠0:=by rintro rfl;rw[h0]at hi;cases hi
  rw[if_neg this]
 have hb:ah (fun i=>if i=0 then Value.tuple us else X.ρ i) ((0,.obs o)::H)=blks (.tuple us)++ah X.ρ H:=by
  rw[aT,jm fun p hp=>hne p.1 (fD.2 ⟨p,hp,rfl⟩)]
  rfl
 refine⟨fun i=>if i=0 then .tuple us else X.ρ i,hne,a2, ?_,fun b hb'=> ?_,fun p hp=> ?_⟩
 · rw[hb,List.nodup_append]
   exact⟨(o.lt a1).2.2,hnd.2.1,fun a ha c hc=>hnd.2.2 a (a3 a ha) c hc⟩
 · rw[hb]at hb'
   rw[gJ]
   exact(List.mem_append.1 hb').elim (fun h=>List.mem_append_left _ (a3 b h)) (fun h=>List.mem_append_right _ h)
 · rcases List.mem_cons.1 hp with rfl|hp
   · exact⟨us,rfl,a1⟩
   · exact O9 (List.all_eq_true.1 hH p hp) (hne p.1 (fD.2 ⟨p,hp,rfl⟩)) (hok p (List.mem_append_right _ hp))
theorem Closes.obs (o:OB):Closes [(0,.obs o)] 0 o:=by
 intro w k ρ hnd hok
 obtain⟨us,e,hR⟩:=hok _ List.mem_cons_self
 have e:ρ 0= .tuple us:=e
 have hR:o.R w k (ρ 0):=hR
 rw[e]at hR
 exact⟨us,hR,by show _=eF (ρ 0);rw[e],fun b hb=>aP.2 ⟨_,List.mem_cons_self,by show b∈blks (ρ 0);rw[e];exact hb⟩⟩
theorem L9 (ρ:Nat→Value) (u v:Value) (i:Nat) (h:n12 i=true):re2 ρ 1 u 2 v i=ρ i:=by
 simp only[n12,Bool.and_eq_true,Bool.not_eq_true']at h
 have h1:i≠1:=fun e=>by rw[e]at h;simp at h
 have h2:i≠2:=fun e=>by rw[e]at h;simp at h
 simp[re2,h1,h2]
theorem yx (ρ:Nat→Value) (u v:Value) (i:Nat) (h:n12 i=true):re2 ρ 1 u 1 v i=ρ i:=by
 simp only[n12,Bool.and_eq_true,Bool.not_eq_true']at h
 have h1:i≠1:=fun e=>by rw[e]at h;simp at h
 simp[re2,h1]
theorem zG {ρ ρ':Nat→Value} {H:List (Nat×AO)} (hH:(H.all fun p=>rowA p.2&&n12 p.1)=true) (hρ: ∀i,n12 i=true→ρ' i=ρ i):ah ρ' H=ah ρ H:=
 jm fun p hp=>hρ _ (by
  have:=List.all_eq_true.1 hH p hp
  simp only[Bool.and_eq_true]at this
  exact this.2)
theorem Rk {X:CX} {n:Int} {ρ':Nat→Value} (e0:ρ' 0=X.ρ 0) (e1:eF (ρ' 1)=eF (X.ρ 1)) (h0:bg X 0 (stB 1 (.own 1) n)):bg ⟨X.w,X.keep,ρ'⟩ 0 (stB 1 (.own 1) n):=by
 obtain⟨b,us,e,hh,ha⟩:=h0
 refine⟨b,us,e0.trans e,hh,ha.1,fun i x u hx hu=> ?_⟩
 have:=ha.2 i x u hx hu
 exact C0.mV (X:=X) (Y:=⟨X.w,X.keep,ρ'⟩) (q:=fun _=>false) (j:=1) (fun _ h=>h) rfl (fun _ h=>by cases h) e1 (by
  have hm:=List.mem_of_getElem? hx
  simp only[List.mem_cons,List.not_mem_nil,or_false]at hm
  rcases hm with rfl|rfl|rfl|rfl|rfl<;>rfl) this
theorem Pg {sl:List (Nat×AV)} {back:List (List (Nat×AV))} {b:Nat} {n:Int} {k:ByteArray} {l:List Ev} {pre post:List (ByteArray×List Ev)} {H:List (Nat×AO)}
  (h1:(sl.all fun p=>kD n12 1 p.2)=true) (h2:(back.all fun f=>f.all fun p=>kD n12 1 p.2)=true) (hH:(H.all fun p=>rowA p.2&&n12 p.1)=true):
  xB ⟨sl,(0,stB 1 (.own 1) n)::(1,.mp jg [] (fB (pre++(k,l)::post)))::H,back,b⟩ ⟨sl,(0,stB 1 (.own 1) n)::(1,.mp jg [(k,some 2)] (fB (pre++post)))::(2,jI l)::H,back,b⟩:=by
 refine xB.acU n12 1 rfl rfl h1 h2 fun X hnd hok=> ?_
 have g0:=hok (0,stB 1 (.own 1) n) List.mem_cons_self
 have g1:=hok (1,.mp jg [] (fB (pre++(k,l)::post))) (List.mem_cons_of_mem _ List.mem_cons_self)
 rw[show fB (pre++(k,l)::post)=fB pre++(k,rwE l)::fB post by simp[fB]]at g1
 obtain⟨u,v,hu,hp,a1,a2⟩:=Y7 (i:=1) (j:=2) (by decide) g1
 refine⟨re2 X.ρ 1 u 2 v,L9 X.ρ u v,hu, ?_,fun p hp'=> ?_⟩
 · simp only[aT]
   rw[show re2 X.ρ 1 u 2 v 0=X.ρ 0 from rfl,show re2 X.ρ 1 u 2 v 1=u from rfl,show re2 X.ρ 1 u 2 v 2=v from rfl,zG hH (L9 X.ρ u v)]
   refine List.Perm.append_left _ ?_
   rw[←List.append_assoc]
   exact hp.append_right _
 · simp only[List.mem_cons]at hp'
   rcases hp' with rfl|rfl|rfl|hp'
   · exact Rk rfl hu g0
   · rw[show fB (pre++post)=fB pre++fB post by simp[fB]];exact a1
   · exact a2
   · exact Rj (List.all_eq_true.1 hH p hp') (L9 X.ρ u v) (hok p (List.mem_cons_of_mem _ (List.mem_cons_of_mem _ hp')))
theorem JU {sl:List (Nat×AV)} {back:List (List (Nat×AV))} {b:Nat} {n:Int} {k:ByteArray} {l:List Ev} {kv:List (ByteArray×List Ev)} {H:List (Nat×AO)}
  (h1:(sl.all fun p=>kD n12 1 p.2)=true) (h2:(back.all fun f=>f.all fun p=>kD n12 1 p.2)=true) (hH:(H.all fun p=>rowA p.2&&n12 p.1)=true):
  xB ⟨sl,(0,stB 1 (.own 1) n)::(1,.mp jg [(k,some 2)] (fB kv))::(2,jI l)::H,back,b⟩ ⟨sl,(0,stB 1 (.own 1) n)::(1,.mp jg [] (fB ((k,l)::kv)))::H,back,b⟩:=by
 refine xB.acU n12 1 rfl rfl h1 h2 fun X hnd hok=> ?_
 have g0:=hok (0,stB 1 (.own 1) n) List.mem_cons_self
 have g1:=hok (1,.mp jg [(k,some 2)] (fB kv)) (List.mem_cons_of_mem _ List.mem_cons_self)
 have g2:=hok (2,jI l) (List.mem_cons_of_mem _ (List.mem_cons_of_mem _ List.mem_cons_self))
 obtain⟨u,hu,hp,a1⟩:=abM g1 g2
 refine⟨re2 X.ρ 1 u 1 u,yx X.ρ u u,hu, ?_,fun p hp'=> ?_⟩
 · simp only[aT]
   rw[show re2 X.ρ 1 u 1 u 0=X.ρ 0 from rfl,show re2 X.ρ 1 u 1 u 1=u from rfl,zG hH (yx X.ρ u u)]
   refine List.Perm.append_left _ ?_
   rw[←List.append_assoc]
   exact hp.append_right _
 · simp only[List.mem_cons]at hp'
   rcases hp' with rfl|rfl|hp'
   · exact Rk rfl hu g0
   · exact a1
   · exact Rj (List.all_eq_true.1 hH p hp') (yx X.ρ u u) (hok p (List.mem_cons_of_mem _ (List.mem_cons_of_mem _ (List.mem_cons_of_mem _ hp'))))
theorem Y9 {X:CX} {rs' rs:List (ByteArray×RW)} (hp:rs'.Perm rs): ∀ {hs':List Value},jk X rs' hs'→ ∃hs,jk X rs hs∧(lC (rs.map (·.1)) hs).Perm (lC (rs'.map (·.1)) hs')∧(hs.flatMap jF).Perm (hs'.flatMap jF):=by
 induction hp with
 |nil=>exact fun{hs'} h=>⟨hs',h,.refl _,.refl _⟩
 | cons p _ ih=>
   intro hs' h
   obtain⟨v,q,rfl,hr,hq⟩: ∃v q,hs'=v::q∧_∧_:=h
   obtain⟨hs,h1,h2,h3⟩:=ih hq
   refine⟨v::hs,⟨v,hs,rfl,hr,h1⟩, ?_, ?_⟩
   · simp only[List.map_cons,kG]
     exact h2.append_left _
   · simp only[List.flatMap_cons]
     exact h3.append_left _
 | swap p q l=>
   intro hs' h
   obtain⟨v,r,rfl,hr,u,t,rfl,hu,ht⟩: ∃v r,hs'=v::r∧_∧ ∃u t,r=u::t∧_∧_:=h
   refine⟨u::v::t,⟨u,v::t,rfl,hu,v,t,rfl,hr,ht⟩, ?_, ?_⟩
   · simp only[List.map_cons,kG,←List.append_assoc]
     exact List.perm_append_comm.append_right _
   · simp only[List.flatMap_cons,←List.append_assoc]
     exact List.perm_append_comm.append_right _
 | trans _ _ ih1 ih2=>
   intro hs' h
   obtain⟨h1,a1,a2,a3⟩:=ih1 h
   obtain⟨h2,b1,b2,b3⟩:=ih2 a1
   exact⟨h2,b1,b2.trans a2,b3.trans a3⟩
theorem Za {sl:List (Nat×AV)} {back:List (List (Nat×AV))} {b:Nat} {n:Int} {kv kv':List (ByteArray×List Ev)} {H:List (Nat×AO)} (hp:kv.Perm kv')
  (h1:(sl.all fun p=>kD n12 1 p.2)=true) (h2:(back.all fun f=>f.all fun p=>kD n12 1 p.2)=true) (hH:(H.all fun p=>rowA p.2&&n12 p.1)=true):
  xB ⟨sl,(0,stB 1 (.own 1) n)::(1,.mp jg [] (fB kv))::H,back,b⟩ ⟨sl,(0,stB 1 (.own 1) n)::(1,.mp jg [] (fB kv'))::H,back,b⟩:=by
 refine xB.acU n12 1 rfl rfl h1 h2 fun X hnd hok=> ?_
 have g0:=hok (0,stB 1 (.own 1) n) List.mem_cons_self
 obtain⟨c,es,cl,vs,hs,e,hh,hi,hr,hpe,hn,hst⟩:=hok (1,.mp jg [] (fB kv)) (List.mem_cons_of_mem _ List.mem_cons_self)
 have e:X.ρ 1=_:=e
 have hvs:vs=[]:=hi
 subst hvs
 have hpr:(fB kv).Perm (fB kv'):=hp.map _
 obtain⟨hs2,a1,a2,a3⟩:=Y9 hpr hr
 simp only[List.map_nil,List.nil_append]at hpe hn
 obtain⟨u,eu⟩: ∃u:Value,u= .tuple (.map (some c):: .map (some c)::hs2).toArray:=⟨_,rfl⟩
 have hu:eF u=eF (X.ρ 1):=by rw[e,eu];rfl
 refine⟨re2 X.ρ 1 u 1 u,yx X.ρ u u,hu, ?_,fun p hp'=> ?_⟩
 · simp only[aT]
   rw[show re2 X.ρ 1 u 1 u 0=X.ρ 0 from rfl,show re2 X.ρ 1 u 1 u 1=u from rfl,zG hH (yx X.ρ u u)]
   refine List.Perm.append_left _ (List.Perm.append_right _ ?_)
   rw[e,eu,lI,lI,List.flatMap_cons,List.flatMap_cons]
   exact a3.append_left _
 · simp only[List.mem_cons]at hp'
   rcases hp' with rfl|rfl|hp'
   · exact Rk rfl hu g0
   · refine⟨c,es,cl,[],hs2,eu,hh,rfl,jk.ρ (w:=X.w) (k:=X.keep) (ρ:=X.ρ) a1,hpe.trans (by simpa using a2.symm), ?_,hst⟩
     simpa using((hpr.map _).nodup_iff).1 hn
   · exact Rj (List.all_eq_true.1 hH p hp') (yx X.ρ u u) (hok p (List.mem_cons_of_mem _ (List.mem_cons_of_mem _ hp')))
structure ZR (K:ByteArray→List Ev) (m:Nat) (k:ByteArray) (ss:List ByteArray) (kv:List (ByteArray×List Ev)):Prop where
 nd:(kv.map (·.1)).Nodup
 nk:k ∉ kv.map (·.1)
 eq: ∀q,q≠k→K q=nI kv q
 ln:kv.length+1≤m
 ky: ∀p∈kv,p.1.size≤9223372036854775807
 ks:k.size≤9223372036854775807
 mem: ∀x∈ss,x=k∨x∈kv.map (·.1)
theorem ZR.close {K:ByteArray→List Ev} {m:Nat} {k:ByteArray} {ss:List ByteArray} {kv:List (ByteArray×List Ev)} (h:ZR K m k ss kv):KV K m ((k,K k)::kv)∧ ∀x∈ss,x∈((k,K k)::kv).map (·.1):=by
 refine⟨⟨List.nodup_cons.2 ⟨h.nk,h.nd⟩,fun q=> ?_,h.ln,fun p hp=> ?_⟩,fun x hx=> ?_⟩
 · simp only[nI]
   split
   · rename_i e;rw[←e]
   · rename_i e;exact h.eq q (fun h=>e h.symm)
 · rcases List.mem_cons.1 hp with rfl|hp
   · exact h.ks
   · exact h.ky p hp
 · rcases h.mem x hx with rfl|h
   · exact List.mem_cons_self
   · exact List.mem_cons_of_mem _ h
theorem ZR.open {K:ByteArray→List Ev} {m:Nat} {k:ByteArray} {ss:List ByteArray} {kv:List (ByteArray×List Ev)} (h:KV K m kv) (hs: ∀x∈ss,x∈kv.map (·.1)) (hk:k∈kv.map (·.1)):
  ∃pre post,kv=pre++(k,K k)::post∧ZR K m k ss (pre++post):=by
 obtain⟨pre,l,post,rfl,hpre⟩:=yu hk
 have hK:K k=l:=by rw[h.eq,yw hpre];simp[nI]
 have hnd':=h.nd
 rw[List.map_append,List.map_cons]at hnd'
 have Ri:=(List.perm_middle.nodup_iff).1 hnd'
 rw[←List.map_append]at Ri
 refine⟨pre,post,by rw[hK],(List.nodup_cons.1 Ri).2,(List.nodup_cons.1 Ri).1,fun q hq=>by rw[h.eq,CJ hq],by have:=h.ln;simp at this⊢;omega,fun p hp=>h.ky p (by rcases List.mem_append.1 hp with hp|hp<;>simp[hp]),h.ky (k,l) (by simp),fun x hx=> ?_⟩
 have:=hs x hx
 simp only[List.map_append,List.map_cons,List.mem_append,List.mem_cons]at this⊢
 grind
theorem Zb {K:ByteArray→List Ev} {m:Nat} {ss:List ByteArray} {sl:List (Nat×AV)} {back:List (List (Nat×AV))} {b:Nat} {n:Int} {k k':ByteArray} {kv:List (ByteArray×List Ev)} {H:List (Nat×AO)} (hf:ZR K m k ss kv) (hk:k'∈ss)
  (h1:(sl.all fun p=>kD n12 1 p.2)=true) (h2:(back.all fun f=>f.all fun p=>kD n12 1 p.2)=true) (hH:(H.all fun p=>rowA p.2&&n12 p.1)=true):
  ∃kv',ZR K m k' ss kv'∧((k,K k)::kv).Perm ((k',K k')::kv')∧xB ⟨sl,(0,stB 1 (.own 1) n)::(1,.mp jg [(k,some 2)] (fB kv))::(2,jI (K k))::H,back,b⟩ ⟨sl,(0,stB 1 (.own 1) n)::(1,.mp jg [(k',some 2)] (fB kv'))::(2,jI (K k'))::H,back,b⟩:=by
 obtain⟨c1,c2⟩:=hf.close
 obtain⟨pre,post,e,hf'⟩:=ZR.open c1 c2 (c2 k' hk)
 refine⟨pre++post,hf',by rw[e];exact List.perm_middle,(JU h1 h2 hH).trans ?_⟩
 rw[e]
 exact Pg h1 h2 hH
theorem VF {K:ByteArray→List Ev} {m:Nat} {ss:List ByteArray} {sl:List (Nat×AV)} {back:List (List (Nat×AV))} {b:Nat} {n:Int} {k':ByteArray} {kv:List (ByteArray×List Ev)} {H:List (Nat×AO)} (hf:KV K m kv) (hs: ∀x∈ss,x∈kv.map (·.1)) (hk:k'∈ss)
  (h1:(sl.all fun p=>kD n12 1 p.2)=true) (h2:(back.all fun f=>f.all fun p=>kD n12 1 p.2)=true) (hH:(H.all fun p=>rowA p.2&&n12 p.1)=true):
  ∃kv',ZR K m k' ss kv'∧kv.Perm ((k',K k')::kv')∧xB ⟨sl,(0,stB 1 (.own 1) n)::(1,.mp jg [] (fB kv))::H,back,b⟩ ⟨sl,(0,stB 1 (.own 1) n)::(1,.mp jg [(k',some 2)] (fB kv'))::(2,jI (K k'))::H,back,b⟩:=by
 obtain⟨pre,post,e,hf'⟩:=ZR.open hf hs (hs k' hk)
 refine⟨pre++post,hf',by rw[e];exact List.perm_middle, ?_⟩
 rw[e]
 exact Pg h1 h2 hH
end
end Go.Proofs.YtimhagicagdkfaaGreat
