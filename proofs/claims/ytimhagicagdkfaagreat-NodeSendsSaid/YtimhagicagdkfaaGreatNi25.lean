/-
  Contracts of the walk:LvW,LvY,MkM,LvZ,NdG,NdH,NdK,NdI,NdJ,RcX.
-/
import Derived.Test.YtimhagicagdkfaaGreatNi20
import Derived.Test.YtimhagicagdkfaaGreatNi24
import Derived.Test.YtimhagicagdkfaaGreatNi18
import Derived.Test.YtimhagicagdkfaaGreatNi11
import Derived.Test.YtimhagicagdkfaaGreatNi10
import Derived.Test.YtimhagicagdkfaaGreatNi12
import Derived.Test.YtimhagicagdkfaaGreatNi17
import Derived.WalkMore
import Derived.Test.YtimhagicagdkfaaGreatNi13
import Derived.Test.YtimhagicagdkfaaGreatNi16
set_option maxHeartbeats 16000000
set_option maxRecDepth 100000
set_option linter.unusedVariables false
set_option linter.unusedSimpArgs false
namespace Go.Proofs.YtimhagicagdkfaaGreat
section
open Go.RowKit
theorem abd:oU []=[]:=by
 rw[of_same (l:=[]) (key:=⟨#[]⟩) (fun x hx=>by cases hx)]
 rfl
def Mc (K:ByteArray→List Ev) (ss:List Str):List Cont:=ss.flatMap fun k=>oU (K (keyS k))
theorem Zf {K:ByteArray→List Ev} {ss:List Str} {i:Nat} (h:i<ss.length):Mc K (ss.take (i+1))=Mc K (ss.take i)++oU (K (keyS (ss.getD i []))):=by
 unfold Mc
 rw[List.take_add_one,List.flatMap_append,List.getD,List.getElem?_eq_getElem h]
 simp
theorem ac0 {K:ByteArray→List Ev} {ss:List Str} (i:Nat):(Mc K (ss.take i)).length≤(Mc K ss).length:=by
 have:Mc K ss=Mc K (ss.take i)++Mc K (ss.drop i):=by
  unfold Mc
  rw[←List.flatMap_append,List.take_append_drop]
 rw[this,List.length_append]
 omega
inductive Rf (K:ByteArray→List Ev) (m:Nat) (ss:List Str) (kv0:List (ByteArray×List Ev)):Type where
  |key (i:Nat) (k:ByteArray) (kv:List (ByteArray×List Ev)) (hi:i<ss.length) (hk:k=keyS (ss.getD i [])) (h:ZK K m k (ss.map keyS) kv) (hp:kv0.Perm ((k,K k)::kv))
  |done
def Rf.n {K:ByteArray→List Ev} {m:Nat} {ss:List Str} {kv0:List (ByteArray×List Ev)}:Rf K m ss kv0→Nat
  | .key i .. =>ss.length-i
  | .done=>0
def DR (ss:List Str) (i:Nat):List (Nat×AV):=[(0,.box 0 0),(3,.own 90),(11,.own 11),(12,.v (.int .i64 (ss.length:Int))),(13,.v (.int .i64 (i:Int)))]
def DT (K:ByteArray→List Ev) (ss:List Str) (i:Nat):List (Nat×AO):=[(90,.row 76 7 (Mc K (ss.take i)).length false (Qx (Mc K (ss.take i)))),(11,.row 9 1 ss.length true (iy ss))]
def Zg (K:ByteArray→List Ev) (n:Int) (m:Nat) (ss:List Str) (kv0:List (ByteArray×List Ev)):Rf K m ss kv0→AS
  | .key i k kv _ _ _ _=>⟨DR ss i,(0,stB 1 (.own 1) n)::(1,.mp jh [(k,some 2)] (fE kv))::(2,jI (K k))::DT K ss i,[[(0,.box 0 0),(1,.own 1)]],91⟩
  | .done=>⟨DR ss ss.length,(0,stB 1 (.own 1) n)::(1,.mp jh [] (fE kv0))::DT K ss ss.length,[[(0,.box 0 0),(1,.own 1)]],91⟩
theorem ac1 {K:ByteArray→List Ev} {m:Nat} {kv:List (ByteArray×List Ev)} (h:KV K m kv) {q:ByteArray} (hq:K q≠[]): ∃p∈fE kv,p.1=q∧0<p.2.n:=by
 by_cases hm:q∈kv.map (·.1)
 · obtain⟨pre,l,post,rfl,hn⟩:=x9 hm
   have:K q=l:=by rw[h.eq,yc hn];simp[nD]
   refine⟨(q,rwE l),by simp[fE],rfl, ?_⟩
   rw[this]at hq
   exact List.length_pos_iff.2 hq
 · exact absurd (by rw[h.eq,zB hm]) hq
theorem ac2 (K:ByteArray→List Ev) (n:Int) (m:Nat) (O:List Cont) (hK: ∀k,(K k).length≤1000000000) (hm:m≤1000000000) (hOl:O.length≤1000000000)
  (hO: ∀ss:List Str,ss.Pairwise (· < ·)→(∀k,K (keyS k)≠[]→k∈ss)→Mc K ss=O):
  aW Tryz.prog 50 [(0,.obs (uP K n m))] [.box 0 0] (.own 3) [(0,.obs (uP K n m)),(3,.row 76 7 O.length false (Qx O))]:=by
 refine aW.opn (ho:=[(3,.row 76 7 O.length false (Qx O))]) ⟨_,_,Tryz.func50,rfl,rfl⟩ (Opens.pack (rZ K n m)) (fun y=>⟨_,Il K n m y, ?_⟩) rfl
 cases y with
 | new h=>
   refine⟨rfl,rfl, ?_⟩
   have hO0:O=[]:=(hO [] List.Pairwise.nil fun k hk=>absurd (h _) hk).symm
   subst hO0
   simp only[rZ,List.cons_append,List.nil_append] 
   dsimp only[stB]
   refine K1.M 0x782d Tryz.func50 10 ?_
   repeat' ((conv=>whnf);first|refine K1.w ?_|refine K1.u ?_|refine K1.I 0x7 Tryz.func90 ?_|refine dJ.abb 11 10 rfl ?_|refine K1.z ?_|refine K1.y (fun _=>?_) (fun _=>?_)|fail)
   conv=>whnf
   refine aN.nil 3 90 76 7 (Qx []) rfl (by omega) ?_
   conv=>whnf
   refine aN.rounds 1 ?_
   repeat' ((conv=>whnf);first|refine K1.w ?_|refine K1.u ?_|refine K1.z ?_|refine K1.y (fun _=>?_) (fun _=>?_)|fail)
   conv=>whnf
   exact⟨[(90,3)],rfl,rfl,⟨aH rfl,⟨_,rfl,cO.acy rfl (fun i hi=>absurd hi (Nat.not_lt_zero i))⟩,trivial⟩,rfl,rfl,aj⟩
 | old kv h=>
   refine⟨rfl,rfl, ?_⟩
   have hky: ∀p∈fE kv,p.1.size≤9223372036854775807:=fun p hp=>by
    obtain⟨q,hq,rfl⟩:=List.mem_map.1 hp
    exact h.ky q hq
   have hln:(fE kv).length≤1000000000:=by
    unfold fE
    rw[List.length_map]
    exact Nat.le_trans h.ln hm
   simp only[rZ,List.cons_append,List.nil_append] 
   dsimp only[stB]
   refine K1.M 0x782d Tryz.func50 10 ?_
   repeat' ((conv=>whnf);first|refine K1.w ?_|refine K1.u ?_|refine K1.I 0x7 Tryz.func90 ?_|refine dJ.sorted 11 10 1 rfl rfl hky hln (fun ss hss=>?_)|refine K1.z ?_|refine K1.y (fun _=>?_) (fun _=>?_)|fail)
   have hks: ∀x∈ss.map keyS,x∈kv.map (·.1):=fun x hx=>by
    obtain⟨k,hk,rfl⟩:=List.mem_map.1 hx
    obtain⟨p,hp,e⟩:=hss.mem k hk
    rw[←JC]
    exact List.mem_map.2 ⟨p,hp,by rw[←e];exact OI rfl⟩
   have hO':Mc K ss=O:=hO ss hss.up fun k hk=>by
    obtain⟨p,hp,e,hpos⟩:=ac1 h hk
    have:=hss.all p hp hpos
    rwa [e,Vs]at this
   have hsl:ss.length≤1000000000:=Nat.le_trans hss.len hln
   have hle:=fun i=>ac0 (K:=K) (ss:=ss) i
   rw[hO']at hle
   conv=>whnf
   refine aN.nil 3 90 76 7 (Qx []) rfl (by omega) ?_
   conv=>whnf
   refine aN.imp ⟨DR ss 0,(0,stB 1 (.own 1) n)::(1,.mp jh [] (fE kv))::DT K ss 0,[[(0,.box 0 0),(1,.own 1)]],91⟩
    (wZ.leR (σ:=[]) ?_) ?_
   · dsimp only[DR,DT]
     exact dO.mk' [] _ _ _ rfl ⟨aj,aj,aj,aT.int rfl,aT.int rfl,trivial⟩ ⟨aH rfl,aH rfl,⟨_,rfl,cO.acy rfl (fun i hi=>absurd hi (Nat.not_lt_zero i))⟩,aH rfl,trivial⟩ rfl
   have hst: ∃x0:Rf K m ss kv,wZ ⟨DR ss 0,(0,stB 1 (.own 1) n)::(1,.mp jh [] (fE kv))::DT K ss 0,[[(0,.box 0 0),(1,.own 1)]],91⟩ (Zg K n m ss kv x0):=by
    by_cases hz:0<ss.length
    · obtain⟨kv',hf,hpp,hI⟩:=Vz (sl:=DR ss 0) (back:=[[(0,.box 0 0),(1,.own 1)]]) (b:=91) (n:=n) (H:=DT K ss 0) h hks (k':=keyS (ss.getD 0 [])) (List.mem_map.2 ⟨_,by rw[List.getD,List.getElem?_eq_getElem hz];exact List.getElem_mem hz,rfl⟩) rfl rfl rfl
      exact⟨.key 0 _ kv' hz rfl hf hpp,hI⟩
    · have hn:ss=[]:=List.eq_nil_of_length_eq_zero (by omega)
      subst hn
      exact⟨.done,wZ.refl _⟩
   obtain⟨x0,hI0⟩:=hst
   refine aN.mkI (Rf K m ss kv) (Zg K n m ss kv) Rf.n x0 hI0 ?_
   clear x0 hI0
   intro x
   cases x with
   | done=>
     dsimp only[Zg,DR,DT]
     rw[List.take_of_length_le (Nat.le_refl _),hO']
     repeat' ((conv=>whnf);first|refine K1.w ?_|refine K1.u ?_|refine K1.z ?_|refine K1.y (fun _=>?_) (fun _=>?_)|fail)
     conv=>whnf
     exact⟨[(1,1),(90,3)],rfl,rfl,⟨aH rfl,aH rfl,aH rfl,trivial⟩,rfl,rfl,aj⟩
   | key i k kv' hi hk hf hp=>
     have hof:=aeG (K k) (hK k)
     have hsn:=Zf (K:=K) hi
     rw[←hk]at hsn
     have hb:(Mc K (ss.take i)).length+(oU (K k)).length≤1000000000:=by
      have:=hle (i+1)
      rw[hsn,List.length_append]at this
      omega
     have hJ: ∃y:Rf K m ss kv,wZ ⟨DR ss (i+1),(0,stB 1 (.own 1) n)::(1,.mp jh [(k,some 2)] (fE kv'))::(2,jI (K k))::DT K ss (i+1),[[(0,.box 0 0),(1,.own 1)]],91⟩ (Zg K n m ss kv y)∧y.n<ss.length-i:=by
      by_cases hl:i+1<ss.length
      · obtain⟨kv2,hf2,hpp,hI⟩:=Y7 (sl:=DR ss (i+1)) (back:=[[(0,.box 0 0),(1,.own 1)]]) (b:=91) (n:=n) (H:=DT K ss (i+1)) hf (k':=keyS (ss.getD (i+1) [])) (List.mem_map.2 ⟨_,by rw[List.getD,List.getElem?_eq_getElem hl];exact List.getElem_mem hl,rfl⟩) rfl rfl rfl
        exact⟨.key (i+1) _ kv2 hl rfl hf2 (hp.trans hpp),hI,by show ss.length-(i+1)<_;omega⟩
      · have e:ss.length=i+1:=by omega
        refine⟨.done, ?_,by show 0<_;omega⟩
        show wZ _ ⟨DR ss ss.length,(0,stB 1 (.own 1) n)::(1,.mp jh [] (fE kv))::DT K ss ss.length,[[(0,.box 0 0),(1,.own 1)]],91⟩
        rw[e]
        exact(JF rfl rfl rfl).trans (Y6 hp.symm rfl rfl rfl)
     obtain⟨y,hI,hy⟩:=hJ
     dsimp only[Zg,DR,DT,stB,jI]
     repeat' ((conv=>whnf);first|refine K1.w ?_|refine K1.a ?_|refine K1.b ?_|refine K1.d ?_|refine K1.C 1 [(0,_)] (hof) rfl ?_|refine ZN.mk Dq ?_|refine Dz.mk 0 2 _ rfl (by rw[hk];rfl) ?_|refine K1.z ?_|refine K1.q ?_|refine K1.bt ?_|refine K1.bf ?_|refine K1.y (fun _=>?_) (fun _=>?_)|refine iD.dec (fun _=>?_) (fun _=>?_)|refine iD.mk (fun _=>?_) (fun _=>?_))
     rotate_left
     · exact absurd (show Nat.ble _ _=false by assumption) (by rw[Bool.not_eq_false,Nat.ble_eq];omega)
     conv=>whnf
     refine⟨y,wZ.trans (wZ.leR (σ:=[(92,90)]) ?_) hI,hy⟩
     dsimp only[DR,DT]
     refine dO.mk' [(92,90)] _ _ _ rfl ⟨aj,aj,aj,aj,aT.int rfl,trivial⟩ ⟨aH rfl,aH rfl,aH rfl,⟨_,rfl,cO.row ?_ (fun m hm=>?_)⟩,aH rfl,trivial⟩ rfl
     · show _=(Mc K (ss.take (i+1))).length
       rw[hsn,List.length_append]
     · show _=Qx (Mc K (ss.take (i+1))) m
       rw[hsn]
       exact els_app (c:=Cont.cs) rfl m
end
section
open Go.RowKit
theorem Zh {P:List Ev} {e:Ev} (t:Dj (lV (eqK e.key) P) e):Ik (iO P) e=iO (P++[e]):=by
 funext q
 by_cases h:q=e.key
 · subst h
   rw[GN,GH t]
 · rw[LU h,Dn h]
theorem TP {f g:Str→Nat} {k0:Str}: ∀ {ks:List Str},ks.Nodup→k0∈ks→(∀k,k≠k0→g k=f k)→(ks.map g).sum+f k0=(ks.map f).sum+g k0
  |[],_,h,_=>by cases h
  | k ::ks,hn,hk,h=>by
    obtain⟨h1,h2⟩:=List.nodup_cons.1 hn
    simp only[List.map_cons,List.sum_cons]
    by_cases e:k=k0
    · subst e
      have:ks.map g=ks.map f:=List.map_congr_left fun x hx=>h x fun e=>h1 (e▸hx)
      rw[this]
      omega
    · have:=TP h2 ((List.mem_cons.1 hk).resolve_left fun h=>e h.symm) h
      have:=h k e
      omega
theorem VO {P:List Ev} {e:Ev} (t:Dj (lV (eqK e.key) P) e):OX (iO P) (oL P) e=oL (P++[e]):=by
 have hu:=jB ((P++[e]).map fun x:Ev=>dN x.key)
 generalize uniq ((P++[e]).map fun x:Ev=>dN x.key)=ks at hu
 have hn:ks.Nodup:=hu.1.imp fun h=>by rintro rfl;exact List.lt_irrefl _ h
 have hm: ∀x∈P++[e],dN x.key∈ks:=fun x hx=>(hu.2 _).2 (List.mem_map.2 ⟨x,hx,rfl⟩)
 have h1:=Cm _ P hn fun x hx=>hm x (List.mem_append_left _ (List.mem_filter.1 hx).1)
 have h2:=Cm _ (P++[e]) hn fun x hx=>hm x (List.mem_filter.1 hx).1
 have h3:=TP (f:=fun k=>(iO P (keyS k)).length) (g:=fun k=>(iO (P++[e]) (keyS k)).length) (k0:=dN e.key) hn (hm e (by simp)) fun k hk=>by
  rw[Dn fun h=>hk (by rw[←h];rfl)]
 unfold OX
 have hk:keyS (dN e.key)=e.key:=OI rfl
 rw[hk,GH t]at h3
 omega
theorem TQ (P:List Ev) (key:ByteArray):(iO P key).length≤P.length:=
 Nat.le_trans (List.length_filter_le _ _) (List.length_filter_le _ _)
theorem Zi {P:List Ev} (hp: ∀key,Jz (lV (eqK key) P) key) {ss:List Str} (hs:ss.Pairwise (· < ·)) (hm: ∀k,iO P (keyS k)≠[]→k∈ss):Mc (iO P) ss=oU P:=by
 have h:=Vu hp (ks:=ss.filter fun k=>decide (iO P (keyS k)≠[])) (hs.filter _) fun k=>by
  rw[List.mem_filter]
  simp only[decide_eq_true_eq]
  exact⟨fun h=>h.2,fun h=>⟨hm k h,h⟩⟩
 rw[←h]
 unfold Mc
 have key: ∀l:List Str,l.flatMap (fun k=>oU (iO P (keyS k)))=(l.filter fun k=>decide (iO P (keyS k)≠[])).flatMap fun k=>oU (iO P (keyS k)):=by
  intro l
  induction l with
  |nil=>rfl
  | cons k l ih=>
    rw[List.flatMap_cons,List.filter_cons,ih]
    by_cases hk:iO P (keyS k)=[]
    · rw[if_neg (by simpa using hk),hk,abd]
      rfl
    · rw[if_pos (by simpa using hk),List.flatMap_cons]
 exact key ss
end

section
open Go.RowKit
theorem GR (P:List Ev):(oU P).length≤P.length:=by
 unfold oU keysB
 rw[List.length_map]
 refine Nat.le_trans (uo _) ?_
 unfold sortL
 rw[List.length_mergeSort,List.length_map]
 exact List.length_filter_le ..
theorem Zj (P:List Ev):oL P≤P.length:=by
 rw[←JA]
 exact List.length_filter_le ..
def yI (P:List Ev) (m:Nat):OB:=uP (iO P) (oL P:Int) m
theorem abO:aW Tryz.prog 100 [] [] (.box 0 0) [(0,.obs (yI [] 0))]:=adY
theorem TR {P:List Ev} {e:Ev} (t:Dj (lV (eqK e.key) P) e) (hm:fB e=0) (hl:P.length≤1000000) (m:Nat):
  aW Tryz.prog 96 [(0,.obs (yI P m))] [.box 0 0,e.av] (.v (.int .i64 0)) [(0,.obs (yI (P++[e]) (m+1)))]:=by
 have h1:=TQ P e.key
 have h2:=Zj P
 have:=aa7 (iO P) (oL P) m e hm (by omega) (by omega) (by omega)
 rw[Zh t,VO t]at this
 exact this
theorem GU {P:List Ev} (hp: ∀key,Jz (lV (eqK key) P) key) (m:Nat) (hl:P.length≤1000000) (hm:m≤1000000):
  aW Tryz.prog 50 [(0,.obs (yI P m))] [.box 0 0] (.own 3) [(0,.obs (yI P m)),(3,.row 76 7 (oU P).length false (Qx (oU P)))]:=by
 have h1:=GR P
 exact ac2 (iO P) (oL P) m (oU P) (fun k=>by have:=TQ P k;omega) (by omega) (by omega) fun ss hs h=>Zi hp hs h
end
section
open Go.RowKit
theorem Ht.scope {P:Program} {L:Lay} (hL:bQ P L) (lv:Nat) {N:Nat} {c:Code} {Q:jE→AS→Prop} {st:AS} (h:yC P L 8 N lv c Q st):Ht P N (.scope c) Q st:=
 ⟨fun _ _ E _ _ _ hq R=>wp_scope_straight (fM hL 8 _ _ lv _ c Q (Exit.noGoto E) ⟨hq.1,hq.2.1,hq.2.2⟩ R h)⟩
theorem Ht.label {P:Program} {N l:Nat} {Q:jE→AS→Prop} {st:AS} (h:Q .normal st):Ht P N (.label l) Q st:=
 ⟨fun _ _ _ _ _ _ hq R=>wp_label (hq.1 _ _ _ _ R h)⟩
structure Nd where
 (c:nJ) (r:Nat) (up:Bool) (d:Dk) (log:List Ev) (sent:Int) (ic:bn) (held wait:List Ev)
def LX (h:Nd) (dk lg bk ib ou:AV):AO:= .box 82 [.v (.int .i64 h.c.n),.v (.int .i64 h.c.w),.v (.int .i64 h.c.q),.v (.int .i64 h.c.h),.v (.int .i64 h.c.l),.v (.int .i64 h.c.p),.v (.int .i64 (h.r:Int)),.v (.bool h.up),dk,lg,.v (.int .i64 h.sent),bk,ib,ou]
def JH (l:List Ev):AV:= .sl 12 l.length true (eG l)
def CG (h:Nd) (_:Unit):List (Nat×AO):=[(0,LX h (.box 8 0) (.own 10) (.box 11 0) (.box 12 0) (.box 13 0)),(8,PK (.own 9) h.d),(11,.obs (yI h.log h.log.length)),(12,Ji h.c.h h.ic (JH h.held)),(13,zi h.c.q h.c.w h.sent (.own 14)),(9,Ih h.d.bs),(10,fK h.log),(14,fK h.wait)]
def lM (h:Nd):OB:=OB.pack (CG h)
theorem GV (h:Nd):Closes (CG h ()) 0 (lM h):=Closes.pack (CG h) () rfl fun _ hok=>Yj (hok _ List.mem_cons_self)
theorem ac3 (σ:List (Nat×Nat)) {f:FuncId} {h h':Nd} {cu:List AV} {r:AV} {ho:List (Nat×AO)} (hE:Enters Tryz.prog f) (hs:kH σ 0=some 0) (hk:yu σ (CG h' ())=true) (hh:gG 0 (iQ σ (CG h' ()))=true) (hm:aW Tryz.prog f (CG h ()) cu r (iQ σ (CG h' ())++ho))
  (hb:(cu.all (FT (fun _=>false) 0)&&kC (fun i=>gG i ho) 0 r&&jQ ho ho&& !(gG 0 ho))=true):aW Tryz.prog f [(0,.obs (lM h))] cu r ((0,.obs (lM h'))::ho):=
 aW.opn hE (Opens.pack (CG h)) (fun _=>⟨_,(GV h').ren σ hs hk,rfl,hh,hm⟩) hb
theorem oz {f:FuncId} {h h':Nd} {cu:List AV} {r:AV} {ho:List (Nat×AO)} (hE:Enters Tryz.prog f) (hm:aW Tryz.prog f (CG h ()) cu r (CG h' ()++ho))
  (hb:(cu.all (FT (fun _=>false) 0)&&kC (fun i=>gG i ho) 0 r&&jQ ho ho&& !(gG 0 ho))=true):aW Tryz.prog f [(0,.obs (lM h))] cu r ((0,.obs (lM h'))::ho):=
 aW.opn hE (Opens.pack (CG h)) (fun _=>⟨_,GV h',rfl,rfl,hm⟩) hb
def nd0 (c:nJ) (r:Nat):Nd:=⟨c,r,true,dk0,[],0,dS,[],[]⟩
theorem ac4 (c:nJ) (r:Nat):Closes [(0,LX (nd0 c r) (.box 8 0) kM (.box 11 0) (.box 12 0) (.box 13 0)),(8,PK kM dk0),(11,.obs (yI [] 0)),(12,Ji c.h dS (JH [])),(13,zi c.q c.w 0 kM)] 0 (lM (nd0 c r)):=by
 unfold LX PK zi kM
 refine Closes.acE (A:=[_]) (id:=8) (B:=[_,_,_]) (k:=0) (d:=9) (e:=5) (s:=1) (f:=aV []) ?_ rfl (by decide) rfl
 refine Closes.acE (A:=[]) (id:=0) (B:=[_,_,_,_,_]) (k:=9) (d:=10) (e:=42) (s:=12) (f:=eG []) ?_ rfl (by decide) rfl
 refine Closes.acE (A:=[_,_,_,_]) (id:=13) (B:=[_,_]) (k:=3) (d:=14) (e:=42) (s:=12) (f:=eG []) ?_ rfl (by decide) rfl
 exact GV (nd0 c r)
theorem O5 (c:nJ) (r:Nat) (hc:La c=true) (hr:(r:Int)<c.n):aW Tryz.prog 9 [] [c.av,.v (.int .i64 (r:Int))] (.dL [.box 0 0,.v (.int .i64 0)]) [(0,.obs (lM (nd0 c r)))]:=by
 have hm:=UN c
 rw[hc]at hm
 have ha:=all_nil
 refine aW.cls (hs':=_) (ho:=[]) (ac4 c r) ?_ rfl
 obtain⟨cn,w,q,hh,l,p⟩:=c
 dsimp only[nJ.av,nJ.cs,LX,nd0,PK,dk0,List.append_nil,kM]at hm hr⊢
 refine K1.M 0x80077 Tryz.func9 40 ?_
 repeat' ((conv=>whnf);first|refine K1.w ?_|refine K1.u ?_|refine K1.P1 hm rfl ?_|refine K1.P1 ha rfl ?_|refine K1.P1 clone_nil rfl ?_|refine K1.C 0 [] (Og hh dS) rfl ?_|refine K1.C 0 [] (Oh q w 0) rfl ?_|refine K1.C 0 [] (abO) rfl ?_|refine K1.I 0x40c7800008bd Tryz.func26 ?_|refine K1.I 0x80000003c0000015 Tryz.func63 ?_|refine K1.I 0x85 Tryz.func47 ?_|refine K1.I 0x1 Tryz.func83 ?_|refine K1.I 0x1 Tryz.func59 ?_|refine K1.I 0x5 Tryz.func61 ?_|refine K1.I 0x4003 Tryz.func62 ?_|refine Ht.scope dW 0x40c7800008bd ?_|refine Ht.label ?_|refine aN.sO 33 1 rfl ?_|refine aN.sO 32 1 rfl ?_|refine K1.o (id:=15) [(0,none),(1,none),(2,none),(3,none),(4,none),(5,none),(6,some [4]),(7,none),(8,none),(9,some [4,3,7])] [(5,[4]),(6,[4]),(7,[4,3]),(8,[4,3,7]),(9,[4,3,7])] ?_|refine K1.o (id:=16) [(0,none),(1,none),(2,none),(3,none),(4,none),(5,none),(6,none),(7,some [6,4,2]),(8,none),(9,none),(10,some [6,4,2,8])] [(3,[2]),(4,[2]),(7,[6,4,2]),(8,[6,4,2]),(9,[6,4,2,8]),(10,[6,4,2,8])] ?_|refine K1.o (id:=2) [(0,none),(1,none),(2,none),(3,none),(4,none),(5,none),(6,none),(7,none),(8,none),(9,none),(10,none),(11,none),(12,none),(13,none),(14,none),(15,some [14,12,10,7,5,2]),(16,none),(17,none),(18,some [14,12,10,7,5,2,16])] [(3,[2]),(4,[2]),(5,[2]),(8,[7]),(9,[7]),(10,[7]),(13,[12]),(14,[12]),(15,[14,12,10,7,5,2]),(16,[14,12,10,7,5,2]),(17,[14,12,10,7,5,2,16]),(18,[14,12,10,7,5,2,16])] ?_|refine K1.o (id:=7) [(0,none),(1,none),(2,none),(3,none),(4,none),(5,some [4,3,1])] [(2,[1]),(3,[1]),(5,[4,3,1])] ?_|refine K1.o (id:=9) [(0,none),(1,none),(2,none),(3,none),(4,none),(5,some [4,3,1])] [(2,[1]),(3,[1]),(5,[4,3,1])] ?_|refine K1.o (id:=11) [(0,none),(1,none),(2,none),(3,none),(4,none),(5,none),(6,none),(7,some [6,5,2]),(8,none),(9,none),(10,some [6,5,2,8])] [(3,[2]),(4,[2]),(5,[2]),(7,[6,5,2]),(8,[6,5,2]),(9,[6,5,2,8]),(10,[6,5,2,8])] ?_|refine K1.z ?_|refine K1.y (fun _=>?_) (fun _=>?_)|fail)
 all_goals(conv=>whnf)
 exact⟨[(41,0),(42,8),(44,11),(46,12),(45,13)],rfl,rfl,⟨aH rfl,aH rfl,aH rfl,⟨_,rfl,cO.box fun X us h=>aF.rV (k:=6) (x:= .v (.slice none 0 0)) (y:=JH []) rfl (fun X u h=>C1.kM (s:=12) (by decide) (show C1 X (.v (.slice none 0 0)) u from h)) h⟩,aH rfl,trivial⟩,rfl,rfl,aj⟩
def mkE (e:Ev):List AV:=[.v (.int .i64 e.r),.v (.int .i64 e.n)]
abbrev ZL (l:List Ev):Nat→List AV:=qL mkE l
theorem GX (l:List Ev) (hl:l.length≤1000000) (d:Nat):aG Tryz.prog 30 [JH l] (.own d) [(d,.row 44 2 l.length true (ZL l))]:=by
 dsimp only[JH]
 refine K1.E 0x3ed Tryz.func30 ?_
 repeat' ((conv=>whnf);first|refine K1.w ?_|refine K1.u ?_|refine K1.z ?_|refine K1.y (fun _=>?_) (fun _=>?_)|fail)
 conv=>whnf
 refine aN.nil 3 40 44 2 (ZL []) rfl (by decide) ?_
 refine aN.mk {j:Nat//j≤l.length} (fun j=>⟨[(8,.v (.int .i64 (j.1:Int))),(7,.v (.int .i64 (l.length:Int))),(6,JH l),(3,.own 40)],[(40,.row 44 2 j.1 true (ZL (l.take j.1)))],[],41⟩)
  (fun j=>l.length-j.1) ⟨0,Nat.zero_le _⟩ _ (dO.mk' [] _ _ _ rfl ⟨aT.int rfl,aj,aj,aj,trivial⟩ ⟨⟨_,rfl,cO.row rfl fun i hi=>absurd hi (by omega)⟩,trivial⟩ rfl) ?_
 rintro⟨j,hj⟩
 dsimp only[JH]
 by_cases hjl:j<l.length
 · repeat' ((conv=>whnf);first|refine K1.w ?_|refine K1.u ?_|refine K1.z ?_|refine K1.y (fun _=>?_) (fun _=>?_)|fail)
   all_goals(conv=>whnf)
   exact⟨⟨j+1,hjl⟩,_,dO.mk' [(43,40)] _ _ _ rfl ⟨aT.int rfl,aj,aj,aj,trivial⟩ ⟨⟨_,rfl,cO.row rfl fun i hi=>by
    rw[show l.take (j+1)=l.take j++[l.getD (j:Int).toNat default] by rw[List.take_add_one,List.getElem?_eq_getElem hjl];simp[List.getD,hjl]]
    exact bJ (c:=mkE) (l:=l.take j) (show j=(l.take j).length by rw[List.length_take];omega) rfl i hi⟩,trivial⟩ rfl,by show l.length-(j+1)<l.length-j;omega⟩
 · obtain rfl:j=l.length:=by omega
   rw[List.take_of_length_le (Nat.le_refl _)]
   repeat' ((conv=>whnf);first|refine K1.w ?_|refine K1.u ?_|refine K1.z ?_|refine K1.y (fun _=>?_) (fun _=>?_)|fail)
   all_goals(conv=>whnf)
   exact aJ.qo d rfl rfl (cO.refl _) (aj)
theorem VP (h:Nd) (hu:h.up=true) (hp: ∀key,Jz (lV (eqK key) h.log) key) (hl:h.log.length≤1000000):aW Tryz.prog 25 [(0,.obs (lM h))] [.box 0 0] (.dL [.own 3,.v (.int .i64 0)]) [(0,.obs (lM h)),(3,.row 76 7 (oU h.log).length false (Qx (oU h.log)))]:=by
 refine oz (ho:=[_]) ⟨_,_,Tryz.func25,rfl,rfl⟩ ?_ rfl
 have LC:=GU hp h.log.length hl hl
 obtain⟨c,r,up,d,log,sent,ic,held,wait⟩:=h
 dsimp only[CG,LX,List.append_nil]at hu LC⊢
 subst hu
 refine K1.M 0x10d Tryz.func25 40 ?_
 repeat' ((conv=>whnf);first|refine K1.w ?_|refine K1.u ?_|refine K1.C 3 [(0,_)] (LC) rfl ?_|refine K1.z ?_|refine K1.y (fun _=>?_) (fun _=>?_)|fail)
 all_goals(conv=>whnf)
 exact⟨[(40,3)],rfl,rfl,⟨aH rfl,aH rfl,aH rfl,aH rfl,aH rfl,aH rfl,aH rfl,aH rfl,aH rfl,trivial⟩,rfl,rfl,aj⟩
theorem Zk (h:Nd) (k:Int):aW Tryz.prog 21 [(0,.obs (lM h))] [.box 0 0,.v (.int .i64 k)] (.dL []) [(0,.obs (lM ⟨h.c,h.r,h.up,⟨h.d.bs,h.d.down,true,k⟩,h.log,h.sent,h.ic,h.held,h.wait⟩))]:=by
 refine oz (ho:=[]) ⟨_,_,Tryz.func21,rfl,rfl⟩ ?_ rfl
 obtain⟨c,r,up,⟨bs,down,cut,keep⟩,log,sent,ic,held,wait⟩:=h
 dsimp only[CG,LX,PK,List.append_nil]
 refine K1.M 0x3 Tryz.func21 40 ?_
 repeat' ((conv=>whnf);first|refine K1.w ?_|refine K1.u ?_|refine K1.I 0x85 Tryz.func47 ?_|refine K1.I 0x3 Tryz.func48 ?_|refine K1.z ?_|refine K1.y (fun _=>?_) (fun _=>?_)|fail)
 all_goals(conv=>whnf)
 exact⟨[],rfl,rfl,⟨aH rfl,aH rfl,aH rfl,aH rfl,aH rfl,aH rfl,aH rfl,aH rfl,trivial⟩,rfl,rfl,aj⟩
def O6 (h:Nd):AV:=bif h.up then .agg [.v (.bool true),.v (.int .i64 h.ic.c0),.v (.int .i64 h.ic.c1),.v (.int .i64 h.ic.c2),.v (.int .i64 h.ic.c3),.v (.int .i64 h.ic.c4),.v (.int .i64 h.sent),.sl 2 h.held.length true (ZL h.held),.sl 2 h.log.length true (ZL h.log)]
 else .agg [.v (.bool false),.v (.int .i64 0),.v (.int .i64 0),.v (.int .i64 0),.v (.int .i64 0),.v (.int .i64 0),.v (.int .i64 0),.v (.slice none 0 0),.v (.slice none 0 0)]
theorem VQ (h:Nd) (h1:h.log.length≤1000000) (h2:h.held.length≤1000000):aW Tryz.prog 11 [(0,.obs (lM h))] [.box 0 0] (O6 h) [(0,.obs (lM h))]:=by
 refine oz (ho:=[]) ⟨_,_,Tryz.func11,rfl,rfl⟩ ?_ (by unfold O6;cases h.up<;>rfl)
 have m1:=GX h.log h1
 have m2:=GX h.held h2
 have hcl:=U0 (n:=h.held.length) (F:=eG h.held) (by omega)
 have hck:=lU h.c.h h.ic (JH h.held) (.inr ⟨_,_,rfl⟩)
 obtain⟨c,r,up,d,log,sent,⟨c0,c1,c2,c3,c4⟩,held,wait⟩:=h
 dsimp only[CG,LX,O6,List.append_nil,JH,Ji,bn.av,bn.cs]at m1 m2 hcl hck⊢
 cases up
 all_goals
  refine K1.M 0x85 Tryz.func11 40 ?_
  repeat' ((conv=>whnf);first|refine K1.w ?_|refine K1.u ?_|refine K1.F1 (m1 _) rfl ?_|refine K1.F1 (m2 _) rfl ?_|refine K1.P1 hcl rfl ?_|refine K1.C 1 [(0,_)] (hck) rfl ?_|refine K1.I 0x5 Tryz.func31 ?_|refine K1.o (id:=3) [(0,none),(1,none),(2,none),(3,none),(5,none),(6,none),(7,none),(8,none),(9,none),(10,none),(11,none),(12,none),(15,none),(16,none),(17,none),(18,none),(4,some [3,1]),(13,some [3,1,12,10]),(14,some [3,1,12,10]),(19,some [3,1,12,10,18,16]),(20,none),(21,some [3,1,12,10,18,16,8,6])] [(2,[1]),(3,[1]),(4,[3,1]),(7,[6]),(8,[6]),(11,[10]),(12,[10]),(13,[3,1,12,10]),(14,[3,1,12,10]),(17,[16]),(18,[16]),(19,[3,1,12,10,18,16]),(20,[3,1,12,10,18,16,8,6]),(21,[3,1,12,10,18,16,8,6])] ?_|refine K1.z ?_|refine K1.y (fun _=>?_) (fun _=>?_)|fail)
  all_goals(conv=>whnf)
  exact⟨[],rfl,rfl,⟨aH rfl,aH rfl,aH rfl,aH rfl,aH rfl,aH rfl,aH rfl,aH rfl,trivial⟩,rfl,rfl,aj⟩
end
section
open Go.RowKit
def ndN (h:Nd) (i9 i10 i11 i12 i13 i14:Nat):List (Nat×AO):=[(0,LX h (.box 8 0) (.own i10) (.box i11 0) (.box i12 0) (.box i13 0)),(8,PK (.own i9) h.d),(i11,.obs (yI h.log h.log.length)),(i12,Ji h.c.h h.ic (JH h.held)),(i13,zi h.c.q h.c.w h.sent (.own i14)),(i9,Ih h.d.bs),(i10,fK h.log),(i14,fK h.wait)]
theorem Eh (i9 i10 i11 i12 i13 i14:Nat) {f:FuncId} {h h':Nd} {cu:List AV} {r:AV} {ho:List (Nat×AO)} (hE:Enters Tryz.prog f) (hk:yu [(0,0),(8,8),(9,i9),(10,i10),(11,i11),(12,i12),(13,i13),(14,i14)] (CG h' ())=true) (hm:aW Tryz.prog f (CG h ()) cu r (ndN h' i9 i10 i11 i12 i13 i14++ho))
  (hb:(cu.all (FT (fun _=>false) 0)&&kC (fun i=>gG i ho) 0 r&&jQ ho ho&& !(gG 0 ho))=true):aW Tryz.prog f [(0,.obs (lM h))] cu r ((0,.obs (lM h'))::ho):=
 ac3 [(0,0),(8,8),(9,i9),(10,i10),(11,i11),(12,i12),(13,i13),(14,i14)] hE rfl hk rfl hm hb
def rcA (x:Rc) (n:Nat) (F:Nat→List AV):AV:= .agg [.v (.int .i64 x.k),.v (.int .i64 x.r),.v (.int .i64 x.u),.v (.int .i64 x.c.c0),.v (.int .i64 x.c.c1),.v (.int .i64 x.c.c2),.v (.int .i64 x.c.c3),.v (.int .i64 x.c.c4),.sl 12 n true F]
theorem JI (x:Rc) (h:lC x=true) {n:Nat} {F:Nat→List AV} (hn:n=x.ev.length) (hF: ∀i,i<n→F i=eG x.ev i):
  aG Tryz.prog 93 [rcA x n F] (.dL [.sl 1 (aQ x).length true (aV (aQ x)),.v (.int .i64 0)]) []:=
 (BZ 0 x h).thaw.args (.of (fun X u hu=>by
  obtain⟨us,e,ha⟩:=hu
  exact⟨us,e,aF.rV (k:=8) rfl (x:= .sl 12 n true F) (y:= .sl 12 x.ev.length true (eG x.ev)) (fun X u hu=>show C2 X (.sl 12 x.ev.length true (eG x.ev)) u from aT.sl hn hF X u (show C2 X (.sl 12 n true F) u from hu)) ha⟩) .nil)
end
section
open Go.RowKit
def ac5 (s:List Ev×Int) (x:Rc):List Ev×Int:=if x.k=3 then(s.1,x.u)else if x.k=4 then(x.ev,x.u)else(s.1++x.ev,s.2)
def Rh (l:List Rc):List Ev×Int:=l.foldl ac5 ([],0)
def Ri (l:List Ev):bn:=l.foldl (fun c e=>c.inc e.r.toNat) dS
def yJ (q sent r:Int) (w:List Ev) (e:Ev):List Ev:=if e.r=r∧sent<e.n then(Ld q sent w e).1 else w
def rD (q sent r:Int) (l:List Ev):List Ev:=l.foldl (yJ q sent r) []
structure abP (l:List Ev):Prop where
 len:l.length≤1000000
 nx: ∀j,j<l.length→Dj (lV (eqK (l.getD j default).key) (l.take j)) (l.getD j default)
 may: ∀j,j<l.length→fB (l.getD j default)=0
 r: ∀j,j<l.length→0≤(l.getD j default).r∧(l.getD j default).r<5
 n: ∀e∈l,0≤e.n∧e.n≤1000000
theorem VR {q sent r:Int} {w:List Ev} {e x:Ev} (h:x∈yJ q sent r w e):x∈w∨x=e:=by
 unfold yJ Ld at h
 split at h
 · split at h
   · exact .inl h
   · split at h
     · simpa using h
     · exact .inl h
 · exact .inl h
theorem JJ {q sent r:Int}: ∀ (l w:List Ev) {x:Ev},x∈l.foldl (yJ q sent r) w→x∈w∨x∈l
  |[],_,_,h=> .inl h
  | e ::l,w,x,h=>by
    rcases JJ l _ h with h|h
    · rcases VR h with h|rfl
      · exact .inl h
      · exact .inr List.mem_cons_self
    · exact .inr (List.mem_cons_of_mem _ h)
theorem VT {q sent r:Int} {w:List Ev} {e:Ev}:(yJ q sent r w e).length≤w.length+1:=by
 unfold yJ Ld
 split
 · split
   · simp
   · split<;>simp
 · simp
theorem JK {q sent r:Int}: ∀ (l w:List Ev),(l.foldl (yJ q sent r) w).length≤w.length+l.length
  |[],_=>by simp
  | e::l,w=>by
    have h1:=JK (q:=q) (sent:=sent) (r:=r) l (yJ q sent r w e)
    have h2:=VT (q:=q) (sent:=sent) (r:=r) (w:=w) (e:=e)
    simp only[List.foldl_cons,List.length_cons]
    omega
theorem ac6 {q sent r:Int} {l:List Ev} (h: ∀e∈l,0≤e.n∧e.n≤1000000) (j:Nat):0≤((rD q sent r l).getD j default).n∧((rD q sent r l).getD j default).n≤1000000:=by
 by_cases hj:j<(rD q sent r l).length
 · rw[show(rD q sent r l).getD j default=(rD q sent r l)[j] by simp[List.getD,hj]]
   rcases JJ l [] (List.getElem_mem hj)with h1|h1
   · cases h1
   · exact h _ h1
 · rw[show(rD q sent r l).getD j default=default by simp[List.getD,hj]]
   decide
def bn.upto (c:bn) (k:Int):Prop:=(0≤c.c0∧c.c0≤k)∧(0≤c.c1∧c.c1≤k)∧(0≤c.c2∧c.c2≤k)∧(0≤c.c3∧c.c3≤k)∧(0≤c.c4∧c.c4≤k)
theorem bn.Zl {c:bn} {k:Int} (h:c.upto k) (r:Nat):(c.inc r).upto (k+1):=by
 unfold bn.upto at*
 match r with
 |0=>simp only[bn.inc];omega
 |1=>simp only[bn.inc];omega
 |2=>simp only[bn.inc];omega
 |3=>simp only[bn.inc];omega
 |n+4=>simp only[bn.inc];omega
theorem TS: ∀ (l:List Ev) (c:bn) (k:Int),c.upto k→(l.foldl (fun c e=>c.inc e.r.toNat) c).upto (k+l.length)
  |[],c,k,h=>by simpa using h
  | e::l,c,k,h=>by
    have:=TS l _ _ (bn.Zl h e.r.toNat)
    rw[List.length_cons]
    rw[show k+((l.length+1:Nat):Int)=k+1+l.length by omega]
    exact this
theorem abe (l:List Ev):(Ri l).upto l.length:=by
 have:=TS l dS 0 (by unfold bn.upto dS;decide)
 rwa [Int.zero_add]at this
theorem Zm {l:List Rc} {j:Nat} (h:j<l.length):Rh (l.take (j+1))=ac5 (Rh (l.take j)) (l.getD j default):=pV h
theorem VU {l:List Ev} {j:Nat} (h:j<l.length):Ri (l.take (j+1))=(Ri (l.take j)).inc (l.getD j default).r.toNat:=pV h
theorem Rj {q sent r:Int} {l:List Ev} {j:Nat} (h:j<l.length):rD q sent r (l.take (j+1))=yJ q sent r (rD q sent r (l.take j)) (l.getD j default):=pV h
theorem take_snoc {l:List Ev} {j:Nat} (h:j<l.length):l.take (j+1)=l.take j++[l.getD j default]:=by
 rw[List.take_add_one,List.getElem?_eq_getElem h]
 simp[List.getD,h]
end
section
open Go.RowKit
theorem qM.five {r:Nat} (hr:r<5) {K:Nat→Prop} (h0:r=0→K 0) (h1:r=1→K 1) (h2:r=2→K 2) (h3:r=3→K 3) (h4:r=4→K 4):qM (r:Int) 5 K:=by
 rcases(show r=0∨r=1∨r=2∨r=3∨r=4 by omega)with rfl|rfl|rfl|rfl|rfl
 · exact .lit 0 rfl rfl (h0 rfl)
 · exact .lit 1 rfl rfl (h1 rfl)
 · exact .lit 2 rfl rfl (h2 rfl)
 · exact .lit 3 rfl rfl (h3 rfl)
 · exact .lit 4 rfl rfl (h4 rfl)
def jf (h:Nd) (e:Ed):Ev:=⟨h.r,h.ic.at h.r+1,h.ic,hgt h.log h.ic,e.k,e.key,e.l,e.v⟩
def Bh (h:Nd) (v:Ev):Rc:=⟨1,h.r,0,dS,[v]⟩
structure NdB (h:Nd):Prop where
 r:h.r<5
 ic: ∀r,0≤h.ic.at r∧h.ic.at r≤1000000
 pst: ∀key,Jz (lV (eqK key) h.log) key
 len:h.log.length≤1000000
 hh: ∀e∈h.log,0≤e.h∧e.h≤1000000
 cs: ∀x∈oU h.log,x.s0.length≤1000000∧x.s1.length≤1000000
 bs:h.d.bs.length≤100000000
 wl:h.wait.length≤1000000
 sent:0≤h.sent∧h.sent≤1000000
 wn: ∀j,0≤(h.wait.getD j default).n∧(h.wait.getD j default).n≤1000000
theorem GY (h:Nd) (e:Ed) (d':Dk) (hB:NdB h) (hu:h.up=true) (hck:nS h.c.l h.c.p (oU h.log) e=0) (hq:(h.wait.length:Int)<h.c.q) (hH:hgt h.log h.ic≤1000001)
  (hm:lC (Bh h (jf h e))=true) (hw:oV h.d (aQ (Bh h (jf h e)))=(d',0)) (hd:wu h.ic [jf h e]=([jf h e],[],h.ic.inc h.r)) (ha:Ld h.c.q h.sent h.wait (jf h e)=(h.wait++[jf h e],0))
  (hnx:Dj (lV (eqK (jf h e).key) h.log) (jf h e)) (hmay:fB (jf h e)=0):
  aW Tryz.prog 22 [(0,.obs (lM h))] [.box 0 0,e.av] (.dL [(jf h e).av,.v (.int .i64 0)]) [(0,.obs (lM ⟨h.c,h.r,true,d',h.log++[jf h e],h.sent,h.ic.inc h.r,h.held,h.wait++[jf h e]⟩))]:=by
 refine Eh (ho:=[]) 15 16 11 12 13 17 ⟨_,_,Tryz.func22,rfl,rfl⟩ rfl ?_ rfl
 have LC:=GU hB.pst h.log.length hB.len hB.len
 have hch:=uw h.c (oU h.log) e (Nat.le_trans (GR _) hB.len) hB.cs
 rw[hck]at hch
 have hcl:=lU h.c.h h.ic (JH h.held) (.inr ⟨_,_,rfl⟩)
 have hcn:=FZ h.ic h.r hB.r (hB.ic _).1
 have hlt:h.ic.at h.r<1048576:=by have:=(hB.ic h.r).2;omega
 unfold Tf at hcn
 rw[if_pos hlt,if_pos hlt]at hcn
 have hhg:=AA h.log h.ic (by have:=hB.len;omega) fun e he=>by have:=hB.hh e he;omega
 have hpu:=JI (Bh h (jf h e)) hm (n:=1) (F:=chunk 12 (jf h e).cs) rfl fun i hi=>by
  obtain rfl:i=0:=by omega
  rfl
 have hmx:=oO (Bh h (jf h e)) hm
 have hdk:=zy h.d d' (aQ (Bh h (jf h e))) 0 (bD.bytes _) rfl (by have:=hB.bs;omega) (by omega) hw
 generalize aQ (Bh h (jf h e))=wb at hpu hdk hmx hw
 have how:=Yl h.c.h h.ic (JH h.held) (.inr ⟨_,_,rfl⟩) (jf h e) hB.ic hd
 have had:=Oi h.c.q h.c.w h.sent h.wait _ (jf h e) 0 hB.wl (by have:=hB.sent;omega) (fun j=>by have:=hB.wn j;omega) ha
 have hap:=TR hnx hmay hB.len h.log.length
 rw[if_neg (by simp),if_neg (by simp)]at how
 obtain⟨b1,-,-,b4,-,-,b7,b8,-,-⟩:=hB
 clear hm hw hd ha hnx hmay hck
 obtain⟨c,r,up,d,log,sent,⟨c0,c1,c2,c3,c4⟩,held,wait⟩:=h
 obtain⟨ek,key,lab,val⟩:=e
 dsimp only at hu b1 hlt
 subst hu
 dsimp only[jf,Bh,rcA]at*
 generalize hgt log ⟨c0,c1,c2,c3,c4⟩=H at*
 dsimp only[CG,ndN,LX,PK,Ji,zi,nJ.av,nJ.cs,Ed.av,Ed.cs,Ev.av,Ev.cs,bn.av,bn.cs,rcA]at*
 refine K1.M 0x8000000040000008080021ffb Tryz.func22 40 ?_
 repeat' ((conv=>whnf);first|refine K1.w ?_|refine K1.u ?_|refine K1.C 3 [(0,_)] (LC) rfl ?_|refine K1.P1 hch rfl ?_|refine K1.C 1 [(0,_)] (hcl) rfl ?_|refine K1.P1 hcn rfl ?_|refine K1.P1 hhg rfl ?_|refine K1.P1 hpu rfl ?_|refine K1.C 2 [(0,_),(1,_)] (hdk) rfl ?_|refine K1.C 1 [(0,_)] (how) rfl ?_|refine K1.C 2 [(0,_),(1,_)] (had) rfl ?_|refine K1.C 1 [(0,_)] (hap) rfl ?_|(refine qM.five b1 (fun e=>?_) (fun e=>?_) (fun e=>?_) (fun e=>?_) (fun e=>?_)<;>subst e)|refine K1.I 0x5 Tryz.func51 ?_|refine K1.I 0x78023 Tryz.func57 ?_|refine K1.I 0x8207b Tryz.func54 ?_|refine K1.I 0x85 Tryz.func47 ?_|refine aN.sO 17 2 rfl ?_|refine K1.o (id:=3) [(0,none),(1,none),(2,none),(3,none),(4,none),(5,none),(6,none),(7,none),(9,none),(8,some [7,5]),(10,some [7,5,9,3,1]),(11,none)] [(2,[1]),(3,[1]),(6,[5]),(7,[5]),(8,[7,5]),(10,[7,5,9,3,1]),(11,[7,5,9,3,1])] ?_|refine K1.o (id:=10) [(0,none),(1,none),(2,none),(3,none),(4,none),(5,some [4,3,1]),(6,none)] [(2,[1]),(3,[1]),(5,[4,3,1]),(6,[4,3,1])] ?_|refine K1.o (id:=13) [(0,none),(1,none),(2,none),(3,none),(4,none),(5,none),(6,none),(7,none),(8,none),(9,none),(10,none),(11,none),(12,none),(13,none),(14,none),(15,none),(16,none),(17,none),(18,none),(19,none),(20,none),(21,some []),(22,some [19,17,15,13,10,9,7,5,3,1])] [(2,[1]),(3,[1]),(6,[5]),(7,[5]),(8,[7,5]),(9,[7,5]),(20,[19,17,15,13,10,9,7,5,3,1]),(21,[]),(22,[19,17,15,13,10,9,7,5,3,1])] ?_|refine K1.o (id:=14) [(0,none),(1,none),(2,none),(3,none),(4,none),(5,none),(6,some [5]),(7,none),(8,some [5,4,2]),(9,none)] [(3,[2]),(4,[2]),(6,[5]),(7,[5,4,2]),(8,[5,4,2]),(9,[5,4,2])] ?_|refine K1.o (id:=17) [(0,none),(1,none),(2,none),(3,none),(4,none),(5,some [4,3,1])] [(2,[1]),(3,[1]),(5,[4,3,1])] ?_|refine K1.o (id:=18) [(0,none),(1,none),(2,none),(3,none),(4,none),(5,some [4,3,1])] [(2,[1]),(3,[1]),(5,[4,3,1])] ?_|refine K1.o (id:=4) [(0,none),(1,none),(2,none),(3,none),(4,none),(5,some [4,3,1])] [(2,[1]),(3,[1]),(5,[4,3,1])] ?_|refine iG.lex 70 dW (fM dW _) jA (by kernel_rfl) ?_|refine Both.mk ?_ ?_|exact LeC.mk rfl rfl rfl rfl rfl|refine K1.z ?_|refine K1.y (fun _=>?_) (fun _=>?_)|fail)
 all_goals(conv=>whnf)
 all_goals exact⟨[(49,15),(53,16),(51,17)],rfl,rfl,⟨aH rfl,aH rfl,⟨_,rfl,(by simp only[List.length_append,List.length_singleton];exact cO.refl _)⟩,aH rfl,aH rfl,aH rfl,⟨_,rfl,cO.row (by simp) fun m hm=>bJ (c:=Ev.cs) (l:=log) rfl rfl m hm⟩,aH rfl,trivial⟩,rfl,rfl,aj⟩
end
section
open Go.RowKit
def Zn:Ev:=⟨0,0,dS,0,0,⟨#[]⟩,0,⟨#[]⟩⟩
theorem Rk (h:Nd) (e:Ed) (hB:NdB h) (hu:h.up=true) (x:Int) (hck:nS h.c.l h.c.p (oU h.log) e=x) (hx:x≠0):
  aW Tryz.prog 22 [(0,.obs (lM h))] [.box 0 0,e.av] (.dL [Zn.av,.v (.int .i64 x)]) [(0,.obs (lM h))]:=by
 refine oz (ho:=[]) ⟨_,_,Tryz.func22,rfl,rfl⟩ ?_ rfl
 have LC:=GU hB.pst h.log.length hB.len hB.len
 have hch:=uw h.c (oU h.log) e (Nat.le_trans (GR _) hB.len) hB.cs
 rw[hck]at hch
 clear hck hB
 obtain⟨c,r,up,d,log,sent,ic,held,wait⟩:=h
 obtain⟨ek,key,lab,val⟩:=e
 dsimp only at hu
 subst hu
 dsimp only[CG,LX,nJ.av,nJ.cs,Ed.av,Ed.cs,Ev.av,Ev.cs,Zn,dS,List.append_nil]at*
 refine K1.M 0x8000000040000008080021ffb Tryz.func22 40 ?_
 repeat' ((conv=>whnf);first|refine K1.w ?_|refine K1.a ?_|refine K1.b ?_|refine K1.d ?_|refine K1.C 3 [(0,_)] (LC) rfl ?_|refine K1.P1 hch rfl ?_|refine K1.o (id:=3) [(0,none),(1,none),(2,none),(3,none),(4,none),(5,none),(6,none),(7,none),(9,none),(8,some [7,5]),(10,some [7,5,9,3,1]),(11,none)] [(2,[1]),(3,[1]),(6,[5]),(7,[5]),(8,[7,5]),(10,[7,5,9,3,1]),(11,[7,5,9,3,1])] ?_|refine K1.o (id:=10) [(0,none),(1,none),(2,none),(3,none),(4,none),(5,some [4,3,1]),(6,none)] [(2,[1]),(3,[1]),(5,[4,3,1]),(6,[4,3,1])] ?_|refine K1.o (id:=13) [(0,none),(1,none),(2,none),(3,none),(4,none),(5,none),(6,none),(7,none),(8,none),(9,none),(10,none),(11,none),(12,none),(13,none),(14,none),(15,none),(16,none),(17,none),(18,none),(19,none),(20,none),(21,some []),(22,some [19,17,15,13,10,9,7,5,3,1])] [(2,[1]),(3,[1]),(6,[5]),(7,[5]),(8,[7,5]),(9,[7,5]),(20,[19,17,15,13,10,9,7,5,3,1]),(21,[]),(22,[19,17,15,13,10,9,7,5,3,1])] ?_|refine K1.o (id:=14) [(0,none),(1,none),(2,none),(3,none),(4,none),(5,none),(6,some [5]),(7,none),(8,some [5,4,2]),(9,none)] [(3,[2]),(4,[2]),(6,[5]),(7,[5,4,2]),(8,[5,4,2]),(9,[5,4,2])] ?_|refine K1.o (id:=17) [(0,none),(1,none),(2,none),(3,none),(4,none),(5,some [4,3,1])] [(2,[1]),(3,[1]),(5,[4,3,1])] ?_|refine K1.o (id:=18) [(0,none),(1,none),(2,none),(3,none),(4,none),(5,some [4,3,1])] [(2,[1]),(3,[1]),(5,[4,3,1])] ?_|refine K1.z ?_|refine K1.q ?_|refine K1.bt ?_|refine K1.bf ?_|refine K1.y (fun _=>?_) (fun _=>?_)|refine iD.dec (fun _=>?_) (fun _=>?_)|refine iD.mk (fun _=>?_) (fun _=>?_))
 all_goals(conv=>whnf)
 exact⟨[],rfl,rfl,⟨aH rfl,aH rfl,aH rfl,aH rfl,aH rfl,aH rfl,aH rfl,aH rfl,trivial⟩,rfl,rfl,aj⟩
theorem LY (h:Nd) (e:Ed) (hB:NdB h) (hu:h.up=true) (hck:nS h.c.l h.c.p (oU h.log) e=0) (hq: ¬ (h.wait.length:Int)<h.c.q):
  aW Tryz.prog 22 [(0,.obs (lM h))] [.box 0 0,e.av] (.dL [Zn.av,.v (.int .i64 17)]) [(0,.obs (lM h))]:=by
 refine oz (ho:=[]) ⟨_,_,Tryz.func22,rfl,rfl⟩ ?_ rfl
 have LC:=GU hB.pst h.log.length hB.len hB.len
 have hch:=uw h.c (oU h.log) e (Nat.le_trans (GR _) hB.len) hB.cs
 rw[hck]at hch
 have b8:=hB.wl
 clear hck hB
 obtain⟨c,r,up,d,log,sent,ic,held,wait⟩:=h
 obtain⟨ek,key,lab,val⟩:=e
 dsimp only at hu
 subst hu
 dsimp only[CG,LX,zi,nJ.av,nJ.cs,Ed.av,Ed.cs,Ev.av,Ev.cs,Zn,dS,List.append_nil]at*
 refine K1.M 0x8000000040000008080021ffb Tryz.func22 40 ?_
 repeat' ((conv=>whnf);first|refine K1.w ?_|refine K1.a ?_|refine K1.b ?_|refine K1.d ?_|refine K1.C 3 [(0,_)] (LC) rfl ?_|refine K1.P1 hch rfl ?_|refine K1.I 0x5 Tryz.func51 ?_|refine K1.o (id:=3) [(0,none),(1,none),(2,none),(3,none),(4,none),(5,none),(6,none),(7,none),(9,none),(8,some [7,5]),(10,some [7,5,9,3,1]),(11,none)] [(2,[1]),(3,[1]),(6,[5]),(7,[5]),(8,[7,5]),(10,[7,5,9,3,1]),(11,[7,5,9,3,1])] ?_|refine K1.o (id:=10) [(0,none),(1,none),(2,none),(3,none),(4,none),(5,some [4,3,1]),(6,none)] [(2,[1]),(3,[1]),(5,[4,3,1]),(6,[4,3,1])] ?_|refine K1.o (id:=13) [(0,none),(1,none),(2,none),(3,none),(4,none),(5,none),(6,none),(7,none),(8,none),(9,none),(10,none),(11,none),(12,none),(13,none),(14,none),(15,none),(16,none),(17,none),(18,none),(19,none),(20,none),(21,some []),(22,some [19,17,15,13,10,9,7,5,3,1])] [(2,[1]),(3,[1]),(6,[5]),(7,[5]),(8,[7,5]),(9,[7,5]),(20,[19,17,15,13,10,9,7,5,3,1]),(21,[]),(22,[19,17,15,13,10,9,7,5,3,1])] ?_|refine K1.o (id:=14) [(0,none),(1,none),(2,none),(3,none),(4,none),(5,none),(6,some [5]),(7,none),(8,some [5,4,2]),(9,none)] [(3,[2]),(4,[2]),(6,[5]),(7,[5,4,2]),(8,[5,4,2]),(9,[5,4,2])] ?_|refine K1.o (id:=17) [(0,none),(1,none),(2,none),(3,none),(4,none),(5,some [4,3,1])] [(2,[1]),(3,[1]),(5,[4,3,1])] ?_|refine K1.o (id:=18) [(0,none),(1,none),(2,none),(3,none),(4,none),(5,some [4,3,1])] [(2,[1]),(3,[1]),(5,[4,3,1])] ?_|refine iG.lex 70 dW (fM dW _) jA (by kernel_rfl) ?_|refine Both.mk ?_ ?_|exact LeC.mk rfl rfl rfl rfl rfl|refine K1.z ?_|refine K1.q ?_|refine K1.bt ?_|refine K1.bf ?_|refine K1.y (fun _=>?_) (fun _=>?_)|refine iD.dec (fun _=>?_) (fun _=>?_)|refine iD.mk (fun _=>?_) (fun _=>?_))
 all_goals(conv=>whnf)
 exact⟨[],rfl,rfl,⟨aH rfl,aH rfl,aH rfl,aH rfl,aH rfl,aH rfl,aH rfl,aH rfl,trivial⟩,rfl,rfl,aj⟩
theorem LZ (h:Nd) (e:Ed) (d':Dk) (y:Int) (hy:y≠0) (hB:NdB h) (hu:h.up=true) (hck:nS h.c.l h.c.p (oU h.log) e=0) (hq:(h.wait.length:Int)<h.c.q) (hH:hgt h.log h.ic≤1000001)
  (hm:lC (Bh h (jf h e))=true) (hw:oV h.d (aQ (Bh h (jf h e)))=(d',y)):
  aW Tryz.prog 22 [(0,.obs (lM h))] [.box 0 0,e.av] (.dL [Zn.av,.v (.int .i64 18)]) [(0,.obs (lM ⟨h.c,h.r,false,d',h.log,h.sent,h.ic,h.held,h.wait⟩))]:=by
 refine Eh (ho:=[]) 15 10 11 12 13 14 ⟨_,_,Tryz.func22,rfl,rfl⟩ rfl ?_ rfl
 have LC:=GU hB.pst h.log.length hB.len hB.len
 have hch:=uw h.c (oU h.log) e (Nat.le_trans (GR _) hB.len) hB.cs
 rw[hck]at hch
 have hcl:=lU h.c.h h.ic (JH h.held) (.inr ⟨_,_,rfl⟩)
 have hcn:=FZ h.ic h.r hB.r (hB.ic _).1
 have hlt:h.ic.at h.r<1048576:=by have:=(hB.ic h.r).2;omega
 unfold Tf at hcn
 rw[if_pos hlt,if_pos hlt]at hcn
 have hhg:=AA h.log h.ic (by have:=hB.len;omega) fun e he=>by have:=hB.hh e he;omega
 have hpu:=JI (Bh h (jf h e)) hm (n:=1) (F:=chunk 12 (jf h e).cs) rfl fun i hi=>by
  obtain rfl:i=0:=by omega
  rfl
 have hmx:=oO (Bh h (jf h e)) hm
 have hdk:=zy h.d d' (aQ (Bh h (jf h e))) y (bD.bytes _) rfl (by have:=hB.bs;omega) (by omega) hw
 generalize aQ (Bh h (jf h e))=wb at hpu hdk hmx hw
 obtain⟨b1,-,-,b4,-,-,b7,b8,-,-⟩:=hB
 clear hm hw hck
 obtain⟨c,r,up,d,log,sent,⟨c0,c1,c2,c3,c4⟩,held,wait⟩:=h
 obtain⟨ek,key,lab,val⟩:=e
 dsimp only at hu b1 hlt
 subst hu
 dsimp only[jf,Bh,rcA,Zn,dS]at*
 generalize hgt log ⟨c0,c1,c2,c3,c4⟩=H at*
 dsimp only[CG,ndN,LX,PK,Ji,zi,nJ.av,nJ.cs,Ed.av,Ed.cs,Ev.av,Ev.cs,bn.av,bn.cs,rcA]at*
 refine K1.M 0x8000000040000008080021ffb Tryz.func22 40 ?_
 repeat' ((conv=>whnf);first|refine K1.w ?_|refine K1.a ?_|refine K1.b ?_|refine K1.d ?_|refine K1.C 3 [(0,_)] (LC) rfl ?_|refine K1.P1 hch rfl ?_|refine K1.C 1 [(0,_)] (hcl) rfl ?_|refine K1.P1 hcn rfl ?_|refine K1.P1 hhg rfl ?_|refine K1.P1 hpu rfl ?_|refine K1.C 2 [(0,_),(1,_)] (hdk) rfl ?_|(refine qM.five b1 (fun e=>?_) (fun e=>?_) (fun e=>?_) (fun e=>?_) (fun e=>?_)<;>subst e)|refine K1.I 0x5 Tryz.func51 ?_|refine K1.I 0x8207b Tryz.func54 ?_|refine K1.I 0x85 Tryz.func47 ?_|refine K1.o (id:=3) [(0,none),(1,none),(2,none),(3,none),(4,none),(5,none),(6,none),(7,none),(9,none),(8,some [7,5]),(10,some [7,5,9,3,1]),(11,none)] [(2,[1]),(3,[1]),(6,[5]),(7,[5]),(8,[7,5]),(10,[7,5,9,3,1]),(11,[7,5,9,3,1])] ?_|refine K1.o (id:=10) [(0,none),(1,none),(2,none),(3,none),(4,none),(5,some [4,3,1]),(6,none)] [(2,[1]),(3,[1]),(5,[4,3,1]),(6,[4,3,1])] ?_|refine K1.o (id:=13) [(0,none),(1,none),(2,none),(3,none),(4,none),(5,none),(6,none),(7,none),(8,none),(9,none),(10,none),(11,none),(12,none),(13,none),(14,none),(15,none),(16,none),(17,none),(18,none),(19,none),(20,none),(21,some []),(22,some [19,17,15,13,10,9,7,5,3,1])] [(2,[1]),(3,[1]),(6,[5]),(7,[5]),(8,[7,5]),(9,[7,5]),(20,[19,17,15,13,10,9,7,5,3,1]),(21,[]),(22,[19,17,15,13,10,9,7,5,3,1])] ?_|refine K1.o (id:=14) [(0,none),(1,none),(2,none),(3,none),(4,none),(5,none),(6,some [5]),(7,none),(8,some [5,4,2]),(9,none)] [(3,[2]),(4,[2]),(6,[5]),(7,[5,4,2]),(8,[5,4,2]),(9,[5,4,2])] ?_|refine K1.o (id:=17) [(0,none),(1,none),(2,none),(3,none),(4,none),(5,some [4,3,1])] [(2,[1]),(3,[1]),(5,[4,3,1])] ?_|refine K1.o (id:=18) [(0,none),(1,none),(2,none),(3,none),(4,none),(5,some [4,3,1])] [(2,[1]),(3,[1]),(5,[4,3,1])] ?_|refine iG.lex 70 dW (fM dW _) jA (by kernel_rfl) ?_|refine Both.mk ?_ ?_|exact LeC.mk rfl rfl rfl rfl rfl|refine K1.z ?_|refine K1.q ?_|refine K1.bt ?_|refine K1.bf ?_|refine K1.y (fun _=>?_) (fun _=>?_)|refine iD.dec (fun _=>?_) (fun _=>?_)|refine iD.mk (fun _=>?_) (fun _=>?_))
 all_goals(conv=>whnf)
 all_goals exact⟨[(49,15)],rfl,rfl,⟨aH rfl,aH rfl,aH rfl,aH rfl,aH rfl,aH rfl,aH rfl,aH rfl,trivial⟩,rfl,rfl,aj⟩
end
theorem JL:nV []=none:=by unfold nV;rw[if_pos (.inl (by decide))]
theorem VW (x:Rc) (h:lC x=true) (i:Nat) (hi:i<(aQ x).length):nV ((aQ x).take i)=none:=by
 have hb:=zu x h
 have hs:=eH (fO x)
 have hl:(aQ x).length=(aA (eX (fO x)).length).length+(eX (fO x)).length:=by unfold aQ;rw[List.length_append]
 unfold nV
 by_cases hc:i<(aA (eX (fO x)).length).length
 · have e:(aQ x).take i=(aA (eX (fO x)).length).take i:=by unfold aQ;rw[List.take_append_of_le_length (by omega)]
   rw[e,U9 hc,if_pos (.inl (by decide))]
 · have e:(aQ x).take i=aA (eX (fO x)).length++(eX (fO x)).take (i-(aA (eX (fO x)).length).length):=by
    unfold aQ
    rw[List.take_append,List.take_of_length_le (by omega)]
   rw[e,sW _ _ (by omega)]
   rw[if_pos (.inr (by rw[List.length_append,List.length_take];dsimp only;omega))]
end Go.Proofs.YtimhagicagdkfaaGreat
