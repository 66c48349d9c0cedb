/-
  Contracts of the walk:LvZ,SlD,SlG,OuB,OuS,CrcLaw,Turn,LvX,LvZg.
-/
import Derived.Test.YtifjccndenojlaaGreatWf21
import Derived.Test.YtifjccndenojlaaGreatWf15
import Derived.Test.YtifjccndenojlaaGreatWf17
import Derived.Test.YtifjccndenojlaaGreatWf10
import Derived.WalkKit
import Derived.Deep.RegionLaw
import Derived.Lib.Walk
import Derived.Lib.SliceRun
import Derived.Lib.LazyBuf
import Derived.Lib.AppendZerosOnto
import Derived.RegionTactic
import Derived.RegionCalls
set_option maxHeartbeats 16000000
set_option maxRecDepth 100000
set_option linter.unusedVariables false
set_option linter.unusedSimpArgs false
namespace Go.Proofs.YtifjccndenojlaaGreat
open Go.RowKit
open Go.Proofs.Tryz
variable{R:AV->Value->Prop}{xs:List AV}{P:List Ev}{l:List UInt8}{us:List Value}{b i j k m n q:Nat}{F:Nat->List AV}{keep:Nat->Prop}{e t:TypeId}{w:World}
theorem LG(P:List Ev):(pz P).length<=P.length:=by
 unfold pz keysB;rw[aoO];refine ao7 (xI _) ?_;unfold sortL;rw[apX,aoO];exact aoI ..
theorem af'(P:List Ev):qF P<=P.length:=by
 rw[<-PS];exact aoI ..
def wF(P:List Ev)(m:Nat):OB:=yF (iO P) (qF P:Int) m
theorem aj8:aj prog 107 [] [] (.box 0 0) [(0,.obs (wF [] 0))]:=amG
theorem SK{e:Ev}(t:Gg (nX (eqK e.key) P) e)(hm:eH e=0)(hl:P.length<=1000000)(m:Nat):
  aj prog 89 [(0,.obs (wF P m))] [.box 0 0,e.av] (.v (.int .i64 0)) [(0,.obs (wF (P++[e]) (m+1)))]:=by
 have h1:=aaE P e.key;have h2:=af' P;have:=aiQ (iO P) (qF P) m e hm o_ o_ o_;rw[af8 t,acn t]at this;exact this
theorem LH(hp:∀key,YK (nX (eqK key) P) key)(m:Nat)(hl:P.length<=1000000)(hm:m<=1000000):
  aj prog 45 [(0,.obs (wF P m))] [.box 0 0] (.own 3) [(0,.obs (wF P m)),(3,.row 68 7 (pz P).length false (F8 (pz P)))]:=by
 have h1:=LG P;exact alq (iO P) (qF P) m (pz P) (λ k=>by have:=aaE P k;omega) o_ o_ λ ss hs h=>af9 hp hs h
theorem aaF{z:Value}(hz:z.cells.size=12)(h1:∀u∈z.cells.toList,u.oneCell'=true):∀m,(List.replicate m z.cells.toList).flatten.length=m*12/\ ∀u∈(List.replicate m z.cells.toList).flatten,u.oneCell'=true
 |0=>⟨s_,λ u h=>by simp at h⟩
 |m+1=>by
  obtain⟨a,b⟩:=aaF hz h1 m;rw[aqb,List.flatten_cons];refine⟨by rw[aop,a,aoY,hz];omega,λ u hu=>?_⟩;rcases aov.1 hu with h|h
  ·exact h1 u h
  ·exact b u h
theorem Wh{ty:TypeId}{z:Value}(hu:prog.underlying t=some (.slice e))(hz:(zeroValue e).run prog w= .ok z w)(hzs:z.cells.size=12)(h1:∀u∈z.cells.toList,u.oneCell'=true){o c:Nat}(hm:0<m)
  (hc:∀j,j<m*12->(w.cell? ⟨b,o+j,none⟩).isSome=true)(hf:∀j,j<m*12->w.frozen? ⟨b,o+j,none⟩=false):
  (Builtin.clear_ #[t] ty #[.slice (some ⟨b,o,none⟩) m c]).run prog w= .ok (.tuple #[]) (w.setCells b o (List.replicate m z.cells.toList).flatten):=by
 obtain⟨z1,z2⟩:=aaF hzs h1 m;have hst:=run_storeCells_cells (P:=prog) b o (List.replicate m z.cells.toList).flatten 0 w (by rw[z1];simpa using hc) (by rw[z1];simpa using hf) z2;simp only[aqL]at hst;exact sQ hu hz hzs hm hst
theorem mg{f:Nat->Value}(h:w.rowIs b t n f)(hj:j<n):w.cell? ⟨b,j,none⟩=some (f j)/\w.frozen? ⟨b,j,none⟩=false:=by
 obtain⟨c,h1,h2,h3⟩:=h;have:=h3 j hj;exact⟨by simp[World.cell?,h1,this],by simp[World.frozen?,h1]⟩
theorem tH(b:Nat)(w:World):∀(vs:List Value)(o:Nat)(v:World),dL (λ k=>k=b) w.heap.size w v->dL (λ k=>k=b) w.heap.size w (v.setCells b o vs)
 |[],_,_,h=>h
 |x::r,o,v,h=>tH b w r (o+1) _ ⟨h.os,h.tape,h.output,by
    have:=h.size;simpa[World.setCell]using this,λ k hk hM=>by
    rw[<-h.block k hk hM];exact heap_setCell_other v _ k x hM⟩
theorem LJ{v:Value}{s:Nat}(hs:0<s)(hv:v= .slice none 0 0\/ ∃g G cur,v= .slice (some ⟨g,0,none⟩) 0 G/\w.heap[g]? =some (.cells cur e (0,0))/\G<=maxLen/\cur.size=G*s){ρ:Nat->Value}:pJ ⟨w,keep,ρ⟩ v e s 0 true F:=by
 refine⟨[],⟨s_, ?_⟩,hs,λ i hi=>absurd hi (aoM i),λ _ x hx=>(by cases hx),aG.nil⟩;rcases hv with rfl|⟨g,G,cur,rfl,h1,h2,h3⟩
 ·exact .inl ⟨rfl,rfl⟩
 ·exact .inr ⟨g,G,cur,rfl,aoB _,h1,aoB _,h2,h3,s_⟩
theorem LK{x y z:AV}(h:aG R [x,y,z] us):∃u v t,us=[u,v,t]/\R x u/\R y v/\R z t:=by
 match us,h with
 |[u,v,t],h=>exact⟨u,v,t,rfl,h.2 0 _ _ rfl rfl,h.2 1 _ _ rfl rfl,h.2 2 _ _ rfl rfl⟩
theorem aco(g cap n k:Nat)(cur:Array Value)(w:World)(hg:w.heap[g]? =some (.cells cur 83 (0,0)))(hn:n<=cap)(hcm:cap<=maxLen)(hcs:cur.size=cap*12)(hk:k<=n)(h1:∀u∈cur.toList.take (n*12),u.oneCell'=true):
  Calls prog 178 #[.slice (some ⟨g,0,none⟩) n cap,.int .i64 0,.int .i64 (k:Int)] w λ e w'=>e= .returned (.slice (some ⟨g,0,none⟩) (n-k) cap)/\dL (λ b=>b=g) w.heap.size w w'/\
   ∃cur',w'.heap[g]? =some (.cells cur' 83 (0,0))/\cur'.size=cur.size/\cur'.toList.take ((n-k)*12)=(cur.toList.drop (k*12)).take ((n-k)*12):=by
 obtain⟨i0,hi0,hz0,hs0⟩:∃i0:TypeInfo,prog.info? 83=some i0/\i0.zero=some (evV ev0)/\i0.size=12:=⟨_,rfl,rfl,rfl⟩;have hcap:cap<=9223372036854775807:=by unfold maxLen at hcm;omega
 by_cases h0:k=0
 ·subst h0;have hc:Calls prog 178 #[.slice (some ⟨g,0,none⟩) n cap,.int .i64 0,.int .i64 0] w λ e w'=>e= .returned (.slice (some ⟨g,0,none⟩) n cap)/\w'=w:=by
   clear hg;go_enter func178,Tryz.ntmps178;go_wp2;all_goals(go_ret;exact⟨rfl,rfl⟩)
  refine hc.mono ?_;rintro e w' ⟨rfl,rfl⟩;exact⟨rfl,dL.refl _ _ _,cur,hg,rfl,s_⟩
 ·have hR:w.drew.rowIs g 83 (cap*12) (λ j=>cur[j]?.getD default):=⟨cur,hg,hcs,λ i hi=>by show cur[i]? =some (cur[i]?.getD default);rw[aqk o_];rfl⟩;obtain⟨news,hnews⟩:∃news,news=(cur.toList.drop (k*12)).take ((n-k)*12):=⟨_,rfl⟩;have hlen:news.length=(n-k)*12:=by rw[hnews,aou,aoK,aoY,hcs];omega
  have hget:∀t u,news[t]? =some u->cur[k*12+t]? =some u:=by
   intro t u h;rw[hnews,apg]at h;split at h
   ·rw[apC,apF]at h;exact h
   ·cases h
  obtain⟨A,hA,hsrc⟩:∃A:Addr,(if cap=k then some (⟨g,0,none⟩:Addr)else some ⟨g,k*12,none⟩)=some A/\Hid (∀t u,news[t]? =some u->w.drew.cell? (A.add t)=some u):=by
   by_cases h:cap=k
   ·refine⟨⟨g,0,none⟩,by simp[h],λ t u hu=>?_⟩;have h0:news.length=0:=by rw[hlen];omega
    rw[apr.1 h0]at hu;simp at hu
   ·refine⟨⟨g,k*12,none⟩,by simp[h],λ t u hu=>?_⟩;have hc:=hget t u hu;have ht:k*12+t<cap*12:=by rw[<-hcs];exact(ao5.1 hc).1
    rw[add_lit,(mg hR ht).1,hc];rfl
  have s1:Hid (news.length=(n-k)*12):=hlen;have s2:Hid (∀u∈news,u.oneCell'=true):=by
   intro u hu;rw[hnews]at hu;obtain⟨t,ht,rfl⟩:=ape hu;have h2:=hget t _ (by rw[hnews];exact aom ht);rw[aou,aoK,aoY,hcs]at ht;refine h1 _ (List.mem_iff_getElem?.2 ⟨k*12+t, ?_⟩);rw[apg,if_pos o_,apF];exact h2
  have s3:Hid (∀t,t<news.length->(w.drew.cell? ⟨g,0+0*12+t,none⟩).isSome=true/\w.drew.frozen? ⟨g,0+0*12+t,none⟩=false):=by
   intro t ht;rw[hlen]at ht;have:=mg hR (j:=t) o_;rw[show 0+0*12+t=t by omega];exact⟨by rw[this.1];rfl,this.2⟩
  obtain⟨W1,hW1⟩:∃W1,W1=w.drew.setCells g (0+0*12) news:=⟨_,rfl⟩;have hR1:=Go.rowIs_setCells news (0+0*12) w.drew _ hR;have hB1:dL (λ b=>b=g) w.heap.size w W1:=by rw[hW1];exact tH g w news _ _ ⟨rfl,rfl,rfl,aoH _,λ _ _ _=>rfl⟩
  rw[<-hW1]at hR1;have hcl:∀ty,(Builtin.clear_ #[104] ty #[.slice (some ⟨g,(n-k)*12,none⟩) (n-(n-k)) (cap-(n-k))]).run prog W1= .ok (.tuple #[]) (W1.setCells g ((n-k)*12) (List.replicate (n-(n-k)) (evV ev0).cells.toList).flatten):=
   λ ty=>Wh Tryz.underlying104 (rP W1) rfl d_ o_ (λ j hj=>by rw[(mg hR1 o_).1];rfl) (λ j hj=>(mg hR1 o_).2)
  obtain⟨W2,hW2⟩:∃W2,W2=W1.setCells g ((n-k)*12) (List.replicate (n-(n-k)) (evV ev0).cells.toList).flatten:=⟨_,rfl⟩;have hR2:=Go.rowIs_setCells (List.replicate (n-(n-k)) (evV ev0).cells.toList).flatten ((n-k)*12) W1 _ hR1;have hB2:dL (λ b=>b=g) w.heap.size w W2:=by rw[hW2];exact tH g w _ _ _ hB1
  rw[<-hW2]at hR2 hcl;have hfin:∃cur',W2.heap[g]? =some (.cells cur' 83 (0,0))/\cur'.size=cur.size/\cur'.toList.take ((n-k)*12)=news:=by
   obtain⟨c,c1,c2,c3⟩:=hR2;refine⟨c,c1,o_,apV λ t=>?_⟩;rw[apg];by_cases ht:t<(n-k)*12
   ·rw[if_pos ht,apF,c3 t o_];dsimp only;rw[if_neg o_,if_pos o_,show t-(0+0*12)=t by omega,aom o_];rfl
   ·rw[if_neg ht,aoW o_]
  have hW:Hid (W1=w.drew.setCells g (0+0*12) news):=hW1;have hnk:n-k<=cap:=o_
  have hkc:k<=cap:=o_
  have hne:¬ ((0:Int)=(k:Int)):=o_
  rw[<-hnews];clear hW1 hR hR1 hR2 hB1 hg hcs h1 hget hlen hW2 hi0 hz0;refine Calls.mono (R:=λ e w'=>e= .returned (.slice (some ⟨g,0,none⟩) (n-k) cap)/\w'=W2) ?_ (by rintro e w' ⟨rfl,rfl⟩;exact⟨rfl,hB2,hfin⟩);clear hB2 hfin;obtain⟨i0,hi0,hs0⟩:∃i0:TypeInfo,prog.info? 83=some i0/\i0.size=12:=⟨_,rfl,rfl⟩;go_enter func178,Tryz.ntmps178;go_wp2_with fail;go_region_law (refine step_append_room rfl (.tmp 22) (.tmp 25) 104 rfl 83 i0 12 Tryz.underlying104 hi0 hs0 g 0 0 cap (by simp[Act.eval,Act.put]) A (n-k) (cap-k) news (by simp[Act.eval,Act.put]) s1.out hsrc.out s2.out o_ s3.out ?_;rw[<-hW.out]);go_wp2;go_ret;exact⟨rfl,rfl⟩
theorem aiW(w:World):Calls prog 178 #[.slice none 0 0,.int .i64 0,.int .i64 0] w λ e w'=>e= .returned (.slice none 0 0)/\w'=w:=by
 go_enter func178,Tryz.ntmps178
 go_wp2
 all_goals(go_ret;exact⟨rfl,rfl⟩)
theorem PX{α:Type}{c:α->List AV}{s:Nat}(hc:∀e,(c e).length=s):∀(k:Nat)(l:List α),k<=l.length->(l.flatMap c).drop (k*s)=(l.drop k).flatMap c
 |0,l,_=>s_
 |k+1,[],h=>absurd h s_
 |k+1,x::l,h=>by
  rw[apa,List.drop_succ_cons,<-PX hc k l (by simpa using h),show(k+1)*s=(c x).length+k*s by rw[hc,apN];omega,List.drop_length_add_append]
theorem PY{w':World}{keep':Nat->Prop}(hs:∀x∈xs,∃y,x= .v y)(h:aG (PC w keep) xs us):aG (PC w' keep') xs us/\ ∀u∈us,u.oneCell'=true:=by
 refine⟨⟨h.1,λ i x u hx hu=>?_⟩,λ u hu=>?_⟩
 ·obtain⟨y,rfl⟩:=hs x (ao3 hx);have:=h.2 i _ u hx hu;cases this with|v _ h1=>exact .v _ h1
 ·obtain⟨i,hi⟩:=List.mem_iff_getElem?.1 hu;have hl:i<xs.length:=by rw[h.1];exact(aoC.1 hi).1
  obtain⟨y,hy⟩:=hs xs[i] (ao1 hl);have:=h.2 i _ u (by rw[aom hl,hy]) hi;cases this with|v _ h1=>exact h1
theorem aG.drop'(h:aG R xs us)(k:Nat):aG R (xs.drop k) (us.drop k):=
 ⟨by rw[aoK,aoK,h.1],λ i x u hx hu=>h.2 (k+i) x u (by rw[apC]at hx;exact hx) (by rw[apC]at hu;exact hu)⟩
theorem amH(k:Nat)(l:List Ev)(hk:k<=l.length):aj prog 178 [(0,bH l)] [.own 0,.v (.int .i64 0),.v (.int .i64 (k:Int))] (.own 1) [(1,bH (l.drop k))]:=by
 refine⟨⟨_,_,func178,rfl,rfl⟩,λ w keep ρ args hkp jo hnd hbl hargs=>?_⟩;obtain⟨us,hown,_,hfl,hsc,ha⟩:=jo _ (aoo.2 rfl);have hsc:=hsc rfl;obtain⟨u,v,x,rfl,hu,hv,hx⟩:=LK hargs;have hu:u=ρ 0:=Eq.trans (show u=dJ (ρ 0)from hu) (eY hown);have hv:v= .int .i64 0:=hv;have hx:x= .int .i64 (k:Int):=hx;subst hu hv hx;have hlen:∀e:Ev,(Ev.cs e).length=12:=λ _=>rfl;have hul:us.length=l.length*12:=hown.1;have hfe:flat l.length (dI l)=l.flatMap Ev.cs:=vU Ev.cs l;have hfd:flat (l.drop k).length (dI (l.drop k))=(flat l.length (dI l)).drop (k*12):=by rw[hfe,PX hlen k l hk];exact vU Ev.cs _
 have hsd:∀x∈flat (l.drop k).length (dI (l.drop k)),∃y,x= .v y:=λ x hx=>by rw[hfd]at hx;exact hsc x (ap8 hx)
 rcases hown.2 with⟨hv,hn⟩|⟨g,cap,cur,hv,_,hg,hncap,hcm,hcs,htk⟩
 ·have hnil:l=[]:=aoz hn;subst hnil;obtain rfl:k=0:=Nat.le_zero.1 hk;rw[show(ρ 0)= .slice none 0 0 from hv];refine(aiW w).mono ?_;rintro e w' ⟨rfl,rfl⟩;let ρ':Nat->Value:=λ _=> .slice none 0 0;refine⟨_,ρ',rfl,dL.refl _ _ _,λ p hp q hq h=>?_,rfl,λ p hp=>?_,by simp[ah,ρ',blks,iQ],λ b hb=>by simp[ah,ρ',blks,iQ]at hb⟩
  ·obtain rfl:=aoo.1 hp;obtain rfl:=aoo.1 hq;cases h
  ·obtain rfl:=aoo.1 hp;exact LJ d_ (.inl rfl)
 ·rw[show(ρ 0)= .slice (some ⟨g,0,none⟩) l.length cap from hv];refine(aco g cap l.length k cur w hg hncap hcm hcs hk (by rw[htk];exact(PY (w':=w) (keep':=keep) hsc ha).2)).mono ?_;rintro e w' ⟨rfl,hB,cur',hg',hcs',alr⟩;have hb:g∈ah ρ [(0,bH l)]:=aQ.2 ⟨_,aoo.2 rfl,by rw[show ρ 0= .slice (some ⟨g,0,none⟩) l.length cap from hv];exact aol⟩;let ρ':Nat->Value:=λ _=> .slice (some ⟨g,0,none⟩) (l.length-k) cap;have hdl:(l.drop k).length=l.length-k:=aoK;refine⟨_,ρ',rfl,⟨hB.os,hB.tape,hB.output,hB.size,λ j hj hM=>hB.block j hj (by rintro rfl;exact hM hb)⟩,λ p hp q hq h=>?_,rfl,λ p hp=>?_,by simp[ah,ρ',blks,iQ],λ b hbm=>?_⟩
  ·obtain rfl:=aoo.1 hp;obtain rfl:=aoo.1 hq;cases h
  ·obtain rfl:=aoo.1 hp;refine⟨us.drop (k*12),⟨by rw[aoK,hul,hdl,Nat.sub_mul],.inr ⟨g,cap,cur',by rw[hdl];rfl,aoB _,hg',o_,hcm,by rw[hcs',hcs], ?_⟩⟩,d_,λ _ _=>rfl,λ _=>hsd, ?_⟩
   ·rw[hdl,alr,<-htk,List.drop_take,Nat.sub_mul]
   ·rw[hfd];exact(PY (λ x hx=>hsc x (ap8 hx)) (ha.drop' (k*12))).1
  ·have:b=g:=by simpa[ah,ρ',blks,iQ]using hbm
   subst this;exact .inr hb
theorem YR(n:Nat)(hn:n<=1000000)(w:World):Calls prog 206 #[.slice none 0 0,.int .i64 (n:Int)] w λ e w'=>
  (e= .returned (.slice none 0 0)/\w'=w)\/ ∃G cur,e= .returned (.slice (some ⟨w.heap.size,0,none⟩) 0 G)/\w'=w.drew.alloc (.cells cur 83)/\G<=maxLen/\cur.size=G*12:=by
 obtain⟨i0,hi0,hz0,hs0,hb0,hzc⟩:∃i0:TypeInfo,prog.info? 83=some i0/\(∃z,i0.zero=some z/\z.cells.size=12)/\i0.size=12/\i0.bytes<=200/\True:=⟨_,rfl,⟨_,rfl,rfl⟩,rfl,by decide+kernel,trivial⟩;obtain⟨z,hz,hzs⟩:=hz0;by_cases h0:n=0
 ·subst h0;go_enter func206,Tryz.ntmps206;go_wp2;go_ret;exact .inl ⟨rfl,rfl⟩
 ·have h1:¬ ((n:Int)<0):=o_
  have h4:(n:Int)>0:=o_
  have hby:n*i0.bytes<=200000000:=ao7 (Nat.mul_le_mul hn hb0) d_;have hrz:∀ty,(Builtin.append_ #[104,3] ty #[.slice none 0 0,.int .i64 (n:Int)]).run prog w=
    .ok (.slice (some ⟨w.heap.size,0,none⟩) n (grownCap w n 0 83)) (w.drew.alloc (.cells (#[]++Builtin.zeroCells z.cells n++Builtin.zeroCells z.cells (grownCap w n 0 83-n)) 83)):=λ ty=>by
   have h:=Lib.run_append_grow_zeros w 104 3 ty 83 i0 z .i64 .i64 Tryz.underlying104 Tryz.underlying3 hi0 hz none 0 0 [] (run_firstCells_none w.drew i0.size 0 0 0) n o_ o_ o_ o_ o_ (by rw[apl];exact growslice_fits o_ o_);rw[apl]at h;exact h
  have hGn:n<=grownCap w n 0 83:=grownCap_ge w _ _ _;have hGm:grownCap w n 0 83<=maxLen:=grownCap_le_maxLen w n 0 _ (by unfold maxLen;omega);obtain⟨G,hG⟩:∃G,G=grownCap w n 0 83:=⟨_,rfl⟩;rw[<-hG]at hrz hGn hGm;have hG63:G<=9223372036854775807:=by unfold maxLen at hGm;omega
  have hsz:(#[]++Builtin.zeroCells z.cells n++Builtin.zeroCells z.cells (G-n)).size=G*12:=by
   simp[Builtin.zeroCells,hzs];rw[<-apN];congr 1;omega
  obtain⟨C,hC⟩:∃C,C= #[]++Builtin.zeroCells z.cells n++Builtin.zeroCells z.cells (G-n):=⟨_,rfl⟩;rw[<-hC]at hrz hsz;clear hG hC hz hzs z hi0 hs0 hb0 hzc hby;go_enter func206,Tryz.ntmps206;go_wp2_with (at_builtin;refine Lib.wpList_append_run _ rfl _ _ _ _ rfl _ _ rfl rfl _ _ (hrz _) ?_);all_goals(go_ret;exact .inr ⟨G,rfl,C,rfl,hGm,hsz⟩)
theorem cells_at{o:Obj}:(w.drew.alloc o).heap[w.heap.size]? =some o:=by first|rfl|exact Array.getElem?_push_size ..
theorem als(d:Nat)(x:Int)(h0:0<=x)(h1:x<=1000000):aH prog 206 [.v (.slice none 0 0),.v (.int .i64 x)] (.own d) [(d,.row 83 12 0 true (dI []))]:=by
 obtain⟨n,rfl⟩:∃n:Nat,x=(n:Int):=⟨x.toNat,o_⟩;refine⟨⟨_,_,func206,rfl,rfl⟩,λ w keep args hk hargs=>?_⟩;obtain⟨u,v,rfl,hu,hv⟩:=nC hargs;have hu:u= .slice none 0 0:=hu;have hv:v= .int .i64 (n:Int):=hv;subst hu hv;refine(YR n o_ w).mono ?_;rintro e w' (⟨rfl,rfl⟩|⟨G,cur,rfl,rfl,hG,hc⟩)
 ·exact⟨_,λ _=> .slice none 0 0,rfl,apD _ _,rfl,λ p hp=>by rw[aoo.1 hp];exact LJ d_ (.inl rfl),by simp[ah,blks,iQ],λ b hb=>by simp[ah,blks,iQ]at hb⟩
 ·refine⟨_,λ _=> .slice (some ⟨w.heap.size,0,none⟩) 0 G,rfl,((apD _ _).drew).alloc (aoH _) _,rfl,λ p hp=>by rw[aoo.1 hp];exact LJ d_ (.inr ⟨_,G,cur,rfl,cells_at,hG,hc⟩),by simp[ah,blks,iQ],λ b hb=>?_⟩;have:b=w.heap.size:=by simpa[ah,blks,iQ]using hb
  omega
theorem LM(d:Nat)(h l:List Ev)(hh:h.length<=400000)(hl:l.length<=400000):aH prog 179 [.sl 1 2 false (chunk 1 [.sl 12 h.length true (dI h),.sl 12 l.length true (dI l)])] (.own d) [(d,bH (h++l))]:=by
 refine K1.E 0x1e101f6d func179 ?_;repeat' ((conv=>whnf);first|refine K1.u ?_|refine K1.F1 (als _ _ o_ o_) ?_ rfl rfl|refine aI.yP 11 3 rfl ?_|refine aI.yP 27 3 rfl ?_|fail)
 all_goals(conv=>whnf)
 exact aU.uV d rfl rfl (dK.row s_ λ i hi=>by
  have e1:kV 0 (dI []) (dI h)=dI h:=funext λ i=>els_app (c:=Ev.cs) (l:=[]) (l':=h) rfl i;rw[e1];exact els_app (c:=Ev.cs) o_ i) (au)
theorem YS(d:Nat)(hl:n<=1000000000):aH prog 95 [.sl 12 n true F] (.own d) [(d,.row 83 12 n true F)]:=by
 refine K1.E 0x15 func95 ?_;repeat' ((conv=>whnf);first|refine K1.u ?_|refine K1.y (λ _=>?_) (λ _=>?_)|fail)
 all_goals(conv=>whnf)
 ·obtain rfl:n=0:=a_
  exact aU.nil d _ 12 _ rfl d_
 ·exact aU.uV d rfl rfl (dK.row o_ λ i hi=>rfl) (au)
theorem Wi(b:Nat)(most batch sent:Int)(n cap:Nat)(w:World)(A:Option Addr)(hb:w.heap[b]? =some (.cells #[.int .i64 most,.int .i64 batch,.int .i64 sent,.slice A n cap] 182 (0,0)))(hn:n<=cap)(hc:cap<=maxLen)(hA:A=none->cap=0)
  {Φ:Value->World->Prop}(hcl:Calls prog 95 #[.slice A (min (max batch 0) (n:Int)).toNat (min (max batch 0) (n:Int)).toNat] w.drew λ e w2=> ∃u,e= .returned u/\Φ u w2):
  Calls prog 57 #[.pointer (some ⟨b,0,none⟩)] w λ e w2=> ∃u,e= .returned u/\Φ u w2:=by
 have c1:w.cell? ⟨b,1,none⟩=some (.int .i64 batch):=by simp[World.cell?,hb]
 have c3:w.cell? ⟨b,3,none⟩=some (.slice A n cap):=by simp[World.cell?,hb]
 have hk:(min (max batch 0) (n:Int)).toNat<=cap:=o_
 have hk0:0<=min (max batch 0) (n:Int):=o_
 have hkc:min (max batch 0) (n:Int)<=cap:=o_
 clear hb;go_enter func57,Tryz.ntmps57;go_wp2;go_region;all_goals go_wp2_with (go_at_call 95;refine hcl.mono ?_;rintro e w2 ⟨u,rfl,hu⟩)
 all_goals go_ret
 all_goals exact⟨_,rfl,hu⟩
theorem PZ{s:Nat}:∀(k n:Nat)(F:Nat->List AV),k<=n->(∀i,i<k->(F i).length=s)->flat k F=(flat n F).take (k*s)
 |0,n,F,_,_=>by rw[aqN,List.take_zero];rfl
 |k+1,0,F,h,_=>absurd h o_
 |k+1,n+1,F,h,hF=>by
  show F 0++flat k (λ i=>F (i+1))=(F 0++flat n (λ i=>F (i+1))).take ((k+1)*s);rw[PZ k n (λ i=>F (i+1)) o_ (λ i hi=>hF (i+1) o_),show(k+1)*s=(F 0).length+k*s by rw[hF 0 o_,apN];omega,List.take_length_add_append]
theorem aG.take'(h:aG R xs us)(k:Nat):aG R (xs.take k) (us.take k):=
 ⟨by rw[aou,aou,h.1],λ i x u hx hu=>by
  rw[apg]at hx hu;split at hx
  ·rw[if_pos ‹_›]at hu;exact h.2 i x u hx hu
  ·cases hx⟩
theorem aiX(most batch sent:Int)(l:List Ev)(hl:l.length<=1000000):aj prog 57 [(0,zV most batch sent (.own 1)),(1,bH l)] [.box 0 0] (.sl 12 (min (max batch 0) (l.length:Int)).toNat true (dI l)) [(0,zV most batch sent (.own 1)),(1,bH l)]:=by
 refine⟨⟨_,_,func57,rfl,rfl⟩,λ w keep ρ args hkp jo hnd hbl hargs=>?_⟩;obtain⟨b,us0,hρ,hb,ha0⟩:=jo (0,zV most batch sent (.own 1)) aol;obtain⟨us,hown,_,hfl,hsc,ha⟩:=jo (1,bH l) (aoq _ aol);have hρ:ρ 0= .pointer (some ⟨b,0,none⟩):=hρ;have hb:w.heap[b]? =some (.cells us0.toArray 182 (0,0)):=hb;have hown:w.ownsRow 0 83 12 (ρ 1) l.length us:=hown;have e0:us0=[.int .i64 most,.int .i64 batch,.int .i64 sent,ρ 1]:=by
  match us0,ha0 with
  |[x0,x1,x2,x3],h=>
   have h0:x0=_:=h.2 0 _ _ rfl rfl;have h1:x1=_:=h.2 1 _ _ rfl rfl;have h2:x2=_:=h.2 2 _ _ rfl rfl;have h3:x3=dJ (ρ 1):=h.2 3 _ _ rfl rfl;rw[h0,h1,h2,h3,eY hown]
 obtain⟨u,rfl,hu⟩:=rM hargs;obtain⟨b',hb1,rfl⟩:∃b',dJ (ρ 0)= .pointer (some ⟨b',0,none⟩)/\u= .pointer (some ⟨b',0,none⟩):=hu;rw[hρ]at hb1;cases hb1;obtain⟨A,cap,hv,hA,hnc,hcm⟩:∃A cap,ρ 1= .slice A l.length cap/\(A=none->cap=0)/\l.length<=cap/\cap<=maxLen:=by
  rcases hown.2 with⟨hv,hn⟩|⟨g,cap,cur,hv,_,_,h1,h2,_⟩
  ·exact⟨none,0,by rw[hv,hn],λ _=>rfl,o_,by simp[maxLen]⟩
  ·exact⟨some ⟨g,0,none⟩,cap,hv,λ h=>(by cases h),h1,h2⟩
 generalize hK:(min (max batch 0) (l.length:Int)).toNat=K;have hKl:K<=l.length:=o_
 have hb2:w.heap[b]? =some (.cells #[.int .i64 most,.int .i64 batch,.int .i64 sent,.slice A l.length cap] 182 (0,0)):=by rw[hb,e0,hv]
 refine(Wi b most batch sent l.length cap w A hb2 hnc hcm hA (Φ:=λ u w'=>Below w.heap.size w w'/\PC w' (aJ (dX w keep (λ b=>b∈ah ρ [(0,zV most batch sent (.own 1)),(1,bH l)])) w' ρ [(0,zV most batch sent (.own 1)),(1,bH l)]) (.sl 12 K true (dI l)) u) ?_).mono ?_
 ·rw[hK];have hblk:∀c∈blks (ρ 1),c<w.heap.size:=λ c hc=>(hbl c (aQ.2 ⟨(1,bH l),aoq _ aol,hc⟩)).1;have hfk:flat K (dI l)=(flat l.length (dI l)).take (K*12):=PZ K l.length _ hKl (λ i _=>rfl);have hpc:PC w.drew (λ c=>c∈blks (ρ 1)) (.sl 12 K true (dI l)) (.slice A K K):=by
   refine .sl 12 K true (dI l) A K (us.take (K*12)) d_ (aoH _) o_ (by rw[aou,hown.1];omega) (λ _ _=>rfl) (λ _ x hx=>?_) ?_ ?_
   ·rw[hfk]at hx;exact hsc rfl x (apn hx)
   ·rw[hfk];exact((PY (λ x hx=>hsc rfl x hx) ha).1.take' (K*12)).2
   ·rcases hown.2 with⟨hv',hn⟩|⟨g,cap',cur,hv',_,hg,h1,h2,h3,h4⟩
    ·exact .inl o_
    ·rw[hv]at hv';cases hv';refine .inr ⟨g,0,rfl,by rw[hv];exact aol,λ j u hj=>?_⟩;have hj':us[j]? =some u:=by rw[apg]at hj;split at hj;exact hj;cases hj
     have:=hown.cells (g:=g) (by rw[hv];rfl) j u hj';rw[apk]at this;exact this
  refine((YS 0 (n:=K) (F:=dI l) o_).2 w.drew (λ c=>c∈blks (ρ 1)) [.slice A K K] hblk ⟨rfl,λ i x u hx hu=>?_⟩).mono ?_
  ·match i,hx,hu with
   |0,hx,hu=>cases hx;cases hu;exact hpc
  ·rintro e w' ⟨u,ρ',h1,h2,h3,h4,h5,h6⟩;obtain⟨us',hown',hs0,aek,Rf,hall⟩:=h4 _ (aoo.2 rfl);have hown':w'.ownsRow 0 83 12 (ρ' 0) K us':=hown';have h2:Below w.heap.size w w':=⟨h2.os,h2.tape,h2.output,h2.size,h2.block⟩;refine⟨u,h1,h2, ?_⟩;have h3:u=ρ' 0:=Eq.trans (show u=dJ (ρ' 0)from h3) (eY hown');have ha':=(PY (w':=w') (keep':=aJ (dX w keep (λ b=>b∈ah ρ [(0,zV most batch sent (.own 1)),(1,bH l)])) w' ρ [(0,zV most batch sent (.own 1)),(1,bH l)]) (λ x hx=>Rf rfl x hx) hall).1;rw[h3];rcases hown'.2 with⟨hv',hz⟩|⟨g,cap',cur,hv',hB,hh,hnc',hcm',_⟩
   ·rw[hv'];rw[hz]at hown' ha'⊢;exact .sl 12 0 true _ none 0 us' d_ (aoH _) (by simp[maxLen]) hown'.1 (λ _ _=>rfl) (λ _ x hx=>by simp[flat]at hx) ha'.2 (.inl rfl)
   ·rw[hv'];have hge:w.heap.size<=g:=h6 g (aQ.2 ⟨_,aoo.2 rfl,by rw[hv'];exact aol⟩);refine .sl 12 K true _ _ cap' us' d_ hnc' hcm' hown'.1 (λ _ _=>rfl) (λ h x hx=>Rf h x hx) ha'.2 (.inr ⟨g,0,rfl,⟨(ao5.1 hh).1,λ hlt=>absurd (show g<w.heap.size from hlt) o_,λ h=>?_⟩,λ j u hj=>?_⟩)
    ·have:=(hbl g h).1;omega
    ·have:=hown'.cells (g:=g) (by rw[hv'];rfl) j u hj;rwa [apk]at this
 ·rintro e w' ⟨u,rfl,hB,hp⟩;have hkk:∀c,keep c->aJ (dX w keep (λ b=>b∈ah ρ [(0,zV most batch sent (.own 1)),(1,bH l)])) w' ρ [(0,zV most batch sent (.own 1)),(1,bH l)] c:=λ c hc=>⟨apQ (hkp c hc) hB.size,λ _=> .inl hc,λ h=>(hbl c h).2 hc⟩;have hmem:∀c,c<w.heap.size->w'.heap[c]? =w.heap[c]? :=λ c hc=>hB.block c hc;have hbm:∀p∈[(0,zV most batch sent (.own 1)),(1,bH l)],∀c∈blks (ρ p.1),w'.heap[c]? =w.heap[c]? :=λ p hp c hc=>hmem c (hbl c (aQ.2 ⟨p,hp,hc⟩)).1;refine⟨u,ρ,rfl,.of hB,λ _ _ _ _ _=> .refl _,hp,λ p hpm=>?_,hnd,λ c hc=> .inr hc⟩;have hob:=jo p hpm;refine aT.move (X:=⟨w,keep,ρ⟩) (id:=p.1) (o:=p.2) hkk (λ c hc=>hmem c (hkp c hc)) rfl (hbm p hpm) ?_ hob;simp only[aot,apy,or_false]at hpm;rcases hpm with rfl|rfl
  ·refine⟨rfl,λ us h=>⟨h.1,λ i x u hx hu=>?_⟩⟩;have:=h.2 i x u hx hu;match i,hx with
   |0,hx=>cases hx;exact this
   |1,hx=>cases hx;exact this
   |2,hx=>cases hx;exact this
   |3,hx=>cases hx;exact this
  ·rfl
def wG(sent upto:Int)(n:Nat):Nat:=if upto<=sent then 0 else min (upto-sent).toNat n
theorem acp(most batch sent upto:Int)(l:List Ev)(hl:l.length<=1000000)(hs:0<=sent/\sent<=1000000000)(hu:0<=upto/\upto<=1000000000):
  aj prog 147 [(0,zV most batch sent (.own 1)),(1,bH l)] [.box 0 0,.v (.int .i64 upto)] (.v (.int .i64 (sent+(wG sent upto l.length:Int)))) [(0,zV most batch (sent+(wG sent upto l.length:Int)) (.own 2)),(2,bH (l.drop (wG sent upto l.length)))]:=by
 unfold wG;by_cases h:upto<=sent
 ·rw[if_pos h];dsimp only[zV,bH,List.drop_zero];rw[show sent+((0:Nat):Int)=sent by omega];refine K1.M 0x833 func147 40 ?_;repeat' ((conv=>whnf);first|refine K1.u ?_|fail)
  all_goals(conv=>whnf)
  exact⟨[(1,2)],rfl,rfl,⟨ay rfl,ay rfl,trivial⟩,rfl,rfl,au⟩
 ·rw[if_neg h];obtain⟨k,hk⟩:∃k,k=min (upto-sent).toNat l.length:=⟨_,rfl⟩;have hkl:k<=l.length:=o_
  have hd:=amH k l hkl;rw[<-hk];have e:(k:Int)=if(l.length:Int)<upto-sent then(l.length:Int)else upto-sent:=by split<;>omega
  clear hk hkl;rw[e]at hd⊢;dsimp only[zV,bH]at hd⊢;refine K1.M 0x833 func147 40 ?_;repeat' ((conv=>whnf);first|refine K1.u ?_|refine K1.C 1 [(0,_)] (hd) rfl ?_|fail)
  all_goals(conv=>whnf)
  exact⟨[(40,2)],rfl,rfl,⟨ay rfl,ay rfl,trivial⟩,rfl,rfl,au⟩
theorem aga(a b:Nat):(a^^^b)/2=a/2^^^b/2:=by
 apply Nat.eq_of_testBit_eq;intro i;simp[Nat.testBit_div_two,Nat.testBit_xor]
theorem aiY(a b:Nat):(a^^^b)%2=(a%2+b%2)%2:=by
 have h:(a^^^b).testBit 0=((a.testBit 0)^^(b.testBit 0)):=Nat.testBit_xor a b 0;simp only[Nat.testBit_zero]at h;rcases aqe a with ha|ha<;>rcases aqe b with hb|hb<;>rcases aqe (a^^^b)with hc|hc<;>simp_all
theorem Ib(a b:Nat):jh (a^^^b)=jh a^^^jh b:=by
 unfold jh;rw[aga,aiY];rcases aqe a with ha|ha<;>rcases aqe b with hb|hb<;>simp only[ha,hb]
 ·simp
 ·simp[ap2]
 ·simp only[if_true,if_false,Nat.zero_ne_one];rw[ap2,ap2,Nat.xor_comm (b/2)]
 ·simp only[Nat.reduceAdd,Nat.reduceMod,if_true,if_false,Nat.zero_ne_one];rw[ap2,Nat.xor_comm (b/2),<-ap2 3988292384,Nat.xor_self,Nat.zero_xor]
theorem SL(b:Nat):jh (2*b)=b:=by
 unfold jh;rw[if_neg o_];omega
theorem EU{x:Nat}(hx:x<4294967296)(h:jh x=0):x=0:=by
 unfold jh at h;split at h
 ·have e:x/2=3988292384:=by
   have:=congrArg (λ n=>n^^^3988292384) h;simpa[ap2]using this
  omega
 ·omega
def rb(r:Nat)(b:Bool):Nat:=jh (r^^^b.toNat)
def gK(r:Nat)(bs:List Bool):Nat:=bs.foldl rb r
def fJ(c:Nat):Nat->List Bool
 |0=>[]
 |n+1=>fJ c n++[c.testBit n]
theorem uF(r:Nat)(a b:List Bool):gK r (a++b)=gK (gK r a) b:=apO ..
theorem acr(c n:Nat):c>>>n=(c.testBit n).toNat^^^(2*(c>>>(n+1))):=by
 apply Nat.eq_of_testBit_eq;intro i;rw[Nat.testBit_xor];cases i with
 |zero=>
  simp;cases c.testBit n<;>decide
 |succ i=>
  rw[Nat.testBit_shiftRight,show 2*(c>>>(n+1))=2^1*(c>>>(n+1)) by omega,Nat.testBit_two_pow_mul];cases c.testBit n<;>simp[Nat.testBit_shiftRight,Nat.testBit_succ]<;>congr 1<;>omega
theorem xP(r c:Nat):∀n,uD (r^^^c) n=gK r (fJ c n)^^^(c>>>n)
 |0=>by simp[uD,fJ,gK]
 |n+1=>by
  show jh (uD (r^^^c) n)=_;rw[xP r c n,acr c n,<-ap2,Ib,SL];rw[fJ,uF];rfl
theorem Ic:∀(bs cs:List Bool)(r s:Nat),bs.length=cs.length->gK r bs^^^gK s cs=gK (r^^^s) (List.zipWith xor bs cs)
 |[],[],r,s,_=>rfl
 |b::bs,c::cs,r,s,h=>by
  show gK (rb r b) bs^^^gK (rb s c) cs=gK (rb (r^^^s) (xor b c)) (List.zipWith xor bs cs);rw[Ic bs cs _ _ (by simpa using h)];congr 1;unfold rb;rw[<-Ib];congr 1;have e:(xor b c).toNat=b.toNat^^^c.toNat:=by cases b<;>cases c<;>rfl
  rw[e,ap2,ap2,<-ap2 b.toNat,Nat.xor_comm b.toNat s,ap2 s]
 |[],_::_,_,_,h=>by simp at h
 |_::_,[],_,_,h=>by simp at h
theorem EW:∀n,gK 0 (List.replicate n false)=0
 |0=>rfl
 |n+1=>by
  rw[aqb];show gK (rb 0 false) _=0;exact EW n
theorem LP{r:Nat}(h:r<4294967296):∀bs,gK r bs<4294967296
 |[]=>h
 |b::bs=>LP (r:=rb r b) (Dc (aqR (n:=32) o_ (by cases b<;>decide))) bs
theorem LQ:∀(n r:Nat),r<4294967296->r≠0->gK r (List.replicate n false)≠0
 |0,_,_,h=>h
 |n+1,r,hr,h=>by
  rw[aqb];show gK (rb r false) _≠0;have e:rb r false=jh r:=by simp[rb]
  rw[e];exact LQ n _ (Dc hr) λ h0=>h (EU hr h0)
theorem Wj{r:Nat}(hr:r<4294967296)(h:r≠0):∀n,uD r n≠0
 |0=>h
 |n+1=>λ h0=>Wj hr h n (EU (EO hr n) h0)
def numBits:List Bool->Nat
 |[]=>0
 |b::bs=>b.toNat+2*numBits bs
theorem Df:∀bs,numBits bs<2^bs.length
 |[]=>by simp[numBits]
 |b::bs=>by
  have:=Df bs;have hb:b.toNat<=1:=by cases b<;>decide
  simp only[numBits,aoE,aqK];omega
theorem EX:∀{bs:List Bool},numBits bs=0->bs=List.replicate bs.length false
 |[],_=>rfl
 |b::bs,h=>by
  simp only[numBits]at h;have hb:b=false:=by cases b with|false=>rfl|true=>simp at h
  have:=EX (bs:=bs) o_;rw[hb,aoE,aqb,<-this]
theorem EY:∀(bs:List Bool)(i:Nat),(numBits bs).testBit i=bs.getD i false
 |[],i=>by simp[numBits]
 |b::bs,0=>by cases b<;>simp[numBits,Nat.testBit_zero]<;>omega
 |b::bs,i+1=>by
  rw[Nat.testBit_succ];have:numBits (b::bs)/2=numBits bs:=by cases b<;>simp[numBits]<;>omega
  rw[this,EY bs i];rfl
theorem jC(c:Nat):∀n,(fJ c n).length=n
 |0=>rfl
 |n+1=>by simp[fJ,jC c n]
theorem qN(c:Nat):∀(n i:Nat),i<n->(fJ c n)[i]? =some (c.testBit i)
 |0,_,h=>absurd h (aoM _)
 |n+1,i,h=>by
  rw[fJ];by_cases hi:i<n
  ·rw[aoS (by rw[jC];exact hi),qN c n i hi]
  ·have:i=n:=o_
   subst this;rw[ao2 (by rw[jC];omega),jC];simp
theorem Wn(bs:List Bool):fJ (numBits bs) bs.length=bs:=by
 apply apV;intro i;by_cases hi:i<bs.length
 ·rw[qN _ _ _ hi,EY,List.getD,aom hi];rfl
 ·rw[aoW (by rw[jC];omega),aoW o_]
theorem agb(ws:List Bool)(h32:ws.length<=32)(h:ws≠List.replicate ws.length false):gK 0 ws≠0:=by
 have hs:=xP 0 (numBits ws) ws.length;rw[Wn,Nat.zero_xor,aqH,Nat.div_eq_of_lt (Df ws),Nat.xor_zero]at hs;rw[<-hs];have:2^ws.length<=2^32:=aqE o_ h32;exact Wj (apQ (Df ws) this) (λ h0=>h (EX h0)) _
def qO(c:UInt8):List Bool:=fJ c.toNat 8
def bitsOf(l:List UInt8):List Bool:=l.flatMap qO
theorem SN(r:Nat)(c:UInt8):xO r c=gK r (qO c):=by
 have h:=xP r c.toNat 8;have:=apv c;rw[aqH,Nat.div_eq_of_lt this,Nat.xor_zero]at h;exact h
theorem Dh:∀(l:List UInt8)(r:Nat),l.foldl xO r=gK r (bitsOf l)
 |[],_=>rfl
 |c::l,r=>by
  rw[aqz,Dh l,SN];show _=gK r (qO c++bitsOf l);rw[uF]
theorem Di(l:List UInt8):(bitsOf l).length=8*l.length:=by
 induction l with
 |nil=>rfl
 |cons c l ih=>
  show(qO c++bitsOf l).length=_;rw[aop,ih,qO,jC,aoE];omega
theorem uG(c n:Nat):∀m,fJ c (n+m)=fJ c n++fJ (c>>>n) m
 |0=>by simp[fJ]
 |m+1=>by
  show fJ c (n+m)++[c.testBit (n+m)]=fJ c n++(fJ (c>>>n) m++[(c>>>n).testBit m]);rw[uG c n m,aoL,Nat.testBit_shiftRight]
theorem Wp(c:Nat):fJ (c%256) 8=fJ c 8:=by
 simp only[fJ,show(256:Nat)=2^8 from rfl,Nat.testBit_mod_two_pow];simp
theorem agc(c:Nat):qO (UInt8.ofNat c)=fJ c 8:=by
 unfold qO;rw[apS];exact Wp c
theorem acs(l:List UInt8):bitsOf (nJ l)=fJ (lF l) 32:=by
 unfold nJ bitsOf;simp only[apa,List.flatMap_nil,aor,agc];rw[show(32:Nat)=8+(8+(8+8))from rfl,uG,uG,uG];simp only[aqH,Nat.div_div_eq_div_mul,Nat.reducePow,Nat.reduceMul]
theorem agd(r c n:Nat)(hc:c<2^n):gK r (fJ c n)=uD (r^^^c) n:=by
 have h:=xP r c n;rw[aqH,Nat.div_eq_of_lt hc,Nat.xor_zero]at h;exact h.symm
theorem aiZ(m:List UInt8):l9 m^^^lF m=4294967295:=by
 unfold lF;rw[Nat.xor_comm,ap2,Nat.xor_self,Nat.xor_zero]
theorem acu(m:List UInt8)(n:Nat)(hn:bitsOf (nJ m)=fJ (lF m) n)(hc:lF m<2^n):l9 (dZ m)=uD 4294967295 n:=by
 unfold l9 dZ;rw[apO,Dh (nJ m),hn];show gK (l9 m) _=_;rw[agd _ _ _ hc,aiZ]
theorem agf(m:List UInt8):l9 (dZ m)=uD 4294967295 32:=acu m 32 (acs m) (PV m)
theorem agh(h:mY l):l9 l=uD 4294967295 32:=by
 rw[h.2];exact agf _
theorem acv{a b:UInt8}(h:qO a=qO b):a=b:=by
 apply UInt8.toNat_inj.1;apply Nat.eq_of_testBit_eq;intro i;by_cases hi:i<8
 ·have h1:=qN a.toNat 8 i hi;have h2:=qN b.toNat 8 i hi;have h':fJ a.toNat 8=fJ b.toNat 8:=h;rw[h',h2]at h1;exact(Option.some.inj h1).symm
 ·have ha:=apv a;have hb:=apv b;have h8:2^8<=2^i:=aqE o_ o_;rw[Nat.testBit_lt_two_pow o_,Nat.testBit_lt_two_pow o_]
theorem LU:∀{l t:List UInt8},l.length=t.length->bitsOf l=bitsOf t->l=t
 |[],[],_,_=>rfl
 |a::l,b::t,hl,h=>by
  have h':qO a++bitsOf l=qO b++bitsOf t:=h;obtain⟨h1,h2⟩:=List.append_inj h' (by rw[qO,qO,jC,jC]);rw[acv h1,LU (by simpa using hl) h2]
 |[],_::_,h,_=>by simp at h
 |_::_,[],h,_=>by simp at h
theorem Wq{t:List UInt8}{z:Nat}{ws:List Bool}(hl:mY l)(ht:mY t)(hlen:t.length=l.length)(h32:ws.length<=32)
  (hx:List.zipWith xor (bitsOf l) (bitsOf t)=List.replicate k false++ws++List.replicate z false):t=l:=by
 have h1:=agh hl;have h2:=agh ht;unfold l9 at h1 h2;rw[Dh]at h1 h2;have hb:(bitsOf l).length=(bitsOf t).length:=by rw[Di,Di,hlen]
 have h3:=Ic (bitsOf l) (bitsOf t) 4294967295 4294967295 hb;rw[h1,h2,Nat.xor_self,Nat.xor_self,hx,uF,uF,EW]at h3;have h4:ws=List.replicate ws.length false:=Classical.byContradiction λ hn=>by
  have hn0:=agb ws h32 hn;exact LQ z _ (LP o_ _) hn0 h3.symm
 apply LU hlen;rw[h4,aoL,List.replicate_append_replicate,List.replicate_append_replicate]at hx;apply aqZ hb.symm;intro i hi1 hi2;have h5:=congrArg (λ x=>x[i]?) hx;have hi3:i<(List.zipWith xor (bitsOf l) (bitsOf t)).length:=by rw[List.length_zipWith];omega
 have hi4:=hi3;rw[hx,ap6]at hi4;simp only[aom hi3,List.getElem_zipWith,ap',if_pos hi4,aoJ]at h5;revert h5;cases(bitsOf l)[i]<;>cases(bitsOf t)[i]<;>simp
def EZ(l:List UInt8)(q:Nat):List UInt8:=l.set (q/8) (l.getD (q/8) default^^^UInt8.ofNat (2^(q%8)))
def jU(l:List UInt8)(k m:Nat):Nat->List UInt8
 |0=>l
 |i+1=>if m.testBit i=true then EZ (jU l k m i) (k+i)else jU l k m i
theorem acw(l:List UInt8)(q:Nat):(EZ l q).length=l.length:=by simp[EZ]
theorem sF(l:List UInt8)(k m:Nat):∀i,(jU l k m i).length=l.length
 |0=>rfl
 |i+1=>by
  unfold jU;split
  ·rw[acw,sF l k m i]
  ·exact sF l k m i
theorem acy(c:UInt8)(i:Nat)(h:i<8):(qO c)[i]? =some (c.toNat.testBit i):=qN _ _ _ h
theorem Dj:∀(l:List UInt8)(q:Nat),(bitsOf l)[q]? =(l[q/8]?).map λ c=>c.toNat.testBit (q%8)
 |[],q=>by simp[bitsOf]
 |c::l,q=>by
  show(qO c++bitsOf l)[q]? =_;have h8:(qO c).length=8:=by unfold qO;rw[jC]
  by_cases h:q<8
  ·rw[aoS o_,acy c q h,Nat.div_eq_of_lt h,ap0 h];rfl
  ·rw[ao2 o_,h8,Dj l (q-8),show q/8=(q-8)/8+1 by omega,show(q-8)%8=q%8 by omega];rfl
theorem agi(h:n<8):(UInt8.ofNat (2^n)).toNat=2^n:=by
 rw[apS,ap0];exact Nat.pow_lt_pow_right o_ h
theorem acz(l:List UInt8)(q j:Nat)(hq:q<8*l.length):(bitsOf (EZ l q))[j]? =((bitsOf l)[j]?).map λ b=>xor b (decide (q=j)):=by
 rw[Dj,Dj];unfold EZ;rw[aqa];by_cases h:q/8=j/8
 ·rw[if_pos h,if_pos o_,h,aom o_,List.getD,aom o_];simp only[apR,aoJ,Option.getD_some];rw[UInt8.toNat_xor,Nat.testBit_xor,agi o_,Nat.testBit_two_pow];congr 1;rw[decide_eq_decide];omega
 ·rw[if_neg h];have:decide (q=j)=false:=decide_eq_false (λ e=>h (by rw[e]));rw[this];cases l[j/8]? <;>simp
theorem P5(l:List UInt8)(k m:Nat):∀i,k+i<=8*l.length-> ∀j,(bitsOf (jU l k m i))[j]? =((bitsOf l)[j]?).map λ b=>xor b (decide (k<=j/\j<k+i)&&m.testBit (j-k))
 |0,_,j=>by
  have:decide (k<=j/\j<k+0)=false:=decide_eq_false o_;rw[this];cases h:(bitsOf l)[j]? <;>simp[jU,h]
 |i+1,hi,j=>by
  have ih:=P5 l k m i o_ j;unfold jU;split
  ·rename_i hb;rw[acz _ _ _ (by rw[sF];omega),ih];cases(bitsOf l)[j]? with
   |none=>rfl
   |some b=>
    simp only[apR,aoJ];by_cases e:k+i=j
    ·have h1:decide (k<=j/\j<k+i)=false:=decide_eq_false o_;have h2:decide (k<=j/\j<k+(i+1))=true:=decide_eq_true o_;rw[h1,h2,decide_eq_true e,show j-k=i by omega,hb];simp
    ·have h1:decide (k<=j/\j<k+i)=decide (k<=j/\j<k+(i+1)):=by rw[decide_eq_decide];omega
     rw[h1,decide_eq_false e];simp
  ·rename_i hb;rw[ih];cases(bitsOf l)[j]? with
   |none=>rfl
   |some b=>
    simp only[apR,aoJ];by_cases e:k+i=j
    ·have h1:decide (k<=j/\j<k+i)=false:=decide_eq_false o_;have h2:m.testBit (j-k)=false:=by rw[show j-k=i by omega];simpa using hb
     rw[h1,h2];simp
    ·have h1:decide (k<=j/\j<k+i)=decide (k<=j/\j<k+(i+1)):=by rw[decide_eq_decide];omega
     rw[h1]
theorem Ws(hl:mY l)(hk:k+i<=8*l.length)(hi:i<=32)(ht:mY (jU l k m i)):jU l k m i=l:=by
 refine Wq (k:=k) (z:=8*l.length-(k+i)) (ws:=(List.range i).map λ j=>m.testBit j) hl ht (sF l k m i) (by simpa using hi) ?_;apply apV;intro j;have hb:(bitsOf l).length=8*l.length:=Di l;rw[List.getElem?_zipWith,P5 l k m i hk j];by_cases hj:j<8*l.length
 ·rw[aom o_];simp only[apR];have hx (b c:Bool):xor b (xor b c)=c:=by cases b<;>cases c<;>rfl
  rw[hx];by_cases h1:j<k
  ·rw[aoL,aoS (by simpa using h1),ap',if_pos h1];have:decide (k<=j/\j<k+i)=false:=decide_eq_false o_;rw[this];rfl
  ·by_cases h2:j<k+i
   ·rw[aoL,ao2 (by simp;omega),aoS (by simp;omega)];have:decide (k<=j/\j<k+i)=true:=decide_eq_true o_;rw[this];simp only[ap6,ao0,aqA];rw[List.getElem?_range o_];rfl
   ·rw[ao2 (by simp;omega),ap',if_pos (by simp;omega)];have:decide (k<=j/\j<k+i)=false:=decide_eq_false o_;rw[this];rfl
 ·rw[aoW o_];rw[aoW (by simp;omega)]
theorem oC.bit(hm:m<4294967296)(hi:i<32){A B:Prop}(h1:m.testBit i=true->A)(h2:¬m.testBit i=true->B):oC (IntKind.u32.wrap ((BitVec.ofInt IntKind.u32.bits ((m:Int).fdiv (2^min (Int.toNat (i:Int)) IntKind.u32.bits))&&&BitVec.ofInt IntKind.u32.bits (1:Int)).toNat:Int)=1) A B:=by
 have e1:(m:Int).fdiv (2^min (Int.toNat (i:Int)) IntKind.u32.bits)=((m/2^i:Nat):Int):=by
  have:min (Int.toNat (i:Int)) IntKind.u32.bits=i:=by show min (Int.toNat (i:Int)) 32=i;omega
  rw[this,Int.fdiv_eq_ediv_of_nonneg _ (Int.pow_nonneg o_)];push_cast;rfl
 have hlt:m/2^i<4294967296:=Nat.lt_of_le_of_lt (Nat.div_le_self _ _) hm;rw[e1,_root_.Go.Proofs.YtifjccndenojlaaGreat.and1 hlt];have e2:m.testBit i=decide (m/2^i%2=1):=by rw[Nat.testBit_eq_decide_div_mod_eq]
 rw[e2,decide_eq_true_eq]at h1 h2;exact⟨λ h=>h1 o_,λ h=>h2 o_⟩
theorem Wr.shl{b:Int}(hb:b=(q:Int))(h:q<8){K:Int->Prop}(k:K ((2^q:Nat):Int)):Wr (1*2^min (Int.toNat b) IntKind.u8.bits) K .u8:=by
 subst hb;have hp:2^q<=2^7:=aqE o_ o_;have e:(1*2^min (Int.toNat (q:Int)) IntKind.u8.bits:Int)=((2^q:Nat):Int):=by
  have:min (Int.toNat (q:Int)) IntKind.u8.bits=q:=by show min (Int.toNat (q:Int)) 8=q;omega
  rw[this,Int.one_mul];push_cast;rfl
 have h0:(0:Int)<=((2^q:Nat):Int):=Int.natCast_nonneg _;rw[e];exact .u8 o_ o_ k
theorem agj(l:List UInt8)(q:Nat)(hj:j=q/8)(hq:q/8<l.length){v:Int}(hv:v=((l.getD (q/8) default^^^UInt8.ofNat (2^(q%8))).toNat:Int))(mm:Nat):
  (bif Nat.beq mm j then [AV.v (.int .u8 v)]else aO l mm)=aO (EZ l q) mm:=by
 subst hj hv;unfold EZ;show _=bC ((l.set (q/8) _).getD mm default);rw[aoG (l:=l.set _ _),aqa];cases hb:Nat.beq mm (q/8)with
 |true=>
  obtain rfl:=aos hb;rw[if_pos rfl,if_pos hq];rfl
 |false=>
  have hne:q/8≠mm:=λ e=>by subst e;rw[aqW]at hb;cases hb
  rw[if_neg hne];rfl
theorem anI(c:UInt8)(h:q<8):IntKind.u8.wrap ((BitVec.ofInt IntKind.u8.bits (c.toNat:Int)^^^BitVec.ofInt IntKind.u8.bits ((2^q:Nat):Int)).toNat:Int)=((c^^^UInt8.ofNat (2^q)).toNat:Int):=by
 have hp:2^q<=2^7:=aqE o_ o_;have hc:=apv c;rw[UInt8.toNat_xor,agi h];exact u8_xor_nat c.toNat (2^q) hc o_
end Go.Proofs.YtifjccndenojlaaGreat
