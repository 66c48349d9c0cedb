/-
  Contracts of the walk:LvZ,SlD,SlG,OuB,OuS,CrcLaw,Turn.
-/
import Derived.Test.YtkimgljckickcaaGreatRa21
import Derived.Test.YtkimgljckickcaaGreatRa15
import Derived.Test.YtkimgljckickcaaGreatRa20
import Derived.Test.YtkimgljckickcaaGreatRa10
import Derived.WalkKit
import Derived.Deep.RegionLaw
import Derived.Lib.Walk
import Derived.Lib.SliceRun
import Derived.Lib.LazyBuf
import Derived.Lib.AppendZerosOnto
import Derived.RegionTactic
import Derived.RegionCalls
set_option maxHeartbeats 16000000
set_option maxRecDepth 100000
set_option linter.unusedVariables false
set_option linter.unusedSimpArgs false
namespace Go.Proofs.YtkimgljckickcaaGreat
open Go.RowKit
open Go.Proofs.Tryz
variable{R:AV->Value->Prop}{xs:List AV}{P:List Ev}{l:List UInt8}{us:List Value}{b i j k m n q:Nat}{F:Nat->List AV}{keep:Nat->Prop}{e t:TypeId}{w:World}
theorem J9(P:List Ev):(qV P).length<=P.length:=by
 unfold qV keysB;rw[anu];refine anK (wS _) ?_;unfold sortL;rw[aou,anu];exact anj ..
theorem aeL(P:List Ev):pU P<=P.length:=by
 rw[<-Oh];exact anj ..
def vM(P:List Ev)(m:Nat):OB:=xR (iI P) (pU P:Int) m
theorem aiB:aj prog 177 [] [] (.box 0 0) [(0,.obs (vM [] 0))]:=ak3
theorem QI{e:Ev}(t:Fe (nO (eqK e.key) P) e)(hm:dU e=0)(hl:P.length<=1000000)(m:Nat):
  aj prog 133 [(0,.obs (vM P m))] [.box 0 0,e.av] (.v (.int .i64 0)) [(0,.obs (vM (P++[e]) (m+1)))]:=by
 have h1:=Za P e.key;have h2:=aeL P;have:=ahg (iI P) (pU P) m e hm o_ o_ o_;rw[aeJ t,aaY t]at this;exact this
theorem Ko(hp:∀key,Xo (nO (eqK key) P) key)(m:Nat)(hl:P.length<=1000000)(hm:m<=1000000):
  aj prog 79 [(0,.obs (vM P m))] [.box 0 0] (.own 3) [(0,.obs (vM P m)),(3,.row 86 7 (qV P).length false (TQ (qV P)))]:=by
 have h1:=J9 P;exact ajK (iI P) (pU P) m (qV P) (λ k=>by have:=Za P k;omega) o_ o_ λ ss hs h=>aeK hp hs h
theorem Zb{z:Value}(hz:z.cells.size=12)(h1:∀u∈z.cells.toList,u.oneCell'=true):∀m,(List.replicate m z.cells.toList).flatten.length=m*12/\ ∀u∈(List.replicate m z.cells.toList).flatten,u.oneCell'=true
 |0=>⟨s_,λ u h=>by simp at h⟩
 |m+1=>by
  obtain⟨a,b⟩:=Zb hz h1 m;rw[aoK,List.flatten_cons];refine⟨by rw[am0,a,anC,hz];omega,λ u hu=>?_⟩;rcases am6.1 hu with h|h
  ·exact h1 u h
  ·exact b u h
theorem UZ{ty:TypeId}{z:Value}(hu:prog.underlying t=some (.slice e))(hz:(zeroValue e).run prog w= .ok z w)(hzs:z.cells.size=12)(h1:∀u∈z.cells.toList,u.oneCell'=true){o c:Nat}(hm:0<m)
  (hc:∀j,j<m*12->(w.cell? ⟨b,o+j,none⟩).isSome=true)(hf:∀j,j<m*12->w.frozen? ⟨b,o+j,none⟩=false):
  (Builtin.clear_ #[t] ty #[.slice (some ⟨b,o,none⟩) m c]).run prog w= .ok (.tuple #[]) (w.setCells b o (List.replicate m z.cells.toList).flatten):=by
 obtain⟨z1,z2⟩:=Zb hzs h1 m;have hst:=run_storeCells_cells (P:=prog) b o (List.replicate m z.cells.toList).flatten 0 w (by rw[z1];simpa using hc) (by rw[z1];simpa using hf) z2;simp only[apg]at hst;exact rV hu hz hzs hm hst
theorem lQ{f:Nat->Value}(h:w.rowIs b t n f)(hj:j<n):w.cell? ⟨b,j,none⟩=some (f j)/\w.frozen? ⟨b,j,none⟩=false:=by
 obtain⟨c,h1,h2,h3⟩:=h;have:=h3 j hj;exact⟨by simp[World.cell?,h1,this],by simp[World.frozen?,h1]⟩
theorem sJ(b:Nat)(w:World):∀(vs:List Value)(o:Nat)(v:World),dG (λ k=>k=b) w.heap.size w v->dG (λ k=>k=b) w.heap.size w (v.setCells b o vs)
 |[],_,_,h=>h
 |x::r,o,v,h=>sJ b w r (o+1) _ ⟨h.os,h.tape,h.output,by
    have:=h.size;simpa[World.setCell]using this,λ k hk hM=>by
    rw[<-h.block k hk hM];exact heap_setCell_other v _ k x hM⟩
theorem Kq{v:Value}{s:Nat}(hs:0<s)(hv:v= .slice none 0 0\/ ∃g G cur,v= .slice (some ⟨g,0,none⟩) 0 G/\w.heap[g]? =some (.cells cur e (0,0))/\G<=maxLen/\cur.size=G*s){ρ:Nat->Value}:oO ⟨w,keep,ρ⟩ v e s 0 true F:=by
 refine⟨[],⟨s_, ?_⟩,hs,λ i hi=>absurd hi (anA i),λ _ x hx=>(by cases hx),aC.nil⟩;rcases hv with rfl|⟨g,G,cur,rfl,h1,h2,h3⟩
 ·exact .inl ⟨rfl,rfl⟩
 ·exact .inr ⟨g,G,cur,rfl,ane _,h1,ane _,h2,h3,s_⟩
theorem Kr{x y z:AV}(h:aC R [x,y,z] us):∃u v t,us=[u,v,t]/\R x u/\R y v/\R z t:=by
 match us,h with
 |[u,v,t],h=>exact⟨u,v,t,rfl,h.2 0 _ _ rfl rfl,h.2 1 _ _ rfl rfl,h.2 2 _ _ rfl rfl⟩
theorem aaZ(g cap n k:Nat)(cur:Array Value)(w:World)(hg:w.heap[g]? =some (.cells cur 74 (0,0)))(hn:n<=cap)(hcm:cap<=maxLen)(hcs:cur.size=cap*12)(hk:k<=n)(h1:∀u∈cur.toList.take (n*12),u.oneCell'=true):
  Calls prog 230 #[.slice (some ⟨g,0,none⟩) n cap,.int .i64 0,.int .i64 (k:Int)] w λ e w'=>e= .returned (.slice (some ⟨g,0,none⟩) (n-k) cap)/\dG (λ b=>b=g) w.heap.size w w'/\
   ∃cur',w'.heap[g]? =some (.cells cur' 74 (0,0))/\cur'.size=cur.size/\cur'.toList.take ((n-k)*12)=(cur.toList.drop (k*12)).take ((n-k)*12):=by
 obtain⟨i0,hi0,hz0,hs0⟩:∃i0:TypeInfo,prog.info? 74=some i0/\i0.zero=some (evV ev0)/\i0.size=12:=⟨_,rfl,rfl,rfl⟩;have hcap:cap<=9223372036854775807:=by unfold maxLen at hcm;omega
 by_cases h0:k=0
 ·subst h0;have hc:Calls prog 230 #[.slice (some ⟨g,0,none⟩) n cap,.int .i64 0,.int .i64 0] w λ e w'=>e= .returned (.slice (some ⟨g,0,none⟩) n cap)/\w'=w:=by
   clear hg;go_enter func230,Tryz.ntmps230;go_wp2;all_goals(go_ret;exact⟨rfl,rfl⟩)
  refine hc.mono ?_;rintro e w' ⟨rfl,rfl⟩;exact⟨rfl,dG.refl _ _ _,cur,hg,rfl,s_⟩
 ·have hR:w.drew.rowIs g 74 (cap*12) (λ j=>cur[j]?.getD default):=⟨cur,hg,hcs,λ i hi=>by show cur[i]? =some (cur[i]?.getD default);rw[aoT o_];rfl⟩;obtain⟨news,hnews⟩:∃news,news=(cur.toList.drop (k*12)).take ((n-k)*12):=⟨_,rfl⟩;have hlen:news.length=(n-k)*12:=by rw[hnews,am5,anl,anC,hcs];omega
  have hget:∀t u,news[t]? =some u->cur[k*12+t]? =some u:=by
   intro t u h;rw[hnews,anU]at h;split at h
   ·rw[aop,aod]at h;exact h
   ·cases h
  obtain⟨A,hA,hsrc⟩:∃A:Addr,(if cap=k then some (⟨g,0,none⟩:Addr)else some ⟨g,k*12,none⟩)=some A/\Hid (∀t u,news[t]? =some u->w.drew.cell? (A.add t)=some u):=by
   by_cases h:cap=k
   ·refine⟨⟨g,0,none⟩,by simp[h],λ t u hu=>?_⟩;have h0:news.length=0:=by rw[hlen];omega
    rw[an9.1 h0]at hu;simp at hu
   ·refine⟨⟨g,k*12,none⟩,by simp[h],λ t u hu=>?_⟩;have hc:=hget t u hu;have ht:k*12+t<cap*12:=by rw[<-hcs];exact(anQ.1 hc).1
    rw[add_lit,(lQ hR ht).1,hc];rfl
  have s1:Hid (news.length=(n-k)*12):=hlen;have s2:Hid (∀u∈news,u.oneCell'=true):=by
   intro u hu;rw[hnews]at hu;obtain⟨t,ht,rfl⟩:=anR hu;have h2:=hget t _ (by rw[hnews];exact amX ht);rw[am5,anl,anC,hcs]at ht;refine h1 _ (List.mem_iff_getElem?.2 ⟨k*12+t, ?_⟩);rw[anU,if_pos o_,aod];exact h2
  have s3:Hid (∀t,t<news.length->(w.drew.cell? ⟨g,0+0*12+t,none⟩).isSome=true/\w.drew.frozen? ⟨g,0+0*12+t,none⟩=false):=by
   intro t ht;rw[hlen]at ht;have:=lQ hR (j:=t) o_;rw[show 0+0*12+t=t by omega];exact⟨by rw[this.1];rfl,this.2⟩
  obtain⟨W1,hW1⟩:∃W1,W1=w.drew.setCells g (0+0*12) news:=⟨_,rfl⟩;have hR1:=Go.rowIs_setCells news (0+0*12) w.drew _ hR;have hB1:dG (λ b=>b=g) w.heap.size w W1:=by rw[hW1];exact sJ g w news _ _ ⟨rfl,rfl,rfl,ani _,λ _ _ _=>rfl⟩
  rw[<-hW1]at hR1;have hcl:∀ty,(Builtin.clear_ #[75] ty #[.slice (some ⟨g,(n-k)*12,none⟩) (n-(n-k)) (cap-(n-k))]).run prog W1= .ok (.tuple #[]) (W1.setCells g ((n-k)*12) (List.replicate (n-(n-k)) (evV ev0).cells.toList).flatten):=
   λ ty=>UZ Tryz.underlying75 (qW W1) rfl d_ o_ (λ j hj=>by rw[(lQ hR1 o_).1];rfl) (λ j hj=>(lQ hR1 o_).2)
  obtain⟨W2,hW2⟩:∃W2,W2=W1.setCells g ((n-k)*12) (List.replicate (n-(n-k)) (evV ev0).cells.toList).flatten:=⟨_,rfl⟩;have hR2:=Go.rowIs_setCells (List.replicate (n-(n-k)) (evV ev0).cells.toList).flatten ((n-k)*12) W1 _ hR1;have hB2:dG (λ b=>b=g) w.heap.size w W2:=by rw[hW2];exact sJ g w _ _ _ hB1
  rw[<-hW2]at hR2 hcl;have hfin:∃cur',W2.heap[g]? =some (.cells cur' 74 (0,0))/\cur'.size=cur.size/\cur'.toList.take ((n-k)*12)=news:=by
   obtain⟨c,c1,c2,c3⟩:=hR2;refine⟨c,c1,o_,aos λ t=>?_⟩;rw[anU];by_cases ht:t<(n-k)*12
   ·rw[if_pos ht,aod,c3 t o_];dsimp only;rw[if_neg o_,if_pos o_,show t-(0+0*12)=t by omega,amX o_];rfl
   ·rw[if_neg ht,anz o_]
  have hW:Hid (W1=w.drew.setCells g (0+0*12) news):=hW1;have hnk:n-k<=cap:=o_
  have hkc:k<=cap:=o_
  have hne:¬ ((0:Int)=(k:Int)):=o_
  rw[<-hnews];clear hW1 hR hR1 hR2 hB1 hg hcs h1 hget hlen hW2 hi0 hz0;refine Calls.mono (R:=λ e w'=>e= .returned (.slice (some ⟨g,0,none⟩) (n-k) cap)/\w'=W2) ?_ (by rintro e w' ⟨rfl,rfl⟩;exact⟨rfl,hB2,hfin⟩);clear hB2 hfin;obtain⟨i0,hi0,hs0⟩:∃i0:TypeInfo,prog.info? 74=some i0/\i0.size=12:=⟨_,rfl,rfl⟩;go_enter func230,Tryz.ntmps230;go_wp2_with fail;go_region_law (refine step_append_room rfl (.tmp 22) (.tmp 25) 75 rfl 74 i0 12 Tryz.underlying75 hi0 hs0 g 0 0 cap (by simp[Act.eval,Act.put]) A (n-k) (cap-k) news (by simp[Act.eval,Act.put]) s1.out hsrc.out s2.out o_ s3.out ?_;rw[<-hW.out]);go_wp2;go_ret;exact⟨rfl,rfl⟩
theorem ahm(w:World):Calls prog 230 #[.slice none 0 0,.int .i64 0,.int .i64 0] w λ e w'=>e= .returned (.slice none 0 0)/\w'=w:=by
 go_enter func230,Tryz.ntmps230
 go_wp2
 all_goals(go_ret;exact⟨rfl,rfl⟩)
theorem Om{α:Type}{c:α->List AV}{s:Nat}(hc:∀e,(c e).length=s):∀(k:Nat)(l:List α),k<=l.length->(l.flatMap c).drop (k*s)=(l.drop k).flatMap c
 |0,l,_=>s_
 |k+1,[],h=>absurd h s_
 |k+1,x::l,h=>by
  rw[anN,List.drop_succ_cons,<-Om hc k l (by simpa using h),show(k+1)*s=(c x).length+k*s by rw[hc,aor];omega,List.drop_length_add_append]
theorem Oo{w':World}{keep':Nat->Prop}(hs:∀x∈xs,∃y,x= .v y)(h:aC (PC w keep) xs us):aC (PC w' keep') xs us/\ ∀u∈us,u.oneCell'=true:=by
 refine⟨⟨h.1,λ i x u hx hu=>?_⟩,λ u hu=>?_⟩
 ·obtain⟨y,rfl⟩:=hs x (anG hx);have:=h.2 i _ u hx hu;cases this with|v _ h1=>exact .v _ h1
 ·obtain⟨i,hi⟩:=List.mem_iff_getElem?.1 hu;have hl:i<xs.length:=by rw[h.1];exact(anc.1 hi).1
  obtain⟨y,hy⟩:=hs xs[i] (anH hl);have:=h.2 i _ u (by rw[amX hl,hy]) hi;cases this with|v _ h1=>exact h1
theorem aC.drop'(h:aC R xs us)(k:Nat):aC R (xs.drop k) (us.drop k):=
 ⟨by rw[anl,anl,h.1],λ i x u hx hu=>h.2 (k+i) x u (by rw[aop]at hx;exact hx) (by rw[aop]at hu;exact hu)⟩
theorem ak4(k:Nat)(l:List Ev)(hk:k<=l.length):aj prog 230 [(0,bn l)] [.own 0,.v (.int .i64 0),.v (.int .i64 (k:Int))] (.own 1) [(1,bn (l.drop k))]:=by
 refine⟨⟨_,_,func230,rfl,rfl⟩,λ w keep ρ args hkp jg hnd hbl hargs=>?_⟩;obtain⟨us,hown,_,hfl,hsc,ha⟩:=jg _ (amZ.2 rfl);have hsc:=hsc rfl;obtain⟨u,v,x,rfl,hu,hv,hx⟩:=Kr hargs;have hu:u=ρ 0:=Eq.trans (show u=dD (ρ 0)from hu) (dY hown);have hv:v= .int .i64 0:=hv;have hx:x= .int .i64 (k:Int):=hx;subst hu hv hx;have hlen:∀e:Ev,(Ev.cs e).length=12:=λ _=>rfl;have hul:us.length=l.length*12:=hown.1;have hfe:flat l.length (dA l)=l.flatMap Ev.cs:=uY Ev.cs l;have hfd:flat (l.drop k).length (dA (l.drop k))=(flat l.length (dA l)).drop (k*12):=by rw[hfe,Om hlen k l hk];exact uY Ev.cs _
 have hsd:∀x∈flat (l.drop k).length (dA (l.drop k)),∃y,x= .v y:=λ x hx=>by rw[hfd]at hx;exact hsc x (aoG hx)
 rcases hown.2 with⟨hv,hn⟩|⟨g,cap,cur,hv,_,hg,hncap,hcm,hcs,htk⟩
 ·have hnil:l=[]:=am9 hn;subst hnil;obtain rfl:k=0:=Nat.le_zero.1 hk;rw[show(ρ 0)= .slice none 0 0 from hv];refine(ahm w).mono ?_;rintro e w' ⟨rfl,rfl⟩;let ρ':Nat->Value:=λ _=> .slice none 0 0;refine⟨_,ρ',rfl,dG.refl _ _ _,λ p hp q hq h=>?_,rfl,λ p hp=>?_,by simp[ah,ρ',blks,iK],λ b hb=>by simp[ah,ρ',blks,iK]at hb⟩
  ·obtain rfl:=amZ.1 hp;obtain rfl:=amZ.1 hq;cases h
  ·obtain rfl:=amZ.1 hp;exact Kq d_ (.inl rfl)
 ·rw[show(ρ 0)= .slice (some ⟨g,0,none⟩) l.length cap from hv];refine(aaZ g cap l.length k cur w hg hncap hcm hcs hk (by rw[htk];exact(Oo (w':=w) (keep':=keep) hsc ha).2)).mono ?_;rintro e w' ⟨rfl,hB,cur',hg',hcs',ajL⟩;have hb:g∈ah ρ [(0,bn l)]:=aN.2 ⟨_,amZ.2 rfl,by rw[show ρ 0= .slice (some ⟨g,0,none⟩) l.length cap from hv];exact amW⟩;let ρ':Nat->Value:=λ _=> .slice (some ⟨g,0,none⟩) (l.length-k) cap;have hdl:(l.drop k).length=l.length-k:=anl;refine⟨_,ρ',rfl,⟨hB.os,hB.tape,hB.output,hB.size,λ j hj hM=>hB.block j hj (by rintro rfl;exact hM hb)⟩,λ p hp q hq h=>?_,rfl,λ p hp=>?_,by simp[ah,ρ',blks,iK],λ b hbm=>?_⟩
  ·obtain rfl:=amZ.1 hp;obtain rfl:=amZ.1 hq;cases h
  ·obtain rfl:=amZ.1 hp;refine⟨us.drop (k*12),⟨by rw[anl,hul,hdl,Nat.sub_mul],.inr ⟨g,cap,cur',by rw[hdl];rfl,ane _,hg',o_,hcm,by rw[hcs',hcs], ?_⟩⟩,d_,λ _ _=>rfl,λ _=>hsd, ?_⟩
   ·rw[hdl,ajL,<-htk,List.drop_take,Nat.sub_mul]
   ·rw[hfd];exact(Oo (λ x hx=>hsc x (aoG hx)) (ha.drop' (k*12))).1
  ·have:b=g:=by simpa[ah,ρ',blks,iK]using hbm
   subst this;exact .inr hb
theorem Xv(n:Nat)(hn:n<=1000000)(w:World):Calls prog 242 #[.slice none 0 0,.int .i64 (n:Int)] w λ e w'=>
  (e= .returned (.slice none 0 0)/\w'=w)\/ ∃G cur,e= .returned (.slice (some ⟨w.heap.size,0,none⟩) 0 G)/\w'=w.drew.alloc (.cells cur 74)/\G<=maxLen/\cur.size=G*12:=by
 obtain⟨i0,hi0,hz0,hs0,hb0,hzc⟩:∃i0:TypeInfo,prog.info? 74=some i0/\(∃z,i0.zero=some z/\z.cells.size=12)/\i0.size=12/\i0.bytes<=200/\True:=⟨_,rfl,⟨_,rfl,rfl⟩,rfl,by decide+kernel,trivial⟩;obtain⟨z,hz,hzs⟩:=hz0;by_cases h0:n=0
 ·subst h0;go_enter func242,Tryz.ntmps242;go_wp2;go_ret;exact .inl ⟨rfl,rfl⟩
 ·have h1:¬ ((n:Int)<0):=o_
  have h4:(n:Int)>0:=o_
  have hby:n*i0.bytes<=200000000:=anK (Nat.mul_le_mul hn hb0) d_;have hrz:∀ty,(Builtin.append_ #[75,3] ty #[.slice none 0 0,.int .i64 (n:Int)]).run prog w=
    .ok (.slice (some ⟨w.heap.size,0,none⟩) n (grownCap w n 0 74)) (w.drew.alloc (.cells (#[]++Builtin.zeroCells z.cells n++Builtin.zeroCells z.cells (grownCap w n 0 74-n)) 74)):=λ ty=>by
   have h:=Lib.run_append_grow_zeros w 75 3 ty 74 i0 z .i64 .i64 Tryz.underlying75 Tryz.underlying3 hi0 hz none 0 0 [] (run_firstCells_none w.drew i0.size 0 0 0) n o_ o_ o_ o_ o_ (by rw[anZ];exact growslice_fits o_ o_);rw[anZ]at h;exact h
  have hGn:n<=grownCap w n 0 74:=grownCap_ge w _ _ _;have hGm:grownCap w n 0 74<=maxLen:=grownCap_le_maxLen w n 0 _ (by unfold maxLen;omega);obtain⟨G,hG⟩:∃G,G=grownCap w n 0 74:=⟨_,rfl⟩;rw[<-hG]at hrz hGn hGm;have hG63:G<=9223372036854775807:=by unfold maxLen at hGm;omega
  have hsz:(#[]++Builtin.zeroCells z.cells n++Builtin.zeroCells z.cells (G-n)).size=G*12:=by
   simp[Builtin.zeroCells,hzs];rw[<-aor];congr 1;omega
  obtain⟨C,hC⟩:∃C,C= #[]++Builtin.zeroCells z.cells n++Builtin.zeroCells z.cells (G-n):=⟨_,rfl⟩;rw[<-hC]at hrz hsz;clear hG hC hz hzs z hi0 hs0 hb0 hzc hby;go_enter func242,Tryz.ntmps242;go_wp2_with (at_builtin;refine Lib.wpList_append_run _ rfl _ _ _ _ rfl _ _ rfl rfl _ _ (hrz _) ?_);all_goals(go_ret;exact .inr ⟨G,rfl,C,rfl,hGm,hsz⟩)
theorem cells_at{o:Obj}:(w.drew.alloc o).heap[w.heap.size]? =some o:=by first|rfl|exact Array.getElem?_push_size ..
theorem ajM(d:Nat)(x:Int)(h0:0<=x)(h1:x<=1000000):aF prog 242 [.v (.slice none 0 0),.v (.int .i64 x)] (.own d) [(d,.row 74 12 0 true (dA []))]:=by
 obtain⟨n,rfl⟩:∃n:Nat,x=(n:Int):=⟨x.toNat,o_⟩;refine⟨⟨_,_,func242,rfl,rfl⟩,λ w keep args hk hargs=>?_⟩;obtain⟨u,v,rfl,hu,hv⟩:=mW hargs;have hu:u= .slice none 0 0:=hu;have hv:v= .int .i64 (n:Int):=hv;subst hu hv;refine(Xv n o_ w).mono ?_;rintro e w' (⟨rfl,rfl⟩|⟨G,cur,rfl,rfl,hG,hc⟩)
 ·exact⟨_,λ _=> .slice none 0 0,rfl,aob _ _,rfl,λ p hp=>by rw[amZ.1 hp];exact Kq d_ (.inl rfl),by simp[ah,blks,iK],λ b hb=>by simp[ah,blks,iK]at hb⟩
 ·refine⟨_,λ _=> .slice (some ⟨w.heap.size,0,none⟩) 0 G,rfl,((aob _ _).drew).alloc (ani _) _,rfl,λ p hp=>by rw[amZ.1 hp];exact Kq d_ (.inr ⟨_,G,cur,rfl,cells_at,hG,hc⟩),by simp[ah,blks,iK],λ b hb=>?_⟩;have:b=w.heap.size:=by simpa[ah,blks,iK]using hb
  omega
theorem Kt(d:Nat)(h l:List Ev)(hh:h.length<=400000)(hl:l.length<=400000):aF prog 231 [.sl 1 2 false (chunk 1 [.sl 12 h.length true (dA h),.sl 12 l.length true (dA l)])] (.own d) [(d,bn (h++l))]:=by
 refine K1.E 0x1e101f6d func231 ?_;repeat' ((conv=>whnf);first|refine K1.u ?_|refine K1.F1 (ajM _ _ o_ o_) ?_ rfl rfl|refine aI.Au 11 3 rfl ?_|refine aI.Au 27 3 rfl ?_|fail)
 all_goals(conv=>whnf)
 exact aT.uX d rfl rfl (dK.row s_ λ i hi=>by
  have e1:lV 0 (dA []) (dA h)=dA h:=funext λ i=>els_app (c:=Ev.cs) (l:=[]) (l':=h) rfl i;rw[e1];exact els_app (c:=Ev.cs) o_ i) (bY)
theorem Xw(d:Nat)(hl:n<=1000000000):aF prog 138 [.sl 12 n true F] (.own d) [(d,.row 74 12 n true F)]:=by
 refine K1.E 0x15 func138 ?_;repeat' ((conv=>whnf);first|refine K1.u ?_|refine K1.y (λ _=>?_) (λ _=>?_)|fail)
 all_goals(conv=>whnf)
 ·obtain rfl:n=0:=a_
  exact aT.nil d _ 12 _ rfl d_
 ·exact aT.uX d rfl rfl (dK.row o_ λ i hi=>rfl) (bY)
theorem U0(b:Nat)(most batch sent:Int)(n cap:Nat)(w:World)(A:Option Addr)(hb:w.heap[b]? =some (.cells #[.int .i64 most,.int .i64 batch,.int .i64 sent,.slice A n cap] 239 (0,0)))(hn:n<=cap)(hc:cap<=maxLen)(hA:A=none->cap=0)
  {Φ:Value->World->Prop}(hcl:Calls prog 138 #[.slice A (min (max batch 0) (n:Int)).toNat (min (max batch 0) (n:Int)).toNat] w.drew λ e w2=> ∃u,e= .returned u/\Φ u w2):
  Calls prog 90 #[.pointer (some ⟨b,0,none⟩)] w λ e w2=> ∃u,e= .returned u/\Φ u w2:=by
 have c1:w.cell? ⟨b,1,none⟩=some (.int .i64 batch):=by simp[World.cell?,hb]
 have c3:w.cell? ⟨b,3,none⟩=some (.slice A n cap):=by simp[World.cell?,hb]
 have hk:(min (max batch 0) (n:Int)).toNat<=cap:=o_
 have hk0:0<=min (max batch 0) (n:Int):=o_
 have hkc:min (max batch 0) (n:Int)<=cap:=o_
 clear hb;go_enter func90,Tryz.ntmps90;go_wp2;go_region;all_goals go_wp2_with (go_at_call 138;refine hcl.mono ?_;rintro e w2 ⟨u,rfl,hu⟩)
 all_goals go_ret
 all_goals exact⟨_,rfl,hu⟩
theorem Oq{s:Nat}:∀(k n:Nat)(F:Nat->List AV),k<=n->(∀i,i<k->(F i).length=s)->flat k F=(flat n F).take (k*s)
 |0,n,F,_,_=>by rw[apj,List.take_zero];rfl
 |k+1,0,F,h,_=>absurd h o_
 |k+1,n+1,F,h,hF=>by
  show F 0++flat k (λ i=>F (i+1))=(F 0++flat n (λ i=>F (i+1))).take ((k+1)*s);rw[Oq k n (λ i=>F (i+1)) o_ (λ i hi=>hF (i+1) o_),show(k+1)*s=(F 0).length+k*s by rw[hF 0 o_,aor];omega,List.take_length_add_append]
theorem aC.take'(h:aC R xs us)(k:Nat):aC R (xs.take k) (us.take k):=
 ⟨by rw[am5,am5,h.1],λ i x u hx hu=>by
  rw[anU]at hx hu;split at hx
  ·rw[if_pos ‹_›]at hu;exact h.2 i x u hx hu
  ·cases hx⟩
theorem ahn(most batch sent:Int)(l:List Ev)(hl:l.length<=1000000):aj prog 90 [(0,zh most batch sent (.own 1)),(1,bn l)] [.box 0 0] (.sl 12 (min (max batch 0) (l.length:Int)).toNat true (dA l)) [(0,zh most batch sent (.own 1)),(1,bn l)]:=by
 refine⟨⟨_,_,func90,rfl,rfl⟩,λ w keep ρ args hkp jg hnd hbl hargs=>?_⟩;obtain⟨b,us0,hρ,hb,ha0⟩:=jg (0,zh most batch sent (.own 1)) amW;obtain⟨us,hown,_,hfl,hsc,ha⟩:=jg (1,bn l) (am1 _ amW);have hρ:ρ 0= .pointer (some ⟨b,0,none⟩):=hρ;have hb:w.heap[b]? =some (.cells us0.toArray 239 (0,0)):=hb;have hown:w.ownsRow 0 74 12 (ρ 1) l.length us:=hown;have e0:us0=[.int .i64 most,.int .i64 batch,.int .i64 sent,ρ 1]:=by
  match us0,ha0 with
  |[x0,x1,x2,x3],h=>
   have h0:x0=_:=h.2 0 _ _ rfl rfl;have h1:x1=_:=h.2 1 _ _ rfl rfl;have h2:x2=_:=h.2 2 _ _ rfl rfl;have h3:x3=dD (ρ 1):=h.2 3 _ _ rfl rfl;rw[h0,h1,h2,h3,dY hown]
 obtain⟨u,rfl,hu⟩:=qR hargs;obtain⟨b',hb1,rfl⟩:∃b',dD (ρ 0)= .pointer (some ⟨b',0,none⟩)/\u= .pointer (some ⟨b',0,none⟩):=hu;rw[hρ]at hb1;cases hb1;obtain⟨A,cap,hv,hA,hnc,hcm⟩:∃A cap,ρ 1= .slice A l.length cap/\(A=none->cap=0)/\l.length<=cap/\cap<=maxLen:=by
  rcases hown.2 with⟨hv,hn⟩|⟨g,cap,cur,hv,_,_,h1,h2,_⟩
  ·exact⟨none,0,by rw[hv,hn],λ _=>rfl,o_,by simp[maxLen]⟩
  ·exact⟨some ⟨g,0,none⟩,cap,hv,λ h=>(by cases h),h1,h2⟩
 generalize hK:(min (max batch 0) (l.length:Int)).toNat=K;have hKl:K<=l.length:=o_
 have hb2:w.heap[b]? =some (.cells #[.int .i64 most,.int .i64 batch,.int .i64 sent,.slice A l.length cap] 239 (0,0)):=by rw[hb,e0,hv]
 refine(U0 b most batch sent l.length cap w A hb2 hnc hcm hA (Φ:=λ u w'=>Below w.heap.size w w'/\PC w' (aH (dN w keep (λ b=>b∈ah ρ [(0,zh most batch sent (.own 1)),(1,bn l)])) w' ρ [(0,zh most batch sent (.own 1)),(1,bn l)]) (.sl 12 K true (dA l)) u) ?_).mono ?_
 ·rw[hK];have hblk:∀c∈blks (ρ 1),c<w.heap.size:=λ c hc=>(hbl c (aN.2 ⟨(1,bn l),am1 _ amW,hc⟩)).1;have hfk:flat K (dA l)=(flat l.length (dA l)).take (K*12):=Oq K l.length _ hKl (λ i _=>rfl);have hpc:PC w.drew (λ c=>c∈blks (ρ 1)) (.sl 12 K true (dA l)) (.slice A K K):=by
   refine .sl 12 K true (dA l) A K (us.take (K*12)) d_ (ani _) o_ (by rw[am5,hown.1];omega) (λ _ _=>rfl) (λ _ x hx=>?_) ?_ ?_
   ·rw[hfk]at hx;exact hsc rfl x (an7 hx)
   ·rw[hfk];exact((Oo (λ x hx=>hsc rfl x hx) ha).1.take' (K*12)).2
   ·rcases hown.2 with⟨hv',hn⟩|⟨g,cap',cur,hv',_,hg,h1,h2,h3,h4⟩
    ·exact .inl o_
    ·rw[hv]at hv';cases hv';refine .inr ⟨g,0,rfl,by rw[hv];exact amW,λ j u hj=>?_⟩;have hj':us[j]? =some u:=by rw[anU]at hj;split at hj;exact hj;cases hj
     have:=hown.cells (g:=g) (by rw[hv];rfl) j u hj';rw[anW]at this;exact this
  refine((Xw 0 (n:=K) (F:=dA l) o_).2 w.drew (λ c=>c∈blks (ρ 1)) [.slice A K K] hblk ⟨rfl,λ i x u hx hu=>?_⟩).mono ?_
  ·match i,hx,hu with
   |0,hx,hu=>cases hx;cases hu;exact hpc
  ·rintro e w' ⟨u,ρ',h1,h2,h3,h4,h5,h6⟩;obtain⟨us',hown',hs0,acV,PZ,hall⟩:=h4 _ (amZ.2 rfl);have hown':w'.ownsRow 0 74 12 (ρ' 0) K us':=hown';have h2:Below w.heap.size w w':=⟨h2.os,h2.tape,h2.output,h2.size,h2.block⟩;refine⟨u,h1,h2, ?_⟩;have h3:u=ρ' 0:=Eq.trans (show u=dD (ρ' 0)from h3) (dY hown');have ha':=(Oo (w':=w') (keep':=aH (dN w keep (λ b=>b∈ah ρ [(0,zh most batch sent (.own 1)),(1,bn l)])) w' ρ [(0,zh most batch sent (.own 1)),(1,bn l)]) (λ x hx=>PZ rfl x hx) hall).1;rw[h3];rcases hown'.2 with⟨hv',hz⟩|⟨g,cap',cur,hv',hB,hh,hnc',hcm',_⟩
   ·rw[hv'];rw[hz]at hown' ha'⊢;exact .sl 12 0 true _ none 0 us' d_ (ani _) (by simp[maxLen]) hown'.1 (λ _ _=>rfl) (λ _ x hx=>by simp[flat]at hx) ha'.2 (.inl rfl)
   ·rw[hv'];have hge:w.heap.size<=g:=h6 g (aN.2 ⟨_,amZ.2 rfl,by rw[hv'];exact amW⟩);refine .sl 12 K true _ _ cap' us' d_ hnc' hcm' hown'.1 (λ _ _=>rfl) (λ h x hx=>PZ h x hx) ha'.2 (.inr ⟨g,0,rfl,⟨(anQ.1 hh).1,λ hlt=>absurd (show g<w.heap.size from hlt) o_,λ h=>?_⟩,λ j u hj=>?_⟩)
    ·have:=(hbl g h).1;omega
    ·have:=hown'.cells (g:=g) (by rw[hv'];rfl) j u hj;rwa [anW]at this
 ·rintro e w' ⟨u,rfl,hB,hp⟩;have hkk:∀c,keep c->aH (dN w keep (λ b=>b∈ah ρ [(0,zh most batch sent (.own 1)),(1,bn l)])) w' ρ [(0,zh most batch sent (.own 1)),(1,bn l)] c:=λ c hc=>⟨aon (hkp c hc) hB.size,λ _=> .inl hc,λ h=>(hbl c h).2 hc⟩;have hmem:∀c,c<w.heap.size->w'.heap[c]? =w.heap[c]? :=λ c hc=>hB.block c hc;have hbm:∀p∈[(0,zh most batch sent (.own 1)),(1,bn l)],∀c∈blks (ρ p.1),w'.heap[c]? =w.heap[c]? :=λ p hp c hc=>hmem c (hbl c (aN.2 ⟨p,hp,hc⟩)).1;refine⟨u,ρ,rfl,.of hB,λ _ _ _ _ _=> .refl _,hp,λ p hpm=>?_,hnd,λ c hc=> .inr hc⟩;have hob:=jg p hpm;refine aQ.move (X:=⟨w,keep,ρ⟩) (id:=p.1) (o:=p.2) hkk (λ c hc=>hmem c (hkp c hc)) rfl (hbm p hpm) ?_ hob;simp only[am4,aol,or_false]at hpm;rcases hpm with rfl|rfl
  ·refine⟨rfl,λ us h=>⟨h.1,λ i x u hx hu=>?_⟩⟩;have:=h.2 i x u hx hu;match i,hx with
   |0,hx=>cases hx;exact this
   |1,hx=>cases hx;exact this
   |2,hx=>cases hx;exact this
   |3,hx=>cases hx;exact this
  ·rfl
def vN(sent upto:Int)(n:Nat):Nat:=if upto<=sent then 0 else min (upto-sent).toNat n
theorem aa0(most batch sent upto:Int)(l:List Ev)(hl:l.length<=1000000)(hs:0<=sent/\sent<=1000000000)(hu:0<=upto/\upto<=1000000000):
  aj prog 201 [(0,zh most batch sent (.own 1)),(1,bn l)] [.box 0 0,.v (.int .i64 upto)] (.v (.int .i64 (sent+(vN sent upto l.length:Int)))) [(0,zh most batch (sent+(vN sent upto l.length:Int)) (.own 2)),(2,bn (l.drop (vN sent upto l.length)))]:=by
 unfold vN;by_cases h:upto<=sent
 ·rw[if_pos h];dsimp only[zh,bn,List.drop_zero];rw[show sent+((0:Nat):Int)=sent by omega];refine K1.M 0x833 func201 40 ?_;repeat' ((conv=>whnf);first|refine K1.u ?_|fail)
  all_goals(conv=>whnf)
  exact iF [(1,2)]
 ·rw[if_neg h];obtain⟨k,hk⟩:∃k,k=min (upto-sent).toNat l.length:=⟨_,rfl⟩;have hkl:k<=l.length:=o_
  have hd:=ak4 k l hkl;rw[<-hk];have e:(k:Int)=if(l.length:Int)<upto-sent then(l.length:Int)else upto-sent:=by split<;>omega
  clear hk hkl;rw[e]at hd⊢;dsimp only[zh,bn]at hd⊢;refine K1.M 0x833 func201 40 ?_;repeat' ((conv=>whnf);first|refine K1.u ?_|refine K1.C 1 [(0,_)] (hd) rfl ?_|fail)
  all_goals(conv=>whnf)
  exact iF [(40,2)]
theorem aeM(a b:Nat):(a^^^b)/2=a/2^^^b/2:=by
 apply Nat.eq_of_testBit_eq;intro i;simp[Nat.testBit_div_two,Nat.testBit_xor]
theorem aho(a b:Nat):(a^^^b)%2=(a%2+b%2)%2:=by
 have h:(a^^^b).testBit 0=((a.testBit 0)^^(b.testBit 0)):=Nat.testBit_xor a b 0;simp only[Nat.testBit_zero]at h;rcases aoN a with ha|ha<;>rcases aoN b with hb|hb<;>rcases aoN (a^^^b)with hc|hc<;>simp_all
theorem GH(a b:Nat):jc (a^^^b)=jc a^^^jc b:=by
 unfold jc;rw[aeM,aho];rcases aoN a with ha|ha<;>rcases aoN b with hb|hb<;>simp only[ha,hb]
 ·simp
 ·simp[aoy]
 ·simp only[if_true,if_false,Nat.zero_ne_one];rw[aoy,aoy,Nat.xor_comm (b/2)]
 ·simp only[Nat.reduceAdd,Nat.reduceMod,if_true,if_false,Nat.zero_ne_one];rw[aoy,Nat.xor_comm (b/2),<-aoy 3988292384,Nat.xor_self,Nat.zero_xor]
theorem QJ(b:Nat):jc (2*b)=b:=by
 unfold jc;rw[if_neg o_];omega
theorem Ei{x:Nat}(hx:x<4294967296)(h:jc x=0):x=0:=by
 unfold jc at h;split at h
 ·have e:x/2=3988292384:=by
   have:=congrArg (λ n=>n^^^3988292384) h;simpa[aoy]using this
  omega
 ·omega
def rb(r:Nat)(b:Bool):Nat:=jc (r^^^b.toNat)
def gu(r:Nat)(bs:List Bool):Nat:=bs.foldl rb r
def fA(c:Nat):Nat->List Bool
 |0=>[]
 |n+1=>fA c n++[c.testBit n]
theorem tZ(r:Nat)(a b:List Bool):gu r (a++b)=gu (gu r a) b:=aoj ..
theorem aa1(c n:Nat):c>>>n=(c.testBit n).toNat^^^(2*(c>>>(n+1))):=by
 apply Nat.eq_of_testBit_eq;intro i;rw[Nat.testBit_xor];cases i with
 |zero=>
  simp;cases c.testBit n<;>decide
 |succ i=>
  rw[Nat.testBit_shiftRight,show 2*(c>>>(n+1))=2^1*(c>>>(n+1)) by omega,Nat.testBit_two_pow_mul];cases c.testBit n<;>simp[Nat.testBit_shiftRight,Nat.testBit_succ]<;>congr 1<;>omega
theorem wX(r c:Nat):∀n,tY (r^^^c) n=gu r (fA c n)^^^(c>>>n)
 |0=>by simp[tY,fA,gu]
 |n+1=>by
  show jc (tY (r^^^c) n)=_;rw[wX r c n,aa1 c n,<-aoy,GH,QJ];rw[fA,tZ];rfl
theorem GI:∀(bs cs:List Bool)(r s:Nat),bs.length=cs.length->gu r bs^^^gu s cs=gu (r^^^s) (List.zipWith xor bs cs)
 |[],[],r,s,_=>rfl
 |b::bs,c::cs,r,s,h=>by
  show gu (rb r b) bs^^^gu (rb s c) cs=gu (rb (r^^^s) (xor b c)) (List.zipWith xor bs cs);rw[GI bs cs _ _ (by simpa using h)];congr 1;unfold rb;rw[<-GH];congr 1;have e:(xor b c).toNat=b.toNat^^^c.toNat:=by cases b<;>cases c<;>rfl
  rw[e,aoy,aoy,<-aoy b.toNat,Nat.xor_comm b.toNat s,aoy s]
 |[],_::_,_,_,h=>by simp at h
 |_::_,[],_,_,h=>by simp at h
theorem Ej:∀n,gu 0 (List.replicate n false)=0
 |0=>rfl
 |n+1=>by
  rw[aoK];show gu (rb 0 false) _=0;exact Ej n
theorem Ku{r:Nat}(h:r<4294967296):∀bs,gu r bs<4294967296
 |[]=>h
 |b::bs=>Ku (r:=rb r b) (BP (apr (n:=32) o_ (by cases b<;>decide))) bs
theorem Kv:∀(n r:Nat),r<4294967296->r≠0->gu r (List.replicate n false)≠0
 |0,_,_,h=>h
 |n+1,r,hr,h=>by
  rw[aoK];show gu (rb r false) _≠0;have e:rb r false=jc r:=by simp[rb]
  rw[e];exact Kv n _ (BP hr) λ h0=>h (Ei hr h0)
theorem U1{r:Nat}(hr:r<4294967296)(h:r≠0):∀n,tY r n≠0
 |0=>h
 |n+1=>λ h0=>U1 hr h n (Ei (Eb hr n) h0)
def numBits:List Bool->Nat
 |[]=>0
 |b::bs=>b.toNat+2*numBits bs
theorem BQ:∀bs,numBits bs<2^bs.length
 |[]=>by simp[numBits]
 |b::bs=>by
  have:=BQ bs;have hb:b.toNat<=1:=by cases b<;>decide
  simp only[numBits,anb,apf];omega
theorem Em:∀{bs:List Bool},numBits bs=0->bs=List.replicate bs.length false
 |[],_=>rfl
 |b::bs,h=>by
  simp only[numBits]at h;have hb:b=false:=by cases b with|false=>rfl|true=>simp at h
  have:=Em (bs:=bs) o_;rw[hb,anb,aoK,<-this]
theorem En:∀(bs:List Bool)(i:Nat),(numBits bs).testBit i=bs.getD i false
 |[],i=>by simp[numBits]
 |b::bs,0=>by cases b<;>simp[numBits,Nat.testBit_zero]<;>omega
 |b::bs,i+1=>by
  rw[Nat.testBit_succ];have:numBits (b::bs)/2=numBits bs:=by cases b<;>simp[numBits]<;>omega
  rw[this,En bs i];rfl
theorem jv(c:Nat):∀n,(fA c n).length=n
 |0=>rfl
 |n+1=>by simp[fA,jv c n]
theorem qm(c:Nat):∀(n i:Nat),i<n->(fA c n)[i]? =some (c.testBit i)
 |0,_,h=>absurd h (anA _)
 |n+1,i,h=>by
  rw[fA];by_cases hi:i<n
  ·rw[anq (by rw[jv];exact hi),qm c n i hi]
  ·have:i=n:=o_
   subst this;rw[anI (by rw[jv];omega),jv];simp
theorem U2(bs:List Bool):fA (numBits bs) bs.length=bs:=by
 apply aos;intro i;by_cases hi:i<bs.length
 ·rw[qm _ _ _ hi,En,List.getD,amX hi];rfl
 ·rw[anz (by rw[jv];omega),anz o_]
theorem aeN(ws:List Bool)(h32:ws.length<=32)(h:ws≠List.replicate ws.length false):gu 0 ws≠0:=by
 have hs:=wX 0 (numBits ws) ws.length;rw[U2,Nat.zero_xor,apc,Nat.div_eq_of_lt (BQ ws),Nat.xor_zero]at hs;rw[<-hs];have:2^ws.length<=2^32:=apa o_ h32;exact U1 (aon (BQ ws) this) (λ h0=>h (Em h0)) _
def qo(c:UInt8):List Bool:=fA c.toNat 8
def bitsOf(l:List UInt8):List Bool:=l.flatMap qo
theorem QK(r:Nat)(c:UInt8):wW r c=gu r (qo c):=by
 have h:=wX r c.toNat 8;have:=an3 c;rw[apc,Nat.div_eq_of_lt this,Nat.xor_zero]at h;exact h
theorem BR:∀(l:List UInt8)(r:Nat),l.foldl wW r=gu r (bitsOf l)
 |[],_=>rfl
 |c::l,r=>by
  rw[ao6,BR l,QK];show _=gu r (qo c++bitsOf l);rw[tZ]
theorem BU(l:List UInt8):(bitsOf l).length=8*l.length:=by
 induction l with
 |nil=>rfl
 |cons c l ih=>
  show(qo c++bitsOf l).length=_;rw[am0,ih,qo,jv,anb];omega
theorem uf(c n:Nat):∀m,fA c (n+m)=fA c n++fA (c>>>n) m
 |0=>by simp[fA]
 |m+1=>by
  show fA c (n+m)++[c.testBit (n+m)]=fA c n++(fA (c>>>n) m++[(c>>>n).testBit m]);rw[uf c n m,anm,Nat.testBit_shiftRight]
theorem U3(c:Nat):fA (c%256) 8=fA c 8:=by
 simp only[fA,show(256:Nat)=2^8 from rfl,Nat.testBit_mod_two_pow];simp
theorem aeO(c:Nat):qo (UInt8.ofNat c)=fA c 8:=by
 unfold qo;rw[aoE];exact U3 c
theorem aa2(l:List UInt8):bitsOf (ng l)=fA (kW l) 32:=by
 unfold ng bitsOf;simp only[anN,List.flatMap_nil,am2,aeO];rw[show(32:Nat)=8+(8+(8+8))from rfl,uf,uf,uf];simp only[apc,Nat.div_div_eq_div_mul,Nat.reducePow,Nat.reduceMul]
theorem aeP(r c n:Nat)(hc:c<2^n):gu r (fA c n)=tY (r^^^c) n:=by
 have h:=wX r c n;rw[apc,Nat.div_eq_of_lt hc,Nat.xor_zero]at h;exact h.symm
theorem ahp(m:List UInt8):lN m^^^kW m=4294967295:=by
 unfold kW;rw[Nat.xor_comm,aoy,Nat.xor_self,Nat.xor_zero]
theorem aa3(m:List UInt8)(n:Nat)(hn:bitsOf (ng m)=fA (kW m) n)(hc:kW m<2^n):lN (dP m)=tY 4294967295 n:=by
 unfold lN dP;rw[aoj,BR (ng m),hn];show gu (lN m) _=_;rw[aeP _ _ _ hc,ahp]
theorem aeQ(m:List UInt8):lN (dP m)=tY 4294967295 32:=aa3 m 32 (aa2 m) (Oj m)
theorem aeR(h:mO l):lN l=tY 4294967295 32:=by
 rw[h.2];exact aeQ _
theorem aa4{a b:UInt8}(h:qo a=qo b):a=b:=by
 apply UInt8.toNat_inj.1;apply Nat.eq_of_testBit_eq;intro i;by_cases hi:i<8
 ·have h1:=qm a.toNat 8 i hi;have h2:=qm b.toNat 8 i hi;have h':fA a.toNat 8=fA b.toNat 8:=h;rw[h',h2]at h1;exact(Option.some.inj h1).symm
 ·have ha:=an3 a;have hb:=an3 b;have h8:2^8<=2^i:=apa o_ o_;rw[Nat.testBit_lt_two_pow o_,Nat.testBit_lt_two_pow o_]
theorem Kw:∀{l t:List UInt8},l.length=t.length->bitsOf l=bitsOf t->l=t
 |[],[],_,_=>rfl
 |a::l,b::t,hl,h=>by
  have h':qo a++bitsOf l=qo b++bitsOf t:=h;obtain⟨h1,h2⟩:=List.append_inj h' (by rw[qo,qo,jv,jv]);rw[aa4 h1,Kw (by simpa using hl) h2]
 |[],_::_,h,_=>by simp at h
 |_::_,[],h,_=>by simp at h
theorem U4{t:List UInt8}{z:Nat}{ws:List Bool}(hl:mO l)(ht:mO t)(hlen:t.length=l.length)(h32:ws.length<=32)
  (hx:List.zipWith xor (bitsOf l) (bitsOf t)=List.replicate k false++ws++List.replicate z false):t=l:=by
 have h1:=aeR hl;have h2:=aeR ht;unfold lN at h1 h2;rw[BR]at h1 h2;have hb:(bitsOf l).length=(bitsOf t).length:=by rw[BU,BU,hlen]
 have h3:=GI (bitsOf l) (bitsOf t) 4294967295 4294967295 hb;rw[h1,h2,Nat.xor_self,Nat.xor_self,hx,tZ,tZ,Ej]at h3;have h4:ws=List.replicate ws.length false:=Classical.byContradiction λ hn=>by
  have hn0:=aeN ws h32 hn;exact Kv z _ (Ku o_ _) hn0 h3.symm
 apply Kw hlen;rw[h4,anm,List.replicate_append_replicate,List.replicate_append_replicate]at hx;apply List.ext_getElem hb.symm;intro i hi1 hi2;have h5:=congrArg (λ x=>x[i]?) hx;have hi3:i<(List.zipWith xor (bitsOf l) (bitsOf t)).length:=by rw[List.length_zipWith];omega
 have hi4:=hi3;rw[hx,aoC]at hi4;simp only[amX hi3,List.getElem_zipWith,aoI,if_pos hi4,ank]at h5;revert h5;cases(bitsOf l)[i]<;>cases(bitsOf t)[i]<;>simp
def Eo(l:List UInt8)(q:Nat):List UInt8:=l.set (q/8) (l.getD (q/8) default^^^UInt8.ofNat (2^(q%8)))
def jO(l:List UInt8)(k m:Nat):Nat->List UInt8
 |0=>l
 |i+1=>if m.testBit i=true then Eo (jO l k m i) (k+i)else jO l k m i
theorem aa5(l:List UInt8)(q:Nat):(Eo l q).length=l.length:=by simp[Eo]
theorem rG(l:List UInt8)(k m:Nat):∀i,(jO l k m i).length=l.length
 |0=>rfl
 |i+1=>by
  unfold jO;split
  ·rw[aa5,rG l k m i]
  ·exact rG l k m i
theorem aa6(c:UInt8)(i:Nat)(h:i<8):(qo c)[i]? =some (c.toNat.testBit i):=qm _ _ _ h
theorem BX:∀(l:List UInt8)(q:Nat),(bitsOf l)[q]? =(l[q/8]?).map λ c=>c.toNat.testBit (q%8)
 |[],q=>by simp[bitsOf]
 |c::l,q=>by
  show(qo c++bitsOf l)[q]? =_;have h8:(qo c).length=8:=by unfold qo;rw[jv]
  by_cases h:q<8
  ·rw[anq o_,aa6 c q h,Nat.div_eq_of_lt h,aoP h];rfl
  ·rw[anI o_,h8,BX l (q-8),show q/8=(q-8)/8+1 by omega,show(q-8)%8=q%8 by omega];rfl
theorem aeS(h:n<8):(UInt8.ofNat (2^n)).toNat=2^n:=by
 rw[aoE,aoP];exact Nat.pow_lt_pow_right o_ h
theorem aa7(l:List UInt8)(q j:Nat)(hq:q<8*l.length):(bitsOf (Eo l q))[j]? =((bitsOf l)[j]?).map λ b=>xor b (decide (q=j)):=by
 rw[BX,BX];unfold Eo;rw[aoJ];by_cases h:q/8=j/8
 ·rw[if_pos h,if_pos o_,h,amX o_,List.getD,amX o_];simp only[aoo,ank,Option.getD_some];rw[UInt8.toNat_xor,Nat.testBit_xor,aeS o_,Nat.testBit_two_pow];congr 1;rw[decide_eq_decide];omega
 ·rw[if_neg h];have:decide (q=j)=false:=decide_eq_false (λ e=>h (by rw[e]));rw[this];cases l[j/8]? <;>simp
theorem Ot(l:List UInt8)(k m:Nat):∀i,k+i<=8*l.length-> ∀j,(bitsOf (jO l k m i))[j]? =((bitsOf l)[j]?).map λ b=>xor b (decide (k<=j/\j<k+i)&&m.testBit (j-k))
 |0,_,j=>by
  have:decide (k<=j/\j<k+0)=false:=decide_eq_false o_;rw[this];cases h:(bitsOf l)[j]? <;>simp[jO,h]
 |i+1,hi,j=>by
  have ih:=Ot l k m i o_ j;unfold jO;split
  ·rename_i hb;rw[aa7 _ _ _ (by rw[rG];omega),ih];cases(bitsOf l)[j]? with
   |none=>rfl
   |some b=>
    simp only[aoo,ank];by_cases e:k+i=j
    ·have h1:decide (k<=j/\j<k+i)=false:=decide_eq_false o_;have h2:decide (k<=j/\j<k+(i+1))=true:=decide_eq_true o_;rw[h1,h2,decide_eq_true e,show j-k=i by omega,hb];simp
    ·have h1:decide (k<=j/\j<k+i)=decide (k<=j/\j<k+(i+1)):=by rw[decide_eq_decide];omega
     rw[h1,decide_eq_false e];simp
  ·rename_i hb;rw[ih];cases(bitsOf l)[j]? with
   |none=>rfl
   |some b=>
    simp only[aoo,ank];by_cases e:k+i=j
    ·have h1:decide (k<=j/\j<k+i)=false:=decide_eq_false o_;have h2:m.testBit (j-k)=false:=by rw[show j-k=i by omega];simpa using hb
     rw[h1,h2];simp
    ·have h1:decide (k<=j/\j<k+i)=decide (k<=j/\j<k+(i+1)):=by rw[decide_eq_decide];omega
     rw[h1]
theorem U5(hl:mO l)(hk:k+i<=8*l.length)(hi:i<=32)(ht:mO (jO l k m i)):jO l k m i=l:=by
 refine U4 (k:=k) (z:=8*l.length-(k+i)) (ws:=(List.range i).map λ j=>m.testBit j) hl ht (rG l k m i) (by simpa using hi) ?_;apply aos;intro j;have hb:(bitsOf l).length=8*l.length:=BU l;rw[List.getElem?_zipWith,Ot l k m i hk j];by_cases hj:j<8*l.length
 ·rw[amX o_];simp only[aoo];have hx (b c:Bool):xor b (xor b c)=c:=by cases b<;>cases c<;>rfl
  rw[hx];by_cases h1:j<k
  ·rw[anm,anq (by simpa using h1),aoI,if_pos h1];have:decide (k<=j/\j<k+i)=false:=decide_eq_false o_;rw[this];rfl
  ·by_cases h2:j<k+i
   ·rw[anm,anI (by simp;omega),anq (by simp;omega)];have:decide (k<=j/\j<k+i)=true:=decide_eq_true o_;rw[this];simp only[aoC,anE,ao7];rw[List.getElem?_range o_];rfl
   ·rw[anI (by simp;omega),aoI,if_pos (by simp;omega)];have:decide (k<=j/\j<k+i)=false:=decide_eq_false o_;rw[this];rfl
 ·rw[anz o_];rw[anz (by simp;omega)]
theorem nR.bit(hm:m<4294967296)(hi:i<32){A B:Prop}(h1:m.testBit i=true->A)(h2:¬m.testBit i=true->B):nR (IntKind.u32.wrap ((BitVec.ofInt IntKind.u32.bits ((m:Int).fdiv (2^min (Int.toNat (i:Int)) IntKind.u32.bits))&&&BitVec.ofInt IntKind.u32.bits (1:Int)).toNat:Int)=1) A B:=by
 have e1:(m:Int).fdiv (2^min (Int.toNat (i:Int)) IntKind.u32.bits)=((m/2^i:Nat):Int):=by
  have:min (Int.toNat (i:Int)) IntKind.u32.bits=i:=by show min (Int.toNat (i:Int)) 32=i;omega
  rw[this,Int.fdiv_eq_ediv_of_nonneg _ (Int.pow_nonneg o_)];push_cast;rfl
 have hlt:m/2^i<4294967296:=Nat.lt_of_le_of_lt (Nat.div_le_self _ _) hm;rw[e1,_root_.Go.Proofs.YtkimgljckickcaaGreat.and1 hlt];have e2:m.testBit i=decide (m/2^i%2=1):=by rw[Nat.testBit_eq_decide_div_mod_eq]
 rw[e2,decide_eq_true_eq]at h1 h2;exact⟨λ h=>h1 o_,λ h=>h2 o_⟩
theorem Wr.shl{b:Int}(hb:b=(q:Int))(h:q<8){K:Int->Prop}(k:K ((2^q:Nat):Int)):Wr (1*2^min (Int.toNat b) IntKind.u8.bits) K .u8:=by
 subst hb;have hp:2^q<=2^7:=apa o_ o_;have e:(1*2^min (Int.toNat (q:Int)) IntKind.u8.bits:Int)=((2^q:Nat):Int):=by
  have:min (Int.toNat (q:Int)) IntKind.u8.bits=q:=by show min (Int.toNat (q:Int)) 8=q;omega
  rw[this,Int.one_mul];push_cast;rfl
 have h0:(0:Int)<=((2^q:Nat):Int):=Int.natCast_nonneg _;rw[e];exact .u8 o_ o_ k
theorem aeT(l:List UInt8)(q:Nat)(hj:j=q/8)(hq:q/8<l.length){v:Int}(hv:v=((l.getD (q/8) default^^^UInt8.ofNat (2^(q%8))).toNat:Int))(mm:Nat):
  (bif Nat.beq mm j then [AV.v (.int .u8 v)]else aO l mm)=aO (Eo l q) mm:=by
 subst hj hv;unfold Eo;show _=bC ((l.set (q/8) _).getD mm default);rw[ang (l:=l.set _ _),aoJ];cases hb:Nat.beq mm (q/8)with
 |true=>
  obtain rfl:=am3 hb;rw[if_pos rfl,if_pos hq];rfl
 |false=>
  have hne:q/8≠mm:=λ e=>by subst e;rw[apv]at hb;cases hb
  rw[if_neg hne];rfl
theorem amb(c:UInt8)(h:q<8):IntKind.u8.wrap ((BitVec.ofInt IntKind.u8.bits (c.toNat:Int)^^^BitVec.ofInt IntKind.u8.bits ((2^q:Nat):Int)).toNat:Int)=((c^^^UInt8.ofNat (2^q)).toNat:Int):=by
 have hp:2^q<=2^7:=apa o_ o_;have hc:=an3 c;rw[UInt8.toNat_xor,aeS h];exact u8_xor_nat c.toNat (2^q) hc o_
end Go.Proofs.YtkimgljckickcaaGreat
