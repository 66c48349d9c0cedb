/-
  Contracts of the walk:HbS,AyR,St0,AmP,AmQ,AmI,StF,LenA,BkH,ImpL,Open,OpenH,OpenW,OpenX.
-/
import Derived.Test.YtkimgljckickcaaGreatRa12
import Derived.Test.YtkimgljckickcaaGreatRa14
import Derived.Test.YtkimgljckickcaaGreatRa9
import Derived.Test.YtkimgljckickcaaGreatRa10
import Derived.Test.YtkimgljckickcaaGreatRa11
set_option maxHeartbeats 16000000
set_option maxRecDepth 100000
set_option linter.unusedVariables false
set_option linter.unusedSimpArgs false
namespace Go.Proofs.YtkimgljckickcaaGreat
open Go.RowKit
open Go.Proofs.Tryz
variable{S st:AS}{r:AV}{K:AV->AS->Prop}{ok:AV->Bool}{sc:Bool}{f:FuncId}{L:Lay}{B H H' hin:List (Nat×AO)}{aW xs ys:List AV}{d i id j n off s:Nat}{g:Nat->List AV}{keep:Nat->Prop}{ρ:Nat->Value}{o q:OB}{x:Operand}{P:Program}{e:TypeId}{W:Walk}{w:World}
instance(a b:aS):Decidable (a=b):=decidable_of_iff _ (aS.eq_iff a b)
structure Sit where
 (up:Bool)(b l a0 a1 a2 a3 a4:aS)
def Sit.vs(s:Sit):List Value:= .bool s.up::(s.b.vs++(s.l.vs++(s.a0.vs++(s.a1.vs++(s.a2.vs++(s.a3.vs++s.a4.vs))))))
theorem aei(n:Nat)(a0 a1 a2 a3 a4 b0 b1 b2 b3 b4:aS)(w:World):(Op.equalIn (n+3) 34 (.agg (a0.vs++(a1.vs++(a2.vs++(a3.vs++a4.vs)))).toArray) (.agg (b0.vs++(b1.vs++(b2.vs++(b3.vs++b4.vs)))).toArray)).run prog w=
  .ok (decide (a0=b0/\a1=b1/\a2=b2/\a3=b3/\a4=b4)) w:=by
 rw[Op.equalIn];simp only[am',run_underlying Tryz.underlying34,am8];simp only[Std.Legacy.Range.forIn_eq_forIn_range',Std.Legacy.Range.size,apk,apq,Nat.div_one,List.range'_succ,List.range'_zero,List.forIn_cons,List.forIn_nil];have a5:=Tryz.isAgg33;have z5:=Tryz.sizeOf33;have hk:=JF n;simp only[<-aS.eq_iff];unfold aS.vs;go_simp;repeat' split
 all_goals simp_all
theorem aaH:prog.eqGuardType prog.depth 36=false:=by kernel_rfl
theorem Sit.eq_iff(s t:Sit):(s.up=t.up/\s.b=t.b/\s.l=t.l/\s.a0=t.a0/\s.a1=t.a1/\s.a2=t.a2/\s.a3=t.a3/\s.a4=t.a4)↔s=t:=by
 obtain⟨a,b,c,d,e,f,g,h⟩:=s;obtain⟨a',b',c',d',e',f',g',h'⟩:=t;simp
theorem ajz{b:Bool}:(if b=false then Result.ok false w else Result.ok true w:Result Bool)= .ok b w:=by cases b<;>rfl
theorem aej(s t:Sit)(w:World):(Op.equalIn 10000 36 (.agg s.vs.toArray) (.agg t.vs.toArray)).run prog w=
  .ok (decide (s.up=t.up/\s.b=t.b/\s.l=t.l/\(s.a0=t.a0/\s.a1=t.a1/\s.a2=t.a2/\s.a3=t.a3/\s.a4=t.a4))) w:=by
 have hS:prog.underlying 36=some (.struct (prog.fieldsOf 36)):=by kernel_rfl
 have a4:=Tryz.isAgg4;have z4:=Tryz.sizeOf4;have u4:=Tryz.underlying4;have a5:=Tryz.isAgg33;have z5:=Tryz.sizeOf33;have a6:=Tryz.isAgg34;have z6:=Tryz.sizeOf34;rw[show(10000:Nat)=9999+1 from rfl,run_equalIn_agg w 9999 36 _ _ hS (by kernel_rfl)];simp only[Program.fieldsOf,Tryz.underlying36];have hk:=JF 9997;have hk2:=aei 9996;simp only[<-aS.eq_iff]at hk2⊢;unfold aS.vs at hk2;unfold Sit.vs aS.vs;go_simp;repeat' split
 all_goals simp_all
 all_goals exact ajz
theorem al5(s t:Sit):EN prog 36 s.vs t.vs (s=t):=
 ⟨aaH,λ w=>⟨_,by rw[decide_eq_true_eq,<-Sit.eq_iff],aej s t w⟩⟩
section
variable{P:Program}{L:Lay}{N:Nat}{st:AS}
theorem fU.akT(lv:Nat)(hL:bD P L){W:Walk}(hW:G9 P W){id:Nat}{ops:Array Oper}{K:AS->Prop}(S:AS)(hm:P.follows .mixedOrders=true)(hs:Region.noSelect ops=true)(m:Nat)(l:List Oper)(hm':ops.toList.length=m)(hl:ops.toList=l)
  (h:aX P L W N m l (λ st'=>nrm lv st' (λ s=> ∃σ,dZ σ s S)) m [] st)(hK:K S):fU P L W N id ops K st:=by
 subst hm' hl;have go:∀{g:Base}{bs:List (Array Value)}{ρ:Nat->Value}{a:Act}{w:World}{st':AS},nrm lv st' (λ s=> ∃σ,dZ σ s S)->Rel g N bs ρ a w st'-> ∃ρ',Rel g N bs ρ' a w S:=λ h R=>by
  rw[Iq]at h;obtain⟨σ,h⟩:=h;exact(R.wB lv).Nb h
 have:=fU.any (P:=P) (L:=L) (N:=N) (id:=id) hL hW hm hs h.h;cases this with
 |quiet hm hB hq h=>
  refine .sem λ g bs ρ a w E R hE=>?_;refine wp_region_quiet (C:=λ w'=>w'=w.drew) hm hB rfl ?_;have R':Rel g N bs ρ a w.drew st:=R.world (aob _ _).drew;exact uT hL (E:=λ a w=>E .normal a w) (ops:=ops.toList) (λ a w1 st R h=>(go h R).elim λ _ R'=>hE _ _ _ _ R' hK) ops.toList hq R' h
 |sem h=>exact .sem λ g bs ρ a w E R hE=>h g bs ρ a w E R λ ρ a w st R h=>(go h R).elim λ _ R'=>hE _ _ _ _ R' hK
end
structure Stp where
 (k r:Int)(ed:Ed)(at_ bit mask keep:Int)
def Stp.cs(s:Stp):List AV:=[.v (.int .i64 s.k),.v (.int .i64 s.r),.v (.int .i64 s.ed.k),.v (.string s.ed.key),.v (.int .i64 s.ed.l),.v (.string s.ed.v),.v (.int .i64 s.at_),.v (.int .i64 s.bit),.v (.int .u32 s.mask),.v (.int .i64 s.keep)]
def Stp.av(s:Stp):AV:= .agg s.cs
instance:Inhabited Stp:=⟨⟨0,0,⟨0,⟨#[]⟩,0,⟨#[]⟩⟩,0,0,0,0⟩⟩
abbrev akU(l:List Stp):Nat->List AV:=qh Stp.cs l
structure Stp.rng(s:Stp):Prop where
 k: -9223372036854775808<=s.k/\s.k<=9223372036854775807
 r: -9223372036854775808<=s.r/\s.r<=9223372036854775807
 e:s.ed.key.size<=140737488355328/\s.ed.v.size<=140737488355328
 bit: -9223372036854775808<=s.bit/\s.bit<=9223372036854775807
 mask:0<=s.mask/\s.mask<=4294967295
def ag7(k:Int):Int:=(k.tmod 12+12)%12
def rFit(k r n:Int):Int:=if(r.tmod (n+1)+n+1)%(n+1)=n then(if ag7 k<8\/ag7 k=11 then 0 else 5)else(r.tmod (n+1)+n+1)%(n+1)
def akV(s:Stp)(n:Int):Stp:=⟨ag7 s.k,rFit s.k s.r n,AQ s.ed,s.at_,s.bit,s.mask,s.keep⟩
theorem tmod_in(x n:Int)(hn:0<n): -n<x.tmod n/\x.tmod n<n:=by
 have h1:=ao5 x hn;refine⟨?_,h1⟩;rcases Int.le_total 0 x with h|h
 ·have:=Int.tmod_nonneg n h;omega
 ·have h3:=ao5 (-x) hn;rw[Int.neg_tmod]at h3;omega
def safe(q:Nat->Bool)(j:Nat)(x:AV):AV:=bif fG q j x then x else .junk
def aaI(q:Nat->Bool)(j:Nat):AO->Bool
 | .box _ cs=>cs.all (NS q j)
 | .rn _ cs=>cs.all (NS q j)
 | .mp .. =>false
 |_=>true
def BM(ok:AV->Bool)(st S:AS):Prop:= ∀(g:Base)(N:Nat)(bs:List (Array Value))(ρ:Nat->Value)(a:Act)(w:World),Rel g N bs ρ a w st->
 ∃ρ',Rel g N bs ρ' a w S/\ ∀av u,ok av=true->C2 (aA g w ρ st.heap) av u->C2 (aA g w ρ' S.heap) av u
theorem BM.imp(h:BM ok st S):xO st S:=λ g N bs ρ a w R=>by
 obtain⟨ρ',R',_⟩:=h g N bs ρ a w R;exact⟨ρ',R'⟩
theorem BM.trans{p q:AV->Bool}{a b c:AS}(h:BM p a b)(k:BM q b c):BM (λ x=>p x&&q x) a c:=λ g N bs ρ a w R=>by
 obtain⟨ρ1,R1,h1⟩:=h g N bs ρ a w R;obtain⟨WB,R2,h2⟩:=k g N bs ρ1 a w R1;refine⟨WB,R2,λ av u hq hc=>?_⟩;simp only[amY]at hq;exact h2 av u hq.2 (h1 av u hq.1 hc)
theorem bQ.imp(hL:bD P L)(hW:G9 P W)(hE:Enters P f)(hI:BM ok st S)(ha:aW.all ok=true)
  (h:bQ P L W d f aW S K):bQ P L W d f aW st K:=by
 refine .sem hE λ g N bs ρ a w args R hargs=>?_;obtain⟨ρ',R',hc⟩:=hI g N bs ρ a w R;have hargs':aC (C2 (aA g w ρ' S.heap)) aW args:=hargs.ET ha λ _ _ q k=>hc _ _ q k;exact(o9 R' hargs' h (λ lv fn c hf' hnm hb hsz h'=>wF hL hW R' hargs' lv fn c hf' hb hsz h')).2
section
variable{X Y:CX}{q:Nat->Bool}{j:Nat}(hk:∀b,X.keep b->Y.keep b)(hm:Y.w=X.w)(hρ:∀i,q i=true->Y.ρ i=X.ρ i)(hj:dD (Y.ρ j)=dD (X.ρ j))
include hk hm hρ hj
theorem C2.safe{av:AV}{u:Value}(hc:C2 X av u):C2 Y (safe q j av) u:=by
 unfold Go.Proofs.YtkimgljckickcaaGreat.safe;cases hr:fG q j av with
 |true=>exact C2.jT hk hm hρ hj hr hc
 |false=>exact C2.mg (C1.uO trivial)
theorem aQ.jT{p:Nat×AO}(hp:q p.1=true)(hr:aaI q j p.2=true)(h:aQ X p.1 p.2):aQ Y p.1 p.2:=by
 obtain⟨i,o⟩:=p;have hi:Y.ρ i=X.ρ i:=hρ i hp;have hs:aQ ⟨Y.w,Y.keep,X.ρ⟩ i o:=aQ.same (X:=X) (Y:=⟨Y.w,Y.keep,X.ρ⟩) hk (λ _ _=>by rw[hm]) rfl (λ _ _=>by rw[hm]) h;cases o with
 |box t cs=>
  obtain⟨b,us,e,hh,ha⟩:=h;exact⟨b,us,hi.trans e,by rw[hm];exact hh,ha.ET hr λ _ _ q k=>C0.jT hk hm hρ hj q k⟩
 |row e s n sc f=>
  show oO Y (Y.ρ i) e s n sc f;rw[hi];exact hs
 |mp=>cases hr
 |obs o=>
  show∃us,Y.ρ i= .tuple us/\o.R Y.w Y.keep (Y.ρ i);rw[hi];exact hs
 |rn e cs=>
  obtain⟨us,⟨e1,e2⟩,ha⟩:=h;exact⟨us,⟨by rw[hm,hi];exact e1,e2⟩,ha.ET hr λ _ _ q k=>C0.jT hk hm hρ hj q k⟩
end
theorem BM.RG(q:Nat->Bool)(j b':Nat)
  (h:∀X:CX,(ah X.ρ st.heap).Nodup->(∀p∈st.heap,aQ X p.1 p.2)-> ∃ρ':Nat->Value,(∀i,q i=true->ρ' i=X.ρ i)/\dD (ρ' j)=dD (X.ρ j)/\(ah ρ' H').Nodup/\(∀b∈ah ρ' H',b∈ah X.ρ st.heap)/\ ∀p∈H',aQ ⟨X.w,X.keep,ρ'⟩ p.1 p.2):
  BM (fG q j) st ⟨uw (safe q j) st.sl,H',st.back.map (uw (safe q j)),b'⟩:=by
 intro g N bs ρ a w R;obtain⟨ρ',g1,g2,gn,g3,g4⟩:=h (aA g w ρ st.heap) R.apart R.objs;have hk:∀b,aH g w ρ st.heap b->aH g w ρ' H' b:=λ b hb=>⟨hb.1,hb.2.1,λ h=>hb.2.2 (g3 b h)⟩;have hs:∀x u,C2 (aA g w ρ st.heap) x u->C2 (aA g w ρ' H') (safe q j x) u:=λ x u hc=>C2.safe (X:=aA g w ρ st.heap) (Y:=aA g w ρ' H') hk rfl g1 g2 hc;refine⟨ρ',⟨R.size,R.defers,R.below,λ t=>?_,λ p hp=>?_,gn,λ b hb=>R.own b (g3 b hb), ?_⟩,λ av u hr hc=>C2.jT (X:=aA g w ρ st.heap) (Y:=aA g w ρ' H') hk rfl g1 g2 hr hc⟩
 ·show C2 _ (sQ (uw _ st.sl) t) _;rw[pV rfl];exact hs _ _ (R.tmps t)
 ·exact aQ.same (X:=⟨w,aH g w ρ st.heap,ρ'⟩) (Y:=aA g w ρ' H') hk (λ _ _=>rfl) rfl (λ _ _=>rfl) (g4 p hp)
 ·exact mG.map rfl hs R.back
theorem lK{a b:List (Nat×AO)}(h:a.Perm b):(ah ρ a).Perm (ah ρ b):=h.flatMap_right _
theorem BM.close(b':Nat)(hC:Closes B i o)(hp:st.heap.Perm (B++H))(hb:((H.all λ p=>aaI (λ k=>bJ k H) i p.2)&& !bJ i H)=true):
  BM (fG (λ k=>bJ k H) i) st ⟨uw (safe (λ k=>bJ k H) i) st.sl,(i,.obs o)::H,st.back.map (uw (safe (λ k=>bJ k H) i)),b'⟩:=by
 simp only[amY,anB,anh]at hb;refine BM.RG _ _ _ λ X hnd hok=>?_;have hnd:(ah X.ρ (B++H)).Nodup:=(lK hp).nodup_iff.1 hnd;rw[cu,anM]at hnd;obtain⟨us,a1,a2,a3⟩:=hC X.w X.keep X.ρ hnd.1 λ p hq=>hok p (hp.mem_iff.2 (anv _ hq));have hne:∀k,bJ k H=true->(if k=i then Value.tuple us else X.ρ k)=X.ρ k:=λ k hk=>by
  have:k≠i:=by rintro rfl;rw[hb.2]at hk;cases hk
  rw[if_neg this]
 have e:ah (λ k=>if k=i then Value.tuple us else X.ρ k) ((i,.obs o)::H)=blks (.tuple us)++ah X.ρ H:=by
  rw[aP,eX λ p hq=>hne p.1 (bM.2 ⟨p,hq,rfl⟩)];simp
 have hi:dD (if i=i then Value.tuple us else X.ρ i)=dD (X.ρ i):=by rw[if_pos rfl];exact a2
 refine⟨λ k=>if k=i then .tuple us else X.ρ k,hne,hi, ?_,λ c hc=>?_,λ p hq=>?_⟩
 ·rw[e,anM];exact⟨(o.lt a1).2.2,hnd.2.1,λ a ha c hc=>hnd.2.2 a (a3 a ha) c hc⟩
 ·rw[e]at hc;refine(lK hp).mem_iff.2 ?_;rw[cu];exact(am6.1 hc).elim (λ h=>anv _ (a3 c h)) (λ h=>anx _ h)
 ·rcases am4.1 hq with rfl|hq
  ·exact⟨us,s_,by simpa using a1⟩
  ·exact aQ.jT (X:=X) (Y:=⟨X.w,X.keep,λ k=>if k=i then .tuple us else X.ρ k⟩) (q:=λ k=>bJ k H) (j:=i) (λ _ h=>h) rfl hne hi (bM.2 ⟨p,hq,rfl⟩) (hb.1 p hq) (hok p (hp.mem_iff.2 (anx _ hq)))
theorem BM.open(b':Nat)(hO:Opens o i λ _:Unit=>B)(hp:st.heap.Perm ((i,.obs o)::H))
  (hb:((H.all λ p=>aaI (λ k=>bJ k H) i p.2)&& !bJ i H&&bJ i B&&(B.all λ p=>aaI (λ k=>bJ k B) i p.2)&&B.all λ p=> !bJ p.1 H)=true):
  BM (fG (λ k=>bJ k H) i) st ⟨uw (safe (λ k=>bJ k H) i) st.sl,B++H,st.back.map (uw (safe (λ k=>bJ k H) i)),b'⟩:=by
 simp only[amY,anB,anh]at hb;obtain⟨⟨⟨⟨b1,b2⟩,b3⟩,b4⟩,b5⟩:=hb;refine BM.RG _ _ _ λ X hnd hok=>?_;have hnd:(ah X.ρ ((i,.obs o)::H)).Nodup:=(lK hp).nodup_iff.1 hnd;rw[aP,anM]at hnd;obtain⟨us,eu,hR⟩:=hok _ (hp.mem_iff.2 amW);obtain⟨_,ρ',h1,h2,h3⟩:=hO X.w X.keep (X.ρ i) hR;have hH:∀k,bJ k H=true->(if bJ k H=true then X.ρ k else ρ' k)=X.ρ k:=λ k hk=>if_pos hk;have hB:∀k,bJ k B=true->(if bJ k H=true then X.ρ k else ρ' k)=ρ' k:=λ k hk=>by
  obtain⟨p,hp',rfl⟩:=bM.1 hk;rw[if_neg (by rw[b5 p hp'];simp)]
 have hi:dD (if bJ i H=true then X.ρ i else ρ' i)=dD (X.ρ i):=by rw[hB i b3];exact h1
 have e:ah (λ k=>if bJ k H=true then X.ρ k else ρ' k) (B++H)=ah ρ' B++ah X.ρ H:=by
  rw[cu,eX λ p hq=>hB p.1 (bM.2 ⟨p,hq,rfl⟩),eX λ p hq=>hH p.1 (bM.2 ⟨p,hq,rfl⟩)]
 refine⟨λ k=>if bJ k H=true then X.ρ k else ρ' k,hH,hi, ?_,λ c hc=>?_,λ p hq=>?_⟩
 ·rw[e,anM];exact⟨h2.nodup_iff.2 hnd.1,hnd.2.1,λ a ha c hc=>hnd.2.2 a (h2.mem_iff.1 ha) c hc⟩
 ·rw[e]at hc;refine(lK hp).mem_iff.2 ?_;rw[aP];exact(am6.1 hc).elim (λ h=>anv _ (h2.mem_iff.1 h)) (λ h=>anx _ h)
 ·rcases am6.1 hq with hq|hq
  ·exact aQ.jT (X:=⟨X.w,X.keep,ρ'⟩) (Y:=⟨X.w,X.keep,λ k=>if bJ k H=true then X.ρ k else ρ' k⟩) (q:=λ k=>bJ k B) (j:=i) (λ _ h=>h) rfl hB (by show dD (if bJ i H=true then X.ρ i else ρ' i)=dD (ρ' i);rw[hB i b3]) (bM.2 ⟨p,hq,rfl⟩) (b4 p hq) (h3 p hq)
  ·exact aQ.jT (X:=X) (Y:=⟨X.w,X.keep,λ k=>if bJ k H=true then X.ρ k else ρ' k⟩) (q:=λ k=>bJ k H) (j:=i) (λ _ h=>h) rfl hH hi (bM.2 ⟨p,hq,rfl⟩) (b1 p hq) (hok p (hp.mem_iff.2 (am1 _ hq)))
theorem Closes.sub(hB:Closes B i q)(hC:Closes ((i,.obs q)::H) j o)(hb:((H.all λ p=>aaI (λ k=>bJ k H) i p.2)&& !bJ i H&& !Nat.beq i j)=true):Closes (B++H) j o:=by
 simp only[amY,anB,anh]at hb;obtain⟨⟨b1,b2⟩,b3⟩:=hb;refine Closes.imp hC λ X hnd hok=>?_;rw[cu,anM]at hnd;obtain⟨us,a1,a2,a3⟩:=hB X.w X.keep X.ρ hnd.1 λ p hq=>hok p (anv _ hq);have hij:j≠i:=by rintro rfl;simp at b3
 have hne:∀k,bJ k H=true->(if k=i then Value.tuple us else X.ρ k)=X.ρ k:=λ k hk=>by
  have:k≠i:=by rintro rfl;rw[b2]at hk;cases hk
  rw[if_neg this]
 have e:ah (λ k=>if k=i then Value.tuple us else X.ρ k) ((i,.obs q)::H)=blks (.tuple us)++ah X.ρ H:=by
  rw[aP,eX λ p hq=>hne p.1 (bM.2 ⟨p,hq,rfl⟩)];simp
 have hi:dD (if i=i then Value.tuple us else X.ρ i)=dD (X.ρ i):=by rw[if_pos rfl];exact a2
 refine⟨λ k=>if k=i then .tuple us else X.ρ k,by dsimp only;rw[if_neg hij], ?_,λ c hc=>?_,λ p hq=>?_⟩
 ·rw[e,anM];exact⟨(q.lt a1).2.2,hnd.2.1,λ a ha c hc=>hnd.2.2 a (a3 a ha) c hc⟩
 ·rw[e]at hc;rw[cu];exact(am6.1 hc).elim (λ h=>anv _ (a3 c h)) (λ h=>anx _ h)
 ·rcases am4.1 hq with rfl|hq
  ·exact⟨us,s_,by simpa using a1⟩
  ·exact aQ.jT (X:=X) (Y:=⟨X.w,X.keep,λ k=>if k=i then .tuple us else X.ρ k⟩) (q:=λ k=>bJ k H) (j:=i) (λ _ h=>h) rfl hne hi (bM.2 ⟨p,hq,rfl⟩) (b1 p hq) (hok p (anx _ hq))
theorem Opens.ren{j':Nat}{Y:Type}{hs:Y->List (Nat×AO)}(hO:Opens o j hs)(σ:List (Nat×Nat))(hj:jY σ j=some j')(hn:nodupB (σ.map (·.2))=true)(hb:∀y,x9 σ (hs y)=true):Opens o j' λ y=>iO σ (hs y):=by
 intro w k v hR;obtain⟨y,ρ,h1,h2,h3⟩:=hO w k v hR;have e0:∀k i,jY σ k=some i->oP σ ρ i=ρ k:=λ k i e=>by simp only[oP,zJ (nT hn) (rE e)]
 refine⟨y,oP σ ρ,by rw[e0 j j' hj];exact h1,by rw[qc e0 (hb y)];exact h2,λ p hp=>?_⟩;obtain⟨a,q,m1,m2,m3⟩:=Dy hp;obtain⟨i,l1,l2,l3⟩:=Dz (hb y) (a,q) m1;have hi:p.1=i:=by
  simp only[lG,l1,ank]at m2;exact m2.symm
 obtain⟨b,c⟩:=p;dsimp only at hi m3;subst hi m3;exact(aQ.jL (X:=⟨w,k,ρ⟩) (Y:=⟨w,k,oP σ ρ⟩) rfl rfl e0 l1 l3).2 (h3 _ m1)
theorem aj.clo(hM:aj P f hin aW r (B++H))(hC:Closes B i q)
  (hb:(fG (λ k=>bJ k H) i r&&(H.all λ p=>aaI (λ k=>bJ k H) i p.2)&& !(bJ i H)&& !(bJ i hin))=true):aj P f hin aW r ((i,.obs q)::H):=by
 simp only[amY,anB,anh]at hb;obtain⟨⟨⟨hrr,hcl⟩,hne⟩,hni⟩:=hb;refine⟨hM.1,λ w keep ρ args hkeep jg hnd hbl hargs=>(hM.2 w keep ρ args hkeep jg hnd hbl hargs).mono ?_⟩;rintro e w' ⟨u,xQ,rfl,hbel,hfix,hc,hout,hnd',hnew⟩;rw[cu,anM]at hnd';obtain⟨hn1,hn2,hn3⟩:=hnd';obtain⟨vs,hR',aal,hbs⟩:=hC w' (aH (dN w keep (λ b=>b∈ah ρ hin)) w' xQ (B++H)) xQ hn1 (λ p hp=>hout p (anv _ hp));let tV:Nat->Value:=λ k=>if k=i then .tuple vs else xQ k
 have VW:tV i= .tuple vs:=by simp[tV]
 have e4:∀k,bJ k H=true->tV k=xQ k:=λ k hk=>by
  have:k≠i:=by rintro rfl;rw[hne]at hk;cases hk
  simp[tV,this]
 have hb4:ah tV ((i,.obs q)::H)=blks (.tuple vs)++ah xQ H:=by
  rw[aP,eX λ p hp=>e4 p.1 (bM.2 ⟨p,hp,rfl⟩)];show blks (tV i)++_=_;rw[VW]
 have Gq:∀b,b∈ah tV ((i,.obs q)::H)->b∈ah xQ (B++H):=λ b hb=>by
  rw[hb4]at hb;rw[cu];exact(am6.1 hb).elim (λ h=>anv _ (hbs b h)) (λ h=>anx _ h)
 have hk4:∀b,aH (dN w keep (λ b=>b∈ah ρ hin)) w' xQ (B++H) b->aH (dN w keep (λ b=>b∈ah ρ hin)) w' tV ((i,.obs q)::H) b:=
  λ b ⟨h1,h2,h3⟩=>⟨h1,h2,λ h=>h3 (Gq b h)⟩
 have hj:dD (tV i)=dD (xQ i):=by rw[VW,aal]
 refine⟨u,tV,rfl,hbel,λ p hp x hx eq=>?_, ?_,λ p hp=>?_, ?_,λ b hb=>hnew b (Gq b hb)⟩
 ·have hpi:p.1≠i:=λ h=>by
   rw[<-h,bM.2 ⟨p,hp,rfl⟩]at hni;cases hni
  rcases am4.1 hx with rfl|hx
  ·exact absurd eq.symm hpi
  ·have:=hfix p hp x (anx _ hx) eq;rw[show tV p.1=xQ p.1 by simp[tV,hpi]];exact this
 ·exact C2.jT (X:=aA (dN w keep (λ b=>b∈ah ρ hin)) w' xQ (B++H)) (Y:=aA (dN w keep (λ b=>b∈ah ρ hin)) w' tV ((i,.obs q)::H)) hk4 rfl e4 hj hrr hc
 ·rcases am4.1 hp with rfl|hp
  ·refine⟨vs,VW, ?_⟩;show q.R w' _ (tV i);rw[VW];exact q.mono hk4 (λ _ _=>rfl) (λ _ _=>rfl) hR'
  ·exact aQ.jT (X:=aA (dN w keep (λ b=>b∈ah ρ hin)) w' xQ (B++H)) (Y:=aA (dN w keep (λ b=>b∈ah ρ hin)) w' tV ((i,.obs q)::H)) (q:=λ k=>bJ k H) (j:=i) hk4 rfl e4 hj (bM.2 ⟨p,hp,rfl⟩) (hcl p hp) (hout p (anx _ hp))
 ·rw[hb4,anM];exact⟨(q.lt hR').2.2,hn2,λ a ha b hb=>hn3 a (hbs a ha) b hb⟩
theorem bQ.EO(hL:bD P L)(hW:G9 P W)(hE:Enters P f)(id:Nat){F:Nat->List AV}(hf:aG id st.heap=some (.row e s n sc F))
  (h:bQ P L W d f (aW.map (CZ id (.sl s n sc F))) (st.freeze id s n sc F) K):bQ P L W d f aW st K:=by
 refine .sem hE λ g N bs ρ a w args R hargs=>?_;obtain⟨R',hrow⟩:=R.freeze hf;have hk:∀b,aH g w ρ st.heap b->aH g w ρ (st.freeze id s n sc F).heap b:=λ b hb=>⟨hb.1,hb.2.1,λ h=>hb.2.2 (by
  have e:ah ρ (st.freeze id s n sc F).heap=ah ρ (st.heap.filter λ p=> !Nat.beq p.1 id):=by simp[AS.freeze,ah,List.flatMap_map]
  rw[e]at h;exact fQ h)⟩
 have hargs':aC (C2 (aA g w ρ (st.freeze id s n sc F).heap)) (aW.map (CZ id (.sl s n sc F))) args:=hargs.oZ λ _ _=>C2.thaw (X:=aA g w ρ st.heap) (Y:=aA g w ρ (st.freeze id s n sc F).heap) hk (λ _ _=>rfl) rfl (by show PC _ _ _ (dD (ρ id));rw[hrow.hd];exact hrow);exact(o9 R' hargs' h (λ lv fn c hf' hnm hb hsz h'=>wF hL hW R' hargs' lv fn c hf' hb hsz h')).2
theorem UF{g:Base}{h h':List (Nat×AO)}(hp:h.Perm h'):aH g w ρ h=aH g w ρ h':=by
 funext b
 have e:(b∈ah ρ h)=(b∈ah ρ h'):=propext (lK hp).mem_iff;unfold aH;rw[e]
theorem aj.perm(hM:aj P f hin aW r H)(hp:H.Perm H'):aj P f hin aW r H':=by
 refine⟨hM.1,λ w keep ρ args hkeep jg hnd hbl hargs=>(hM.2 w keep ρ args hkeep jg hnd hbl hargs).mono ?_⟩;rintro e w' ⟨u,xQ,rfl,hbel,hfix,hc,hout,hnd',hnew⟩;have hk:=UF (g:=dN w keep (λ b=>b∈ah ρ hin)) (w:=w') (ρ:=xQ) hp;unfold aA at hc hout;rw[hk]at hc hout;exact⟨u,xQ,rfl,hbel,λ p hp' q hq=>hfix p hp' q (hp.mem_iff.2 hq),hc,λ p hp'=>hout p (hp.mem_iff.2 hp'),(lK hp).nodup_iff.1 hnd',λ b hb=>hnew b ((lK hp).mem_iff.2 hb)⟩
theorem kU.ifc{t:TypeId}(hu:P.underlying t=some (.pointer e))(hx:st.ev x= .box id off)(hK:K (.cf (Nat.add t jI) id off) st):kU P st (.makeInterface t x) K:=
 .q _ hK λ g N bs ρ a w o eo R=>by
  have h:=R.ev x;rw[hx]at h;obtain⟨b,h1,hv⟩:=C2.kD h;exact⟨.iface t (.pointer (some ⟨b,off,none⟩)),⟨b,h1,(YA t _).symm⟩,by simp[execOp,eo,Instr.makeInterface,hv,run_underlying hu]⟩
theorem kU.inv(hL:bD P L)(hW:G9 P W)(t:TypeId){c:Call}{m:String}{f:Nat}(d:Nat)(ec:c.callee= .invoke x m)(hx:st.ev x= .cf (Nat.add t jI) id off)
  (hm:∀p w,(method (P.types.size+Made.depth) t p m).run P w= .ok (f,p) w)(h:bQ P L W d f (.box id off::c.args.toList.map st.ev) st K):kU P st (.call c) K:=
 .mk (by obtain⟨cc,ca,ct⟩:=c;dsimp only at ec;subst ec;rfl) λ g N bs ρ a w o next Q e R hk=>by
  have hx':=R.ev x;rw[hx]at hx';obtain⟨b,hb1,hv⟩:=C2.acI hx';rw[YA]at hv;have hargs:aC (C2 (aA g w ρ st.heap)) (.box id off::c.args.toList.map st.ev) (.pointer (some ⟨b,off,none⟩)::c.args.toList.map a.eval):=aC.cons ⟨b,hb1,rfl⟩ (wE R c.args.toList);obtain⟨hent,hcall⟩:=o9 R hargs h (λ lv fn c hf _ hb hsz h=>wF hL hW R hargs lv fn c hf hb hsz h);have hrun:(execOp a.eval o).run P w= .ok (.enter f (.pointer (some ⟨b,off,none⟩)::c.args.toList.map a.eval).toArray) w:=by
   have hcf:=nZ hent (.pointer (some ⟨b,off,none⟩)::c.args.toList.map a.eval).toArray w;have eq:(.pointer (some ⟨b,off,none⟩)::c.args.toList.map a.eval).toArray= #[.pointer (some ⟨b,off,none⟩)]++c.args.map a.eval:=by
    apply aoX;simp
   rw[eq]at hcf⊢;have e0:∀v:Value,(#[v]++c.args.map a.eval)[0]? =some v:=λ v=>by rw[Array.getElem?_append,if_pos s_];rfl
   have e1:∀v:Value,(#[v]++c.args.map a.eval).extract 1 (#[v]++c.args.map a.eval).size=c.args.map a.eval:=λ v=>by
    apply aoX;rw[Array.toList_extract];simp[List.extract];rw[anf s_]
   simp only[execOp,e,resolve,ec,am',anp,am8,invoke,hv,e0,e1,callMethod,hm,run_program];exact hcf
  unfold Oper.wp;rw[hrun,Oper.upon_enter];refine hcall.mono ?_;rintro e' w' ⟨u,y,st',ρ',rfl,h1,h2,h3⟩;exact hk _ _ _ _ _ h1 h2 h3
theorem ajA(s:Stp)(n:Int)(hn:1<=n/\n<=5)(hs:s.rng):aF prog 52 [s.av,.v (.int .i64 n)] (akV s n).av []:=by
 obtain⟨k,r,⟨ek,key,l,v⟩,at',bit,mask,keep⟩:=s;obtain⟨sk,sr,se,sb,sm⟩:=hs;dsimp only at sk sr se sb sm;have hf:=WW ⟨ek,key,l,v⟩ se.1 se.2;obtain⟨fe,hfe⟩:∃fe,AQ ⟨ek,key,l,v⟩=fe:=⟨_,rfl⟩;rw[hfe]at hf;have hk:=tmod_in k 12 d_;have hr:=tmod_in r (n+1) o_;unfold akV rFit ag7;dsimp only[Stp.av,Stp.cs,Ed.av,Ed.cs]at hf⊢;rw[hfe];obtain⟨fk,amA,fl,fv⟩:=fe;dsimp only at hf⊢;clear hfe;rcases(show n=1\/n=2\/n=3\/n=4\/n=5 by omega)with rfl|rfl|rfl|rfl|rfl;all_goals
  refine K1.E 0x804000017 func52 ?_;repeat' ((conv=>whnf);first|refine K1.u ?_|refine K1.P1 hf ?_|refine Rm.raw (a:=k) d_ ?_|refine Rm.raw (a:=r) d_ ?_|refine aT.fH ?_|refine K1.z ?_|refine K1.y (λ _=>?_) (λ _=>?_)|fail)
  all_goals(conv=>whnf)
  all_goals first
   |(simp only[*,if_true,if_false];exact bF.mk (bY))
   |fail

def cyS:ByteArray:=⟨#[99,121]⟩
def amB:List Ev:=[⟨0,1,⟨0,0,0,0,0⟩,1,1,cyS,0,⟨#[]⟩⟩,⟨1,1,⟨1,0,0,0,0⟩,2,3,cyS,0,⟨#[49]⟩⟩,⟨0,2,⟨1,0,0,0,0⟩,2,2,cyS,0,⟨#[]⟩⟩,⟨0,3,⟨2,0,0,0,0⟩,3,1,cyS,0,⟨#[]⟩⟩]
theorem dJ.slF{f:Nat->List AV}(h:∀i,i<n->f i=g i):dJ (.sl s n sc f) (.sl s n sc g):=by
 intro X u hu;have hu:PC X.w X.keep (.sl s n sc f) u:=hu;show PC X.w X.keep (.sl s n sc g) u;cases hu with
 |sl _ _ _ _ A c us hs hn hc hl hf hsc hq hr=>exact .sl s n sc g A c us hs hn hc hl (λ i hi=>by rw[<-h i hi];exact hf i hi) (by rw[<-jD h];exact hsc) (by rw[<-jD h];exact hq) hr
def mZ(xs ys:List AV):Prop:=xs.length=ys.length/\ ∀(i:Nat)(x y:AV),xs[i]? =some x->ys[i]? =some y-> ∀(w:World)(keep:Nat->Prop)(u:Value),PC w keep x u->PC w keep y u
theorem mZ.refl(xs:List AV):mZ xs xs:=⟨rfl,λ i x y hx hy w k u h=>by rw[hx]at hy;cases hy;exact h⟩
theorem mZ.nil:mZ [] []:=mZ.refl _
theorem mZ.cons{x y:AV}(h:∀(w:World)(keep:Nat->Prop)(u:Value),PC w keep x u->PC w keep y u)(hs:mZ xs ys):mZ (x::xs) (y::ys):=
 ⟨by simp[hs.1],λ i a b ha hb=>by
  cases i with
  |zero=>cases ha;cases hb;exact h
  |succ i=>exact hs.2 i a b (by simpa using ha) (by simpa using hb)⟩
theorem mZ.app{xs' ys':List AV}(h:mZ xs ys)(h':mZ xs' ys'):mZ (xs++xs') (ys++ys'):=by
 refine⟨by rw[am0,am0,h.1,h'.1],λ i a b ha hb=>?_⟩;rcases anr i xs.length with hi|hi
 ·rw[anq hi]at ha;rw[anq (by rw[<-h.1];exact hi)]at hb;exact h.2 i a b ha hb
 ·rw[anI hi]at ha;rw[anI (by rw[<-h.1];exact hi),<-h.1]at hb;exact h'.2 _ a b ha hb
theorem mZ.flat:∀{n:Nat}{f g:Nat->List AV},(∀i,i<n->mZ (f i) (g i))->mZ (flat n f) (flat n g)
 |0,_,_,_=>mZ.nil
 |n+1,f,g,h=>(h 0 o_).app (mZ.flat λ i hi=>h (i+1) o_)
theorem mZ.all(h:mZ xs ys){us:List Value}(ha:aC (PC w keep) xs us):aC (PC w keep) ys us:=
 ⟨h.1.symm.trans ha.1,λ i y u hy hu=>by
  have hi:i<xs.length:=by rw[h.1];exact(anc.1 hy).1
  exact h.2 i _ y (amX hi) hy w keep u (ha.2 i _ u (amX hi) hu)⟩
theorem dK.amC{n':Nat}{f f':Nat->List AV}(hn:n=n')(hf:∀i,i<n->mZ (f i) (f' i)):dK (.row e s n sc f) (.row e s n' false f'):=by
 subst hn;rintro X id ⟨us,hown,hs,hfl,_,ha⟩;exact⟨us,hown,hs,λ i hi=>by rw[<-(hf i hi).1];exact hfl i hi,(λ h=>by cases h),(mZ.flat hf).all ha⟩
theorem PC.slF{m:Nat}{f:Nat->List AV}(hn:n=m)(h:∀i,i<n->f i=g i)(u:Value)(hu:PC w keep (.sl s n sc f) u):PC w keep (.sl s m sc g) u:=by
 subst hn;cases hu with
 |sl _ _ _ _ A c us hs hn hc hl hf hsc hq hr=>exact .sl s n sc g A c us hs hn hc hl (λ i hi=>by rw[<-h i hi];exact hf i hi) (by rw[<-jD h];exact hsc) (by rw[<-jD h];exact hq) hr
section
open Go.ChangeShapes Go.WideShapes Go.ChangeAt Go.RowKit
def UG(n:Int):Prop:= -9223372036854775808<=n/\n<=9223372036854775807
theorem oI{n:Int}(h:(Lit.int .i64 n).wf=true):UG n:=by
 simpa[UG,Lit.wf,IntKind.min,IntKind.max,IntKind.signed,IntKind.bits]using h
structure lZ.rng(c:lZ):Prop where
 n:UG c.n
 w:UG c.w
 q:UG c.q
 h:UG c.h
 l:UG c.l
 p:UG c.p
theorem ajB:Sh 23 (λ aW=> ∃c:lZ,aW=c.cs/\c.rng):=
 (Fa Tryz.underlying23 (by kernel_rfl) rfl (.cons (oq Tryz.underlying3) (.cons (oq Tryz.underlying3) (.cons (oq Tryz.underlying3) (.cons (oq Tryz.underlying3) (.cons (oq Tryz.underlying3) (.cons (oq Tryz.underlying3) .nil))))))).imp λ aW h=>by
  obtain⟨_,_,rfl,⟨a,rfl,ha⟩,_,_,rfl,⟨b,rfl,hb⟩,_,_,rfl,⟨c,rfl,hc⟩,_,_,rfl,⟨d,rfl,hd⟩,_,_,rfl,⟨e,rfl,he⟩,_,_,rfl,⟨f,rfl,hf⟩,rfl⟩:=h;exact⟨⟨a,b,c,d,e,f⟩,rfl,oI ha,oI hb,oI hc,oI hd,oI he,oI hf⟩
section
variable{H:Type}{enc:TypeId×Value->H}{w:World}{spare:Nat->Bool}{held:Bool}{v:Value}{d:DataW H}{p:List MemPlace}{r:Reach}{b0:Nat}
theorem als(hv:Value.okWide prog w r b0 23 v)(h:DataW.Trod enc prog w 0 spare held 23 v d p)(hw:∀n∈d.weights prog 23,n<=reachBytes):∃c:lZ,c.rng/\C1 ⟨w,allOf w,λ _=>undef⟩ c.av v:=by
 obtain⟨cs,rfl,_⟩:=okWide_struct Tryz.underlying23 hv;obtain⟨xs,⟨e,rfl,he⟩,hc⟩:=YM ajB h hw ⟨_,rfl⟩;exact⟨e,he,hc⟩
end
end
section
open Go.ChangeShapes Go.WideShapes Go.ChangeAt Go.RowKit
theorem aek:Sh 49 (λ aW=> ∃e:Ed,aW=e.cs/\e.key.size<=140737488355328/\e.v.size<=140737488355328):=
 (Fa Tryz.underlying49 (by kernel_rfl) rfl (.cons (oq Tryz.underlying3) (.cons (ND Tryz.underlying9) (.cons (oq Tryz.underlying3) (.cons (ND Tryz.underlying9) .nil))))).imp λ aW h=>by
  obtain⟨_,_,rfl,⟨a,rfl,ha⟩,_,_,rfl,⟨b,rfl,hb⟩,_,_,rfl,⟨c,rfl,hc⟩,_,_,rfl,⟨d,rfl,hd⟩,rfl⟩:=h;exact⟨⟨a,b,c,d⟩,rfl,hb,hd⟩
theorem ag8:Sh 52 (λ aW=> ∃s:Stp,aW=s.cs/\s.rng):=
 (Fa Tryz.underlying52 (by kernel_rfl) rfl (.cons (oq Tryz.underlying3) (.cons (oq Tryz.underlying3) (.cons aek (.cons (oq Tryz.underlying3) (.cons (oq Tryz.underlying3) (.cons (oq Tryz.underlying50) (.cons (oq Tryz.underlying3) .nil)))))))).imp λ aW h=>by
  obtain⟨_,_,rfl,⟨a,rfl,ha⟩,_,_,rfl,⟨b,rfl,hb⟩,_,_,rfl,⟨e,rfl,he⟩,_,_,rfl,⟨c,rfl,_⟩,_,_,rfl,⟨d,rfl,hd⟩,_,_,rfl,⟨f,rfl,hf⟩,_,_,rfl,⟨g,rfl,_⟩,rfl⟩:=h;exact⟨⟨a,b,e,c,d,f,g⟩,rfl,oI ha,oI hb,he,oI hd,by simpa[Lit.wf,IntKind.min,IntKind.max,IntKind.signed,IntKind.bits]using hf⟩
theorem ael:Sh 24 (λ aW=> ∃l:List Stp,aW=[.sl 10 l.length true (akU l)]/\(∀o∈l,o.rng)/\l.length<=140737488355328):=
 adz (s:=10) (c:=Stp.cs) (good:=Stp.rng) true Tryz.underlying24 (by kernel_rfl) o_ (of_decide_eq_true (by kernel_rfl)) (λ _=>rfl)
  (λ _ a x hx=>by
   simp only[Stp.cs,am4,aol,or_false]at hx;rcases hx with rfl|rfl|rfl|rfl|rfl|rfl|rfl|rfl|rfl|rfl<;>exact⟨_,rfl⟩) ag8
section
variable{H:Type}{enc:TypeId×Value->H}{w:World}{spare:Nat->Bool}{held:Bool}{v:Value}{d:DataW H}{p:List MemPlace}{r:Reach}{b0:Nat}
theorem akg(hv:Value.okWide prog w r b0 24 v)(h:DataW.Trod enc prog w 0 spare held 24 v d p)(hw:∀n∈d.weights prog 24,n<=reachBytes):∃l:List Stp,(∀o∈l,o.rng)/\l.length<=140737488355328/\C1 ⟨w,allOf w,λ _=>undef⟩ (.sl 10 l.length true (akU l)) v:=by
 obtain⟨a,n,c,rfl⟩:=okWide_slice Tryz.underlying24 hv;obtain⟨x,⟨l,e,hl,hm⟩,hc⟩:=agN ael (λ _ ⟨l,e,_⟩=>by rw[e];rfl) h hw rfl;cases e;exact⟨l,hl,hm,hc⟩
end
end
section
open Go.ChangeShapes Go.WideShapes Go.ChangeAt Go.RowKit
theorem akh{P:Program}{r:Reach}{w:World}{b0 n:Nat}{t e:TypeId}{v:Value}(ht:P.underlying t=some (.array n e))(h:Value.okWide P w r b0 t v):∃cs,v= .agg cs/\cs.size=P.cellsOf t:=by
 simp only[Value.okWide,ht]at h;obtain⟨cs,h1,h2,_⟩:=h;exact⟨cs,h1,h2⟩
section
variable{H:Type}{enc:TypeId×Value->H}{w:World}{spare:Nat->Bool}{held:Bool}{v:Value}{d:DataW H}{p:List MemPlace}{r:Reach}{b0:Nat}
theorem al6(hv:Value.okWide prog w r b0 49 v)(h:DataW.Trod enc prog w 0 spare held 49 v d p)(hw:∀n∈d.weights prog 49,n<=reachBytes):∃e:Ed,(e.key.size<=140737488355328/\e.v.size<=140737488355328)/\C1 ⟨w,allOf w,λ _=>undef⟩ e.av v:=by
 obtain⟨cs,rfl,_⟩:=okWide_struct Tryz.underlying49 hv;obtain⟨xs,⟨e,rfl,he⟩,hc⟩:=YM aek h hw ⟨_,rfl⟩;exact⟨e,he,hc⟩
end
end
end Go.Proofs.YtkimgljckickcaaGreat
