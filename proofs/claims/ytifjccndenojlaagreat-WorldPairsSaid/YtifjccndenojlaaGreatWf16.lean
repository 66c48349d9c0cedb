/-
  Contracts of the walk:HbF,HbS,AyR,St0,AmP,AmQ,AmI,StF,LenA,BkH,Open,OpenH,OpenW,OpenX,ImpL.
-/
import Derived.Test.YtifjccndenojlaaGreatWf15
import Derived.Test.YtifjccndenojlaaGreatWf12
import Derived.Test.YtifjccndenojlaaGreatWf14
import Derived.Test.YtifjccndenojlaaGreatWf9
import Derived.Test.YtifjccndenojlaaGreatWf10
import Derived.Test.YtifjccndenojlaaGreatWf11
set_option maxHeartbeats 16000000
set_option maxRecDepth 100000
set_option linter.unusedVariables false
set_option linter.unusedSimpArgs false
namespace Go.Proofs.YtifjccndenojlaaGreat
open Go.RowKit
open Go.Proofs.Tryz
variable{S st:AS}{r:AV}{K:AV->AS->Prop}{ok:AV->Bool}{sc:Bool}{f:FuncId}{L:Lay}{B H H' hin:List (Nat×AO)}{aZ xs ys:List AV}{d i id j n off s:Nat}{g:Nat->List AV}{keep:Nat->Prop}{ρ:Nat->Value}{o q:OB}{x:Operand}{P:Program}{e:TypeId}{W:Walk}{w:World}
structure iW(s:jY):Prop where
 b0:0<=s.base
 ln:s.base+(s.kept.length:Int)<=1048576
theorem iW.b1{s:jY}(h:iW s):s.base<=1000000000000:=by have:=h.b0;have:=h.ln;omega
theorem iW.k{s:jY}(h:iW s):s.kept.length<=1048576:=by have:=h.b0;have:=h.ln;omega
structure qX(p:Pt):Prop where
 h1:1<=p.sh.length
 h5:p.sh.length<=5
 t:p.told.length=p.sh.length
 s:∀s∈p.sh,iW s
def nums(l:List Int):List AV:=[.v (.int .i64 (l.getD 0 0)),.v (.int .i64 (l.getD 1 0)),.v (.int .i64 (l.getD 2 0)),.v (.int .i64 (l.getD 3 0)),.v (.int .i64 (l.getD 4 0))]
def Pt.site(p:Pt):List AV:= .v (.bool true)::(nums (p.sh.map jY.base)++(nums (p.sh.map jY.len)++(yQ (p.told.getD 0 aW)++(yQ (p.told.getD 1 aW)++(yQ (p.told.getD 2 aW)++(yQ (p.told.getD 3 aW)++yQ (p.told.getD 4 aW)))))))
theorem Ld{most:Int}{p p':Pt}{ho:List (Nat×AO)}(hE:Enters prog f)(h:aj prog f (rD most p ()) aZ r (rD most p' ()++ho))
  (hb:(aZ.all (pO (λ _=>false) 0)&&fV (λ i=>bP i ho) 0 r&&fU ho ho&& !(bP 0 ho))=true):aj prog f [(0,.obs (Bd most p))] aZ r ((0,.obs (Bd most p'))::ho):=
 aj.opn hE (Opens.pack (rD most p)) (λ _=>⟨_,VQ most p',rfl,rfl,h⟩) hb
theorem Pt.cases{C:Pt->Prop}(p:Pt)(hp:qX p)(h1:∀s0 t0,iW s0->C ⟨[s0],[t0]⟩)(h2:∀s0 s1 t0 t1,iW s0->iW s1->C ⟨[s0,s1],[t0,t1]⟩)
  (h3:∀s0 s1 s2 t0 t1 t2,iW s0->iW s1->iW s2->C ⟨[s0,s1,s2],[t0,t1,t2]⟩)(h4:∀s0 s1 s2 s3 t0 t1 t2 t3,iW s0->iW s1->iW s2->iW s3->C ⟨[s0,s1,s2,s3],[t0,t1,t2,t3]⟩)
  (h5:∀s0 s1 s2 s3 s4 t0 t1 t2 t3 t4,iW s0->iW s1->iW s2->iW s3->iW s4->C ⟨[s0,s1,s2,s3,s4],[t0,t1,t2,t3,t4]⟩):C p:=by
 obtain⟨sh,told⟩:=p;obtain⟨a1,a5,at',as'⟩:=hp;dsimp only at a1 a5 at' as';rcases sh with _|⟨s0,_|⟨s1,_|⟨s2,_|⟨s3,_|⟨s4,_|⟨s5,sh⟩⟩⟩⟩⟩⟩
 ·simp at a1
 ·rcases told with _|⟨t0,_|⟨t1,told⟩⟩
  ·simp at at'
  ·exact h1 s0 t0 (as' _ s_)
  ·simp at at'
 ·rcases told with _|⟨t0,_|⟨t1,_|⟨t2,told⟩⟩⟩
  ·simp at at'
  ·simp at at'
  ·exact h2 s0 s1 t0 t1 (as' _ s_) (as' _ s_)
  ·simp at at'
 ·rcases told with _|⟨t0,_|⟨t1,_|⟨t2,_|⟨t3,told⟩⟩⟩⟩
  ·simp at at'
  ·simp at at'
  ·simp at at'
  ·exact h3 s0 s1 s2 t0 t1 t2 (as' _ s_) (as' _ s_) (as' _ s_)
  ·simp at at'
 ·rcases told with _|⟨t0,_|⟨t1,_|⟨t2,_|⟨t3,_|⟨t4,told⟩⟩⟩⟩⟩
  ·simp at at'
  ·simp at at'
  ·simp at at'
  ·simp at at'
  ·exact h4 s0 s1 s2 s3 t0 t1 t2 t3 (as' _ s_) (as' _ s_) (as' _ s_) (as' _ s_)
  ·simp at at'
 ·rcases told with _|⟨t0,_|⟨t1,_|⟨t2,_|⟨t3,_|⟨t4,_|⟨t5,told⟩⟩⟩⟩⟩⟩
  ·simp at at'
  ·simp at at'
  ·simp at at'
  ·simp at at'
  ·simp at at'
  ·exact h5 s0 s1 s2 s3 s4 t0 t1 t2 t3 t4 (as' _ s_) (as' _ s_) (as' _ s_) (as' _ s_) (as' _ s_)
  ·simp at at'
 ·simp at a5
instance:Inhabited jY:=⟨⟨0,[]⟩⟩
theorem Pt.Le{C:Pt->Nat->Prop}(p:Pt)(r:Nat)(hp:qX p)(hr:r<p.sh.length)
  (h10:∀s0 t0,iW s0->C ⟨[s0],[t0]⟩ 0)
  (h20:∀s0 s1 t0 t1,iW s0->iW s1->C ⟨[s0,s1],[t0,t1]⟩ 0)
  (h21:∀s0 s1 t0 t1,iW s0->iW s1->C ⟨[s0,s1],[t0,t1]⟩ 1)
  (h30:∀s0 s1 s2 t0 t1 t2,iW s0->iW s1->iW s2->C ⟨[s0,s1,s2],[t0,t1,t2]⟩ 0)
  (h31:∀s0 s1 s2 t0 t1 t2,iW s0->iW s1->iW s2->C ⟨[s0,s1,s2],[t0,t1,t2]⟩ 1)
  (h32:∀s0 s1 s2 t0 t1 t2,iW s0->iW s1->iW s2->C ⟨[s0,s1,s2],[t0,t1,t2]⟩ 2)
  (h40:∀s0 s1 s2 s3 t0 t1 t2 t3,iW s0->iW s1->iW s2->iW s3->C ⟨[s0,s1,s2,s3],[t0,t1,t2,t3]⟩ 0)
  (h41:∀s0 s1 s2 s3 t0 t1 t2 t3,iW s0->iW s1->iW s2->iW s3->C ⟨[s0,s1,s2,s3],[t0,t1,t2,t3]⟩ 1)
  (h42:∀s0 s1 s2 s3 t0 t1 t2 t3,iW s0->iW s1->iW s2->iW s3->C ⟨[s0,s1,s2,s3],[t0,t1,t2,t3]⟩ 2)
  (h43:∀s0 s1 s2 s3 t0 t1 t2 t3,iW s0->iW s1->iW s2->iW s3->C ⟨[s0,s1,s2,s3],[t0,t1,t2,t3]⟩ 3)
  (h50:∀s0 s1 s2 s3 s4 t0 t1 t2 t3 t4,iW s0->iW s1->iW s2->iW s3->iW s4->C ⟨[s0,s1,s2,s3,s4],[t0,t1,t2,t3,t4]⟩ 0)
  (h51:∀s0 s1 s2 s3 s4 t0 t1 t2 t3 t4,iW s0->iW s1->iW s2->iW s3->iW s4->C ⟨[s0,s1,s2,s3,s4],[t0,t1,t2,t3,t4]⟩ 1)
  (h52:∀s0 s1 s2 s3 s4 t0 t1 t2 t3 t4,iW s0->iW s1->iW s2->iW s3->iW s4->C ⟨[s0,s1,s2,s3,s4],[t0,t1,t2,t3,t4]⟩ 2)
  (h53:∀s0 s1 s2 s3 s4 t0 t1 t2 t3 t4,iW s0->iW s1->iW s2->iW s3->iW s4->C ⟨[s0,s1,s2,s3,s4],[t0,t1,t2,t3,t4]⟩ 3)
  (h54:∀s0 s1 s2 s3 s4 t0 t1 t2 t3 t4,iW s0->iW s1->iW s2->iW s3->iW s4->C ⟨[s0,s1,s2,s3,s4],[t0,t1,t2,t3,t4]⟩ 4):C p r:=by
 refine Pt.cases (C:=λ p=>r<p.sh.length->C p r) p hp ?_ ?_ ?_ ?_ ?_ hr
 ·intro s0 t0 g0 hr;rcases(show r=0 by simp at hr;omega)with rfl
  ·exact h10 s0 t0 g0
 ·intro s0 s1 t0 t1 g0 g1 hr;rcases(show r=0\/r=1 by simp at hr;omega)with rfl|rfl
  ·exact h20 s0 s1 t0 t1 g0 g1
  ·exact h21 s0 s1 t0 t1 g0 g1
 ·intro s0 s1 s2 t0 t1 t2 g0 g1 g2 hr;rcases(show r=0\/r=1\/r=2 by simp at hr;omega)with rfl|rfl|rfl
  ·exact h30 s0 s1 s2 t0 t1 t2 g0 g1 g2
  ·exact h31 s0 s1 s2 t0 t1 t2 g0 g1 g2
  ·exact h32 s0 s1 s2 t0 t1 t2 g0 g1 g2
 ·intro s0 s1 s2 s3 t0 t1 t2 t3 g0 g1 g2 g3 hr;rcases(show r=0\/r=1\/r=2\/r=3 by simp at hr;omega)with rfl|rfl|rfl|rfl
  ·exact h40 s0 s1 s2 s3 t0 t1 t2 t3 g0 g1 g2 g3
  ·exact h41 s0 s1 s2 s3 t0 t1 t2 t3 g0 g1 g2 g3
  ·exact h42 s0 s1 s2 s3 t0 t1 t2 t3 g0 g1 g2 g3
  ·exact h43 s0 s1 s2 s3 t0 t1 t2 t3 g0 g1 g2 g3
 ·intro s0 s1 s2 s3 s4 t0 t1 t2 t3 t4 g0 g1 g2 g3 g4 hr;rcases(show r=0\/r=1\/r=2\/r=3\/r=4 by simp at hr;omega)with rfl|rfl|rfl|rfl|rfl
  ·exact h50 s0 s1 s2 s3 s4 t0 t1 t2 t3 t4 g0 g1 g2 g3 g4
  ·exact h51 s0 s1 s2 s3 s4 t0 t1 t2 t3 t4 g0 g1 g2 g3 g4
  ·exact h52 s0 s1 s2 s3 s4 t0 t1 t2 t3 t4 g0 g1 g2 g3 g4
  ·exact h53 s0 s1 s2 s3 s4 t0 t1 t2 t3 t4 g0 g1 g2 g3 g4
  ·exact h54 s0 s1 s2 s3 s4 t0 t1 t2 t3 t4 g0 g1 g2 g3 g4
theorem VT(most:Int)(s:jY)(h:iW s):aj prog 98 [(0,.obs (EJ most s))] [.box 0 0] (.v (.int .i64 s.len)) [(0,.obs (EJ most s))]:=afx most s h.b0 h.b1 h.k
theorem eP(most:Int)(p:Pt)(hp:qX p):aj prog 59 [(0,.obs (Bd most p))] [.box 0 0] (.agg p.site) [(0,.obs (Bd most p))]:=by
 refine Ld (ho:=[]) ⟨_,_,func59,rfl,rfl⟩ ?_ rfl;rw[aor];refine Pt.cases (C:=λ p=>aj prog 59 (rD most p ()) [.box 0 0] (.agg p.site) (rD most p ())) p hp ?_ ?_ ?_ ?_ ?_;all_goals
  intros;dsimp only[rD,ptB,wC,ptrs,YI];refine K1.M 0xd func59 40 ?_;repeat' ((conv=>whnf);first|refine K1.u ?_|refine K1.C 1 [(0,_)] (VT _ _ a_) rfl ?_ rfl rfl rfl|refine K1.C 1 [(0,_)] (abX _ _) rfl ?_|refine K1.I 0x78f3 func96 ?_|refine aI.yP 13 6 rfl ?_|refine ASl.part ?_|refine nV.mk d_ ?_|refine oC.yes d_ ?_|refine oC.no d_ ?_|refine K1.o (id:=2) (nN [0,1,2,3,4,5] [(6,some [5,3])]) ?_|fail)
  all_goals(conv=>whnf)
  refine⟨[],rfl,rfl, ?_,rfl,rfl,au⟩;repeat' first|exact trivial|refine⟨ay rfl, ?_⟩
instance(a b:aV):Decidable (a=b):=decidable_of_iff _ (aV.eq_iff a b)
structure Sit where
 (up:Bool)(b l a0 a1 a2 a3 a4:aV)
def Sit.vs(s:Sit):List Value:= .bool s.up::(s.b.vs++(s.l.vs++(s.a0.vs++(s.a1.vs++(s.a2.vs++(s.a3.vs++s.a4.vs))))))
theorem afG(n:Nat)(a0 a1 a2 a3 a4 b0 b1 b2 b3 b4:aV)(w:World):(Op.equalIn (n+3) 42 (.agg (a0.vs++(a1.vs++(a2.vs++(a3.vs++a4.vs)))).toArray) (.agg (b0.vs++(b1.vs++(b2.vs++(b3.vs++b4.vs)))).toArray)).run prog w=
  .ok (decide (a0=b0/\a1=b1/\a2=b2/\a3=b3/\a4=b4)) w:=by
 rw[Op.equalIn];simp only[aoy,run_underlying Tryz.underlying42,aow];simp only[apL,Std.Legacy.Range.size,aqo,aqi,Nat.div_one,aq1,aq2,List.forIn_cons,List.forIn_nil];have a5:=Tryz.isAgg41;have z5:=Tryz.sizeOf41;have hk:=KO n;simp only[<-aV.eq_iff];unfold aV.vs;go_simp;repeat' split
 all_goals simp_all
theorem abZ:prog.eqGuardType prog.depth 44=false:=by kernel_rfl
theorem Sit.eq_iff(s t:Sit):(s.up=t.up/\s.b=t.b/\s.l=t.l/\s.a0=t.a0/\s.a1=t.a1/\s.a2=t.a2/\s.a3=t.a3/\s.a4=t.a4)↔s=t:=by
 obtain⟨a,b,c,d,e,f,g,h⟩:=s;obtain⟨a',b',c',d',e',f',g',h'⟩:=t;simp
theorem ald{b:Bool}:(if b=false then Result.ok false w else Result.ok true w:Result Bool)= .ok b w:=by cases b<;>rfl
theorem afH(s t:Sit)(w:World):(Op.equalIn 10000 44 (.agg s.vs.toArray) (.agg t.vs.toArray)).run prog w=
  .ok (decide (s.up=t.up/\s.b=t.b/\s.l=t.l/\(s.a0=t.a0/\s.a1=t.a1/\s.a2=t.a2/\s.a3=t.a3/\s.a4=t.a4))) w:=by
 have hS:prog.underlying 44=some (.struct (prog.fieldsOf 44)):=by kernel_rfl
 have a4:=Tryz.isAgg4;have z4:=Tryz.sizeOf4;have u4:=Tryz.underlying4;have a5:=Tryz.isAgg41;have z5:=Tryz.sizeOf41;have a6:=Tryz.isAgg42;have z6:=Tryz.sizeOf42;rw[show(10000:Nat)=9999+1 from rfl,run_equalIn_agg w 9999 44 _ _ hS (by kernel_rfl)];simp only[Program.fieldsOf,Tryz.underlying44];have hk:=KO 9997;have hk2:=afG 9996;simp only[<-aV.eq_iff]at hk2⊢;unfold aV.vs at hk2;unfold Sit.vs aV.vs;go_simp;repeat' split
 all_goals simp_all
 all_goals exact ald
theorem YJ(s t:Sit):zf prog 44 s.vs t.vs (s=t):=
 ⟨abZ,λ w=>⟨_,by rw[decide_eq_true_eq,<-Sit.eq_iff],afH s t w⟩⟩
section
variable{P:Program}{L:Lay}{N:Nat}{st:AS}
theorem fO.amw(lv:Nat)(hL:bJ P L){W:Walk}(hW:Iz P W){id:Nat}{ops:Array Oper}{K:AS->Prop}(S:AS)(hm:P.follows .mixedOrders=true)(hs:Region.noSelect ops=true)(m:Nat)(l:List Oper)(hm':ops.toList.length=m)(hl:ops.toList=l)
  (h:bD P L W N m l (λ st'=>nrm lv st' (λ s=> ∃σ,dO σ s S)) m [] st)(hK:K S):fO P L W N id ops K st:=by
 subst hm' hl;have go:∀{g:Base}{bs:List (Array Value)}{ρ:Nat->Value}{a:Act}{w:World}{st':AS},nrm lv st' (λ s=> ∃σ,dO σ s S)->Rel g N bs ρ a w st'-> ∃ρ',Rel g N bs ρ' a w S:=λ h R=>by
  rw[Jt]at h;obtain⟨σ,h⟩:=h;exact(R.wX lv).OD h
 have:=fO.any (P:=P) (L:=L) (N:=N) (id:=id) hL hW hm hs h.h;cases this with
 |quiet hm hB hq h=>
  refine .sem λ g bs ρ a w E R hE=>?_;refine wp_region_quiet (C:=λ w'=>w'=w.drew) hm hB rfl ?_;have R':Rel g N bs ρ a w.drew st:=R.world (apD _ _).drew;exact vN hL (E:=λ a w=>E .normal a w) (ops:=ops.toList) (λ a w1 st R h=>(go h R).elim λ _ R'=>hE _ _ _ _ R' hK) ops.toList hq R' h
 |sem h=>exact .sem λ g bs ρ a w E R hE=>h g bs ρ a w E R λ ρ a w st R h=>(go h R).elim λ _ R'=>hE _ _ _ _ R' hK
end
structure Stp where
 (k r:Int)(ed:Ed)(at_ bit mask keep:Int)
def Stp.cs(s:Stp):List AV:=[.v (.int .i64 s.k),.v (.int .i64 s.r),.v (.int .i64 s.ed.k),.v (.string s.ed.key),.v (.int .i64 s.ed.l),.v (.string s.ed.v),.v (.int .i64 s.at_),.v (.int .i64 s.bit),.v (.int .u32 s.mask),.v (.int .i64 s.keep)]
def Stp.av(s:Stp):AV:= .agg s.cs
instance:Inhabited Stp:=⟨⟨0,0,⟨0,⟨#[]⟩,0,⟨#[]⟩⟩,0,0,0,0⟩⟩
abbrev IE(l:List Stp):Nat->List AV:=og Stp.cs l
structure Stp.rng(s:Stp):Prop where
 k: -9223372036854775808<=s.k/\s.k<=9223372036854775807
 r: -9223372036854775808<=s.r/\s.r<=9223372036854775807
 e:s.ed.key.size<=140737488355328/\s.ed.v.size<=140737488355328
 bit: -9223372036854775808<=s.bit/\s.bit<=9223372036854775807
 mask:0<=s.mask/\s.mask<=4294967295
def aiE(k:Int):Int:=(k.tmod 12+12)%12
def rFit(k r n:Int):Int:=if(r.tmod (n+1)+n+1)%(n+1)=n then(if aiE k<8\/aiE k=11 then 0 else 5)else(r.tmod (n+1)+n+1)%(n+1)
def CV(s:Stp)(n:Int):Stp:=⟨aiE s.k,rFit s.k s.r n,vT s.ed,s.at_,s.bit,s.mask,s.keep⟩
theorem tmod_in(x n:Int)(hn:0<n): -n<x.tmod n/\x.tmod n<n:=by
 have h1:=aqy x hn;refine⟨?_,h1⟩;rcases Int.le_total 0 x with h|h
 ·have:=Int.tmod_nonneg n h;omega
 ·have h3:=aqy (-x) hn;rw[Int.neg_tmod]at h3;omega
def safe(q:Nat->Bool)(j:Nat)(x:AV):AV:=bif fV q j x then x else .junk
def ab1(q:Nat->Bool)(j:Nat):AO->Bool
 | .box _ cs=>cs.all (Pm q j)
 | .rn _ cs=>cs.all (Pm q j)
 | .mp .. =>false
 |_=>true
def CW(ok:AV->Bool)(st S:AS):Prop:= ∀(g:Base)(N:Nat)(bs:List (Array Value))(ρ:Nat->Value)(a:Act)(w:World),Rel g N bs ρ a w st->
 ∃ρ',Rel g N bs ρ' a w S/\ ∀av u,ok av=true->C2 (aC g w ρ st.heap) av u->C2 (aC g w ρ' S.heap) av u
theorem CW.imp(h:CW ok st S):yN st S:=λ g N bs ρ a w R=>by
 obtain⟨ρ',R',_⟩:=h g N bs ρ a w R;exact⟨ρ',R'⟩
theorem CW.trans{p q:AV->Bool}{a b c:AS}(h:CW p a b)(k:CW q b c):CW (λ x=>p x&&q x) a c:=λ g N bs ρ a w R=>by
 obtain⟨ρ1,R1,h1⟩:=h g N bs ρ a w R;obtain⟨X8,R2,h2⟩:=k g N bs ρ1 a w R1;refine⟨X8,R2,λ av u hq hc=>?_⟩;simp only[aon]at hq;exact h2 av u hq.2 (h1 av u hq.1 hc)
theorem bZ.imp(hL:bJ P L)(hW:Iz P W)(hE:Enters P f)(hI:CW ok st S)(ha:aZ.all ok=true)
  (h:bZ P L W d f aZ S K):bZ P L W d f aZ st K:=by
 refine .sem hE λ g N bs ρ a w args R hargs=>?_;obtain⟨ρ',R',hc⟩:=hI g N bs ρ a w R;have hargs':aG (C2 (aC g w ρ' S.heap)) aZ args:=hargs.FV ha λ _ _ q k=>hc _ _ q k;exact(qh R' hargs' h (λ lv fn c hf' hnm hb hsz h'=>xg hL hW R' hargs' lv fn c hf' hb hsz h')).2
section
variable{X Y:CX}{q:Nat->Bool}{j:Nat}(hk:∀b,X.keep b->Y.keep b)(hm:Y.w=X.w)(hρ:∀i,q i=true->Y.ρ i=X.ρ i)(hj:dJ (Y.ρ j)=dJ (X.ρ j))
include hk hm hρ hj
theorem C2.safe{av:AV}{u:Value}(hc:C2 X av u):C2 Y (safe q j av) u:=by
 unfold Go.Proofs.YtifjccndenojlaaGreat.safe;cases hr:fV q j av with
 |true=>exact C2.jX hk hm hρ hj hr hc
 |false=>exact C2.mP (C1.vG trivial)
theorem aT.jX{p:Nat×AO}(hp:q p.1=true)(hr:ab1 q j p.2=true)(h:aT X p.1 p.2):aT Y p.1 p.2:=by
 obtain⟨i,o⟩:=p;have hi:Y.ρ i=X.ρ i:=hρ i hp;have hs:aT ⟨Y.w,Y.keep,X.ρ⟩ i o:=aT.same (X:=X) (Y:=⟨Y.w,Y.keep,X.ρ⟩) hk (λ _ _=>by rw[hm]) rfl (λ _ _=>by rw[hm]) h;cases o with
 |box t cs=>
  obtain⟨b,us,e,hh,ha⟩:=h;exact⟨b,us,hi.trans e,by rw[hm];exact hh,ha.FV hr λ _ _ q k=>C0.jX hk hm hρ hj q k⟩
 |row e s n sc f=>
  show pJ Y (Y.ρ i) e s n sc f;rw[hi];exact hs
 |mp=>cases hr
 |obs o=>
  show∃us,Y.ρ i= .tuple us/\o.R Y.w Y.keep (Y.ρ i);rw[hi];exact hs
 |rn e cs=>
  obtain⟨us,⟨e1,e2⟩,ha⟩:=h;exact⟨us,⟨by rw[hm,hi];exact e1,e2⟩,ha.FV hr λ _ _ q k=>C0.jX hk hm hρ hj q k⟩
end
theorem CW.Uc(q:Nat->Bool)(j b':Nat)
  (h:∀X:CX,(ah X.ρ st.heap).Nodup->(∀p∈st.heap,aT X p.1 p.2)-> ∃ρ':Nat->Value,(∀i,q i=true->ρ' i=X.ρ i)/\dJ (ρ' j)=dJ (X.ρ j)/\(ah ρ' H').Nodup/\(∀b∈ah ρ' H',b∈ah X.ρ st.heap)/\ ∀p∈H',aT ⟨X.w,X.keep,ρ'⟩ p.1 p.2):
  CW (fV q j) st ⟨uO (safe q j) st.sl,H',st.back.map (uO (safe q j)),b'⟩:=by
 intro g N bs ρ a w R;obtain⟨ρ',g1,g2,gn,g3,g4⟩:=h (aC g w ρ st.heap) R.apart R.objs;have hk:∀b,aJ g w ρ st.heap b->aJ g w ρ' H' b:=λ b hb=>⟨hb.1,hb.2.1,λ h=>hb.2.2 (g3 b h)⟩;have hs:∀x u,C2 (aC g w ρ st.heap) x u->C2 (aC g w ρ' H') (safe q j x) u:=λ x u hc=>C2.safe (X:=aC g w ρ st.heap) (Y:=aC g w ρ' H') hk rfl g1 g2 hc;refine⟨ρ',⟨R.size,R.defers,R.below,λ t=>?_,λ p hp=>?_,gn,λ b hb=>R.own b (g3 b hb), ?_⟩,λ av u hr hc=>C2.jX (X:=aC g w ρ st.heap) (Y:=aC g w ρ' H') hk rfl g1 g2 hr hc⟩
 ·show C2 _ (tN (uO _ st.sl) t) _;rw[qG rfl];exact hs _ _ (R.tmps t)
 ·exact aT.same (X:=⟨w,aJ g w ρ st.heap,ρ'⟩) (Y:=aC g w ρ' H') hk (λ _ _=>rfl) rfl (λ _ _=>rfl) (g4 p hp)
 ·exact mW.map rfl hs R.back
theorem lZ{a b:List (Nat×AO)}(h:a.Perm b):(ah ρ a).Perm (ah ρ b):=h.flatMap_right _
theorem CW.close(b':Nat)(hC:Closes B i o)(hp:st.heap.Perm (B++H))(hb:((H.all λ p=>ab1 (λ k=>bP k H) i p.2)&& !bP i H)=true):
  CW (fV (λ k=>bP k H) i) st ⟨uO (safe (λ k=>bP k H) i) st.sl,(i,.obs o)::H,st.back.map (uO (safe (λ k=>bP k H) i)),b'⟩:=by
 simp only[aon,aoX,aoD]at hb;refine CW.Uc _ _ _ λ X hnd hok=>?_;have hnd:(ah X.ρ (B++H)).Nodup:=(lZ hp).nodup_iff.1 hnd;rw[dA,ao9]at hnd;obtain⟨us,a1,a2,a3⟩:=hC X.w X.keep X.ρ hnd.1 λ p hq=>hok p (hp.mem_iff.2 (aoT _ hq));have hne:∀k,bP k H=true->(if k=i then Value.tuple us else X.ρ k)=X.ρ k:=λ k hk=>by
  have:k≠i:=by rintro rfl;rw[hb.2]at hk;cases hk
  rw[if_neg this]
 have e:ah (λ k=>if k=i then Value.tuple us else X.ρ k) ((i,.obs o)::H)=blks (.tuple us)++ah X.ρ H:=by
  rw[aS,fD λ p hq=>hne p.1 (bY.2 ⟨p,hq,rfl⟩)];simp
 have hi:dJ (if i=i then Value.tuple us else X.ρ i)=dJ (X.ρ i):=by rw[if_pos rfl];exact a2
 refine⟨λ k=>if k=i then .tuple us else X.ρ k,hne,hi, ?_,λ c hc=>?_,λ p hq=>?_⟩
 ·rw[e,ao9];exact⟨(o.lt a1).2.2,hnd.2.1,λ a ha c hc=>hnd.2.2 a (a3 a ha) c hc⟩
 ·rw[e]at hc;refine(lZ hp).mem_iff.2 ?_;rw[dA];exact(aov.1 hc).elim (λ h=>aoT _ (a3 c h)) (λ h=>aoV _ h)
 ·rcases aot.1 hq with rfl|hq
  ·exact⟨us,s_,by simpa using a1⟩
  ·exact aT.jX (X:=X) (Y:=⟨X.w,X.keep,λ k=>if k=i then .tuple us else X.ρ k⟩) (q:=λ k=>bP k H) (j:=i) (λ _ h=>h) rfl hne hi (bY.2 ⟨p,hq,rfl⟩) (hb.1 p hq) (hok p (hp.mem_iff.2 (aoV _ hq)))
theorem CW.open(b':Nat)(hO:Opens o i λ _:Unit=>B)(hp:st.heap.Perm ((i,.obs o)::H))
  (hb:((H.all λ p=>ab1 (λ k=>bP k H) i p.2)&& !bP i H&&bP i B&&(B.all λ p=>ab1 (λ k=>bP k B) i p.2)&&B.all λ p=> !bP p.1 H)=true):
  CW (fV (λ k=>bP k H) i) st ⟨uO (safe (λ k=>bP k H) i) st.sl,B++H,st.back.map (uO (safe (λ k=>bP k H) i)),b'⟩:=by
 simp only[aon,aoX,aoD]at hb;obtain⟨⟨⟨⟨b1,b2⟩,b3⟩,b4⟩,b5⟩:=hb;refine CW.Uc _ _ _ λ X hnd hok=>?_;have hnd:(ah X.ρ ((i,.obs o)::H)).Nodup:=(lZ hp).nodup_iff.1 hnd;rw[aS,ao9]at hnd;obtain⟨us,eu,hR⟩:=hok _ (hp.mem_iff.2 aol);obtain⟨_,ρ',h1,h2,h3⟩:=hO X.w X.keep (X.ρ i) hR;have hH:∀k,bP k H=true->(if bP k H=true then X.ρ k else ρ' k)=X.ρ k:=λ k hk=>if_pos hk;have hB:∀k,bP k B=true->(if bP k H=true then X.ρ k else ρ' k)=ρ' k:=λ k hk=>by
  obtain⟨p,hp',rfl⟩:=bY.1 hk;rw[if_neg (by rw[b5 p hp'];simp)]
 have hi:dJ (if bP i H=true then X.ρ i else ρ' i)=dJ (X.ρ i):=by rw[hB i b3];exact h1
 have e:ah (λ k=>if bP k H=true then X.ρ k else ρ' k) (B++H)=ah ρ' B++ah X.ρ H:=by
  rw[dA,fD λ p hq=>hB p.1 (bY.2 ⟨p,hq,rfl⟩),fD λ p hq=>hH p.1 (bY.2 ⟨p,hq,rfl⟩)]
 refine⟨λ k=>if bP k H=true then X.ρ k else ρ' k,hH,hi, ?_,λ c hc=>?_,λ p hq=>?_⟩
 ·rw[e,ao9];exact⟨h2.nodup_iff.2 hnd.1,hnd.2.1,λ a ha c hc=>hnd.2.2 a (h2.mem_iff.1 ha) c hc⟩
 ·rw[e]at hc;refine(lZ hp).mem_iff.2 ?_;rw[aS];exact(aov.1 hc).elim (λ h=>aoT _ (h2.mem_iff.1 h)) (λ h=>aoV _ h)
 ·rcases aov.1 hq with hq|hq
  ·exact aT.jX (X:=⟨X.w,X.keep,ρ'⟩) (Y:=⟨X.w,X.keep,λ k=>if bP k H=true then X.ρ k else ρ' k⟩) (q:=λ k=>bP k B) (j:=i) (λ _ h=>h) rfl hB (by show dJ (if bP i H=true then X.ρ i else ρ' i)=dJ (ρ' i);rw[hB i b3]) (bY.2 ⟨p,hq,rfl⟩) (b4 p hq) (h3 p hq)
  ·exact aT.jX (X:=X) (Y:=⟨X.w,X.keep,λ k=>if bP k H=true then X.ρ k else ρ' k⟩) (q:=λ k=>bP k H) (j:=i) (λ _ h=>h) rfl hH hi (bY.2 ⟨p,hq,rfl⟩) (b1 p hq) (hok p (hp.mem_iff.2 (aoq _ hq)))
theorem Closes.sub(hB:Closes B i q)(hC:Closes ((i,.obs q)::H) j o)(hb:((H.all λ p=>ab1 (λ k=>bP k H) i p.2)&& !bP i H&& !Nat.beq i j)=true):Closes (B++H) j o:=by
 simp only[aon,aoX,aoD]at hb;obtain⟨⟨b1,b2⟩,b3⟩:=hb;refine Closes.imp hC λ X hnd hok=>?_;rw[dA,ao9]at hnd;obtain⟨us,a1,a2,a3⟩:=hB X.w X.keep X.ρ hnd.1 λ p hq=>hok p (aoT _ hq);have hij:j≠i:=by rintro rfl;simp at b3
 have hne:∀k,bP k H=true->(if k=i then Value.tuple us else X.ρ k)=X.ρ k:=λ k hk=>by
  have:k≠i:=by rintro rfl;rw[b2]at hk;cases hk
  rw[if_neg this]
 have e:ah (λ k=>if k=i then Value.tuple us else X.ρ k) ((i,.obs q)::H)=blks (.tuple us)++ah X.ρ H:=by
  rw[aS,fD λ p hq=>hne p.1 (bY.2 ⟨p,hq,rfl⟩)];simp
 have hi:dJ (if i=i then Value.tuple us else X.ρ i)=dJ (X.ρ i):=by rw[if_pos rfl];exact a2
 refine⟨λ k=>if k=i then .tuple us else X.ρ k,by dsimp only;rw[if_neg hij], ?_,λ c hc=>?_,λ p hq=>?_⟩
 ·rw[e,ao9];exact⟨(q.lt a1).2.2,hnd.2.1,λ a ha c hc=>hnd.2.2 a (a3 a ha) c hc⟩
 ·rw[e]at hc;rw[dA];exact(aov.1 hc).elim (λ h=>aoT _ (a3 c h)) (λ h=>aoV _ h)
 ·rcases aot.1 hq with rfl|hq
  ·exact⟨us,s_,by simpa using a1⟩
  ·exact aT.jX (X:=X) (Y:=⟨X.w,X.keep,λ k=>if k=i then .tuple us else X.ρ k⟩) (q:=λ k=>bP k H) (j:=i) (λ _ h=>h) rfl hne hi (bY.2 ⟨p,hq,rfl⟩) (b1 p hq) (hok p (aoV _ hq))
theorem Opens.ren{j':Nat}{Y:Type}{hs:Y->List (Nat×AO)}(hO:Opens o j hs)(σ:List (Nat×Nat))(hj:kE σ j=some j')(hn:nodupB (σ.map (·.2))=true)(hb:∀y,yO σ (hs y)=true):Opens o j' λ y=>iL σ (hs y):=by
 intro w k v hR;obtain⟨y,ρ,h1,h2,h3⟩:=hO w k v hR;have e0:∀k i,kE σ k=some i->pK σ ρ i=ρ k:=λ k i e=>by simp only[pK,Ar (oG hn) (su e)]
 refine⟨y,pK σ ρ,by rw[e0 j j' hj];exact h1,by rw[qK e0 (hb y)];exact h2,λ p hp=>?_⟩;obtain⟨a,q,m1,m2,m3⟩:=Ef hp;obtain⟨i,l1,l2,l3⟩:=Eh (hb y) (a,q) m1;have hi:p.1=i:=by
  simp only[lT,l1,aoJ]at m2;exact m2.symm
 obtain⟨b,c⟩:=p;dsimp only at hi m3;subst hi m3;exact(aT.jS (X:=⟨w,k,ρ⟩) (Y:=⟨w,k,pK σ ρ⟩) rfl rfl e0 l1 l3).2 (h3 _ m1)
theorem aj.clo(hM:aj P f hin aZ r (B++H))(hC:Closes B i q)
  (hb:(fV (λ k=>bP k H) i r&&(H.all λ p=>ab1 (λ k=>bP k H) i p.2)&& !(bP i H)&& !(bP i hin))=true):aj P f hin aZ r ((i,.obs q)::H):=by
 simp only[aon,aoX,aoD]at hb;obtain⟨⟨⟨hrr,hcl⟩,hne⟩,hni⟩:=hb;refine⟨hM.1,λ w keep ρ args hkeep jo hnd hbl hargs=>(hM.2 w keep ρ args hkeep jo hnd hbl hargs).mono ?_⟩;rintro e w' ⟨u,yE,rfl,hbel,hfix,hc,hout,hnd',hnew⟩;rw[dA,ao9]at hnd';obtain⟨hn1,hn2,hn3⟩:=hnd';obtain⟨vs,hR',abC,hbs⟩:=hC w' (aJ (dX w keep (λ b=>b∈ah ρ hin)) w' yE (B++H)) yE hn1 (λ p hp=>hout p (aoT _ hp));let uy:Nat->Value:=λ k=>if k=i then .tuple vs else yE k
 have XJ:uy i= .tuple vs:=by simp[uy]
 have e4:∀k,bP k H=true->uy k=yE k:=λ k hk=>by
  have:k≠i:=by rintro rfl;rw[hne]at hk;cases hk
  simp[uy,this]
 have hb4:ah uy ((i,.obs q)::H)=blks (.tuple vs)++ah yE H:=by
  rw[aS,fD λ p hp=>e4 p.1 (bY.2 ⟨p,hp,rfl⟩)];show blks (uy i)++_=_;rw[XJ]
 have Hu:∀b,b∈ah uy ((i,.obs q)::H)->b∈ah yE (B++H):=λ b hb=>by
  rw[hb4]at hb;rw[dA];exact(aov.1 hb).elim (λ h=>aoT _ (hbs b h)) (λ h=>aoV _ h)
 have hk4:∀b,aJ (dX w keep (λ b=>b∈ah ρ hin)) w' yE (B++H) b->aJ (dX w keep (λ b=>b∈ah ρ hin)) w' uy ((i,.obs q)::H) b:=
  λ b ⟨h1,h2,h3⟩=>⟨h1,h2,λ h=>h3 (Hu b h)⟩
 have hj:dJ (uy i)=dJ (yE i):=by rw[XJ,abC]
 refine⟨u,uy,rfl,hbel,λ p hp x hx eq=>?_, ?_,λ p hp=>?_, ?_,λ b hb=>hnew b (Hu b hb)⟩
 ·have hpi:p.1≠i:=λ h=>by
   rw[<-h,bY.2 ⟨p,hp,rfl⟩]at hni;cases hni
  rcases aot.1 hx with rfl|hx
  ·exact absurd eq.symm hpi
  ·have:=hfix p hp x (aoV _ hx) eq;rw[show uy p.1=yE p.1 by simp[uy,hpi]];exact this
 ·exact C2.jX (X:=aC (dX w keep (λ b=>b∈ah ρ hin)) w' yE (B++H)) (Y:=aC (dX w keep (λ b=>b∈ah ρ hin)) w' uy ((i,.obs q)::H)) hk4 rfl e4 hj hrr hc
 ·rcases aot.1 hp with rfl|hp
  ·refine⟨vs,XJ, ?_⟩;show q.R w' _ (uy i);rw[XJ];exact q.mono hk4 (λ _ _=>rfl) (λ _ _=>rfl) hR'
  ·exact aT.jX (X:=aC (dX w keep (λ b=>b∈ah ρ hin)) w' yE (B++H)) (Y:=aC (dX w keep (λ b=>b∈ah ρ hin)) w' uy ((i,.obs q)::H)) (q:=λ k=>bP k H) (j:=i) hk4 rfl e4 hj (bY.2 ⟨p,hp,rfl⟩) (hcl p hp) (hout p (aoV _ hp))
 ·rw[hb4,ao9];exact⟨(q.lt hR').2.2,hn2,λ a ha b hb=>hn3 a (hbs a ha) b hb⟩
theorem bZ.FP(hL:bJ P L)(hW:Iz P W)(hE:Enters P f)(id:Nat){F:Nat->List AV}(hf:aK id st.heap=some (.row e s n sc F))
  (h:bZ P L W d f (aZ.map (DT id (.sl s n sc F))) (st.freeze id s n sc F) K):bZ P L W d f aZ st K:=by
 refine .sem hE λ g N bs ρ a w args R hargs=>?_;obtain⟨R',hrow⟩:=R.freeze hf;have hk:∀b,aJ g w ρ st.heap b->aJ g w ρ (st.freeze id s n sc F).heap b:=λ b hb=>⟨hb.1,hb.2.1,λ h=>hb.2.2 (by
  have e:ah ρ (st.freeze id s n sc F).heap=ah ρ (st.heap.filter λ p=> !Nat.beq p.1 id):=by simp[AS.freeze,ah,List.flatMap_map]
  rw[e]at h;exact fH h)⟩
 have hargs':aG (C2 (aC g w ρ (st.freeze id s n sc F).heap)) (aZ.map (DT id (.sl s n sc F))) args:=hargs.pW λ _ _=>C2.thaw (X:=aC g w ρ st.heap) (Y:=aC g w ρ (st.freeze id s n sc F).heap) hk (λ _ _=>rfl) rfl (by show PC _ _ _ (dJ (ρ id));rw[hrow.hd];exact hrow);exact(qh R' hargs' h (λ lv fn c hf' hnm hb hsz h'=>xg hL hW R' hargs' lv fn c hf' hb hsz h')).2
theorem VU{g:Base}{h h':List (Nat×AO)}(hp:h.Perm h'):aJ g w ρ h=aJ g w ρ h':=by
 funext b
 have e:(b∈ah ρ h)=(b∈ah ρ h'):=propext (lZ hp).mem_iff;unfold aJ;rw[e]
theorem aj.perm(hM:aj P f hin aZ r H)(hp:H.Perm H'):aj P f hin aZ r H':=by
 refine⟨hM.1,λ w keep ρ args hkeep jo hnd hbl hargs=>(hM.2 w keep ρ args hkeep jo hnd hbl hargs).mono ?_⟩;rintro e w' ⟨u,yE,rfl,hbel,hfix,hc,hout,hnd',hnew⟩;have hk:=VU (g:=dX w keep (λ b=>b∈ah ρ hin)) (w:=w') (ρ:=yE) hp;unfold aC at hc hout;rw[hk]at hc hout;exact⟨u,yE,rfl,hbel,λ p hp' q hq=>hfix p hp' q (hp.mem_iff.2 hq),hc,λ p hp'=>hout p (hp.mem_iff.2 hp'),(lZ hp).nodup_iff.1 hnd',λ b hb=>hnew b ((lZ hp).mem_iff.2 hb)⟩
theorem lC.ifc{t:TypeId}(hu:P.underlying t=some (.pointer e))(hx:st.ev x= .box id off)(hK:K (.cf (Nat.add t jQ) id off) st):lC P st (.makeInterface t x) K:=
 .q _ hK λ g N bs ρ a w o eo R=>by
  have h:=R.ev x;rw[hx]at h;obtain⟨b,h1,hv⟩:=C2.kJ h;exact⟨.iface t (.pointer (some ⟨b,off,none⟩)),⟨b,h1,(ZW t _).symm⟩,by simp[execOp,eo,Instr.makeInterface,hv,run_underlying hu]⟩
theorem lC.inv(hL:bJ P L)(hW:Iz P W)(t:TypeId){c:Call}{m:String}{f:Nat}(d:Nat)(ec:c.callee= .invoke x m)(hx:st.ev x= .cf (Nat.add t jQ) id off)
  (hm:∀p w,(method (P.types.size+Made.depth) t p m).run P w= .ok (f,p) w)(h:bZ P L W d f (.box id off::c.args.toList.map st.ev) st K):lC P st (.call c) K:=
 .mk (by obtain⟨cc,ca,ct⟩:=c;dsimp only at ec;subst ec;rfl) λ g N bs ρ a w o next Q e R hk=>by
  have hx':=R.ev x;rw[hx]at hx';obtain⟨b,hb1,hv⟩:=C2.ad7 hx';rw[ZW]at hv;have hargs:aG (C2 (aC g w ρ st.heap)) (.box id off::c.args.toList.map st.ev) (.pointer (some ⟨b,off,none⟩)::c.args.toList.map a.eval):=aG.cons ⟨b,hb1,rfl⟩ (wZ R c.args.toList);obtain⟨hent,hcall⟩:=qh R hargs h (λ lv fn c hf _ hb hsz h=>xg hL hW R hargs lv fn c hf hb hsz h);have hrun:(execOp a.eval o).run P w= .ok (.enter f (.pointer (some ⟨b,off,none⟩)::c.args.toList.map a.eval).toArray) w:=by
   have hcf:=oL hent (.pointer (some ⟨b,off,none⟩)::c.args.toList.map a.eval).toArray w;have eq:(.pointer (some ⟨b,off,none⟩)::c.args.toList.map a.eval).toArray= #[.pointer (some ⟨b,off,none⟩)]++c.args.map a.eval:=by
    apply aqp;simp
   rw[eq]at hcf⊢;have e0:∀v:Value,(#[v]++c.args.map a.eval)[0]? =some v:=λ v=>by rw[Array.getElem?_append,if_pos s_];rfl
   have e1:∀v:Value,(#[v]++c.args.map a.eval).extract 1 (#[v]++c.args.map a.eval).size=c.args.map a.eval:=λ v=>by
    apply aqp;rw[Array.toList_extract];simp[List.extract];rw[aoF s_]
   simp only[execOp,e,resolve,ec,aoy,aoQ,aow,invoke,hv,e0,e1,callMethod,hm,run_program];exact hcf
  unfold Oper.wp;rw[hrun,Oper.upon_enter];refine hcall.mono ?_;rintro e' w' ⟨u,y,st',ρ',rfl,h1,h2,h3⟩;exact hk _ _ _ _ _ h1 h2 h3
theorem CY(s:Stp)(n:Int)(hn:1<=n/\n<=5)(hs:s.rng):aH prog 12 [s.av,.v (.int .i64 n)] (CV s n).av []:=by
 obtain⟨k,r,⟨ek,key,l,v⟩,at',bit,mask,keep⟩:=s;obtain⟨sk,sr,se,sb,sm⟩:=hs;dsimp only at sk sr se sb sm;have hf:=KC ⟨ek,key,l,v⟩ se.1 se.2;obtain⟨fe,hfe⟩:∃fe,vT ⟨ek,key,l,v⟩=fe:=⟨_,rfl⟩;rw[hfe]at hf;have hk:=tmod_in k 12 d_;have hr:=tmod_in r (n+1) o_;unfold CV rFit aiE;dsimp only[Stp.av,Stp.cs,Ed.av,Ed.cs]at hf⊢;rw[hfe];obtain⟨fk,anD,fl,fv⟩:=fe;dsimp only at hf⊢;clear hfe;rcases(show n=1\/n=2\/n=3\/n=4\/n=5 by omega)with rfl|rfl|rfl|rfl|rfl;all_goals
  refine K1.E 0x804000017 func12 ?_;repeat' ((conv=>whnf);first|refine K1.u ?_|refine K1.P1 hf ?_|refine Rm.raw (a:=k) d_ ?_|refine Rm.raw (a:=r) d_ ?_|refine aU.fF ?_|refine K1.z ?_|refine K1.y (λ _=>?_) (λ _=>?_)|fail)
  all_goals(conv=>whnf)
  all_goals first
   |(simp only[*,if_true,if_false];exact bn.mk (au))
   |fail

theorem aY.slF{f:Nat->List AV}(h:∀i,i<n->f i=g i):aY (.sl s n sc f) (.sl s n sc g):=by
 intro X u hu;have hu:PC X.w X.keep (.sl s n sc f) u:=hu;show PC X.w X.keep (.sl s n sc g) u;cases hu with
 |sl _ _ _ _ A c us hs hn hc hl hf hsc hq hr=>exact .sl s n sc g A c us hs hn hc hl (λ i hi=>by rw[<-h i hi];exact hf i hi) (by rw[<-jJ h];exact hsc) (by rw[<-jJ h];exact hq) hr
section
open Go.ChangeShapes Go.WideShapes Go.ChangeAt Go.RowKit
def NQ(n:Int):Prop:= -9223372036854775808<=n/\n<=9223372036854775807
theorem nH{n:Int}(h:(Lit.int .i64 n).wf=true):NQ n:=by
 simpa[NQ,Lit.wf,IntKind.min,IntKind.max,IntKind.signed,IntKind.bits]using h
structure kR.rng(c:kR):Prop where
 n:NQ c.n
 w:NQ c.w
 q:NQ c.q
 h:NQ c.h
 l:NQ c.l
 p:NQ c.p
theorem ale:Sh 23 (λ aZ=> ∃c:kR,aZ=c.cs/\c.rng):=
 (F9 Tryz.underlying23 (by kernel_rfl) rfl (.cons (lV Tryz.underlying3) (.cons (lV Tryz.underlying3) (.cons (lV Tryz.underlying3) (.cons (lV Tryz.underlying3) (.cons (lV Tryz.underlying3) (.cons (lV Tryz.underlying3) .nil))))))).imp λ aZ h=>by
  obtain⟨_,_,rfl,⟨a,rfl,ha⟩,_,_,rfl,⟨b,rfl,hb⟩,_,_,rfl,⟨c,rfl,hc⟩,_,_,rfl,⟨d,rfl,hd⟩,_,_,rfl,⟨e,rfl,he⟩,_,_,rfl,⟨f,rfl,hf⟩,rfl⟩:=h;exact⟨⟨a,b,c,d,e,f⟩,rfl,nH ha,nH hb,nH hc,nH hd,nH he,nH hf⟩
section
variable{H:Type}{enc:TypeId×Value->H}{w:World}{spare:Nat->Bool}{held:Bool}{v:Value}{d:DataW H}{p:List MemPlace}{r:Reach}{b0:Nat}
theorem SB(hv:Value.okWide prog w r b0 23 v)(h:DataW.Trod enc prog w 0 spare held 23 v d p)(hw:∀n∈d.weights prog 23,n<=reachBytes):∃c:kR,c.rng/\C1 ⟨w,allOf w,λ _=>undef⟩ c.av v:=by
 obtain⟨cs,rfl,_⟩:=okWide_struct Tryz.underlying23 hv;obtain⟨xs,⟨e,rfl,he⟩,hc⟩:=Jc ale h hw ⟨_,rfl⟩;exact⟨e,he,hc⟩
end
end
section
open Go.ChangeShapes Go.WideShapes Go.ChangeAt Go.RowKit
theorem afI:Sh 35 (λ aZ=> ∃e:Ed,aZ=e.cs/\e.key.size<=140737488355328/\e.v.size<=140737488355328):=
 (F9 Tryz.underlying35 (by kernel_rfl) rfl (.cons (lV Tryz.underlying3) (.cons (OX Tryz.underlying9) (.cons (lV Tryz.underlying3) (.cons (OX Tryz.underlying9) .nil))))).imp λ aZ h=>by
  obtain⟨_,_,rfl,⟨a,rfl,ha⟩,_,_,rfl,⟨b,rfl,hb⟩,_,_,rfl,⟨c,rfl,hc⟩,_,_,rfl,⟨d,rfl,hd⟩,rfl⟩:=h;exact⟨⟨a,b,c,d⟩,rfl,hb,hd⟩
theorem aiF:Sh 38 (λ aZ=> ∃s:Stp,aZ=s.cs/\s.rng):=
 (F9 Tryz.underlying38 (by kernel_rfl) rfl (.cons (lV Tryz.underlying3) (.cons (lV Tryz.underlying3) (.cons afI (.cons (lV Tryz.underlying3) (.cons (lV Tryz.underlying3) (.cons (lV Tryz.underlying36) (.cons (lV Tryz.underlying3) .nil)))))))).imp λ aZ h=>by
  obtain⟨_,_,rfl,⟨a,rfl,ha⟩,_,_,rfl,⟨b,rfl,hb⟩,_,_,rfl,⟨e,rfl,he⟩,_,_,rfl,⟨c,rfl,_⟩,_,_,rfl,⟨d,rfl,hd⟩,_,_,rfl,⟨f,rfl,hf⟩,_,_,rfl,⟨g,rfl,_⟩,rfl⟩:=h;exact⟨⟨a,b,e,c,d,f,g⟩,rfl,nH ha,nH hb,he,nH hd,by simpa[Lit.wf,IntKind.min,IntKind.max,IntKind.signed,IntKind.bits]using hf⟩
theorem afJ:Sh 24 (λ aZ=> ∃l:List Stp,aZ=[.sl 10 l.length true (IE l)]/\(∀o∈l,o.rng)/\l.length<=140737488355328):=
 Vg (s:=10) (c:=Stp.cs) (good:=Stp.rng) true Tryz.underlying24 (by kernel_rfl) o_ (of_decide_eq_true (by kernel_rfl)) (λ _=>rfl)
  (λ _ a x hx=>by
   simp only[Stp.cs,aot,apy,or_false]at hx;rcases hx with rfl|rfl|rfl|rfl|rfl|rfl|rfl|rfl|rfl|rfl<;>exact⟨_,rfl⟩) aiF
section
variable{H:Type}{enc:TypeId×Value->H}{w:World}{spare:Nat->Bool}{held:Bool}{v:Value}{d:DataW H}{p:List MemPlace}{r:Reach}{b0:Nat}
theorem Gt(hv:Value.okWide prog w r b0 24 v)(h:DataW.Trod enc prog w 0 spare held 24 v d p)(hw:∀n∈d.weights prog 24,n<=reachBytes):∃l:List Stp,(∀o∈l,o.rng)/\l.length<=140737488355328/\C1 ⟨w,allOf w,λ _=>undef⟩ (.sl 10 l.length true (IE l)) v:=by
 obtain⟨a,n,c,rfl⟩:=okWide_slice Tryz.underlying24 hv;obtain⟨x,⟨l,e,hl,hm⟩,hc⟩:=aah afJ (λ _ ⟨l,e,_⟩=>by rw[e];rfl) h hw rfl;cases e;exact⟨l,hl,hm,hc⟩
end
end
section
open Go.ChangeShapes Go.WideShapes Go.ChangeAt Go.RowKit
theorem PO{P:Program}{r:Reach}{w:World}{b0 n:Nat}{t e:TypeId}{v:Value}(ht:P.underlying t=some (.array n e))(h:Value.okWide P w r b0 t v):∃cs,v= .agg cs/\cs.size=P.cellsOf t:=by
 simp only[Value.okWide,ht]at h;obtain⟨cs,h1,h2,_⟩:=h;exact⟨cs,h1,h2⟩
theorem amx:Sh 25 (λ aZ=> ∃a b c:Int,aZ=[.v (.int .i64 a),.v (.int .i64 b),.v (.int .i64 c)]/\NQ a):=
 (Vf (s:=1) Tryz.underlying25 (by kernel_rfl) (by kernel_rfl) (lV Tryz.underlying3)).imp λ aZ h=>by
  obtain⟨_,_,rfl,⟨a,rfl,ha⟩,_,_,rfl,⟨b,rfl,_⟩,_,_,rfl,⟨c,rfl,_⟩,rfl⟩:=h;exact⟨a,b,c,rfl,nH ha⟩
section
variable{H:Type}{enc:TypeId×Value->H}{w:World}{spare:Nat->Bool}{held:Bool}{v:Value}{d:DataW H}{p:List MemPlace}{r:Reach}{b0:Nat}
theorem alf(hv:Value.okWide prog w r b0 25 v)(h:DataW.Trod enc prog w 0 spare held 25 v d p)(hw:∀n∈d.weights prog 25,n<=reachBytes):
  ∃a b c:Int,NQ a/\C1 ⟨w,allOf w,λ _=>undef⟩ (.agg [.v (.int .i64 a),.v (.int .i64 b),.v (.int .i64 c)]) v:=by
 obtain⟨cs,rfl,_⟩:=PO Tryz.underlying25 hv;obtain⟨xs,⟨a,b,c,rfl,ha⟩,hc⟩:=Jc amx h hw ⟨_,rfl⟩;exact⟨a,b,c,ha,hc⟩
theorem alg(hv:Value.okWide prog w r b0 35 v)(h:DataW.Trod enc prog w 0 spare held 35 v d p)(hw:∀n∈d.weights prog 35,n<=reachBytes):∃e:Ed,(e.key.size<=140737488355328/\e.v.size<=140737488355328)/\C1 ⟨w,allOf w,λ _=>undef⟩ e.av v:=by
 obtain⟨cs,rfl,_⟩:=okWide_struct Tryz.underlying35 hv;obtain⟨xs,⟨e,rfl,he⟩,hc⟩:=Jc afI h hw ⟨_,rfl⟩;exact⟨e,he,hc⟩
theorem aiG:Sh 60 (λ aZ=> ∃a b:Int,aZ=[.v (.int .u8 a),.v (.int .u8 b)]/\(Lit.int .u8 a).wf=true/\(Lit.int .u8 b).wf=true):=
 (Vf (s:=1) Tryz.underlying60 (by kernel_rfl) (by kernel_rfl) (lV Tryz.underlying5)).imp λ aZ h=>by
  obtain⟨_,_,rfl,⟨a,rfl,ha⟩,_,_,rfl,⟨b,rfl,hb⟩,rfl⟩:=h;exact⟨a,b,rfl,ha,hb⟩
theorem afK(hv:Value.okWide prog w r b0 60 v)(h:DataW.Trod enc prog w 0 spare held 60 v d p)(hw:∀n∈d.weights prog 60,n<=reachBytes):
  ∃a b:Int,(0<=a/\a<=255)/\(0<=b/\b<=255)/\C1 ⟨w,allOf w,λ _=>undef⟩ (.agg [.v (.int .u8 a),.v (.int .u8 b)]) v:=by
 obtain⟨cs,rfl,_⟩:=PO Tryz.underlying60 hv;obtain⟨xs,⟨a,b,rfl,ha,hb⟩,hc⟩:=Jc aiG h hw ⟨_,rfl⟩;exact⟨a,b,by simpa[Lit.wf,IntKind.min,IntKind.max,IntKind.signed,IntKind.bits]using ha,by simpa[Lit.wf,IntKind.min,IntKind.max,IntKind.signed,IntKind.bits]using hb,hc⟩
end
end
def iY(xs ys:List AV):Prop:=xs.length=ys.length/\ ∀(i:Nat)(x y:AV),xs[i]? =some x->ys[i]? =some y-> ∀(w:World)(keep:Nat->Prop)(u:Value),PC w keep x u->PC w keep y u
theorem iY.refl(xs:List AV):iY xs xs:=⟨rfl,λ i x y hx hy w k u h=>by rw[hx]at hy;cases hy;exact h⟩
theorem iY.nil:iY [] []:=iY.refl _
theorem iY.cons{x y:AV}(h:∀(w:World)(keep:Nat->Prop)(u:Value),PC w keep x u->PC w keep y u)(hs:iY xs ys):iY (x::xs) (y::ys):=
 ⟨by simp[hs.1],λ i a b ha hb=>by
  cases i with
  |zero=>cases ha;cases hb;exact h
  |succ i=>exact hs.2 i a b (by simpa using ha) (by simpa using hb)⟩
theorem iY.app{xs' ys':List AV}(h:iY xs ys)(h':iY xs' ys'):iY (xs++xs') (ys++ys'):=by
 refine⟨by rw[aop,aop,h.1,h'.1],λ i a b ha hb=>?_⟩;rcases aoP i xs.length with hi|hi
 ·rw[aoS hi]at ha;rw[aoS (by rw[<-h.1];exact hi)]at hb;exact h.2 i a b ha hb
 ·rw[ao2 hi]at ha;rw[ao2 (by rw[<-h.1];exact hi),<-h.1]at hb;exact h'.2 _ a b ha hb
theorem iY.flat:∀{n:Nat}{f g:Nat->List AV},(∀i,i<n->iY (f i) (g i))->iY (flat n f) (flat n g)
 |0,_,_,_=>iY.nil
 |n+1,f,g,h=>(h 0 o_).app (iY.flat λ i hi=>h (i+1) o_)
theorem iY.all(h:iY xs ys){us:List Value}(ha:aG (PC w keep) xs us):aG (PC w keep) ys us:=
 ⟨h.1.symm.trans ha.1,λ i y u hy hu=>by
  have hi:i<xs.length:=by rw[h.1];exact(aoC.1 hy).1
  exact h.2 i _ y (aom hi) hy w keep u (ha.2 i _ u (aom hi) hu)⟩
theorem dK.aiH{n':Nat}{f f':Nat->List AV}(hn:n=n')(hf:∀i,i<n->iY (f i) (f' i)):dK (.row e s n sc f) (.row e s n' false f'):=by
 subst hn;rintro X id ⟨us,hown,hs,hfl,_,ha⟩;exact⟨us,hown,hs,λ i hi=>by rw[<-(hf i hi).1];exact hfl i hi,(λ h=>by cases h),(iY.flat hf).all ha⟩
theorem PC.slF{m:Nat}{f:Nat->List AV}(hn:n=m)(h:∀i,i<n->f i=g i)(u:Value)(hu:PC w keep (.sl s n sc f) u):PC w keep (.sl s m sc g) u:=by
 subst hn;cases hu with
 |sl _ _ _ _ A c us hs hn hc hl hf hsc hq hr=>exact .sl s n sc g A c us hs hn hc hl (λ i hi=>by rw[<-h i hi];exact hf i hi) (by rw[<-jJ h];exact hsc) (by rw[<-jJ h];exact hq) hr
end Go.Proofs.YtifjccndenojlaaGreat
