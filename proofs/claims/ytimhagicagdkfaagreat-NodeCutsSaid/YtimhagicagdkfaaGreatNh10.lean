/-
  Contracts of the walk:Ch,Mk1,Cf,NdF,AmO,PmO,EvEq.
-/
import Derived.Test.YtimhagicagdkfaaGreatNh9
import Derived.Test.YtimhagicagdkfaaGreatNh8
import Derived.Test.YtimhagicagdkfaaGreatNh6
import Derived.Laws.StructEq
import Derived.Laws.Cover2
set_option maxHeartbeats 16000000
set_option maxRecDepth 100000
set_option linter.unusedVariables false
set_option linter.unusedSimpArgs false
namespace Go.Proofs.YtimhagicagdkfaaGreat
section
open Go.ChangeShapes Go.WideShapes Go.ChangeAt Go.RowKit
structure Xm where
 (r f:Int) (sy:Bool) (k:Int) (key:ByteArray) (l:Int) (v:ByteArray)
instance:Inhabited Xm:=⟨⟨0,0,false,0,⟨#[]⟩,0,⟨#[]⟩⟩⟩
def Xm.cs (c:Xm):List AV:=[.v (.int .u8 c.r),.v (.int .u8 c.f),.v (.bool c.sy),.v (.int .i64 c.k),.v (.string c.key),.v (.int .i64 c.l),.v (.string c.v)]
def Xm.av (c:Xm):AV:= .agg c.cs
def Xm.rng (c:Xm):Prop:=(0≤c.r∧c.r≤255)∧(0≤c.f∧c.f≤255)∧ -9223372036854775808≤c.k∧c.k≤9223372036854775807∧ -9223372036854775808≤c.l∧c.l≤9223372036854775807∧c.key.size≤140737488355328∧c.v.size≤140737488355328
section
variable {H:Type} {enc:TypeId×Value→H} {w:World} {spare:Nat→Bool} {held:Bool} {v:Value} {d:DataW H} {p:List MemPlace} {r:Reach} {b0:Nat}
theorem Ua {t:TypeId} {k:IntKind} (ht:Tryz.prog.underlying t=some (.int k)) (hv:Value.okWide Tryz.prog w r b0 t v) (h:DataW.Trod enc Tryz.prog w 0 spare held t v d p) (hw: ∀n∈d.weights Tryz.prog t,n≤reachBytes): ∃n:Int,(Lit.int k n).wf=true∧C1 ⟨w,allOf w,fun _=>undef⟩ (.v (.int k n)) v:=by
 obtain⟨n,rfl⟩:=okWide_int ht hv
 obtain⟨x,⟨m,e,hm⟩,hc⟩:=TY (Rl ht) (fun _ ⟨l,e,_⟩=>by rw[e];rfl) h hw rfl
 cases e
 exact⟨m,hm,hc⟩
end
end
section
open Go.RowKit
def IQ (a b:Int):Int:=if b>a then b else a
def aW.join (a b:aW):aW:=⟨IQ a.c0 b.c0,IQ a.c1 b.c1,IQ a.c2 b.c2,IQ a.c3 b.c3,IQ a.c4 b.c4⟩
def aW.le (a b:aW):Bool:=decide (a.c0≤b.c0∧a.c1≤b.c1∧a.c2≤b.c2∧a.c3≤b.c3∧a.c4≤b.c4)
def pK (c:aW) (s:Int×Bool) (e:Ev):Int×Bool:=if(hasB c e.r e.n&&(!s.2||decide (s.1<e.h)))=true then(e.h,true)else s
def GK (c:aW) (l:List Ev):Int×Bool:=l.foldl (pK c) (0,false)
def hgt (l:List Ev) (c:aW):Int:=(GK c l).1+1
theorem ql {α β:Type} [Inhabited α] {f:β→α→β} {b:β} {l:List α} {j:Nat} (h:j<l.length):(l.take (j+1)).foldl f b=f ((l.take j).foldl f b) (l.getD j default):=by
 rw[List.take_add_one,List.getElem?_eq_getElem h,List.getD,List.getElem?_eq_getElem h,List.foldl_append]
 rfl
theorem GL {c:aW} {M:Int} (hM:0≤M): ∀ (l:List Ev),(∀e∈l,0≤e.h∧e.h≤M)→ ∀s:Int×Bool,0≤s.1∧s.1≤M→0≤(l.foldl (pK c) s).1∧(l.foldl (pK c) s).1≤M
  |[],_,s,hs=>hs
  | e::l,h,s,hs=>by
    rw[List.foldl_cons]
    refine GL hM l (fun x hx=>h x (List.mem_cons_of_mem _ hx)) _ ?_
    unfold pK
    split
    · exact h e List.mem_cons_self
    · exact hs
theorem aa0 {c:aW} {M:Int} (hM:0≤M) {l:List Ev} (h: ∀e∈l,0≤e.h∧e.h≤M):1≤hgt l c∧hgt l c≤M+1:=by
 have:=GL (c:=c) hM l h (0,false) ⟨by simp,hM⟩
 unfold hgt GK
 omega
end
section
open Go.RowKit
structure mQ where
 (n w q h l p:Int)
def mQ.cs (c:mQ):List AV:=[.v (.int .i64 c.n),.v (.int .i64 c.w),.v (.int .i64 c.q),.v (.int .i64 c.h),.v (.int .i64 c.l),.v (.int .i64 c.p)]
def mQ.av (c:mQ):AV:= .agg c.cs
def inC (n m:Int):Bool:=decide (1≤n)&&decide (n≤m)
def ac3 (c:mQ):Bool:=inC c.n 5&&inC c.w 4&&inC c.q 8&&inC c.h 20&&inC c.l 4&&inC c.p 3
theorem Vr (n m:Int):aH Tryz.prog 64 [.v (.int .i64 n),.v (.int .i64 m)] (.v (.bool (inC n m))) []:=by
 refine K1.E 0x13 Tryz.func64 ?_
 repeat' ((conv=>whnf);first|refine K1.w ?_|refine K1.u ?_|refine aJ.dO ?_|refine K1.z ?_|refine K1.y (fun _=>?_) (fun _=>?_)|fail)
 all_goals(conv=>whnf)
 all_goals(refine bF.mk (aS.of ?_))
 all_goals simp[inC, *]
theorem Vs (c:mQ):aH Tryz.prog 27 [c.av] (.v (.bool (ac3 c))) []:=by
 obtain⟨n,w,q,h,l,p⟩:=c
 dsimp only[mQ.av,mQ.cs]
 refine K1.E 0x7 Tryz.func27 ?_
 repeat' ((conv=>whnf);first|refine K1.w ?_|refine K1.u ?_|refine K1.P1 (Vr _ _) rfl ?_|refine aJ.dO ?_|refine K1.z ?_|refine K1.y (fun _=>?_) (fun _=>?_)|fail)
 all_goals(conv=>whnf)
 all_goals(refine bF.mk (aS.of ?_))
 all_goals simp[ac3, *]
end
section
open Go.RowKit
def zI (l:List Cont) (key:ByteArray):Int:=match l.findIdx? (fun c=>decide (c.key=key))with|some i=>(i:Int)|none=> -1
def inS (s:List (List UInt8)) (v:ByteArray):Bool:=s.any fun x=>decide (v=⟨x.toArray⟩)
theorem Ub {l:List Cont} {key:ByteArray} {j:Nat} (hj:j<l.length) (hq: ∀i,i<j→(l.getD i default).key≠key) (h:(l.getD j default).key=key):zI l key=j:=by
 have:l.findIdx? (fun c=>decide (c.key=key))=some j:=by
  rw[List.findIdx?_eq_some_iff_getElem]
  refine⟨hj, ?_,fun i hi=>?_⟩
  · rw[show l[j]=l.getD j default by simp[List.getD,hj]]
    exact decide_eq_true h
  · have:=hq i hi
    rw[show l.getD i default=l[i] by simp[List.getD,show i<l.length by omega]]at this
    simpa using this
 unfold zI
 rw[this]
theorem Uc {l:List Cont} {key:ByteArray} (hq: ∀i,i<l.length→(l.getD i default).key≠key):zI l key= -1:=by
 have:l.findIdx? (fun c=>decide (c.key=key))=none:=by
  rw[List.findIdx?_eq_none_iff]
  intro c hc
  obtain⟨i,hi,rfl⟩:=List.getElem_of_mem hc
  have:=hq i hi
  rw[show l.getD i default=l[i] by simp[List.getD,hi]]at this
  simpa using this
 unfold zI
 rw[this]
theorem aa1 (l:List Cont) (key:ByteArray):zI l key= -1∨ ∃i:Nat,i<l.length∧zI l key=i:=by
 unfold zI
 cases h:l.findIdx? (fun c=>decide (c.key=key))with
 |none=>exact .inl rfl
 |some i=>exact .inr ⟨i,(List.findIdx?_eq_some_iff_getElem.1 h).1,rfl⟩
theorem ac4 (ed:Ed) (l:List Cont) (hl:l.length≤1000000000):aV Tryz.prog 86 [(0,.box 64 ed.cs)] [.sl 7 l.length false (Rh l),.fn 87 [.box 0 0]] (.v (.int .i64 (zI l ed.key))) [(0,.box 64 ed.cs)]:=by
 dsimp only[Ed.cs]
 refine K1.M 0x103b3 Tryz.func86 10 ?_
 repeat' ((conv=>whnf);first|refine K1.w ?_|refine K1.u ?_|refine K1.z ?_|refine K1.y (fun _=>?_) (fun _=>?_)|fail)
 conv=>whnf
 refine aN.mk {j:Nat//j≤l.length∧ ∀i,i<j→(l.getD i default).key≠ed.key} (fun j=>⟨[(8,.v (.int .i64 (j.1:Int))),(7,.v (.int .i64 (l.length:Int))),(0,.sl 7 l.length false (Rh l)),(1,.fn 87 [.box 0 0])],[(0,.box 64 [.v (.int .i64 ed.k),.v (.string ed.key),.v (.int .i64 ed.l),.v (.string ed.v)])],[[(0,.box 0 0)]],11⟩)
  (fun j=>l.length-j.1) ⟨0,Nat.zero_le _,fun i h=>absurd h (Nat.not_lt_zero i)⟩ _ (dL.mk' [] _ _ _ rfl ⟨aS.int rfl,aj,aj,aj,trivial⟩ ⟨aF rfl,trivial⟩ rfl) ?_
 rintro⟨j,hj,hq⟩
 dsimp only
 by_cases hjl:j<l.length
 · by_cases hk:(l.getD j default).key=ed.key
   · rw[Ub hjl hq hk]
     have hk:(l.getD (j:Int).toNat default).key=ed.key:=hk
     clear hq
     repeat' ((conv=>whnf);first|refine K1.w ?_|refine K1.u ?_|refine K1.I 0xf Tryz.func87 ?_|refine K1.z ?_|refine K1.y (fun _=>?_) (fun _=>?_)|fail)
     all_goals(conv=>whnf)
     exact⟨[],rfl,rfl,⟨aF rfl,trivial⟩,rfl,rfl,aj⟩
   · have hq2: ∀i,i<j+1→(l.getD i default).key≠ed.key:=fun i hi=>by
      rcases Nat.lt_or_ge i j with h|h
      · exact hq i h
      · obtain rfl:=Nat.le_antisymm (Nat.le_of_lt_succ hi) h
        exact hk
     have hk: ¬ (l.getD (j:Int).toNat default).key=ed.key:=hk
     clear hq
     repeat' ((conv=>whnf);first|refine K1.w ?_|refine K1.u ?_|refine K1.I 0xf Tryz.func87 ?_|refine K1.z ?_|refine K1.y (fun _=>?_) (fun _=>?_)|fail)
     all_goals(conv=>whnf)
     exact⟨⟨j+1,hjl,hq2⟩,_,dL.mk' [] _ _ _ rfl ⟨aS.int rfl,aj,aj,aj,trivial⟩ ⟨aF rfl,trivial⟩ rfl,by show l.length-(j+1)<l.length-j;omega⟩
 · obtain rfl:j=l.length:=by omega
   rw[Uc hq]
   repeat' ((conv=>whnf);first|refine K1.w ?_|refine K1.u ?_|refine K1.z ?_|refine K1.y (fun _=>?_) (fun _=>?_)|fail)
   all_goals(conv=>whnf)
   exact⟨[],rfl,rfl,⟨aF rfl,trivial⟩,rfl,rfl,aj⟩
theorem JQ (s:List (List UInt8)) (v:ByteArray) (hl:s.length≤1000000000):aH Tryz.prog 88 [.sl 1 s.length true (iC s),.v (.string v)] (.v (.bool (inS s v))) []:=by
 refine K1.E 0x13 Tryz.func88 ?_
 repeat' ((conv=>whnf);first|refine K1.w ?_|refine K1.u ?_|refine K1.I 0x103b3 Tryz.func118 ?_|refine K1.z ?_|refine K1.y (fun _=>?_) (fun _=>?_)|fail)
 conv=>whnf
 refine aN.mk {j:Nat//j≤s.length∧ ∀i,i<j→ ¬v=⟨(s.getD i []).toArray⟩} (fun j=>⟨[(8,.v (.int .i64 (j.1:Int))),(7,.v (.int .i64 (s.length:Int))),(0,.sl 1 s.length true (iC s)),(1,.v (.string v))],[],
   [[(6,.v (.string v)),(5,.sl 1 s.length true (iC s)),(4,.v (.bool false)),(0,.sl 1 s.length true (iC s)),(1,.v (.string v))]],0⟩)
  (fun j=>s.length-j.1) ⟨0,Nat.zero_le _,fun i h=>absurd h (Nat.not_lt_zero i)⟩ _ (dL.mk' [] _ _ _ rfl ⟨aS.int rfl,aj,aj,aj,trivial⟩ trivial rfl) ?_
 rintro⟨j,hj,hq⟩
 dsimp only
 by_cases hjl:j<s.length
 · by_cases hk:v=⟨(s.getD j []).toArray⟩
   · have hin:inS s v=true:=List.any_eq_true.2 ⟨s[j],List.getElem_mem hjl,by rw[show s.getD j []=s[j] by simp[List.getD,hjl]]at hk;exact decide_eq_true hk⟩
     rw[hin]
     have hk:v=⟨(s.getD (j:Int).toNat []).toArray⟩:=hk
     clear hq
     repeat' ((conv=>whnf);first|refine K1.w ?_|refine K1.u ?_|refine uZ.yes hk ?_|refine aJ.dO ?_|refine K1.z ?_|refine K1.y (fun _=>?_) (fun _=>?_)|fail)
     all_goals(conv=>whnf)
     exact bF.mk (aj)
   · have hq2: ∀i,i<j+1→ ¬v=⟨(s.getD i []).toArray⟩:=fun i hi=>by
      rcases Nat.lt_or_ge i j with h|h
      · exact hq i h
      · obtain rfl:=Nat.le_antisymm (Nat.le_of_lt_succ hi) h
        exact hk
     have hk: ¬v=⟨(s.getD (j:Int).toNat []).toArray⟩:=hk
     clear hq
     repeat' ((conv=>whnf);first|refine K1.w ?_|refine K1.u ?_|refine uZ.no hk ?_|refine K1.z ?_|refine K1.y (fun _=>?_) (fun _=>?_)|fail)
     all_goals(conv=>whnf)
     exact⟨⟨j+1,hjl,hq2⟩,_,dL.mk' [] _ _ _ rfl ⟨aS.int rfl,aj,aj,aj,trivial⟩ trivial rfl,by show s.length-(j+1)<s.length-j;omega⟩
 · obtain rfl:j=s.length:=by omega
   have hin:inS s v=false:=by
    rw[Bool.eq_false_iff]
    intro h
    obtain⟨x,hx,hv⟩:=List.any_eq_true.1 h
    obtain⟨i,hi,rfl⟩:=List.getElem_of_mem hx
    exact hq i hi (by rw[show s.getD i []=s[i] by simp[List.getD,hi]];exact of_decide_eq_true hv)
   rw[hin]
   repeat' ((conv=>whnf);first|refine K1.w ?_|refine K1.u ?_|refine aJ.dO ?_|refine K1.z ?_|refine K1.y (fun _=>?_) (fun _=>?_)|fail)
   all_goals(conv=>whnf)
   exact bF.mk (aj)
def Vt (c:Cont) (n:Int):List (List UInt8):=if n=0 then c.s0 else c.s1
def l9 (cL cP:Int) (l:List Cont) (e:Ed):Int:=
 if jJ e≠0 then jJ e
 else if e.k=1 then(if zI l e.key= -1 then(if cL≤(l.length:Int)then 15 else 0)else 13)
 else if zI l e.key= -1 then 14
 else if e.k=4 then(if cP≤((Vt (l.getD (zI l e.key).toNat default) e.l).length:Int)then 15 else 0)
 else if e.k=5 then(if inS (Vt (l.getD (zI l e.key).toNat default) e.l) e.v=true then 0 else 16)
 else 0
theorem uO (c:mQ) (l:List Cont) (e:Ed) (hl:l.length≤1000000) (hs: ∀x∈l,x.s0.length≤1000000∧x.s1.length≤1000000):aH Tryz.prog 49 [c.av,.sl 7 l.length false (Rh l),e.av] (.v (.int .i64 (l9 c.l c.p l e))) []:=by
 have hed:=C9 e
 have hix:=ac4 e l (by omega)
 have hin:=aa1 l e.key
 generalize hi:zI l e.key=ix at hix hin
 unfold l9
 rw[hi]
 clear hi
 obtain⟨cn,cw,cq,ch,cl,cp⟩:=c
 obtain⟨k,key,lab,v⟩:=e
 dsimp only[mQ.av,mQ.cs,Ed.av,Ed.cs]at hed hix⊢
 refine Ov dV 9 0x8004001a81011ef 0x43 Tryz.func49 rfl rfl rfl Tryz.func85 rfl rfl rfl (i:=6) (j:=7) rfl rfl rfl rfl rfl rfl rfl ?_
 by_cases he:jJ ⟨k,key,lab,v⟩=0
 · rw [if_neg (by simp[he])]
   rw[he]at hed
   have hlab:k=4∨k=5→lab=0∨lab=1:=fun h=>by
    have g:=(qI he).2.2.2.2.2.1 (by unfold dN;rcases h with rfl|rfl<;>rfl)
    have g1:=g.1
    have g2:=g.2.1
    dsimp only at g1 g2
    omega
   clear he
   rcases hin with rfl|⟨i,hil,rfl⟩
   · rw[if_pos rfl,if_pos rfl]
     clear hlab hs
     by_cases hk1:k=1
     · rw[if_pos hk1]
       by_cases hcl:cl≤(l.length:Int)
       all_goals first|rw[if_pos hcl]|rw[if_neg hcl]
       all_goals repeat' ((conv=>whnf);first|refine K1.w ?_|refine K1.u ?_|refine K1.P1 hed rfl ?_|refine K1.C 1 [(0,_)] (hix) rfl ?_|refine pF.mk (by decide) ?_|refine aJ.dO ?_|refine K1.o (id:=16) [(0,none),(1,none),(2,none),(3,none),(4,none),(5,none),(6,none),(7,none),(8,none),(9,none),(10,none),(11,none),(12,some [11,10,7,3])] [(6,[3]),(7,[3]),(8,[7,3]),(11,[10,7,3]),(12,[11,10,7,3])] ?_|refine K1.o (id:=18) [(0,none),(1,none),(2,none),(3,none),(4,none),(5,none),(6,none),(7,none),(8,none),(9,none),(10,some [9,7,3]),(11,none)] [(6,[3]),(7,[3]),(10,[9,7,3]),(11,[9,7,3])] ?_|refine K1.z ?_|refine K1.y (fun _=>?_) (fun _=>?_)|fail)
       all_goals(conv=>whnf)
       all_goals exact bF.mk (aj)
     · rw[if_neg hk1]
       repeat' ((conv=>whnf);first|refine K1.w ?_|refine K1.u ?_|refine K1.P1 hed rfl ?_|refine K1.C 1 [(0,_)] (hix) rfl ?_|refine pF.mk (by decide) ?_|refine aJ.dO ?_|refine K1.o (id:=16) [(0,none),(1,none),(2,none),(3,none),(4,none),(5,none),(6,none),(7,none),(8,none),(9,none),(10,none),(11,none),(12,some [11,10,7,3])] [(6,[3]),(7,[3]),(8,[7,3]),(11,[10,7,3]),(12,[11,10,7,3])] ?_|refine K1.o (id:=18) [(0,none),(1,none),(2,none),(3,none),(4,none),(5,none),(6,none),(7,none),(8,none),(9,none),(10,some [9,7,3]),(11,none)] [(6,[3]),(7,[3]),(10,[9,7,3]),(11,[9,7,3])] ?_|refine K1.z ?_|refine K1.y (fun _=>?_) (fun _=>?_)|fail)
       all_goals(conv=>whnf)
       all_goals exact bF.mk (aj)
   · have hne: ¬ ((i:Int)= -1):=by omega
     rw[if_neg hne,if_neg hne,Int.toNat_natCast]
     by_cases hk1:k=1
     · rw[if_pos hk1];clear hlab hs
       repeat' ((conv=>whnf);first|refine K1.w ?_|refine K1.u ?_|refine K1.P1 hed rfl ?_|refine K1.C 1 [(0,_)] (hix) rfl ?_|refine pF.mk (by decide) ?_|refine aJ.dO ?_|refine K1.o (id:=16) [(0,none),(1,none),(2,none),(3,none),(4,none),(5,none),(6,none),(7,none),(8,none),(9,none),(10,none),(11,none),(12,some [11,10,7,3])] [(6,[3]),(7,[3]),(8,[7,3]),(11,[10,7,3]),(12,[11,10,7,3])] ?_|refine K1.o (id:=18) [(0,none),(1,none),(2,none),(3,none),(4,none),(5,none),(6,none),(7,none),(8,none),(9,none),(10,some [9,7,3]),(11,none)] [(6,[3]),(7,[3]),(10,[9,7,3]),(11,[9,7,3])] ?_|refine K1.z ?_|refine K1.y (fun _=>?_) (fun _=>?_)|fail)
       all_goals(conv=>whnf)
       all_goals exact bF.mk (aj)
     · rw [if_neg hk1]
       have hmem:l.getD i default∈l:=by rw[show l.getD i default=l[i] by simp[List.getD,hil]];exact List.getElem_mem hil
       have hb:=hs _ hmem
       have c0:=JQ (l.getD i default).s0 v (by omega)
       have c1:=JQ (l.getD i default).s1 v (by omega)
       clear hs hmem
       rw[show l.getD i default=l.getD (i:Int).toNat default from rfl]at c0 c1 hb⊢
       by_cases hk4:k=4
       · rw[if_pos hk4]
         rcases hlab (.inl hk4)with rfl|rfl
         all_goals first|rw[show Vt (l.getD (i:Int).toNat default) 0=(l.getD (i:Int).toNat default).s0 from rfl]|rw[show Vt (l.getD (i:Int).toNat default) 1=(l.getD (i:Int).toNat default).s1 from rfl]
         all_goals split
         all_goals repeat' ((conv=>whnf);first|refine K1.w ?_|refine K1.u ?_|refine K1.P1 hed rfl ?_|refine K1.C 1 [(0,_)] (hix) rfl ?_|refine pF.mk (by decide) ?_|refine aJ.dO ?_|refine K1.o (id:=16) [(0,none),(1,none),(2,none),(3,none),(4,none),(5,none),(6,none),(7,none),(8,none),(9,none),(10,none),(11,none),(12,some [11,10,7,3])] [(6,[3]),(7,[3]),(8,[7,3]),(11,[10,7,3]),(12,[11,10,7,3])] ?_|refine K1.o (id:=18) [(0,none),(1,none),(2,none),(3,none),(4,none),(5,none),(6,none),(7,none),(8,none),(9,none),(10,some [9,7,3]),(11,none)] [(6,[3]),(7,[3]),(10,[9,7,3]),(11,[9,7,3])] ?_|refine K1.z ?_|refine K1.y (fun _=>?_) (fun _=>?_)|fail)
         all_goals(conv=>whnf)
         all_goals exact bF.mk (aj)
       · rw[if_neg hk4]
         by_cases hk5:k=5
         · rw[if_pos hk5]
           rcases hlab (.inr hk5)with rfl|rfl
           all_goals first|rw[show Vt (l.getD (i:Int).toNat default) 0=(l.getD (i:Int).toNat default).s0 from rfl];generalize inS (l.getD (i:Int).toNat default).s0 v=b at c0⊢|rw[show Vt (l.getD (i:Int).toNat default) 1=(l.getD (i:Int).toNat default).s1 from rfl];generalize inS (l.getD (i:Int).toNat default).s1 v=b at c1⊢
           all_goals cases b
           all_goals first|rw[if_pos rfl]|rw[if_neg Bool.false_ne_true]
           all_goals repeat' ((conv=>whnf);first|refine K1.w ?_|refine K1.u ?_|refine K1.P1 hed rfl ?_|refine K1.C 1 [(0,_)] (hix) rfl ?_|refine K1.P1 c0 rfl ?_|refine K1.P1 c1 rfl ?_|refine pF.mk (by decide) ?_|refine aJ.dO ?_|refine K1.o (id:=16) [(0,none),(1,none),(2,none),(3,none),(4,none),(5,none),(6,none),(7,none),(8,none),(9,none),(10,none),(11,none),(12,some [11,10,7,3])] [(6,[3]),(7,[3]),(8,[7,3]),(11,[10,7,3]),(12,[11,10,7,3])] ?_|refine K1.o (id:=18) [(0,none),(1,none),(2,none),(3,none),(4,none),(5,none),(6,none),(7,none),(8,none),(9,none),(10,some [9,7,3]),(11,none)] [(6,[3]),(7,[3]),(10,[9,7,3]),(11,[9,7,3])] ?_|refine K1.z ?_|refine K1.y (fun _=>?_) (fun _=>?_)|fail)
           all_goals(conv=>whnf)
           all_goals exact bF.mk (aj)
         · rw[if_neg hk5]
           repeat' ((conv=>whnf);first|refine K1.w ?_|refine K1.u ?_|refine K1.P1 hed rfl ?_|refine K1.C 1 [(0,_)] (hix) rfl ?_|refine pF.mk (by decide) ?_|refine aJ.dO ?_|refine K1.o (id:=16) [(0,none),(1,none),(2,none),(3,none),(4,none),(5,none),(6,none),(7,none),(8,none),(9,none),(10,none),(11,none),(12,some [11,10,7,3])] [(6,[3]),(7,[3]),(8,[7,3]),(11,[10,7,3]),(12,[11,10,7,3])] ?_|refine K1.o (id:=18) [(0,none),(1,none),(2,none),(3,none),(4,none),(5,none),(6,none),(7,none),(8,none),(9,none),(10,some [9,7,3]),(11,none)] [(6,[3]),(7,[3]),(10,[9,7,3]),(11,[9,7,3])] ?_|refine K1.z ?_|refine K1.y (fun _=>?_) (fun _=>?_)|fail)
           all_goals(conv=>whnf)
           all_goals exact bF.mk (aj)
 · rw[if_pos he]
   generalize jJ ⟨k,key,lab,v⟩=x at hed he⊢
   repeat' ((conv=>whnf);first|refine K1.w ?_|refine K1.u ?_|refine K1.P1 hed rfl ?_|refine aJ.dO ?_|refine K1.o (id:=16) [(0,none),(1,none),(2,none),(3,none),(4,none),(5,none),(6,none),(7,none),(8,none),(9,none),(10,none),(11,none),(12,some [11,10,7,3])] [(6,[3]),(7,[3]),(8,[7,3]),(11,[10,7,3]),(12,[11,10,7,3])] ?_|refine K1.o (id:=18) [(0,none),(1,none),(2,none),(3,none),(4,none),(5,none),(6,none),(7,none),(8,none),(9,none),(10,some [9,7,3]),(11,none)] [(6,[3]),(7,[3]),(10,[9,7,3]),(11,[9,7,3])] ?_|refine K1.z ?_|refine K1.y (fun _=>?_) (fun _=>?_)|fail)
   all_goals(conv=>whnf)
   all_goals exact bF.mk (aj)
end
section
open Go.RowKit
def Opens (o:OB) (j:Nat) {Y:Type} (hs:Y→List (Nat×AO)):Prop:=
 ∀ (w:World) (k:Nat→Prop) (v:Value),o.R w k v→ ∃ (y:Y) (ρ:Nat→Value),eP (ρ j)=eP v∧(ah ρ (hs y)).Perm (blks v)∧ ∀p∈hs y,bn ⟨w,k,ρ⟩ p.1 p.2
def Closes (hs:List (Nat×AO)) (j:Nat) (o:OB):Prop:=
 ∀ (w:World) (k:Nat→Prop) (ρ:Nat→Value),(ah ρ hs).Nodup→(∀p∈hs,bn ⟨w,k,ρ⟩ p.1 p.2)→ ∃us,o.R w k (.tuple us)∧eP (.tuple us)=eP (ρ j)∧ ∀b∈blks (.tuple us),b∈ah ρ hs
def Ud (q:Nat→Bool) (j:Nat):AV→Bool
  | .own i=>q i||Nat.beq i j
  | .box i _=>q i||Nat.beq i j
  | .dP i .. =>q i
  | .jq i .. =>q i||Nat.beq i j
  | .cf _ i _=>q i||Nat.beq i j
  |_=>true
def GN (q:Nat→Bool) (j:Nat):AV→Bool
  | .agg cs=>cs.all (Ud q j)
  | .fn _ cs=>cs.all (Ud q j)
  |x=>Ud q j x
def kG (q:Nat→Bool) (j:Nat):AV→Bool
  | .dF vs=>vs.all (GN q j)
  |x=>GN q j x
section
variable {X Y:CX} {q:Nat→Bool} {j:Nat} (hk: ∀b,X.keep b→Y.keep b) (hm:Y.w=X.w) (hρ: ∀i,q i=true→Y.ρ i=X.ρ i) (hj:eP (Y.ρ j)=eP (X.ρ j))
include hk hm hρ hj
theorem C0.nD {av:AV} {u:Value} (hr:Ud q j av=true) (hc:C0 X av u):C0 Y av u:=by
 have hmm: ∀b,X.keep b→Y.w.heap[b]? =X.w.heap[b]? :=fun _ _=>by rw[hm]
 have hh: ∀i,(q i||Nat.beq i j)=true→eP (Y.ρ i)=eP (X.ρ i):=fun i h=>by
  simp only[Bool.or_eq_true]at h
  rcases h with h|h
  · rw[hρ i h]
  · rw[Nat.eq_of_beq_eq_true h];exact hj
 cases av with
 |own id=>exact(show u=eP (X.ρ id)from hc).trans (hh id hr).symm
 |dP id s i k=>obtain⟨b,n,c,h1,h2⟩:=hc;exact⟨b,n,c,(hρ id hr).trans h1,h2⟩
 |jq id s i k=>exact Or.imp (fun⟨b,c,h1,h2⟩=>⟨b,c,(congrArg jm (hh id hr)).trans h1,h2⟩) _root_.id hc
 |box id off=>obtain⟨b,h1,h2⟩:=hc;exact⟨b,(hh id hr).trans h1,h2⟩
 |cf gg id off=>obtain⟨b,h1,h2⟩:=hc;exact⟨b,(hh id hr).trans h1,h2⟩
 | el cs k=>
   obtain⟨b,o,us,e,kb,ha,hcell⟩:=hc
   exact⟨b,o,us,e,hk b kb,ha.imp (fun _ _=>PC.mono hk hmm),fun j y hj=>(World.cell?_of_block (hmm b kb)).trans (hcell j y hj)⟩
 |sl s n sc f=>exact PC.mono hk hmm hc
 |v x=>exact hc
 |junk=>trivial
 |agg cs=>exact hc
 |dF cs=>exact hc
 |fn g caps=>exact hc
theorem C1.nD {av:AV} {u:Value} (hr:GN q j av=true) (hc:C1 X av u):C1 Y av u:=by
 cases av with
 |agg cs=>obtain⟨us,e,ha⟩:=hc;exact⟨us,e,ha.IX hr fun _ _ q k=>C0.nD hk hm hρ hj q k⟩
 |fn g cs=>obtain⟨us,e,ha⟩:=hc;exact⟨us,e,ha.IX hr fun _ _ q k=>C0.nD hk hm hρ hj q k⟩
 |own id=>exact C1.sZ (C0.nD hk hm hρ hj (av:= .own id) hr hc)
 |dP id s i k=>exact C1.sZ (C0.nD hk hm hρ hj (av:= .dP id s i k) hr hc)
 |jq id s i k=>exact C1.sZ (C0.nD hk hm hρ hj (av:= .jq id s i k) hr hc)
 |box id k=>exact C1.sZ (C0.nD hk hm hρ hj (av:= .box id k) hr hc)
 |cf gg id k=>exact C1.sZ (C0.nD hk hm hρ hj (av:= .cf gg id k) hr hc)
 |el cs k=>exact C1.sZ (C0.nD hk hm hρ hj (av:= .el cs k) hr hc)
 |sl s n sc f=>exact C1.sZ (C0.nD hk hm hρ hj (av:= .sl s n sc f) hr hc)
 |v x=>exact hc
 |junk=>trivial
 |dF cs=>exact hc
theorem C2.nD {av:AV} {u:Value} (hr:kG q j av=true) (hc:C2 X av u):C2 Y av u:=by
 cases av with
 |dF vs=>obtain⟨us,e,ha⟩:=hc;exact⟨us,e,ha.IX hr fun _ _ q k=>C1.nD hk hm hρ hj q k⟩
 |agg cs=>exact C2.jP (C1.nD hk hm hρ hj (av:= .agg cs) hr hc)
 |fn g cs=>exact C2.jP (C1.nD hk hm hρ hj (av:= .fn g cs) hr hc)
 |own id=>exact C2.jP (C1.nD hk hm hρ hj (av:= .own id) hr hc)
 |dP id s i k=>exact C2.jP (C1.nD hk hm hρ hj (av:= .dP id s i k) hr hc)
 |jq id s i k=>exact C2.jP (C1.nD hk hm hρ hj (av:= .jq id s i k) hr hc)
 |box id k=>exact C2.jP (C1.nD hk hm hρ hj (av:= .box id k) hr hc)
 |cf gg id k=>exact C2.jP (C1.nD hk hm hρ hj (av:= .cf gg id k) hr hc)
 |el cs k=>exact C2.jP (C1.nD hk hm hρ hj (av:= .el cs k) hr hc)
 |sl s n sc f=>exact C2.jP (C1.nD hk hm hρ hj (av:= .sl s n sc f) hr hc)
 |v x=>exact hc
 |junk=>trivial
end
theorem sQ (ρ:Nat→Value) (p:Nat×AO):ah ρ [p]=blks (ρ p.1):=by rw[aX];simp[ah]
theorem aV.opn {P:Program} {f:FuncId} {o o':OB} {j:Nat} {Y:Type} {hs:Y→List (Nat×AO)} {dn:List AV} {r:AV} {ho:List (Nat×AO)} (hE:Enters P f) (hO:Opens o j hs)
  (h: ∀y,∃hs',Closes hs' j o'∧gG j (hs y)=true∧gG j hs'=true∧aV P f (hs y) dn r (hs'++ho))
  (hb:(dn.all (GN (fun _=>false) j)&&kG (fun i=>gG i ho) j r&&jT ho ho&& !(gG j ho))=true):aV P f [(j,.obs o)] dn r ((j,.obs o')::ho):=by
 simp only[Bool.and_eq_true,Bool.not_eq_true']at hb
 obtain⟨⟨⟨hav,hrr⟩,hcl⟩,hne⟩:=hb
 refine⟨hE,fun w keep ρ args hkeep lK hnd hbl hargs=>?_⟩
 obtain⟨us,eu,hR⟩:=lK _ (List.mem_singleton.2 rfl)
 have eu:ρ j= .tuple us:=eu
 have hR:o.R w keep (ρ j):=hR
 have hsb:=sQ ρ (j,.obs o)
 rw[hsb]at hnd hbl
 obtain⟨y,ρ',hhd,hperm,hok⟩:=hO w keep (ρ j) hR
 obtain⟨hs',hC,hj1,hj2,hM⟩:=h y
 have hmem: ∀b,b∈ah ρ' (hs y)↔b∈blks (ρ j):=fun b=>hperm.mem_iff
 refine(hM.2 w keep ρ' args hkeep hok (hperm.nodup_iff.2 hnd) (fun b hb=>hbl b ((hmem b).1 hb)) (hargs.IX hav fun _ _ q k=>C1.nD (X:=⟨w,keep,ρ⟩) (Y:=⟨w,keep,ρ'⟩) (fun _ h=>h) rfl (fun _ h=>by cases h) hhd q k)).mono ?_
 rintro e w' ⟨u,Ja,rfl,hbel,hfix,hc,hout,hnd',hnew⟩
 rw[gV,List.nodup_append]at hnd'
 obtain⟨hn1,hn2,hn3⟩:=hnd'
 obtain⟨vs,hR',aa2,hbs⟩:=hC w' (aK (gU w keep (fun b=>b∈ah ρ' (hs y))) w' Ja (hs'++ho)) Ja hn1 (fun p hp=>hout p (List.mem_append_left _ hp))
 let Cc:Nat→Value:=fun i=>if i=j then .tuple vs else Ja i
 have YH:Cc j= .tuple vs:=by simp[Cc]
 have e4: ∀i,gG i ho=true→Cc i=Ja i:=fun i hi=>by
  have:i≠j:=by rintro rfl;rw[hne]at hi;cases hi
  simp[Cc,this]
 have hb4:ah Cc ((j,.obs o')::ho)=blks (.tuple vs)++ah Ja ho:=by
  rw[aX,jy fun p hp=>e4 p.1 (fH.2 ⟨p,hp,rfl⟩)]
  show blks (Cc j)++_=_
  rw[YH]
 have OH: ∀b,b∈ah Cc ((j,.obs o')::ho)→b∈ah Ja (hs'++ho):=fun b hb=>by
  rw[hb4]at hb
  rw[gV]
  exact(List.mem_append.1 hb).elim (fun h=>List.mem_append_left _ (hbs b h)) (fun h=>List.mem_append_right _ h)
 have hk4: ∀b,aK (gU w keep (fun b=>b∈ah ρ' (hs y))) w' Ja (hs'++ho) b→aK (gU w keep (fun b=>b∈ah ρ [(j,.obs o)])) w' Cc ((j,.obs o')::ho) b:=by
  rintro b ⟨h1,h2,h3⟩
  exact⟨h1,fun hlt=>(h2 hlt).imp id fun h=>(by show b∈ah ρ [(j,.obs o)];rw[hsb];exact(hmem b).1 h),fun h=>h3 (OH b h)⟩
 refine⟨u,Cc,rfl,⟨hbel.os,hbel.tape,hbel.output,hbel.size,fun k hk hM'=>hbel.block k hk fun h=>hM' (by rw[hsb];exact(hmem k).1 h)⟩, ?_, ?_, ?_, ?_, ?_⟩
 · intro p hp q hq eq
   obtain rfl:=List.mem_singleton.1 hp
   refine .inr ⟨⟨vs,YH⟩,⟨us,eu⟩, ?_⟩
   show eP (Cc j)=eP (ρ j)
   rw[YH,aa2,←hhd]
   obtain⟨p',hp',ep⟩:=fH.1 hj1
   obtain⟨q',hq',eq'⟩:=fH.1 hj2
   have:=(hfix p' hp' q' (List.mem_append_left _ hq') (eq'.trans ep.symm)).hd
   rw[ep]at this
   exact this
 · exact C2.nD (X:=aC (gU w keep (fun b=>b∈ah ρ' (hs y))) w' Ja (hs'++ho)) (Y:=aC (gU w keep (fun b=>b∈ah ρ [(j,.obs o)])) w' Cc ((j,.obs o')::ho)) hk4 rfl e4 (by show eP (Cc j)=eP (Ja j);rw[YH,aa2]) hrr hc
 · intro p hp
   rcases List.mem_cons.1 hp with rfl|hp
   · refine⟨vs,YH, ?_⟩
     show o'.R w' _ (Cc j)
     rw[YH]
     exact o'.mono hk4 (fun _ _=>rfl) (fun _ _=>rfl) hR'
   · exact bn.over (X:=aC (gU w keep (fun b=>b∈ah ρ' (hs y))) w' Ja (hs'++ho)) (Y:=aC (gU w keep (fun b=>b∈ah ρ [(j,.obs o)])) w' Cc ((j,.obs o')::ho)) hk4 rfl e4 (fH.2 ⟨p,hp,rfl⟩) (oZ hcl p hp) (hout p (List.mem_append_right _ hp))
 · rw[hb4,List.nodup_append]
   exact⟨(o'.lt hR').2.2,hn2,fun a ha b hb=>hn3 a (hbs a ha) b hb⟩
 · intro b hb
   rcases hnew b (OH b hb)with h|h
   · exact .inl h
   · exact .inr (by rw[hsb];exact(hmem b).1 h)
theorem aV.cls {P:Program} {f:FuncId} {o':OB} {j:Nat} {dn:List AV} {r:AV} {hs' ho:List (Nat×AO)} (hC:Closes hs' j o') (hM:aV P f [] dn r (hs'++ho))
  (hb:(kG (fun i=>gG i ho) j r&&jT ho ho&& !(gG j ho))=true):aV P f [] dn r ((j,.obs o')::ho):=by
 simp only[Bool.and_eq_true,Bool.not_eq_true']at hb
 obtain⟨⟨hrr,hcl⟩,hne⟩:=hb
 refine⟨hM.1,fun w keep ρ args hkeep lK hnd hbl hargs=>(hM.2 w keep ρ args hkeep lK hnd hbl hargs).mono ?_⟩
 rintro e w' ⟨u,Ja,rfl,hbel,hfix,hc,hout,hnd',hnew⟩
 rw[gV,List.nodup_append]at hnd'
 obtain⟨hn1,hn2,hn3⟩:=hnd'
 obtain⟨vs,hR',aa2,hbs⟩:=hC w' (aK (gU w keep (fun b=>b∈ah ρ [])) w' Ja (hs'++ho)) Ja hn1 (fun p hp=>hout p (List.mem_append_left _ hp))
 let Cc:Nat→Value:=fun i=>if i=j then .tuple vs else Ja i
 have YH:Cc j= .tuple vs:=by simp[Cc]
 have e4: ∀i,gG i ho=true→Cc i=Ja i:=fun i hi=>by
  have:i≠j:=by rintro rfl;rw[hne]at hi;cases hi
  simp[Cc,this]
 have hb4:ah Cc ((j,.obs o')::ho)=blks (.tuple vs)++ah Ja ho:=by
  rw[aX,jy fun p hp=>e4 p.1 (fH.2 ⟨p,hp,rfl⟩)]
  show blks (Cc j)++_=_
  rw[YH]
 have OH: ∀b,b∈ah Cc ((j,.obs o')::ho)→b∈ah Ja (hs'++ho):=fun b hb=>by
  rw[hb4]at hb
  rw[gV]
  exact(List.mem_append.1 hb).elim (fun h=>List.mem_append_left _ (hbs b h)) (fun h=>List.mem_append_right _ h)
 have hk4: ∀b,aK (gU w keep (fun b=>b∈ah ρ [])) w' Ja (hs'++ho) b→aK (gU w keep (fun b=>b∈ah ρ [])) w' Cc ((j,.obs o')::ho) b:=
  fun b ⟨h1,h2,h3⟩=>⟨h1,h2,fun h=>h3 (OH b h)⟩
 refine⟨u,Cc,rfl,hbel,(fun p hp=>by cases hp), ?_, ?_, ?_,fun b hb=>hnew b (OH b hb)⟩
 · exact C2.nD (X:=aC (gU w keep (fun b=>b∈ah ρ [])) w' Ja (hs'++ho)) (Y:=aC (gU w keep (fun b=>b∈ah ρ [])) w' Cc ((j,.obs o')::ho)) hk4 rfl e4 (by show eP (Cc j)=eP (Ja j);rw[YH,aa2]) hrr hc
 · intro p hp
   rcases List.mem_cons.1 hp with rfl|hp
   · refine⟨vs,YH, ?_⟩
     show o'.R w' _ (Cc j)
     rw[YH]
     exact o'.mono hk4 (fun _ _=>rfl) (fun _ _=>rfl) hR'
   · exact bn.over (X:=aC (gU w keep (fun b=>b∈ah ρ [])) w' Ja (hs'++ho)) (Y:=aC (gU w keep (fun b=>b∈ah ρ [])) w' Cc ((j,.obs o')::ho)) hk4 rfl e4 (fH.2 ⟨p,hp,rfl⟩) (oZ hcl p hp) (hout p (List.mem_append_right _ hp))
 · rw[hb4,List.nodup_append]
   exact⟨(o'.lt hR').2.2,hn2,fun a ha b hb=>hn3 a (hbs a ha) b hb⟩
def ad6 {α:Type} (hs:α→List (Nat×AO)) (w:World) (k:Nat→Prop) (v:Value):Prop:=
 ∃ (x:α) (ρ:Nat→Value) (us:List Value),v= .tuple (eP (ρ 0)::us).toArray∧us.flatMap jm=ah ρ (hs x)∧(ah ρ (hs x)).Nodup∧gG 0 (hs x)=true∧(eP (ρ 0)).oneCell'=true∧ ∀p∈hs x,bn ⟨w,k,ρ⟩ p.1 p.2
theorem lT (x:Value) (us:List Value):blks (.tuple (x::us).toArray)=us.flatMap jm:=by simp[blks]
def OB.pack {α:Type} (hs:α→List (Nat×AO)):OB where
 R:=ad6 hs
 mono:=by
  rintro w w' k k' v hk hm hb ⟨x,ρ,us,rfl,hbl,hnd,hn,h1,hok⟩
  rw[lT,hbl]at hb
  exact⟨x,ρ,us,rfl,hbl,hnd,hn,h1,fun p hp=>bn.same (X:=⟨w,k,ρ⟩) (Y:=⟨w',k',ρ⟩) hk hm rfl (fun b hb'=>hb b (aQ.2 ⟨p,hp,hb'⟩)) (hok p hp)⟩
 lt:=by
  rintro w k v ⟨x,ρ,us,rfl,hbl,hnd,hn,h1,hok⟩
  rw[lT,hbl]
  refine⟨fun b hb=>?_,h1,hnd⟩
  obtain⟨p,hp,hb'⟩:=aQ.1 hb
  exact(hok p hp).lt b hb'
theorem Opens.pack {α:Type} (hs:α→List (Nat×AO)):Opens (OB.pack hs) 0 hs:=by
 rintro w k v ⟨x,ρ,us,rfl,hbl,hnd,hn,h1,hok⟩
 exact⟨x,ρ,rfl,by rw[lT,hbl],hok⟩
theorem OI (l:List Nat):(l.map fun b=>Value.pointer (some ⟨b,0,none⟩)).flatMap jm=l:=by
 induction l with
 |nil=>rfl
 |cons x l ih=>rw[List.map_cons,List.flatMap_cons,ih];rfl
theorem Closes.pack {α:Type} (hs:α→List (Nat×AO)) (x:α) (hn:gG 0 (hs x)=true) (h1: ∀ (X:CX),(∀p∈hs x,bn X p.1 p.2)→(eP (X.ρ 0)).oneCell'=true):Closes (hs x) 0 (OB.pack hs):=by
 intro w k ρ hnd hok
 refine⟨_,⟨x,ρ,(ah ρ (hs x)).map fun b=> .pointer (some ⟨b,0,none⟩),rfl,OI _,hnd,hn,h1 ⟨w,k,ρ⟩ hok,hok⟩,rfl,fun b hb=>?_⟩
 rw[lT,OI]at hb
 exact hb
theorem Opens.imp {o:OB} {j:Nat} {Y Z:Type} {hs:Y→List (Nat×AO)} {gs:Z→List (Nat×AO)} (h:Opens o j hs) (hi: ∀ (X:CX) y,(ah X.ρ (hs y)).Nodup→(∀p∈hs y,bn X p.1 p.2)→ ∃z ρ',eP (ρ' j)=eP (X.ρ j)∧(ah ρ' (gs z)).Perm (ah X.ρ (hs y))∧ ∀p∈gs z,bn ⟨X.w,X.keep,ρ'⟩ p.1 p.2):Opens o j gs:=by
 intro w k v hR
 obtain⟨y,ρ,h1,h2,h3⟩:=h w k v hR
 obtain⟨z,ρ',g1,g2,g3⟩:=hi ⟨w,k,ρ⟩ y (h2.nodup_iff.2 (o.lt hR).2.2) h3
 exact⟨z,ρ',g1.trans h1,g2.trans h2,g3⟩
theorem Closes.imp {o:OB} {j:Nat} {hs gs:List (Nat×AO)} (h:Closes gs j o) (hi: ∀ (X:CX),(ah X.ρ hs).Nodup→(∀p∈hs,bn X p.1 p.2)→ ∃ρ',eP (ρ' j)=eP (X.ρ j)∧(ah ρ' gs).Nodup∧(∀b∈ah ρ' gs,b∈ah X.ρ hs)∧ ∀p∈gs,bn ⟨X.w,X.keep,ρ'⟩ p.1 p.2):Closes hs j o:=by
 intro w k ρ hnd hok
 obtain⟨ρ',g1,g2,g3,g4⟩:=hi ⟨w,k,ρ⟩ hnd hok
 obtain⟨us,a1,a2,a3⟩:=h w k ρ' g2 g4
 exact⟨us,a1,a2.trans g1,fun b hb=>g3 b (a3 b hb)⟩
theorem dK.hdr {P:Program} {L:Lay} (hL:bQ P L) {W:Walk} (hW:IZ P W) {d:Nat} {f:FuncId} {dn:List AV} {st:AS} {K:AV→AS→Prop} (t id:Nat) {e:TypeId} {s n:Nat} {sc:Bool} {F:Nat→List AV} (hE:Enters P f) (ht:st.tmps t= .own id) (hf:aP id st.heap=some (.row e s n sc F))
  (h: ∀A c,dK P L W d f dn ⟨(t,.v (.slice A n c))::st.sl,st.heap,st.back,st.base⟩ K):dK P L W d f dn st K:=by
 refine .sem hE fun g N bs ρ a w args R hargs=>?_
 obtain⟨us,hown,hr⟩:=R.objs _ (ay hf)
 have hown:w.ownsRow 0 e s (ρ id) n us:=hown
 obtain⟨A,c,hv⟩: ∃A c,ρ id= .slice A n c:=by
  rcases hown.2 with⟨hv,hz⟩|⟨b,cap,cur,hv,_⟩
  · exact⟨none,0,by rw[hv,hz]⟩
  · exact⟨_,_,hv⟩
 have R':Rel g N bs ρ a w ⟨(t,.v (.slice A n c))::st.sl,st.heap,st.back,st.base⟩:=by
  refine⟨R.size,R.defers,R.below,fun t'=>?_,R.objs,R.apart,R.own,R.back⟩
  show C2 _ (upd t (.v (.slice A n c)) st.tmps t') _
  by_cases e':t'=t
  · subst e'
    have h0:=R.tmps t'
    rw[ht]at h0
    simp only[upd,Nat.beq_refl,cond_true]
    exact(C2.jU h0).trans (by show eP (ρ id)=_;rw[hv];rfl)
  · simp only[upd,beq_false e',cond_false]
    exact R.tmps t'
 have:=(xR R' hargs (h A c) (fun lv fn c hf' hnm hb hsz h'=>EL hL hW R' hargs lv fn c hf' hb hsz h')).2
 exact this
end
section
open Go.RowKit
def pmR (kv:List (Value×Value)) (w:World) (_:Nat→Prop) (v:Value):Prop:=
 ∃b es c,v= .tuple #[.map (some b),.map (some b)]∧w.heap[b]? =some (.map es c)∧pairs es.toList=kv∧MapKept.Stamped es c
def Rn (kv:List (Value×Value)):OB where
 R:=pmR kv
 mono:=by
  rintro w w' k k' v _ _ hm ⟨b,es,c,rfl,hh,hp,hs⟩
  exact⟨b,es,c,rfl,(hm b (by simp[blks,jm])).trans hh,hp,hs⟩
 lt:=by
  rintro w k v ⟨b,es,c,rfl,hh,hp,hs⟩
  refine⟨fun x hx=>?_,rfl,by simp[blks,jm]⟩
  obtain rfl:x=b:=by simpa[blks,jm]using hx
  exact(Array.getElem?_eq_some_iff.1 hh).1
structure Ue (P:Program) (kt:TypeId) (q:Value→Prop):Prop where
 chk: ∀m k w,q k→(Instr.checkKey m 10000 kt k).run P w= .ok () w
 now: ∃d,P.underlying kt=some d∧ ∀k k',q k→q k'→Instr.sameNow d k k'=none
 eq: ∀k k' w,q k→q k'→ ∃t:Bool,(t=true↔k=k')∧(Op.equal kt k k').run P w= .ok t w
 bits: ∀k,q k→Instr.sameBits 10000 k k=true
section
variable {P:Program} {kt et t:TypeId} {q:Value→Prop} (hK:Ue P kt q) {w:World} {k:Value}
include hK
theorem YI (hk:q k): ∀ (es:List MapEntry) (i:Nat),(∀e∈es,q e.key∧e.key≠k)→(Instr.findAsking kt k es i).run P w= .ok none w
  |[],_,_=>rfl
  | e::es,i,h=>by
    obtain⟨b,hb,hr⟩:=hK.eq k e.key w hk (h e List.mem_cons_self).1
    have:b=false:=by rw[Bool.eq_false_iff];exact fun e'=>(h e List.mem_cons_self).2 (hb.1 e').symm
    subst this
    simp only[Instr.findAsking,Sem.run_bind,hr,Result.andThen_ok]
    exact YI hk es (i+1) fun e he=>h e (List.mem_cons_of_mem _ he)
theorem Uf (hk:q k): ∀ (es:List MapEntry) (i j:Nat) (e:MapEntry),(∀e∈es,q e.key)→es[j]? =some e→e.key=k→(∀l x,l<j→es[l]? =some x→x.key≠k)→(Instr.findAsking kt k es i).run P w= .ok (some (i+j,e.val)) w
  |[],_,_,_,_,h,_,_=>by simp at h
  | x ::es,i,j,e,h,he,hke,hno=>by
    obtain⟨b,hb,hr⟩:=hK.eq k x.key w hk (h x List.mem_cons_self)
    simp only[Instr.findAsking,Sem.run_bind,hr,Result.andThen_ok]
    cases j with
    | zero=>
      simp only[List.getElem?_cons_zero,Option.some.injEq]at he
      subst he
      rw[hb.2 hke.symm]
      rfl
    | succ j=>
      have hx:x.key≠k:=hno 0 x (by omega) rfl
      have:b=false:=by rw[Bool.eq_false_iff];exact fun e'=>hx (hb.1 e').symm
      subst this
      have:=Uf hk es (i+1) j e (fun e he=>h e (List.mem_cons_of_mem _ he)) (by simpa using he) hke fun l x hl hx=>hno (l+1) x (by omega) (by simpa using hx)
      rw[show i+1+j=i+(j+1) by omega]at this
      exact this
theorem OJ (hk:q k) {es:List MapEntry} (h: ∀e∈es,q e.key) {r:Option (Nat×Value)} (hr:(Instr.findAsking kt k es 0).run P w= .ok r w):(Instr.findKey kt k es).run P w= .ok r w:=by
 obtain⟨d,hd,hn⟩:=hK.now
 cases es with
 | nil=>
   have:r=none:=by cases hr;rfl
   subst this
   simp[Instr.findKey,run_underlying hd,Sem.run_bind,Result.andThen,Instr.findNow]
 | cons e es=>
   have:Instr.findNow d k (e::es) 0=none:=by unfold Instr.findNow;rw[hn k e.key hk (h e List.mem_cons_self)]
   simp only[Instr.findKey,Sem.run_bind,run_underlying hd,Result.andThen_ok,this]
   exact hr
theorem Ug (hk:q k) {es:Array MapEntry} {kv:List (Value×Value)} (hp:pairs es.toList=kv) (h: ∀p∈kv,q p.1∧p.1≠k):(Instr.findKey kt k es.toList).run P w= .ok none w:=by
 have h': ∀e∈es.toList,q e.key∧e.key≠k:=fun e he=>h (e.key,e.val) (by rw[←hp];exact List.mem_map.2 ⟨e,he,rfl⟩)
 exact OJ hK hk (fun e he=>(h' e he).1) (YI hK hk es.toList 0 h')
theorem OL (hk:q k) {es:Array MapEntry} {c:Nat} (hs:MapKept.Stamped es c) {A B:List (Value×Value)} {v:Value} (hp:pairs es.toList=A++(k,v)::B) (h: ∀p∈A++(k,v)::B,q p.1):
  ∃e,es.toList[A.length]? =some e∧e.key=k∧e.val=v∧(Instr.findKey kt k es.toList).run P w= .ok (some (A.length,v)) w:=by
 have hl:(pairs es.toList)[A.length]? =some (k,v):=by rw[hp];simp
 unfold pairs at hl
 rw[List.getElem?_map]at hl
 cases he:es.toList[A.length]? with
 |none=>rw[he]at hl;cases hl
 | some e=>
   rw[he]at hl
   simp only[Option.map_some,Option.some.injEq,Prod.mk.injEq]at hl
   refine⟨e,rfl,hl.1,hl.2, ?_⟩
   have:=Uf (w:=w) hK hk es.toList 0 A.length e (fun x hx=>h (x.key,x.val) (by rw[←hp];exact List.mem_map.2 ⟨x,hx,rfl⟩)) he hl.1 fun l x hlt hx hxk=>by
    have hn:=hs.2.2
    have h1:(es.toList.map (·.key))[l]? =some k:=by rw[List.getElem?_map,hx,←hxk];rfl
    have h2:(es.toList.map (·.key))[A.length]? =some k:=by rw[List.getElem?_map,he,←hl.1];rfl
    obtain⟨a1,a2⟩:=List.getElem?_eq_some_iff.1 h1
    obtain⟨b1,b2⟩:=List.getElem?_eq_some_iff.1 h2
    have:=Jl hn a1 b1 (a2.trans b2.symm)
    omega
   rw[Nat.zero_add,hl.2]at this
   exact OJ hK hk (fun x hx=>h (x.key,x.val) (by rw[←hp];exact List.mem_map.2 ⟨x,hx,rfl⟩)) this
end
section
variable {P:Program} {kt et t:TypeId} {q:Value→Prop} {w:World} {k v:Value} {b c:Nat} {es:Array MapEntry}
theorem OM (ht:P.underlying t=some (.map kt et)) (hb:w.heap[b]? =some (.map es c)) (hc:(Instr.checkKey es.isEmpty 10000 kt k).run P w= .ok () w) {r:Option (Nat×Value)} (hf:(Instr.findKey kt k es.toList).run P w= .ok r w) {z:Value} (hz:(zeroValue et).run P w= .ok z w):
  (Instr.lookup t (.map (some b)) k true).run P w= .ok (.tuple #[(r.map (·.2)).getD z,.bool r.isSome]) w:=by
 cases r with
 |none=>simp[Instr.lookup,run_underlying ht,MapKept.run_getObj_map hb,Sem.run_bind,Result.andThen,hc,hf,hz]
 |some p=>simp[Instr.lookup,run_underlying ht,MapKept.run_getObj_map hb,Sem.run_bind,Result.andThen,hc,hf]
theorem OO (ht:P.underlying t=some (.map kt et)) (hb:w.heap[b]? =some (.map es c)) (hc:(Instr.checkKey false 10000 kt k).run P w= .ok () w) (hf:(Instr.findKey kt k es.toList).run P w= .ok none w):
  (Instr.mapUpdate t (.map (some b)) k v).run P w= .ok () {w with heap:=w.heap.setIfInBounds b (.map (es.push {key:=k,val:=v,born:=c}) (c+1))}:=by
 simp[Instr.mapUpdate,run_underlying ht,MapKept.run_getObj_map hb,Sem.run_bind,Result.andThen,hc,hf,MapKept.run_setObj_map _ hb]
theorem aa3 (ht:P.underlying t=some (.map kt et)) (hb:w.heap[b]? =some (.map es c)) (hc:(Instr.checkKey es.isEmpty 10000 kt k).run P w= .ok () w) {i:Nat} {u:Value} (hf:(Instr.findKey kt k es.toList).run P w= .ok (some (i,u)) w) {QG ty:TypeId}:
  (Builtin.delete_ #[t,QG] ty #[.map (some b),k]).run P w= .ok (.tuple #[]) {w with heap:=w.heap.setIfInBounds b (.map (es.eraseIdxIfInBounds i) c)}:=by
 simp[Builtin.delete_,run_underlying ht,MapKept.run_getObj_map hb,Sem.run_bind,Result.andThen,hc,hf,MapKept.run_setObj_map _ hb]
end
section
variable {P:Program} {kt et t:TypeId} {q:Value→Prop} {st:AS} {K:AV→AS→Prop} {id:Nat} {kv:List (Value×Value)} {k v:Value}
def Whole (x:AV) (v:Value):Prop:=(∀X u,C2 X x u→u=v)∧ ∀X,C1 X x v
theorem Whole.agg (us:List Value):Whole (.agg (us.map .v)) (.agg us.toArray):=by
 refine⟨fun X u h=>?_,fun X=>⟨us,rfl,by simp,fun i x u hx hu=>?_⟩⟩
 · obtain⟨vs,rfl,ha⟩: ∃vs:List Value,u= .agg vs.toArray∧aI (C0 X) (us.map .v) vs:=h
   congr 2
   refine List.ext_getElem? fun i=>?_
   have hl:us.length=vs.length:=by simpa using ha.1
   cases hv:vs[i]? with
   |none=>rw[List.getElem?_eq_none_iff]at hv;exact(List.getElem?_eq_none (by omega)).symm
   | some y=>
     have hi:i<us.length:=by rw[hl];exact(List.getElem?_eq_some_iff.1 hv).1
     have:y=us[i]:=ha.2 i (.v us[i]) y (by simp[hi]) hv
     rw[this]
     exact(List.getElem?_eq_getElem hi).symm
 · rw[List.getElem?_map,hu]at hx
   cases hx
   rfl
theorem L9 {g:Base} {N:Nat} {bs:List (Array Value)} {ρ:Nat→Value} {a:Act} {w:World} (R:Rel g N bs ρ a w st) (hf:aP id st.heap=some (.obs (Rn kv))):
  ∃b es c,ρ id= .tuple #[.map (some b),.map (some b)]∧w.heap[b]? =some (.map es c)∧pairs es.toList=kv∧MapKept.Stamped es c:=by
 obtain⟨us,e,b,es,c,e2,h⟩:=R.objs _ (ay hf)
 exact⟨b,es,c,e2,h⟩
theorem Uh {g:Base} {N:Nat} {bs:List (Array Value)} {ρ:Nat→Value} {a:Act} {w:World} (R:Rel g N bs ρ a w st) {x:Operand} (hx:st.ev x= .own id) {b:Nat} (e:ρ id= .tuple #[.map (some b),.map (some b)]):a.eval x= .map (some b):=by
 have:=R.ev x
 rw[hx]at this
 exact(C2.jU this).trans (by show eP (ρ id)=_;rw[e];rfl)
theorem OQ {kv':List (Value×Value)} {g:Base} {N:Nat} {bs:List (Array Value)} {ρ:Nat→Value} {a:Act} {w:World} (R:Rel g N bs ρ a w st) {b c c':Nat} {es es':Array MapEntry} (hf:aP id st.heap=some (.obs (Rn kv))) (e:ρ id= .tuple #[.map (some b),.map (some b)]) (hh:w.heap[b]? =some (.map es c)) (hp:pairs es'.toList=kv') (hs:MapKept.Stamped es' c'):
  Rel g N bs ρ a {w with heap:=w.heap.setIfInBounds b (.map es' c')} ⟨st.sl,setObj id (.obs (Rn kv')) st.heap,st.back,st.base⟩:=by
 have hlt:b<w.heap.size:=(Array.getElem?_eq_some_iff.1 hh).1
 refine R.write hf (b:=b) (by rw[e];simp[blks,jm]) ⟨rfl,rfl,rfl,by simp,fun k hk=>by simp[Array.getElem?_setIfInBounds,show b≠k by omega]⟩ (by simp) (fun k hk=>by simp[Array.getElem?_setIfInBounds,Ne.symm hk]) fun _ _=>?_
 exact⟨_,e,b,es',c',e,by simp[aC,hlt],hp,hs⟩
variable {x i y:Operand} {c:Call} {QG:TypeId} (hK:Ue P kt q) (ht:P.underlying t=some (.map kt et)) {kx vx:AV} (hx:st.ev x= .own id) (hf:aP id st.heap=some (.obs (Rn kv))) (hi:st.ev i=kx) (hk:Whole kx k) (hq:q k)
include hK ht hx hf hi hk hq
theorem nS.look (hz: ∀w,(zeroValue et).run P w= .ok v w) (hv:Whole vx v) (hno: ∀p∈kv,q p.1∧p.1≠k) (h:K (.dF [vx,.v (.bool false)]) st):nS P st (.lookup t x i true) K:=by
 refine .q _ h fun g N bs ρ a w o ho R=>?_
 obtain⟨b,es,c,e,hh,hp,hs⟩:=L9 R hf
 have e2:a.eval i=k:=hk.1 _ _ (by rw[←hi];exact R.ev i)
 refine⟨_,⟨[v,.bool false],rfl,aI.cons (hv.2 _) (aI.cons rfl aI.nil)⟩, ?_⟩
 simp only[execOp,ho,Uh R hx e,e2,Sem.run_bind,OM ht hh (hK.chk _ _ w hq) (Ug hK hq hp hno) (hz w),Result.andThen_ok,Sem.run_pure]
 rfl
theorem nS.Ui {A B:List (Value×Value)} (hz: ∃z,∀w,(zeroValue et).run P w= .ok z w) (hv:Whole vx v) (hs0:kv=A++(k,v)::B) (hall: ∀p∈kv,q p.1) (h:K (.dF [vx,.v (.bool true)]) st):nS P st (.lookup t x i true) K:=by
 refine .q _ h fun g N bs ρ a w o ho R=>?_
 obtain⟨b,es,c,e,hh,hp,hs⟩:=L9 R hf
 have e2:a.eval i=k:=hk.1 _ _ (by rw[←hi];exact R.ev i)
 obtain⟨z,hz⟩:=hz
 obtain⟨_,_,_,_,h4⟩:=OL (w:=w) hK hq hs (hp.trans hs0) (by rw[←hs0];exact hall)
 refine⟨_,⟨[v,.bool true],rfl,aI.cons (hv.2 _) (aI.cons rfl aI.nil)⟩, ?_⟩
 simp only[execOp,ho,Uh R hx e,e2,Sem.run_bind,OM ht hh (hK.chk _ _ w hq) h4 (hz w),Result.andThen_ok,Sem.run_pure]
 rfl
theorem nS.aeO (hy:st.ev y=vx) (hv:Whole vx v) (hno: ∀p∈kv,q p.1∧p.1≠k) (h:K (.v undef) ⟨st.sl,setObj id (.obs (Rn (kv++[(k,v)]))) st.heap,st.back,st.base⟩):nS P st (.mapUpdate t x i y) K:=by
 refine .mk rfl fun g N bs ρ a w o next Q ho R hk'=>?_
 obtain⟨b,es,c,e,hh,hp,hs⟩:=L9 R hf
 have e2:a.eval i=k:=hk.1 _ _ (by rw[←hi];exact R.ev i)
 have e3:a.eval y=v:=hv.1 _ _ (by rw[←hy];exact R.ev y)
 have hrun:(execOp a.eval o).run P w= .ok .skip {w with heap:=w.heap.setIfInBounds b (.map (es.push {key:=k,val:=v,born:=c}) (c+1))}:=by
  simp[execOp,ho,Uh R hx e,e2,e3,OO ht hh (hK.chk _ _ w hq) (Ug hK hq hp hno)]
 unfold Oper.wp
 rw[hrun]
 refine hk' _ _ _ _ _ h (OQ R hf e hh (by simp[pairs,←hp]) (MapKept.stamped_push hs fun x hxm hxk=>?_)) rfl
 exact(hno (x.key,x.val) (by rw[←hp];exact List.mem_map.2 ⟨x,hxm,rfl⟩)).2 hxk
theorem nS.aeP (hc:c.callee= .builtin .delete) (hca:c.args= #[x,i]) (hct:c.argTypes= #[t,QG]) {A B:List (Value×Value)} (hs0:kv=A++(k,v)::B) (hall: ∀p∈kv,q p.1) (h:K (.dF []) ⟨st.sl,setObj id (.obs (Rn (A++B))) st.heap,st.back,st.base⟩):nS P st (.call c) K:=by
 refine .mk (by unfold lH;split<;>simp_all) fun g N bs ρ a w o next Q ho R hk'=>?_
 obtain⟨b,es,cc,e,hh,hp,hs⟩:=L9 R hf
 have e2:a.eval i=k:=hk.1 _ _ (by rw[←hi];exact R.ev i)
 obtain⟨en,g1,_,_,h4⟩:=OL (w:=w) hK hq hs (hp.trans hs0) (by rw[←hs0];exact hall)
 have hrun:(execOp a.eval o).run P w= .ok (.value (.tuple #[])) {w with heap:=w.heap.setIfInBounds b (.map (es.eraseIdxIfInBounds A.length) cc)}:=by
  simp only[execOp,ho,resolve,hc,hca,hct,Sem.run_bind,Sem.run_pure,Result.andThen_ok,invoke]
  simp[builtin,Uh R hx e,e2,aa3 ht hh (hK.chk _ _ w hq) h4,Sem.run_bind,Result.andThen]
 unfold Oper.wp
 rw[hrun]
 refine hk' _ _ _ _ _ h (OQ R hf e hh ?_ (MapKept.stamped_erase hs _)) ⟨[],rfl,aI.nil⟩
 have:(es.eraseIdxIfInBounds A.length).toList=es.toList.eraseIdx A.length:=by simp
 rw[this,List.eraseIdx_eq_take_drop_succ,pairs,List.map_append,List.map_take,List.map_drop,show es.toList.map (fun e=>(e.key,e.val))=A++(k,v)::B from hp.trans hs0]
 simp
omit hK ht hx hf hi hk hq
theorem nS.del (hc:c.callee= .builtin .delete) (hca:c.args= #[x,i]) (hct:c.argTypes= #[t,QG]) (hK:Ue P kt q) (ht:P.underlying t=some (.map kt et)) (hx:st.ev x= .own id) (hf:aP id st.heap=some (.obs (Rn kv))) (hi:st.ev i=kx) (hk:Whole kx k) (hq:q k)
  {A B:List (Value×Value)} (hs0:kv=A++(k,v)::B) (hall: ∀p∈kv,q p.1) (h:K (.dF []) ⟨st.sl,setObj id (.obs (Rn (A++B))) st.heap,st.back,st.base⟩):nS P st (.call c) K:= .aeP hK ht hx hf hi hk hq hc hca hct hs0 hall h
theorem nS.mkM (h:nameOf st (fun d=>K (.own d) (st.obj d d (.obs (Rn []))))):nS P st (.makeMap t none) K:=by
 rw[iW]at h
 refine .mk rfl fun g N bs ρ a w o next Q ho R hk'=>?_
 have hrun:(execOp a.eval o).run P w= .ok (.value (.map (some w.heap.size))) (w.alloc (.map #[] 0)):=by
  simp[execOp,ho,Instr.makeMap,Result.andThen,Sem.run_bind]
 unfold Oper.wp
 rw[hrun]
 refine hk' _ _ _ (dD ρ st.base (.tuple #[.map (some w.heap.size),.map (some w.heap.size)])) _ h (R.obj st.base st.base (R.below.alloc R.below.size _) (by simp) (fun b hb _=>Below.heap_alloc w _ b hb) (fun b hb=>?_) (fun _=>?_)) (by simp[C2,C1,C0,aC,dD,eP])
 · rw[show b=w.heap.size from by simpa[blks,jm]using hb];exact .inl (Nat.le_refl _)
 · have e:dD ρ st.base (.tuple #[.map (some w.heap.size),.map (some w.heap.size)]) st.base= .tuple #[.map (some w.heap.size),.map (some w.heap.size)]:=by simp[dD]
   exact⟨_,e,w.heap.size, #[],0,e,heap_alloc_new w _,rfl,MapKept.stamped_empty 0⟩
end
end
section
open Go.RowKit
def aW.vs (c:aW):List Value:=[.int .i64 c.c0,.int .i64 c.c1,.int .i64 c.c2,.int .i64 c.c3,.int .i64 c.c4]
def Ev.vs (e:Ev):List Value:=[.int .i64 e.r,.int .i64 e.n,.int .i64 e.c.c0,.int .i64 e.c.c1,.int .i64 e.c.c2,.int .i64 e.c.c3,.int .i64 e.c.c4,.int .i64 e.h,.int .i64 e.k,.string e.key,.int .i64 e.l,.string e.v]
theorem YJ (n:Nat) (a0 a1 a2 a3 a4 b0 b1 b2 b3 b4:Int) (w:World):(Op.equalIn (n+2) 31 (.agg #[.int .i64 a0,.int .i64 a1,.int .i64 a2,.int .i64 a3,.int .i64 a4]) (.agg #[.int .i64 b0,.int .i64 b1,.int .i64 b2,.int .i64 b3,.int .i64 b4])).run Tryz.prog w=
  .ok (decide (a0=b0∧a1=b1∧a2=b2∧a3=b3∧a4=b4)) w:=by
 rw[Op.equalIn]
 simp only[Sem.run_bind,run_underlying Tryz.underlying31,Result.andThen_ok]
 simp only[Std.Legacy.Range.forIn_eq_forIn_range',Std.Legacy.Range.size,Nat.sub_zero,Nat.add_sub_cancel,Nat.div_one,List.range'_succ,List.range'_zero,List.forIn_cons,List.forIn_nil]
 have u3:=Tryz.underlying3
 have a3:=Tryz.isAgg3
 have z3:=Tryz.sizeOf3
 go_simp
 repeat' split
 all_goals simp_all
theorem aW.eq_iff (a b:aW):(a.c0=b.c0∧a.c1=b.c1∧a.c2=b.c2∧a.c3=b.c3∧a.c4=b.c4)↔a=b:=by
 obtain⟨a0,a1,a2,a3,a4⟩:=a
 obtain⟨b0,b1,b2,b3,b4⟩:=b
 simp
theorem Vu:Tryz.prog.eqGuardType Tryz.prog.depth 31=false:=by kernel_rfl
theorem fZ (a b:aW):KO Tryz.prog 31 a.vs b.vs (a=b):=
 ⟨Vu,fun w=>⟨_,by rw[decide_eq_true_eq,aW.eq_iff],YJ 9998 _ _ _ _ _ _ _ _ _ _ w⟩⟩
theorem Ev.eq_iff (a b:Ev):(a.r=b.r∧a.n=b.n∧(a.c.c0=b.c.c0∧a.c.c1=b.c.c1∧a.c.c2=b.c.c2∧a.c.c3=b.c.c3∧a.c.c4=b.c.c4)∧a.h=b.h∧a.k=b.k∧a.key=b.key∧a.l=b.l∧a.v=b.v)↔a=b:=by
 rw[aW.eq_iff]
 obtain⟨a0,a1,a2,a3,a4,a5,a6,a7⟩:=a
 obtain⟨b0,b1,b2,b3,b4,b5,b6,b7⟩:=b
 simp
end
end Go.Proofs.YtimhagicagdkfaaGreat
