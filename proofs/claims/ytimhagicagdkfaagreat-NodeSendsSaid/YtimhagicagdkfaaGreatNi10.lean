/-
  Contracts of the walk:BkO,Ch,Mk1,Cf,NdF,AmO,PmO.
-/
import Derived.Test.YtimhagicagdkfaaGreatNi6
import Derived.Test.YtimhagicagdkfaaGreatNi9
import Derived.Test.YtimhagicagdkfaaGreatNi8
set_option maxHeartbeats 16000000
set_option maxRecDepth 100000
set_option linter.unusedVariables false
set_option linter.unusedSimpArgs false
namespace Go.Proofs.YtimhagicagdkfaaGreat
section
open Go.ChangeShapes Go.WideShapes Go.ChangeAt Go.RowKit
def Ev.rng (e:Ev):Prop:=e.key.size≤140737488355328∧e.v.size≤140737488355328
section
variable {H:Type} {enc:TypeId×Value→H} {w:World} {spare:Nat→Bool} {held:Bool} {v:Value} {d:DataW H} {p:List MemPlace} {r:Reach} {b0:Nat}
end
end
section
open Go.ChangeShapes Go.WideShapes Go.ChangeAt Go.RowKit
structure Wy where
 (r f:Int) (sy:Bool) (k:Int) (key:ByteArray) (l:Int) (v:ByteArray)
instance:Inhabited Wy:=⟨⟨0,0,false,0,⟨#[]⟩,0,⟨#[]⟩⟩⟩
def Wy.cs (c:Wy):List AV:=[.v (.int .u8 c.r),.v (.int .u8 c.f),.v (.bool c.sy),.v (.int .i64 c.k),.v (.string c.key),.v (.int .i64 c.l),.v (.string c.v)]
def Wy.av (c:Wy):AV:= .agg c.cs
def Wy.rng (c:Wy):Prop:=(0≤c.r∧c.r≤255)∧(0≤c.f∧c.f≤255)∧ -9223372036854775808≤c.k∧c.k≤9223372036854775807∧ -9223372036854775808≤c.l∧c.l≤9223372036854775807∧c.key.size≤140737488355328∧c.v.size≤140737488355328
section
variable {H:Type} {enc:TypeId×Value→H} {w:World} {spare:Nat→Bool} {held:Bool} {v:Value} {d:DataW H} {p:List MemPlace} {r:Reach} {b0:Nat}
theorem aav {t:TypeId} {k:IntKind} (ht:Tryz.prog.underlying t=some (.int k)) (hv:Value.okWide Tryz.prog w r b0 t v) (h:DataW.Trod enc Tryz.prog w 0 spare held t v d p) (hw: ∀n∈d.weights Tryz.prog t,n≤reachBytes): ∃n:Int,(Lit.int k n).wf=true∧C1 ⟨w,allOf w,fun _=>undef⟩ (.v (.int k n)) v:=by
 obtain⟨n,rfl⟩:=okWide_int ht hv
 obtain⟨x,⟨m,e,hm⟩,hc⟩:=SL (uq ht) (fun _ ⟨l,e,_⟩=>by rw[e];rfl) h hw rfl
 cases e
 exact⟨m,hm,hc⟩
end
end
section
open Go.RowKit
def Hq (a b:Int):Int:=if b>a then b else a
def bn.join (a b:bn):bn:=⟨Hq a.c0 b.c0,Hq a.c1 b.c1,Hq a.c2 b.c2,Hq a.c3 b.c3,Hq a.c4 b.c4⟩
def bn.le (a b:bn):Bool:=decide (a.c0≤b.c0∧a.c1≤b.c1∧a.c2≤b.c2∧a.c3≤b.c3∧a.c4≤b.c4)
def oZ (c:bn) (s:Int×Bool) (e:Ev):Int×Bool:=if(hasB c e.r e.n&&(!s.2||decide (s.1<e.h)))=true then(e.h,true)else s
def FP (c:bn) (l:List Ev):Int×Bool:=l.foldl (oZ c) (0,false)
def hgt (l:List Ev) (c:bn):Int:=(FP c l).1+1
theorem pV {α β:Type} [Inhabited α] {f:β→α→β} {b:β} {l:List α} {j:Nat} (h:j<l.length):(l.take (j+1)).foldl f b=f ((l.take j).foldl f b) (l.getD j default):=by
 rw[List.take_add_one,List.getElem?_eq_getElem h,List.getD,List.getElem?_eq_getElem h,List.foldl_append]
 rfl
theorem FQ {c:bn} {M:Int} (hM:0≤M): ∀ (l:List Ev),(∀e∈l,0≤e.h∧e.h≤M)→ ∀s:Int×Bool,0≤s.1∧s.1≤M→0≤(l.foldl (oZ c) s).1∧(l.foldl (oZ c) s).1≤M
  |[],_,s,hs=>hs
  | e::l,h,s,hs=>by
    rw[List.foldl_cons]
    refine FQ hM l (fun x hx=>h x (List.mem_cons_of_mem _ hx)) _ ?_
    unfold oZ
    split
    · exact h e List.mem_cons_self
    · exact hs
theorem aaw {c:bn} {M:Int} (hM:0≤M) {l:List Ev} (h: ∀e∈l,0≤e.h∧e.h≤M):1≤hgt l c∧hgt l c≤M+1:=by
 have:=FQ (c:=c) hM l h (0,false) ⟨by simp,hM⟩
 unfold hgt FP
 omega
end
section
open Go.RowKit
structure nJ where
 (n w q h l p:Int)
def nJ.cs (c:nJ):List AV:=[.v (.int .i64 c.n),.v (.int .i64 c.w),.v (.int .i64 c.q),.v (.int .i64 c.h),.v (.int .i64 c.l),.v (.int .i64 c.p)]
def nJ.av (c:nJ):AV:= .agg c.cs
def X7 (n m:Int):Bool:=decide (1≤n)&&decide (n≤m)
def La (c:nJ):Bool:=X7 c.n 5&&X7 c.w 4&&X7 c.q 8&&X7 c.h 20&&X7 c.l 4&&X7 c.p 3
theorem Eb {n m:Int}:X7 n m=true↔1≤n∧n≤m:=by simp[X7]
theorem UM (n m:Int):aG Tryz.prog 64 [.v (.int .i64 n),.v (.int .i64 m)] (.v (.bool (X7 n m))) []:=by
 refine K1.E 0x13 Tryz.func64 ?_
 repeat' ((conv=>whnf);first|refine K1.w ?_|refine K1.u ?_|refine aJ.dR ?_|refine K1.z ?_|refine K1.y (fun _=>?_) (fun _=>?_)|fail)
 all_goals(conv=>whnf)
 all_goals(refine bG.mk (aT.of ?_))
 all_goals simp[X7, *]
theorem UN (c:nJ):aG Tryz.prog 27 [c.av] (.v (.bool (La c))) []:=by
 obtain⟨n,w,q,h,l,p⟩:=c
 dsimp only[nJ.av,nJ.cs]
 refine K1.E 0x7 Tryz.func27 ?_
 repeat' ((conv=>whnf);first|refine K1.w ?_|refine K1.u ?_|refine K1.P1 (UM _ _) rfl ?_|refine aJ.dR ?_|refine K1.z ?_|refine K1.y (fun _=>?_) (fun _=>?_)|fail)
 all_goals(conv=>whnf)
 all_goals(refine bG.mk (aT.of ?_))
 all_goals simp[La, *]
theorem acz {c:nJ} (h:La c=true): ∃n:Nat,c.n=(n:Int)∧1≤n∧n≤5:=by
 simp only[La,Bool.and_eq_true]at h
 have h1:=Eb.1 h.1.1.1.1.1
 exact⟨c.n.toNat,by omega,by omega,by omega⟩
def mN (m x:Int):Int:=(x.tmod m+m)%m
theorem Jc (x m:Int) (hm:0<m): -m<x.tmod m∧x.tmod m<m:=⟨by have:=Int.lt_tmod_of_pos x hm;omega,Int.tmod_lt_of_pos x hm⟩
theorem Jd (m x:Int) (hm:0<m):0≤mN m x∧mN m x<m:=⟨Int.emod_nonneg _ (by omega),Int.emod_lt_of_pos _ hm⟩
def SN (c:nJ):nJ:=⟨1+mN 5 c.n,1+mN 4 c.w,1+mN 8 c.q,1+mN 20 c.h,1+mN 4 c.l,1+mN 3 c.p⟩
theorem UO (c:nJ):La (SN c)=true:=by
 have h1:=Jd 5 c.n (by omega);have h2:=Jd 4 c.w (by omega);have h3:=Jd 8 c.q (by omega)
 have h4:=Jd 20 c.h (by omega);have h5:=Jd 4 c.l (by omega);have h6:=Jd 3 c.p (by omega)
 have f: ∀ {m x:Int},0≤x∧x<m→X7 (1+x) m=true:=fun h=>Eb.2 (by omega)
 simp only[La,Bool.and_eq_true]
 exact⟨⟨⟨⟨⟨f h1,f h2⟩,f h3⟩,f h4⟩,f h5⟩,f h6⟩
theorem QB (c:nJ):aG Tryz.prog 12 [c.av] (SN c).av []:=by
 have h1:=Jc c.n 5 (by omega);have h2:=Jc c.w 4 (by omega);have h3:=Jc c.q 8 (by omega)
 have h4:=Jc c.h 20 (by omega);have h5:=Jc c.l 4 (by omega);have h6:=Jc c.p 3 (by omega)
 obtain⟨n,w,q,h,l,p⟩:=c
 dsimp only[nJ.av,nJ.cs,SN,mN]at*
 refine K1.E 0x7 Tryz.func12 ?_
 repeat' ((conv=>whnf);first|refine K1.w ?_|refine K1.u ?_|refine Rm.pos (by omega) (by omega) ?_|refine Rm.raw (by decide) ?_|refine aJ.dR ?_|refine K1.z ?_|refine K1.y (fun _=>?_) (fun _=>?_)|fail)
 all_goals(conv=>whnf)
 all_goals exact bG.mk (aj)
end
section
open Go.RowKit
def Ar (l:List Cont) (key:ByteArray):Int:=match l.findIdx? (fun c=>decide (c.key=key))with|some i=>(i:Int)|none=> -1
def inS (s:List (List UInt8)) (v:ByteArray):Bool:=s.any fun x=>decide (v=⟨x.toArray⟩)
theorem SQ {l:List Cont} {key:ByteArray} {j:Nat} (hj:j<l.length) (hq: ∀i,i<j→(l.getD i default).key≠key) (h:(l.getD j default).key=key):Ar l key=j:=by
 have:l.findIdx? (fun c=>decide (c.key=key))=some j:=by
  rw[List.findIdx?_eq_some_iff_getElem]
  refine⟨hj, ?_,fun i hi=>?_⟩
  · rw[show l[j]=l.getD j default by simp[List.getD,hj]]
    exact decide_eq_true h
  · have:=hq i hi
    rw[show l.getD i default=l[i] by simp[List.getD,show i<l.length by omega]]at this
    simpa using this
 unfold Ar
 rw[this]
theorem aax {l:List Cont} {key:ByteArray} (hq: ∀i,i<l.length→(l.getD i default).key≠key):Ar l key= -1:=by
 have:l.findIdx? (fun c=>decide (c.key=key))=none:=by
  rw[List.findIdx?_eq_none_iff]
  intro c hc
  obtain⟨i,hi,rfl⟩:=List.getElem_of_mem hc
  have:=hq i hi
  rw[show l.getD i default=l[i] by simp[List.getD,hi]]at this
  simpa using this
 unfold Ar
 rw[this]
theorem aay (l:List Cont) (key:ByteArray):Ar l key= -1∨ ∃i:Nat,i<l.length∧Ar l key=i:=by
 unfold Ar
 cases h:l.findIdx? (fun c=>decide (c.key=key))with
 |none=>exact .inl rfl
 |some i=>exact .inr ⟨i,(List.findIdx?_eq_some_iff_getElem.1 h).1,rfl⟩
theorem acA (ed:Ed) (l:List Cont) (hl:l.length≤1000000000):aW Tryz.prog 86 [(0,.box 64 ed.cs)] [.sl 7 l.length false (Qx l),.fn 87 [.box 0 0]] (.v (.int .i64 (Ar l ed.key))) [(0,.box 64 ed.cs)]:=by
 dsimp only[Ed.cs]
 refine K1.M 0x103b3 Tryz.func86 10 ?_
 repeat' ((conv=>whnf);first|refine K1.w ?_|refine K1.u ?_|refine K1.z ?_|refine K1.y (fun _=>?_) (fun _=>?_)|fail)
 conv=>whnf
 refine aN.mk {j:Nat//j≤l.length∧ ∀i,i<j→(l.getD i default).key≠ed.key} (fun j=>⟨[(8,.v (.int .i64 (j.1:Int))),(7,.v (.int .i64 (l.length:Int))),(0,.sl 7 l.length false (Qx l)),(1,.fn 87 [.box 0 0])],[(0,.box 64 [.v (.int .i64 ed.k),.v (.string ed.key),.v (.int .i64 ed.l),.v (.string ed.v)])],[[(0,.box 0 0)]],11⟩)
  (fun j=>l.length-j.1) ⟨0,Nat.zero_le _,fun i h=>absurd h (Nat.not_lt_zero i)⟩ _ (dO.mk' [] _ _ _ rfl ⟨aT.int rfl,aj,aj,aj,trivial⟩ ⟨aH rfl,trivial⟩ rfl) ?_
 rintro⟨j,hj,hq⟩
 dsimp only
 by_cases hjl:j<l.length
 · by_cases hk:(l.getD j default).key=ed.key
   · rw[SQ hjl hq hk]
     have hk:(l.getD (j:Int).toNat default).key=ed.key:=hk
     clear hq
     repeat' ((conv=>whnf);first|refine K1.w ?_|refine K1.u ?_|refine K1.I 0xf Tryz.func87 ?_|refine K1.z ?_|refine K1.y (fun _=>?_) (fun _=>?_)|fail)
     all_goals(conv=>whnf)
     exact⟨[],rfl,rfl,⟨aH rfl,trivial⟩,rfl,rfl,aj⟩
   · have hq2: ∀i,i<j+1→(l.getD i default).key≠ed.key:=fun i hi=>by
      rcases Nat.lt_or_ge i j with h|h
      · exact hq i h
      · obtain rfl:=Nat.le_antisymm (Nat.le_of_lt_succ hi) h
        exact hk
     have hk: ¬ (l.getD (j:Int).toNat default).key=ed.key:=hk
     clear hq
     repeat' ((conv=>whnf);first|refine K1.w ?_|refine K1.u ?_|refine K1.I 0xf Tryz.func87 ?_|refine K1.z ?_|refine K1.y (fun _=>?_) (fun _=>?_)|fail)
     all_goals(conv=>whnf)
     exact⟨⟨j+1,hjl,hq2⟩,_,dO.mk' [] _ _ _ rfl ⟨aT.int rfl,aj,aj,aj,trivial⟩ ⟨aH rfl,trivial⟩ rfl,by show l.length-(j+1)<l.length-j;omega⟩
 · obtain rfl:j=l.length:=by omega
   rw[aax hq]
   repeat' ((conv=>whnf);first|refine K1.w ?_|refine K1.u ?_|refine K1.z ?_|refine K1.y (fun _=>?_) (fun _=>?_)|fail)
   all_goals(conv=>whnf)
   exact⟨[],rfl,rfl,⟨aH rfl,trivial⟩,rfl,rfl,aj⟩
theorem Je (s:List (List UInt8)) (v:ByteArray) (hl:s.length≤1000000000):aG Tryz.prog 88 [.sl 1 s.length true (iy s),.v (.string v)] (.v (.bool (inS s v))) []:=by
 refine K1.E 0x13 Tryz.func88 ?_
 repeat' ((conv=>whnf);first|refine K1.w ?_|refine K1.u ?_|refine K1.I 0x103b3 Tryz.func118 ?_|refine K1.z ?_|refine K1.y (fun _=>?_) (fun _=>?_)|fail)
 conv=>whnf
 refine aN.mk {j:Nat//j≤s.length∧ ∀i,i<j→ ¬v=⟨(s.getD i []).toArray⟩} (fun j=>⟨[(8,.v (.int .i64 (j.1:Int))),(7,.v (.int .i64 (s.length:Int))),(0,.sl 1 s.length true (iy s)),(1,.v (.string v))],[],
   [[(6,.v (.string v)),(5,.sl 1 s.length true (iy s)),(4,.v (.bool false)),(0,.sl 1 s.length true (iy s)),(1,.v (.string v))]],0⟩)
  (fun j=>s.length-j.1) ⟨0,Nat.zero_le _,fun i h=>absurd h (Nat.not_lt_zero i)⟩ _ (dO.mk' [] _ _ _ rfl ⟨aT.int rfl,aj,aj,aj,trivial⟩ trivial rfl) ?_
 rintro⟨j,hj,hq⟩
 dsimp only
 by_cases hjl:j<s.length
 · by_cases hk:v=⟨(s.getD j []).toArray⟩
   · have hin:inS s v=true:=List.any_eq_true.2 ⟨s[j],List.getElem_mem hjl,by rw[show s.getD j []=s[j] by simp[List.getD,hjl]]at hk;exact decide_eq_true hk⟩
     rw[hin]
     have hk:v=⟨(s.getD (j:Int).toNat []).toArray⟩:=hk
     clear hq
     repeat' ((conv=>whnf);first|refine K1.w ?_|refine K1.u ?_|refine yj.yes hk ?_|refine aJ.dR ?_|refine K1.z ?_|refine K1.y (fun _=>?_) (fun _=>?_)|fail)
     all_goals(conv=>whnf)
     exact bG.mk (aj)
   · have hq2: ∀i,i<j+1→ ¬v=⟨(s.getD i []).toArray⟩:=fun i hi=>by
      rcases Nat.lt_or_ge i j with h|h
      · exact hq i h
      · obtain rfl:=Nat.le_antisymm (Nat.le_of_lt_succ hi) h
        exact hk
     have hk: ¬v=⟨(s.getD (j:Int).toNat []).toArray⟩:=hk
     clear hq
     repeat' ((conv=>whnf);first|refine K1.w ?_|refine K1.u ?_|refine yj.no hk ?_|refine K1.z ?_|refine K1.y (fun _=>?_) (fun _=>?_)|fail)
     all_goals(conv=>whnf)
     exact⟨⟨j+1,hjl,hq2⟩,_,dO.mk' [] _ _ _ rfl ⟨aT.int rfl,aj,aj,aj,trivial⟩ trivial rfl,by show s.length-(j+1)<s.length-j;omega⟩
 · obtain rfl:j=s.length:=by omega
   have hin:inS s v=false:=by
    rw[Bool.eq_false_iff]
    intro h
    obtain⟨x,hx,hv⟩:=List.any_eq_true.1 h
    obtain⟨i,hi,rfl⟩:=List.getElem_of_mem hx
    exact hq i hi (by rw[show s.getD i []=s[i] by simp[List.getD,hi]];exact of_decide_eq_true hv)
   rw[hin]
   repeat' ((conv=>whnf);first|refine K1.w ?_|refine K1.u ?_|refine aJ.dR ?_|refine K1.z ?_|refine K1.y (fun _=>?_) (fun _=>?_)|fail)
   all_goals(conv=>whnf)
   exact bG.mk (aj)
def UQ (c:Cont) (n:Int):List (List UInt8):=if n=0 then c.s0 else c.s1
def nS (cL cP:Int) (l:List Cont) (e:Ed):Int:=
 if jF e≠0 then jF e
 else if e.k=1 then(if Ar l e.key= -1 then(if cL≤(l.length:Int)then 15 else 0)else 13)
 else if Ar l e.key= -1 then 14
 else if e.k=4 then(if cP≤((UQ (l.getD (Ar l e.key).toNat default) e.l).length:Int)then 15 else 0)
 else if e.k=5 then(if inS (UQ (l.getD (Ar l e.key).toNat default) e.l) e.v=true then 0 else 16)
 else 0
theorem uw (c:nJ) (l:List Cont) (e:Ed) (hl:l.length≤1000000) (hs: ∀x∈l,x.s0.length≤1000000∧x.s1.length≤1000000):aG Tryz.prog 49 [c.av,.sl 7 l.length false (Qx l),e.av] (.v (.int .i64 (nS c.l c.p l e))) []:=by
 have hed:=BO e
 have hix:=acA e l (by omega)
 have hin:=aay l e.key
 generalize hi:Ar l e.key=ix at hix hin
 unfold nS
 rw[hi]
 clear hi
 obtain⟨cn,cw,cq,ch,cl,cp⟩:=c
 obtain⟨k,key,lab,v⟩:=e
 dsimp only[nJ.av,nJ.cs,Ed.av,Ed.cs]at hed hix⊢
 refine NP dW 9 0x8004001a81011ef 0x43 Tryz.func49 rfl rfl rfl Tryz.func85 rfl rfl rfl (i:=6) (j:=7) rfl rfl rfl rfl rfl rfl rfl ?_
 by_cases he:jF ⟨k,key,lab,v⟩=0
 · rw [if_neg (by simp[he])]
   rw[he]at hed
   have hlab:k=4∨k=5→lab=0∨lab=1:=fun h=>by
    have g:=(qy he).2.2.2.2.2.1 (by unfold dM;rcases h with rfl|rfl<;>rfl)
    have g1:=g.1
    have g2:=g.2.1
    dsimp only at g1 g2
    omega
   clear he
   rcases hin with rfl|⟨i,hil,rfl⟩
   · rw[if_pos rfl,if_pos rfl]
     clear hlab hs
     by_cases hk1:k=1
     · rw[if_pos hk1]
       by_cases hcl:cl≤(l.length:Int)
       all_goals first|rw[if_pos hcl]|rw[if_neg hcl]
       all_goals repeat' ((conv=>whnf);first|refine K1.w ?_|refine K1.u ?_|refine K1.P1 hed rfl ?_|refine K1.C 1 [(0,_)] (hix) rfl ?_|refine qM.mk (by decide) ?_|refine aJ.dR ?_|refine K1.o (id:=16) [(0,none),(1,none),(2,none),(3,none),(4,none),(5,none),(6,none),(7,none),(8,none),(9,none),(10,none),(11,none),(12,some [11,10,7,3])] [(6,[3]),(7,[3]),(8,[7,3]),(11,[10,7,3]),(12,[11,10,7,3])] ?_|refine K1.o (id:=18) [(0,none),(1,none),(2,none),(3,none),(4,none),(5,none),(6,none),(7,none),(8,none),(9,none),(10,some [9,7,3]),(11,none)] [(6,[3]),(7,[3]),(10,[9,7,3]),(11,[9,7,3])] ?_|refine K1.z ?_|refine K1.y (fun _=>?_) (fun _=>?_)|fail)
       all_goals(conv=>whnf)
       all_goals exact bG.mk (aj)
     · rw[if_neg hk1]
       repeat' ((conv=>whnf);first|refine K1.w ?_|refine K1.u ?_|refine K1.P1 hed rfl ?_|refine K1.C 1 [(0,_)] (hix) rfl ?_|refine qM.mk (by decide) ?_|refine aJ.dR ?_|refine K1.o (id:=16) [(0,none),(1,none),(2,none),(3,none),(4,none),(5,none),(6,none),(7,none),(8,none),(9,none),(10,none),(11,none),(12,some [11,10,7,3])] [(6,[3]),(7,[3]),(8,[7,3]),(11,[10,7,3]),(12,[11,10,7,3])] ?_|refine K1.o (id:=18) [(0,none),(1,none),(2,none),(3,none),(4,none),(5,none),(6,none),(7,none),(8,none),(9,none),(10,some [9,7,3]),(11,none)] [(6,[3]),(7,[3]),(10,[9,7,3]),(11,[9,7,3])] ?_|refine K1.z ?_|refine K1.y (fun _=>?_) (fun _=>?_)|fail)
       all_goals(conv=>whnf)
       all_goals exact bG.mk (aj)
   · have hne: ¬ ((i:Int)= -1):=by omega
     rw[if_neg hne,if_neg hne,Int.toNat_natCast]
     by_cases hk1:k=1
     · rw[if_pos hk1];clear hlab hs
       repeat' ((conv=>whnf);first|refine K1.w ?_|refine K1.u ?_|refine K1.P1 hed rfl ?_|refine K1.C 1 [(0,_)] (hix) rfl ?_|refine qM.mk (by decide) ?_|refine aJ.dR ?_|refine K1.o (id:=16) [(0,none),(1,none),(2,none),(3,none),(4,none),(5,none),(6,none),(7,none),(8,none),(9,none),(10,none),(11,none),(12,some [11,10,7,3])] [(6,[3]),(7,[3]),(8,[7,3]),(11,[10,7,3]),(12,[11,10,7,3])] ?_|refine K1.o (id:=18) [(0,none),(1,none),(2,none),(3,none),(4,none),(5,none),(6,none),(7,none),(8,none),(9,none),(10,some [9,7,3]),(11,none)] [(6,[3]),(7,[3]),(10,[9,7,3]),(11,[9,7,3])] ?_|refine K1.z ?_|refine K1.y (fun _=>?_) (fun _=>?_)|fail)
       all_goals(conv=>whnf)
       all_goals exact bG.mk (aj)
     · rw [if_neg hk1]
       have hmem:l.getD i default∈l:=by rw[show l.getD i default=l[i] by simp[List.getD,hil]];exact List.getElem_mem hil
       have hb:=hs _ hmem
       have c0:=Je (l.getD i default).s0 v (by omega)
       have c1:=Je (l.getD i default).s1 v (by omega)
       clear hs hmem
       rw[show l.getD i default=l.getD (i:Int).toNat default from rfl]at c0 c1 hb⊢
       by_cases hk4:k=4
       · rw[if_pos hk4]
         rcases hlab (.inl hk4)with rfl|rfl
         all_goals first|rw[show UQ (l.getD (i:Int).toNat default) 0=(l.getD (i:Int).toNat default).s0 from rfl]|rw[show UQ (l.getD (i:Int).toNat default) 1=(l.getD (i:Int).toNat default).s1 from rfl]
         all_goals split
         all_goals repeat' ((conv=>whnf);first|refine K1.w ?_|refine K1.u ?_|refine K1.P1 hed rfl ?_|refine K1.C 1 [(0,_)] (hix) rfl ?_|refine qM.mk (by decide) ?_|refine aJ.dR ?_|refine K1.o (id:=16) [(0,none),(1,none),(2,none),(3,none),(4,none),(5,none),(6,none),(7,none),(8,none),(9,none),(10,none),(11,none),(12,some [11,10,7,3])] [(6,[3]),(7,[3]),(8,[7,3]),(11,[10,7,3]),(12,[11,10,7,3])] ?_|refine K1.o (id:=18) [(0,none),(1,none),(2,none),(3,none),(4,none),(5,none),(6,none),(7,none),(8,none),(9,none),(10,some [9,7,3]),(11,none)] [(6,[3]),(7,[3]),(10,[9,7,3]),(11,[9,7,3])] ?_|refine K1.z ?_|refine K1.y (fun _=>?_) (fun _=>?_)|fail)
         all_goals(conv=>whnf)
         all_goals exact bG.mk (aj)
       · rw[if_neg hk4]
         by_cases hk5:k=5
         · rw[if_pos hk5]
           rcases hlab (.inr hk5)with rfl|rfl
           all_goals first|rw[show UQ (l.getD (i:Int).toNat default) 0=(l.getD (i:Int).toNat default).s0 from rfl];generalize inS (l.getD (i:Int).toNat default).s0 v=b at c0⊢|rw[show UQ (l.getD (i:Int).toNat default) 1=(l.getD (i:Int).toNat default).s1 from rfl];generalize inS (l.getD (i:Int).toNat default).s1 v=b at c1⊢
           all_goals cases b
           all_goals first|rw[if_pos rfl]|rw[if_neg Bool.false_ne_true]
           all_goals repeat' ((conv=>whnf);first|refine K1.w ?_|refine K1.u ?_|refine K1.P1 hed rfl ?_|refine K1.C 1 [(0,_)] (hix) rfl ?_|refine K1.P1 c0 rfl ?_|refine K1.P1 c1 rfl ?_|refine qM.mk (by decide) ?_|refine aJ.dR ?_|refine K1.o (id:=16) [(0,none),(1,none),(2,none),(3,none),(4,none),(5,none),(6,none),(7,none),(8,none),(9,none),(10,none),(11,none),(12,some [11,10,7,3])] [(6,[3]),(7,[3]),(8,[7,3]),(11,[10,7,3]),(12,[11,10,7,3])] ?_|refine K1.o (id:=18) [(0,none),(1,none),(2,none),(3,none),(4,none),(5,none),(6,none),(7,none),(8,none),(9,none),(10,some [9,7,3]),(11,none)] [(6,[3]),(7,[3]),(10,[9,7,3]),(11,[9,7,3])] ?_|refine K1.z ?_|refine K1.y (fun _=>?_) (fun _=>?_)|fail)
           all_goals(conv=>whnf)
           all_goals exact bG.mk (aj)
         · rw[if_neg hk5]
           repeat' ((conv=>whnf);first|refine K1.w ?_|refine K1.u ?_|refine K1.P1 hed rfl ?_|refine K1.C 1 [(0,_)] (hix) rfl ?_|refine qM.mk (by decide) ?_|refine aJ.dR ?_|refine K1.o (id:=16) [(0,none),(1,none),(2,none),(3,none),(4,none),(5,none),(6,none),(7,none),(8,none),(9,none),(10,none),(11,none),(12,some [11,10,7,3])] [(6,[3]),(7,[3]),(8,[7,3]),(11,[10,7,3]),(12,[11,10,7,3])] ?_|refine K1.o (id:=18) [(0,none),(1,none),(2,none),(3,none),(4,none),(5,none),(6,none),(7,none),(8,none),(9,none),(10,some [9,7,3]),(11,none)] [(6,[3]),(7,[3]),(10,[9,7,3]),(11,[9,7,3])] ?_|refine K1.z ?_|refine K1.y (fun _=>?_) (fun _=>?_)|fail)
           all_goals(conv=>whnf)
           all_goals exact bG.mk (aj)
 · rw[if_pos he]
   generalize jF ⟨k,key,lab,v⟩=x at hed he⊢
   repeat' ((conv=>whnf);first|refine K1.w ?_|refine K1.u ?_|refine K1.P1 hed rfl ?_|refine aJ.dR ?_|refine K1.o (id:=16) [(0,none),(1,none),(2,none),(3,none),(4,none),(5,none),(6,none),(7,none),(8,none),(9,none),(10,none),(11,none),(12,some [11,10,7,3])] [(6,[3]),(7,[3]),(8,[7,3]),(11,[10,7,3]),(12,[11,10,7,3])] ?_|refine K1.o (id:=18) [(0,none),(1,none),(2,none),(3,none),(4,none),(5,none),(6,none),(7,none),(8,none),(9,none),(10,some [9,7,3]),(11,none)] [(6,[3]),(7,[3]),(10,[9,7,3]),(11,[9,7,3])] ?_|refine K1.z ?_|refine K1.y (fun _=>?_) (fun _=>?_)|fail)
   all_goals(conv=>whnf)
   all_goals exact bG.mk (aj)
end
section
open Go.RowKit
def Opens (o:OB) (j:Nat) {Y:Type} (hs:Y→List (Nat×AO)):Prop:=
 ∀ (w:World) (k:Nat→Prop) (v:Value),o.R w k v→ ∃ (y:Y) (ρ:Nat→Value),dZ (ρ j)=dZ v∧(ah ρ (hs y)).Perm (blks v)∧ ∀p∈hs y,aZ ⟨w,k,ρ⟩ p.1 p.2
def Closes (hs:List (Nat×AO)) (j:Nat) (o:OB):Prop:=
 ∀ (w:World) (k:Nat→Prop) (ρ:Nat→Value),(ah ρ hs).Nodup→(∀p∈hs,aZ ⟨w,k,ρ⟩ p.1 p.2)→ ∃us,o.R w k (.tuple us)∧dZ (.tuple us)=dZ (ρ j)∧ ∀b∈blks (.tuple us),b∈ah ρ hs
def SS (q:Nat→Bool) (j:Nat):AV→Bool
  | .own i=>q i||Nat.beq i j
  | .box i _=>q i||Nat.beq i j
  | .dP i .. =>q i
  | .ji i .. =>q i||Nat.beq i j
  | .cf _ i _=>q i||Nat.beq i j
  |_=>true
def FT (q:Nat→Bool) (j:Nat):AV→Bool
  | .agg cs=>cs.all (SS q j)
  | .fn _ cs=>cs.all (SS q j)
  |x=>SS q j x
def kC (q:Nat→Bool) (j:Nat):AV→Bool
  | .dL vs=>vs.all (FT q j)
  |x=>FT q j x
section
variable {X Y:CX} {q:Nat→Bool} {j:Nat} (hk: ∀b,X.keep b→Y.keep b) (hm:Y.w=X.w) (hρ: ∀i,q i=true→Y.ρ i=X.ρ i) (hj:dZ (Y.ρ j)=dZ (X.ρ j))
include hk hm hρ hj
theorem C0.mQ {av:AV} {u:Value} (hr:SS q j av=true) (hc:C0 X av u):C0 Y av u:=by
 have hmm: ∀b,X.keep b→Y.w.heap[b]? =X.w.heap[b]? :=fun _ _=>by rw[hm]
 have hh: ∀i,(q i||Nat.beq i j)=true→dZ (Y.ρ i)=dZ (X.ρ i):=fun i h=>by
  simp only[Bool.or_eq_true]at h
  rcases h with h|h
  · rw[hρ i h]
  · rw[Nat.eq_of_beq_eq_true h];exact hj
 cases av with
 |own id=>exact(show u=dZ (X.ρ id)from hc).trans (hh id hr).symm
 |dP id s i k=>obtain⟨b,n,c,h1,h2⟩:=hc;exact⟨b,n,c,(hρ id hr).trans h1,h2⟩
 |ji id s i k=>exact Or.imp (fun⟨b,c,h1,h2⟩=>⟨b,c,(congrArg jg (hh id hr)).trans h1,h2⟩) _root_.id hc
 |box id off=>obtain⟨b,h1,h2⟩:=hc;exact⟨b,(hh id hr).trans h1,h2⟩
 |cf gg id off=>obtain⟨b,h1,h2⟩:=hc;exact⟨b,(hh id hr).trans h1,h2⟩
 | el cs k=>
   obtain⟨b,o,us,e,kb,ha,hcell⟩:=hc
   exact⟨b,o,us,e,hk b kb,ha.imp (fun _ _=>PC.mono hk hmm),fun j y hj=>(World.cell?_of_block (hmm b kb)).trans (hcell j y hj)⟩
 |sl s n sc f=>exact PC.mono hk hmm hc
 |v x=>exact hc
 |junk=>trivial
 |agg cs=>exact hc
 |dL cs=>exact hc
 |fn g caps=>exact hc
theorem C1.mQ {av:AV} {u:Value} (hr:FT q j av=true) (hc:C1 X av u):C1 Y av u:=by
 cases av with
 |agg cs=>obtain⟨us,e,ha⟩:=hc;exact⟨us,e,ha.Hw hr fun _ _ q k=>C0.mQ hk hm hρ hj q k⟩
 |fn g cs=>obtain⟨us,e,ha⟩:=hc;exact⟨us,e,ha.Hw hr fun _ _ q k=>C0.mQ hk hm hρ hj q k⟩
 |own id=>exact C1.su (C0.mQ hk hm hρ hj (av:= .own id) hr hc)
 |dP id s i k=>exact C1.su (C0.mQ hk hm hρ hj (av:= .dP id s i k) hr hc)
 |ji id s i k=>exact C1.su (C0.mQ hk hm hρ hj (av:= .ji id s i k) hr hc)
 |box id k=>exact C1.su (C0.mQ hk hm hρ hj (av:= .box id k) hr hc)
 |cf gg id k=>exact C1.su (C0.mQ hk hm hρ hj (av:= .cf gg id k) hr hc)
 |el cs k=>exact C1.su (C0.mQ hk hm hρ hj (av:= .el cs k) hr hc)
 |sl s n sc f=>exact C1.su (C0.mQ hk hm hρ hj (av:= .sl s n sc f) hr hc)
 |v x=>exact hc
 |junk=>trivial
 |dL cs=>exact hc
theorem C2.mQ {av:AV} {u:Value} (hr:kC q j av=true) (hc:C2 X av u):C2 Y av u:=by
 cases av with
 |dL vs=>obtain⟨us,e,ha⟩:=hc;exact⟨us,e,ha.Hw hr fun _ _ q k=>C1.mQ hk hm hρ hj q k⟩
 |agg cs=>exact C2.jL (C1.mQ hk hm hρ hj (av:= .agg cs) hr hc)
 |fn g cs=>exact C2.jL (C1.mQ hk hm hρ hj (av:= .fn g cs) hr hc)
 |own id=>exact C2.jL (C1.mQ hk hm hρ hj (av:= .own id) hr hc)
 |dP id s i k=>exact C2.jL (C1.mQ hk hm hρ hj (av:= .dP id s i k) hr hc)
 |ji id s i k=>exact C2.jL (C1.mQ hk hm hρ hj (av:= .ji id s i k) hr hc)
 |box id k=>exact C2.jL (C1.mQ hk hm hρ hj (av:= .box id k) hr hc)
 |cf gg id k=>exact C2.jL (C1.mQ hk hm hρ hj (av:= .cf gg id k) hr hc)
 |el cs k=>exact C2.jL (C1.mQ hk hm hρ hj (av:= .el cs k) hr hc)
 |sl s n sc f=>exact C2.jL (C1.mQ hk hm hρ hj (av:= .sl s n sc f) hr hc)
 |v x=>exact hc
 |junk=>trivial
end
theorem rU (ρ:Nat→Value) (p:Nat×AO):ah ρ [p]=blks (ρ p.1):=by rw[aU];simp[ah]
theorem aW.opn {P:Program} {f:FuncId} {o o':OB} {j:Nat} {Y:Type} {hs:Y→List (Nat×AO)} {cu:List AV} {r:AV} {ho:List (Nat×AO)} (hE:Enters P f) (hO:Opens o j hs)
  (h: ∀y,∃hs',Closes hs' j o'∧gG j (hs y)=true∧gG j hs'=true∧aW P f (hs y) cu r (hs'++ho))
  (hb:(cu.all (FT (fun _=>false) j)&&kC (fun i=>gG i ho) j r&&jQ ho ho&& !(gG j ho))=true):aW P f [(j,.obs o)] cu r ((j,.obs o')::ho):=by
 simp only[Bool.and_eq_true,Bool.not_eq_true']at hb
 obtain⟨⟨⟨hav,hrr⟩,hcl⟩,hne⟩:=hb
 refine⟨hE,fun w keep ρ args hkeep kL hnd hbl hargs=>?_⟩
 obtain⟨us,eu,hR⟩:=kL _ (List.mem_singleton.2 rfl)
 have eu:ρ j= .tuple us:=eu
 have hR:o.R w keep (ρ j):=hR
 have hsb:=rU ρ (j,.obs o)
 rw[hsb]at hnd hbl
 obtain⟨y,ρ',hhd,hperm,hok⟩:=hO w keep (ρ j) hR
 obtain⟨hs',hC,hj1,hj2,hM⟩:=h y
 have hmem: ∀b,b∈ah ρ' (hs y)↔b∈blks (ρ j):=fun b=>hperm.mem_iff
 refine(hM.2 w keep ρ' args hkeep hok (hperm.nodup_iff.2 hnd) (fun b hb=>hbl b ((hmem b).1 hb)) (hargs.Hw hav fun _ _ q k=>C1.mQ (X:=⟨w,keep,ρ⟩) (Y:=⟨w,keep,ρ'⟩) (fun _ h=>h) rfl (fun _ h=>by cases h) hhd q k)).mono ?_
 rintro e w' ⟨u,Ib,rfl,hbel,hfix,hc,hout,hnd',hnew⟩
 rw[gV,List.nodup_append]at hnd'
 obtain⟨hn1,hn2,hn3⟩:=hnd'
 obtain⟨vs,hR',aaz,hbs⟩:=hC w' (aI (gU w keep (fun b=>b∈ah ρ' (hs y))) w' Ib (hs'++ho)) Ib hn1 (fun p hp=>hout p (List.mem_append_left _ hp))
 let Bl:Nat→Value:=fun i=>if i=j then .tuple vs else Ib i
 have X8:Bl j= .tuple vs:=by simp[Bl]
 have e4: ∀i,gG i ho=true→Bl i=Ib i:=fun i hi=>by
  have:i≠j:=by rintro rfl;rw[hne]at hi;cases hi
  simp[Bl,this]
 have hb4:ah Bl ((j,.obs o')::ho)=blks (.tuple vs)++ah Ib ho:=by
  rw[aU,jo fun p hp=>e4 p.1 (fG.2 ⟨p,hp,rfl⟩)]
  show blks (Bl j)++_=_
  rw[X8]
 have NY: ∀b,b∈ah Bl ((j,.obs o')::ho)→b∈ah Ib (hs'++ho):=fun b hb=>by
  rw[hb4]at hb
  rw[gV]
  exact(List.mem_append.1 hb).elim (fun h=>List.mem_append_left _ (hbs b h)) (fun h=>List.mem_append_right _ h)
 have hk4: ∀b,aI (gU w keep (fun b=>b∈ah ρ' (hs y))) w' Ib (hs'++ho) b→aI (gU w keep (fun b=>b∈ah ρ [(j,.obs o)])) w' Bl ((j,.obs o')::ho) b:=by
  rintro b ⟨h1,h2,h3⟩
  exact⟨h1,fun hlt=>(h2 hlt).imp id fun h=>(by show b∈ah ρ [(j,.obs o)];rw[hsb];exact(hmem b).1 h),fun h=>h3 (NY b h)⟩
 refine⟨u,Bl,rfl,⟨hbel.os,hbel.tape,hbel.output,hbel.size,fun k hk hM'=>hbel.block k hk fun h=>hM' (by rw[hsb];exact(hmem k).1 h)⟩, ?_, ?_, ?_, ?_, ?_⟩
 · intro p hp q hq eq
   obtain rfl:=List.mem_singleton.1 hp
   refine .inr ⟨⟨vs,X8⟩,⟨us,eu⟩, ?_⟩
   show dZ (Bl j)=dZ (ρ j)
   rw[X8,aaz,←hhd]
   obtain⟨p',hp',ep⟩:=fG.1 hj1
   obtain⟨q',hq',eq'⟩:=fG.1 hj2
   have:=(hfix p' hp' q' (List.mem_append_left _ hq') (eq'.trans ep.symm)).hd
   rw[ep]at this
   exact this
 · exact C2.mQ (X:=aB (gU w keep (fun b=>b∈ah ρ' (hs y))) w' Ib (hs'++ho)) (Y:=aB (gU w keep (fun b=>b∈ah ρ [(j,.obs o)])) w' Bl ((j,.obs o')::ho)) hk4 rfl e4 (by show dZ (Bl j)=dZ (Ib j);rw[X8,aaz]) hrr hc
 · intro p hp
   rcases List.mem_cons.1 hp with rfl|hp
   · refine⟨vs,X8, ?_⟩
     show o'.R w' _ (Bl j)
     rw[X8]
     exact o'.mono hk4 (fun _ _=>rfl) (fun _ _=>rfl) hR'
   · exact aZ.over (X:=aB (gU w keep (fun b=>b∈ah ρ' (hs y))) w' Ib (hs'++ho)) (Y:=aB (gU w keep (fun b=>b∈ah ρ [(j,.obs o)])) w' Bl ((j,.obs o')::ho)) hk4 rfl e4 (fG.2 ⟨p,hp,rfl⟩) (oI hcl p hp) (hout p (List.mem_append_right _ hp))
 · rw[hb4,List.nodup_append]
   exact⟨(o'.lt hR').2.2,hn2,fun a ha b hb=>hn3 a (hbs a ha) b hb⟩
 · intro b hb
   rcases hnew b (NY b hb)with h|h
   · exact .inl h
   · exact .inr (by rw[hsb];exact(hmem b).1 h)
theorem aW.cls {P:Program} {f:FuncId} {o':OB} {j:Nat} {cu:List AV} {r:AV} {hs' ho:List (Nat×AO)} (hC:Closes hs' j o') (hM:aW P f [] cu r (hs'++ho))
  (hb:(kC (fun i=>gG i ho) j r&&jQ ho ho&& !(gG j ho))=true):aW P f [] cu r ((j,.obs o')::ho):=by
 simp only[Bool.and_eq_true,Bool.not_eq_true']at hb
 obtain⟨⟨hrr,hcl⟩,hne⟩:=hb
 refine⟨hM.1,fun w keep ρ args hkeep kL hnd hbl hargs=>(hM.2 w keep ρ args hkeep kL hnd hbl hargs).mono ?_⟩
 rintro e w' ⟨u,Ib,rfl,hbel,hfix,hc,hout,hnd',hnew⟩
 rw[gV,List.nodup_append]at hnd'
 obtain⟨hn1,hn2,hn3⟩:=hnd'
 obtain⟨vs,hR',aaz,hbs⟩:=hC w' (aI (gU w keep (fun b=>b∈ah ρ [])) w' Ib (hs'++ho)) Ib hn1 (fun p hp=>hout p (List.mem_append_left _ hp))
 let Bl:Nat→Value:=fun i=>if i=j then .tuple vs else Ib i
 have X8:Bl j= .tuple vs:=by simp[Bl]
 have e4: ∀i,gG i ho=true→Bl i=Ib i:=fun i hi=>by
  have:i≠j:=by rintro rfl;rw[hne]at hi;cases hi
  simp[Bl,this]
 have hb4:ah Bl ((j,.obs o')::ho)=blks (.tuple vs)++ah Ib ho:=by
  rw[aU,jo fun p hp=>e4 p.1 (fG.2 ⟨p,hp,rfl⟩)]
  show blks (Bl j)++_=_
  rw[X8]
 have NY: ∀b,b∈ah Bl ((j,.obs o')::ho)→b∈ah Ib (hs'++ho):=fun b hb=>by
  rw[hb4]at hb
  rw[gV]
  exact(List.mem_append.1 hb).elim (fun h=>List.mem_append_left _ (hbs b h)) (fun h=>List.mem_append_right _ h)
 have hk4: ∀b,aI (gU w keep (fun b=>b∈ah ρ [])) w' Ib (hs'++ho) b→aI (gU w keep (fun b=>b∈ah ρ [])) w' Bl ((j,.obs o')::ho) b:=
  fun b ⟨h1,h2,h3⟩=>⟨h1,h2,fun h=>h3 (NY b h)⟩
 refine⟨u,Bl,rfl,hbel,(fun p hp=>by cases hp), ?_, ?_, ?_,fun b hb=>hnew b (NY b hb)⟩
 · exact C2.mQ (X:=aB (gU w keep (fun b=>b∈ah ρ [])) w' Ib (hs'++ho)) (Y:=aB (gU w keep (fun b=>b∈ah ρ [])) w' Bl ((j,.obs o')::ho)) hk4 rfl e4 (by show dZ (Bl j)=dZ (Ib j);rw[X8,aaz]) hrr hc
 · intro p hp
   rcases List.mem_cons.1 hp with rfl|hp
   · refine⟨vs,X8, ?_⟩
     show o'.R w' _ (Bl j)
     rw[X8]
     exact o'.mono hk4 (fun _ _=>rfl) (fun _ _=>rfl) hR'
   · exact aZ.over (X:=aB (gU w keep (fun b=>b∈ah ρ [])) w' Ib (hs'++ho)) (Y:=aB (gU w keep (fun b=>b∈ah ρ [])) w' Bl ((j,.obs o')::ho)) hk4 rfl e4 (fG.2 ⟨p,hp,rfl⟩) (oI hcl p hp) (hout p (List.mem_append_right _ hp))
 · rw[hb4,List.nodup_append]
   exact⟨(o'.lt hR').2.2,hn2,fun a ha b hb=>hn3 a (hbs a ha) b hb⟩
def adH {α:Type} (hs:α→List (Nat×AO)) (w:World) (k:Nat→Prop) (v:Value):Prop:=
 ∃ (x:α) (ρ:Nat→Value) (us:List Value),v= .tuple (dZ (ρ 0)::us).toArray∧us.flatMap jg=ah ρ (hs x)∧(ah ρ (hs x)).Nodup∧gG 0 (hs x)=true∧(dZ (ρ 0)).oneCell'=true∧ ∀p∈hs x,aZ ⟨w,k,ρ⟩ p.1 p.2
theorem lH (x:Value) (us:List Value):blks (.tuple (x::us).toArray)=us.flatMap jg:=by simp[blks]
def OB.pack {α:Type} (hs:α→List (Nat×AO)):OB where
 R:=adH hs
 mono:=by
  rintro w w' k k' v hk hm hb ⟨x,ρ,us,rfl,hbl,hnd,hn,h1,hok⟩
  rw[lH,hbl]at hb
  exact⟨x,ρ,us,rfl,hbl,hnd,hn,h1,fun p hp=>aZ.same (X:=⟨w,k,ρ⟩) (Y:=⟨w',k',ρ⟩) hk hm rfl (fun b hb'=>hb b (aO.2 ⟨p,hp,hb'⟩)) (hok p hp)⟩
 lt:=by
  rintro w k v ⟨x,ρ,us,rfl,hbl,hnd,hn,h1,hok⟩
  rw[lH,hbl]
  refine⟨fun b hb=>?_,h1,hnd⟩
  obtain⟨p,hp,hb'⟩:=aO.1 hb
  exact(hok p hp).lt b hb'
theorem Opens.pack {α:Type} (hs:α→List (Nat×AO)):Opens (OB.pack hs) 0 hs:=by
 rintro w k v ⟨x,ρ,us,rfl,hbl,hnd,hn,h1,hok⟩
 exact⟨x,ρ,rfl,by rw[lH,hbl],hok⟩
theorem NZ (l:List Nat):(l.map fun b=>Value.pointer (some ⟨b,0,none⟩)).flatMap jg=l:=by
 induction l with
 |nil=>rfl
 |cons x l ih=>rw[List.map_cons,List.flatMap_cons,ih];rfl
theorem Closes.pack {α:Type} (hs:α→List (Nat×AO)) (x:α) (hn:gG 0 (hs x)=true) (h1: ∀ (X:CX),(∀p∈hs x,aZ X p.1 p.2)→(dZ (X.ρ 0)).oneCell'=true):Closes (hs x) 0 (OB.pack hs):=by
 intro w k ρ hnd hok
 refine⟨_,⟨x,ρ,(ah ρ (hs x)).map fun b=> .pointer (some ⟨b,0,none⟩),rfl,NZ _,hnd,hn,h1 ⟨w,k,ρ⟩ hok,hok⟩,rfl,fun b hb=>?_⟩
 rw[lH,NZ]at hb
 exact hb
theorem Opens.imp {o:OB} {j:Nat} {Y Z:Type} {hs:Y→List (Nat×AO)} {gs:Z→List (Nat×AO)} (h:Opens o j hs) (hi: ∀ (X:CX) y,(ah X.ρ (hs y)).Nodup→(∀p∈hs y,aZ X p.1 p.2)→ ∃z ρ',dZ (ρ' j)=dZ (X.ρ j)∧(ah ρ' (gs z)).Perm (ah X.ρ (hs y))∧ ∀p∈gs z,aZ ⟨X.w,X.keep,ρ'⟩ p.1 p.2):Opens o j gs:=by
 intro w k v hR
 obtain⟨y,ρ,h1,h2,h3⟩:=h w k v hR
 obtain⟨z,ρ',g1,g2,g3⟩:=hi ⟨w,k,ρ⟩ y (h2.nodup_iff.2 (o.lt hR).2.2) h3
 exact⟨z,ρ',g1.trans h1,g2.trans h2,g3⟩
theorem Closes.imp {o:OB} {j:Nat} {hs gs:List (Nat×AO)} (h:Closes gs j o) (hi: ∀ (X:CX),(ah X.ρ hs).Nodup→(∀p∈hs,aZ X p.1 p.2)→ ∃ρ',dZ (ρ' j)=dZ (X.ρ j)∧(ah ρ' gs).Nodup∧(∀b∈ah ρ' gs,b∈ah X.ρ hs)∧ ∀p∈gs,aZ ⟨X.w,X.keep,ρ'⟩ p.1 p.2):Closes hs j o:=by
 intro w k ρ hnd hok
 obtain⟨ρ',g1,g2,g3,g4⟩:=hi ⟨w,k,ρ⟩ hnd hok
 obtain⟨us,a1,a2,a3⟩:=h w k ρ' g2 g4
 exact⟨us,a1,a2.trans g1,fun b hb=>g3 b (a3 b hb)⟩
theorem dJ.hdr {P:Program} {L:Lay} (hL:bQ P L) {W:Walk} (hW:Hz P W) {d:Nat} {f:FuncId} {cu:List AV} {st:AS} {K:AV→AS→Prop} (t id:Nat) {e:TypeId} {s n:Nat} {sc:Bool} {F:Nat→List AV} (hE:Enters P f) (ht:st.tmps t= .own id) (hf:aP id st.heap=some (.row e s n sc F))
  (h: ∀A c,dJ P L W d f cu ⟨(t,.v (.slice A n c))::st.sl,st.heap,st.back,st.base⟩ K):dJ P L W d f cu st K:=by
 refine .sem hE fun g N bs ρ a w args R hargs=>?_
 obtain⟨us,hown,hr⟩:=R.objs _ (au hf)
 have hown:w.ownsRow 0 e s (ρ id) n us:=hown
 obtain⟨A,c,hv⟩: ∃A c,ρ id= .slice A n c:=by
  rcases hown.2 with⟨hv,hz⟩|⟨b,cap,cur,hv,_⟩
  · exact⟨none,0,by rw[hv,hz]⟩
  · exact⟨_,_,hv⟩
 have R':Rel g N bs ρ a w ⟨(t,.v (.slice A n c))::st.sl,st.heap,st.back,st.base⟩:=by
  refine⟨R.size,R.defers,R.below,fun t'=>?_,R.objs,R.apart,R.own,R.back⟩
  show C2 _ (upd t (.v (.slice A n c)) st.tmps t') _
  by_cases e':t'=t
  · subst e'
    have h0:=R.tmps t'
    rw[ht]at h0
    simp only[upd,Nat.beq_refl,cond_true]
    exact(C2.jR h0).trans (by show dZ (ρ id)=_;rw[hv];rfl)
  · simp only[upd,beq_false e',cond_false]
    exact R.tmps t'
 have:=(xB R' hargs (h A c) (fun lv fn c hf' hnm hb hsz h'=>DX hL hW R' hargs lv fn c hf' hb hsz h')).2
 exact this
end
section
open Go.RowKit
def pmR (kv:List (Value×Value)) (w:World) (_:Nat→Prop) (v:Value):Prop:=
 ∃b es c,v= .tuple #[.map (some b),.map (some b)]∧w.heap[b]? =some (.map es c)∧pairs es.toList=kv∧MapKept.Stamped es c
def QC (kv:List (Value×Value)):OB where
 R:=pmR kv
 mono:=by
  rintro w w' k k' v _ _ hm ⟨b,es,c,rfl,hh,hp,hs⟩
  exact⟨b,es,c,rfl,(hm b (by simp[blks,jg])).trans hh,hp,hs⟩
 lt:=by
  rintro w k v ⟨b,es,c,rfl,hh,hp,hs⟩
  refine⟨fun x hx=>?_,rfl,by simp[blks,jg]⟩
  obtain rfl:x=b:=by simpa[blks,jg]using hx
  exact(Array.getElem?_eq_some_iff.1 hh).1
structure SV (P:Program) (kt:TypeId) (q:Value→Prop):Prop where
 chk: ∀m k w,q k→(Instr.checkKey m 10000 kt k).run P w= .ok () w
 now: ∃d,P.underlying kt=some d∧ ∀k k',q k→q k'→Instr.sameNow d k k'=none
 eq: ∀k k' w,q k→q k'→ ∃t:Bool,(t=true↔k=k')∧(Op.equal kt k k').run P w= .ok t w
 bits: ∀k,q k→Instr.sameBits 10000 k k=true
section
variable {P:Program} {kt et t:TypeId} {q:Value→Prop} (hK:SV P kt q) {w:World} {k:Value}
include hK
theorem X9 (hk:q k): ∀ (es:List MapEntry) (i:Nat),(∀e∈es,q e.key∧e.key≠k)→(Instr.findAsking kt k es i).run P w= .ok none w
  |[],_,_=>rfl
  | e::es,i,h=>by
    obtain⟨b,hb,hr⟩:=hK.eq k e.key w hk (h e List.mem_cons_self).1
    have:b=false:=by rw[Bool.eq_false_iff];exact fun e'=>(h e List.mem_cons_self).2 (hb.1 e').symm
    subst this
    simp only[Instr.findAsking,Sem.run_bind,hr,Result.andThen_ok]
    exact X9 hk es (i+1) fun e he=>h e (List.mem_cons_of_mem _ he)
theorem SX (hk:q k): ∀ (es:List MapEntry) (i j:Nat) (e:MapEntry),(∀e∈es,q e.key)→es[j]? =some e→e.key=k→(∀l x,l<j→es[l]? =some x→x.key≠k)→(Instr.findAsking kt k es i).run P w= .ok (some (i+j,e.val)) w
  |[],_,_,_,_,h,_,_=>by simp at h
  | x ::es,i,j,e,h,he,hke,hno=>by
    obtain⟨b,hb,hr⟩:=hK.eq k x.key w hk (h x List.mem_cons_self)
    simp only[Instr.findAsking,Sem.run_bind,hr,Result.andThen_ok]
    cases j with
    | zero=>
      simp only[List.getElem?_cons_zero,Option.some.injEq]at he
      subst he
      rw[hb.2 hke.symm]
      rfl
    | succ j=>
      have hx:x.key≠k:=hno 0 x (by omega) rfl
      have:b=false:=by rw[Bool.eq_false_iff];exact fun e'=>hx (hb.1 e').symm
      subst this
      have:=SX hk es (i+1) j e (fun e he=>h e (List.mem_cons_of_mem _ he)) (by simpa using he) hke fun l x hl hx=>hno (l+1) x (by omega) (by simpa using hx)
      rw[show i+1+j=i+(j+1) by omega]at this
      exact this
theorem N7 (hk:q k) {es:List MapEntry} (h: ∀e∈es,q e.key) {r:Option (Nat×Value)} (hr:(Instr.findAsking kt k es 0).run P w= .ok r w):(Instr.findKey kt k es).run P w= .ok r w:=by
 obtain⟨d,hd,hn⟩:=hK.now
 cases es with
 | nil=>
   have:r=none:=by cases hr;rfl
   subst this
   simp[Instr.findKey,run_underlying hd,Sem.run_bind,Result.andThen,Instr.findNow]
 | cons e es=>
   have:Instr.findNow d k (e::es) 0=none:=by unfold Instr.findNow;rw[hn k e.key hk (h e List.mem_cons_self)]
   simp only[Instr.findKey,Sem.run_bind,run_underlying hd,Result.andThen_ok,this]
   exact hr
theorem SY (hk:q k) {es:Array MapEntry} {kv:List (Value×Value)} (hp:pairs es.toList=kv) (h: ∀p∈kv,q p.1∧p.1≠k):(Instr.findKey kt k es.toList).run P w= .ok none w:=by
 have h': ∀e∈es.toList,q e.key∧e.key≠k:=fun e he=>h (e.key,e.val) (by rw[←hp];exact List.mem_map.2 ⟨e,he,rfl⟩)
 exact N7 hK hk (fun e he=>(h' e he).1) (X9 hK hk es.toList 0 h')
theorem N8 (hk:q k) {es:Array MapEntry} {c:Nat} (hs:MapKept.Stamped es c) {A B:List (Value×Value)} {v:Value} (hp:pairs es.toList=A++(k,v)::B) (h: ∀p∈A++(k,v)::B,q p.1):
  ∃e,es.toList[A.length]? =some e∧e.key=k∧e.val=v∧(Instr.findKey kt k es.toList).run P w= .ok (some (A.length,v)) w:=by
 have hl:(pairs es.toList)[A.length]? =some (k,v):=by rw[hp];simp
 unfold pairs at hl
 rw[List.getElem?_map]at hl
 cases he:es.toList[A.length]? with
 |none=>rw[he]at hl;cases hl
 | some e=>
   rw[he]at hl
   simp only[Option.map_some,Option.some.injEq,Prod.mk.injEq]at hl
   refine⟨e,rfl,hl.1,hl.2, ?_⟩
   have:=SX (w:=w) hK hk es.toList 0 A.length e (fun x hx=>h (x.key,x.val) (by rw[←hp];exact List.mem_map.2 ⟨x,hx,rfl⟩)) he hl.1 fun l x hlt hx hxk=>by
    have hn:=hs.2.2
    have h1:(es.toList.map (·.key))[l]? =some k:=by rw[List.getElem?_map,hx,←hxk];rfl
    have h2:(es.toList.map (·.key))[A.length]? =some k:=by rw[List.getElem?_map,he,←hl.1];rfl
    obtain⟨a1,a2⟩:=List.getElem?_eq_some_iff.1 h1
    obtain⟨b1,b2⟩:=List.getElem?_eq_some_iff.1 h2
    have:=Iq hn a1 b1 (a2.trans b2.symm)
    omega
   rw[Nat.zero_add,hl.2]at this
   exact N7 hK hk (fun x hx=>h (x.key,x.val) (by rw[←hp];exact List.mem_map.2 ⟨x,hx,rfl⟩)) this
end
section
variable {P:Program} {kt et t:TypeId} {q:Value→Prop} {w:World} {k v:Value} {b c:Nat} {es:Array MapEntry}
theorem N9 (ht:P.underlying t=some (.map kt et)) (hb:w.heap[b]? =some (.map es c)) (hc:(Instr.checkKey es.isEmpty 10000 kt k).run P w= .ok () w) {r:Option (Nat×Value)} (hf:(Instr.findKey kt k es.toList).run P w= .ok r w) {z:Value} (hz:(zeroValue et).run P w= .ok z w):
  (Instr.lookup t (.map (some b)) k true).run P w= .ok (.tuple #[(r.map (·.2)).getD z,.bool r.isSome]) w:=by
 cases r with
 |none=>simp[Instr.lookup,run_underlying ht,MapKept.run_getObj_map hb,Sem.run_bind,Result.andThen,hc,hf,hz]
 |some p=>simp[Instr.lookup,run_underlying ht,MapKept.run_getObj_map hb,Sem.run_bind,Result.andThen,hc,hf]
theorem Oa (ht:P.underlying t=some (.map kt et)) (hb:w.heap[b]? =some (.map es c)) (hc:(Instr.checkKey false 10000 kt k).run P w= .ok () w) (hf:(Instr.findKey kt k es.toList).run P w= .ok none w):
  (Instr.mapUpdate t (.map (some b)) k v).run P w= .ok () {w with heap:=w.heap.setIfInBounds b (.map (es.push {key:=k,val:=v,born:=c}) (c+1))}:=by
 simp[Instr.mapUpdate,run_underlying ht,MapKept.run_getObj_map hb,Sem.run_bind,Result.andThen,hc,hf,MapKept.run_setObj_map _ hb]
theorem aaA (ht:P.underlying t=some (.map kt et)) (hb:w.heap[b]? =some (.map es c)) (hc:(Instr.checkKey es.isEmpty 10000 kt k).run P w= .ok () w) {i:Nat} {u:Value} (hf:(Instr.findKey kt k es.toList).run P w= .ok (some (i,u)) w) {P9 ty:TypeId}:
  (Builtin.delete_ #[t,P9] ty #[.map (some b),k]).run P w= .ok (.tuple #[]) {w with heap:=w.heap.setIfInBounds b (.map (es.eraseIdxIfInBounds i) c)}:=by
 simp[Builtin.delete_,run_underlying ht,MapKept.run_getObj_map hb,Sem.run_bind,Result.andThen,hc,hf,MapKept.run_setObj_map _ hb]
end
section
variable {P:Program} {kt et t:TypeId} {q:Value→Prop} {st:AS} {K:AV→AS→Prop} {id:Nat} {kv:List (Value×Value)} {k v:Value}
def Whole (x:AV) (v:Value):Prop:=(∀X u,C2 X x u→u=v)∧ ∀X,C1 X x v
theorem Whole.agg (us:List Value):Whole (.agg (us.map .v)) (.agg us.toArray):=by
 refine⟨fun X u h=>?_,fun X=>⟨us,rfl,by simp,fun i x u hx hu=>?_⟩⟩
 · obtain⟨vs,rfl,ha⟩: ∃vs:List Value,u= .agg vs.toArray∧aF (C0 X) (us.map .v) vs:=h
   congr 2
   refine List.ext_getElem? fun i=>?_
   have hl:us.length=vs.length:=by simpa using ha.1
   cases hv:vs[i]? with
   |none=>rw[List.getElem?_eq_none_iff]at hv;exact(List.getElem?_eq_none (by omega)).symm
   | some y=>
     have hi:i<us.length:=by rw[hl];exact(List.getElem?_eq_some_iff.1 hv).1
     have:y=us[i]:=ha.2 i (.v us[i]) y (by simp[hi]) hv
     rw[this]
     exact(List.getElem?_eq_getElem hi).symm
 · rw[List.getElem?_map,hu]at hx
   cases hx
   rfl
theorem Lc {g:Base} {N:Nat} {bs:List (Array Value)} {ρ:Nat→Value} {a:Act} {w:World} (R:Rel g N bs ρ a w st) (hf:aP id st.heap=some (.obs (QC kv))):
  ∃b es c,ρ id= .tuple #[.map (some b),.map (some b)]∧w.heap[b]? =some (.map es c)∧pairs es.toList=kv∧MapKept.Stamped es c:=by
 obtain⟨us,e,b,es,c,e2,h⟩:=R.objs _ (au hf)
 exact⟨b,es,c,e2,h⟩
theorem S9 {g:Base} {N:Nat} {bs:List (Array Value)} {ρ:Nat→Value} {a:Act} {w:World} (R:Rel g N bs ρ a w st) {x:Operand} (hx:st.ev x= .own id) {b:Nat} (e:ρ id= .tuple #[.map (some b),.map (some b)]):a.eval x= .map (some b):=by
 have:=R.ev x
 rw[hx]at this
 exact(C2.jR this).trans (by show dZ (ρ id)=_;rw[e];rfl)
theorem Ob {kv':List (Value×Value)} {g:Base} {N:Nat} {bs:List (Array Value)} {ρ:Nat→Value} {a:Act} {w:World} (R:Rel g N bs ρ a w st) {b c c':Nat} {es es':Array MapEntry} (hf:aP id st.heap=some (.obs (QC kv))) (e:ρ id= .tuple #[.map (some b),.map (some b)]) (hh:w.heap[b]? =some (.map es c)) (hp:pairs es'.toList=kv') (hs:MapKept.Stamped es' c'):
  Rel g N bs ρ a {w with heap:=w.heap.setIfInBounds b (.map es' c')} ⟨st.sl,setObj id (.obs (QC kv')) st.heap,st.back,st.base⟩:=by
 have hlt:b<w.heap.size:=(Array.getElem?_eq_some_iff.1 hh).1
 refine R.write hf (b:=b) (by rw[e];simp[blks,jg]) ⟨rfl,rfl,rfl,by simp,fun k hk=>by simp[Array.getElem?_setIfInBounds,show b≠k by omega]⟩ (by simp) (fun k hk=>by simp[Array.getElem?_setIfInBounds,Ne.symm hk]) fun _ _=>?_
 exact⟨_,e,b,es',c',e,by simp[aB,hlt],hp,hs⟩
variable {x i y:Operand} {c:Call} {P9:TypeId} (hK:SV P kt q) (ht:P.underlying t=some (.map kt et)) {kx vx:AV} (hx:st.ev x= .own id) (hf:aP id st.heap=some (.obs (QC kv))) (hi:st.ev i=kx) (hk:Whole kx k) (hq:q k)
include hK ht hx hf hi hk hq
theorem nI.look (hz: ∀w,(zeroValue et).run P w= .ok v w) (hv:Whole vx v) (hno: ∀p∈kv,q p.1∧p.1≠k) (h:K (.dL [vx,.v (.bool false)]) st):nI P st (.lookup t x i true) K:=by
 refine .q _ h fun g N bs ρ a w o ho R=>?_
 obtain⟨b,es,c,e,hh,hp,hs⟩:=Lc R hf
 have e2:a.eval i=k:=hk.1 _ _ (by rw[←hi];exact R.ev i)
 refine⟨_,⟨[v,.bool false],rfl,aF.cons (hv.2 _) (aF.cons rfl aF.nil)⟩, ?_⟩
 simp only[execOp,ho,S9 R hx e,e2,Sem.run_bind,N9 ht hh (hK.chk _ _ w hq) (SY hK hq hp hno) (hz w),Result.andThen_ok,Sem.run_pure]
 rfl
theorem nI.Tc {A B:List (Value×Value)} (hz: ∃z,∀w,(zeroValue et).run P w= .ok z w) (hv:Whole vx v) (hs0:kv=A++(k,v)::B) (hall: ∀p∈kv,q p.1) (h:K (.dL [vx,.v (.bool true)]) st):nI P st (.lookup t x i true) K:=by
 refine .q _ h fun g N bs ρ a w o ho R=>?_
 obtain⟨b,es,c,e,hh,hp,hs⟩:=Lc R hf
 have e2:a.eval i=k:=hk.1 _ _ (by rw[←hi];exact R.ev i)
 obtain⟨z,hz⟩:=hz
 obtain⟨_,_,_,_,h4⟩:=N8 (w:=w) hK hq hs (hp.trans hs0) (by rw[←hs0];exact hall)
 refine⟨_,⟨[v,.bool true],rfl,aF.cons (hv.2 _) (aF.cons rfl aF.nil)⟩, ?_⟩
 simp only[execOp,ho,S9 R hx e,e2,Sem.run_bind,N9 ht hh (hK.chk _ _ w hq) h4 (hz w),Result.andThen_ok,Sem.run_pure]
 rfl
theorem nI.aer (hy:st.ev y=vx) (hv:Whole vx v) (hno: ∀p∈kv,q p.1∧p.1≠k) (h:K (.v undef) ⟨st.sl,setObj id (.obs (QC (kv++[(k,v)]))) st.heap,st.back,st.base⟩):nI P st (.mapUpdate t x i y) K:=by
 refine .mk rfl fun g N bs ρ a w o next Q ho R hk'=>?_
 obtain⟨b,es,c,e,hh,hp,hs⟩:=Lc R hf
 have e2:a.eval i=k:=hk.1 _ _ (by rw[←hi];exact R.ev i)
 have e3:a.eval y=v:=hv.1 _ _ (by rw[←hy];exact R.ev y)
 have hrun:(execOp a.eval o).run P w= .ok .skip {w with heap:=w.heap.setIfInBounds b (.map (es.push {key:=k,val:=v,born:=c}) (c+1))}:=by
  simp[execOp,ho,S9 R hx e,e2,e3,Oa ht hh (hK.chk _ _ w hq) (SY hK hq hp hno)]
 unfold Oper.wp
 rw[hrun]
 refine hk' _ _ _ _ _ h (Ob R hf e hh (by simp[pairs,←hp]) (MapKept.stamped_push hs fun x hxm hxk=>?_)) rfl
 exact(hno (x.key,x.val) (by rw[←hp];exact List.mem_map.2 ⟨x,hxm,rfl⟩)).2 hxk
theorem nI.aes (hc:c.callee= .builtin .delete) (hca:c.args= #[x,i]) (hct:c.argTypes= #[t,P9]) {A B:List (Value×Value)} (hs0:kv=A++(k,v)::B) (hall: ∀p∈kv,q p.1) (h:K (.dL []) ⟨st.sl,setObj id (.obs (QC (A++B))) st.heap,st.back,st.base⟩):nI P st (.call c) K:=by
 refine .mk (by unfold lu;split<;>simp_all) fun g N bs ρ a w o next Q ho R hk'=>?_
 obtain⟨b,es,cc,e,hh,hp,hs⟩:=Lc R hf
 have e2:a.eval i=k:=hk.1 _ _ (by rw[←hi];exact R.ev i)
 obtain⟨en,g1,_,_,h4⟩:=N8 (w:=w) hK hq hs (hp.trans hs0) (by rw[←hs0];exact hall)
 have hrun:(execOp a.eval o).run P w= .ok (.value (.tuple #[])) {w with heap:=w.heap.setIfInBounds b (.map (es.eraseIdxIfInBounds A.length) cc)}:=by
  simp only[execOp,ho,resolve,hc,hca,hct,Sem.run_bind,Sem.run_pure,Result.andThen_ok,invoke]
  simp[builtin,S9 R hx e,e2,aaA ht hh (hK.chk _ _ w hq) h4,Sem.run_bind,Result.andThen]
 unfold Oper.wp
 rw[hrun]
 refine hk' _ _ _ _ _ h (Ob R hf e hh ?_ (MapKept.stamped_erase hs _)) ⟨[],rfl,aF.nil⟩
 have:(es.eraseIdxIfInBounds A.length).toList=es.toList.eraseIdx A.length:=by simp
 rw[this,List.eraseIdx_eq_take_drop_succ,pairs,List.map_append,List.map_take,List.map_drop,show es.toList.map (fun e=>(e.key,e.val))=A++(k,v)::B from hp.trans hs0]
 simp
omit hK ht hx hf hi hk hq
theorem nI.del (hc:c.callee= .builtin .delete) (hca:c.args= #[x,i]) (hct:c.argTypes= #[t,P9]) (hK:SV P kt q) (ht:P.underlying t=some (.map kt et)) (hx:st.ev x= .own id) (hf:aP id st.heap=some (.obs (QC kv))) (hi:st.ev i=kx) (hk:Whole kx k) (hq:q k)
  {A B:List (Value×Value)} (hs0:kv=A++(k,v)::B) (hall: ∀p∈kv,q p.1) (h:K (.dL []) ⟨st.sl,setObj id (.obs (QC (A++B))) st.heap,st.back,st.base⟩):nI P st (.call c) K:= .aes hK ht hx hf hi hk hq hc hca hct hs0 hall h
theorem nI.mkM (h:nameOf st (fun d=>K (.own d) (st.obj d d (.obs (QC []))))):nI P st (.makeMap t none) K:=by
 rw[iP]at h
 refine .mk rfl fun g N bs ρ a w o next Q ho R hk'=>?_
 have hrun:(execOp a.eval o).run P w= .ok (.value (.map (some w.heap.size))) (w.alloc (.map #[] 0)):=by
  simp[execOp,ho,Instr.makeMap,Result.andThen,Sem.run_bind]
 unfold Oper.wp
 rw[hrun]
 refine hk' _ _ _ (dF ρ st.base (.tuple #[.map (some w.heap.size),.map (some w.heap.size)])) _ h (R.obj st.base st.base (R.below.alloc R.below.size _) (by simp) (fun b hb _=>Below.heap_alloc w _ b hb) (fun b hb=>?_) (fun _=>?_)) (by simp[C2,C1,C0,aB,dF,dZ])
 · rw[show b=w.heap.size from by simpa[blks,jg]using hb];exact .inl (Nat.le_refl _)
 · have e:dF ρ st.base (.tuple #[.map (some w.heap.size),.map (some w.heap.size)]) st.base= .tuple #[.map (some w.heap.size),.map (some w.heap.size)]:=by simp[dF]
   exact⟨_,e,w.heap.size, #[],0,e,heap_alloc_new w _,rfl,MapKept.stamped_empty 0⟩
end
end
end Go.Proofs.YtimhagicagdkfaaGreat
