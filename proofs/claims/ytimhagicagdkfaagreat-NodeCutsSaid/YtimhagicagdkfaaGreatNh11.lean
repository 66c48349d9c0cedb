/-
  Contracts of the walk:Mk2,NdA,NdB,NdC,ClG,NdD,NdE.
-/
import Derived.Test.YtimhagicagdkfaaGreatNh10
import Derived.Test.YtimhagicagdkfaaGreatNh6
set_option maxHeartbeats 16000000
set_option maxRecDepth 100000
set_option linter.unusedVariables false
set_option linter.unusedSimpArgs false
namespace Go.Proofs.YtimhagicagdkfaaGreat
section
open Go.RowKit
def qJ (H:Nat→aW) (r:Nat) (c:aW):Nat→aW:=fun i=>bif Nat.beq i r then c else H i
def aW.inc (c:aW):Nat→aW
  |0=>⟨c.c0+1,c.c1,c.c2,c.c3,c.c4⟩
  |1=>⟨c.c0,c.c1+1,c.c2,c.c3,c.c4⟩
  |2=>⟨c.c0,c.c1,c.c2+1,c.c3,c.c4⟩
  |3=>⟨c.c0,c.c1,c.c2,c.c3+1,c.c4⟩
  |_=>⟨c.c0,c.c1,c.c2,c.c3,c.c4+1⟩
abbrev Mk:=List Ev×(Nat→aW)
def Xm.ed (c:Xm):Ed:=⟨c.k,c.key,c.l,c.v⟩
def D7 (out:List Ev) (H:Nat→aW) (r:Nat) (x:Ed):Ev:=⟨(r:Int),(H r).at r+1,H r,hgt out (H r),x.k,x.key,x.l,x.v⟩
def ac5 (s:Mk) (r f:Nat):Mk:=(s.1,qJ s.2 r ((s.2 r).join (s.2 f)))
def ac6 (s:Mk) (r:Nat) (x:Ed):Mk:=(s.1++[D7 s.1 s.2 r x],qJ s.2 r ((s.2 r).inc r))
def GR (s:Mk) (c:Xm):Mk:=
 if c.sy=true then ac5 s (c.r%5).toNat (c.f%5).toNat else ac6 s (c.r%5).toNat (kU c.ed)
def aW.in (c:aW) (M:Int):Prop:=(0≤c.c0∧c.c0≤M)∧(0≤c.c1∧c.c1≤M)∧(0≤c.c2∧c.c2≤M)∧(0≤c.c3∧c.c3≤M)∧(0≤c.c4∧c.c4≤M)
def MkB (s:Mk) (n:Nat):Prop:=(∀q,(s.2 q).in n)∧(∀e∈s.1,0≤e.h∧e.h≤(n:Int))∧s.1.length≤n
theorem aW.in.mono {c:aW} {M N:Int} (h:c.in M) (hMN:M≤N):c.in N:=by unfold aW.in at*;omega
theorem aW.in.join {a b:aW} {M:Int} (ha:a.in M) (hb:b.in M):(a.join b).in M:=by
 unfold aW.in at*
 unfold aW.join IQ
 simp only
 refine⟨?_, ?_, ?_, ?_, ?_⟩<;>split<;>omega
theorem aW.in.inc {a:aW} {M:Int} (ha:a.in M): ∀r,(a.inc r).in (M+1)
  |0=>by unfold aW.in aW.inc at*;simp only;omega
  |1=>by unfold aW.in aW.inc at*;simp only;omega
  |2=>by unfold aW.in aW.inc at*;simp only;omega
  |3=>by unfold aW.in aW.inc at*;simp only;omega
  |_+4=>by unfold aW.in aW.inc at*;simp only;omega
theorem OT {P:aW→Prop} {H:Nat→aW} {r:Nat} {c:aW} (h: ∀q,P (H q)) (hc:P c) (q:Nat):P (qJ H r c q):=by
 unfold qJ
 cases Nat.beq q r with
 |true=>exact hc
 |false=>exact h q
theorem MkB.step {s:Mk} {n:Nat} (h:MkB s n) (c:Xm):MkB (GR s c) (n+1):=by
 obtain⟨h1,h2,h3⟩:=h
 have h1': ∀q,(s.2 q).in ((n+1:Nat):Int):=fun q=>(h1 q).mono (by omega)
 unfold GR
 split
 · exact⟨fun q=>OT (P:=fun c=>c.in ((n+1:Nat):Int)) h1' ((h1' _).join (h1' _)) q,fun e he=>by have:=h2 e he;omega,by show s.1.length≤_;omega⟩
 · refine⟨fun q=>OT (P:=fun c=>c.in ((n+1:Nat):Int)) h1' ?_ q,fun e he=>?_, ?_⟩
   · have:=(h1 (c.r%5).toNat).inc (c.r%5).toNat
     exact this.mono (by omega)
   · rcases List.mem_append.1 he with he|he
     · have:=h2 e he
       omega
     · rw[List.mem_singleton.1 he]
       have:=aa0 (c:=s.2 (c.r%5).toNat) (M:=n) (by omega) h2
       show 0≤hgt s.1 (s.2 (c.r%5).toNat)∧hgt s.1 (s.2 (c.r%5).toNat)≤((n+1:Nat):Int)
       omega
   · show(s.1++[_]).length≤_
     rw[List.length_append,List.length_singleton]
     omega
end
section
open Go.RowKit
def GU (r n:Int):List Value:=[.int .i64 r,.int .i64 n]
def qK (r n:Int):Value:= .agg (GU r n).toArray
def evV (e:Ev):Value:= .agg e.vs.toArray
def Ro (v:Value):Prop:= ∃r n,v=qK r n
def Ce (l:List Ev):List (Value×Value):=l.map fun e=>(qK e.r e.n,evV e)
theorem JR {r n r' n':Int}:qK r n=qK r' n'↔r=r'∧n=n':=by simp[qK,GU]
theorem Vw (a b a' b':Int) (w:World):(Op.equalIn 10000 44 (.agg #[.int .i64 a,.int .i64 b]) (.agg #[.int .i64 a',.int .i64 b'])).run Tryz.prog w= .ok (decide (a=a'∧b=b')) w:=by
 have hS:Tryz.prog.underlying 44=some (.struct (Tryz.prog.fieldsOf 44)):=by kernel_rfl
 have u3:=Tryz.underlying3
 have a3:=Tryz.isAgg3
 have z3:=Tryz.sizeOf3
 rw[show(10000:Nat)=9999+1 from rfl,run_equalIn_agg w 9999 44 _ _ hS (by kernel_rfl)]
 simp only[Program.fieldsOf,Tryz.underlying44]
 go_simp
 repeat' split
 all_goals simp_all
theorem YK (m:Bool) (r n:Int) (w:World):(Instr.checkKey m 10000 44 (qK r n)).run Tryz.prog w= .ok () w:=by
 have u3:=Tryz.underlying3
 have a3:=Tryz.isAgg3
 have z3:=Tryz.sizeOf3
 rw[show(10000:Nat)=9999+1 from rfl,Instr.checkKey]
 simp only[Sem.run_bind,run_underlying Tryz.underlying44,Result.andThen_ok,qK,GU]
 have c3: ∀x:Int,(Instr.checkKey m 9999 3 (.int .i64 x)).run Tryz.prog w= .ok () w:=fun x=>MapKept.run_checkKey u3 (show MapKept.IsKey (.int .i64) (.int .i64 x)from rfl) m 9998
 go_simp
theorem kK:Ue Tryz.prog 44 Ro where
 chk:=by rintro m _ w ⟨r,n,rfl⟩;exact YK m r n w
 now:=⟨_,Tryz.underlying44,by rintro _ _ ⟨r,n,rfl⟩ ⟨r',n',rfl⟩;rfl⟩
 eq:=by
  rintro _ _ w ⟨r,n,rfl⟩ ⟨r',n',rfl⟩
  exact⟨_,by rw[decide_eq_true_eq,JR],Vw r n r' n' w⟩
 bits:=by rintro _ ⟨r,n,rfl⟩;simp[qK,GU,Instr.sameBits]
theorem jH (r n:Int):Whole (.agg [.v (.int .i64 r),.v (.int .i64 n)]) (qK r n):=Whole.agg (GU r n)
theorem nG (e:Ev):Whole e.av (evV e):=Whole.agg e.vs
theorem Bf (l:List Ev): ∀p∈Ce l,Ro p.1:=fun p hp=>by
 obtain⟨e,_,rfl⟩:=List.mem_map.1 hp
 exact⟨_,_,rfl⟩
theorem YL {l:List Ev} {r n:Int} (h: ∀e∈l,¬ (e.r=r∧e.n=n)): ∀p∈Ce l,Ro p.1∧p.1≠qK r n:=fun p hp=>by
 obtain⟨e,he,rfl⟩:=List.mem_map.1 hp
 exact⟨⟨_,_,rfl⟩,fun e'=>h e he (JR.1 e')⟩
def ev0:Ev:=⟨0,0,⟨0,0,0,0,0⟩,0,0,⟨#[]⟩,0,⟨#[]⟩⟩
theorem aa4 {t:TypeId} {v:Value} (h:(Tryz.prog.info? t).bind (·.zero)=some v) (w:World):(zeroValue t).run Tryz.prog w= .ok v w:=by
 cases hi:Tryz.prog.info? t with
 |none=>rw[hi]at h;cases h
 | some info=>
   rw[hi]at h
   have h:info.zero=_:=h
   simp[zeroValue,typeInfo,hi,h]
theorem rO (w:World):(zeroValue 42).run Tryz.prog w= .ok (evV ev0) w:=aa4 (by kernel_rfl) w
theorem qm (e:Ev):aH Tryz.prog 154 [e.av] (.agg [.v (.int .i64 e.r),.v (.int .i64 e.n)]) []:=by
 obtain⟨r,n,⟨c0,c1,c2,c3,c4⟩,h,k,key,l,v⟩:=e
 dsimp only[Ev.av,Ev.cs]
 refine K1.E 0x7 Tryz.func154 ?_
 repeat' ((conv=>whnf);first|refine K1.w ?_|refine K1.u ?_|refine aJ.dO ?_|refine K1.z ?_|refine K1.y (fun _=>?_) (fun _=>?_)|fail)
 all_goals(conv=>whnf)
 all_goals exact bF.mk (aj)
theorem aa5 (a b:aW):aH Tryz.prog 184 [a.av,b.av] (.v (.bool (a.le b))) []:=by
 dsimp only[aW.av,aW.cs]
 refine K1.E 0x80ff Tryz.func184 ?_
 repeat' ((conv=>whnf);first|refine K1.w ?_|refine K1.u ?_|refine aN.qY 6 6 rfl ?_|refine aJ.dO ?_|refine K1.z ?_|refine K1.y (fun _=>?_) (fun _=>?_)|fail)
 all_goals(conv=>whnf)
 all_goals(refine bF.mk (aS.of ?_))
 all_goals(unfold aW.le;congr 2;simp;try omega)
end
section
open Go.RowKit
def JU (l:List Ev) (r n:Int):Option Ev:=l.find? fun e=>decide (e.r=r∧e.n=n)
def tV (c:aW) (l:List Ev) (r:Nat):Option Ev:=match JU l r (c.at r+1)with
  |some e=>if 1≤e.n∧e.c.le c=true then some e else none
  |none=>none
def tX (c:aW) (l:List Ev):Option Ev:=(List.range 5).findSome? (tV c l)
theorem JV {c:aW} {l:List Ev} {j:Nat} {e:Ev} (hj:j<5) (hq: ∀q,q<j→tV c l q=none) (h:tV c l j=some e):tX c l=some e:=by
 unfold tX
 rw[show List.range 5=[0,1,2,3,4]from rfl]
 rcases(show j=0∨j=1∨j=2∨j=3∨j=4 by omega)with rfl|rfl|rfl|rfl|rfl
 · simp[h]
 · simp[h,hq 0 (by omega)]
 · simp[h,hq 0 (by omega),hq 1 (by omega)]
 · simp[h,hq 0 (by omega),hq 1 (by omega),hq 2 (by omega)]
 · simp[h,hq 0 (by omega),hq 1 (by omega),hq 2 (by omega),hq 3 (by omega)]
theorem Vx {c:aW} {l:List Ev} (hq: ∀q,q<5→tV c l q=none):tX c l=none:=by
 unfold tX
 rw[List.findSome?_eq_none_iff]
 intro q h
 exact hq q (List.mem_range.1 h)
theorem Bg {l:List Ev} {r n:Int} {e:Ev} (h:JU l r n=some e):e.r=r∧e.n=n∧ ∃A B,l=A++e::B:=by
 have h1:=List.find?_some h
 have h2:=List.mem_of_find?_eq_some h
 simp only[decide_eq_true_eq]at h1
 obtain⟨A,B,e'⟩:=List.append_of_mem h2
 exact⟨h1.1,h1.2,A,B,e'⟩
theorem Bh {l:List Ev} {r n:Int} (h:JU l r n=none): ∀e∈l,¬ (e.r=r∧e.n=n):=fun e he=>by
 have:=List.find?_eq_none.1 h e he
 simpa using this
theorem GV (A B:List Ev) (e:Ev):Ce (A++e::B)=Ce A++(qK e.r e.n,evV e)::Ce B:=by simp[Ce]
theorem YM (c:aW) (l:List Ev) (hc: ∀r,0≤c.at r∧c.at r≤1000000000):aV Tryz.prog 155 [(0,.obs (Rn (Ce l)))] [c.av,.own 0] (.dF [((tX c l).getD ev0).av,.v (.bool (tX c l).isSome)]) [(0,.obs (Rn (Ce l)))]:=by
 generalize hn:tX c l=nx
 obtain⟨c0,c1,c2,c3,c4⟩:=c
 have k0:0≤c0∧c0≤1000000000:=hc 0
 have k1:0≤c1∧c1≤1000000000:=hc 1
 have k2:0≤c2∧c2≤1000000000:=hc 2
 have k3:0≤c3∧c3≤1000000000:=hc 3
 have k4:0≤c4∧c4≤1000000000:=hc 4
 dsimp only[aW.av,aW.cs]
 refine K1.M 0x4000007f7 Tryz.func155 10 ?_
 repeat' ((conv=>whnf);first|refine K1.w ?_|refine K1.u ?_|refine K1.z ?_|refine K1.y (fun _=>?_) (fun _=>?_)|fail)
 conv=>whnf
 refine aN.mk {j:Nat//j≤5∧ ∀q,q<j→tV ⟨c0,c1,c2,c3,c4⟩ l q=none} (fun j=>⟨[(9,.v (.int .i64 (j.1:Int))),(5,.v (.bool false)),(4,.box 11 0),(2,.box 10 0),(1,.own 0)],[(11,.box 42 ev0.cs),(10,.box 31 [.v (.int .i64 c0),.v (.int .i64 c1),.v (.int .i64 c2),.v (.int .i64 c3),.v (.int .i64 c4)]),(0,.obs (Rn (Ce l)))],[[(0,.own 0)]],12⟩)
  (fun j=>5-j.1) ⟨0,by omega,fun q h=>absurd h (Nat.not_lt_zero q)⟩ _ (dL.mk' [] _ _ _ rfl ⟨aS.int rfl,aj,aj,aj,aj,trivial⟩ ⟨aF rfl,aF rfl,aF rfl,trivial⟩ rfl) ?_
 rintro⟨j,hj,hq⟩
 dsimp only
 rcases(show j=5∨j<5 by omega)with rfl|hj5
 · obtain rfl:none=nx:=by rw[←hn];exact(Vx hq).symm
   repeat' ((conv=>whnf);first|refine K1.w ?_|refine K1.u ?_|refine K1.z ?_|refine K1.y (fun _=>?_) (fun _=>?_)|fail)
   all_goals(conv=>whnf)
   exact⟨[],rfl,rfl,⟨aF rfl,trivial⟩,rfl,rfl,aj⟩
 · have back:tV ⟨c0,c1,c2,c3,c4⟩ l j=none→ ∀q,q<j+1→tV ⟨c0,c1,c2,c3,c4⟩ l q=none:=fun h q hlt=>by
    rcases Nat.lt_or_ge q j with h'|h'
    · exact hq q h'
    · obtain rfl:=Nat.le_antisymm (Nat.le_of_lt_succ hlt) h'
      exact h
   have hcj:0≤aW.at ⟨c0,c1,c2,c3,c4⟩ j:=(hc j).1
   cases hf:JU l j (aW.at ⟨c0,c1,c2,c3,c4⟩ j+1)with
   | none=>
     have hb:=back (by unfold tV;rw[hf])
     have hno:=YL (Bh hf)
     clear back hc hq hf hn
     rcases(show j=0∨j=1∨j=2∨j=3∨j=4 by omega)with rfl|rfl|rfl|rfl|rfl
     all_goals
      repeat' ((conv=>whnf);first|refine K1.w ?_|refine K1.u ?_|refine K1.P1 (qm _) rfl ?_|refine nS.look kK Tryz.underlying221 rfl rfl rfl (jH _ _) ⟨_,_,rfl⟩ rO (nG ev0) hno ?_|refine pF.mk (by decide) ?_|refine K1.z ?_|refine K1.y (fun _=>?_) (fun _=>?_)|fail)
      all_goals(conv=>whnf)
      exact⟨⟨_,by omega,hb⟩,_,dL.mk' [] _ _ _ rfl ⟨aS.int rfl,aj,aj,aj,aj,trivial⟩ ⟨aF rfl,aF rfl,aF rfl,trivial⟩ rfl,by dsimp only;omega⟩
   | some e=>
     obtain⟨h1,h2,A,B,hl⟩:=Bg hf
     have hs0:Ce l=Ce A++(qK (j:Int) (aW.at ⟨c0,c1,c2,c3,c4⟩ j+1),evV e)::Ce B:=by rw[hl,GV,h1,h2]
     have hn1:1≤e.n:=by omega
     have hle:=aa5 e.c ⟨c0,c1,c2,c3,c4⟩
     cases hc':e.c.le ⟨c0,c1,c2,c3,c4⟩with
     | true=>
       obtain rfl:some e=nx:=by rw[←hn];exact(JV hj5 hq (by unfold tV;rw[hf];simp[hn1,hc'])).symm
       rw[hc']at hle
       dsimp only[aW.av,aW.cs]at hle
       clear back hc hq hf hn h1 h2 hc'
       rcases(show j=0∨j=1∨j=2∨j=3∨j=4 by omega)with rfl|rfl|rfl|rfl|rfl
       all_goals
        repeat' ((conv=>whnf);first|refine K1.w ?_|refine K1.u ?_|refine K1.P1 (qm _) rfl ?_|refine K1.P1 hle rfl ?_|refine nS.Ui kK Tryz.underlying221 rfl rfl rfl (jH _ _) ⟨_,_,rfl⟩ ⟨_,rO⟩ (nG e) hs0 (Bf l) ?_|refine pF.mk (by decide) ?_|refine K1.z ?_|refine K1.y (fun _=>?_) (fun _=>?_)|fail)
        all_goals(conv=>whnf)
        exact⟨[],rfl,rfl,⟨aF rfl,trivial⟩,rfl,rfl,aj⟩
     | false=>
       have hb:=back (by unfold tV;rw[hf];simp[hc'])
       rw[hc']at hle
       dsimp only[aW.av,aW.cs]at hle
       clear back hc hq hf hn h1 h2 hc'
       rcases(show j=0∨j=1∨j=2∨j=3∨j=4 by omega)with rfl|rfl|rfl|rfl|rfl
       all_goals
        repeat' ((conv=>whnf);first|refine K1.w ?_|refine K1.u ?_|refine K1.P1 (qm _) rfl ?_|refine K1.P1 hle rfl ?_|refine nS.Ui kK Tryz.underlying221 rfl rfl rfl (jH _ _) ⟨_,_,rfl⟩ ⟨_,rO⟩ (nG e) hs0 (Bf l) ?_|refine pF.mk (by decide) ?_|refine K1.z ?_|refine K1.y (fun _=>?_) (fun _=>?_)|fail)
        all_goals(conv=>whnf)
        exact⟨⟨_,by omega,hb⟩,_,dL.mk' [] _ _ _ rfl ⟨aS.int rfl,aj,aj,aj,aj,trivial⟩ ⟨aF rfl,aF rfl,aF rfl,trivial⟩ rfl,by dsimp only;omega⟩
end
section
open Go.RowKit
def rP (c:aW) (w:List Ev) (e:Ev):List Ev:=if(JU w e.r e.n).isSome||hasB c e.r e.n then w else w++[e]
def mM (c:aW) (l:List Ev):List Ev:=l.foldl (rP c) []
def EC (w:List Ev) (e:Ev):List Ev:=w.eraseP fun x=>decide (x.r=e.r∧x.n=e.n)
def YN:Nat→aW→List Ev→List Ev→List Ev×List Ev×aW
  |0,c,w,d=>(d,w,c)
  | f+1,c,w,d=>match tX c w with
    |none=>(d,w,c)
    |some e=>YN f (c.inc e.r.toNat) (EC w e) (d++[e])
def mg (c:aW) (l:List Ev):List Ev×List Ev×aW:=YN (mM c l).length c (mM c l) []
def Dm (w:List Ev):Prop:=w.Pairwise fun a b=> ¬ (a.r=b.r∧a.n=b.n)
theorem YO {c:aW} {w:List Ev} {e:Ev} (h:Dm w):Dm (rP c w e):=by
 unfold rP
 split
 · exact h
 · rename_i hn
   simp only[Bool.or_eq_true,not_or,Bool.not_eq_true,Option.isSome_eq_false_iff,Option.isNone_iff_eq_none]at hn
   refine List.pairwise_append.2 ⟨h,List.pairwise_singleton ..,fun a ha b hb=>?_⟩
   obtain rfl:=List.mem_singleton.1 hb
   exact Bh hn.1 a ha
theorem YP (c:aW) (l:List Ev):Dm (mM c l):=by
 have: ∀ (l w:List Ev),Dm w→Dm (l.foldl (rP c) w):=fun l=>by
  induction l with
  |nil=>exact fun _ h=>h
  |cons e l ih=>exact fun w h=>ih _ (YO h)
 exact this l [] .nil
theorem Vy (c:aW) (w:List Ev) (e:Ev):(rP c w e).length≤w.length+1:=by
 unfold rP
 split
 · omega
 · simp
theorem GX {c:aW} {l:List Ev} {j:Nat} (h:j<l.length):mM c (l.take (j+1))=rP c (mM c (l.take j)) (l.getD j default):=by
 unfold mM
 rw[List.take_succ_eq_append_getElem h,List.foldl_append]
 simp[List.getD,h]
theorem Dc (c:aW) (l:List Ev): ∀j,j≤l.length→(mM c (l.take j)).length≤j
  |0,_=>by simp[mM]
  | j+1,h=>by
    rw[GX (by omega)]
    have h1:=Vy c (mM c (l.take j)) (l.getD j default)
    have h2:=Dc c l j (by omega)
    omega
theorem YQ {c:aW} {w:List Ev} {e:Ev} (h:tX c w=some e): ∃r:Nat,r<5∧e.r=(r:Int)∧e.n=c.at r+1∧e.c.le c=true∧1≤e.n∧e∈w:=by
 obtain⟨r,hr,h1⟩:=List.exists_of_findSome?_eq_some h
 have hr:=List.mem_range.1 hr
 unfold tV at h1
 split at h1
 · rename_i x hx
   obtain⟨g1,g2,A,B,g3⟩:=Bg hx
   split at h1
   · rename_i hc
     cases h1
     exact⟨r,hr,g1,g2,hc.2,hc.1,by rw[g3];simp⟩
   · cases h1
 · cases h1
theorem GY {w:List Ev} {e:Ev} (h:e∈w): ∃a A B,w=A++a::B∧EC w e=A++B∧a.r=e.r∧a.n=e.n:=by
 obtain⟨a,A,B,_,h2,h3,h4⟩:=List.exists_of_eraseP (p:=fun x:Ev=>decide (x.r=e.r∧x.n=e.n)) h (by simp)
 simp only[decide_eq_true_eq]at h2
 exact⟨a,A,B,h3,h4,h2.1,h2.2⟩
theorem YR {w:List Ev} {e:Ev} (h:e∈w):(EC w e).length+1=w.length:=by
 obtain⟨a,A,B,h1,h2,_⟩:=GY h
 rw[h2,h1]
 simp
 omega
theorem left_eq: ∀ {W w:List Ev},Dm W→w.Sublist W→W.filter (fun e=>(JU w e.r e.n).isSome)=w
  |[],w,_,h=>by rw[List.sublist_nil.1 h];rfl
  | x ::W,w,hd,h=>by
    obtain⟨hx,hW⟩:=List.pairwise_cons.1 hd
    rcases List.sublist_cons_iff.1 h with h2|⟨v,rfl,h2⟩
    · have:(JU w x.r x.n).isSome=false:=by
       rw[Option.isSome_eq_false_iff,Option.isNone_iff_eq_none]
       refine List.find?_eq_none.2 fun y hy=>?_
       have:=hx y (h2.subset hy)
       simp only[decide_eq_true_eq]
       exact fun hh=>this ⟨hh.1.symm,hh.2.symm⟩
      rw[List.filter_cons,this]
      exact left_eq hW h2
    · have:(JU (x::v) x.r x.n).isSome=true:=by simp[JU]
      rw[List.filter_cons,this,if_pos rfl]
      congr 1
      refine(List.filter_congr fun e he=>?_).trans (left_eq hW h2)
      have hne:=hx e he
      simp only[JU,List.find?_cons]
      rw[show decide (x.r=e.r∧x.n=e.n)=false by simpa using hne]
theorem Uj: ∀ (f:Nat) (c:aW) (w d:List Ev),((YN f c w d).2.1).Sublist w
  |0,_,w,_=>List.Sublist.refl w
  | f+1,c,w,d=>by
    unfold YN
    split
    · exact List.Sublist.refl w
    · exact(Uj f _ _ _).trans List.eraseP_sublist
theorem aa6 (c:aW) {r:Nat} (q:Nat) (hr:r<5):(c.inc r).at q≤c.at q+1∧c.at q≤(c.inc r).at q:=by
 obtain⟨c0,c1,c2,c3,c4⟩:=c
 rcases(show r=0∨r=1∨r=2∨r=3∨r=4 by omega)with rfl|rfl|rfl|rfl|rfl
 all_goals
  match q with
  |0=>simp only[aW.inc,aW.at];omega
  |1=>simp only[aW.inc,aW.at];omega
  |2=>simp only[aW.inc,aW.at];omega
  |3=>simp only[aW.inc,aW.at];omega
  |_+4=>simp only[aW.inc,aW.at];omega
end
section
open Go.RowKit
def fC (l:List Ev):AO:= .row 42 12 l.length true (dX l)
theorem YS {X:CX} {i:Nat} {t:TypeId} {cs:List AV} (h:bn X i (.box t cs)):(eP (X.ρ i)).oneCell'=true:=by
 obtain⟨b,us,e,_⟩:=h
 rw[e]
 rfl
def atV (ρ:Nat→Value) (j:Nat) (v:Value):Nat→Value:=fun i=>if i=j then v else ρ i
theorem Closes.ren {hs:List (Nat×AO)} {j j':Nat} {o:OB} (hC:Closes hs j o) (σ:List (Nat×Nat)) (hj:kM σ j=some j') (hb:yL σ hs=true):Closes (iY σ hs) j' o:=by
 intro w k ρ hnd hok
 let Qo:Nat→Value:=fun k=>match kM σ k with|some i=>ρ i|none=>undef
 have e0: ∀k i,kM σ k=some i→ρ i=Qo k:=fun k i e=>by simp only[Qo,e]
 have hbl:ah ρ (iY σ hs)=ah Qo hs:=rG e0 hb
 obtain⟨us,a1,a2,a3⟩:=hC w k Qo (by rw[←hbl];exact hnd) fun p hp=>by
  obtain⟨i,h1,h2,h3⟩:=Gh hb p hp
  exact(bn.jO (X:=⟨w,k,Qo⟩) (Y:=⟨w,k,ρ⟩) rfl rfl e0 h1 h3).1 (hok _ h2)
 exact⟨us,a1,a2.trans (by rw[←e0 j j' hj]),by rw[hbl];exact a3⟩
theorem YT {X:CX} {cs:List AV} {us:List Value} {k d:Nat} (hk:cs[k]? =some (.v (.slice none 0 0))) (hd:eP (X.ρ d)= .slice none 0 0) (ha:aI (C0 X) cs us):aI (C0 X) (cs.set k (.own d)) us:=by
 refine⟨by simpa using ha.1,fun i x u hx hu=>?_⟩
 rw[List.getElem?_set]at hx
 by_cases e:k=i
 · subst e
   simp only[if_true]at hx
   split at hx
   · cases hx
     have:u= .slice none 0 0:=ha.2 k _ u hk hu
     rw[this]
     exact hd.symm
   · cases hx
 · rw[if_neg e]at hx
   exact ha.2 i x u hx hu
theorem Closes.ac7 {A B:List (Nat×AO)} {id k d j:Nat} {t e:TypeId} {s:Nat} {f:Nat→List AV} {cs:List AV} {o:OB} (hC:Closes (A++(id,.box t (cs.set k (.own d)))::(B++[(d,.row e s 0 true f)])) j o)
  (hk:cs[k]? =some (.v (.slice none 0 0))) (hs:0<s) (hb:(jT (A++(id,.box t cs)::B) (A++(id,.box t cs)::B)&& !(gG d (A++(id,.box t cs)::B))&& !(Nat.beq j d))=true):Closes (A++(id,.box t cs)::B) j o:=by
 simp only[Bool.and_eq_true,Bool.not_eq_true']at hb
 obtain⟨⟨hcl,hno⟩,hjd⟩:=hb
 refine Closes.imp hC fun X hnd hok=>?_
 let ρ':=atV X.ρ d (.slice none 0 0)
 have hne: ∀i,gG i (A++(id,.box t cs)::B)=true→ρ' i=X.ρ i:=fun i hi=>if_neg (by rintro rfl;rw[hno]at hi;cases hi)
 have hd:ρ' d= .slice none 0 0:=if_pos rfl
 have over: ∀p∈A++(id,.box t cs)::B,bn ⟨X.w,X.keep,ρ'⟩ p.1 p.2:=fun p hp=>bn.over (X:=X) (Y:=⟨X.w,X.keep,ρ'⟩) (fun _ h=>h) rfl hne (fH.2 ⟨p,hp,rfl⟩) (oZ hcl p hp) (hok p hp)
 have hbl:ah ρ' (A++(id,.box t (cs.set k (.own d)))::(B++[(d,.row e s 0 true f)]))=ah X.ρ (A++(id,.box t cs)::B):=by
  have h1:=jy (ρ:=X.ρ) (ρ':=ρ') (h:=A) fun p hp=>hne p.1 (fH.2 ⟨p,List.mem_append_left _ hp,rfl⟩)
  have h2:=jy (ρ:=X.ρ) (ρ':=ρ') (h:=B) fun p hp=>hne p.1 (fH.2 ⟨p,List.mem_append_right _ (List.mem_cons_of_mem _ hp),rfl⟩)
  have h3:ρ' id=X.ρ id:=hne id (fH.2 ⟨_,List.mem_append_right _ List.mem_cons_self,rfl⟩)
  have h4:blks (ρ' d)++ah ρ' []=[]:=by rw[hd];rfl
  rw[gV,show ah ρ' ((id,.box t (cs.set k (.own d)))::(B++[(d,.row e s 0 true f)]))=blks (ρ' id)++ah ρ' (B++[(d,.row e s 0 true f)])from rfl,gV,gV,aX,h1,h2,h3]
  dsimp only
  rw[h4,List.append_nil,aX]
 refine⟨ρ',congrArg eP (if_neg fun e=>(by rw[e,Nat.beq_refl]at hjd;cases hjd)),by rw[hbl];exact hnd,fun b hb=>by rw[hbl]at hb;exact hb,fun q hq=>?_⟩
 rcases List.mem_append.1 hq with hq|hq
 · exact over q (List.mem_append_left _ hq)
 rcases List.mem_cons.1 hq with rfl|hq
 · obtain⟨b,us,g1,g2,g3⟩:=over (id,.box t cs) (List.mem_append_right _ List.mem_cons_self)
   exact⟨b,us,g1,g2,YT hk (by show eP (ρ' d)=_;rw[hd];rfl) g3⟩
 rcases List.mem_append.1 hq with hq|hq
 · exact over q (List.mem_append_right _ (List.mem_cons_of_mem _ hq))
 · obtain rfl:=List.mem_singleton.1 hq
   exact⟨[],by show World.ownsRow _ 0 e s (ρ' d) 0 [];rw[hd];exact World.ownsRow_nil X.w _ _ _,hs,fun i hi=>absurd hi (by omega),(fun _ x hx=>by cases hx),aI.nil⟩
theorem bW.box {t:TypeId} {cs cs':List AV} (h: ∀X us,aI (C0 X) cs us→aI (C0 X) cs' us):bW (.box t cs) (.box t cs'):=by
 rintro X id ⟨b,us,h1,h2,h3⟩
 exact⟨b,us,h1,h2,h X us h3⟩
theorem aI.qJ {cs:List AV} {k:Nat} {x y:AV} (hk:cs[k]? =some x) (h: ∀X u,C0 X x u→C0 X y u) {X:CX} {us:List Value} (ha:aI (C0 X) cs us):aI (C0 X) (cs.set k y) us:=by
 refine⟨by simpa using ha.1,fun i z u hz hu=>?_⟩
 rw[List.getElem?_set]at hz
 by_cases e:k=i
 · subst e
   simp only[if_true]at hz
   split at hz
   · cases hz;exact h X u (ha.2 k _ u hk hu)
   · cases hz
 · rw[if_neg e]at hz
   exact ha.2 i z u hz hu
end
section
open Go.RowKit
theorem Rq (c:aW) (l:List Ev) (hc: ∀r,0≤c.at r∧c.at r≤1000000) (hl:l.length≤1000000) {d w:List Ev} {c':aW} (hd:mg c l=(d,w,c')):
  aH Tryz.prog 129 [c.av,.sl 12 l.length true (dX l)] (.dF [.sl 12 d.length true (dX d),.sl 12 w.length true (dX w),c'.av]) []:=by
 have hhas:=Gx c
 dsimp only[aW.av,aW.cs]at hhas⊢
 have U:=Tryz.underlying221
 refine K1.E 0x200f80000800080000f575f7 Tryz.func129 ?_
 repeat' ((conv=>whnf);first|refine K1.w ?_|refine K1.u ?_|refine nS.mkM ?_|refine K1.o (id:=8) [(0,none),(1,none),(3,none),(2,some [1]),(4,some [3,1])] [(2,[1]),(4,[3,1])] ?_|refine K1.o (id:=26) [(0,none),(1,none),(2,none),(3,none),(4,none),(5,some [2])] [(5,[2])] ?_|refine K1.z ?_|refine K1.y (fun _=>?_) (fun _=>?_)|fail)
 conv=>whnf
 refine aN.nil 8 90 42 12 (dX []) rfl (by decide) ?_
 refine aN.mk {j:Nat//j≤l.length} (fun j=>⟨[(22,.v (.int .i64 (j.1:Int))),(21,.v (.int .i64 (l.length:Int))),(20,.sl 12 l.length true (dX l)),(8,.own 90),(7,.own 2),(6,.box 1 0),(5,.v (.slice none 0 0)),(4,.v (.slice none 0 0)),(2,.box 0 0)],
   [(0,.box 31 c.cs),(1,.box 31 bY.cs),(2,.obs (Rn (Ce (mM c (l.take j.1))))),(90,fC (mM c (l.take j.1)))],[],91⟩) (fun j=>l.length-j.1) ⟨0,Nat.zero_le _⟩ _
  (dL.mk' [] _ _ _ rfl ⟨aS.int rfl,aj,aj,aj,aj,aj,aj,aj,aj,trivial⟩ ⟨aF rfl,aF rfl,aF rfl,aF rfl,trivial⟩ rfl) ?_
 rintro⟨j,hj⟩
 dsimp only
 by_cases hjl:j<l.length
 · have hst:=GX (c:=c) hjl
   have hwl:=Dc c l j hj
   rw[show l.getD j default=l.getD (j:Int).toNat default from rfl]at hst
   have hm:=qm (l.getD (j:Int).toNat default)
   have hh:=hhas (l.getD (j:Int).toNat default).r (l.getD (j:Int).toNat default).n
   have hev:=nG (l.getD (j:Int).toNat default)
   generalize mM c (l.take j)=w0 at hst hwl⊢
   dsimp only[Ev.av,Ev.cs,fC]at hm hev⊢
   cases hf:JU w0 (l.getD (j:Int).toNat default).r (l.getD (j:Int).toNat default).n with
   | some x=>
     obtain⟨h1,h2,A,B,hs⟩:=Bg hf
     have hs0:Ce w0=Ce A++(qK (l.getD (j:Int).toNat default).r (l.getD (j:Int).toNat default).n,evV x)::Ce B:=by rw[hs,GV,h1,h2]
     have hnx:rP c w0 (l.getD (j:Int).toNat default)=w0:=by unfold rP;rw[hf];rfl
     rw[hnx]at hst
     clear hf h1 h2 hs hnx hd
     repeat' ((conv=>whnf);first|refine K1.w ?_|refine K1.u ?_|refine K1.P1 hm rfl ?_|refine K1.P1 hh rfl ?_|refine nS.Ui kK U rfl rfl rfl (jH _ _) ⟨_,_,rfl⟩ ⟨_,rO⟩ (nG x) hs0 (Bf w0) ?_|refine K1.o (id:=8) [(0,none),(1,none),(3,none),(2,some [1]),(4,some [3,1])] [(2,[1]),(4,[3,1])] ?_|refine K1.o (id:=26) [(0,none),(1,none),(2,none),(3,none),(4,none),(5,some [2])] [(5,[2])] ?_|refine K1.z ?_|refine K1.y (fun _=>?_) (fun _=>?_)|fail)
     all_goals(conv=>whnf)
     exact⟨⟨j+1,hjl⟩,_,dL.mk' [] _ _ _ rfl ⟨aS.int rfl,aj,aj,aj,aj,aj,aj,aj,aj,trivial⟩ ⟨aF rfl,aF rfl,⟨_,rfl,by dsimp only;rw[hst];exact bW.refl _⟩,⟨_,rfl,by dsimp only;rw[hst];exact bW.refl _⟩,trivial⟩ rfl,by show l.length-(j+1)<l.length-j;omega⟩
   | none=>
     have hno:=YL (Bh hf)
     cases hb:hasB c (l.getD (j:Int).toNat default).r (l.getD (j:Int).toNat default).n with
     | true=>
       rw[hb]at hh
       have hnx:rP c w0 (l.getD (j:Int).toNat default)=w0:=by unfold rP;rw[hb];simp
       rw[hnx]at hst
       clear hf hb hnx hd
       repeat' ((conv=>whnf);first|refine K1.w ?_|refine K1.u ?_|refine K1.P1 hm rfl ?_|refine K1.P1 hh rfl ?_|refine nS.look kK U rfl rfl rfl (jH _ _) ⟨_,_,rfl⟩ rO (nG ev0) hno ?_|refine K1.o (id:=8) [(0,none),(1,none),(3,none),(2,some [1]),(4,some [3,1])] [(2,[1]),(4,[3,1])] ?_|refine K1.o (id:=26) [(0,none),(1,none),(2,none),(3,none),(4,none),(5,some [2])] [(5,[2])] ?_|refine K1.z ?_|refine K1.y (fun _=>?_) (fun _=>?_)|fail)
       all_goals(conv=>whnf)
       exact⟨⟨j+1,hjl⟩,_,dL.mk' [] _ _ _ rfl ⟨aS.int rfl,aj,aj,aj,aj,aj,aj,aj,aj,trivial⟩ ⟨aF rfl,aF rfl,⟨_,rfl,by dsimp only;rw[hst];exact bW.refl _⟩,⟨_,rfl,by dsimp only;rw[hst];exact bW.refl _⟩,trivial⟩ rfl,by show l.length-(j+1)<l.length-j;omega⟩
     | false=>
       rw[hb]at hh
       have hnx:rP c w0 (l.getD (j:Int).toNat default)=w0++[l.getD (j:Int).toNat default]:=by unfold rP;rw[hb,hf];rfl
       rw[hnx]at hst
       clear hf hb hnx hd
       repeat' ((conv=>whnf);first|refine K1.w ?_|refine K1.u ?_|refine K1.P1 hm rfl ?_|refine K1.P1 hh rfl ?_|refine nS.look kK U rfl rfl rfl (jH _ _) ⟨_,_,rfl⟩ rO (nG ev0) hno ?_|refine nS.aeO kK U rfl rfl rfl (jH _ _) ⟨_,_,rfl⟩ rfl hev hno ?_|refine K1.o (id:=8) [(0,none),(1,none),(3,none),(2,some [1]),(4,some [3,1])] [(2,[1]),(4,[3,1])] ?_|refine K1.o (id:=26) [(0,none),(1,none),(2,none),(3,none),(4,none),(5,some [2])] [(5,[2])] ?_|refine K1.z ?_|refine K1.y (fun _=>?_) (fun _=>?_)|fail)
       all_goals(conv=>whnf)
       exact⟨⟨j+1,hjl⟩,_,dL.mk' [(94,90)] _ _ _ rfl ⟨aS.int rfl,aj,aj,aj,aj,aj,aj,aj,aj,trivial⟩ ⟨aF rfl,aF rfl,⟨_,rfl,by dsimp only;rw[hst,GV w0 []];exact bW.refl _⟩,⟨_,rfl,by dsimp only[fC];rw[hst];exact bW.row (by simp) fun m hm=>bJ (c:=Ev.cs) (l:=w0) rfl rfl m hm⟩,trivial⟩ rfl,by show l.length-(j+1)<l.length-j;omega⟩
 · obtain rfl:j=l.length:=by omega
   rw[List.take_length]
   have hwl:=Dc c l l.length (Nat.le_refl _)
   rw[List.take_length]at hwl
   unfold mg at hd
   have hdm:=YP c l
   have hsub:w.Sublist (mM c l):=by have:=Uj (mM c l).length c (mM c l) [];rw[hd]at this;exact this
   generalize mM c l=w0 at hwl hd hdm hsub⊢
   have hnx:=YM c w0 (fun r=>⟨(hc r).1,by have:=(hc r).2;omega⟩)
   generalize hnw:tX c w0=nx at hnx
   cases nx
   all_goals
    dsimp only[aW.av,aW.cs,Ev.av,Ev.cs,fC,Option.getD,Option.isSome]at hnx⊢
    repeat' ((conv=>whnf);first|refine K1.w ?_|refine K1.u ?_|refine K1.C 1 [(0,_)] (hnx) rfl ?_|refine K1.o (id:=8) [(0,none),(1,none),(3,none),(2,some [1]),(4,some [3,1])] [(2,[1]),(4,[3,1])] ?_|refine K1.o (id:=26) [(0,none),(1,none),(2,none),(3,none),(4,none),(5,some [2])] [(5,[2])] ?_|refine K1.z ?_|refine K1.y (fun _=>?_) (fun _=>?_)|fail)
    conv=>whnf
    refine aN.nil 4 95 42 12 (dX []) rfl (by decide) ?_
    refine aN.mk {s:aW×List Ev×List Ev×Option Ev//tX s.1 s.2.1=s.2.2.2∧YN s.2.1.length s.1 s.2.1 s.2.2.1=(d,w,c')∧s.2.2.1.length+s.2.1.length=w0.length∧ ∀r,0≤s.1.at r∧s.1.at r≤1000000+s.2.2.1.length}
     (fun x=>⟨[(14,.v (.bool x.1.2.2.2.isSome)),(13,.box 92 0),(8,.own 90),(7,.own 2),(6,.box 1 0),(5,.v (.slice none 0 0)),(4,.own 95),(2,.box 0 0)],
      [(92,.box 42 (x.1.2.2.2.getD ev0).cs),(2,.obs (Rn (Ce x.1.2.1))),(0,.box 31 x.1.1.cs),(1,.box 31 bY.cs),(90,fC w0),(95,fC x.1.2.2.1)],[],96⟩)
     (fun x=>x.1.2.1.length) ⟨(c,w0,[],_),hnw,hd,by simp,fun r=>⟨(hc r).1,by have:=(hc r).2;simpa using this⟩⟩ _
     (dL.mk' [] _ _ _ rfl ⟨aj,aj,aj,aj,aj,aj,aj,aj,trivial⟩ ⟨aF rfl,aF rfl,aF rfl,aF rfl,aF rfl,aF rfl,trivial⟩ rfl) ?_
    clear hnx hnw hd
    rintro⟨⟨c1,w1,d1,nx⟩,hn1,hdr,hlen,hc1⟩
    dsimp only at hn1 hdr hlen hc1⊢
    cases nx with
    | none=>
      have he:YN w1.length c1 w1 d1=(d1,w1,c1):=by
       cases h0:w1.length with
       |zero=>rfl
       |succ n=>unfold YN;rw[hn1]
      rw[he]at hdr
      cases hdr
      clear he hn1 hlen
      repeat' ((conv=>whnf);first|refine K1.w ?_|refine K1.u ?_|refine K1.o (id:=8) [(0,none),(1,none),(3,none),(2,some [1]),(4,some [3,1])] [(2,[1]),(4,[3,1])] ?_|refine K1.o (id:=26) [(0,none),(1,none),(2,none),(3,none),(4,none),(5,some [2])] [(5,[2])] ?_|refine K1.z ?_|refine K1.y (fun _=>?_) (fun _=>?_)|fail)
      conv=>whnf
      refine aN.CB 90 rfl ?_
      refine aN.nil 5 98 42 12 (dX []) rfl (by decide) ?_
      refine aN.mk {j:Nat//j≤w0.length} (fun j=>⟨[(82,.v (.int .i64 (j.1:Int))),(81,.v (.int .i64 (w0.length:Int))),(80,.sl 12 w0.length true (dX w0)),(7,.own 2),(6,.box 1 0),(5,.own 98),(4,.own 95),(2,.box 0 0)],
       [(2,.obs (Rn (Ce w))),(0,.box 31 c'.cs),(1,.box 31 bY.cs),(95,fC d),(98,fC ((w0.take j.1).filter fun e=>(JU w e.r e.n).isSome))],[],99⟩) (fun j=>w0.length-j.1) ⟨0,Nat.zero_le _⟩ _
       (dL.mk' [] _ _ _ rfl ⟨aS.int rfl,aj,aj,aj,aj,aj,aj,aj,trivial⟩ ⟨aF rfl,aF rfl,aF rfl,aF rfl,aF rfl,trivial⟩ rfl) ?_
      clear hc1 hhas hj hjl hc
      rintro⟨j,hj⟩
      dsimp only
      by_cases hjl:j<w0.length
      · have hft:(w0.take (j+1)).filter (fun e=>(JU w e.r e.n).isSome)=(w0.take j).filter (fun e=>(JU w e.r e.n).isSome)++(if(JU w (w0.getD (j:Int).toNat default).r (w0.getD (j:Int).toNat default).n).isSome then [w0.getD (j:Int).toNat default]else []):=by
         rw[List.take_succ_eq_append_getElem hjl,List.filter_append,show w0.getD (j:Int).toNat default=w0[j] by simp[List.getD,hjl]]
         congr 1
         rw[List.filter_cons,List.filter_nil]
        have hfl:((w0.take j).filter fun e=>(JU w e.r e.n).isSome).length≤j:=Nat.le_trans (List.length_filter_le ..) (by rw[List.length_take];omega)
        have hm:=qm (w0.getD (j:Int).toNat default)
        generalize(w0.take j).filter (fun e=>(JU w e.r e.n).isSome)=lf at hft hfl⊢
        dsimp only[Ev.av,Ev.cs,fC]at hm⊢
        cases hf:JU w (w0.getD (j:Int).toNat default).r (w0.getD (j:Int).toNat default).n with
        | some x=>
          obtain⟨h1,h2,A,B,hs⟩:=Bg hf
          have hs0:Ce w=Ce A++(qK (w0.getD (j:Int).toNat default).r (w0.getD (j:Int).toNat default).n,evV x)::Ce B:=by rw[hs,GV,h1,h2]
          rw[hf]at hft
          have hft:_=lf++[w0.getD (j:Int).toNat default]:=hft
          clear hf h1 h2 hs hdm hsub
          repeat' ((conv=>whnf);first|refine K1.w ?_|refine K1.u ?_|refine K1.P1 hm rfl ?_|refine nS.Ui kK U rfl rfl rfl (jH _ _) ⟨_,_,rfl⟩ ⟨_,rO⟩ (nG x) hs0 (Bf w) ?_|refine K1.o (id:=8) [(0,none),(1,none),(3,none),(2,some [1]),(4,some [3,1])] [(2,[1]),(4,[3,1])] ?_|refine K1.o (id:=26) [(0,none),(1,none),(2,none),(3,none),(4,none),(5,some [2])] [(5,[2])] ?_|refine K1.z ?_|refine K1.y (fun _=>?_) (fun _=>?_)|fail)
          all_goals(conv=>whnf)
          exact⟨⟨j+1,hjl⟩,_,dL.mk' [(102,98)] _ _ _ rfl ⟨aS.int rfl,aj,aj,aj,aj,aj,aj,aj,trivial⟩ ⟨aF rfl,aF rfl,aF rfl,aF rfl,⟨_,rfl,by dsimp only;rw[hft];exact bW.row (by simp) fun m hm=>bJ (c:=Ev.cs) (l:=lf) rfl rfl m hm⟩,trivial⟩ rfl,by show w0.length-(j+1)<w0.length-j;omega⟩
        | none=>
          have hno:=YL (Bh hf)
          rw[hf]at hft
          have hft:_=lf++[]:=hft
          rw[List.append_nil]at hft
          clear hf hdm hsub
          repeat' ((conv=>whnf);first|refine K1.w ?_|refine K1.u ?_|refine K1.P1 hm rfl ?_|refine nS.look kK U rfl rfl rfl (jH _ _) ⟨_,_,rfl⟩ rO (nG ev0) hno ?_|refine K1.o (id:=8) [(0,none),(1,none),(3,none),(2,some [1]),(4,some [3,1])] [(2,[1]),(4,[3,1])] ?_|refine K1.o (id:=26) [(0,none),(1,none),(2,none),(3,none),(4,none),(5,some [2])] [(5,[2])] ?_|refine K1.z ?_|refine K1.y (fun _=>?_) (fun _=>?_)|fail)
          all_goals(conv=>whnf)
          exact⟨⟨j+1,hjl⟩,_,dL.mk' [] _ _ _ rfl ⟨aS.int rfl,aj,aj,aj,aj,aj,aj,aj,trivial⟩ ⟨aF rfl,aF rfl,aF rfl,aF rfl,⟨_,rfl,by dsimp only;rw[hft];exact bW.refl _⟩,trivial⟩ rfl,by show w0.length-(j+1)<w0.length-j;omega⟩
      · obtain rfl:j=w0.length:=by omega
        rw[List.take_length,left_eq hdm hsub]
        clear hdm hsub
        dsimp only[fC,aW.cs]
        repeat' ((conv=>whnf);first|refine K1.w ?_|refine K1.u ?_|refine aJ.dO ?_|refine K1.o (id:=8) [(0,none),(1,none),(3,none),(2,some [1]),(4,some [3,1])] [(2,[1]),(4,[3,1])] ?_|refine K1.o (id:=26) [(0,none),(1,none),(2,none),(3,none),(4,none),(5,some [2])] [(5,[2])] ?_|refine K1.z ?_|refine K1.y (fun _=>?_) (fun _=>?_)|fail)
        all_goals(conv=>whnf)
        exact bF.mk (aj)
    | some e=>
      obtain⟨r,hr5,her,hen,_,_,hin⟩:=YQ hn1
      obtain⟨a,A,B,h1,h2,h3,h4⟩:=GY hin
      have hl1:=YR hin
      have hkv:Ce w1=Ce A++(qK e.r e.n,evV a)::Ce B:=by rw[h1,GV,h3,h4]
      have hrm:Ce (EC w1 e)=Ce A++Ce B:=by rw[h2];simp[Ce]
      have hall:=Bf w1
      have aeQ:YN (EC w1 e).length (c1.inc r) (EC w1 e) (d1++[e])=(d,w,c'):=by
       rw[←hl1]at hdr
       unfold YN at hdr
       rw[hn1]at hdr
       dsimp only at hdr
       rw[show e.r.toNat=r by omega]at hdr
       exact hdr
      have hlen2:(d1++[e]).length+(EC w1 e).length=w0.length:=by rw[List.length_append];simp;omega
      have hc2: ∀q,0≤(c1.inc r).at q∧(c1.inc r).at q≤1000000+((d1++[e]).length:Int):=fun q=>by
       have h1:=aa6 c1 q hr5
       have h2:=hc1 q
       rw[List.length_append]
       simp
       omega
      have k0:0≤c1.c0∧c1.c0≤1000000+(d1.length:Int):=hc1 0
      have k1:0≤c1.c1∧c1.c1≤1000000+(d1.length:Int):=hc1 1
      have k2:0≤c1.c2∧c1.c2≤1000000+(d1.length:Int):=hc1 2
      have k3:0≤c1.c3∧c1.c3≤1000000+(d1.length:Int):=hc1 3
      have k4:0≤c1.c4∧c1.c4≤1000000+(d1.length:Int):=hc1 4
      have hnx:=YM (c1.inc r) (EC w1 e) (fun q=>⟨(hc2 q).1,by have:=(hc2 q).2;omega⟩)
      generalize hnw:tX (c1.inc r) (EC w1 e)=nx at hnx
      rw[hrm]at hnx
      have hm:=qm e
      clear hn1 hdr h1 h2 h3 h4 hhas hdm hc hc1
      generalize EC w1 e=w2 at*
      cases nx
      all_goals
       rcases(show r=0∨r=1∨r=2∨r=3∨r=4 by omega)with rfl|rfl|rfl|rfl|rfl
      all_goals
       dsimp only[aW.av,aW.cs,Ev.av,Ev.cs,fC,Option.getD,Option.isSome,aW.inc,aW.at]at hnx hm⊢
       repeat' ((conv=>whnf);first|refine K1.w ?_|refine K1.u ?_|refine K1.C 1 [(0,_)] (hnx) rfl ?_|refine K1.P1 hm rfl ?_|refine nS.del rfl rfl rfl kK U rfl rfl rfl (jH _ _) ⟨_,_,rfl⟩ hkv hall ?_|refine pF.lit 0 her rfl ?_|refine pF.lit 1 her rfl ?_|refine pF.lit 2 her rfl ?_|refine pF.lit 3 her rfl ?_|refine pF.lit 4 her rfl ?_|refine K1.o (id:=8) [(0,none),(1,none),(3,none),(2,some [1]),(4,some [3,1])] [(2,[1]),(4,[3,1])] ?_|refine K1.o (id:=26) [(0,none),(1,none),(2,none),(3,none),(4,none),(5,some [2])] [(5,[2])] ?_|refine K1.z ?_|refine K1.y (fun _=>?_) (fun _=>?_)|fail)
       all_goals(conv=>whnf)
       refine⟨⟨(aW.inc c1 _,w2,d1++[e],_),hnw,aeQ,hlen2,hc2⟩,_,dL.mk' [(98,92),(97,95)] _ _ _ rfl ⟨aj,aj,aj,aj,aj,aj,aj,aj,trivial⟩ ⟨aF rfl,⟨_,rfl,by dsimp only;rw[hrm];exact bW.refl _⟩,aF rfl,aF rfl,aF rfl,⟨_,rfl,bW.row (by simp) fun m hm=>bJ (c:=Ev.cs) (l:=d1) rfl rfl m hm⟩,trivial⟩ rfl,by dsimp only;omega⟩
end
section
open Go.RowKit
theorem Ch.evs {n:Nat} {F:Nat→List AV} {l:List Ev} (hn:n=l.length) (hF: ∀i,i<n→F i=dX l i) {xs ys:List AV} (h:Ch xs ys):Ch (.sl 12 n true F::xs) (.sl 12 l.length true (dX l)::ys):= .of (fun X u hu=>aS.sl hn hF X u hu) h
theorem Df (c:aW) (l:List Ev) (hc: ∀r,0≤c.at r∧c.at r≤1000000) (hl:l.length≤1000000) {d w:List Ev} {c':aW} (hd:mg c l=(d,w,c')) {n:Nat} {F:Nat→List AV} (hn:n=l.length) (hF: ∀i,i<n→F i=dX l i):
  aH Tryz.prog 129 [c.av,.sl 12 n true F] (.dF [.sl 12 d.length true (dX d),.sl 12 w.length true (dX w),c'.av]) []:=(Rq c l hc hl hd).args (.same (Ch.evs hn hF .nil))
def zY (most:Int) (c:aW) (h:AV):AO:= .box 118 [.v (.int .i64 most),.v (.int .i64 c.c0),.v (.int .i64 c.c1),.v (.int .i64 c.c2),.v (.int .i64 c.c3),.v (.int .i64 c.c4),h]
def Nl (most batch sent:Int) (m:AV):AO:= .box 132 [.v (.int .i64 most),.v (.int .i64 batch),.v (.int .i64 sent),m]
def iP:AV:= .v (.slice none 0 0)
theorem OU (most:Int) (c:aW):aV Tryz.prog 102 [] [.v (.int .i64 most),c.av] (.box 0 0) [(0,zY most c iP)]:=by
 dsimp only[aW.av,aW.cs,zY,iP]
 refine K1.M 0x1b Tryz.func102 40 ?_
 repeat' ((conv=>whnf);first|refine K1.w ?_|refine K1.u ?_|refine K1.z ?_|refine K1.y (fun _=>?_) (fun _=>?_)|fail)
 all_goals(conv=>whnf)
 exact⟨[(41,0)],rfl,rfl,⟨aF rfl,trivial⟩,rfl,rfl,aj⟩
theorem OV (most batch sent:Int):aV Tryz.prog 101 [] [.v (.int .i64 most),.v (.int .i64 batch),.v (.int .i64 sent)] (.box 0 0) [(0,Nl most batch sent iP)]:=by
 dsimp only[Nl,iP]
 refine K1.M 0x47 Tryz.func101 40 ?_
 repeat' ((conv=>whnf);first|refine K1.w ?_|refine K1.u ?_|refine K1.z ?_|refine K1.y (fun _=>?_) (fun _=>?_)|fail)
 all_goals(conv=>whnf)
 exact⟨[(40,0)],rfl,rfl,⟨aF rfl,trivial⟩,rfl,rfl,aj⟩
theorem YU (most:Int) (c:aW) (h:AV) (hh:h=iP∨ ∃n F,h= .sl 12 n true F) (e:Ev) (hc: ∀r,0≤c.at r∧c.at r≤1000000) {d w:List Ev} {c':aW} (hd:mg c [e]=(d,w,c')):
  aV Tryz.prog 55 [(0,zY most c h)] [.box 0 0,e.av] (.v (.int .i64 (if d.length=0 then 20 else 0))) [(0,zY most (if d.length=0 then c else c') h)]:=by
 have hdr:=Df c [e] hc (by simp) hd (n:=1) (F:=chunk 12 e.cs) rfl fun i hi=>by
  obtain rfl:i=0:=by omega
  rfl
 dsimp only[aW.av,aW.cs,Ev.av,Ev.cs,zY]at hdr⊢
 rcases hh with rfl|⟨n,F,rfl⟩
 all_goals
  try dsimp only[iP]
  by_cases h0:d.length=0
  · rw[if_pos h0,if_pos h0]
    refine K1.M 0x400bb Tryz.func55 40 ?_
    repeat' ((conv=>whnf);first|refine K1.w ?_|refine K1.u ?_|refine K1.P1 hdr rfl ?_|refine K1.I 0x73 Tryz.func95 ?_|refine K1.z ?_|refine K1.y (fun _=>?_) (fun _=>?_)|fail)
    all_goals(conv=>whnf)
    exact⟨[],rfl,rfl,⟨aF rfl,trivial⟩,rfl,rfl,aj⟩
  · rw[if_neg h0,if_neg h0]
    refine K1.M 0x400bb Tryz.func55 40 ?_
    repeat' ((conv=>whnf);first|refine K1.w ?_|refine K1.u ?_|refine K1.P1 hdr rfl ?_|refine K1.I 0x73 Tryz.func95 ?_|refine K1.z ?_|refine K1.y (fun _=>?_) (fun _=>?_)|fail)
    all_goals(conv=>whnf)
    exact⟨[],rfl,rfl,⟨aF rfl,trivial⟩,rfl,rfl,aj⟩
theorem qL (most:Int) (c:aW) (h:AV) (hh:h=iP∨ ∃n F,h= .sl 12 n true F):aV Tryz.prog 29 [(0,zY most c h)] [.box 0 0] c.av [(0,zY most c h)]:=by
 dsimp only[aW.av,aW.cs,zY]
 rcases hh with rfl|⟨n,F,rfl⟩
 all_goals
  try dsimp only[iP]
  refine K1.M 0x5 Tryz.func29 40 ?_
  repeat' ((conv=>whnf);first|refine K1.w ?_|refine K1.u ?_|refine K1.z ?_|refine K1.y (fun _=>?_) (fun _=>?_)|fail)
  all_goals(conv=>whnf)
  exact⟨[],rfl,rfl,⟨aF rfl,trivial⟩,rfl,rfl,aj⟩
def Uk (c:aW) (r:Nat):aW:=if c.at r<1048576 then c.inc r else bY
theorem GZ (c:aW) (r:Nat) (hr:r<5) (hc:0≤c.at r):aH Tryz.prog 52 [c.av,.v (.int .i64 (r:Int))] (.dF [(Uk c r).av,.v (.int .i64 (if c.at r<1048576 then 0 else 25))]) []:=by
 unfold Uk
 by_cases h:c.at r<1048576
 · rw[if_pos h,if_pos h]
   rcases(show r=0∨r=1∨r=2∨r=3∨r=4 by omega)with rfl|rfl|rfl|rfl|rfl
   all_goals
    simp only[aW.at]at h hc
    simp only[aW.av,aW.cs,aW.inc]
    refine K1.E 0x10837 Tryz.func52 ?_
    repeat' ((conv=>whnf);first|refine K1.w ?_|refine K1.u ?_|refine pF.mk (by decide) ?_|refine aJ.dO ?_|refine K1.z ?_|refine K1.y (fun _=>?_) (fun _=>?_)|fail)
    all_goals(conv=>whnf)
    exact bF.mk (aj)
 · rw[if_neg h,if_neg h]
   rcases(show r=0∨r=1∨r=2∨r=3∨r=4 by omega)with rfl|rfl|rfl|rfl|rfl
   all_goals
    simp only[aW.at]at h hc
    simp only[aW.av,aW.cs,bY]
    refine K1.E 0x10837 Tryz.func52 ?_
    repeat' ((conv=>whnf);first|refine K1.w ?_|refine K1.u ?_|refine pF.mk (by decide) ?_|refine aJ.dO ?_|refine K1.z ?_|refine K1.y (fun _=>?_) (fun _=>?_)|fail)
    all_goals(conv=>whnf)
    exact bF.mk (aj)
theorem Bj (l:List Ev) (c:aW) (hl:l.length≤1000000000) (hh: ∀e∈l,0≤e.h∧e.h≤1000000000):
  aH Tryz.prog 53 [.sl 12 l.length true (dX l),c.av] (.v (.int .i64 (hgt l c))) []:=by
 dsimp only[aW.av,aW.cs]
 refine K1.E 0x40001f7b Tryz.func53 ?_
 repeat' ((conv=>whnf);first|refine K1.w ?_|refine K1.u ?_|refine aJ.dO ?_|refine K1.z ?_|refine K1.y (fun _=>?_) (fun _=>?_)|fail)
 conv=>whnf
 refine aN.mk {x:Nat×(Int×Bool)//x.1≤l.length∧x.2=GK c (l.take x.1)} (fun x=>⟨[(9,.sl 12 l.length true (dX l)),(10,.v (.int .i64 (l.length:Int))),(3,.box 0 0),(5,.v (.int .i64 x.1.2.1)),(6,.v (.bool x.1.2.2)),(11,.v (.int .i64 (x.1.1:Int)))],
   [(0,.box 31 c.cs)],[],1⟩) (fun x=>l.length-x.1.1) ⟨(0,(0,false)),Nat.zero_le _,rfl⟩ _
  (dL.mk' [] _ _ _ rfl ⟨aj,aj,aj,aj,aj,aS.int rfl,trivial⟩ ⟨aF rfl,trivial⟩ rfl) ?_
 rintro⟨⟨j,s⟩,hj,hs⟩
 dsimp only at hj hs⊢
 have hb:=GL (c:=c) (M:=1000000000) (by omega) (l.take j) (fun e he=>hh e (List.mem_of_mem_take he)) (0,false) (by simp)
 have hs':s=(l.take j).foldl (pK c) (0,false):=hs
 rw[←hs']at hb
 by_cases hjl:j<l.length
 · have hhas:=Gx c (l.getD (j:Int).toNat default).r (l.getD (j:Int).toNat default).n
   have hft:GK c (l.take (j+1))=pK c s (l.getD (j:Int).toNat default):=by rw[hs];exact ql hjl
   have hst:pK c s (l.getD (j:Int).toNat default)=if(hasB c (l.getD (j:Int).toNat default).r (l.getD (j:Int).toNat default).n&&(!s.2||decide (s.1<(l.getD (j:Int).toNat default).h)))=true then((l.getD (j:Int).toNat default).h,true)else s:=rfl
   rw[hst]at hft
   generalize hasB c (l.getD (j:Int).toNat default).r (l.getD (j:Int).toNat default).n=q at hhas hft
   clear hs' hst hs hh
   obtain⟨s1,s2⟩:=s
   dsimp only at hb hft⊢
   have k1:q=true→s2=false→((l.getD (j:Int).toNat default).h,true)=GK c (l.take (j+1)):=fun h1 h2=>by rw[hft,h1,h2];simp
   have k2:q=true→s1<(l.getD (j:Int).toNat default).h→((l.getD (j:Int).toNat default).h,true)=GK c (l.take (j+1)):=fun h1 h2=>by rw[hft,h1,decide_eq_true h2];simp
   have k3:q=false→(s1,s2)=GK c (l.take (j+1)):=fun h1=>by rw[hft,h1];simp
   have k4:s2=true→ ¬s1<(l.getD (j:Int).toNat default).h→(s1,s2)=GK c (l.take (j+1)):=fun h1 h2=>by rw[hft,h1,decide_eq_false h2];simp
   clear hft
   dsimp only[aW.av,aW.cs]at hhas⊢
   repeat' ((conv=>whnf);first|refine K1.w ?_|refine K1.u ?_|refine K1.P1 hhas rfl ?_|refine aJ.dO ?_|refine K1.z ?_|refine K1.y (fun _=>?_) (fun _=>?_)|fail)
   all_goals(conv=>whnf)
   all_goals first
     |exact⟨⟨(j+1,(_,true)),hjl,by first|exact k1 (by assumption) (by assumption)|exact k2 (by assumption) (by omega)⟩,_,dL.mk' [] _ _ _ rfl ⟨aj,aj,aj,aj,aj,aS.int rfl,trivial⟩ ⟨aF rfl,trivial⟩ rfl,Nat.sub_succ_lt_self _ _ hjl⟩
     |exact⟨⟨(j+1,(s1,s2)),hjl,by first|exact k3 (by assumption)|exact k4 (by assumption) (by omega)⟩,_,dL.mk' [] _ _ _ rfl ⟨aj,aj,aj,aj,aj,aS.int rfl,trivial⟩ ⟨aF rfl,trivial⟩ rfl,Nat.sub_succ_lt_self _ _ hjl⟩
 · rw[List.take_of_length_le (show l.length≤j by omega)]at hs
   have hR:hgt l c=s.1+1:=by rw[hs];rfl
   rw[hR]
   repeat' ((conv=>whnf);first|refine K1.w ?_|refine K1.u ?_|refine aJ.dO ?_|refine K1.z ?_|refine K1.y (fun _=>?_) (fun _=>?_)|fail)
   conv=>whnf
   exact bF.mk (aj)
theorem Vz {n:Nat} {F:Nat→List AV} (hl:n≤1000000000):aH Tryz.prog 65 [.sl 12 n true F] (.sl 12 n true F) []:=by
 refine K1.E 0x15 Tryz.func65 ?_
 repeat' ((conv=>whnf);first|refine K1.w ?_|refine K1.u ?_|refine aJ.dO ?_|refine K1.z ?_|refine K1.y (fun _=>?_) (fun _=>?_)|fail)
 all_goals(conv=>whnf)
 · obtain rfl:n=0:=by assumption
   exact bF.mk fun X u h=>C1.iP (by decide) h
 · exact bF.mk (aS.sl (Nat.zero_add _) fun i _=>rfl)
def yu (sent:Int) (w:List Ev):Int:=if w.length=0 then sent else(w.getD (w.length-1) default).n
def Mc (most sent:Int) (w:List Ev) (e:Ev):List Ev×Int:=if most≤(w.length:Int)then(w,17)else if e.n=yu sent w+1 then(w++[e],0)else(w,20)
theorem OW (most batch sent:Int) (w w':List Ev) (e:Ev) (x:Int) (hl:w.length≤1000000) (hs:0≤sent∧sent≤1000000000) (hn: ∀j,0≤(w.getD j default).n∧(w.getD j default).n≤1000000000) (h:Mc most sent w e=(w',x)):
  aV Tryz.prog 56 [(0,Nl most batch sent (.own 1)),(1,fC w)] [.box 0 0,e.av] (.v (.int .i64 x)) [(0,Nl most batch sent (.own 2)),(2,fC w')]:=by
 have hlast:=hn ((w.length:Int)-1).toNat
 have hl1:w.length≠0→yu sent w=(w.getD ((w.length:Int)-1).toNat default).n:=fun h=>by unfold yu;rw[if_neg h,show((w.length:Int)-1).toNat=w.length-1 by omega]
 have hl0:w.length=0→yu sent w=sent:=fun h=>by unfold yu;rw[if_pos h]
 have Md:w.length≠0→Nat.ble (((w.length:Int)-1).toNat+1) w.length=true:=fun h=>Nat.ble_eq_true_of_le (by omega)
 unfold Mc at h
 dsimp only[Nl,fC,Ev.av,Ev.cs]
 clear hn
 by_cases hm:most≤(w.length:Int)
 · rw[if_pos hm]at h
   cases h
   refine K1.M 0x40010027b Tryz.func56 40 ?_
   repeat' ((conv=>whnf);first|refine K1.w ?_|refine K1.u ?_|refine K1.I 0x5 Tryz.func51 ?_|refine K1.o (id:=9) [(0,none),(1,none),(2,none),(3,none),(4,none),(5,none),(6,some [5]),(7,some [5,4,2]),(8,none),(9,none),(10,some [5,4,2,8])] [(3,[2]),(4,[2]),(6,[5]),(7,[5,4,2]),(8,[5,4,2]),(9,[5,4,2,8]),(10,[5,4,2,8])] ?_|refine K1.z ?_|refine K1.y (fun _=>?_) (fun _=>?_)|fail)
   all_goals(conv=>whnf)
   exact⟨[(1,2)],rfl,rfl,⟨aF rfl,aF rfl,trivial⟩,rfl,rfl,aj⟩
 · rw [if_neg hm]at h
   by_cases h0:w.length=0
   · rw[hl0 h0]at h
     clear hl0 hl1 Md
     by_cases he:e.n=sent+1
     · rw[if_pos he]at h
       cases h
       refine K1.M 0x40010027b Tryz.func56 40 ?_
       repeat' ((conv=>whnf);first|refine K1.w ?_|refine K1.u ?_|refine K1.I 0x5 Tryz.func51 ?_|refine K1.o (id:=9) [(0,none),(1,none),(2,none),(3,none),(4,none),(5,none),(6,some [5]),(7,some [5,4,2]),(8,none),(9,none),(10,some [5,4,2,8])] [(3,[2]),(4,[2]),(6,[5]),(7,[5,4,2]),(8,[5,4,2]),(9,[5,4,2,8]),(10,[5,4,2,8])] ?_|refine K1.z ?_|refine K1.y (fun _=>?_) (fun _=>?_)|fail)
       all_goals(conv=>whnf)
       exact⟨[(42,2)],rfl,rfl,⟨aF rfl,⟨_,rfl,bW.row (by simp) fun m hm=>bJ (c:=Ev.cs) (l:=w) rfl rfl m hm⟩,trivial⟩,rfl,rfl,aj⟩
     · rw[if_neg he]at h
       cases h
       refine K1.M 0x40010027b Tryz.func56 40 ?_
       repeat' ((conv=>whnf);first|refine K1.w ?_|refine K1.u ?_|refine K1.I 0x5 Tryz.func51 ?_|refine K1.o (id:=9) [(0,none),(1,none),(2,none),(3,none),(4,none),(5,none),(6,some [5]),(7,some [5,4,2]),(8,none),(9,none),(10,some [5,4,2,8])] [(3,[2]),(4,[2]),(6,[5]),(7,[5,4,2]),(8,[5,4,2]),(9,[5,4,2,8]),(10,[5,4,2,8])] ?_|refine K1.z ?_|refine K1.y (fun _=>?_) (fun _=>?_)|fail)
       all_goals(conv=>whnf)
       exact⟨[(1,2)],rfl,rfl,⟨aF rfl,aF rfl,trivial⟩,rfl,rfl,aj⟩
   · rw[hl1 h0]at h
     have Md:=Md h0
     clear hl0 hl1
     by_cases he:e.n=(w.getD ((w.length:Int)-1).toNat default).n+1
     · rw[if_pos he]at h
       cases h
       refine K1.M 0x40010027b Tryz.func56 40 ?_
       repeat' ((conv=>whnf);first|refine K1.w ?_|refine K1.u ?_|refine K1.I 0x5 Tryz.func51 ?_|refine iH.yes Md ?_|refine K1.o (id:=9) [(0,none),(1,none),(2,none),(3,none),(4,none),(5,none),(6,some [5]),(7,some [5,4,2]),(8,none),(9,none),(10,some [5,4,2,8])] [(3,[2]),(4,[2]),(6,[5]),(7,[5,4,2]),(8,[5,4,2]),(9,[5,4,2,8]),(10,[5,4,2,8])] ?_|refine K1.z ?_|refine K1.y (fun _=>?_) (fun _=>?_)|fail)
       all_goals(conv=>whnf)
       exact⟨[(42,2)],rfl,rfl,⟨aF rfl,⟨_,rfl,bW.row (by simp) fun m hm=>bJ (c:=Ev.cs) (l:=w) rfl rfl m hm⟩,trivial⟩,rfl,rfl,aj⟩
     · rw[if_neg he]at h
       cases h
       refine K1.M 0x40010027b Tryz.func56 40 ?_
       repeat' ((conv=>whnf);first|refine K1.w ?_|refine K1.u ?_|refine K1.I 0x5 Tryz.func51 ?_|refine iH.yes Md ?_|refine K1.o (id:=9) [(0,none),(1,none),(2,none),(3,none),(4,none),(5,none),(6,some [5]),(7,some [5,4,2]),(8,none),(9,none),(10,some [5,4,2,8])] [(3,[2]),(4,[2]),(6,[5]),(7,[5,4,2]),(8,[5,4,2]),(9,[5,4,2,8]),(10,[5,4,2,8])] ?_|refine K1.z ?_|refine K1.y (fun _=>?_) (fun _=>?_)|fail)
       all_goals(conv=>whnf)
       exact⟨[(1,2)],rfl,rfl,⟨aF rfl,aF rfl,trivial⟩,rfl,rfl,aj⟩
end
end Go.Proofs.YtimhagicagdkfaaGreat
