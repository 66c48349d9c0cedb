/-
  Contracts of the walk:EvEq,Mk2,NdA,NdB,NdC,ClG,NdD.
-/
import Derived.Test.YtimhagicagdkfaaGreatNi9
import Derived.Laws.StructEq
import Derived.Laws.Cover2
import Derived.Test.YtimhagicagdkfaaGreatNi10
import Derived.Test.YtimhagicagdkfaaGreatNi6
set_option maxHeartbeats 16000000
set_option maxRecDepth 100000
set_option linter.unusedVariables false
set_option linter.unusedSimpArgs false
namespace Go.Proofs.YtimhagicagdkfaaGreat
section
open Go.RowKit
def bn.vs (c:bn):List Value:=[.int .i64 c.c0,.int .i64 c.c1,.int .i64 c.c2,.int .i64 c.c3,.int .i64 c.c4]
def Ev.vs (e:Ev):List Value:=[.int .i64 e.r,.int .i64 e.n,.int .i64 e.c.c0,.int .i64 e.c.c1,.int .i64 e.c.c2,.int .i64 e.c.c3,.int .i64 e.c.c4,.int .i64 e.h,.int .i64 e.k,.string e.key,.int .i64 e.l,.string e.v]
theorem bytes_inj {a b:ByteArray} (h:a.data.toList=b.data.toList):a=b:=by
 cases a;cases b
 simp only at h
 rw[Array.toList_inj.1 h]
theorem acB (a b:ByteArray):a.toList=b.toList↔a=b:=by
 rw[ByteArray.toList_eq,ByteArray.toList_eq]
 exact⟨bytes_inj,fun h=>by rw[h]⟩
theorem Ya:Tryz.prog.eqGuardType Tryz.prog.depth 42=false:=by kernel_rfl
theorem Oc (n:Nat) (a0 a1 a2 a3 a4 b0 b1 b2 b3 b4:Int) (w:World):(Op.equalIn (n+2) 31 (.agg #[.int .i64 a0,.int .i64 a1,.int .i64 a2,.int .i64 a3,.int .i64 a4]) (.agg #[.int .i64 b0,.int .i64 b1,.int .i64 b2,.int .i64 b3,.int .i64 b4])).run Tryz.prog w=
  .ok (decide (a0=b0∧a1=b1∧a2=b2∧a3=b3∧a4=b4)) w:=by
 rw[Op.equalIn]
 simp only[Sem.run_bind,run_underlying Tryz.underlying31,Result.andThen_ok]
 simp only[Std.Legacy.Range.forIn_eq_forIn_range',Std.Legacy.Range.size,Nat.sub_zero,Nat.add_sub_cancel,Nat.div_one,List.range'_succ,List.range'_zero,List.forIn_cons,List.forIn_nil]
 have u3:=Tryz.underlying3
 have a3:=Tryz.isAgg3
 have z3:=Tryz.sizeOf3
 go_simp
 repeat' split
 all_goals simp_all
theorem bn.eq_iff (a b:bn):(a.c0=b.c0∧a.c1=b.c1∧a.c2=b.c2∧a.c3=b.c3∧a.c4=b.c4)↔a=b:=by
 obtain⟨a0,a1,a2,a3,a4⟩:=a
 obtain⟨b0,b1,b2,b3,b4⟩:=b
 simp
theorem UR:Tryz.prog.eqGuardType Tryz.prog.depth 31=false:=by kernel_rfl
theorem uy (a b:bn):Ep Tryz.prog 31 a.vs b.vs (a=b):=
 ⟨UR,fun w=>⟨_,by rw[decide_eq_true_eq,bn.eq_iff],Oc 9998 _ _ _ _ _ _ _ _ _ _ w⟩⟩
theorem aaB (a b:Ev) (w:World):(Op.equalIn 10000 42 (.agg a.vs.toArray) (.agg b.vs.toArray)).run Tryz.prog w=
  .ok (decide (a.r=b.r∧a.n=b.n∧(a.c.c0=b.c.c0∧a.c.c1=b.c.c1∧a.c.c2=b.c.c2∧a.c.c3=b.c.c3∧a.c.c4=b.c.c4)∧a.h=b.h∧a.k=b.k∧a.key=b.key∧a.l=b.l∧a.v=b.v)) w:=by
 have hS:Tryz.prog.underlying 42=some (.struct (Tryz.prog.fieldsOf 42)):=by kernel_rfl
 have u3:=Tryz.underlying3
 have a3:=Tryz.isAgg3
 have z3:=Tryz.sizeOf3
 have u4:=Tryz.underlying9
 have a4:=Tryz.isAgg9
 have z4:=Tryz.sizeOf9
 have a5:=Tryz.isAgg31
 have z5:=Tryz.sizeOf31
 rw[show(10000:Nat)=9999+1 from rfl,run_equalIn_agg w 9999 42 _ _ hS (by kernel_rfl)]
 simp only[Program.fieldsOf,Tryz.underlying42]
 have hk:=Oc 9997
 unfold Ev.vs
 go_simp
 simp only[acB]
 repeat' split
 all_goals simp_all
theorem Ev.eq_iff (a b:Ev):(a.r=b.r∧a.n=b.n∧(a.c.c0=b.c.c0∧a.c.c1=b.c.c1∧a.c.c2=b.c.c2∧a.c.c3=b.c.c3∧a.c.c4=b.c.c4)∧a.h=b.h∧a.k=b.k∧a.key=b.key∧a.l=b.l∧a.v=b.v)↔a=b:=by
 rw[bn.eq_iff]
 obtain⟨a0,a1,a2,a3,a4,a5,a6,a7⟩:=a
 obtain⟨b0,b1,b2,b3,b4,b5,b6,b7⟩:=b
 simp
theorem adI (a b:Ev):Ep Tryz.prog 42 a.vs b.vs (a=b):=
 ⟨Ya,fun w=>⟨_,by rw[decide_eq_true_eq,Ev.eq_iff],aaB a b w⟩⟩
end
section
open Go.RowKit
def rV (H:Nat→bn) (r:Nat) (c:bn):Nat→bn:=fun i=>bif Nat.beq i r then c else H i
def bn.inc (c:bn):Nat→bn
  |0=>⟨c.c0+1,c.c1,c.c2,c.c3,c.c4⟩
  |1=>⟨c.c0,c.c1+1,c.c2,c.c3,c.c4⟩
  |2=>⟨c.c0,c.c1,c.c2+1,c.c3,c.c4⟩
  |3=>⟨c.c0,c.c1,c.c2,c.c3+1,c.c4⟩
  |_=>⟨c.c0,c.c1,c.c2,c.c3,c.c4+1⟩
abbrev Mk:=List Ev×(Nat→bn)
def Wy.ed (c:Wy):Ed:=⟨c.k,c.key,c.l,c.v⟩
def C9 (out:List Ev) (H:Nat→bn) (r:Nat) (x:Ed):Ev:=⟨(r:Int),(H r).at r+1,H r,hgt out (H r),x.k,x.key,x.l,x.v⟩
def acC (s:Mk) (r f:Nat):Mk:=(s.1,rV s.2 r ((s.2 r).join (s.2 f)))
def acD (s:Mk) (r:Nat) (x:Ed):Mk:=(s.1++[C9 s.1 s.2 r x],rV s.2 r ((s.2 r).inc r))
def FU (s:Mk) (c:Wy):Mk:=
 if c.sy=true then acC s (c.r%5).toNat (c.f%5).toNat else acD s (c.r%5).toNat (lY c.ed)
def bn.in (c:bn) (M:Int):Prop:=(0≤c.c0∧c.c0≤M)∧(0≤c.c1∧c.c1≤M)∧(0≤c.c2∧c.c2≤M)∧(0≤c.c3∧c.c3≤M)∧(0≤c.c4∧c.c4≤M)
def MkB (s:Mk) (n:Nat):Prop:=(∀q,(s.2 q).in n)∧(∀e∈s.1,0≤e.h∧e.h≤(n:Int))∧s.1.length≤n
theorem bn.in.mono {c:bn} {M N:Int} (h:c.in M) (hMN:M≤N):c.in N:=by unfold bn.in at*;omega
theorem bn.in.join {a b:bn} {M:Int} (ha:a.in M) (hb:b.in M):(a.join b).in M:=by
 unfold bn.in at*
 unfold bn.join Hq
 simp only
 refine⟨?_, ?_, ?_, ?_, ?_⟩<;>split<;>omega
theorem bn.in.inc {a:bn} {M:Int} (ha:a.in M): ∀r,(a.inc r).in (M+1)
  |0=>by unfold bn.in bn.inc at*;simp only;omega
  |1=>by unfold bn.in bn.inc at*;simp only;omega
  |2=>by unfold bn.in bn.inc at*;simp only;omega
  |3=>by unfold bn.in bn.inc at*;simp only;omega
  |_+4=>by unfold bn.in bn.inc at*;simp only;omega
theorem Oe {P:bn→Prop} {H:Nat→bn} {r:Nat} {c:bn} (h: ∀q,P (H q)) (hc:P c) (q:Nat):P (rV H r c q):=by
 unfold rV
 cases Nat.beq q r with
 |true=>exact hc
 |false=>exact h q
theorem MkB.step {s:Mk} {n:Nat} (h:MkB s n) (c:Wy):MkB (FU s c) (n+1):=by
 obtain⟨h1,h2,h3⟩:=h
 have h1': ∀q,(s.2 q).in ((n+1:Nat):Int):=fun q=>(h1 q).mono (by omega)
 unfold FU
 split
 · exact⟨fun q=>Oe (P:=fun c=>c.in ((n+1:Nat):Int)) h1' ((h1' _).join (h1' _)) q,fun e he=>by have:=h2 e he;omega,by show s.1.length≤_;omega⟩
 · refine⟨fun q=>Oe (P:=fun c=>c.in ((n+1:Nat):Int)) h1' ?_ q,fun e he=>?_, ?_⟩
   · have:=(h1 (c.r%5).toNat).inc (c.r%5).toNat
     exact this.mono (by omega)
   · rcases List.mem_append.1 he with he|he
     · have:=h2 e he
       omega
     · rw[List.mem_singleton.1 he]
       have:=aaw (c:=s.2 (c.r%5).toNat) (M:=n) (by omega) h2
       show 0≤hgt s.1 (s.2 (c.r%5).toNat)∧hgt s.1 (s.2 (c.r%5).toNat)≤((n+1:Nat):Int)
       omega
   · show(s.1++[_]).length≤_
     rw[List.length_append,List.length_singleton]
     omega
end
section
open Go.RowKit
def FV (r n:Int):List Value:=[.int .i64 r,.int .i64 n]
def qA (r n:Int):Value:= .agg (FV r n).toArray
def WA (e:Ev):Value:= .agg e.vs.toArray
def QD (v:Value):Prop:= ∃r n,v=qA r n
def Bo (l:List Ev):List (Value×Value):=l.map fun e=>(qA e.r e.n,WA e)
theorem Jf {r n r' n':Int}:qA r n=qA r' n'↔r=r'∧n=n':=by simp[qA,FV]
theorem UU (a b a' b':Int) (w:World):(Op.equalIn 10000 44 (.agg #[.int .i64 a,.int .i64 b]) (.agg #[.int .i64 a',.int .i64 b'])).run Tryz.prog w= .ok (decide (a=a'∧b=b')) w:=by
 have hS:Tryz.prog.underlying 44=some (.struct (Tryz.prog.fieldsOf 44)):=by kernel_rfl
 have u3:=Tryz.underlying3
 have a3:=Tryz.isAgg3
 have z3:=Tryz.sizeOf3
 rw[show(10000:Nat)=9999+1 from rfl,run_equalIn_agg w 9999 44 _ _ hS (by kernel_rfl)]
 simp only[Program.fieldsOf,Tryz.underlying44]
 go_simp
 repeat' split
 all_goals simp_all
theorem Yb (m:Bool) (r n:Int) (w:World):(Instr.checkKey m 10000 44 (qA r n)).run Tryz.prog w= .ok () w:=by
 have u3:=Tryz.underlying3
 have a3:=Tryz.isAgg3
 have z3:=Tryz.sizeOf3
 rw[show(10000:Nat)=9999+1 from rfl,Instr.checkKey]
 simp only[Sem.run_bind,run_underlying Tryz.underlying44,Result.andThen_ok,qA,FV]
 have c3: ∀x:Int,(Instr.checkKey m 9999 3 (.int .i64 x)).run Tryz.prog w= .ok () w:=fun x=>MapKept.run_checkKey u3 (show MapKept.IsKey (.int .i64) (.int .i64 x)from rfl) m 9998
 go_simp
theorem kF:SV Tryz.prog 44 QD where
 chk:=by rintro m _ w ⟨r,n,rfl⟩;exact Yb m r n w
 now:=⟨_,Tryz.underlying44,by rintro _ _ ⟨r,n,rfl⟩ ⟨r',n',rfl⟩;rfl⟩
 eq:=by
  rintro _ _ w ⟨r,n,rfl⟩ ⟨r',n',rfl⟩
  exact⟨_,by rw[decide_eq_true_eq,Jf],UU r n r' n' w⟩
 bits:=by rintro _ ⟨r,n,rfl⟩;simp[qA,FV,Instr.sameBits]
theorem jC (r n:Int):Whole (.agg [.v (.int .i64 r),.v (.int .i64 n)]) (qA r n):=Whole.agg (FV r n)
theorem mV (e:Ev):Whole e.av (WA e):=Whole.agg e.vs
theorem Au (l:List Ev): ∀p∈Bo l,QD p.1:=fun p hp=>by
 obtain⟨e,_,rfl⟩:=List.mem_map.1 hp
 exact⟨_,_,rfl⟩
theorem Yc {l:List Ev} {r n:Int} (h: ∀e∈l,¬ (e.r=r∧e.n=n)): ∀p∈Bo l,QD p.1∧p.1≠qA r n:=fun p hp=>by
 obtain⟨e,he,rfl⟩:=List.mem_map.1 hp
 exact⟨⟨_,_,rfl⟩,fun e'=>h e he (Jf.1 e')⟩
def ev0:Ev:=⟨0,0,⟨0,0,0,0,0⟩,0,0,⟨#[]⟩,0,⟨#[]⟩⟩
theorem aaC {t:TypeId} {v:Value} (h:(Tryz.prog.info? t).bind (·.zero)=some v) (w:World):(zeroValue t).run Tryz.prog w= .ok v w:=by
 cases hi:Tryz.prog.info? t with
 |none=>rw[hi]at h;cases h
 | some info=>
   rw[hi]at h
   have h:info.zero=_:=h
   simp[zeroValue,typeInfo,hi,h]
theorem pI (w:World):(zeroValue 42).run Tryz.prog w= .ok (WA ev0) w:=aaC (by kernel_rfl) w
theorem pW (e:Ev):aG Tryz.prog 154 [e.av] (.agg [.v (.int .i64 e.r),.v (.int .i64 e.n)]) []:=by
 obtain⟨r,n,⟨c0,c1,c2,c3,c4⟩,h,k,key,l,v⟩:=e
 dsimp only[Ev.av,Ev.cs]
 refine K1.E 0x7 Tryz.func154 ?_
 repeat' ((conv=>whnf);first|refine K1.w ?_|refine K1.u ?_|refine aJ.dR ?_|refine K1.z ?_|refine K1.y (fun _=>?_) (fun _=>?_)|fail)
 all_goals(conv=>whnf)
 all_goals exact bG.mk (aj)
theorem aaD (a b:bn):aG Tryz.prog 184 [a.av,b.av] (.v (.bool (a.le b))) []:=by
 dsimp only[bn.av,bn.cs]
 refine K1.E 0x80ff Tryz.func184 ?_
 repeat' ((conv=>whnf);first|refine K1.w ?_|refine K1.u ?_|refine aN.sO 6 6 rfl ?_|refine aJ.dR ?_|refine K1.z ?_|refine K1.y (fun _=>?_) (fun _=>?_)|fail)
 all_goals(conv=>whnf)
 all_goals(refine bG.mk (aT.of ?_))
 all_goals(unfold bn.le;congr 2;simp;try omega)
end
section
open Go.RowKit
def Jg (l:List Ev) (r n:Int):Option Ev:=l.find? fun e=>decide (e.r=r∧e.n=n)
def sQ (c:bn) (l:List Ev) (r:Nat):Option Ev:=match Jg l r (c.at r+1)with
  |some e=>if 1≤e.n∧e.c.le c=true then some e else none
  |none=>none
def sS (c:bn) (l:List Ev):Option Ev:=(List.range 5).findSome? (sQ c l)
theorem Jh {c:bn} {l:List Ev} {j:Nat} {e:Ev} (hj:j<5) (hq: ∀q,q<j→sQ c l q=none) (h:sQ c l j=some e):sS c l=some e:=by
 unfold sS
 rw[show List.range 5=[0,1,2,3,4]from rfl]
 rcases(show j=0∨j=1∨j=2∨j=3∨j=4 by omega)with rfl|rfl|rfl|rfl|rfl
 · simp[h]
 · simp[h,hq 0 (by omega)]
 · simp[h,hq 0 (by omega),hq 1 (by omega)]
 · simp[h,hq 0 (by omega),hq 1 (by omega),hq 2 (by omega)]
 · simp[h,hq 0 (by omega),hq 1 (by omega),hq 2 (by omega),hq 3 (by omega)]
theorem UW {c:bn} {l:List Ev} (hq: ∀q,q<5→sQ c l q=none):sS c l=none:=by
 unfold sS
 rw[List.findSome?_eq_none_iff]
 intro q h
 exact hq q (List.mem_range.1 h)
theorem Aw {l:List Ev} {r n:Int} {e:Ev} (h:Jg l r n=some e):e.r=r∧e.n=n∧ ∃A B,l=A++e::B:=by
 have h1:=List.find?_some h
 have h2:=List.mem_of_find?_eq_some h
 simp only[decide_eq_true_eq]at h1
 obtain⟨A,B,e'⟩:=List.append_of_mem h2
 exact⟨h1.1,h1.2,A,B,e'⟩
theorem Az {l:List Ev} {r n:Int} (h:Jg l r n=none): ∀e∈l,¬ (e.r=r∧e.n=n):=fun e he=>by
 have:=List.find?_eq_none.1 h e he
 simpa using this
theorem FW (A B:List Ev) (e:Ev):Bo (A++e::B)=Bo A++(qA e.r e.n,WA e)::Bo B:=by simp[Bo]
theorem Yd (c:bn) (l:List Ev) (hc: ∀r,0≤c.at r∧c.at r≤1000000000):aW Tryz.prog 155 [(0,.obs (QC (Bo l)))] [c.av,.own 0] (.dL [((sS c l).getD ev0).av,.v (.bool (sS c l).isSome)]) [(0,.obs (QC (Bo l)))]:=by
 generalize hn:sS c l=nx
 obtain⟨c0,c1,c2,c3,c4⟩:=c
 have k0:0≤c0∧c0≤1000000000:=hc 0
 have k1:0≤c1∧c1≤1000000000:=hc 1
 have k2:0≤c2∧c2≤1000000000:=hc 2
 have k3:0≤c3∧c3≤1000000000:=hc 3
 have k4:0≤c4∧c4≤1000000000:=hc 4
 dsimp only[bn.av,bn.cs]
 refine K1.M 0x4000007f7 Tryz.func155 10 ?_
 repeat' ((conv=>whnf);first|refine K1.w ?_|refine K1.u ?_|refine K1.z ?_|refine K1.y (fun _=>?_) (fun _=>?_)|fail)
 conv=>whnf
 refine aN.mk {j:Nat//j≤5∧ ∀q,q<j→sQ ⟨c0,c1,c2,c3,c4⟩ l q=none} (fun j=>⟨[(9,.v (.int .i64 (j.1:Int))),(5,.v (.bool false)),(4,.box 11 0),(2,.box 10 0),(1,.own 0)],[(11,.box 42 ev0.cs),(10,.box 31 [.v (.int .i64 c0),.v (.int .i64 c1),.v (.int .i64 c2),.v (.int .i64 c3),.v (.int .i64 c4)]),(0,.obs (QC (Bo l)))],[[(0,.own 0)]],12⟩)
  (fun j=>5-j.1) ⟨0,by omega,fun q h=>absurd h (Nat.not_lt_zero q)⟩ _ (dO.mk' [] _ _ _ rfl ⟨aT.int rfl,aj,aj,aj,aj,trivial⟩ ⟨aH rfl,aH rfl,aH rfl,trivial⟩ rfl) ?_
 rintro⟨j,hj,hq⟩
 dsimp only
 rcases(show j=5∨j<5 by omega)with rfl|hj5
 · obtain rfl:none=nx:=by rw[←hn];exact(UW hq).symm
   repeat' ((conv=>whnf);first|refine K1.w ?_|refine K1.u ?_|refine K1.z ?_|refine K1.y (fun _=>?_) (fun _=>?_)|fail)
   all_goals(conv=>whnf)
   exact⟨[],rfl,rfl,⟨aH rfl,trivial⟩,rfl,rfl,aj⟩
 · have back:sQ ⟨c0,c1,c2,c3,c4⟩ l j=none→ ∀q,q<j+1→sQ ⟨c0,c1,c2,c3,c4⟩ l q=none:=fun h q hlt=>by
    rcases Nat.lt_or_ge q j with h'|h'
    · exact hq q h'
    · obtain rfl:=Nat.le_antisymm (Nat.le_of_lt_succ hlt) h'
      exact h
   have hcj:0≤bn.at ⟨c0,c1,c2,c3,c4⟩ j:=(hc j).1
   cases hf:Jg l j (bn.at ⟨c0,c1,c2,c3,c4⟩ j+1)with
   | none=>
     have hb:=back (by unfold sQ;rw[hf])
     have hno:=Yc (Az hf)
     clear back hc hq hf hn
     rcases(show j=0∨j=1∨j=2∨j=3∨j=4 by omega)with rfl|rfl|rfl|rfl|rfl
     all_goals
      repeat' ((conv=>whnf);first|refine K1.w ?_|refine K1.u ?_|refine K1.P1 (pW _) rfl ?_|refine nI.look kF Tryz.underlying221 rfl rfl rfl (jC _ _) ⟨_,_,rfl⟩ pI (mV ev0) hno ?_|refine qM.mk (by decide) ?_|refine K1.z ?_|refine K1.y (fun _=>?_) (fun _=>?_)|fail)
      all_goals(conv=>whnf)
      exact⟨⟨_,by omega,hb⟩,_,dO.mk' [] _ _ _ rfl ⟨aT.int rfl,aj,aj,aj,aj,trivial⟩ ⟨aH rfl,aH rfl,aH rfl,trivial⟩ rfl,by dsimp only;omega⟩
   | some e=>
     obtain⟨h1,h2,A,B,hl⟩:=Aw hf
     have hs0:Bo l=Bo A++(qA (j:Int) (bn.at ⟨c0,c1,c2,c3,c4⟩ j+1),WA e)::Bo B:=by rw[hl,FW,h1,h2]
     have hn1:1≤e.n:=by omega
     have hle:=aaD e.c ⟨c0,c1,c2,c3,c4⟩
     cases hc':e.c.le ⟨c0,c1,c2,c3,c4⟩with
     | true=>
       obtain rfl:some e=nx:=by rw[←hn];exact(Jh hj5 hq (by unfold sQ;rw[hf];simp[hn1,hc'])).symm
       rw[hc']at hle
       dsimp only[bn.av,bn.cs]at hle
       clear back hc hq hf hn h1 h2 hc'
       rcases(show j=0∨j=1∨j=2∨j=3∨j=4 by omega)with rfl|rfl|rfl|rfl|rfl
       all_goals
        repeat' ((conv=>whnf);first|refine K1.w ?_|refine K1.u ?_|refine K1.P1 (pW _) rfl ?_|refine K1.P1 hle rfl ?_|refine nI.Tc kF Tryz.underlying221 rfl rfl rfl (jC _ _) ⟨_,_,rfl⟩ ⟨_,pI⟩ (mV e) hs0 (Au l) ?_|refine qM.mk (by decide) ?_|refine K1.z ?_|refine K1.y (fun _=>?_) (fun _=>?_)|fail)
        all_goals(conv=>whnf)
        exact⟨[],rfl,rfl,⟨aH rfl,trivial⟩,rfl,rfl,aj⟩
     | false=>
       have hb:=back (by unfold sQ;rw[hf];simp[hc'])
       rw[hc']at hle
       dsimp only[bn.av,bn.cs]at hle
       clear back hc hq hf hn h1 h2 hc'
       rcases(show j=0∨j=1∨j=2∨j=3∨j=4 by omega)with rfl|rfl|rfl|rfl|rfl
       all_goals
        repeat' ((conv=>whnf);first|refine K1.w ?_|refine K1.u ?_|refine K1.P1 (pW _) rfl ?_|refine K1.P1 hle rfl ?_|refine nI.Tc kF Tryz.underlying221 rfl rfl rfl (jC _ _) ⟨_,_,rfl⟩ ⟨_,pI⟩ (mV e) hs0 (Au l) ?_|refine qM.mk (by decide) ?_|refine K1.z ?_|refine K1.y (fun _=>?_) (fun _=>?_)|fail)
        all_goals(conv=>whnf)
        exact⟨⟨_,by omega,hb⟩,_,dO.mk' [] _ _ _ rfl ⟨aT.int rfl,aj,aj,aj,aj,trivial⟩ ⟨aH rfl,aH rfl,aH rfl,trivial⟩ rfl,by dsimp only;omega⟩
end
section
open Go.RowKit
def qY (c:bn) (w:List Ev) (e:Ev):List Ev:=if(Jg w e.r e.n).isSome||hasB c e.r e.n then w else w++[e]
def lZ (c:bn) (l:List Ev):List Ev:=l.foldl (qY c) []
def DL (w:List Ev) (e:Ev):List Ev:=w.eraseP fun x=>decide (x.r=e.r∧x.n=e.n)
def Ye:Nat→bn→List Ev→List Ev→List Ev×List Ev×bn
  |0,c,w,d=>(d,w,c)
  | f+1,c,w,d=>match sS c w with
    |none=>(d,w,c)
    |some e=>Ye f (c.inc e.r.toNat) (DL w e) (d++[e])
def wu (c:bn) (l:List Ev):List Ev×List Ev×bn:=Ye (lZ c l).length c (lZ c l) []
def Dm (w:List Ev):Prop:=w.Pairwise fun a b=> ¬ (a.r=b.r∧a.n=b.n)
theorem Yf {c:bn} {w:List Ev} {e:Ev} (h:Dm w):Dm (qY c w e):=by
 unfold qY
 split
 · exact h
 · rename_i hn
   simp only[Bool.or_eq_true,not_or,Bool.not_eq_true,Option.isSome_eq_false_iff,Option.isNone_iff_eq_none]at hn
   refine List.pairwise_append.2 ⟨h,List.pairwise_singleton ..,fun a ha b hb=>?_⟩
   obtain rfl:=List.mem_singleton.1 hb
   exact Az hn.1 a ha
theorem Yg (c:bn) (l:List Ev):Dm (lZ c l):=by
 have: ∀ (l w:List Ev),Dm w→Dm (l.foldl (qY c) w):=fun l=>by
  induction l with
  |nil=>exact fun _ h=>h
  |cons e l ih=>exact fun w h=>ih _ (Yf h)
 exact this l [] .nil
theorem UY (c:bn) (w:List Ev) (e:Ev):(qY c w e).length≤w.length+1:=by
 unfold qY
 split
 · omega
 · simp
theorem FX {c:bn} {l:List Ev} {j:Nat} (h:j<l.length):lZ c (l.take (j+1))=qY c (lZ c (l.take j)) (l.getD j default):=by
 unfold lZ
 rw[List.take_succ_eq_append_getElem h,List.foldl_append]
 simp[List.getD,h]
theorem BP (c:bn) (l:List Ev): ∀j,j≤l.length→(lZ c (l.take j)).length≤j
  |0,_=>by simp[lZ]
  | j+1,h=>by
    rw[FX (by omega)]
    have h1:=UY c (lZ c (l.take j)) (l.getD j default)
    have h2:=BP c l j (by omega)
    omega
theorem Yh {c:bn} {w:List Ev} {e:Ev} (h:sS c w=some e): ∃r:Nat,r<5∧e.r=(r:Int)∧e.n=c.at r+1∧e.c.le c=true∧1≤e.n∧e∈w:=by
 obtain⟨r,hr,h1⟩:=List.exists_of_findSome?_eq_some h
 have hr:=List.mem_range.1 hr
 unfold sQ at h1
 split at h1
 · rename_i x hx
   obtain⟨g1,g2,A,B,g3⟩:=Aw hx
   split at h1
   · rename_i hc
     cases h1
     exact⟨r,hr,g1,g2,hc.2,hc.1,by rw[g3];simp⟩
   · cases h1
 · cases h1
theorem FY {w:List Ev} {e:Ev} (h:e∈w): ∃a A B,w=A++a::B∧DL w e=A++B∧a.r=e.r∧a.n=e.n:=by
 obtain⟨a,A,B,_,h2,h3,h4⟩:=List.exists_of_eraseP (p:=fun x:Ev=>decide (x.r=e.r∧x.n=e.n)) h (by simp)
 simp only[decide_eq_true_eq]at h2
 exact⟨a,A,B,h3,h4,h2.1,h2.2⟩
theorem Yi {w:List Ev} {e:Ev} (h:e∈w):(DL w e).length+1=w.length:=by
 obtain⟨a,A,B,h1,h2,_⟩:=FY h
 rw[h2,h1]
 simp
 omega
theorem left_eq: ∀ {W w:List Ev},Dm W→w.Sublist W→W.filter (fun e=>(Jg w e.r e.n).isSome)=w
  |[],w,_,h=>by rw[List.sublist_nil.1 h];rfl
  | x ::W,w,hd,h=>by
    obtain⟨hx,hW⟩:=List.pairwise_cons.1 hd
    rcases List.sublist_cons_iff.1 h with h2|⟨v,rfl,h2⟩
    · have:(Jg w x.r x.n).isSome=false:=by
       rw[Option.isSome_eq_false_iff,Option.isNone_iff_eq_none]
       refine List.find?_eq_none.2 fun y hy=>?_
       have:=hx y (h2.subset hy)
       simp only[decide_eq_true_eq]
       exact fun hh=>this ⟨hh.1.symm,hh.2.symm⟩
      rw[List.filter_cons,this]
      exact left_eq hW h2
    · have:(Jg (x::v) x.r x.n).isSome=true:=by simp[Jg]
      rw[List.filter_cons,this,if_pos rfl]
      congr 1
      refine(List.filter_congr fun e he=>?_).trans (left_eq hW h2)
      have hne:=hx e he
      simp only[Jg,List.find?_cons]
      rw[show decide (x.r=e.r∧x.n=e.n)=false by simpa using hne]
theorem Td: ∀ (f:Nat) (c:bn) (w d:List Ev),((Ye f c w d).2.1).Sublist w
  |0,_,w,_=>List.Sublist.refl w
  | f+1,c,w,d=>by
    unfold Ye
    split
    · exact List.Sublist.refl w
    · exact(Td f _ _ _).trans List.eraseP_sublist
theorem aaE (c:bn) {r:Nat} (q:Nat) (hr:r<5):(c.inc r).at q≤c.at q+1∧c.at q≤(c.inc r).at q:=by
 obtain⟨c0,c1,c2,c3,c4⟩:=c
 rcases(show r=0∨r=1∨r=2∨r=3∨r=4 by omega)with rfl|rfl|rfl|rfl|rfl
 all_goals
  match q with
  |0=>simp only[bn.inc,bn.at];omega
  |1=>simp only[bn.inc,bn.at];omega
  |2=>simp only[bn.inc,bn.at];omega
  |3=>simp only[bn.inc,bn.at];omega
  |_+4=>simp only[bn.inc,bn.at];omega
end
section
open Go.RowKit
def fK (l:List Ev):AO:= .row 42 12 l.length true (eG l)
theorem Yj {X:CX} {i:Nat} {t:TypeId} {cs:List AV} (h:aZ X i (.box t cs)):(dZ (X.ρ i)).oneCell'=true:=by
 obtain⟨b,us,e,_⟩:=h
 rw[e]
 rfl
def atV (ρ:Nat→Value) (j:Nat) (v:Value):Nat→Value:=fun i=>if i=j then v else ρ i
theorem Closes.ren {hs:List (Nat×AO)} {j j':Nat} {o:OB} (hC:Closes hs j o) (σ:List (Nat×Nat)) (hj:kH σ j=some j') (hb:yu σ hs=true):Closes (iQ σ hs) j' o:=by
 intro w k ρ hnd hok
 let PE:Nat→Value:=fun k=>match kH σ k with|some i=>ρ i|none=>undef
 have e0: ∀k i,kH σ k=some i→ρ i=PE k:=fun k i e=>by simp only[PE,e]
 have hbl:ah ρ (iQ σ hs)=ah PE hs:=qU e0 hb
 obtain⟨us,a1,a2,a3⟩:=hC w k PE (by rw[←hbl];exact hnd) fun p hp=>by
  obtain⟨i,h1,h2,h3⟩:=Fa hb p hp
  exact(aZ.jJ (X:=⟨w,k,PE⟩) (Y:=⟨w,k,ρ⟩) rfl rfl e0 h1 h3).1 (hok _ h2)
 exact⟨us,a1,a2.trans (by rw[←e0 j j' hj]),by rw[hbl];exact a3⟩
theorem Yk {X:CX} {cs:List AV} {us:List Value} {k d:Nat} (hk:cs[k]? =some (.v (.slice none 0 0))) (hd:dZ (X.ρ d)= .slice none 0 0) (ha:aF (C0 X) cs us):aF (C0 X) (cs.set k (.own d)) us:=by
 refine⟨by simpa using ha.1,fun i x u hx hu=>?_⟩
 rw[List.getElem?_set]at hx
 by_cases e:k=i
 · subst e
   simp only[if_true]at hx
   split at hx
   · cases hx
     have:u= .slice none 0 0:=ha.2 k _ u hk hu
     rw[this]
     exact hd.symm
   · cases hx
 · rw[if_neg e]at hx
   exact ha.2 i x u hx hu
theorem Closes.acE {A B:List (Nat×AO)} {id k d j:Nat} {t e:TypeId} {s:Nat} {f:Nat→List AV} {cs:List AV} {o:OB} (hC:Closes (A++(id,.box t (cs.set k (.own d)))::(B++[(d,.row e s 0 true f)])) j o)
  (hk:cs[k]? =some (.v (.slice none 0 0))) (hs:0<s) (hb:(jQ (A++(id,.box t cs)::B) (A++(id,.box t cs)::B)&& !(gG d (A++(id,.box t cs)::B))&& !(Nat.beq j d))=true):Closes (A++(id,.box t cs)::B) j o:=by
 simp only[Bool.and_eq_true,Bool.not_eq_true']at hb
 obtain⟨⟨hcl,hno⟩,hjd⟩:=hb
 refine Closes.imp hC fun X hnd hok=>?_
 let ρ':=atV X.ρ d (.slice none 0 0)
 have hne: ∀i,gG i (A++(id,.box t cs)::B)=true→ρ' i=X.ρ i:=fun i hi=>if_neg (by rintro rfl;rw[hno]at hi;cases hi)
 have hd:ρ' d= .slice none 0 0:=if_pos rfl
 have over: ∀p∈A++(id,.box t cs)::B,aZ ⟨X.w,X.keep,ρ'⟩ p.1 p.2:=fun p hp=>aZ.over (X:=X) (Y:=⟨X.w,X.keep,ρ'⟩) (fun _ h=>h) rfl hne (fG.2 ⟨p,hp,rfl⟩) (oI hcl p hp) (hok p hp)
 have hbl:ah ρ' (A++(id,.box t (cs.set k (.own d)))::(B++[(d,.row e s 0 true f)]))=ah X.ρ (A++(id,.box t cs)::B):=by
  have h1:=jo (ρ:=X.ρ) (ρ':=ρ') (h:=A) fun p hp=>hne p.1 (fG.2 ⟨p,List.mem_append_left _ hp,rfl⟩)
  have h2:=jo (ρ:=X.ρ) (ρ':=ρ') (h:=B) fun p hp=>hne p.1 (fG.2 ⟨p,List.mem_append_right _ (List.mem_cons_of_mem _ hp),rfl⟩)
  have h3:ρ' id=X.ρ id:=hne id (fG.2 ⟨_,List.mem_append_right _ List.mem_cons_self,rfl⟩)
  have h4:blks (ρ' d)++ah ρ' []=[]:=by rw[hd];rfl
  rw[gV,show ah ρ' ((id,.box t (cs.set k (.own d)))::(B++[(d,.row e s 0 true f)]))=blks (ρ' id)++ah ρ' (B++[(d,.row e s 0 true f)])from rfl,gV,gV,aU,h1,h2,h3]
  dsimp only
  rw[h4,List.append_nil,aU]
 refine⟨ρ',congrArg dZ (if_neg fun e=>(by rw[e,Nat.beq_refl]at hjd;cases hjd)),by rw[hbl];exact hnd,fun b hb=>by rw[hbl]at hb;exact hb,fun q hq=>?_⟩
 rcases List.mem_append.1 hq with hq|hq
 · exact over q (List.mem_append_left _ hq)
 rcases List.mem_cons.1 hq with rfl|hq
 · obtain⟨b,us,g1,g2,g3⟩:=over (id,.box t cs) (List.mem_append_right _ List.mem_cons_self)
   exact⟨b,us,g1,g2,Yk hk (by show dZ (ρ' d)=_;rw[hd];rfl) g3⟩
 rcases List.mem_append.1 hq with hq|hq
 · exact over q (List.mem_append_right _ (List.mem_cons_of_mem _ hq))
 · obtain rfl:=List.mem_singleton.1 hq
   exact⟨[],by show World.ownsRow _ 0 e s (ρ' d) 0 [];rw[hd];exact World.ownsRow_nil X.w _ _ _,hs,fun i hi=>absurd hi (by omega),(fun _ x hx=>by cases hx),aF.nil⟩
theorem cO.box {t:TypeId} {cs cs':List AV} (h: ∀X us,aF (C0 X) cs us→aF (C0 X) cs' us):cO (.box t cs) (.box t cs'):=by
 rintro X id ⟨b,us,h1,h2,h3⟩
 exact⟨b,us,h1,h2,h X us h3⟩
theorem aF.rV {cs:List AV} {k:Nat} {x y:AV} (hk:cs[k]? =some x) (h: ∀X u,C0 X x u→C0 X y u) {X:CX} {us:List Value} (ha:aF (C0 X) cs us):aF (C0 X) (cs.set k y) us:=by
 refine⟨by simpa using ha.1,fun i z u hz hu=>?_⟩
 rw[List.getElem?_set]at hz
 by_cases e:k=i
 · subst e
   simp only[if_true]at hz
   split at hz
   · cases hz;exact h X u (ha.2 k _ u hk hu)
   · cases hz
 · rw[if_neg e]at hz
   exact ha.2 i z u hz hu
end
section
open Go.RowKit
theorem QE (c:bn) (l:List Ev) (hc: ∀r,0≤c.at r∧c.at r≤1000000) (hl:l.length≤1000000) {d w:List Ev} {c':bn} (hd:wu c l=(d,w,c')):
  aG Tryz.prog 129 [c.av,.sl 12 l.length true (eG l)] (.dL [.sl 12 d.length true (eG d),.sl 12 w.length true (eG w),c'.av]) []:=by
 have hhas:=FH c
 dsimp only[bn.av,bn.cs]at hhas⊢
 have U:=Tryz.underlying221
 refine K1.E 0x200f80000800080000f575f7 Tryz.func129 ?_
 repeat' ((conv=>whnf);first|refine K1.w ?_|refine K1.u ?_|refine nI.mkM ?_|refine K1.o (id:=8) [(0,none),(1,none),(3,none),(2,some [1]),(4,some [3,1])] [(2,[1]),(4,[3,1])] ?_|refine K1.o (id:=26) [(0,none),(1,none),(2,none),(3,none),(4,none),(5,some [2])] [(5,[2])] ?_|refine K1.z ?_|refine K1.y (fun _=>?_) (fun _=>?_)|fail)
 conv=>whnf
 refine aN.nil 8 90 42 12 (eG []) rfl (by decide) ?_
 refine aN.mk {j:Nat//j≤l.length} (fun j=>⟨[(22,.v (.int .i64 (j.1:Int))),(21,.v (.int .i64 (l.length:Int))),(20,.sl 12 l.length true (eG l)),(8,.own 90),(7,.own 2),(6,.box 1 0),(5,.v (.slice none 0 0)),(4,.v (.slice none 0 0)),(2,.box 0 0)],
   [(0,.box 31 c.cs),(1,.box 31 dS.cs),(2,.obs (QC (Bo (lZ c (l.take j.1))))),(90,fK (lZ c (l.take j.1)))],[],91⟩) (fun j=>l.length-j.1) ⟨0,Nat.zero_le _⟩ _
  (dO.mk' [] _ _ _ rfl ⟨aT.int rfl,aj,aj,aj,aj,aj,aj,aj,aj,trivial⟩ ⟨aH rfl,aH rfl,aH rfl,aH rfl,trivial⟩ rfl) ?_
 rintro⟨j,hj⟩
 dsimp only
 by_cases hjl:j<l.length
 · have hst:=FX (c:=c) hjl
   have hwl:=BP c l j hj
   rw[show l.getD j default=l.getD (j:Int).toNat default from rfl]at hst
   have hm:=pW (l.getD (j:Int).toNat default)
   have hh:=hhas (l.getD (j:Int).toNat default).r (l.getD (j:Int).toNat default).n
   have hev:=mV (l.getD (j:Int).toNat default)
   generalize lZ c (l.take j)=w0 at hst hwl⊢
   dsimp only[Ev.av,Ev.cs,fK]at hm hev⊢
   cases hf:Jg w0 (l.getD (j:Int).toNat default).r (l.getD (j:Int).toNat default).n with
   | some x=>
     obtain⟨h1,h2,A,B,hs⟩:=Aw hf
     have hs0:Bo w0=Bo A++(qA (l.getD (j:Int).toNat default).r (l.getD (j:Int).toNat default).n,WA x)::Bo B:=by rw[hs,FW,h1,h2]
     have hnx:qY c w0 (l.getD (j:Int).toNat default)=w0:=by unfold qY;rw[hf];rfl
     rw[hnx]at hst
     clear hf h1 h2 hs hnx hd
     repeat' ((conv=>whnf);first|refine K1.w ?_|refine K1.u ?_|refine K1.P1 hm rfl ?_|refine K1.P1 hh rfl ?_|refine nI.Tc kF U rfl rfl rfl (jC _ _) ⟨_,_,rfl⟩ ⟨_,pI⟩ (mV x) hs0 (Au w0) ?_|refine K1.o (id:=8) [(0,none),(1,none),(3,none),(2,some [1]),(4,some [3,1])] [(2,[1]),(4,[3,1])] ?_|refine K1.o (id:=26) [(0,none),(1,none),(2,none),(3,none),(4,none),(5,some [2])] [(5,[2])] ?_|refine K1.z ?_|refine K1.y (fun _=>?_) (fun _=>?_)|fail)
     all_goals(conv=>whnf)
     exact⟨⟨j+1,hjl⟩,_,dO.mk' [] _ _ _ rfl ⟨aT.int rfl,aj,aj,aj,aj,aj,aj,aj,aj,trivial⟩ ⟨aH rfl,aH rfl,⟨_,rfl,by dsimp only;rw[hst];exact cO.refl _⟩,⟨_,rfl,by dsimp only;rw[hst];exact cO.refl _⟩,trivial⟩ rfl,by show l.length-(j+1)<l.length-j;omega⟩
   | none=>
     have hno:=Yc (Az hf)
     cases hb:hasB c (l.getD (j:Int).toNat default).r (l.getD (j:Int).toNat default).n with
     | true=>
       rw[hb]at hh
       have hnx:qY c w0 (l.getD (j:Int).toNat default)=w0:=by unfold qY;rw[hb];simp
       rw[hnx]at hst
       clear hf hb hnx hd
       repeat' ((conv=>whnf);first|refine K1.w ?_|refine K1.u ?_|refine K1.P1 hm rfl ?_|refine K1.P1 hh rfl ?_|refine nI.look kF U rfl rfl rfl (jC _ _) ⟨_,_,rfl⟩ pI (mV ev0) hno ?_|refine K1.o (id:=8) [(0,none),(1,none),(3,none),(2,some [1]),(4,some [3,1])] [(2,[1]),(4,[3,1])] ?_|refine K1.o (id:=26) [(0,none),(1,none),(2,none),(3,none),(4,none),(5,some [2])] [(5,[2])] ?_|refine K1.z ?_|refine K1.y (fun _=>?_) (fun _=>?_)|fail)
       all_goals(conv=>whnf)
       exact⟨⟨j+1,hjl⟩,_,dO.mk' [] _ _ _ rfl ⟨aT.int rfl,aj,aj,aj,aj,aj,aj,aj,aj,trivial⟩ ⟨aH rfl,aH rfl,⟨_,rfl,by dsimp only;rw[hst];exact cO.refl _⟩,⟨_,rfl,by dsimp only;rw[hst];exact cO.refl _⟩,trivial⟩ rfl,by show l.length-(j+1)<l.length-j;omega⟩
     | false=>
       rw[hb]at hh
       have hnx:qY c w0 (l.getD (j:Int).toNat default)=w0++[l.getD (j:Int).toNat default]:=by unfold qY;rw[hb,hf];rfl
       rw[hnx]at hst
       clear hf hb hnx hd
       repeat' ((conv=>whnf);first|refine K1.w ?_|refine K1.u ?_|refine K1.P1 hm rfl ?_|refine K1.P1 hh rfl ?_|refine nI.look kF U rfl rfl rfl (jC _ _) ⟨_,_,rfl⟩ pI (mV ev0) hno ?_|refine nI.aer kF U rfl rfl rfl (jC _ _) ⟨_,_,rfl⟩ rfl hev hno ?_|refine K1.o (id:=8) [(0,none),(1,none),(3,none),(2,some [1]),(4,some [3,1])] [(2,[1]),(4,[3,1])] ?_|refine K1.o (id:=26) [(0,none),(1,none),(2,none),(3,none),(4,none),(5,some [2])] [(5,[2])] ?_|refine K1.z ?_|refine K1.y (fun _=>?_) (fun _=>?_)|fail)
       all_goals(conv=>whnf)
       exact⟨⟨j+1,hjl⟩,_,dO.mk' [(94,90)] _ _ _ rfl ⟨aT.int rfl,aj,aj,aj,aj,aj,aj,aj,aj,trivial⟩ ⟨aH rfl,aH rfl,⟨_,rfl,by dsimp only;rw[hst,FW w0 []];exact cO.refl _⟩,⟨_,rfl,by dsimp only[fK];rw[hst];exact cO.row (by simp) fun m hm=>bJ (c:=Ev.cs) (l:=w0) rfl rfl m hm⟩,trivial⟩ rfl,by show l.length-(j+1)<l.length-j;omega⟩
 · obtain rfl:j=l.length:=by omega
   rw[List.take_length]
   have hwl:=BP c l l.length (Nat.le_refl _)
   rw[List.take_length]at hwl
   unfold wu at hd
   have hdm:=Yg c l
   have hsub:w.Sublist (lZ c l):=by have:=Td (lZ c l).length c (lZ c l) [];rw[hd]at this;exact this
   generalize lZ c l=w0 at hwl hd hdm hsub⊢
   have hnx:=Yd c w0 (fun r=>⟨(hc r).1,by have:=(hc r).2;omega⟩)
   generalize hnw:sS c w0=nx at hnx
   cases nx
   all_goals
    dsimp only[bn.av,bn.cs,Ev.av,Ev.cs,fK,Option.getD,Option.isSome]at hnx⊢
    repeat' ((conv=>whnf);first|refine K1.w ?_|refine K1.u ?_|refine K1.C 1 [(0,_)] (hnx) rfl ?_|refine K1.o (id:=8) [(0,none),(1,none),(3,none),(2,some [1]),(4,some [3,1])] [(2,[1]),(4,[3,1])] ?_|refine K1.o (id:=26) [(0,none),(1,none),(2,none),(3,none),(4,none),(5,some [2])] [(5,[2])] ?_|refine K1.z ?_|refine K1.y (fun _=>?_) (fun _=>?_)|fail)
    conv=>whnf
    refine aN.nil 4 95 42 12 (eG []) rfl (by decide) ?_
    refine aN.mk {s:bn×List Ev×List Ev×Option Ev//sS s.1 s.2.1=s.2.2.2∧Ye s.2.1.length s.1 s.2.1 s.2.2.1=(d,w,c')∧s.2.2.1.length+s.2.1.length=w0.length∧ ∀r,0≤s.1.at r∧s.1.at r≤1000000+s.2.2.1.length}
     (fun x=>⟨[(14,.v (.bool x.1.2.2.2.isSome)),(13,.box 92 0),(8,.own 90),(7,.own 2),(6,.box 1 0),(5,.v (.slice none 0 0)),(4,.own 95),(2,.box 0 0)],
      [(92,.box 42 (x.1.2.2.2.getD ev0).cs),(2,.obs (QC (Bo x.1.2.1))),(0,.box 31 x.1.1.cs),(1,.box 31 dS.cs),(90,fK w0),(95,fK x.1.2.2.1)],[],96⟩)
     (fun x=>x.1.2.1.length) ⟨(c,w0,[],_),hnw,hd,by simp,fun r=>⟨(hc r).1,by have:=(hc r).2;simpa using this⟩⟩ _
     (dO.mk' [] _ _ _ rfl ⟨aj,aj,aj,aj,aj,aj,aj,aj,trivial⟩ ⟨aH rfl,aH rfl,aH rfl,aH rfl,aH rfl,aH rfl,trivial⟩ rfl) ?_
    clear hnx hnw hd
    rintro⟨⟨c1,w1,d1,nx⟩,hn1,hdr,hlen,hc1⟩
    dsimp only at hn1 hdr hlen hc1⊢
    cases nx with
    | none=>
      have he:Ye w1.length c1 w1 d1=(d1,w1,c1):=by
       cases h0:w1.length with
       |zero=>rfl
       |succ n=>unfold Ye;rw[hn1]
      rw[he]at hdr
      cases hdr
      clear he hn1 hlen
      repeat' ((conv=>whnf);first|refine K1.w ?_|refine K1.u ?_|refine K1.o (id:=8) [(0,none),(1,none),(3,none),(2,some [1]),(4,some [3,1])] [(2,[1]),(4,[3,1])] ?_|refine K1.o (id:=26) [(0,none),(1,none),(2,none),(3,none),(4,none),(5,some [2])] [(5,[2])] ?_|refine K1.z ?_|refine K1.y (fun _=>?_) (fun _=>?_)|fail)
      conv=>whnf
      refine aN.Bz 90 rfl ?_
      refine aN.nil 5 98 42 12 (eG []) rfl (by decide) ?_
      refine aN.mk {j:Nat//j≤w0.length} (fun j=>⟨[(82,.v (.int .i64 (j.1:Int))),(81,.v (.int .i64 (w0.length:Int))),(80,.sl 12 w0.length true (eG w0)),(7,.own 2),(6,.box 1 0),(5,.own 98),(4,.own 95),(2,.box 0 0)],
       [(2,.obs (QC (Bo w))),(0,.box 31 c'.cs),(1,.box 31 dS.cs),(95,fK d),(98,fK ((w0.take j.1).filter fun e=>(Jg w e.r e.n).isSome))],[],99⟩) (fun j=>w0.length-j.1) ⟨0,Nat.zero_le _⟩ _
       (dO.mk' [] _ _ _ rfl ⟨aT.int rfl,aj,aj,aj,aj,aj,aj,aj,trivial⟩ ⟨aH rfl,aH rfl,aH rfl,aH rfl,aH rfl,trivial⟩ rfl) ?_
      clear hc1 hhas hj hjl hc
      rintro⟨j,hj⟩
      dsimp only
      by_cases hjl:j<w0.length
      · have hft:(w0.take (j+1)).filter (fun e=>(Jg w e.r e.n).isSome)=(w0.take j).filter (fun e=>(Jg w e.r e.n).isSome)++(if(Jg w (w0.getD (j:Int).toNat default).r (w0.getD (j:Int).toNat default).n).isSome then [w0.getD (j:Int).toNat default]else []):=by
         rw[List.take_succ_eq_append_getElem hjl,List.filter_append,show w0.getD (j:Int).toNat default=w0[j] by simp[List.getD,hjl]]
         congr 1
         rw[List.filter_cons,List.filter_nil]
        have hfl:((w0.take j).filter fun e=>(Jg w e.r e.n).isSome).length≤j:=Nat.le_trans (List.length_filter_le ..) (by rw[List.length_take];omega)
        have hm:=pW (w0.getD (j:Int).toNat default)
        generalize(w0.take j).filter (fun e=>(Jg w e.r e.n).isSome)=lf at hft hfl⊢
        dsimp only[Ev.av,Ev.cs,fK]at hm⊢
        cases hf:Jg w (w0.getD (j:Int).toNat default).r (w0.getD (j:Int).toNat default).n with
        | some x=>
          obtain⟨h1,h2,A,B,hs⟩:=Aw hf
          have hs0:Bo w=Bo A++(qA (w0.getD (j:Int).toNat default).r (w0.getD (j:Int).toNat default).n,WA x)::Bo B:=by rw[hs,FW,h1,h2]
          rw[hf]at hft
          have hft:_=lf++[w0.getD (j:Int).toNat default]:=hft
          clear hf h1 h2 hs hdm hsub
          repeat' ((conv=>whnf);first|refine K1.w ?_|refine K1.u ?_|refine K1.P1 hm rfl ?_|refine nI.Tc kF U rfl rfl rfl (jC _ _) ⟨_,_,rfl⟩ ⟨_,pI⟩ (mV x) hs0 (Au w) ?_|refine K1.o (id:=8) [(0,none),(1,none),(3,none),(2,some [1]),(4,some [3,1])] [(2,[1]),(4,[3,1])] ?_|refine K1.o (id:=26) [(0,none),(1,none),(2,none),(3,none),(4,none),(5,some [2])] [(5,[2])] ?_|refine K1.z ?_|refine K1.y (fun _=>?_) (fun _=>?_)|fail)
          all_goals(conv=>whnf)
          exact⟨⟨j+1,hjl⟩,_,dO.mk' [(102,98)] _ _ _ rfl ⟨aT.int rfl,aj,aj,aj,aj,aj,aj,aj,trivial⟩ ⟨aH rfl,aH rfl,aH rfl,aH rfl,⟨_,rfl,by dsimp only;rw[hft];exact cO.row (by simp) fun m hm=>bJ (c:=Ev.cs) (l:=lf) rfl rfl m hm⟩,trivial⟩ rfl,by show w0.length-(j+1)<w0.length-j;omega⟩
        | none=>
          have hno:=Yc (Az hf)
          rw[hf]at hft
          have hft:_=lf++[]:=hft
          rw[List.append_nil]at hft
          clear hf hdm hsub
          repeat' ((conv=>whnf);first|refine K1.w ?_|refine K1.u ?_|refine K1.P1 hm rfl ?_|refine nI.look kF U rfl rfl rfl (jC _ _) ⟨_,_,rfl⟩ pI (mV ev0) hno ?_|refine K1.o (id:=8) [(0,none),(1,none),(3,none),(2,some [1]),(4,some [3,1])] [(2,[1]),(4,[3,1])] ?_|refine K1.o (id:=26) [(0,none),(1,none),(2,none),(3,none),(4,none),(5,some [2])] [(5,[2])] ?_|refine K1.z ?_|refine K1.y (fun _=>?_) (fun _=>?_)|fail)
          all_goals(conv=>whnf)
          exact⟨⟨j+1,hjl⟩,_,dO.mk' [] _ _ _ rfl ⟨aT.int rfl,aj,aj,aj,aj,aj,aj,aj,trivial⟩ ⟨aH rfl,aH rfl,aH rfl,aH rfl,⟨_,rfl,by dsimp only;rw[hft];exact cO.refl _⟩,trivial⟩ rfl,by show w0.length-(j+1)<w0.length-j;omega⟩
      · obtain rfl:j=w0.length:=by omega
        rw[List.take_length,left_eq hdm hsub]
        clear hdm hsub
        dsimp only[fK,bn.cs]
        repeat' ((conv=>whnf);first|refine K1.w ?_|refine K1.u ?_|refine aJ.dR ?_|refine K1.o (id:=8) [(0,none),(1,none),(3,none),(2,some [1]),(4,some [3,1])] [(2,[1]),(4,[3,1])] ?_|refine K1.o (id:=26) [(0,none),(1,none),(2,none),(3,none),(4,none),(5,some [2])] [(5,[2])] ?_|refine K1.z ?_|refine K1.y (fun _=>?_) (fun _=>?_)|fail)
        all_goals(conv=>whnf)
        exact bG.mk (aj)
    | some e=>
      obtain⟨r,hr5,her,hen,_,_,hin⟩:=Yh hn1
      obtain⟨a,A,B,h1,h2,h3,h4⟩:=FY hin
      have hl1:=Yi hin
      have hkv:Bo w1=Bo A++(qA e.r e.n,WA a)::Bo B:=by rw[h1,FW,h3,h4]
      have hrm:Bo (DL w1 e)=Bo A++Bo B:=by rw[h2];simp[Bo]
      have hall:=Au w1
      have aeu:Ye (DL w1 e).length (c1.inc r) (DL w1 e) (d1++[e])=(d,w,c'):=by
       rw[←hl1]at hdr
       unfold Ye at hdr
       rw[hn1]at hdr
       dsimp only at hdr
       rw[show e.r.toNat=r by omega]at hdr
       exact hdr
      have hlen2:(d1++[e]).length+(DL w1 e).length=w0.length:=by rw[List.length_append];simp;omega
      have hc2: ∀q,0≤(c1.inc r).at q∧(c1.inc r).at q≤1000000+((d1++[e]).length:Int):=fun q=>by
       have h1:=aaE c1 q hr5
       have h2:=hc1 q
       rw[List.length_append]
       simp
       omega
      have k0:0≤c1.c0∧c1.c0≤1000000+(d1.length:Int):=hc1 0
      have k1:0≤c1.c1∧c1.c1≤1000000+(d1.length:Int):=hc1 1
      have k2:0≤c1.c2∧c1.c2≤1000000+(d1.length:Int):=hc1 2
      have k3:0≤c1.c3∧c1.c3≤1000000+(d1.length:Int):=hc1 3
      have k4:0≤c1.c4∧c1.c4≤1000000+(d1.length:Int):=hc1 4
      have hnx:=Yd (c1.inc r) (DL w1 e) (fun q=>⟨(hc2 q).1,by have:=(hc2 q).2;omega⟩)
      generalize hnw:sS (c1.inc r) (DL w1 e)=nx at hnx
      rw[hrm]at hnx
      have hm:=pW e
      clear hn1 hdr h1 h2 h3 h4 hhas hdm hc hc1
      generalize DL w1 e=w2 at*
      cases nx
      all_goals
       rcases(show r=0∨r=1∨r=2∨r=3∨r=4 by omega)with rfl|rfl|rfl|rfl|rfl
      all_goals
       dsimp only[bn.av,bn.cs,Ev.av,Ev.cs,fK,Option.getD,Option.isSome,bn.inc,bn.at]at hnx hm⊢
       repeat' ((conv=>whnf);first|refine K1.w ?_|refine K1.u ?_|refine K1.C 1 [(0,_)] (hnx) rfl ?_|refine K1.P1 hm rfl ?_|refine nI.del rfl rfl rfl kF U rfl rfl rfl (jC _ _) ⟨_,_,rfl⟩ hkv hall ?_|refine qM.lit 0 her rfl ?_|refine qM.lit 1 her rfl ?_|refine qM.lit 2 her rfl ?_|refine qM.lit 3 her rfl ?_|refine qM.lit 4 her rfl ?_|refine K1.o (id:=8) [(0,none),(1,none),(3,none),(2,some [1]),(4,some [3,1])] [(2,[1]),(4,[3,1])] ?_|refine K1.o (id:=26) [(0,none),(1,none),(2,none),(3,none),(4,none),(5,some [2])] [(5,[2])] ?_|refine K1.z ?_|refine K1.y (fun _=>?_) (fun _=>?_)|fail)
       all_goals(conv=>whnf)
       refine⟨⟨(bn.inc c1 _,w2,d1++[e],_),hnw,aeu,hlen2,hc2⟩,_,dO.mk' [(98,92),(97,95)] _ _ _ rfl ⟨aj,aj,aj,aj,aj,aj,aj,aj,trivial⟩ ⟨aH rfl,⟨_,rfl,by dsimp only;rw[hrm];exact cO.refl _⟩,aH rfl,aH rfl,aH rfl,⟨_,rfl,cO.row (by simp) fun m hm=>bJ (c:=Ev.cs) (l:=d1) rfl rfl m hm⟩,trivial⟩ rfl,by dsimp only;omega⟩
end
end Go.Proofs.YtimhagicagdkfaaGreat
