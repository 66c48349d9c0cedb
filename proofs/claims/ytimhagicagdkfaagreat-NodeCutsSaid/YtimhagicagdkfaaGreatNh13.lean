/-
  Contracts of the walk:RecF,Shape,Frm,FrmP,TkE,TkLaw.
-/
import Derived.Test.YtimhagicagdkfaaGreatNh12
import Derived.Test.YtimhagicagdkfaaGreatNh6
import Derived.Test.YtimhagicagdkfaaGreatNh1
import Derived.WalkSpells
import Derived.WalkLawsBesides
import Derived.Handy
import Derived.WideMake
import Derived.Lib.Hide
import Derived.Test.YtimhagicagdkfaaGreatNh9
import Derived.Test.YtimhagicagdkfaaGreatNh8
set_option maxHeartbeats 16000000
set_option maxRecDepth 100000
set_option linter.unusedVariables false
set_option linter.unusedSimpArgs false
namespace Go.Proofs.YtimhagicagdkfaaGreat
section
open Go.RowKit
theorem C1.Un {X:CX} {a1 a2 a3 a4 a5 a6 a7 a8:AV} {f:Nat→List AV} {u:Value} (h:C1 X (.agg [a1,a2,a3,a4,a5,a6,a7,a8,.v (.slice none 0 0)]) u):C1 X (.agg [a1,a2,a3,a4,a5,a6,a7,a8,.sl 12 0 true f]) u:=by
 obtain⟨us,e,ha⟩:=h
 obtain⟨v,hv,hc⟩:=ha.get (i:=8) rfl
 have hc:v= .slice none 0 0:=hc
 subst hc
 refine⟨us,e, ?_⟩
 have:=ha.set 8 (x:= .sl 12 0 true f) (u:= .slice none 0 0) (show C0 X (.sl 12 0 true f) (.slice none 0 0)from .sl 12 0 true f none 0 [] (by omega) (Nat.le_refl _) (by simp[maxLen]) (by simp) (fun i hi=>absurd hi (Nat.not_lt_zero i)) (fun _ x hx=>by simp[flat]at hx) (fun i x u hx=>by simp[flat]at hx) (.inl rfl))
 have e2:us.set 8 (.slice none 0 0)=us:=by
  apply List.ext_getElem?
  intro i
  rw[List.getElem?_set]
  by_cases h8:8=i
  · subst h8
    rw[if_pos rfl,hv]
    have:8<us.length:=by
     rcases Nat.lt_or_ge 8 us.length with h|h
     · exact h
     · rw[List.getElem?_eq_none h]at hv;cases hv
    rw[if_pos this]
  · rw[if_neg h8]
 rw[e2]at this
 exact this
theorem aS.Un {a1 a2 a3 a4 a5 a6 a7 a8:AV} (f:Nat→List AV):aS (.agg [a1,a2,a3,a4,a5,a6,a7,a8,.v (.slice none 0 0)]) (.agg [a1,a2,a3,a4,a5,a6,a7,a8,.sl 12 0 true f]):=fun _ _ h=>C1.Un h
def abb (k r u c0 c1 c2 c3 c4:Int) (e:AV):List AV:=[.v (.int .i64 k),.v (.int .i64 r),.v (.int .i64 u),.v (.int .i64 c0),.v (.int .i64 c1),.v (.int .i64 c2),.v (.int .i64 c3),.v (.int .i64 c4),e]
theorem Ea (x:Rc):5<(aB x).length:=by
 have hv:=yg 9 (dW (fD x)).length
 have hb:2≤(fD x).length:=by simp[fD]<;>omega
 have hs:=dB (fD x)
 unfold aB
 rw[List.length_append]
 show 5<(gJ 9 (dW (fD x)).length).length+_
 omega
def IsE (F:Nat→List AV) (l:List Ev):Prop:= ∀i,i<l.length→F i=dX l i
theorem IsE.nil (F:Nat→List AV):IsE F []:=fun i h=>absurd h (by simp)
theorem IsE.app {F G:Nat→List AV} {l l':List Ev} {n:Nat} (h:IsE F l) (h':IsE G l') (hn:n=l.length):IsE (pR n F G) (l++l'):=by
 intro i hi
 rw[List.length_append]at hi
 show _=qX Ev.cs (l++l') i
 rw[←els_app hn]
 unfold pR
 cases hb:Nat.ble n i with
 | true=>
   have:=Nat.le_of_ble_eq_true hb
   exact h' (i-n) (by omega)
 | false=>
   have:i<n:=Nat.lt_of_not_le fun h=>by rw[Nat.ble_eq_true_of_le h]at hb;cases hb
   exact h i (by omega)
theorem IsE.one {F:Nat→List AV} {e:Ev} (h:F 0=e.cs):IsE F [e]:=fun i hi=>by
 have:i=0:=by simpa using hi
 subst this
 exact h
end
section
open Go.RowKit
def zJ (k:Int):Bool:=k==1||k==4
def zK (k:Int):Bool:=k==2
def zL (k:Int):Bool:=k==3||k==5
def Qp (k:Int):Bool:=decide (1≤k∧k≤5)
def wQ (e u c:Bool):Value:= .agg #[.bool e,.bool u,.bool c]
theorem abd (w:World) (b:Nat) (es:Array MapEntry) (clock:Nat) (n:Int) (x:Value) (hb:w.heap[b]? =some (.map es clock)) (hn:Instr.findNow (.int .i64) (.int .i64 n) es.toList 0=some none):
  (Instr.mapUpdate 185 (.map (some b)) (.int .i64 n) x).run Tryz.prog w= .ok () {w with heap:=w.heap.setIfInBounds b (.map (es.push {key:= .int .i64 n,val:=x,born:=clock}) (clock+1))}:=by
 have hc:(Instr.checkKey false 10000 3 (.int .i64 n)).run Tryz.prog w= .ok () w:=MapKept.run_checkKey (k:= .int .i64 n) Tryz.underlying3 (by simp[MapKept.IsKey]) false 9999
 simp[Instr.mapUpdate,run_underlying Tryz.underlying185,MapKept.run_getObj_map hb,hc,MapKept.run_findKey Tryz.underlying3 hn,MapKept.run_setObj_map _ hb,Result.andThen]
def valOf:Option (Nat×Value)→Value
  |some p=>p.2
  |none=>wQ false false false
theorem Y7 (w:World) (b:Nat) (es:Array MapEntry) (clock:Nat) (n:Int) (r:Option (Nat×Value)) (hb:w.heap[b]? =some (.map es clock)) (hn:Instr.findNow (.int .i64) (.int .i64 n) es.toList 0=some r):
  (Instr.lookup 185 (.map (some b)) (.int .i64 n) true).run Tryz.prog w= .ok (.tuple #[(valOf r),.bool r.isSome]) w:=by
 have hc:(Instr.checkKey es.isEmpty 10000 3 (.int .i64 n)).run Tryz.prog w= .ok () w:=MapKept.run_checkKey (k:= .int .i64 n) Tryz.underlying3 (by simp[MapKept.IsKey]) _ 9999
 have hz:(zeroValue 134).run Tryz.prog w= .ok (wQ false false false) w:=by kernel_rfl
 cases r with
 |none=>simp[Instr.lookup,run_underlying Tryz.underlying185,MapKept.run_getObj_map hb,hc,MapKept.run_findKey Tryz.underlying3 hn,hz,Result.andThen,valOf]
 |some p=>simp[Instr.lookup,run_underlying Tryz.underlying185,MapKept.run_getObj_map hb,hc,MapKept.run_findKey Tryz.underlying3 hn,Result.andThen,valOf]
def ent (n:Int) (e u c:Bool) (b:Nat):MapEntry:={key:= .int .i64 n,val:=wQ e u c,born:=b}
def ents:List MapEntry:=[ent 1 true false false 0,ent 2 false true false 1,ent 3 false false true 2,ent 4 true false false 3,ent 5 false false true 4]
theorem VF (k:Int): ∃r,Instr.findNow (.int .i64) (.int .i64 k) ents 0=some r∧(valOf r)=wQ (zJ k) (zK k) (zL k)∧r.isSome=Qp k:=by
 by_cases h:1≤k∧k≤5
 · rcases(show k=1∨k=2∨k=3∨k=4∨k=5 by omega)with rfl|rfl|rfl|rfl|rfl<;>exact⟨_,rfl,rfl,rfl⟩
 · refine⟨none, ?_, ?_, ?_⟩
   · have h1:(k==1)=false:=by simp;omega
     have h2:(k==2)=false:=by simp;omega
     have h3:(k==3)=false:=by simp;omega
     have h4:(k==4)=false:=by simp;omega
     have h5:(k==5)=false:=by simp;omega
     simp[ents,ent,Instr.findNow,Instr.sameNow,h1,h2,h3,h4,h5]
   · simp[valOf,wQ,zJ,zK,zL];omega
   · simp[Qp];omega
theorem set_push (a:Array Obj) (o o':Obj):(a.push o).setIfInBounds a.size o'=a.push o':=by
 apply Array.ext'
 rw[Array.toList_setIfInBounds,Array.toList_push,Array.toList_push,←Array.length_toList,List.set_append_right _ _ (Nat.le_refl _),Nat.sub_self]
 rfl
theorem VG (w:World) (o o':Obj):({(w.alloc o)with heap:=(w.alloc o).heap.setIfInBounds w.heap.size o'}:World)=w.alloc o':=by
 show({w with heap:=(w.heap.push o).setIfInBounds w.heap.size o'}:World)={w with heap:=w.heap.push o'}
 rw[set_push]
theorem tY (w:World) (b:Nat) (l:List MapEntry) (n:Int) (e u c:Bool) (hb:b=w.heap.size) (hn:Instr.findNow (.int .i64) (.int .i64 n) l 0=some none):
  (Instr.mapUpdate 185 (.map (some b)) (.int .i64 n) (.agg #[.bool e,.bool u,.bool c])).run Tryz.prog (w.alloc (.map l.toArray l.length))= .ok () (w.alloc (.map (l++[ent n e u c l.length]).toArray (l.length+1))):=by
 subst hb
 rw[abd _ _ l.toArray l.length n _ (heap_alloc_new w _) (by simpa using hn),VG]
 simp[ent,wQ]
theorem VH (k:Int) (w:World):Calls Tryz.prog 75 #[.int .i64 k] w fun e w'=>e= .returned (.tuple #[wQ (zJ k) (zK k) (zL k),.bool (Qp k)])∧Below w.heap.size w w':=by
 have hmm:= @run_makeMap Tryz.prog
 obtain⟨W1,hW⟩: ∃W1,W1=w.alloc (.cells #[.bool false,.bool false,.bool false] 134):=⟨_,rfl⟩
 have hs:w.heap.size+1=W1.heap.size:=by rw[hW];simp
 have h1:(Instr.mapUpdate 185 (.map (some (w.heap.size+1))) (.int .i64 1) (.agg #[.bool true,.bool false,.bool false])).run Tryz.prog (W1.alloc (.map #[] 0))= .ok () (W1.alloc (.map #[ent 1 true false false 0] 1)):=tY W1 _ [] 1 true false false hs rfl
 have h2:(Instr.mapUpdate 185 (.map (some (w.heap.size+1))) (.int .i64 2) (.agg #[.bool false,.bool true,.bool false])).run Tryz.prog (W1.alloc (.map #[ent 1 true false false 0] 1))= .ok () (W1.alloc (.map #[ent 1 true false false 0,ent 2 false true false 1] 2)):=tY W1 _ [ent 1 true false false 0] 2 false true false hs rfl
 have h3:(Instr.mapUpdate 185 (.map (some (w.heap.size+1))) (.int .i64 3) (.agg #[.bool false,.bool false,.bool true])).run Tryz.prog (W1.alloc (.map #[ent 1 true false false 0,ent 2 false true false 1] 2))= .ok () (W1.alloc (.map #[ent 1 true false false 0,ent 2 false true false 1,ent 3 false false true 2] 3)):=tY W1 _ [ent 1 true false false 0,ent 2 false true false 1] 3 false false true hs rfl
 have h4:(Instr.mapUpdate 185 (.map (some (w.heap.size+1))) (.int .i64 4) (.agg #[.bool true,.bool false,.bool false])).run Tryz.prog (W1.alloc (.map #[ent 1 true false false 0,ent 2 false true false 1,ent 3 false false true 2] 3))= .ok () (W1.alloc (.map #[ent 1 true false false 0,ent 2 false true false 1,ent 3 false false true 2,ent 4 true false false 3] 4)):=tY W1 _ [ent 1 true false false 0,ent 2 false true false 1,ent 3 false false true 2] 4 true false false hs rfl
 have h5:(Instr.mapUpdate 185 (.map (some (w.heap.size+1))) (.int .i64 5) (.agg #[.bool false,.bool false,.bool true])).run Tryz.prog (W1.alloc (.map #[ent 1 true false false 0,ent 2 false true false 1,ent 3 false false true 2,ent 4 true false false 3] 4))= .ok () (W1.alloc (.map #[ent 1 true false false 0,ent 2 false true false 1,ent 3 false false true 2,ent 4 true false false 3,ent 5 false false true 4] 5)):=tY W1 _ [ent 1 true false false 0,ent 2 false true false 1,ent 3 false false true 2,ent 4 true false false 3] 5 false false true hs rfl
 obtain⟨r,hr1,hr2,hr3⟩:=VF k
 have hl:=Y7 (W1.alloc (.map ents.toArray 5)) (w.heap.size+1) ents.toArray 5 k r (by rw[hs];exact heap_alloc_new W1 _) (by simpa using hr1)
 rw[hr2,hr3]at hl
 unfold ents at hl
 rw[hW]at h1 h2 h3 h4 h5 hl
 have H1:=Lib.hid h1
 have H2:=Lib.hid h2
 have H3:=Lib.hid h3
 have H4:=Lib.hid h4
 have H5:=Lib.hid h5
 have HL:=Lib.hid hl
 clear h1 h2 h3 h4 h5 hl hr1 hr2 hr3 hs hW
 go_enter Tryz.func75,Tryz.ntmps75
 go_wp2
 rw[H1.out]
 go_wp2
 rw[H2.out]
 go_wp2
 rw[H3.out]
 go_wp2
 rw[H4.out]
 go_wp2
 rw[H5.out]
 go_wp2
 rw[HL.out]
 simp only[wQ]
 go_wp2
 go_returns
 exact⟨rfl,by go_grown⟩
theorem kW (k:Int):aH Tryz.prog 75 [.v (.int .i64 k)] (.dF [.agg [.v (.bool (zJ k)),.v (.bool (zK k)),.v (.bool (zL k))],.v (.bool (Qp k))]) []:=by
 refine⟨⟨_,_,Tryz.func75,rfl,rfl⟩,fun w keep args _ hargs=>?_⟩
 obtain⟨u,rfl,hu⟩:=rF hargs
 have hu:u= .int .i64 k:=hu
 subst hu
 refine(VH k w).mono ?_
 rintro e w' ⟨h1,h2⟩
 exact⟨_,fun _=>undef,h1,h2,⟨[.agg #[.bool (zJ k),.bool (zK k),.bool (zL k)],.bool (Qp k)],rfl,aI.cons ⟨[.bool (zJ k),.bool (zK k),.bool (zL k)],rfl,aI.cons rfl (aI.cons rfl (aI.cons rfl aI.nil))⟩ (aI.cons rfl aI.nil)⟩,(fun p hp=>by cases hp),by simp[ah],(fun b hb=>by simp[ah]at hb)⟩
end
section
open Go.RowKit
theorem O6 (k:Int) (h: ¬ (1≤k∧k≤5)):aH Tryz.prog 75 [.v (.int .i64 k)] (.dF [.agg [.v (.bool false),.v (.bool false),.v (.bool false)],.v (.bool false)]) []:=by
 have:=kW k
 rw[show zJ k=false by simp[zJ];omega,show zK k=false by simp[zK];omega,show zL k=false by simp[zL];omega,show Qp k=false by simp[Qp];omega]at this
 exact this
theorem MG (n:Int):aH Tryz.prog 108 [.v (.int .i64 n)] (.v (.bool (nV n))) []:=by
 refine K1.E 0x5 Tryz.func108 ?_
 repeat' ((conv=>whnf);first|refine K1.w ?_|refine K1.u ?_|refine aJ.dO ?_|refine K1.z ?_|refine K1.y (fun _=>?_) (fun _=>?_)|fail)
 all_goals(conv=>whnf)
 all_goals(refine bF.mk (aS.of ?_))
 all_goals simp[nV,fQ, *]
def tZ (k r:Int) (e:Ev):Bool:=decide (eG e=0)&&(decide (k≠1)||decide (e.r=r))
theorem Y8 {k r:Int} {e:Ev} (h: ¬eG e=0):tZ k r e=false:=by simp[tZ,h]
theorem Y9 {k r:Int} {e:Ev} (hk:k=1) (h: ¬e.r=r):tZ k r e=false:=by simp[tZ,h,hk]
theorem VI {k r:Int} {e:Ev} (h:eG e=0) (hk:k≠1):tZ k r e=true:=by simp[tZ,h,hk]
theorem VJ {k r:Int} {e:Ev} (h:eG e=0) (hr:e.r=r):tZ k r e=true:=by simp[tZ,h,hr]
def jY (x:Rc):Bool:=
 Qp x.k&&decide (0≤x.r)&&decide (x.r<5)&&nV x.u&&(zK x.k||decide (x.u=0))&&(zL x.k||G5 x.c)&&(zJ x.k||decide (x.ev.length=0))&&OX x.c&&decide (x.ev.length≤20)&&(decide (x.k≠1)||decide (x.ev.length≠0))&&
  x.ev.all (tZ x.k x.r)
theorem MH {p:Ev→Bool} {l:List Ev} {j:Nat} (hj:j<l.length) (h:p (l.getD j default)=false):l.all p=false:=by
 rw[List.all_eq_false]
 refine⟨l[j],List.getElem_mem hj, ?_⟩
 rw[List.getD,List.getElem?_eq_getElem hj]at h
 simpa using h
theorem O7 {p:Ev→Bool} {l:List Ev} (h: ∀i,i<l.length→p (l.getD i default)=true):l.all p=true:=by
 rw[List.all_eq_true]
 intro e he
 obtain⟨i,hi,rfl⟩:=List.mem_iff_getElem.1 he
 have:=h i hi
 rw[List.getD,List.getElem?_eq_getElem hi]at this
 exact this
theorem uQ (x:Rc) (hl:x.ev.length≤140737488355328):aH Tryz.prog 74 [x.av] (.v (.bool (jY x))) []:=by
 obtain⟨k,r,u,⟨c0,c1,c2,c3,c4⟩,ev⟩:=x
 dsimp only at hl
 obtain⟨kk,hkk⟩: ∃kk,kk=k:=⟨_,rfl⟩
 rcases(show k=1∨k=2∨k=3∨k=4∨k=5∨ ¬ (1≤k∧k≤5) by omega)with rfl|rfl|rfl|rfl|rfl|hk
 all_goals dsimp only[Rc.av,Rc.cs]
 all_goals
  refine K1.E 0x10000f400047400000010000015f Tryz.func74 ?_
  repeat' ((conv=>whnf);first|refine K1.w ?_|refine K1.u ?_|refine K1.P1 (O6 _ hk) rfl ?_|refine K1.P1 (kW _) rfl ?_|refine K1.P1 (MG _) rfl ?_|refine aN.qY 65 6 rfl ?_|refine vg.mk (aW.vs ⟨c0,c1,c2,c3,c4⟩) (aW.vs bY) (aW.mk c0 c1 c2 c3 c4=bY) rfl rfl (fZ _ _) ?_|refine aJ.dO ?_|refine K1.z ?_|refine K1.y (fun _=>?_) (fun _=>?_)|fail)
  all_goals(conv=>whnf)
  all_goals first
    |refine bF.mk (aS.of ?_)
    |refine aN.mk {j:Nat//j≤ev.length∧ ∀i,i<j→tZ kk r (ev.getD i default)=true} (fun j=>⟨[(1,.box 0 0),(88,.sl 12 ev.length true (dX ev)),(89,.v (.int .i64 (ev.length:Int))),(90,.v (.int .i64 (j.1:Int)))],
       [(0,.box 47 [.v (.int .i64 _),.v (.int .i64 r),.v (.int .i64 u),.v (.int .i64 c0),.v (.int .i64 c1),.v (.int .i64 c2),.v (.int .i64 c3),.v (.int .i64 c4),.sl 12 ev.length true (dX ev)])],[],4⟩) (fun j=>ev.length-j.1) ⟨0,Nat.zero_le _,fun i h=>absurd h (Nat.not_lt_zero i)⟩ _
       (dL.mk' [] _ _ _ rfl ⟨aj,aj,aj,aS.int rfl,trivial⟩ ⟨aF rfl,trivial⟩ rfl) ?_
  all_goals try(simp[jY,Qp,zK,zJ,zL,OX,iG,-List.length_eq_zero_iff, *]<;>omega;done)
  all_goals(rintro⟨j,hj,hall⟩;dsimp only)
  all_goals repeat' ((conv=>whnf);first|refine K1.w ?_|refine K1.u ?_|refine K1.P1 (lS (ev.getD (j:Int).toNat default)) rfl ?_|refine aJ.dO ?_|refine K1.z ?_|refine K1.y (fun _=>?_) (fun _=>?_)|fail)
  all_goals first
    | (conv=>whnf
       refine⟨⟨j+1,by omega,fun i hi=>?_⟩,_,dL.mk' [] _ _ _ rfl ⟨aj,aj,aj,aS.int rfl,trivial⟩ ⟨aF rfl,trivial⟩ rfl,by show ev.length-(j+1)<ev.length-j;omega⟩
       rcases Nat.lt_or_ge i j with h|h
       · exact hall i h
       · obtain rfl:i=j:=by omega
         have h0:eG (ev.getD i default)=0:= ‹eG (ev.getD (i:Int).toNat default)=0›
         first
           |exact VI h0 (by omega)
           |exact VJ h0 ‹(ev.getD (i:Int).toNat default).r=r›)
    | (conv=>whnf
       refine bF.mk (aS.of ?_)
       have hno:=MH (p:=tZ kk r) (l:=ev) (j:=j) (by omega) (Y8 ‹¬eG (ev.getD (j:Int).toNat default)=0›)
       rw[hkk]at hno
       simp[jY,hno])
    | (conv=>whnf
       refine bF.mk (aS.of ?_)
       have hno:=MH (p:=tZ kk r) (l:=ev) (j:=j) (by omega) (Y9 hkk ‹¬ (ev.getD (j:Int).toNat default).r=r›)
       rw[hkk]at hno
       simp[jY,hno])
    | (conv=>whnf
       refine bF.mk (aS.of ?_)
       have hyes:=O7 (p:=tZ kk r) (l:=ev) (fun i hi=>hall i (by omega))
       rw[hkk]at hyes
       simp[jY,show nV 0=true from rfl,Qp,zK,zJ,zL,OX,iG,-List.length_eq_zero_iff, *]<;>omega)
end
section
open Go.RowKit
def jZ (x:Rc):List UInt8:=
 [byteOf x.k,byteOf x.r]++(if zJ x.k then UInt8.ofNat x.ev.length::dY x.ev else [])++(if zK x.k then iF x.u else [])++(if zL x.k then yM x.c else [])
def cO (x:Rc):List UInt8:=dW (ak (jZ x).length++jZ x)
structure aeV (x:Rc):Prop where
 k:1≤x.k∧x.k≤5
 r:0≤x.r∧x.r<5
 u:nV x.u=true
 u0:zK x.k=true∨x.u=0
 c0:zL x.k=true∨x.c=bY
 e0:zJ x.k=true∨x.ev.length=0
 c:nV x.c.c0=true∧nV x.c.c1=true∧nV x.c.c2=true∧nV x.c.c3=true∧nV x.c.c4=true
 l:x.ev.length≤20
 one:x.k≠1∨x.ev.length≠0
 ev:x.ev.all (tZ x.k x.r)=true
theorem oN {x:Rc} (h:jY x=true):aeV x:=by
 simp only[jY,Bool.and_eq_true,Bool.or_eq_true,decide_eq_true_eq,iG,OX,Qp]at h
 obtain⟨⟨⟨⟨⟨⟨⟨⟨⟨⟨h1,h2⟩,h3⟩,h4⟩,h5⟩,h6⟩,h7⟩,⟨⟨⟨h8,h9⟩,h10⟩,h11⟩,h12⟩,h13⟩,h14⟩,h15⟩:=h
 exact⟨h1,⟨h2,h3⟩,h4,h5,h6,h7,⟨h8,h9,h10,h11,h12⟩,h13,h14,h15⟩
theorem BF {k r:Int} {l:List Ev} (h:l.all (tZ k r)=true):l.all (fun e=>decide (eG e=0))=true:=by
 rw[List.all_eq_true]at h⊢
 intro e he
 have:=h e he
 simp only[tZ,Bool.and_eq_true]at this
 exact this.1
theorem Za (x:Rc) (hl:x.ev.length≤140737488355328) (h:jY x=false):aH Tryz.prog 41 [x.av] (.dF [.v (.slice none 0 0),.v (.int .i64 1)]) []:=by
 have hm:=uQ x hl
 rw[h]at hm
 refine K1.E 0x3a020807804000975f Tryz.func41 ?_
 repeat' ((conv=>whnf);first|refine K1.w ?_|refine K1.u ?_|refine K1.P1 hm rfl ?_|refine aJ.dO ?_|refine K1.z ?_|refine K1.y (fun _=>?_) (fun _=>?_)|fail)
 conv=>whnf
 exact bF.mk (aj)
theorem Uo (d:Nat) (x:Rc) (h:jY x=true) (hk:x.k=1∨x.k=4):
  aH Tryz.prog 41 [x.av] (.dF [.own d,.v (.int .i64 0)]) [(d,.row 5 1 (cO x).length true (aU (cO x)))]:=by
 have m:=oN h
 have hm:=uQ x (by have:=m.l;omega)
 rw[h]at hm
 obtain⟨k,r,u,c,ev⟩:=x
 obtain⟨mk,mr,mu,sU,qV,me0,mc,ml,m1,yN⟩:=m
 dsimp only at mk mr mu ml mc sU qV me0 yN m1 hk
 have wP:=BF yN
 have hat: ∀j,j<ev.length→eG (ev.getD j default)=0:=fun j hj=>Dn wP hj
 have Y4: ∀j,j<ev.length→(aT (ev.getD j default)).length≤44:=fun j hj=>kV (hat j hj)
 have hlen: ∀j,(dY (ev.take j)).length≤44*j:=fun j=>Nat.le_trans (pq fun e he=>nJ wP e (List.mem_of_mem_take he)) (Nat.mul_le_mul_left _ (by rw[List.length_take];omega))
 obtain⟨kk,hkk⟩: ∃kk,kk=k:=⟨_,rfl⟩
 have hmore: ∀j,(([byteOf' kk,byteOf' r]++[byteOf' (ev.length:Int)])++dY (ev.take j)).length=3+(dY (ev.take j)).length:=fun j=>by simp;omega
 rcases hk with rfl|rfl
 all_goals
  dsimp only[Rc.av,Rc.cs]at hm⊢
  refine K1.E 0x3a020807804000975f Tryz.func41 ?_
  repeat' ((conv=>whnf);first|refine K1.w ?_|refine K1.u ?_|refine K1.P1 hm rfl ?_|refine K1.P1 (kW _) rfl ?_|refine K1.z ?_|refine K1.y (fun _=>?_) (fun _=>?_)|fail)
  conv=>whnf
  refine aN.mk {j:Nat//j≤ev.length} (fun j=>⟨[(1,.box 0 0),(4,.box 1 0),(6,.own 90),(39,.sl 12 ev.length true (dX ev)),(40,.v (.int .i64 (ev.length:Int))),(41,.v (.int .i64 (j.1:Int)))],
    [(1,.box 134 [.v (.bool true),.v (.bool false),.v (.bool false)]),(90,.row 5 1 (([byteOf' kk,byteOf' r]++[byteOf' (ev.length:Int)])++dY (ev.take j.1)).length true (aU (([byteOf' kk,byteOf' r]++[byteOf' (ev.length:Int)])++dY (ev.take j.1))))],[],91⟩) (fun j=>ev.length-j.1) ⟨0,Nat.zero_le _⟩ _
    (dL.mk' [(4,90)] _ _ _ rfl ⟨aj,aj,aj,aj,aj,aS.int rfl,trivial⟩ ⟨aF rfl,⟨_,rfl,bW.nT (bg.app (bg.two (by omega) (by omega) (by omega) (by omega)) (bg.one (by omega) (by omega)) rfl) (by simp<;>omega) (by simp[dY,hkk])⟩,trivial⟩ rfl) ?_
  rintro⟨j,hj⟩
  dsimp only
  have Y5:=Y4 (j:Int).toNat
  have hmj:=hmore j
  have hlj:=hlen j
  have hsl:=dB (ak (([byteOf' kk,byteOf' r]++[byteOf' (ev.length:Int)])++dY (ev.take j)).length++(([byteOf' kk,byteOf' r]++[byteOf' (ev.length:Int)])++dY (ev.take j)))
  have hvs:(ak (([byteOf' kk,byteOf' r]++[byteOf' (ev.length:Int)])++dY (ev.take j)).length).length≤10:=bD 9 _
  repeat' ((conv=>whnf);first|refine K1.w ?_|refine K1.u ?_|refine K1.F1 (uP _ (ev.getD (j:Int).toNat default) (hat _ (by omega))) rfl ?_|refine K1.F1 (eH _ (([byteOf' kk,byteOf' r]++[byteOf' (ev.length:Int)])++dY (ev.take j)).length (by omega)) rfl ?_|refine K1.F1 (oC _ (ak (([byteOf' kk,byteOf' r]++[byteOf' (ev.length:Int)])++dY (ev.take j)).length++(([byteOf' kk,byteOf' r]++[byteOf' (ev.length:Int)])++dY (ev.take j))) (bg.app (bg.bytes _) (bg.bytes _) rfl) List.length_append.symm (by rw[List.length_append];omega)) rfl ?_|refine K1.z ?_|refine K1.y (fun _=>?_) (fun _=>?_)|fail)
  · conv=>whnf
    refine⟨⟨j+1,by omega⟩,_,dL.mk' [(93,90)] _ _ _ rfl ⟨aj,aj,aj,aj,aj,aS.int rfl,trivial⟩ ⟨aF rfl,⟨_,rfl,bW.nT (bg.app (bg.bytes _) (bg.bytes _) rfl) List.length_append.symm ?_⟩,trivial⟩ rfl,by show ev.length-(j+1)<ev.length-j;omega⟩
    rw[qo (by omega),List.append_assoc]
    rfl
  · conv=>whnf
    refine aJ.oz d rfl rfl ?_ (aj)
    refine bW.nT (bg.bytes _) rfl ?_
    rw[List.take_of_length_le (by omega)]
    unfold cO jZ
    simp[hkk,zJ,zK,zL,byteOf,byteOf']
theorem abe (d:Nat) (x:Rc) (h:jY x=true) (hk:x.k=2):
  aH Tryz.prog 41 [x.av] (.dF [.own d,.v (.int .i64 0)]) [(d,.row 5 1 (cO x).length true (aU (cO x)))]:=by
 have m:=oN h
 have hm:=uQ x (by have:=m.l;omega)
 rw[h]at hm
 obtain⟨k,r,u,c,ev⟩:=x
 obtain⟨mk,mr,mu,sU,qV,me0,mc,ml,m1,yN⟩:=m
 dsimp only at mk mr mu ml mc sU qV me0 yN m1 hk
 obtain⟨kk,hkk⟩: ∃kk,kk=k:=⟨_,rfl⟩
 obtain⟨un,rfl,hun⟩:=eU mu
 have hvu:(ak un).length≤10:=bD 9 _
 have hmore:([byteOf' kk,byteOf' r]++ak un).length=2+(ak un).length:=by simp;omega
 have hsl:=dB (ak (2+(ak un).length)++([byteOf' kk,byteOf' r]++ak un))
 have hvs:(ak (2+(ak un).length)).length≤10:=bD 9 _
 subst hk
 have hP:bg (pR 2 (chunk 1 [.v (.int .u8 2),.v (.int .u8 r)]) (aU (ak un))) ([byteOf' kk,byteOf' r]++ak un):=hkk▸bg.app (bg.two (by omega) (by omega) (by omega) (by omega)) (bg.bytes _) rfl
 have hn:2+(ak un).length=([byteOf' kk,byteOf' r]++ak un).length:=by omega
 dsimp only[Rc.av,Rc.cs]at hm⊢
 refine K1.E 0x3a020807804000975f Tryz.func41 ?_
 repeat' ((conv=>whnf);first|refine K1.w ?_|refine K1.u ?_|refine K1.P1 hm rfl ?_|refine K1.P1 (kW _) rfl ?_|refine K1.F1 (eH _ un (by omega)) rfl ?_|refine K1.F1 (eH _ (2+(ak un).length) (by omega)) rfl ?_|refine K1.F1 (oC _ (ak (2+(ak un).length)++([byteOf' kk,byteOf' r]++ak un)) (bg.app (bg.bytes _) hP rfl) (by rw[List.length_append,←hn]) (by rw[List.length_append,←hn];omega)) rfl ?_|refine K1.z ?_|refine K1.y (fun _=>?_) (fun _=>?_)|fail)
 conv=>whnf
 refine aJ.oz d rfl rfl ?_ (aj)
 refine bW.nT (bg.bytes _) rfl ?_
 rw[hn]
 unfold cO jZ
 simp[hkk,zJ,zK,zL,byteOf,byteOf',iF]
theorem Ur (d:Nat) (x:Rc) (h:jY x=true) (hk:x.k=3∨x.k=5):
  aH Tryz.prog 41 [x.av] (.dF [.own d,.v (.int .i64 0)]) [(d,.row 5 1 (cO x).length true (aU (cO x)))]:=by
 have m:=oN h
 have hm:=uQ x (by have:=m.l;omega)
 rw[h]at hm
 obtain⟨k,r,u,⟨c0,c1,c2,c3,c4⟩,ev⟩:=x
 obtain⟨mk,mr,mu,sU,qV,me0,⟨m0,m1,m2,m3,m4⟩,ml,G7,yN⟩:=m
 dsimp only at mk mr mu ml m0 m1 m2 m3 m4 sU qV me0 yN G7 hk
 obtain⟨kk,hkk⟩: ∃kk,kk=k:=⟨_,rfl⟩
 obtain⟨c0,rfl,hc0⟩:=eU m0
 obtain⟨c1,rfl,hc1⟩:=eU m1
 obtain⟨c2,rfl,hc2⟩:=eU m2
 obtain⟨c3,rfl,hc3⟩:=eU m3
 obtain⟨c4,rfl,hc4⟩:=eU m4
 have q0:(ak c0).length≤10:=bD 9 _
 have q1:(ak c1).length≤10:=bD 9 _
 have q2:(ak c2).length≤10:=bD 9 _
 have q3:(ak c3).length≤10:=bD 9 _
 have q4:(ak c4).length≤10:=bD 9 _
 obtain⟨n,hn0⟩: ∃n,n=2+(ak c0).length+(ak c1).length+(ak c2).length+(ak c3).length+(ak c4).length:=⟨_,rfl⟩
 have hn:n=([byteOf' kk,byteOf' r]++ak c0++ak c1++ak c2++ak c3++ak c4).length:=by rw[hn0];simp;omega
 have hvs:(ak (2+(ak c0).length+(ak c1).length+(ak c2).length+(ak c3).length+(ak c4).length)).length≤10:=bD 9 _
 have hsl:=dB (ak (2+(ak c0).length+(ak c1).length+(ak c2).length+(ak c3).length+(ak c4).length)++([byteOf' kk,byteOf' r]++ak c0++ak c1++ak c2++ak c3++ak c4))
 rcases hk with rfl|rfl
 all_goals
  have hP:=bg.app (bg.app (bg.app (bg.app (bg.app (bg.two (x:=kk) (y:=r) (by omega) (by omega) (by omega) (by omega)) (bg.bytes (ak c0)) rfl) (bg.bytes (ak c1)) (n:=2+(ak c0).length) (by simp<;>omega)) (bg.bytes (ak c2)) (n:=2+(ak c0).length+(ak c1).length) (by simp<;>omega)) (bg.bytes (ak c3)) (n:=2+(ak c0).length+(ak c1).length+(ak c2).length) (by simp<;>omega)) (bg.bytes (ak c4)) (n:=2+(ak c0).length+(ak c1).length+(ak c2).length+(ak c3).length) (by simp<;>omega)
  rw[hkk]at hP hn
  dsimp only[Rc.av,Rc.cs]at hm⊢
  refine K1.E 0x3a020807804000975f Tryz.func41 ?_
  repeat' ((conv=>whnf);first|refine K1.w ?_|refine K1.u ?_|refine K1.P1 hm rfl ?_|refine K1.P1 (kW _) rfl ?_|refine K1.F1 (eH _ c0 (by omega)) rfl ?_|refine K1.F1 (eH _ c1 (by omega)) rfl ?_|refine K1.F1 (eH _ c2 (by omega)) rfl ?_|refine K1.F1 (eH _ c3 (by omega)) rfl ?_|refine K1.F1 (eH _ c4 (by omega)) rfl ?_|refine K1.F1 (eH _ (2+(ak c0).length+(ak c1).length+(ak c2).length+(ak c3).length+(ak c4).length) (by omega)) rfl ?_|refine K1.F1 (oC _ (ak (2+(ak c0).length+(ak c1).length+(ak c2).length+(ak c3).length+(ak c4).length)++([byteOf' _,byteOf' r]++ak c0++ak c1++ak c2++ak c3++ak c4)) (bg.app (bg.bytes _) hP rfl) (by rw[List.length_append,←hn,hn0]) (by rw[List.length_append,←hn,hn0];omega)) rfl ?_|refine aN.qY 68 6 rfl ?_|refine K1.z ?_|refine K1.y (fun _=>?_) (fun _=>?_)|fail)
  conv=>whnf
  refine aJ.oz d rfl rfl ?_ (aj)
  refine bW.nT (bg.bytes _) rfl ?_
  rw[←hn0,hn]
  unfold cO jZ
  simp[zJ,zK,zL,byteOf,byteOf',iF,yM]
theorem VK (d:Nat) (x:Rc) (h:jY x=true):
  aH Tryz.prog 41 [x.av] (.dF [.own d,.v (.int .i64 0)]) [(d,.row 5 1 (cO x).length true (aU (cO x)))]:=by
 have m:=(oN h).k
 rcases(show x.k=1∨x.k=2∨x.k=3∨x.k=4∨x.k=5 by omega)with hk|hk|hk|hk|hk
 · exact Uo d x h (.inl hk)
 · exact abe d x h hk
 · exact Ur d x h (.inl hk)
 · exact Uo d x h (.inr hk)
 · exact Ur d x h (.inr hk)
end
section
open Go.RowKit
def MI:Ev:=⟨0,0,⟨0,0,0,0,0⟩,0,0,⟨#[]⟩,0,⟨#[]⟩⟩
def nK (bs:List UInt8):Ev×Nat×Int:=if(dJ bs (0,0)).2.2≠0 then(MI,0,(dJ bs (0,0)).2.2)else((dJ bs (0,0)).1,(dJ bs (0,0)).2.1,0)
def tkR (t:Ev×Nat×Int):AV:= .dF [t.1.av,.v (.int .i64 (t.2.1:Int)),.v (.int .i64 t.2.2)]
theorem lU {bs:List UInt8} {e:Ev} {s:Sq} (h:dJ bs (0,0)=(e,s)) (h0:s.2=0):tkR (e,s.1,0)=tkR (nK bs):=by
 unfold nK;rw[h,if_neg (fun k=>k h0)]
theorem lV {bs:List UInt8} {e:Ev} {s:Sq} (h:dJ bs (0,0)=(e,s)) (h0: ¬s.2=0):tkR (MI,0,s.2)=tkR (nK bs):=by
 unfold nK;rw[h,if_pos h0]
theorem adb {bs:List UInt8} {lo hi:Int} {s:Sq} (_h0:0≤lo) (h1:0≤hi):0≤(eY bs lo hi s).1∧(eY bs lo hi s).1≤hi:=by
 unfold eY
 split
 · exact⟨Int.le_refl _,h1⟩
 · split
   · exact⟨Int.le_refl _,h1⟩
   · split
     · rename_i h;exact⟨by omega,h.2⟩
     · exact⟨Int.le_refl _,h1⟩
theorem jA {bs:List UInt8} {lo hi c:Int} {s s':Sq} (h:fK bs lo hi s=(c,s')) (hu:s.1≤bs.length):s'.1≤bs.length∧(0≤c∧c≤255):=by
 have h1:=aaW (lo:=lo) (hi:=hi) hu
 have h2:=ac8 (bs:=bs) (lo:=lo) (hi:=hi) (s:=s)
 rw[h]at h1 h2
 exact⟨h1,h2⟩
theorem fV {bs:List UInt8} {lo hi c:Int} {s s':Sq} (h:eY bs lo hi s=(c,s')) (hu:s.1≤bs.length) (h0:0≤lo) (h1:0≤hi):s'.1≤bs.length∧(0≤c∧c≤hi):=by
 have h3:=aa7 (lo:=lo) (hi:=hi) hu
 have h2:=adb (bs:=bs) (lo:=lo) (hi:=hi) (s:=s) h0 h1
 rw[h]at h3 h2
 exact⟨h3,h2⟩
theorem wR {bs:List UInt8} {sz:Int} {may:ByteArray→Int} {c:ByteArray} {s s':Sq} (h:fU bs sz may s=(c,s')) (hu:s.1≤bs.length):s'.1≤bs.length:=by
 have h1:=YW (sz:=sz) (may:=may) hu
 rw[h]at h1
 exact h1
theorem VL (bs:List UInt8) (hl:bs.length≤1000000000):aH Tryz.prog 114 [.sl 1 bs.length true (aU bs)] (.dF [(nK bs).1.av,.v (.int .i64 ((nK bs).2.1:Int)),.v (.int .i64 (nK bs).2.2)]) []:=by
 obtain⟨⟨k,s1⟩,e1⟩: ∃p,fK bs 1 5 (0,0)=p:=⟨_,rfl⟩
 obtain⟨q1,g1⟩:=jA e1 (Nat.zero_le _)
 obtain⟨⟨R,s2⟩,e2⟩: ∃p,fK bs 0 4 s1=p:=⟨_,rfl⟩
 have hR0:=GH (bs:=bs) (lo:=0) (hi:=4) (s:=s1)
 rw[e2]at hR0
 obtain⟨q2,g2⟩:=jA e2 q1
 obtain⟨⟨N,s3⟩,e3⟩: ∃p,eY bs 1 1048576 s2=p:=⟨_,rfl⟩
 obtain⟨q3,g3⟩:=fV e3 q2 (by omega) (by omega)
 rcases(show R=0∨R=1∨R=2∨R=3∨R=4 by simp only at hR0;omega)with rfl|rfl|rfl|rfl|rfl
 · obtain⟨⟨c1,t2⟩,f1⟩: ∃p,eY bs 0 1048576 s3=p:=⟨_,rfl⟩
   obtain⟨p1,_⟩:=fV f1 q3 (by omega) (by omega)
   obtain⟨⟨c2,t3⟩,f2⟩: ∃p,eY bs 0 1048576 t2=p:=⟨_,rfl⟩
   obtain⟨p2,_⟩:=fV f2 p1 (by omega) (by omega)
   obtain⟨⟨c3,t4⟩,f3⟩: ∃p,eY bs 0 1048576 t3=p:=⟨_,rfl⟩
   obtain⟨p3,_⟩:=fV f3 p2 (by omega) (by omega)
   obtain⟨⟨c4,t5⟩,f4⟩: ∃p,eY bs 0 1048576 t4=p:=⟨_,rfl⟩
   obtain⟨p4,_⟩:=fV f4 p3 (by omega) (by omega)
   obtain⟨⟨H,s5⟩,e5⟩: ∃p,eY bs 1 16777216 t5=p:=⟨_,rfl⟩
   obtain⟨q5,g5⟩:=fV e5 p4 (by omega) (by omega)
   obtain⟨⟨ks,s6⟩,e6⟩: ∃p,fK bs 1 8 s5=p:=⟨_,rfl⟩
   obtain⟨q6,g6⟩:=jA e6 q5
   obtain⟨⟨key,s7⟩,e7⟩: ∃p,fU bs ks keyE s6=p:=⟨_,rfl⟩
   have q7:=wR e7 q6
   obtain⟨⟨l,s8⟩,e8⟩: ∃p,fK bs 0 1 s7=p:=⟨_,rfl⟩
   obtain⟨q8,g8⟩:=jA e8 q7
   obtain⟨⟨vs,s9⟩,e9⟩: ∃p,fK bs 1 12 s8=p:=⟨_,rfl⟩
   obtain⟨q9,g9⟩:=jA e9 q8
   obtain⟨⟨v,s10⟩,e10⟩: ∃p,fU bs vs fA s9=p:=⟨_,rfl⟩
   have hF:dJ bs (0,0)=if dN k then(⟨0,N,⟨N-1,c1,c2,c3,c4⟩,H,k,key,l,v⟩,s10)else(⟨0,N,⟨N-1,c1,c2,c3,c4⟩,H,k,key,0,⟨#[]⟩⟩,s7):=by
    simp[dJ,jc,kF,kP,aW.sK,aW.put,e1,e2,e3,f1,f2,f3,f4,e5,e6,e7,e8,e9,e10]
   have hL:dN k=true→dJ bs (0,0)=(⟨0,N,⟨N-1,c1,c2,c3,c4⟩,H,k,key,l,v⟩,s10):=fun h=>hF.trans (if_pos h)
   have hS:dN k=false→dJ bs (0,0)=(⟨0,N,⟨N-1,c1,c2,c3,c4⟩,H,k,key,0,⟨#[]⟩⟩,s7):=fun h=>hF.trans (if_neg (by rw[h];exact Bool.false_ne_true))
   clear hF
   refine K1.E 0x100ff Tryz.func114 ?_
   repeat' ((conv=>whnf);first|refine K1.w ?_|refine K1.u ?_|refine K1.C 3 [(0,_),(1,_),(2,_)] (gB bs _ _ _ _ _ e1 hl) rfl ?_|refine K1.C 3 [(0,_),(1,_),(2,_)] (gB bs _ _ _ _ _ e2 hl) rfl ?_|refine K1.C 3 [(0,_),(1,_),(2,_)] (dU bs _ _ _ _ _ e3 (by assumption) hl (by omega) (by omega) (by omega)) rfl ?_|refine K1.C 3 [(0,_),(1,_),(2,_)] (dU bs _ _ _ _ _ f1 (by assumption) hl (by omega) (by omega) (by omega)) rfl ?_|refine K1.C 3 [(0,_),(1,_),(2,_)] (dU bs _ _ _ _ _ f2 (by assumption) hl (by omega) (by omega) (by omega)) rfl ?_|refine K1.C 3 [(0,_),(1,_),(2,_)] (dU bs _ _ _ _ _ f3 (by assumption) hl (by omega) (by omega) (by omega)) rfl ?_|refine K1.C 3 [(0,_),(1,_),(2,_)] (dU bs _ _ _ _ _ f4 (by assumption) hl (by omega) (by omega) (by omega)) rfl ?_|refine K1.C 3 [(0,_),(1,_),(2,_)] (dU bs _ _ _ _ _ e5 (by assumption) hl (by omega) (by omega) (by omega)) rfl ?_|refine K1.C 3 [(0,_),(1,_),(2,_)] (gB bs _ _ _ _ _ e6 hl) rfl ?_|refine K1.C 3 [(0,_),(1,_),(2,_)] (wM bs _ _ _ _ e7 (by assumption) hl (by assumption)) rfl ?_|refine K1.C 3 [(0,_),(1,_),(2,_)] (gB bs _ _ _ _ _ e8 hl) rfl ?_|refine K1.C 3 [(0,_),(1,_),(2,_)] (gB bs _ _ _ _ _ e9 hl) rfl ?_|refine K1.C 3 [(0,_),(1,_),(2,_)] (wO bs _ _ _ _ e10 (by assumption) hl (by assumption)) rfl ?_|refine K1.P1 (mJ _) rfl ?_|refine aN.rounds 6 ?_|refine K1.I 0x4000004301c7 Tryz.func144 ?_|refine K1.o (id:=6) [(0,none),(1,none),(2,some []),(3,some []),(4,some [1])] [(2,[]),(3,[]),(4,[1])] ?_|refine K1.o (id:=7) [(0,none),(1,none),(2,some [0]),(3,some [0,1]),(4,some [0,1])] [(2,[0]),(3,[0,1]),(4,[0,1])] ?_|refine K1.z ?_|refine K1.y (fun _=>?_) (fun _=>?_)|fail)
   all_goals refine aJ.dO ?_
   all_goals(conv=>whnf)
   all_goals refine bF.mk (aS.of ?_)
   all_goals first|exact lU (hL ‹_›) ‹_› |exact lV (hL ‹_›) ‹_› |exact lU (hS ‹_›) ‹_› |exact lV (hS ‹_›) ‹_›
 · obtain⟨⟨c0,t1⟩,f0⟩: ∃p,eY bs 0 1048576 s3=p:=⟨_,rfl⟩
   obtain⟨p0,_⟩:=fV f0 q3 (by omega) (by omega)
   obtain⟨⟨c2,t3⟩,f2⟩: ∃p,eY bs 0 1048576 t1=p:=⟨_,rfl⟩
   obtain⟨p2,_⟩:=fV f2 p0 (by omega) (by omega)
   obtain⟨⟨c3,t4⟩,f3⟩: ∃p,eY bs 0 1048576 t3=p:=⟨_,rfl⟩
   obtain⟨p3,_⟩:=fV f3 p2 (by omega) (by omega)
   obtain⟨⟨c4,t5⟩,f4⟩: ∃p,eY bs 0 1048576 t4=p:=⟨_,rfl⟩
   obtain⟨p4,_⟩:=fV f4 p3 (by omega) (by omega)
   obtain⟨⟨H,s5⟩,e5⟩: ∃p,eY bs 1 16777216 t5=p:=⟨_,rfl⟩
   obtain⟨q5,g5⟩:=fV e5 p4 (by omega) (by omega)
   obtain⟨⟨ks,s6⟩,e6⟩: ∃p,fK bs 1 8 s5=p:=⟨_,rfl⟩
   obtain⟨q6,g6⟩:=jA e6 q5
   obtain⟨⟨key,s7⟩,e7⟩: ∃p,fU bs ks keyE s6=p:=⟨_,rfl⟩
   have q7:=wR e7 q6
   obtain⟨⟨l,s8⟩,e8⟩: ∃p,fK bs 0 1 s7=p:=⟨_,rfl⟩
   obtain⟨q8,g8⟩:=jA e8 q7
   obtain⟨⟨vs,s9⟩,e9⟩: ∃p,fK bs 1 12 s8=p:=⟨_,rfl⟩
   obtain⟨q9,g9⟩:=jA e9 q8
   obtain⟨⟨v,s10⟩,e10⟩: ∃p,fU bs vs fA s9=p:=⟨_,rfl⟩
   have hF:dJ bs (0,0)=if dN k then(⟨1,N,⟨c0,N-1,c2,c3,c4⟩,H,k,key,l,v⟩,s10)else(⟨1,N,⟨c0,N-1,c2,c3,c4⟩,H,k,key,0,⟨#[]⟩⟩,s7):=by
    simp[dJ,jc,kF,kP,aW.sK,aW.put,e1,e2,e3,f0,f2,f3,f4,e5,e6,e7,e8,e9,e10]
   have hL:dN k=true→dJ bs (0,0)=(⟨1,N,⟨c0,N-1,c2,c3,c4⟩,H,k,key,l,v⟩,s10):=fun h=>hF.trans (if_pos h)
   have hS:dN k=false→dJ bs (0,0)=(⟨1,N,⟨c0,N-1,c2,c3,c4⟩,H,k,key,0,⟨#[]⟩⟩,s7):=fun h=>hF.trans (if_neg (by rw[h];exact Bool.false_ne_true))
   clear hF
   refine K1.E 0x100ff Tryz.func114 ?_
   repeat' ((conv=>whnf);first|refine K1.w ?_|refine K1.u ?_|refine K1.C 3 [(0,_),(1,_),(2,_)] (gB bs _ _ _ _ _ e1 hl) rfl ?_|refine K1.C 3 [(0,_),(1,_),(2,_)] (gB bs _ _ _ _ _ e2 hl) rfl ?_|refine K1.C 3 [(0,_),(1,_),(2,_)] (dU bs _ _ _ _ _ e3 (by assumption) hl (by omega) (by omega) (by omega)) rfl ?_|refine K1.C 3 [(0,_),(1,_),(2,_)] (dU bs _ _ _ _ _ f0 (by assumption) hl (by omega) (by omega) (by omega)) rfl ?_|refine K1.C 3 [(0,_),(1,_),(2,_)] (dU bs _ _ _ _ _ f2 (by assumption) hl (by omega) (by omega) (by omega)) rfl ?_|refine K1.C 3 [(0,_),(1,_),(2,_)] (dU bs _ _ _ _ _ f3 (by assumption) hl (by omega) (by omega) (by omega)) rfl ?_|refine K1.C 3 [(0,_),(1,_),(2,_)] (dU bs _ _ _ _ _ f4 (by assumption) hl (by omega) (by omega) (by omega)) rfl ?_|refine K1.C 3 [(0,_),(1,_),(2,_)] (dU bs _ _ _ _ _ e5 (by assumption) hl (by omega) (by omega) (by omega)) rfl ?_|refine K1.C 3 [(0,_),(1,_),(2,_)] (gB bs _ _ _ _ _ e6 hl) rfl ?_|refine K1.C 3 [(0,_),(1,_),(2,_)] (wM bs _ _ _ _ e7 (by assumption) hl (by assumption)) rfl ?_|refine K1.C 3 [(0,_),(1,_),(2,_)] (gB bs _ _ _ _ _ e8 hl) rfl ?_|refine K1.C 3 [(0,_),(1,_),(2,_)] (gB bs _ _ _ _ _ e9 hl) rfl ?_|refine K1.C 3 [(0,_),(1,_),(2,_)] (wO bs _ _ _ _ e10 (by assumption) hl (by assumption)) rfl ?_|refine K1.P1 (mJ _) rfl ?_|refine aN.rounds 6 ?_|refine K1.I 0x4000004301c7 Tryz.func144 ?_|refine K1.o (id:=6) [(0,none),(1,none),(2,some []),(3,some []),(4,some [1])] [(2,[]),(3,[]),(4,[1])] ?_|refine K1.o (id:=7) [(0,none),(1,none),(2,some [0]),(3,some [0,1]),(4,some [0,1])] [(2,[0]),(3,[0,1]),(4,[0,1])] ?_|refine K1.z ?_|refine K1.y (fun _=>?_) (fun _=>?_)|fail)
   all_goals refine aJ.dO ?_
   all_goals(conv=>whnf)
   all_goals refine bF.mk (aS.of ?_)
   all_goals first|exact lU (hL ‹_›) ‹_› |exact lV (hL ‹_›) ‹_› |exact lU (hS ‹_›) ‹_› |exact lV (hS ‹_›) ‹_›
 · obtain⟨⟨c0,t1⟩,f0⟩: ∃p,eY bs 0 1048576 s3=p:=⟨_,rfl⟩
   obtain⟨p0,_⟩:=fV f0 q3 (by omega) (by omega)
   obtain⟨⟨c1,t2⟩,f1⟩: ∃p,eY bs 0 1048576 t1=p:=⟨_,rfl⟩
   obtain⟨p1,_⟩:=fV f1 p0 (by omega) (by omega)
   obtain⟨⟨c3,t4⟩,f3⟩: ∃p,eY bs 0 1048576 t2=p:=⟨_,rfl⟩
   obtain⟨p3,_⟩:=fV f3 p1 (by omega) (by omega)
   obtain⟨⟨c4,t5⟩,f4⟩: ∃p,eY bs 0 1048576 t4=p:=⟨_,rfl⟩
   obtain⟨p4,_⟩:=fV f4 p3 (by omega) (by omega)
   obtain⟨⟨H,s5⟩,e5⟩: ∃p,eY bs 1 16777216 t5=p:=⟨_,rfl⟩
   obtain⟨q5,g5⟩:=fV e5 p4 (by omega) (by omega)
   obtain⟨⟨ks,s6⟩,e6⟩: ∃p,fK bs 1 8 s5=p:=⟨_,rfl⟩
   obtain⟨q6,g6⟩:=jA e6 q5
   obtain⟨⟨key,s7⟩,e7⟩: ∃p,fU bs ks keyE s6=p:=⟨_,rfl⟩
   have q7:=wR e7 q6
   obtain⟨⟨l,s8⟩,e8⟩: ∃p,fK bs 0 1 s7=p:=⟨_,rfl⟩
   obtain⟨q8,g8⟩:=jA e8 q7
   obtain⟨⟨vs,s9⟩,e9⟩: ∃p,fK bs 1 12 s8=p:=⟨_,rfl⟩
   obtain⟨q9,g9⟩:=jA e9 q8
   obtain⟨⟨v,s10⟩,e10⟩: ∃p,fU bs vs fA s9=p:=⟨_,rfl⟩
   have hF:dJ bs (0,0)=if dN k then(⟨2,N,⟨c0,c1,N-1,c3,c4⟩,H,k,key,l,v⟩,s10)else(⟨2,N,⟨c0,c1,N-1,c3,c4⟩,H,k,key,0,⟨#[]⟩⟩,s7):=by
    simp[dJ,jc,kF,kP,aW.sK,aW.put,e1,e2,e3,f0,f1,f3,f4,e5,e6,e7,e8,e9,e10]
   have hL:dN k=true→dJ bs (0,0)=(⟨2,N,⟨c0,c1,N-1,c3,c4⟩,H,k,key,l,v⟩,s10):=fun h=>hF.trans (if_pos h)
   have hS:dN k=false→dJ bs (0,0)=(⟨2,N,⟨c0,c1,N-1,c3,c4⟩,H,k,key,0,⟨#[]⟩⟩,s7):=fun h=>hF.trans (if_neg (by rw[h];exact Bool.false_ne_true))
   clear hF
   refine K1.E 0x100ff Tryz.func114 ?_
   repeat' ((conv=>whnf);first|refine K1.w ?_|refine K1.u ?_|refine K1.C 3 [(0,_),(1,_),(2,_)] (gB bs _ _ _ _ _ e1 hl) rfl ?_|refine K1.C 3 [(0,_),(1,_),(2,_)] (gB bs _ _ _ _ _ e2 hl) rfl ?_|refine K1.C 3 [(0,_),(1,_),(2,_)] (dU bs _ _ _ _ _ e3 (by assumption) hl (by omega) (by omega) (by omega)) rfl ?_|refine K1.C 3 [(0,_),(1,_),(2,_)] (dU bs _ _ _ _ _ f0 (by assumption) hl (by omega) (by omega) (by omega)) rfl ?_|refine K1.C 3 [(0,_),(1,_),(2,_)] (dU bs _ _ _ _ _ f1 (by assumption) hl (by omega) (by omega) (by omega)) rfl ?_|refine K1.C 3 [(0,_),(1,_),(2,_)] (dU bs _ _ _ _ _ f3 (by assumption) hl (by omega) (by omega) (by omega)) rfl ?_|refine K1.C 3 [(0,_),(1,_),(2,_)] (dU bs _ _ _ _ _ f4 (by assumption) hl (by omega) (by omega) (by omega)) rfl ?_|refine K1.C 3 [(0,_),(1,_),(2,_)] (dU bs _ _ _ _ _ e5 (by assumption) hl (by omega) (by omega) (by omega)) rfl ?_|refine K1.C 3 [(0,_),(1,_),(2,_)] (gB bs _ _ _ _ _ e6 hl) rfl ?_|refine K1.C 3 [(0,_),(1,_),(2,_)] (wM bs _ _ _ _ e7 (by assumption) hl (by assumption)) rfl ?_|refine K1.C 3 [(0,_),(1,_),(2,_)] (gB bs _ _ _ _ _ e8 hl) rfl ?_|refine K1.C 3 [(0,_),(1,_),(2,_)] (gB bs _ _ _ _ _ e9 hl) rfl ?_|refine K1.C 3 [(0,_),(1,_),(2,_)] (wO bs _ _ _ _ e10 (by assumption) hl (by assumption)) rfl ?_|refine K1.P1 (mJ _) rfl ?_|refine aN.rounds 6 ?_|refine K1.I 0x4000004301c7 Tryz.func144 ?_|refine K1.o (id:=6) [(0,none),(1,none),(2,some []),(3,some []),(4,some [1])] [(2,[]),(3,[]),(4,[1])] ?_|refine K1.o (id:=7) [(0,none),(1,none),(2,some [0]),(3,some [0,1]),(4,some [0,1])] [(2,[0]),(3,[0,1]),(4,[0,1])] ?_|refine K1.z ?_|refine K1.y (fun _=>?_) (fun _=>?_)|fail)
   all_goals refine aJ.dO ?_
   all_goals(conv=>whnf)
   all_goals refine bF.mk (aS.of ?_)
   all_goals first|exact lU (hL ‹_›) ‹_› |exact lV (hL ‹_›) ‹_› |exact lU (hS ‹_›) ‹_› |exact lV (hS ‹_›) ‹_›
 · obtain⟨⟨c0,t1⟩,f0⟩: ∃p,eY bs 0 1048576 s3=p:=⟨_,rfl⟩
   obtain⟨p0,_⟩:=fV f0 q3 (by omega) (by omega)
   obtain⟨⟨c1,t2⟩,f1⟩: ∃p,eY bs 0 1048576 t1=p:=⟨_,rfl⟩
   obtain⟨p1,_⟩:=fV f1 p0 (by omega) (by omega)
   obtain⟨⟨c2,t3⟩,f2⟩: ∃p,eY bs 0 1048576 t2=p:=⟨_,rfl⟩
   obtain⟨p2,_⟩:=fV f2 p1 (by omega) (by omega)
   obtain⟨⟨c4,t5⟩,f4⟩: ∃p,eY bs 0 1048576 t3=p:=⟨_,rfl⟩
   obtain⟨p4,_⟩:=fV f4 p2 (by omega) (by omega)
   obtain⟨⟨H,s5⟩,e5⟩: ∃p,eY bs 1 16777216 t5=p:=⟨_,rfl⟩
   obtain⟨q5,g5⟩:=fV e5 p4 (by omega) (by omega)
   obtain⟨⟨ks,s6⟩,e6⟩: ∃p,fK bs 1 8 s5=p:=⟨_,rfl⟩
   obtain⟨q6,g6⟩:=jA e6 q5
   obtain⟨⟨key,s7⟩,e7⟩: ∃p,fU bs ks keyE s6=p:=⟨_,rfl⟩
   have q7:=wR e7 q6
   obtain⟨⟨l,s8⟩,e8⟩: ∃p,fK bs 0 1 s7=p:=⟨_,rfl⟩
   obtain⟨q8,g8⟩:=jA e8 q7
   obtain⟨⟨vs,s9⟩,e9⟩: ∃p,fK bs 1 12 s8=p:=⟨_,rfl⟩
   obtain⟨q9,g9⟩:=jA e9 q8
   obtain⟨⟨v,s10⟩,e10⟩: ∃p,fU bs vs fA s9=p:=⟨_,rfl⟩
   have hF:dJ bs (0,0)=if dN k then(⟨3,N,⟨c0,c1,c2,N-1,c4⟩,H,k,key,l,v⟩,s10)else(⟨3,N,⟨c0,c1,c2,N-1,c4⟩,H,k,key,0,⟨#[]⟩⟩,s7):=by
    simp[dJ,jc,kF,kP,aW.sK,aW.put,e1,e2,e3,f0,f1,f2,f4,e5,e6,e7,e8,e9,e10]
   have hL:dN k=true→dJ bs (0,0)=(⟨3,N,⟨c0,c1,c2,N-1,c4⟩,H,k,key,l,v⟩,s10):=fun h=>hF.trans (if_pos h)
   have hS:dN k=false→dJ bs (0,0)=(⟨3,N,⟨c0,c1,c2,N-1,c4⟩,H,k,key,0,⟨#[]⟩⟩,s7):=fun h=>hF.trans (if_neg (by rw[h];exact Bool.false_ne_true))
   clear hF
   refine K1.E 0x100ff Tryz.func114 ?_
   repeat' ((conv=>whnf);first|refine K1.w ?_|refine K1.u ?_|refine K1.C 3 [(0,_),(1,_),(2,_)] (gB bs _ _ _ _ _ e1 hl) rfl ?_|refine K1.C 3 [(0,_),(1,_),(2,_)] (gB bs _ _ _ _ _ e2 hl) rfl ?_|refine K1.C 3 [(0,_),(1,_),(2,_)] (dU bs _ _ _ _ _ e3 (by assumption) hl (by omega) (by omega) (by omega)) rfl ?_|refine K1.C 3 [(0,_),(1,_),(2,_)] (dU bs _ _ _ _ _ f0 (by assumption) hl (by omega) (by omega) (by omega)) rfl ?_|refine K1.C 3 [(0,_),(1,_),(2,_)] (dU bs _ _ _ _ _ f1 (by assumption) hl (by omega) (by omega) (by omega)) rfl ?_|refine K1.C 3 [(0,_),(1,_),(2,_)] (dU bs _ _ _ _ _ f2 (by assumption) hl (by omega) (by omega) (by omega)) rfl ?_|refine K1.C 3 [(0,_),(1,_),(2,_)] (dU bs _ _ _ _ _ f4 (by assumption) hl (by omega) (by omega) (by omega)) rfl ?_|refine K1.C 3 [(0,_),(1,_),(2,_)] (dU bs _ _ _ _ _ e5 (by assumption) hl (by omega) (by omega) (by omega)) rfl ?_|refine K1.C 3 [(0,_),(1,_),(2,_)] (gB bs _ _ _ _ _ e6 hl) rfl ?_|refine K1.C 3 [(0,_),(1,_),(2,_)] (wM bs _ _ _ _ e7 (by assumption) hl (by assumption)) rfl ?_|refine K1.C 3 [(0,_),(1,_),(2,_)] (gB bs _ _ _ _ _ e8 hl) rfl ?_|refine K1.C 3 [(0,_),(1,_),(2,_)] (gB bs _ _ _ _ _ e9 hl) rfl ?_|refine K1.C 3 [(0,_),(1,_),(2,_)] (wO bs _ _ _ _ e10 (by assumption) hl (by assumption)) rfl ?_|refine K1.P1 (mJ _) rfl ?_|refine aN.rounds 6 ?_|refine K1.I 0x4000004301c7 Tryz.func144 ?_|refine K1.o (id:=6) [(0,none),(1,none),(2,some []),(3,some []),(4,some [1])] [(2,[]),(3,[]),(4,[1])] ?_|refine K1.o (id:=7) [(0,none),(1,none),(2,some [0]),(3,some [0,1]),(4,some [0,1])] [(2,[0]),(3,[0,1]),(4,[0,1])] ?_|refine K1.z ?_|refine K1.y (fun _=>?_) (fun _=>?_)|fail)
   all_goals refine aJ.dO ?_
   all_goals(conv=>whnf)
   all_goals refine bF.mk (aS.of ?_)
   all_goals first|exact lU (hL ‹_›) ‹_› |exact lV (hL ‹_›) ‹_› |exact lU (hS ‹_›) ‹_› |exact lV (hS ‹_›) ‹_›
 · obtain⟨⟨c0,t1⟩,f0⟩: ∃p,eY bs 0 1048576 s3=p:=⟨_,rfl⟩
   obtain⟨p0,_⟩:=fV f0 q3 (by omega) (by omega)
   obtain⟨⟨c1,t2⟩,f1⟩: ∃p,eY bs 0 1048576 t1=p:=⟨_,rfl⟩
   obtain⟨p1,_⟩:=fV f1 p0 (by omega) (by omega)
   obtain⟨⟨c2,t3⟩,f2⟩: ∃p,eY bs 0 1048576 t2=p:=⟨_,rfl⟩
   obtain⟨p2,_⟩:=fV f2 p1 (by omega) (by omega)
   obtain⟨⟨c3,t4⟩,f3⟩: ∃p,eY bs 0 1048576 t3=p:=⟨_,rfl⟩
   obtain⟨p3,_⟩:=fV f3 p2 (by omega) (by omega)
   obtain⟨⟨H,s5⟩,e5⟩: ∃p,eY bs 1 16777216 t4=p:=⟨_,rfl⟩
   obtain⟨q5,g5⟩:=fV e5 p3 (by omega) (by omega)
   obtain⟨⟨ks,s6⟩,e6⟩: ∃p,fK bs 1 8 s5=p:=⟨_,rfl⟩
   obtain⟨q6,g6⟩:=jA e6 q5
   obtain⟨⟨key,s7⟩,e7⟩: ∃p,fU bs ks keyE s6=p:=⟨_,rfl⟩
   have q7:=wR e7 q6
   obtain⟨⟨l,s8⟩,e8⟩: ∃p,fK bs 0 1 s7=p:=⟨_,rfl⟩
   obtain⟨q8,g8⟩:=jA e8 q7
   obtain⟨⟨vs,s9⟩,e9⟩: ∃p,fK bs 1 12 s8=p:=⟨_,rfl⟩
   obtain⟨q9,g9⟩:=jA e9 q8
   obtain⟨⟨v,s10⟩,e10⟩: ∃p,fU bs vs fA s9=p:=⟨_,rfl⟩
   have hF:dJ bs (0,0)=if dN k then(⟨4,N,⟨c0,c1,c2,c3,N-1⟩,H,k,key,l,v⟩,s10)else(⟨4,N,⟨c0,c1,c2,c3,N-1⟩,H,k,key,0,⟨#[]⟩⟩,s7):=by
    simp[dJ,jc,kF,kP,aW.sK,aW.put,e1,e2,e3,f0,f1,f2,f3,e5,e6,e7,e8,e9,e10]
   have hL:dN k=true→dJ bs (0,0)=(⟨4,N,⟨c0,c1,c2,c3,N-1⟩,H,k,key,l,v⟩,s10):=fun h=>hF.trans (if_pos h)
   have hS:dN k=false→dJ bs (0,0)=(⟨4,N,⟨c0,c1,c2,c3,N-1⟩,H,k,key,0,⟨#[]⟩⟩,s7):=fun h=>hF.trans (if_neg (by rw[h];exact Bool.false_ne_true))
   clear hF
   refine K1.E 0x100ff Tryz.func114 ?_
   repeat' ((conv=>whnf);first|refine K1.w ?_|refine K1.u ?_|refine K1.C 3 [(0,_),(1,_),(2,_)] (gB bs _ _ _ _ _ e1 hl) rfl ?_|refine K1.C 3 [(0,_),(1,_),(2,_)] (gB bs _ _ _ _ _ e2 hl) rfl ?_|refine K1.C 3 [(0,_),(1,_),(2,_)] (dU bs _ _ _ _ _ e3 (by assumption) hl (by omega) (by omega) (by omega)) rfl ?_|refine K1.C 3 [(0,_),(1,_),(2,_)] (dU bs _ _ _ _ _ f0 (by assumption) hl (by omega) (by omega) (by omega)) rfl ?_|refine K1.C 3 [(0,_),(1,_),(2,_)] (dU bs _ _ _ _ _ f1 (by assumption) hl (by omega) (by omega) (by omega)) rfl ?_|refine K1.C 3 [(0,_),(1,_),(2,_)] (dU bs _ _ _ _ _ f2 (by assumption) hl (by omega) (by omega) (by omega)) rfl ?_|refine K1.C 3 [(0,_),(1,_),(2,_)] (dU bs _ _ _ _ _ f3 (by assumption) hl (by omega) (by omega) (by omega)) rfl ?_|refine K1.C 3 [(0,_),(1,_),(2,_)] (dU bs _ _ _ _ _ e5 (by assumption) hl (by omega) (by omega) (by omega)) rfl ?_|refine K1.C 3 [(0,_),(1,_),(2,_)] (gB bs _ _ _ _ _ e6 hl) rfl ?_|refine K1.C 3 [(0,_),(1,_),(2,_)] (wM bs _ _ _ _ e7 (by assumption) hl (by assumption)) rfl ?_|refine K1.C 3 [(0,_),(1,_),(2,_)] (gB bs _ _ _ _ _ e8 hl) rfl ?_|refine K1.C 3 [(0,_),(1,_),(2,_)] (gB bs _ _ _ _ _ e9 hl) rfl ?_|refine K1.C 3 [(0,_),(1,_),(2,_)] (wO bs _ _ _ _ e10 (by assumption) hl (by assumption)) rfl ?_|refine K1.P1 (mJ _) rfl ?_|refine aN.rounds 6 ?_|refine K1.I 0x4000004301c7 Tryz.func144 ?_|refine K1.o (id:=6) [(0,none),(1,none),(2,some []),(3,some []),(4,some [1])] [(2,[]),(3,[]),(4,[1])] ?_|refine K1.o (id:=7) [(0,none),(1,none),(2,some [0]),(3,some [0,1]),(4,some [0,1])] [(2,[0]),(3,[0,1]),(4,[0,1])] ?_|refine K1.z ?_|refine K1.y (fun _=>?_) (fun _=>?_)|fail)
   all_goals refine aJ.dO ?_
   all_goals(conv=>whnf)
   all_goals refine bF.mk (aS.of ?_)
   all_goals first|exact lU (hL ‹_›) ‹_› |exact lV (hL ‹_›) ‹_› |exact lU (hS ‹_›) ‹_› |exact lV (hS ‹_›) ‹_›
end
theorem O8 {n:Nat} (h:n<256):(UInt8.ofNat n).toNat=n:=by
 rw[UInt8.toNat_ofNat',Nat.mod_eq_of_lt (by omega)]
theorem acj {a b:UInt8} (h:a.toNat=b.toNat):a=b:=UInt8.toNat_inj.1 h
theorem G8 (t:List UInt8): ∀ (f i n acc:Nat),i+f=9→n*128^i≤4294967296→(0<i→n≠0)→n<128^(f+1)→
  ig ((gJ f n++t).take (10-i)) i acc=(acc+n*128^i,i+(gJ f n).length,0)
  | 0,i,n,acc,hi,hn,h0,_=>by
    have:i=9:=by omega
    subst this
    exfalso
    have:n=0∨1≤n:=by omega
    rcases this with h|h
    · exact h0 (by omega) h
    · have h2:128^9=9223372036854775808:=by decide
      rw[h2]at hn
      omega
  | f + 1,i,n,acc,hi,hn,h0,hlt=>by
    have h10:10-i=(10-(i+1))+1:=by omega
    by_cases h:n<128
    · simp only[gJ,if_pos h,List.cons_append,List.nil_append,h10,List.take_succ_cons,ig,O8 (show n<256 by omega)]
      rw[if_neg (by omega),if_neg]
      · simp
      · rintro(⟨h1,h2⟩|⟨h1,h2⟩)
        · exact h0 h1 h2
        · omega
    · have hq:n%128+128<256:=by omega
      have e:n/128*128^(i+1)+n%128*128^i=n*128^i:=by
       rw[Nat.pow_succ,Nat.mul_comm (128^i) 128,←Nat.mul_assoc,←Nat.add_mul]
       congr 1
       omega
      have ih:=G8 t f (i+1) (n/128) (acc+(n%128)*128^i) (by omega) (by omega) (fun _=>by omega) (by
       rw[Nat.pow_succ]at hlt
       exact Nat.div_lt_of_lt_mul (by omega))
      simp only[gJ,if_neg h,List.cons_append,h10,List.take_succ_cons,ig,O8 hq]
      rw[if_pos (by omega),show n%128+128-128=n%128 by omega,ih]
      simp only[List.length_cons,Prod.mk.injEq,and_true]
      exact⟨by omega,by omega⟩
theorem uf (n:Nat) (t:List UInt8) (h:n≤4294967296):dG (ak n++t)=(n,(ak n).length,0):=by
 have:=G8 t 9 0 n 0 rfl (by simpa using h) (fun h=>absurd h (by omega)) (by
  have:128^(9+1)=1180591620717411303424:=by decide
  omega)
 simpa[dG,ak]using this
theorem JZ: ∀ (l:List UInt8) (i acc m k:Nat),i+l.length≤10→ig l i acc=(m,k,0)→ ∃n,m=acc+n*128^i∧k=i+(gJ (9-i) n).length∧k≤i+l.length∧l.take (k-i)=gJ (9-i) n∧(0<i→n≠0)
  | [],i,acc,m,k,hl,h=>by
    simp only[ig]at h
    split at h<;>cases h
  | c :: r,i,acc,m,k,hl,h=>by
    simp only[ig]at h
    simp only[List.length_cons]at hl
    have hc:=UInt8.toNat_lt c
    by_cases h1:128≤c.toNat
    · rw [if_pos h1]at h
      obtain⟨n,e1,e2,e3,e4,e5⟩:=JZ r (i+1) _ m k (by omega) h
      have hn:=e5 (by omega)
      have h9:9-i=(9-(i+1))+1:=by
       have:1≤r.length:=by
        cases r with
        | nil=>
          simp only[ig]at h
          split at h<;>cases h
        |cons=>simp
       omega
      refine⟨n*128+(c.toNat-128), ?_, ?_,by simp only[List.length_cons];omega, ?_,fun _=>by omega⟩
      · rw[e1,Nat.pow_succ,Nat.add_mul]
        have:n*(128^i*128)=n*128*128^i:=by rw[Nat.mul_comm (128^i) 128,Nat.mul_assoc]
        omega
      · rw[h9,gJ,if_neg (by omega),List.length_cons,show(n*128+(c.toNat-128))/128=n by omega]
        omega
      · have hk:k-i=(k-(i+1))+1:=by
         have:=yg (9-(i+1)) n
         omega
        rw[hk,List.take_succ_cons,e4,h9,gJ,if_neg (by omega),show(n*128+(c.toNat-128))/128=n by omega]
        have hcc:UInt8.ofNat ((n*128+(c.toNat-128))%128+128)=c:=acj (by rw[O8 (by omega)];omega)
        rw[hcc]
    · rw [if_neg h1]at h
      split at h
      · cases h
      · rename_i h2
        simp only[Prod.mk.injEq,and_true]at h
        obtain⟨h3,h4⟩:=h
        refine⟨c.toNat,h3.symm, ?_,by simp only[List.length_cons];omega, ?_,fun hi e=>h2 (.inl ⟨hi,e⟩)⟩
        all_goals subst h4
        · cases h9:9-i with
          |zero=>simp[gJ]
          |succ f=>simp[gJ,show c.toNat<128 by omega]
        · rw[show i+1-i=0+1 by omega,List.take_succ_cons,List.take_zero]
          have:UInt8.ofNat c.toNat=c:=by simp
          cases h9:9-i with
          |zero=>simp[gJ,this]
          |succ f=>simp[gJ,show c.toNat<128 by omega,this]
theorem Zb {l:List UInt8} {m k:Nat} (h:dG l=(m,k,0)):k=(ak m).length∧k≤l.length∧l.take k=ak m:=by
 obtain⟨n,e1,e2,e3,e4,_⟩:=JZ (l.take 10) 0 0 m k (by rw[List.length_take];omega) h
 simp only[Nat.pow_zero,Nat.mul_one,Nat.zero_add,Nat.sub_zero]at e1 e2 e3 e4
 subst e1
 rw[List.length_take]at e3
 refine⟨e2,by omega, ?_⟩
 rw[List.take_take,Nat.min_eq_left (by omega)]at e4
 exact e4
theorem G9: ∀ (l:List UInt8) (i acc:Nat),(ig l i acc).2.2=0∨(ig l i acc).2.2=2∨(ig l i acc).2.2=3
  |[],i,acc=>by simp only[ig];split<;>simp
  | c::r,i,acc=>by
    simp only[ig]
    split
    · exact G9 r _ _
    · split<;>simp
theorem He: ∀ (f i n acc j:Nat),i+f≤9→j<(gJ f n).length→ig ((gJ f n).take j) i acc=(0,0,2)
  |f,i,n,acc,0,hi,_=>by simp[ig];omega
  |0,i,n,acc,j+1,hi,hj=>by simp[gJ]at hj
  | f +1,i,n,acc,j+1,hi,hj=>by
    by_cases h:n<128
    · simp[gJ,h]at hj
    · have hq:n%128+128<256:=by omega
      simp only[gJ,if_neg h,List.length_cons]at hj
      simp only[gJ,if_neg h,List.take_succ_cons,ig,O8 hq]
      rw[if_pos (by omega)]
      exact He f (i+1) (n/128) _ j (by omega) (by omega)
theorem VN {n j:Nat} (hj:j<(ak n).length):dG ((ak n).take j)=(0,0,2):=by
 have:=bD 9 n
 unfold dG
 rw[List.take_take,Nat.min_eq_right (by unfold ak at hj;omega)]
 exact He 9 0 n 0 j (by omega) hj
end Go.Proofs.YtimhagicagdkfaaGreat
