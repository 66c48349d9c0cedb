/-
  Contracts of the walk:RecF,Shape,Frm,FrmP,TkLaw,TkLawB,TkE.
-/
import Derived.Test.YtopfgjgdadnjeaaGreatHp8
import Derived.Test.YtopfgjgdadnjeaaGreatHp7
import Derived.Test.YtopfgjgdadnjeaaGreatHp2
import Derived.WalkSpells
import Derived.WalkLawsBesides
import Derived.Handy
import Derived.WideMake
import Derived.Lib.Hide
import Derived.Test.YtopfgjgdadnjeaaGreatHp1
set_option maxHeartbeats 16000000
set_option maxRecDepth 100000
set_option linter.unusedVariables false
set_option linter.unusedSimpArgs false
namespace Go.Proofs.YtopfgjgdadnjeaaGreat
open Go.RowKit
variable{may:ByteArray->Int}{e:Ev}{p:Ev->Bool}{R a c d hi k lo o r:Int}{l:List Ev}{bs t:List UInt8}{j n u:Nat}{F:Nat->List AV}{s s':Sq}{b:UInt8}
theorem C1.pF{X:CX}{a1 a2 a3 a4 a5 a6 a7 a8:AV}{f:Nat->List AV}{u:Value}(h:C1 X (.agg [a1,a2,a3,a4,a5,a6,a7,a8,.v (.slice none 0 0)]) u):C1 X (.agg [a1,a2,a3,a4,a5,a6,a7,a8,.sl 12 0 true f]) u:=by
 obtain⟨us,e,ha⟩:=h;obtain⟨v,hv,hc⟩:=ha.get (i:=8) rfl;have hc:v= .slice none 0 0:=hc;subst hc;refine⟨us,e, ?_⟩;have:=ha.set 8 (x:= .sl 12 0 true f) (u:= .slice none 0 0) (show C0 X (.sl 12 0 true f) (.slice none 0 0)from .sl 12 0 true f none 0 [] (by omega) (Nat.le_refl _) (by simp[maxLen]) (by simp) (λ i hi=>absurd hi (Nat.not_lt_zero i)) (λ _ x hx=>by simp[flat]at hx) (λ i x u hx=>by simp[flat]at hx) (.inl rfl));have e2:us.set 8 (.slice none 0 0)=us:=by
  apply List.ext_getElem?;intro i;rw[List.getElem?_set];by_cases h8:8=i
  ·subst h8;rw[if_pos rfl,hv];have:8<us.length:=by
    rcases Nat.lt_or_ge 8 us.length with h|h
    ·exact h
    ·rw[List.getElem?_eq_none h]at hv;cases hv
   rw[if_pos this]
  ·rw[if_neg h8]
 rw[e2]at this;exact this
def Gz(c:dD):dD:=⟨wC c.c0 1048575,wC c.c1 1048575,wC c.c2 1048575,wC c.c3 1048575,wC c.c4 1048575⟩
theorem bI.pF{a1 a2 a3 a4 a5 a6 a7 a8:AV}(f:Nat->List AV):bI (.agg [a1,a2,a3,a4,a5,a6,a7,a8,.v (.slice none 0 0)]) (.agg [a1,a2,a3,a4,a5,a6,a7,a8,.sl 12 0 true f]):=λ _ _ h=>C1.pF h
def Pg(k r u c0 c1 c2 c3 c4:Int)(e:AV):List AV:=[.v (.int .i64 k),.v (.int .i64 r),.v (.int .i64 u),.v (.int .i64 c0),.v (.int .i64 c1),.v (.int .i64 c2),.v (.int .i64 c3),.v (.int .i64 c4),e]
theorem CY(x:Rc):5<(aH x).length:=by
 have hv:=sG 9 (dF (eU x)).length;have hb:2<=(eU x).length:=by simp[eU]<;>omega
 have hs:=bP (eU x);unfold aH;rw[List.length_append];show 5<(fE 9 (dF (eU x)).length).length+_;omega
def IsE(F:Nat->List AV)(l:List Ev):Prop:= ∀i,i<l.length->F i=jH l i
theorem IsE.nil(F:Nat->List AV):IsE F []:=λ i h=>absurd h (by simp)
theorem IsE.app{G:Nat->List AV}{l':List Ev}(h:IsE F l)(h':IsE G l')(hn:n=l.length):IsE (kJ n F G) (l++l'):=by
 intro i hi;rw[List.length_append]at hi;show _=qP Ev.cs (l++l') i;rw[<-els_app hn];unfold kJ;cases hb:Nat.ble n i with
 |true=>
  have:=Nat.le_of_ble_eq_true hb;exact h' (i-n) (by omega)
 |false=>
  have:i<n:=Nat.lt_of_not_le λ h=>by rw[Nat.ble_eq_true_of_le h]at hb;cases hb
  exact h i (by omega)
theorem IsE.one(h:F 0=e.cs):IsE F [e]:=λ i hi=>by
 have:i=0:=by simpa using hi
 subst this;exact h
def uY(k:Int):Bool:=k==1||k==4
def vC(k:Int):Bool:=k==2
def vF(k:Int):Bool:=k==3||k==5
def KE(k:Int):Bool:=decide (1<=k/\k<=5)
def wE(e u c:Bool):Value:= .agg #[.bool e,.bool u,.bool c]
theorem Y8(w:World)(b:Nat)(es:Array MapEntry)(clock:Nat)(n:Int)(x:Value)(hb:w.heap[b]? =some (.map es clock))(hn:Instr.findNow (.int .i64) (.int .i64 n) es.toList 0=some none):
  (Instr.mapUpdate 151 (.map (some b)) (.int .i64 n) x).run Tryz.prog w= .ok () {w with heap:=w.heap.setIfInBounds b (.map (es.push {key:= .int .i64 n,val:=x,born:=clock}) (clock+1))}:=by
 have hc:(Instr.checkKey false 10000 3 (.int .i64 n)).run Tryz.prog w= .ok () w:=MapKept.run_checkKey (k:= .int .i64 n) Tryz.underlying3 (by simp[MapKept.IsKey]) false 9999;simp[Instr.mapUpdate,run_underlying Tryz.underlying151,MapKept.run_getObj_map hb,hc,MapKept.run_findKey Tryz.underlying3 hn,MapKept.run_setObj_map _ hb,Result.andThen]
def valOf:Option (Nat×Value)->Value
 |some p=>p.2
 |none=>wE false false false
theorem WM(w:World)(b:Nat)(es:Array MapEntry)(clock:Nat)(n:Int)(r:Option (Nat×Value))(hb:w.heap[b]? =some (.map es clock))(hn:Instr.findNow (.int .i64) (.int .i64 n) es.toList 0=some r):
  (Instr.lookup 151 (.map (some b)) (.int .i64 n) true).run Tryz.prog w= .ok (.tuple #[(valOf r),.bool r.isSome]) w:=by
 have hc:(Instr.checkKey es.isEmpty 10000 3 (.int .i64 n)).run Tryz.prog w= .ok () w:=MapKept.run_checkKey (k:= .int .i64 n) Tryz.underlying3 (by simp[MapKept.IsKey]) _ 9999;have hz:(zeroValue 124).run Tryz.prog w= .ok (wE false false false) w:=by kernel_rfl
 cases r with
 |none=>simp[Instr.lookup,run_underlying Tryz.underlying151,MapKept.run_getObj_map hb,hc,MapKept.run_findKey Tryz.underlying3 hn,hz,Result.andThen,valOf]
 |some p=>simp[Instr.lookup,run_underlying Tryz.underlying151,MapKept.run_getObj_map hb,hc,MapKept.run_findKey Tryz.underlying3 hn,Result.andThen,valOf]
def ent(n:Int)(e u c:Bool)(b:Nat):MapEntry:={key:= .int .i64 n,val:=wE e u c,born:=b}
def ents:List MapEntry:=[ent 1 true false false 0,ent 2 false true false 1,ent 3 false false true 2,ent 4 true false false 3,ent 5 false false true 4]
theorem Tc(k:Int):∃r,Instr.findNow (.int .i64) (.int .i64 k) ents 0=some r/\(valOf r)=wE (uY k) (vC k) (vF k)/\r.isSome=KE k:=by
 by_cases h:1<=k/\k<=5
 ·rcases(show k=1\/k=2\/k=3\/k=4\/k=5 by omega)with rfl|rfl|rfl|rfl|rfl<;>exact⟨_,rfl,rfl,rfl⟩
 ·refine⟨none, ?_, ?_, ?_⟩
  ·have h1:(k==1)=false:=by simp;omega
   have h2:(k==2)=false:=by simp;omega
   have h3:(k==3)=false:=by simp;omega
   have h4:(k==4)=false:=by simp;omega
   have h5:(k==5)=false:=by simp;omega
   simp[ents,ent,Instr.findNow,Instr.sameNow,h1,h2,h3,h4,h5]
  ·simp[valOf,wE,uY,vC,vF];omega
  ·simp[KE];omega
theorem set_push(a:Array Obj)(o o':Obj):(a.push o).setIfInBounds a.size o'=a.push o':=by
 apply Array.ext';rw[Array.toList_setIfInBounds,Array.toList_push,Array.toList_push,<-Array.length_toList,List.set_append_right _ _ (Nat.le_refl _),Nat.sub_self];rfl
theorem Td(w:World)(o o':Obj):({(w.alloc o)with heap:=(w.alloc o).heap.setIfInBounds w.heap.size o'}:World)=w.alloc o':=by
 show({w with heap:=(w.heap.push o).setIfInBounds w.heap.size o'}:World)={w with heap:=w.heap.push o'};rw[set_push]
theorem sZ(w:World)(b:Nat)(l:List MapEntry)(n:Int)(e u c:Bool)(hb:b=w.heap.size)(hn:Instr.findNow (.int .i64) (.int .i64 n) l 0=some none):
  (Instr.mapUpdate 151 (.map (some b)) (.int .i64 n) (.agg #[.bool e,.bool u,.bool c])).run Tryz.prog (w.alloc (.map l.toArray l.length))= .ok () (w.alloc (.map (l++[ent n e u c l.length]).toArray (l.length+1))):=by
 subst hb;rw[Y8 _ _ l.toArray l.length n _ (heap_alloc_new w _) (by simpa using hn),Td];simp[ent,wE]
theorem Tf(k:Int)(w:World):Calls Tryz.prog 70 #[.int .i64 k] w λ e w'=>e= .returned (.tuple #[wE (uY k) (vC k) (vF k),.bool (KE k)])/\Below w.heap.size w w':=by
 have hmm:= @run_makeMap Tryz.prog;obtain⟨W1,hW⟩:∃W1,W1=w.alloc (.cells #[.bool false,.bool false,.bool false] 124):=⟨_,rfl⟩;have hs:w.heap.size+1=W1.heap.size:=by rw[hW];simp
 have h1:(Instr.mapUpdate 151 (.map (some (w.heap.size+1))) (.int .i64 1) (.agg #[.bool true,.bool false,.bool false])).run Tryz.prog (W1.alloc (.map #[] 0))= .ok () (W1.alloc (.map #[ent 1 true false false 0] 1)):=sZ W1 _ [] 1 true false false hs rfl;have h2:(Instr.mapUpdate 151 (.map (some (w.heap.size+1))) (.int .i64 2) (.agg #[.bool false,.bool true,.bool false])).run Tryz.prog (W1.alloc (.map #[ent 1 true false false 0] 1))= .ok () (W1.alloc (.map #[ent 1 true false false 0,ent 2 false true false 1] 2)):=sZ W1 _ [ent 1 true false false 0] 2 false true false hs rfl;have h3:(Instr.mapUpdate 151 (.map (some (w.heap.size+1))) (.int .i64 3) (.agg #[.bool false,.bool false,.bool true])).run Tryz.prog (W1.alloc (.map #[ent 1 true false false 0,ent 2 false true false 1] 2))= .ok () (W1.alloc (.map #[ent 1 true false false 0,ent 2 false true false 1,ent 3 false false true 2] 3)):=sZ W1 _ [ent 1 true false false 0,ent 2 false true false 1] 3 false false true hs rfl;have h4:(Instr.mapUpdate 151 (.map (some (w.heap.size+1))) (.int .i64 4) (.agg #[.bool true,.bool false,.bool false])).run Tryz.prog (W1.alloc (.map #[ent 1 true false false 0,ent 2 false true false 1,ent 3 false false true 2] 3))= .ok () (W1.alloc (.map #[ent 1 true false false 0,ent 2 false true false 1,ent 3 false false true 2,ent 4 true false false 3] 4)):=sZ W1 _ [ent 1 true false false 0,ent 2 false true false 1,ent 3 false false true 2] 4 true false false hs rfl;have h5:(Instr.mapUpdate 151 (.map (some (w.heap.size+1))) (.int .i64 5) (.agg #[.bool false,.bool false,.bool true])).run Tryz.prog (W1.alloc (.map #[ent 1 true false false 0,ent 2 false true false 1,ent 3 false false true 2,ent 4 true false false 3] 4))= .ok () (W1.alloc (.map #[ent 1 true false false 0,ent 2 false true false 1,ent 3 false false true 2,ent 4 true false false 3,ent 5 false false true 4] 5)):=sZ W1 _ [ent 1 true false false 0,ent 2 false true false 1,ent 3 false false true 2,ent 4 true false false 3] 5 false false true hs rfl;obtain⟨r,hr1,hr2,hr3⟩:=Tc k;have hl:=WM (W1.alloc (.map ents.toArray 5)) (w.heap.size+1) ents.toArray 5 k r (by rw[hs];exact heap_alloc_new W1 _) (by simpa using hr1);rw[hr2,hr3]at hl;unfold ents at hl;rw[hW]at h1 h2 h3 h4 h5 hl;have H1:=Lib.hid h1;have H2:=Lib.hid h2;have H3:=Lib.hid h3;have H4:=Lib.hid h4;have H5:=Lib.hid h5;have HL:=Lib.hid hl;clear h1 h2 h3 h4 h5 hl hr1 hr2 hr3 hs hW;go_enter Tryz.func70,Tryz.ntmps70;go_wp2;rw[H1.out];go_wp2;rw[H2.out];go_wp2;rw[H3.out];go_wp2;rw[H4.out];go_wp2;rw[H5.out];go_wp2;rw[HL.out];simp only[wE];go_wp2;go_returns;exact⟨rfl,by go_grown⟩
theorem kM(k:Int):aC Tryz.prog 70 [.v (.int .i64 k)] (.bJ [.agg [.v (.bool (uY k)),.v (.bool (vC k)),.v (.bool (vF k))],.v (.bool (KE k))]) []:=by
 refine⟨⟨_,_,Tryz.func70,rfl,rfl⟩,λ w keep args _ hargs=>?_⟩;obtain⟨u,rfl,hu⟩:=Ad hargs;have hu:u= .int .i64 k:=hu;subst hu;refine(Tf k w).mono ?_;rintro e w' ⟨h1,h2⟩;exact⟨_,λ _=>undef,h1,h2,⟨[.agg #[.bool (uY k),.bool (vC k),.bool (vF k)],.bool (KE k)],rfl,aN.cons ⟨[.bool (uY k),.bool (vC k),.bool (vF k)],rfl,aN.cons rfl (aN.cons rfl (aN.cons rfl aN.nil))⟩ (aN.cons rfl aN.nil)⟩,(λ p hp=>by cases hp),by simp[ah],(λ b hb=>by simp[ah]at hb)⟩
theorem L9(k:Int)(h:¬ (1<=k/\k<=5)):aC Tryz.prog 70 [.v (.int .i64 k)] (.bJ [.agg [.v (.bool false),.v (.bool false),.v (.bool false)],.v (.bool false)]) []:=by
 have:=kM k;rw[show uY k=false by simp[uY];omega,show vC k=false by simp[vC];omega,show vF k=false by simp[vF];omega,show KE k=false by simp[KE];omega]at this;exact this
theorem JK(n:Int):aC Tryz.prog 104 [.v (.int .i64 n)] (.v (.bool (qp n))) []:=by
 refine K1.E 0x5 Tryz.func104 ?_;repeat' ((conv=>whnf);first|refine K1.u ?_|refine aO.dW ?_|refine K1.z ?_|refine K1.y (λ _=>?_) (λ _=>?_)|fail)
 all_goals(conv=>whnf)
 all_goals(refine aW.mk (bI.of ?_))
 all_goals simp[qp,iJ, *]
def pU(k r:Int)(e:Ev):Bool:=decide (fH e=0)&&(decide (k≠1)||decide (e.r=r))
theorem WO(h:¬fH e=0):pU k r e=false:=by simp[pU,h]
theorem WQ(hk:k=1)(h:¬e.r=r):pU k r e=false:=by simp[pU,h,hk]
theorem Ih(h:fH e=0)(hk:k≠1):pU k r e=true:=by simp[pU,h,hk]
theorem Ti(h:fH e=0)(hr:e.r=r):pU k r e=true:=by simp[pU,h,hr]
def iC(x:Rc):Bool:=
 KE x.k&&decide (0<=x.r)&&decide (x.r<5)&&qp x.u&&(vC x.k||decide (x.u=0))&&(vF x.k||Ah x.c)&&(uY x.k||decide (x.ev.length=0))&&BG x.c&&decide (x.ev.length<=20)&&(decide (x.k≠1)||decide (x.ev.length≠0))&&
  x.ev.all (pU x.k x.r)
theorem JL(hj:j<l.length)(h:p (l.getD j default)=false):l.all p=false:=by
 rw[List.all_eq_false];refine⟨l[j],List.getElem_mem hj, ?_⟩;rw[List.getD,List.getElem?_eq_getElem hj]at h;simpa using h
theorem Mc(h:∀i,i<l.length->p (l.getD i default)=true):l.all p=true:=by
 rw[List.all_eq_true];intro e he;obtain⟨i,hi,rfl⟩:=List.mem_iff_getElem.1 he;have:=h i hi;rw[List.getD,List.getElem?_eq_getElem hi]at this;exact this
theorem uI(x:Rc)(hl:x.ev.length<=140737488355328):aC Tryz.prog 73 [x.av] (.v (.bool (iC x))) []:=by
 obtain⟨k,r,u,⟨c0,c1,c2,c3,c4⟩,ev⟩:=x;dsimp only at hl;obtain⟨kk,hkk⟩:∃kk,kk=k:=⟨_,rfl⟩;rcases(show k=1\/k=2\/k=3\/k=4\/k=5\/ ¬ (1<=k/\k<=5) by omega)with rfl|rfl|rfl|rfl|rfl|hk;all_goals dsimp only[Rc.av,Rc.cs]
 all_goals
  refine K1.E 0x10000f400047400000010000015f Tryz.func73 ?_;repeat' ((conv=>whnf);first|refine K1.u ?_|refine K1.P1 (L9 _ hk) ?_|refine K1.P1 (kM _) ?_|refine K1.P1 (JK _) ?_|refine aK.jA 65 6 rfl ?_|refine GZ.mk (dD.vs ⟨c0,c1,c2,c3,c4⟩) (dD.vs aJ) (dD.mk c0 c1 c2 c3 c4=aJ) rfl rfl (mZ _ _) ?_|refine aO.dW ?_|refine K1.z ?_|refine K1.y (λ _=>?_) (λ _=>?_)|fail)
  all_goals(conv=>whnf)
  all_goals first
   |refine aW.mk (bI.of ?_)
   |refine aK.mk {j:Nat//j<=ev.length/\ ∀i,i<j->pU kk r (ev.getD i default)=true} (λ j=>⟨[(1,.box 0 0),(88,.sl 12 ev.length true (jH ev)),(89,.v (.int .i64 (ev.length:Int))),(90,.v (.int .i64 (j.1:Int)))],
     [(0,.box 52 [.v (.int .i64 _),.v (.int .i64 r),.v (.int .i64 u),.v (.int .i64 c0),.v (.int .i64 c1),.v (.int .i64 c2),.v (.int .i64 c3),.v (.int .i64 c4),.sl 12 ev.length true (jH ev)])],[],4⟩) (λ j=>ev.length-j.1) ⟨0,Nat.zero_le _,λ i h=>absurd h (Nat.not_lt_zero i)⟩ _
     (iw.mk' [] _ _ _ rfl ⟨aP,aP,aP,bI.int rfl,trivial⟩ ⟨aY rfl,trivial⟩ rfl) ?_
  all_goals try(simp[iC,KE,vC,uY,vF,BG,iH,-List.length_eq_zero_iff, *]<;>omega;done)
  all_goals(rintro⟨j,hj,hall⟩;dsimp only)
  all_goals repeat' ((conv=>whnf);first|refine K1.u ?_|refine K1.P1 (Fa (ev.getD (j:Int).toNat default)) ?_|refine aO.dW ?_|refine K1.z ?_|refine K1.y (λ _=>?_) (λ _=>?_)|fail)
  all_goals first
   |(conv=>whnf
     refine⟨⟨j+1,by omega,λ i hi=>?_⟩,_,iw.mk' [] _ _ _ rfl ⟨aP,aP,aP,bI.int rfl,trivial⟩ ⟨aY rfl,trivial⟩ rfl,by show ev.length-(j+1)<ev.length-j;omega⟩;rcases Nat.lt_or_ge i j with h|h
     ·exact hall i h
     ·obtain rfl:i=j:=by omega
      have h0:fH (ev.getD i default)=0:= ‹fH (ev.getD (i:Int).toNat default)=0›;first
       |exact Ih h0 (by omega)
       |exact Ti h0 ‹(ev.getD (i:Int).toNat default).r=r›)
   |(conv=>whnf
     refine aW.mk (bI.of ?_);have hno:=JL (p:=pU kk r) (l:=ev) (j:=j) (by omega) (WO ‹¬fH (ev.getD (j:Int).toNat default)=0›);rw[hkk]at hno;simp[iC,hno])
   |(conv=>whnf
     refine aW.mk (bI.of ?_);have hno:=JL (p:=pU kk r) (l:=ev) (j:=j) (by omega) (WQ hkk ‹¬ (ev.getD (j:Int).toNat default).r=r›);rw[hkk]at hno;simp[iC,hno])
   |(conv=>whnf
     refine aW.mk (bI.of ?_);have hyes:=Mc (p:=pU kk r) (l:=ev) (λ i hi=>hall i (by omega));rw[hkk]at hyes;simp[iC,show qp 0=true from rfl,KE,vC,uY,vF,BG,iH,-List.length_eq_zero_iff, *]<;>omega)
def fK(x:Rc):List UInt8:=
 [byteOf x.k,byteOf x.r]++(if uY x.k then UInt8.ofNat x.ev.length::dJ x.ev else [])++(if vC x.k then gu x.u else [])++(if vF x.k then vw x.c else [])
def bg(x:Rc):List UInt8:=dF (ak (fK x).length++fK x)
structure aa0(x:Rc):Prop where
 k:1<=x.k/\x.k<=5
 r:0<=x.r/\x.r<5
 u:qp x.u=true
 u0:vC x.k=true\/x.u=0
 c0:vF x.k=true\/x.c=aJ
 e0:uY x.k=true\/x.ev.length=0
 c:qp x.c.c0=true/\qp x.c.c1=true/\qp x.c.c2=true/\qp x.c.c3=true/\qp x.c.c4=true
 l:x.ev.length<=20
 one:x.k≠1\/x.ev.length≠0
 ev:x.ev.all (pU x.k x.r)=true
theorem iP{x:Rc}(h:iC x=true):aa0 x:=by
 simp only[iC,Bool.and_eq_true,Bool.or_eq_true,decide_eq_true_eq,iH,BG,KE]at h;obtain⟨⟨⟨⟨⟨⟨⟨⟨⟨⟨h1,h2⟩,h3⟩,h4⟩,h5⟩,h6⟩,h7⟩,⟨⟨⟨h8,h9⟩,h10⟩,h11⟩,h12⟩,h13⟩,h14⟩,h15⟩:=h;exact⟨h1,⟨h2,h3⟩,h4,h5,h6,h7,⟨h8,h9,h10,h11,h12⟩,h13,h14,h15⟩
theorem wF(h:l.all (pU k r)=true):l.all (λ e=>decide (fH e=0))=true:=by
 rw[List.all_eq_true]at h⊢;intro e he;have:=h e he;simp only[pU,Bool.and_eq_true]at this;exact this.1
theorem WR(x:Rc)(hl:x.ev.length<=140737488355328)(h:iC x=false):aC Tryz.prog 39 [x.av] (.bJ [.v (.slice none 0 0),.v (.int .i64 1)]) []:=by
 have hm:=uI x hl;rw[h]at hm;refine K1.E 0x3a020807804000975f Tryz.func39 ?_;repeat' ((conv=>whnf);first|refine K1.u ?_|refine K1.P1 hm ?_|refine aO.dW ?_|refine K1.z ?_|refine K1.y (λ _=>?_) (λ _=>?_)|fail)
 conv=>whnf
 exact aW.mk (aP)
theorem QU(d:Nat)(x:Rc)(h:iC x=true)(hk:x.k=1\/x.k=4):
  aC Tryz.prog 39 [x.av] (.bJ [.own d,.v (.int .i64 0)]) [(d,.row 5 1 (bg x).length true (aG (bg x)))]:=by
 have m:=iP h;have hm:=uI x (by have:=m.l;omega);rw[h]at hm;obtain⟨k,r,u,c,ev⟩:=x;obtain⟨mk,mr,mu,nY,nH,me0,mc,ml,m1,xX⟩:=m;dsimp only at mk mr mu ml mc nY nH me0 xX m1 hk;have uj:=wF xX;have hat:∀j,j<ev.length->fH (ev.getD j default)=0:=λ j hj=>BM uj hj;have WI:∀j,j<ev.length->(dK (ev.getD j default)).length<=44:=λ j hj=>kL (hat j hj);have hlen:∀j,(dJ (ev.take j)).length<=44*j:=λ j=>Nat.le_trans (oM λ e he=>lM uj e (List.mem_of_mem_take he)) (Nat.mul_le_mul_left _ (by rw[List.length_take];omega));obtain⟨kk,hkk⟩:∃kk,kk=k:=⟨_,rfl⟩;have hmore:∀j,(([byteOf' kk,byteOf' r]++[byteOf' (ev.length:Int)])++dJ (ev.take j)).length=3+(dJ (ev.take j)).length:=λ j=>by simp;omega
 rcases hk with rfl|rfl;all_goals
  dsimp only[Rc.av,Rc.cs]at hm⊢;refine K1.E 0x3a020807804000975f Tryz.func39 ?_;repeat' ((conv=>whnf);first|refine K1.u ?_|refine K1.P1 hm ?_|refine K1.P1 (kM _) ?_|refine K1.z ?_|refine K1.y (λ _=>?_) (λ _=>?_)|fail)
  conv=>whnf
  refine aK.mk {j:Nat//j<=ev.length} (λ j=>⟨[(1,.box 0 0),(4,.box 1 0),(6,.own 90),(39,.sl 12 ev.length true (jH ev)),(40,.v (.int .i64 (ev.length:Int))),(41,.v (.int .i64 (j.1:Int)))],
   [(1,.box 124 [.v (.bool true),.v (.bool false),.v (.bool false)]),(90,.row 5 1 (([byteOf' kk,byteOf' r]++[byteOf' (ev.length:Int)])++dJ (ev.take j.1)).length true (aG (([byteOf' kk,byteOf' r]++[byteOf' (ev.length:Int)])++dJ (ev.take j.1))))],[],91⟩) (λ j=>ev.length-j.1) ⟨0,Nat.zero_le _⟩ _
   (iw.mk' [(4,90)] _ _ _ rfl ⟨aP,aP,aP,aP,aP,bI.int rfl,trivial⟩ ⟨aY rfl,⟨_,rfl,fP.lH (aS.app (aS.two (by omega) (by omega) (by omega) (by omega)) (aS.one (by omega) (by omega)) rfl) (by simp<;>omega) (by simp[dJ,hkk])⟩,trivial⟩ rfl) ?_
  rintro⟨j,hj⟩;dsimp only;have WJ:=WI (j:Int).toNat;have hmj:=hmore j;have hlj:=hlen j;have hsl:=bP (ak (([byteOf' kk,byteOf' r]++[byteOf' (ev.length:Int)])++dJ (ev.take j)).length++(([byteOf' kk,byteOf' r]++[byteOf' (ev.length:Int)])++dJ (ev.take j)));have hvs:(ak (([byteOf' kk,byteOf' r]++[byteOf' (ev.length:Int)])++dJ (ev.take j)).length).length<=10:=aX 9 _;repeat' ((conv=>whnf);first|refine K1.u ?_|refine K1.F1 (uH _ (ev.getD (j:Int).toNat default) (hat _ (by omega))) ?_ rfl rfl|refine K1.F1 (dX _ (([byteOf' kk,byteOf' r]++[byteOf' (ev.length:Int)])++dJ (ev.take j)).length (by omega)) ?_ rfl rfl|refine K1.F1 (nU _ (ak (([byteOf' kk,byteOf' r]++[byteOf' (ev.length:Int)])++dJ (ev.take j)).length++(([byteOf' kk,byteOf' r]++[byteOf' (ev.length:Int)])++dJ (ev.take j))) (aS.app (aS.bytes _) (aS.bytes _) rfl) List.length_append.symm (by rw[List.length_append];omega)) ?_ rfl rfl|refine K1.z ?_|refine K1.y (λ _=>?_) (λ _=>?_)|fail)
  ·conv=>whnf
   refine⟨⟨j+1,by omega⟩,_,iw.mk' [(93,90)] _ _ _ rfl ⟨aP,aP,aP,aP,aP,bI.int rfl,trivial⟩ ⟨aY rfl,⟨_,rfl,fP.lH (aS.app (aS.bytes _) (aS.bytes _) rfl) List.length_append.symm ?_⟩,trivial⟩ rfl,by show ev.length-(j+1)<ev.length-j;omega⟩;rw[nX (by omega),List.append_assoc];rfl
  ·conv=>whnf
   refine aO.o8 d rfl rfl ?_ (aP);refine fP.lH (aS.bytes _) rfl ?_;rw[List.take_of_length_le (by omega)];unfold bg fK;simp[hkk,uY,vC,vF,byteOf,byteOf']
theorem Y9(d:Nat)(x:Rc)(h:iC x=true)(hk:x.k=2):
  aC Tryz.prog 39 [x.av] (.bJ [.own d,.v (.int .i64 0)]) [(d,.row 5 1 (bg x).length true (aG (bg x)))]:=by
 have m:=iP h;have hm:=uI x (by have:=m.l;omega);rw[h]at hm;obtain⟨k,r,u,c,ev⟩:=x;obtain⟨mk,mr,mu,nY,nH,me0,mc,ml,m1,xX⟩:=m;dsimp only at mk mr mu ml mc nY nH me0 xX m1 hk;obtain⟨kk,hkk⟩:∃kk,kk=k:=⟨_,rfl⟩;obtain⟨un,rfl,hun⟩:=dR mu;have hvu:(ak un).length<=10:=aX 9 _;have hmore:([byteOf' kk,byteOf' r]++ak un).length=2+(ak un).length:=by simp;omega
 have hsl:=bP (ak (2+(ak un).length)++([byteOf' kk,byteOf' r]++ak un));have hvs:(ak (2+(ak un).length)).length<=10:=aX 9 _;subst hk;have hP:aS (kJ 2 (chunk 1 [.v (.int .u8 2),.v (.int .u8 r)]) (aG (ak un))) ([byteOf' kk,byteOf' r]++ak un):=hkk▸aS.app (aS.two (by omega) (by omega) (by omega) (by omega)) (aS.bytes _) rfl;have hn:2+(ak un).length=([byteOf' kk,byteOf' r]++ak un).length:=by omega
 dsimp only[Rc.av,Rc.cs]at hm⊢;refine K1.E 0x3a020807804000975f Tryz.func39 ?_;repeat' ((conv=>whnf);first|refine K1.u ?_|refine K1.P1 hm ?_|refine K1.P1 (kM _) ?_|refine K1.F1 (dX _ un (by omega)) ?_ rfl rfl|refine K1.F1 (dX _ (2+(ak un).length) (by omega)) ?_ rfl rfl|refine K1.F1 (nU _ (ak (2+(ak un).length)++([byteOf' kk,byteOf' r]++ak un)) (aS.app (aS.bytes _) hP rfl) (by rw[List.length_append,<-hn]) (by rw[List.length_append,<-hn];omega)) ?_ rfl rfl|refine K1.z ?_|refine K1.y (λ _=>?_) (λ _=>?_)|fail)
 conv=>whnf
 refine aO.o8 d rfl rfl ?_ (aP);refine fP.lH (aS.bytes _) rfl ?_;rw[hn];unfold bg fK;simp[hkk,uY,vC,vF,byteOf,byteOf',gu]
theorem QV(d:Nat)(x:Rc)(h:iC x=true)(hk:x.k=3\/x.k=5):
  aC Tryz.prog 39 [x.av] (.bJ [.own d,.v (.int .i64 0)]) [(d,.row 5 1 (bg x).length true (aG (bg x)))]:=by
 have m:=iP h;have hm:=uI x (by have:=m.l;omega);rw[h]at hm;obtain⟨k,r,u,⟨c0,c1,c2,c3,c4⟩,ev⟩:=x;obtain⟨mk,mr,mu,nY,nH,me0,⟨m0,m1,m2,m3,m4⟩,ml,Aq,xX⟩:=m;dsimp only at mk mr mu ml m0 m1 m2 m3 m4 nY nH me0 xX Aq hk;obtain⟨kk,hkk⟩:∃kk,kk=k:=⟨_,rfl⟩;obtain⟨c0,rfl,hc0⟩:=dR m0;obtain⟨c1,rfl,hc1⟩:=dR m1;obtain⟨c2,rfl,hc2⟩:=dR m2;obtain⟨c3,rfl,hc3⟩:=dR m3;obtain⟨c4,rfl,hc4⟩:=dR m4;have q0:(ak c0).length<=10:=aX 9 _;have q1:(ak c1).length<=10:=aX 9 _;have q2:(ak c2).length<=10:=aX 9 _;have q3:(ak c3).length<=10:=aX 9 _;have q4:(ak c4).length<=10:=aX 9 _;obtain⟨n,hn0⟩:∃n,n=2+(ak c0).length+(ak c1).length+(ak c2).length+(ak c3).length+(ak c4).length:=⟨_,rfl⟩;have hn:n=([byteOf' kk,byteOf' r]++ak c0++ak c1++ak c2++ak c3++ak c4).length:=by rw[hn0];simp;omega
 have hvs:(ak (2+(ak c0).length+(ak c1).length+(ak c2).length+(ak c3).length+(ak c4).length)).length<=10:=aX 9 _;have hsl:=bP (ak (2+(ak c0).length+(ak c1).length+(ak c2).length+(ak c3).length+(ak c4).length)++([byteOf' kk,byteOf' r]++ak c0++ak c1++ak c2++ak c3++ak c4));rcases hk with rfl|rfl;all_goals
  have hP:=aS.app (aS.app (aS.app (aS.app (aS.app (aS.two (x:=kk) (y:=r) (by omega) (by omega) (by omega) (by omega)) (aS.bytes (ak c0)) rfl) (aS.bytes (ak c1)) (n:=2+(ak c0).length) (by simp<;>omega)) (aS.bytes (ak c2)) (n:=2+(ak c0).length+(ak c1).length) (by simp<;>omega)) (aS.bytes (ak c3)) (n:=2+(ak c0).length+(ak c1).length+(ak c2).length) (by simp<;>omega)) (aS.bytes (ak c4)) (n:=2+(ak c0).length+(ak c1).length+(ak c2).length+(ak c3).length) (by simp<;>omega);rw[hkk]at hP hn;dsimp only[Rc.av,Rc.cs]at hm⊢;refine K1.E 0x3a020807804000975f Tryz.func39 ?_;repeat' ((conv=>whnf);first|refine K1.u ?_|refine K1.P1 hm ?_|refine K1.P1 (kM _) ?_|refine K1.F1 (dX _ c0 (by omega)) ?_ rfl rfl|refine K1.F1 (dX _ c1 (by omega)) ?_ rfl rfl|refine K1.F1 (dX _ c2 (by omega)) ?_ rfl rfl|refine K1.F1 (dX _ c3 (by omega)) ?_ rfl rfl|refine K1.F1 (dX _ c4 (by omega)) ?_ rfl rfl|refine K1.F1 (dX _ (2+(ak c0).length+(ak c1).length+(ak c2).length+(ak c3).length+(ak c4).length) (by omega)) ?_ rfl rfl|refine K1.F1 (nU _ (ak (2+(ak c0).length+(ak c1).length+(ak c2).length+(ak c3).length+(ak c4).length)++([byteOf' _,byteOf' r]++ak c0++ak c1++ak c2++ak c3++ak c4)) (aS.app (aS.bytes _) hP rfl) (by rw[List.length_append,<-hn,hn0]) (by rw[List.length_append,<-hn,hn0];omega)) ?_ rfl rfl|refine aK.jA 68 6 rfl ?_|refine K1.z ?_|refine K1.y (λ _=>?_) (λ _=>?_)|fail)
  conv=>whnf
  refine aO.o8 d rfl rfl ?_ (aP);refine fP.lH (aS.bytes _) rfl ?_;rw[<-hn0,hn];unfold bg fK;simp[uY,vC,vF,byteOf,byteOf',gu,vw]
theorem Ii(d:Nat)(x:Rc)(h:iC x=true):
  aC Tryz.prog 39 [x.av] (.bJ [.own d,.v (.int .i64 0)]) [(d,.row 5 1 (bg x).length true (aG (bg x)))]:=by
 have m:=(iP h).k;rcases(show x.k=1\/x.k=2\/x.k=3\/x.k=4\/x.k=5 by omega)with hk|hk|hk|hk|hk
 ·exact QU d x h (.inl hk)
 ·exact Y9 d x h hk
 ·exact QV d x h (.inl hk)
 ·exact QU d x h (.inr hk)
 ·exact QV d x h (.inr hk)
theorem uZ(h:n<256):(UInt8.ofNat n).toNat=n:=by
 rw[UInt8.toNat_ofNat',Nat.mod_eq_of_lt (by omega)]
theorem aam{a:UInt8}(h:a.toNat=b.toNat):a=b:=UInt8.toNat_inj.1 h
theorem Fj(t:List UInt8):∀(f i n acc:Nat),i+f=9->n*128^i<=4294967296->(0<i->n≠0)->n<128^(f+1)->
 gQ ((fE f n++t).take (10-i)) i acc=(acc+n*128^i,i+(fE f n).length,0)
 |0,i,n,acc,hi,hn,h0,_=>by
  have:i=9:=by omega
  subst this;exfalso;have:n=0\/1<=n:=by omega
  rcases this with h|h
  ·exact h0 (by omega) h
  ·have h2:128^9=9223372036854775808:=by decide
   rw[h2]at hn;omega
 |f+1,i,n,acc,hi,hn,h0,hlt=>by
  have h10:10-i=(10-(i+1))+1:=by omega
  by_cases h:n<128
  ·simp only[fE,if_pos h,List.cons_append,List.nil_append,h10,List.take_succ_cons,gQ,uZ (show n<256 by omega)];rw[if_neg (by omega),if_neg]
   ·simp
   ·rintro(⟨h1,h2⟩|⟨h1,h2⟩)
    ·exact h0 h1 h2
    ·omega
  ·have hq:n%128+128<256:=by omega
   have e:n/128*128^(i+1)+n%128*128^i=n*128^i:=by
    rw[Nat.pow_succ,Nat.mul_comm (128^i) 128,<-Nat.mul_assoc,<-Nat.add_mul];congr 1;omega
   have ih:=Fj t f (i+1) (n/128) (acc+(n%128)*128^i) (by omega) (by omega) (λ _=>by omega) (by
    rw[Nat.pow_succ]at hlt;exact Nat.div_lt_of_lt_mul (by omega))
   simp only[fE,if_neg h,List.cons_append,h10,List.take_succ_cons,gQ,uZ hq];rw[if_pos (by omega),show n%128+128-128=n%128 by omega,ih];simp only[List.length_cons,Prod.mk.injEq,and_true];exact⟨by omega,by omega⟩
theorem tq(n:Nat)(t:List UInt8)(h:n<=4294967296):dH (ak n++t)=(n,(ak n).length,0):=by
 have:=Fj t 9 0 n 0 rfl (by simpa using h) (λ h=>absurd h (by omega)) (by
  have:128^(9+1)=1180591620717411303424:=by decide
  omega)
 simpa[dH,ak]using this
theorem Ij:∀(l:List UInt8)(i acc m k:Nat),i+l.length<=10->gQ l i acc=(m,k,0)-> ∃n,m=acc+n*128^i/\k=i+(fE (9-i) n).length/\k<=i+l.length/\l.take (k-i)=fE (9-i) n/\(0<i->n≠0)
 |[],i,acc,m,k,hl,h=>by
  simp only[gQ]at h;split at h<;>cases h
 |c::r,i,acc,m,k,hl,h=>by
  simp only[gQ]at h;simp only[List.length_cons]at hl;have hc:=UInt8.toNat_lt c;by_cases h1:128<=c.toNat
  ·rw[if_pos h1]at h;obtain⟨n,e1,e2,e3,e4,e5⟩:=Ij r (i+1) _ m k (by omega) h;have hn:=e5 (by omega);have h9:9-i=(9-(i+1))+1:=by
    have:1<=r.length:=by
     cases r with
     |nil=>
      simp only[gQ]at h;split at h<;>cases h
     |cons=>simp
    omega
   refine⟨n*128+(c.toNat-128), ?_, ?_,by simp only[List.length_cons];omega, ?_,λ _=>by omega⟩
   ·rw[e1,Nat.pow_succ,Nat.add_mul];have:n*(128^i*128)=n*128*128^i:=by rw[Nat.mul_comm (128^i) 128,Nat.mul_assoc]
    omega
   ·rw[h9,fE,if_neg (by omega),List.length_cons,show(n*128+(c.toNat-128))/128=n by omega];omega
   ·have hk:k-i=(k-(i+1))+1:=by
     have:=sG (9-(i+1)) n;omega
    rw[hk,List.take_succ_cons,e4,h9,fE,if_neg (by omega),show(n*128+(c.toNat-128))/128=n by omega];have hcc:UInt8.ofNat ((n*128+(c.toNat-128))%128+128)=c:=aam (by rw[uZ (by omega)];omega);rw[hcc]
  ·rw[if_neg h1]at h;split at h
   ·cases h
   ·rename_i h2;simp only[Prod.mk.injEq,and_true]at h;obtain⟨h3,h4⟩:=h;refine⟨c.toNat,h3.symm, ?_,by simp only[List.length_cons];omega, ?_,λ hi e=>h2 (.inl ⟨hi,e⟩)⟩;all_goals subst h4
    ·cases h9:9-i with
     |zero=>simp[fE]
     |succ f=>simp[fE,show c.toNat<128 by omega]
    ·rw[show i+1-i=0+1 by omega,List.take_succ_cons,List.take_zero];have:UInt8.ofNat c.toNat=c:=by simp
     cases h9:9-i with
     |zero=>simp[fE,this]
     |succ f=>simp[fE,show c.toNat<128 by omega,this]
theorem Md{l:List UInt8}{m k:Nat}(h:dH l=(m,k,0)):k=(ak m).length/\k<=l.length/\l.take k=ak m:=by
 obtain⟨n,e1,e2,e3,e4,_⟩:=Ij (l.take 10) 0 0 m k (by rw[List.length_take];omega) h;simp only[Nat.pow_zero,Nat.mul_one,Nat.zero_add,Nat.sub_zero]at e1 e2 e3 e4;subst e1;rw[List.length_take]at e3;refine⟨e2,by omega, ?_⟩;rw[List.take_take,Nat.min_eq_left (by omega)]at e4;exact e4
theorem Fp:∀(l:List UInt8)(i acc:Nat),(gQ l i acc).2.2=0\/(gQ l i acc).2.2=2\/(gQ l i acc).2.2=3
 |[],i,acc=>by simp only[gQ];split<;>simp
 |c::r,i,acc=>by
  simp only[gQ];split
  ·exact Fp r _ _
  ·split<;>simp
theorem Fq:∀(f i n acc j:Nat),i+f<=9->j<(fE f n).length->gQ ((fE f n).take j) i acc=(0,0,2)
 |f,i,n,acc,0,hi,_=>by simp[gQ];omega
 |0,i,n,acc,j+1,hi,hj=>by simp[fE]at hj
 |f+1,i,n,acc,j+1,hi,hj=>by
  by_cases h:n<128
  ·simp[fE,h]at hj
  ·have hq:n%128+128<256:=by omega
   simp only[fE,if_neg h,List.length_cons]at hj;simp only[fE,if_neg h,List.take_succ_cons,gQ,uZ hq];rw[if_pos (by omega)];exact Fq f (i+1) (n/128) _ j (by omega) (by omega)
theorem Tj(hj:j<(ak n).length):dH ((ak n).take j)=(0,0,2):=by
 have:=aX 9 n;unfold dH;rw[List.take_take,Nat.min_eq_right (by unfold ak at hj;omega)];exact Fq 9 0 n 0 j (by omega) hj
theorem drop_cons(h:bs.drop u=b::t):u<bs.length/\bs.getD u 0=b/\bs.drop (u+1)=t:=by
 have hlt:u<bs.length:=by
  rcases Nat.lt_or_ge u bs.length with h'|h'
  ·exact h'
  ·rw[List.drop_of_length_le h']at h;cases h
 refine⟨hlt, ?_, ?_⟩
 ·rw[List.drop_eq_getElem_cons hlt]at h;rw[List.getD_eq_getElem?_getD,List.getElem?_eq_getElem hlt];exact(List.cons.inj h).1
 ·rw[List.drop_eq_getElem_cons hlt]at h;exact(List.cons.inj h).2
theorem Me{l:List UInt8}(h:bs.drop u=l++t):bs.drop (u+l.length)=t:=by
 rw[<-List.drop_drop,h,List.drop_left]
theorem wG(h:bs.drop u=b::t)(h1:lo<=(b.toNat:Int))(h2:(b.toNat:Int)<=hi):dA bs lo hi (u,0)=((b.toNat:Int),(u+1,0))/\bs.drop (u+1)=t:=by
 obtain⟨h3,h4,h5⟩:=drop_cons h;refine⟨?_,h5⟩;unfold dA;rw[if_neg (by simp),if_neg (by simpa using h3),h4,if_pos ⟨h1,h2⟩]
theorem tC(h:bs.drop u=ak n++t)(hn:n<=4294967296)(h1:lo<=(n:Int))(h2:(n:Int)<=hi):dB bs lo hi (u,0)=((n:Int),(u+(ak n).length,0))/\bs.drop (u+(ak n).length)=t:=by
 refine⟨?_,Me h⟩;unfold dB;simp only[h,tq n t hn];rw[if_neg (by simp),if_neg (by simp),if_pos ⟨h1,h2⟩]
theorem Ik{s:ByteArray}(h:bs.drop u=s.data.toList++t)(h0:1<=s.size)(h1:may s=0):dY bs (s.size:Int) may (u,0)=(s,(u+s.size,0))/\bs.drop (u+s.size)=t:=by
 have hs:s.data.toList.length=s.size:=rfl;have hc:Du bs u s.size=s:=by
  unfold Du;rw[h,<-hs,List.take_left]
 have hl:s.size<=bs.length-u:=by
  have:=congrArg List.length h;rw[List.length_drop,List.length_append]at this;omega
 refine⟨?_,by have:=Me h;rwa [hs]at this⟩;unfold dY;rw[if_neg (by simp),if_neg (by dsimp only;omega)];simp only[Int.toNat_natCast,hc,h1,if_true]
theorem jr{n:Int}(h0:0<=n)(h1:n<=255):((byteOf n).toNat:Int)=n:=by
 unfold byteOf;rw[UInt8.toNat_ofNat',Nat.mod_eq_of_lt (by omega)];omega
theorem MB{s:ByteArray}(h:s.size<=255):((UInt8.ofNat s.size).toNat:Int)=s.size:=by
 rw[UInt8.toNat_ofNat',Nat.mod_eq_of_lt (by omega)]
theorem jF(n:Nat):gu (n:Int)=ak n:=by simp[gu]
theorem size_nil{s:ByteArray}(h:s.size=0):s=⟨#[]⟩:=by
 cases s with
 |mk d=>
  have:d= #[]:=Array.eq_empty_of_size_eq_zero h;rw[this]
def Ar(R o a b c d:Int):dD:=if R=0 then⟨o,a,b,c,d⟩else if R=1 then⟨a,o,b,c,d⟩else if R=2 then⟨a,b,o,c,d⟩else if R=3 then⟨a,b,c,o,d⟩else⟨a,b,c,d,o⟩
theorem Au{N x1 x2 x3 x4 H ks l vs:Int}{key v:ByteArray}{s1 s2 s3 t1 t2 t3 t4 s5 s6 s7 s8 s9 s10:Sq}(hR:0<=R/\R<=4)(e1:dA bs 1 5 (0,0)=(k,s1))(e2:dA bs 0 4 s1=(R,s2))(e3:dB bs 1 1048576 s2=(N,s3))
  (f1:dB bs 0 1048576 s3=(x1,t1))(f2:dB bs 0 1048576 t1=(x2,t2))(f3:dB bs 0 1048576 t2=(x3,t3))(f4:dB bs 0 1048576 t3=(x4,t4))(e5:dB bs 1 16777216 t4=(H,s5))(e6:dA bs 1 8 s5=(ks,s6))(e7:dY bs ks keyE s6=(key,s7)):
  (cu k=false->eP bs (0,0)=(⟨R,N,Ar R (N-1) x1 x2 x3 x4,H,k,key,0,⟨#[]⟩⟩,s7))/\(dA bs 0 1 s7=(l,s8)->dA bs 1 12 s8=(vs,s9)->dY bs vs gI s9=(v,s10)->cu k=true->eP bs (0,0)=(⟨R,N,Ar R (N-1) x1 x2 x3 x4,H,k,key,l,v⟩,s10)):=by
 rcases(show R=0\/R=1\/R=2\/R=3\/R=4 by omega)with rfl|rfl|rfl|rfl|rfl;all_goals exact⟨λ hl=>by simp[eP,dO,lY,nI,dD.BH,dD.put,Ar, *],λ e8 e9 e10 hl=>by simp[eP,dO,lY,nI,dD.BH,dD.put,Ar, *]⟩
theorem Za{b:Int}(P:Int->Prop)(h0:P o)(h1:P a)(h2:P b)(h3:P c)(h4:P d):P (Ar R o a b c d).c0/\P (Ar R o a b c d).c1/\P (Ar R o a b c d).c2/\P (Ar R o a b c d).c3/\P (Ar R o a b c d).c4:=by
 unfold Ar;repeat' split
 all_goals exact⟨by assumption,by assumption,by assumption,by assumption,by assumption⟩
theorem QW{b:Int}(hR:0<=R/\R<=4):(Ar R o a b c d).get R=o/\ ∀n h k key l v,others ⟨R,n,Ar R o a b c d,h,k,key,l,v⟩=[a,b,c,d]:=by
 rcases(show R=0\/R=1\/R=2\/R=3\/R=4 by omega)with rfl|rfl|rfl|rfl|rfl<;>exact⟨rfl,λ _ _ _ _ _ _=>rfl⟩
theorem aa1(hR:0<=R/\R<=4)(C:dD):∃a b c d,C=Ar R (C.get R) a b c d/\ ∀P:Int->Prop,P C.c0->P C.c1->P C.c2->P C.c3->P C.c4->P a/\P b/\P c/\P d:=by
 rcases(show R=0\/R=1\/R=2\/R=3\/R=4 by omega)with rfl|rfl|rfl|rfl|rfl
 ·exact⟨C.c1,C.c2,C.c3,C.c4,rfl,λ _ _ a b c d=>⟨a,b,c,d⟩⟩
 ·exact⟨C.c0,C.c2,C.c3,C.c4,rfl,λ _ a _ b c d=>⟨a,b,c,d⟩⟩
 ·exact⟨C.c0,C.c1,C.c3,C.c4,rfl,λ _ a b _ c d=>⟨a,b,c,d⟩⟩
 ·exact⟨C.c0,C.c1,C.c2,C.c4,rfl,λ _ a b c _ d=>⟨a,b,c,d⟩⟩
 ·exact⟨C.c0,C.c1,C.c2,C.c3,rfl,λ _ a b c d _=>⟨a,b,c,d⟩⟩
theorem Tm(e:Ev)(h:fH e=0)(rest:List UInt8):eP (dK e++rest) (0,0)=(e,((dK e).length,0)):=by
 have m:=lV h;have g:=um m.ed;obtain⟨r,n,C,hh,k,key,l,v⟩:=e;obtain⟨r0,r4,n1,n2,h1,h2,a0,a1,a2,a3,a4,own,ed⟩:=m;dsimp only[Ev.ed]at r0 r4 n1 n2 h1 h2 a0 a1 a2 a3 a4 g own;obtain⟨g1,g2,g3,g4,g5,g6,g7⟩:=g;clear ed h;obtain⟨x1,x2,x3,x4,hC,hx⟩:=aa1 ⟨r0,r4⟩ C;obtain⟨y1,y2,y3,y4⟩:=hx (λ x=>0<=x/\x<=1048576) a0 a1 a2 a3 a4;rw[own]at hC;subst hC;have ho:=(QW (o:=n-1) (a:=x1) (b:=x2) (c:=x3) (d:=x4) ⟨r0,r4⟩).2;clear a0 a1 a2 a3 a4 own hx;obtain⟨n,rfl⟩:=Int.eq_ofNat_of_zero_le (show 0<=n by omega);obtain⟨hh,rfl⟩:=Int.eq_ofNat_of_zero_le (show 0<=hh by omega);obtain⟨x1,rfl⟩:=Int.eq_ofNat_of_zero_le y1.1;obtain⟨x2,rfl⟩:=Int.eq_ofNat_of_zero_le y2.1;obtain⟨x3,rfl⟩:=Int.eq_ofNat_of_zero_le y3.1;obtain⟨x4,rfl⟩:=Int.eq_ofNat_of_zero_le y4.1;have hkey:keyE key=0:=by unfold keyE;rw[if_pos ⟨g3,g4,g5⟩]
 have bk:=jr (n:=k) (by omega) (by omega);have br:=jr (n:=r) (by omega) (by omega);have acX:=MB (s:=key) (by omega);generalize hbs:dK _++rest=bs;generalize hlen:(dK _).length=len;obtain⟨T,hT⟩:∃T,T=(if cu k then byteOf l::UInt8.ofNat v.size::(v.data.toList++rest)else rest):=⟨_,rfl⟩;have d0:bs.drop 0=byteOf k::byteOf r::(ak n++(ak x1++(ak x2++(ak x3++(ak x4++(ak hh++(UInt8.ofNat key.size::(key.data.toList++T)))))))):=by
  rw[<-hbs,hT];cases hl:cu k<;>simp[dK,ho,words,jF,hl]
 obtain⟨e1,d1⟩:=wG (lo:=1) (hi:=5) d0 (by omega) (by omega);obtain⟨e2,d2⟩:=wG (lo:=0) (hi:=4) d1 (by omega) (by omega);obtain⟨e3,d3⟩:=tC (lo:=1) (hi:=1048576) d2 (by omega) (by omega) (by omega);obtain⟨f1,d11⟩:=tC (lo:=0) (hi:=1048576) d3 (by omega) (by omega) (by omega);obtain⟨f2,d12⟩:=tC (lo:=0) (hi:=1048576) d11 (by omega) (by omega) (by omega);obtain⟨f3,d13⟩:=tC (lo:=0) (hi:=1048576) d12 (by omega) (by omega) (by omega);obtain⟨f4,d14⟩:=tC (lo:=0) (hi:=1048576) d13 (by omega) (by omega) (by omega);obtain⟨e5,d5⟩:=tC (lo:=1) (hi:=16777216) d14 (by omega) (by omega) (by omega);obtain⟨e6,d6⟩:=wG (lo:=1) (hi:=8) d5 (by omega) (by omega);obtain⟨e7,d7⟩:=Ik (may:=keyE) d6 g3 hkey;rw[bk]at e1;rw[br]at e2;rw[acX]at e6;cases hl:cu k with
 |true=>
  rw[hl,if_pos rfl]at hT;subst hT;obtain⟨x1,x2,x3,x4⟩:=g6 hl;have bl:=jr (n:=l) (by omega) (by omega);have bv:=MB (s:=v) (by omega);have hval:gI v=0:=by unfold gI;rw[if_pos ⟨x3,x4⟩]
  obtain⟨e8,d8⟩:=wG (lo:=0) (hi:=1) d7 (by omega) (by omega);obtain⟨e9,d9⟩:=wG (lo:=1) (hi:=12) d8 (by omega) (by omega);obtain⟨e10,d10⟩:=Ik (may:=gI) d9 x3 hval;rw[bl]at e8;rw[bv]at e9;rw[(Au ⟨r0,r4⟩ e1 e2 e3 f1 f2 f3 f4 e5 e6 e7).2 e8 e9 e10 hl];refine Prod.ext rfl (Prod.ext ?_ rfl);rw[<-hlen];simp[dK,ho,words,jF,hl];omega
 |false=>
  rw[hl,if_neg (by simp)]at hT;subst hT;obtain⟨x1,x2⟩:=g7 hl;have hv0:v=⟨#[]⟩:=size_nil x2;subst x1 hv0;rw[(Au (l:=0) (vs:=0) (v:=⟨#[]⟩) (s8:=(0,0)) (s9:=(0,0)) (s10:=(0,0)) ⟨r0,r4⟩ e1 e2 e3 f1 f2 f3 f4 e5 e6 e7).1 hl];refine Prod.ext rfl (Prod.ext ?_ rfl);rw[<-hlen];simp[dK,ho,words,jF,hl];omega
def yT:Ev:=⟨0,0,⟨0,0,0,0,0⟩,0,0,⟨#[]⟩,0,⟨#[]⟩⟩
def lg(bs:List UInt8):Ev×Nat×Int:=if(eP bs (0,0)).2.2≠0 then(yT,0,(eP bs (0,0)).2.2)else((eP bs (0,0)).1,(eP bs (0,0)).2.1,0)
def qZ(t:Ev×Nat×Int):AV:= .bJ [t.1.av,.v (.int .i64 (t.2.1:Int)),.v (.int .i64 t.2.2)]
theorem MC(h:eP bs (0,0)=(e,s))(h0:s.2=0):qZ (e,s.1,0)=qZ (lg bs):=by
 unfold lg;rw[h,if_neg (λ k=>k h0)]
theorem MF(h:eP bs (0,0)=(e,s))(h0:¬s.2=0):qZ (yT,0,s.2)=qZ (lg bs):=by
 unfold lg;rw[h,if_pos h0]
theorem aa2(_h0:0<=lo)(h1:0<=hi):0<=(dB bs lo hi s).1/\(dB bs lo hi s).1<=hi:=by
 unfold dB;split
 ·exact⟨Int.le_refl _,h1⟩
 ·split
  ·exact⟨Int.le_refl _,h1⟩
  ·split
   ·rename_i h;exact⟨by omega,h.2⟩
   ·exact⟨Int.le_refl _,h1⟩
theorem Aw(h:dA bs lo hi s=(c,s'))(hu:s.1<=bs.length):s'.1<=bs.length/\(0<=c/\c<=255):=by
 have h1:=Y1 (lo:=lo) (hi:=hi) hu;have h2:=aaX (bs:=bs) (lo:=lo) (hi:=hi) (s:=s);rw[h]at h1 h2;exact⟨h1,h2⟩
theorem xK(h:dB bs lo hi s=(c,s'))(hu:s.1<=bs.length)(h0:0<=lo)(h1:0<=hi):s'.1<=bs.length/\(0<=c/\c<=hi):=by
 have h3:=Y2 (lo:=lo) (hi:=hi) hu;have h2:=aa2 (bs:=bs) (lo:=lo) (hi:=hi) (s:=s) h0 h1;rw[h]at h3 h2;exact⟨h3,h2⟩
theorem WS{sz:Int}{c:ByteArray}(h:dY bs sz may s=(c,s'))(hu:s.1<=bs.length):s'.1<=bs.length:=by
 have h1:=Wy (sz:=sz) (may:=may) hu;rw[h]at h1;exact h1
theorem Tn(bs:List UInt8)(hl:bs.length<=1000000000):aC Tryz.prog 103 [.sl 1 bs.length true (aG bs)] (.bJ [(lg bs).1.av,.v (.int .i64 ((lg bs).2.1:Int)),.v (.int .i64 (lg bs).2.2)]) []:=by
 obtain⟨⟨k,s1⟩,e1⟩:∃p,dA bs 1 5 (0,0)=p:=⟨_,rfl⟩;obtain⟨q1,g1⟩:=Aw e1 (Nat.zero_le _);obtain⟨⟨R,s2⟩,e2⟩:∃p,dA bs 0 4 s1=p:=⟨_,rfl⟩;have hR0:=Fe (bs:=bs) (lo:=0) (hi:=4) (s:=s1);rw[e2]at hR0;obtain⟨q2,g2⟩:=Aw e2 q1;obtain⟨⟨N,s3⟩,e3⟩:∃p,dB bs 1 1048576 s2=p:=⟨_,rfl⟩;obtain⟨q3,g3⟩:=xK e3 q2 (by omega) (by omega);obtain⟨⟨x1,t1⟩,f1⟩:∃p,dB bs 0 1048576 s3=p:=⟨_,rfl⟩;obtain⟨p1,_⟩:=xK f1 q3 (by omega) (by omega);obtain⟨⟨x2,t2⟩,f2⟩:∃p,dB bs 0 1048576 t1=p:=⟨_,rfl⟩;obtain⟨p2,_⟩:=xK f2 p1 (by omega) (by omega);obtain⟨⟨x3,t3⟩,f3⟩:∃p,dB bs 0 1048576 t2=p:=⟨_,rfl⟩;obtain⟨p3,_⟩:=xK f3 p2 (by omega) (by omega);obtain⟨⟨x4,t4⟩,f4⟩:∃p,dB bs 0 1048576 t3=p:=⟨_,rfl⟩;obtain⟨p4,_⟩:=xK f4 p3 (by omega) (by omega);obtain⟨⟨H,s5⟩,e5⟩:∃p,dB bs 1 16777216 t4=p:=⟨_,rfl⟩;obtain⟨q5,g5⟩:=xK e5 p4 (by omega) (by omega);obtain⟨⟨ks,s6⟩,e6⟩:∃p,dA bs 1 8 s5=p:=⟨_,rfl⟩;obtain⟨q6,g6⟩:=Aw e6 q5;obtain⟨⟨key,s7⟩,e7⟩:∃p,dY bs ks keyE s6=p:=⟨_,rfl⟩;have q7:=WS e7 q6;obtain⟨⟨l,s8⟩,e8⟩:∃p,dA bs 0 1 s7=p:=⟨_,rfl⟩;obtain⟨q8,g8⟩:=Aw e8 q7;obtain⟨⟨vs,s9⟩,e9⟩:∃p,dA bs 1 12 s8=p:=⟨_,rfl⟩;obtain⟨q9,g9⟩:=Aw e9 q8;obtain⟨⟨v,s10⟩,e10⟩:∃p,dY bs vs gI s9=p:=⟨_,rfl⟩;have hR:0<=R/\R<=4:=by simp only at hR0;omega
 have hF:=Au (l:=l) (vs:=vs) (v:=v) (s8:=s8) (s9:=s9) (s10:=s10) hR e1 e2 e3 f1 f2 f3 f4 e5 e6 e7;have hS:=hF.1;have hL:=hF.2 e8 e9 e10;clear hF;rcases(show R=0\/R=1\/R=2\/R=3\/R=4 by omega)with rfl|rfl|rfl|rfl|rfl;all_goals
  refine K1.E 0x100ff Tryz.func103 ?_;repeat' ((conv=>whnf);first|refine K1.u ?_|refine K1.C 3 [(0,_),(1,_),(2,_)] (Ai bs _ _ _ _ _ e1 hl) rfl ?_|refine K1.C 3 [(0,_),(1,_),(2,_)] (Ai bs _ _ _ _ _ e2 hl) rfl ?_|refine K1.C 3 [(0,_),(1,_),(2,_)] (sW bs _ _ _ _ _ e3 (by assumption) hl (by omega) (by omega) (by omega)) rfl ?_ rfl rfl rfl|refine K1.C 3 [(0,_),(1,_),(2,_)] (sW bs _ _ _ _ _ f1 (by assumption) hl (by omega) (by omega) (by omega)) rfl ?_ rfl rfl rfl|refine K1.C 3 [(0,_),(1,_),(2,_)] (sW bs _ _ _ _ _ f2 (by assumption) hl (by omega) (by omega) (by omega)) rfl ?_ rfl rfl rfl|refine K1.C 3 [(0,_),(1,_),(2,_)] (sW bs _ _ _ _ _ f3 (by assumption) hl (by omega) (by omega) (by omega)) rfl ?_ rfl rfl rfl|refine K1.C 3 [(0,_),(1,_),(2,_)] (sW bs _ _ _ _ _ f4 (by assumption) hl (by omega) (by omega) (by omega)) rfl ?_ rfl rfl rfl|refine K1.C 3 [(0,_),(1,_),(2,_)] (sW bs _ _ _ _ _ e5 (by assumption) hl (by omega) (by omega) (by omega)) rfl ?_ rfl rfl rfl|refine K1.C 3 [(0,_),(1,_),(2,_)] (Ai bs _ _ _ _ _ e6 hl) rfl ?_|refine K1.C 3 [(0,_),(1,_),(2,_)] (WA bs _ _ _ _ e7 (by assumption) hl (by assumption)) rfl ?_ rfl rfl rfl|refine K1.C 3 [(0,_),(1,_),(2,_)] (Ai bs _ _ _ _ _ e8 hl) rfl ?_|refine K1.C 3 [(0,_),(1,_),(2,_)] (Ai bs _ _ _ _ _ e9 hl) rfl ?_|refine K1.C 3 [(0,_),(1,_),(2,_)] (WB bs _ _ _ _ e10 (by assumption) hl (by assumption)) rfl ?_ rfl rfl rfl|refine K1.P1 (CU _) ?_|refine aK.rounds 6 ?_|refine K1.I 0x4000004301c7 Tryz.func125 ?_|refine K1.o (id:=6) (nN [0,1] [(2,some []),(3,some []),(4,some [1])]) ?_|refine K1.o (id:=7) (nN [0,1] [(2,some [0]),(3,some [0,1]),(4,some [0,1])]) ?_|refine K1.z ?_|refine K1.y (λ _=>?_) (λ _=>?_)|fail)
  all_goals refine aO.dW ?_
  all_goals(conv=>whnf)
  all_goals refine aW.mk (bI.of ?_)
  all_goals first|exact MC (hL ‹_›) ‹_› |exact MF (hL ‹_›) ‹_› |exact MC (hS ‹_›) ‹_› |exact MF (hS ‹_›) ‹_›
end Go.Proofs.YtopfgjgdadnjeaaGreat
